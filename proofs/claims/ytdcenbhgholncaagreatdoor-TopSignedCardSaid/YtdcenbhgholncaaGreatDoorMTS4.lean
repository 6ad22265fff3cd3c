/-
  MANY TEXTS OF MINE IN ONE (a claim has a limit of files): Zld, Lk, Zdq, Lv, Zdr, Zds, Jn, Ls, Ld, Lw, LSem, Jnl, DFoot, DFs, DRec, DBuf, DXc, DXl, DlW1, DlW2, DlW3, DlW4, DlW5, DLv, DAr, SgW5, Zsem, DlW7, DlW8, DlW9, DlW10, DSort, DlW12, Tg, Tw, Th, DClaim, DLaid, TgCon, NmW1, NmW2, NmW3, NmW4, NmW5, NmW6, RcW1, RcW3, RcW4, RcW5, RcW6, JdW1, ZoW1, ZoW2, ZoW3, ZoW4, ZoW5, ReW1, ReW2, ReW3, DlW6, DeW1, DeW2, LkW1, LkW2. Conditions: none.
-/
import Derived.Shelf.Strings.OnBuilder
import Derived.Shelf.Small.Strs
import Derived.RecoverIn
import Derived.Lib.ConvBytes
import Derived.Shelf.SlSortCmp.NoneTotal
import Derived.Carry
import Derived.RowKit
import Derived.ChangeSame
import Derived.OpenShut
import Derived.LaidMore
import Derived.Lay
import Derived.Test.YtdcenbhgholncaaGreatDoorMTS3
set_option linter.unusedVariables false
set_option linter.unusedSimpArgs false
set_option linter.unusedSectionVars false
set_option linter.defProp false
set_option linter.unnecessarySimpa false
namespace Go.Zon
open Go.DL Go.Str Go.Rec Go.Cmp
theorem QI{n:Nat}{p:Nat->Bool}:aB n p 0=false↔∃i,i<n/\p i=false:=by
 constructor
 .
  intro h
  apply Zv
  intro k;have:aB n p 0=true:=(dO _ _ _).2 λi _ hi=>by
   cases e:p i with
   | true=>rfl
   | false=>exact absurd ⟨i,hi,e⟩ k
  rw[this]at h
  cases h
 rintro⟨i,hi,h⟩
 cases e:aB n p 0 with
 | false=>rfl
 | true=>rw[(dO _ _ _).1 e i (Yk _) hi]at h;cases h
theorem ZdE{n:Nat}{p q:Nat->Bool}:aB n (λi=>p i&&q i) 0=(aB n p 0&&aB n q 0):=by
 rw[YN,XT,dO,dO,dO]
 simp only[XT]
 exact⟨λh=>⟨λi h1 h2=>(h i h1 h2).1,λi h1 h2=>(h i h1 h2).2⟩,λh i h1 h2=>⟨h.1 i h1 h2,h.2 i h1 h2⟩⟩
section
variable {z : Zon} (h : mo z)
include h
def wO{i j:Nat}(hij:i<=j)(hj:j<z.sets.length):dB z.sets[i]!.set.name z.sets[j]!.set.name<=0:=by
 by_cases e:i=j
 . subst e;rw[rC.self];exact Int.le_refl _
 exact(KM (vW h.ord (by omega:i<j) hj)).1
def FP{i j:Nat}(hij:i<j)(hj:j<z.sets.length)(e:z.sets[i]!.set.name=z.sets[j]!.set.name):z.sets[i]!.set.ty<z.sets[j]!.set.ty :=
 (KM (vW h.ord hij hj)).2 e
def V9{i k j:Nat}(hik:i<=k)(hkj:k<=j)(hj:j<z.sets.length)(e:z.sets[i]!.set.name=z.sets[j]!.set.name):z.sets[k]!.set.name=z.sets[j]!.set.name:=by
 have h1:=wO h hik (by omega)
 have h2:=wO h hkj hj
 rw[e]at h1
 have:=rC.anti z.sets[k]!.set.name z.sets[j]!.set.name
 exact Ab om
def F9{i:Nat}(hi:i<z.sets.length):z.sets[i]!.set.name≠[]:=by
 intro e
 have:=h.nms _ (fE hi)
 rw[e,Ga]at this
 cases this
def Rv{i:Nat}(hi:i<z.sets.length):1<=z.sets[i]!.set.ty/\z.sets[i]!.set.ty<=8:=iy.1 (h.ok _ (fE hi)).ty
def I1(l:List Sgd):Prop:=∃i,i+1<l.length/\l[i]!.set.name=l[i+1]!.set.name/\(l[i+1]!.set.ty=3\/(l[i]!.set.ty=3/\l[i+1]!.set.ty≠8))
omit h in
theorem QJ(l:List Sgd):∀k,fM l k≠[] -> ∃j,j<k/\l[j]!.set.ty=3/\l[j]!.set.name=fM l k
 | 0,hk=>absurd rfl hk
 | k+1,hk=>by
  unfold fM at hk ⊢
  split at hk
  . rename_i e;exact⟨k,om,e,by rw[X0 e]⟩
  rename_i e
  obtain⟨j,h1,h2,h3⟩:=QJ l k hk;exact⟨j,om,h2,by rw[XW e,h3]⟩
omit h in
def ZdH:kG (aN z)=false↔I1 z.sets:=by
 unfold kG
 rw[QI]
 show(∃i,i<z.sets.length/\gK z.sets i=false)↔_
 unfold gK I1
 constructor
 .
  rintro⟨i,hi,k⟩;simp only[Yb,YC,Ym,X7,XV,X4,Yy,XT,X7,ZF,ne_eq]at k;obtain⟨k1,k2|⟨k2,k3⟩⟩:=k
  . exact⟨i-1,om,by rw[show i-1+1=i by omega];exact k2.2,.inl (by rw[show i-1+1=i by omega];exact k1)⟩
  exact⟨i,om,k2.2.symm,.inr ⟨k1,k3⟩⟩
 rintro⟨i,hi,k1,k2⟩
 rcases k2 with k2|⟨k2,k3⟩
 .
  refine⟨i+1,hi,?_⟩;have hb:(z.sets[i]!.set.name==z.sets[i+1]!.set.name)=true:=Yy.2 k1;rw[YQ k2,Nat.add_sub_cancel,hb,YQ (show 0<i+1 by omega)]
  rfl
 refine⟨i,om,?_⟩
 have hb:(z.sets[i+1]!.set.name==z.sets[i]!.set.name)=true:=Yy.2 k1.symm
 rw[YQ k2,YQ hi,hb,Y3 k3]
 simp
def RD:lu z=false↔I1 z.sets:=by
 unfold lu
 rw[QI]
 have hp : ∀i,jb z.sets i≠[]↔(0<i/\z.sets[i-1]!.set.name=z.sets[i]!.set.name/\z.sets[i]!.set.name≠[]):=by
  intro i;unfold jb;split
  . rename_i q;exact⟨λk=>⟨q.1,q.2,k⟩,λk=>k.2.2⟩
  rename_i q;exact⟨λk=>absurd rfl k,λk=>absurd ⟨k.1,k.2.1⟩ q⟩
 have hpe : ∀i,0<i->z.sets[i-1]!.set.name=z.sets[i]!.set.name->jb z.sets i=z.sets[i]!.set.name:=λi h1 h2=>X0 ⟨h1,h2⟩
 have key : ∀i,gN z.sets i=false↔(jb z.sets i≠[]/\(z.sets[i]!.set.ty=3\/(jb z.sets i=fM z.sets (i+1)/\z.sets[i]!.set.ty≠3/\z.sets[i]!.set.ty≠8))):=by
  intro i;unfold gN
  by_cases a1:jb z.sets i=[]<;>by_cases a2:z.sets[i]!.set.ty=3<;>by_cases a3:jb z.sets i=fM z.sets (i+1)<;>by_cases a4:z.sets[i]!.set.ty=8<;>simp_all
 constructor
 .
  rintro⟨i,hi,k⟩;rw[key]at k;obtain⟨k1,k2⟩:=k;obtain⟨k0,k3,k4⟩:=(hp i).1 k1
  rcases k2 with k2|⟨k5,k6,k7⟩
  . exact⟨i-1,om,by rw[show i-1+1=i by omega];exact k3,.inl (by rw[show i-1+1=i by omega];exact k2)⟩
  rw[hpe i k0 k3]at k5;obtain⟨j,j1,j2,j3⟩:=QJ z.sets (i+1) (by rw[<-k5];exact k4)
  rw[<-k5]at j3;have hji:j<i:=by
   rcases Zo j i with e|e
   . exact e
   have:j=i:=by omega
   subst this;exact absurd j2 k6
  have hm:=V9 h (i:=j) (k:=j+1) (j:=i) (by omega) (by omega) hi j3
  refine⟨j,om,by rw[hm,j3],.inr ⟨j2,?_⟩⟩
  have:=Rv h hi
  by_cases e:j+1=i
  . rw[e];exact k7
  have:=FP h (i:=j+1) (j:=i) om hi hm;omega
 rintro⟨i,hi,k1,k2⟩
 refine⟨i+1,hi,(key _).2 ⟨(hp _).2 ⟨om,k1,F9 h hi⟩,?_⟩⟩
 rcases k2 with k2|⟨k2,k3⟩
 . exact .inl k2
 have ht:=FP h (i:=i) (j:=i+1) (by omega) hi k1
 by_cases e:z.sets[i+1]!.set.ty=3
 . exact .inl e
 refine .inr ⟨?_,e,k3⟩
 rw[hpe (i+1) (by omega) k1]
 show _=(if z.sets[i+1]!.set.ty=3 then _ else fM z.sets (i+1))
 rw[XW e]
 show _=(if z.sets[i]!.set.ty=3 then z.sets[i]!.set.name else _)
 rw[X0 k2,k1]
theorem ZdG:kG (aN z)=lu z:=by
 have h1:=ZdH (z:=z)
 have h2:=RD h
 cases e1:kG (aN z)<;>cases e2:lu z
 . rfl
 . rw[e1]at h1;rw[e2]at h2;have:=h2.2 (h1.1 rfl);cases this
 . rw[e1]at h1;rw[e2]at h2;have:=h1.2 (h2.1 rfl);cases this
 rfl
end
def Top(C:Str->Prop)(n c:Str):Prop:=C c/\bF n c /\ ∀c',C c'->bF c c'->c'=c
def xS(C:Str->Prop)(n b:Str):Prop:=(b=[] /\ ∀c,C c -> ¬bF n c)\/(b≠[]/\Top C n b)
def EM{C:Str->Prop}{n c c':Str}(h:Top C n c)(h1:C c')(h2:bF n c'):bF c' c:=by
 rcases Rq h.2.1 h2 with k|k
 . rw[h.2.2 c' h1 k];exact zF _
 exact k
def Qw{C:Str->Prop}{n b b':Str}(h:xS C n b)(h':xS C n b'):b=b':=by
 rcases h with⟨h1,h2⟩|⟨h1,h2⟩<;>rcases h' with⟨k1,k2⟩|⟨k1,k2⟩
 . rw[h1,k1]
 . exact absurd k2.2.1 (h2 _ k2.1)
 . exact absurd h2.2.1 (k2 _ h2.1)
 exact BI (EM k2 h2.1 h2.2.1) (EM h2 k2.1 k2.2.1)
def iC(z:Zon)(c:Str):Prop:=∃i,i<z.sets.length/\z.sets[i]!.set.ty=2/\z.sets[i]!.set.name≠z.apex/\z.sets[i]!.set.name=c
theorem WR{m:List Str}{a b:Str}:je (tset m a) b=true↔b=a\/je m b=true:=by
 unfold tset
 split
 .
  rename_i h
  constructor
  . exact λk=>.inr k
  rintro (k|k)
  . rw[k];exact h
  exact k
 unfold je
 simp only[XV,Yu,Yv,ZZ,or_false]
 exact⟨λk=>k.symm,λk=>k.symm⟩
theorem PO(z:Zon)(c:Str):∀k,je (bM z k) c=true↔∃i,i<k/\z.sets[i]!.set.ty=2/\z.sets[i]!.set.name≠z.apex/\z.sets[i]!.set.name=c
 | 0=>by simp[bM,je]
 | k+1=>by
  have ih:=PO z c k
  by_cases e:z.sets[k]!.set.ty=2 /\ ¬z.sets[k]!.set.name=z.apex
  .
   rw[Ie e,WR,ih]
   constructor
   .
    rintro (k1|⟨i,k1,k2⟩)
    . exact⟨k,om,e.1,e.2,k1.symm⟩
    exact⟨i,om,k2⟩
   rintro⟨i,k1,k2⟩
   by_cases e2:i=k
   . subst e2;exact .inl k2.2.2.symm
   exact .inr ⟨i,om,k2⟩
  rw[Ig e,ih]
  constructor
  . rintro⟨i,k1,k2⟩;exact⟨i,om,k2⟩
  rintro⟨i,k1,k2⟩
  by_cases e2:i=k
  . subst e2;exact absurd ⟨k2.1,k2.2.1⟩ e
  exact⟨i,om,k2⟩
def Il{z:Zon}{c:Str}:je (bM z z.sets.length) c=true↔iC z c:=PO z c _
theorem D9(z:Zon)(c:Str):∀k,c∈jQ z k↔∃i,i<k/\z.sets[i]!.set.ty=2/\z.sets[i]!.set.name≠z.apex/\z.sets[i]!.set.name=c
 | 0=>by simp[jQ]
 | k+1=>by
  have ih:=D9 z c k;unfold jQ
  by_cases e:z.sets[k]!.set.ty=2/\z.sets[k]!.set.name≠z.apex
  .
   rw[X0 e,Yu,ih]
   constructor
   .
    rintro (⟨i,k1,k2⟩|k1)
    . exact⟨i,om,k2⟩
    exact⟨k,om,e.1,e.2,by simpa using(Yi.1 k1).symm⟩
   rintro⟨i,k1,k2⟩
   by_cases e2:i=k
   . subst e2;exact .inr (Yi.2 k2.2.2.symm)
   exact .inl ⟨i,om,k2⟩
  rw[XW e,ih]
  constructor
  . rintro⟨i,k1,k2⟩;exact⟨i,om,k2⟩
  rintro⟨i,k1,k2⟩
  by_cases e2:i=k
  . subst e2;exact absurd ⟨k2.1,k2.2.1⟩ e
  exact⟨i,om,k2⟩
section
variable {z : Zon} (h : mo z)
include h
def Ik{c:Str}(hc:iC z c):ai c=true/\c≠[]:=by
 obtain⟨i,hi,_,_,rfl⟩:=hc
 exact⟨h.nms _ (fE hi),F9 h hi⟩
theorem Qx : ∀k,k<=z.sets.length->(k=0\/xS (iC z) z.sets[k-1]!.set.name (bI (bM z z.sets.length) z.sets k).2)
 | 0,_=>.inl rfl
 | k+1,hk=>by
  have hk':k<z.sets.length:=by omega
  have hn:=h.nms _ (fE hk');have hne:=F9 h hk'
  right
  show xS (iC z) z.sets[k]!.set.name (stepC (bM z z.sets.length) (bI (bM z z.sets.length) z.sets k).2 z.sets[k]!.set.name)
  have ih:=Qx k (by omega)
  generalize hcut:(bI (bM z z.sets.length) z.sets k).2=cut at ih;generalize hN:z.sets[k]!.set.name=n at *;have A : ∀c',iC z c'->bF n c'->c'≠n->cut≠[]/\Top (iC z) n cut:=by
   intro c' hc hu hne';obtain⟨i,hi,hi2,hi3,hi4⟩:=hc;have hik:i<k:=by
    rcases Zo i k with e|e
    . exact e
    have h1:=wO h e hi;rw[hN,hi4]at h1;have h2:=EK hu;have:=rC.anti n c';exact absurd (Ab (by omega:dB c' n=0)) hne'
   have h1:bF z.sets[k-1]!.set.name c':=by
    refine EJ hu ?_ ?_
    . rw[<-hi4];exact wO h (by omega) (by omega)
    rw[<-hN];exact wO h (by omega) hk'
   rcases ih with e|⟨e,e2⟩|⟨e,e2⟩
   . omega
   . exact absurd h1 (e2 _ ⟨i,hi,hi2,hi3,hi4⟩)
   have h3:=EM e2 ⟨i,hi,hi2,hi3,hi4⟩ h1;exact⟨e,e2.1,BH hu h3,e2.2.2⟩
  have B:(∀c',iC z c'->bF n c'->c'=n)->xS (iC z) n (if je (bM z z.sets.length) n=true then n else[]):=by
   intro hall
   by_cases e:je (bM z z.sets.length) n=true
   . rw[X0 e];exact .inr ⟨hne,Il.1 e,zF _,hall⟩
   rw[XW e];exact .inl ⟨rfl,λc hc hu=>e (by rw[hall c hc hu]at hc;exact Il.2 hc)⟩
  unfold stepC;dsimp only
  by_cases e1:cut≠[]/\dX n cut=false
  .
   rw[X0 e1];have hCc:iC z cut:=by
    rcases ih with e|⟨e,_⟩|⟨_,e⟩
    . subst e;exact absurd (show cut=[]from hcut.symm) e1.1
    . exact absurd e e1.1
    exact e.1
   have hall : ∀c',iC z c'->bF n c'->c'=n:=by
    intro c' hc hu
    apply Zv
    intro hne';obtain⟨_,a2⟩:=A c' hc hu hne';have:=(BG hn (Ik h hCc).1).2 a2.2.1;rw[e1.2]at this;cases this
   have:=B hall
   by_cases e:je (bM z z.sets.length) n=true
   . rw[X0 ⟨rfl,e⟩];rw[X0 e]at this;exact this
   rw[XW (λq=>e q.2)];rw[XW e]at this;exact this
  rw[XW e1]
  by_cases e2:cut=[]
  .
   have hall : ∀c',iC z c'->bF n c'->c'=n:=by
    intro c' hc hu
    apply Zv
    intro hne';exact(A c' hc hu hne').1 e2
   have:=B hall
   by_cases e:je (bM z z.sets.length) n=true
   . rw[X0 ⟨e2,e⟩];rw[X0 e]at this;exact this
   rw[XW (λq=>e q.2),e2];rw[XW e]at this;exact this
  rw[XW (λq=>e2 q.1)]
  have hT:Top (iC z) z.sets[k-1]!.set.name cut:=by
   rcases ih with e|⟨e,_⟩|⟨_,e⟩
   . subst e;exact absurd (show cut=[]from hcut.symm) e2
   . exact absurd e e2
   exact e
  have hu:dX n cut=true:=by
   cases e:dX n cut with
   | true=>rfl
   | false=>exact absurd ⟨e2,e⟩ e1
  exact .inr ⟨e2,hT.1,(BG hn (Ik h hT.1).1).1 hu,hT.2.2⟩
omit h in
theorem IG(m:List Str)(l:List Sgd):∀n k,k<n->(bI m l n).1[k]! = (bI m l (k+1)).2:=by
 intro n
 induction n with
 | zero=>intro k h;omega
 | succ n ih =>
  intro k h;have hl:=vK m l n;have e1:(bI m l (n+1)).1=(bI m l n).1++[(bI m l (n+1)).2]:=rfl
  by_cases e:k=n
  . subst e;rw[e1];simp[hl]
  rw[<-ih k (by omega),e1,getElem!_pos _ _ (by simp[hl];omega),getElem!_pos _ _ (by omega),List.getElem_append_left]
def Eo{k:Nat}(hk:k<z.sets.length):xS (iC z) z.sets[k]!.set.name (eT z)[k]! := by
 unfold eT
 rw[IG _ _ _ _ hk]
 exact(Qx h (k+1) hk).resolve_left om
theorem PP : ∀k,k<=z.sets.length->uk dB (jQ z k)
 | 0,_=>.nil
 | k+1,hk=>by
  have ih:=PP k (by omega)
  unfold jQ
  split
  .
   rename_i e
   refine Zp.2 ⟨ih,Z7 _ _,λa ha b hb=>?_⟩
   rw[Yi]at hb;subst hb;obtain⟨i,hi,hi2,hi3,rfl⟩:=(D9 z a k).1 ha;have h1:=wO h (show i<=k by omega) (by omega)
   by_cases e2:dB z.sets[i]!.set.name z.sets[k]!.set.name=0
   . have:=FP h hi om (Ab e2);omega
   omega
  exact ih
structure High(cs hs:List Str):Prop where
 sub : ∀x∈hs,x∈cs
 cov : ∀c∈cs,∃x∈hs,bF c x
 pair:hs.Pairwise λa b=>dB a b<0 /\ ¬bF b a
omit h in
def MJ{α:Type}[Inhabited α]{l:List α}(h:l≠[]):l[l.length-1]! ∈ l:=fE (by have:=Y6.2 h;omega)
omit h in
theorem BK!{α:Type}[Inhabited α]{l:List α}{k:Nat}(h:k<l.length):l.take (k+1)=l.take k++[l[k]!]:=by
 rw[ZI,X5 h,getElem!_pos l k h]
 rfl
omit h in
def V4{α:Type}[Inhabited α]{r:α->α->Prop}{l:List α}(h:l.Pairwise r){x:α}(hx:x∈l):x=l[l.length-1]! \/ r x l[l.length-1]! := by
 obtain⟨i,hi,rfl⟩:=nS.1 hx
 by_cases e:i=l.length-1
 . left;rw[<-e]
 right
 rw[getElem!_pos l i hi,getElem!_pos l _ (by omega)]
 exact YO.1 h i (l.length-1) hi om om
omit h in
theorem NA{cs:List Str}(hc:uk dB cs):∀k,k<=cs.length->High (cs.take k) (bT cs k)
 | 0,_=>⟨λx hx=>(by simp[bT]at hx),λc hc=>(by simp at hc),(by simp[bT])⟩
 | k+1,hk=>by
  have ih:=NA hc k (by omega)
  have hkl:k<cs.length:=by omega
  have ht:cs.take (k+1)=cs.take k++[cs[k]!]:=BK! hkl;have hlt : ∀x∈cs.take k,dB x cs[k]! < 0:=by
   intro x hx;obtain⟨i,hi,e⟩:=nS.1 hx;rw[Zu]at hi;have e2:(cs.take k)[i]! = cs[i]! := by
    rw[getElem!_pos _ _ (by rw[Zu];omega),getElem!_pos _ _ (by omega),List.getElem_take]
   rw[<-e,e2];exact vW hc om hkl
  unfold bT
  by_cases e:bT cs k=[]\/ji cs[k]! (bT cs k)[(bT cs k).length-1]! = false
  .
   rw[X0 e,ht];refine⟨λx hx=>?_,λc hc'=>?_,Zp.2 ⟨ih.pair,Z7 _ _,λa ha b hb=>?_⟩⟩
   .
    rcases Yu.1 hx with hx|hx
    . exact ZK _ (ih.sub x hx)
    exact List.mem_append_right _ hx
   .
    rcases Yu.1 hc' with hc'|hc'
    . obtain⟨x,hx,hu⟩:=ih.cov c hc';exact⟨x,ZK _ hx,hu⟩
    exact⟨c,List.mem_append_right _ hc',zF _⟩
   rw[Yi]at hb;subst hb;refine⟨hlt a (ih.sub a ha),λhu=>?_⟩
   have hne:bT cs k≠[]:=λq=>by rw[q]at ha;cases ha
   have hin:=e.resolve_left hne;have hnl : ¬bF cs[k]! (bT cs k)[(bT cs k).length-1]! := λq=>by rw[yL.2 q]at hin;cases hin
   rcases V4 ih.pair ha with q|q
   . rw[<-q]at hnl;exact hnl hu
   have hl:=hlt _ (ih.sub _ (MJ hne));exact q.2 (EJ hu om om)
  rw[XW e,ht];have hne:bT cs k≠[]:=λq=>e (.inl q)
  have hin:bF cs[k]! (bT cs k)[(bT cs k).length-1]! := by
   apply yL.1
   cases q:ji cs[k]! (bT cs k)[(bT cs k).length-1]! with
   | true=>rfl
   | false=>exact absurd (.inr q) e
  refine⟨λx hx=>ZK _ (ih.sub x hx),λc hc'=>?_,ih.pair⟩
  rcases Yu.1 hc' with hc'|hc'
  . exact ih.cov c hc'
  rw[Yi]at hc';subst hc';exact⟨_,MJ hne,hin⟩
def Zav:(∀x∈bz z,iC z x)/\(∀c,iC z c -> ∃x∈bz z,bF c x)/\(bz z).Pairwise λa b=>dB a b<0 /\ ¬bF b a:=by
 have hh:=NA (PP h z.sets.length (X3 _)) _ (X3 _)
 rw[Zw]at hh
 exact⟨λx hx=>(D9 z x _).1 (hh.sub x hx),λc hc=>hh.cov c ((D9 z c _).2 hc),hh.pair⟩
omit h in
theorem ZdI(hs:List Str)(n:Str):∀m i,hs.length-i<=m->i<=hs.length->(∀k,k<i->dB hs[k]! n<=0)->(∀k,k<mi hs n i->dB hs[k]! n<=0)/\(mi hs n i<hs.length -> ¬dB hs[mi hs n i]! n<=0):=by
 intro m
 induction m with
 | zero=>intro i h1 h2 h3;rw[vM,XW (by omega)];exact⟨h3,λh=>by omega⟩
 | succ m ih =>
  intro i h1 h2 h3;rw[vM]
  by_cases e:i<hs.length
  .
   rw[X0 e]
   by_cases e2:dB hs[i]! n<=0
   .
    rw[X0 e2];refine ih (i+1) om om λk hk=>?_
    by_cases e3:k=i
    . subst e3;exact e2
    exact h3 k om
   rw[XW e2];exact⟨h3,λ_=>e2⟩
  rw[XW e];exact⟨h3,λh=>absurd h e⟩
theorem QK(hs:List Str):∀k,k<=z.sets.length->fG hs z.sets k<=hs.length/\(0<k->(∀i,i<fG hs z.sets k->dB hs[i]! z.sets[k-1]!.set.name<=0)/\(fG hs z.sets k<hs.length -> ¬dB hs[fG hs z.sets k]! z.sets[k-1]!.set.name<=0))
 | 0,_=>⟨Yk _,λh=>by omega⟩
 | k+1,hk=>by
  obtain⟨h1,h2⟩:=QK hs k om;have h3 : ∀i,i<fG hs z.sets k->dB hs[i]! z.sets[k]!.set.name<=0:=by
   intro i hi
   by_cases e:k=0
   . subst e;exact absurd hi (Nat.not_lt_zero _)
   exact rC.tr _ _ _ ((h2 om).1 i hi) (wO h om om)
  exact⟨(ZdJ hs _ _ _ (X3 _) h1).2,λ_=>ZdI hs z.sets[k]!.set.name _ _ (X3 _) h1 h3⟩
omit h in
theorem Zdh(hs:List Str)(l:List Sgd):∀n k,k<n->(kE hs l n)[k]! = fK hs l[k]!.set.name (fG hs l (k+1)):=by
 intro n
 induction n with
 | zero=>intro k h;omega
 | succ n ih =>
  intro k h;have hl:=ug hs l n;have e1:kE hs l (n+1)=kE hs l n++[fK hs l[n]!.set.name (fG hs l (n+1))]:=rfl
  by_cases e:k=n
  . subst e;rw[e1];simp[hl]
  rw[<-ih k (by omega),e1,getElem!_pos (kE hs l n++_) k (by simp[hl];omega),getElem!_pos (kE hs l n) k (by omega),List.getElem_append_left]
def Zdg{k:Nat}(hk:k<z.sets.length):xS (iC z) z.sets[k]!.set.name (ed z)[k]! := by
 unfold ed
 rw[Zdh _ _ _ _ hk]
 obtain⟨g1,g2,g3⟩:=Zav h
 obtain⟨a1,a2⟩:=QK h (bz z) (k+1) hk
 obtain⟨a3,a4⟩:=a2 om
 rw[show k+1-1=k from rfl]at a3 a4
 generalize fG (bz z) z.sets (k+1)=j at *
 generalize z.sets[k]!.set.name=n at *
 have pr : ∀i i',i<i'->i'<(bz z).length->dB (bz z)[i]! (bz z)[i']! < 0 /\ ¬bF (bz z)[i']! (bz z)[i]! := by
  intro i i' h1 h2;rw[getElem!_pos _ i (by omega),getElem!_pos _ i' h2]
  exact YO.1 g3 i i' om h2 h1
 unfold fK
 by_cases e:0<j/\ji n (bz z)[j-1]! = true
 .
  rw[X0 e];have hm:(bz z)[j-1]! ∈ bz z:=fE om;refine .inr ⟨(Ik h (g1 _ hm)).2,g1 _ hm,yL.1 e.2,λc' hc' hu=>?_⟩
  obtain⟨x,hx,hxu⟩:=g2 c' hc';have eQ:bF (bz z)[j-1]! x:=BH hu hxu;obtain⟨i,hi,rfl⟩:=nS.1 hx;have hij:i=j-1:=by
   rcases Nat.lt_trichotomy i (j-1)with q|q|q
   . exact absurd eQ (pr i (j-1) q om).2
   . exact q
   have:=(pr (j-1) i q hi).1;have:=EK eQ;have:=rC.anti (bz z)[j-1]! (bz z)[i]!;omega
  rw[hij]at hxu;exact BI hxu hu
 rw[XW e]
 refine .inl ⟨rfl,λc hc hu=>?_⟩
 obtain⟨x,hx,hxu⟩:=g2 c hc
 have hnx:bF n x:=BH hu hxu
 obtain⟨i,hi,rfl⟩:=nS.1 hx
 have hle:=EK hnx
 have hij:i<j:=by
  rcases Zo i j with q|q
  . exact q
  exfalso
  have h5:=a4 (by omega)
  by_cases q2:i=j
  . subst q2;exact h5 hle
  have h6:=(pr j i (by omega) hi).1
  exact h5 (rC.tr _ _ _ om hle)
 by_cases q:i=j-1
 . exact e ⟨om,by rw[<-q];exact yL.2 hnx⟩
 have h6:=pr i (j-1) (by omega) (by omega)
 exact h6.2 (EJ hnx om (a3 (j-1) om))
theorem Qy:eT z=ed z:=by
 have l1:(eT z).length=z.sets.length:=vK _ _ _
 have l2:(ed z).length=z.sets.length:=ug _ _ _
 exact Gi! om λi hi=>Qw (Eo h om) (Zdg h om)
theorem ZaU:(tF (aN z)&&vB (aN z))=qW z:=by
 unfold qW tJ tF vB aN
 rw[ZdE,Qy h,Bool.and_comm]
theorem Zci:iB (aN z)=pY z:=by
 unfold pY aN
 rw[Qy h]
end
theorem QT(z:Zon):aJ z=nE z:=by
 unfold aJ nE
 by_cases e:ordered z=true
 . have h:=yt.1 e;rw[<-Lt,Zdr h,ZdG h,Zci h,<-ZaU h];simp only[Zq]
 rw[<-Lt]
 have:ordered z=false:=by simpa using e
 rw[this]
 simp
def Ez{z:Zon}(h:aJ z=true):mo z:=by
 unfold aJ at h
 simp only[XT]at h
 exact yt.1 h.1.1.1.1.1
end Go.Zon
namespace Go.Zon
open Go.DL Go.Str Go.Rec Go.Cmp
def fD(s:Str):Str:=if 46∈s then s.drop (s.idxOf 46+1)else[46]
theorem M8{s:Str}:Go.Lib.indexByte s 46=if 46∈s then(s.idxOf 46:Int)else -1:=by
 induction s with
 | nil=>rfl
 | cons c r ih =>
  unfold Go.Lib.indexByte;rw[ih]
  by_cases e:c=46
  . subst e;simp
  have e2:(c==46)=false:=YY.2 e;rw[List.idxOf_cons,e2]
  by_cases h:(46:UInt8)∈r
  .
   have h0 : ¬((r.idxOf 46:Int) = -1):=by omega
   simp[h,h0]
  simp[h,Ne.symm e]
def ixF(s:Str)(c:Int):Int:=Go.Lib.indexByte s c.toNat.toUInt8
theorem M9{s:Str}(h:(46:UInt8)∈s):ixF s 46=(s.idxOf 46:Int):=M8.trans (X0 h)
theorem Na{s:Str}(h : ¬(46:UInt8)∈s):ixF s 46 = -1:=M8.trans (XW h)
def kS(s:Str):Str:=if ai s && !(s==[46])then fD s else[]
theorem Zak{s:Str}(h:(46:UInt8)∈s):s=s.take (s.idxOf 46)++46::s.drop (s.idxOf 46+1) /\ ∀x∈s.take (s.idxOf 46),x≠46:=by
 induction s with
 | nil=>simp at h
 | cons c r ih =>
  by_cases e:c=46
  . subst e;simp
  have h2:(46:UInt8)∈r:=by rcases Yv.1 h with h|h;exact absurd h.symm e;exact h
  obtain⟨h3,h4⟩:=ih h2;rw[show(c::r).idxOf 46=(r.idxOf 46).succ by rw[List.idxOf_cons,show(c==46)=false from YY.2 e];rfl]
  constructor
  . simp only[Nat.succ_eq_add_one,YD,Yw,XX,Yt,true_and];exact h3
  intro x hx;simp only[Nat.succ_eq_add_one,YD,Yv]at hx
  rcases hx with rfl|hx
  . exact e
  exact h4 x hx
def Su{s:Str}(h:(46:UInt8)∈s):split s=s.take (s.idxOf 46)::split (s.drop (s.idxOf 46+1)):=by
 obtain⟨h1,h2⟩:=Zak h
 conv=>lhs;rw[h1]
 rw[BQ,zI _ h2];rfl
def Mi{s:Str}(h:ai s=true)(hr:s≠[46]):s.length<=60/\(split s).length<=8 /\ ∀i,i<(split s).length->fC (split s) i=true:=by
 unfold ai at h
 rw[XW hr]at h
 split at h
 . cases h
 rw[uB,XT]at h
 exact⟨om,by simpa using h.2,λi hi=>(dO _ _ _).1 h.1 i (Yk _) hi⟩
theorem nL{s:Str}(h:ai s=true)(hr:s≠[46]):ai (fD s)=true/\bq (fD s)=(bq s).dropLast:=by
 unfold fD
 have rl : ∀t:Str,t≠[46]->bq t=(split t).reverse:=λt ht=>by unfold bq;rw[XW ht,pg]
 obtain⟨h1,h2,h3⟩:=Mi h hr
 by_cases h46:(46:UInt8)∈s
 .
  rw[X0 h46];have hs:=Su h46;have hne:s.drop (s.idxOf 46+1)≠[46]:=λe=>by
   rw[e]at hs;have:=h3 1 (by rw[hs];show 1<3;omega)
   rw[hs]at this;have e2:split [46]=[[],[]]:=by decide
   rw[e2]at this;have h9:dI []=true:=by simpa[fC]using this
   rw[Gp]at h9;cases h9
  constructor
  .
   unfold ai;rw[XW hne,XW (by simp;omega),uB,XT]
   rw[hs]at h2 h3;refine⟨(dO _ _ _).2 λi _ hi=>?_,by simp at h2 ⊢;omega⟩
   have:=h3 (i+1) (by simpa using hi)
   have e9:dI (split (s.drop (s.idxOf 46+1)))[i]! = true:=by simpa[fC]using this
   unfold fC;rw[e9];rfl
  rw[rl s hr,rl _ hne,hs,List.reverse_cons,List.dropLast_concat]
 rw[XW h46]
 refine⟨by decide,?_⟩
 rw[rl s hr,zI s (λx hx e=>h46 (e▸hx))]
 rfl
def vT{s a:Str}(h:ai s=true)(hu:bF s a)(hne:s≠a):s≠[46]/\bF (fD s) a:=by
 have hr:s≠[46]:=λe=>by
  subst e;obtain⟨t,ht⟩:=hu;have e2:bq [46]=[]:=by decide
  rw[e2]at ht;have:bq a=[]:=(List.append_eq_nil_iff.1 ht).1;exact hne (ww (by rw[e2,this]))
 refine⟨hr,?_⟩
 show bq a <+: bq (fD s)
 rw[(nL h hr).2]
 obtain⟨t,ht⟩:=hu
 have htn:t≠[]:=λe=>hne (ww (by rw[e,Zg]at ht;exact ht.symm))
 rw[<-ht,List.dropLast_append_of_ne_nil htn]
 exact⟨_,rfl⟩
def mV(z:Zon):Nat->Str->Str×Bool
 | 0,_=>([],false)
 | f+1,n=>if n=z.apex then([],false)else if dN z.sets ⟨n,2⟩then(n,true)else mV z f (fD n)
def bO(z:Zon)(s:Str):Str×Bool:=mV z ((bq s).length+1) s
def fF(z:Zon)(s:Str):Str×Bool×Int:=if ai s&&aJ z then(if under s z.apex then((bO z s).1,(bO z s).2,0)else([],false,20))else([],false,1)
theorem Zcn{z:Zon}{n:Str}(h:n=z.apex):∀f,mV z f n=([],false)
 | 0=>rfl
 | f+1=>by rw[mV,X0 h]
def PT{z:Zon}{n:Str}(hn:ai n=true)(hu:bF n z.apex)(hne:n≠z.apex)(hf:dN z.sets ⟨n,2⟩=false) :
  bO z n=bO z (fD n)/\(bq (fD n)).length<(bq n).length:=by
 obtain⟨hr,_⟩:=vT hn hu hne
 have e:=(nL hn hr).2
 have hl:(bq (fD n)).length+1=(bq n).length:=by
  rw[e,List.length_dropLast];have:bq n≠[]:=λe2=>hr (ww (by rw[e2];decide))
  have:=Y6.2 this;omega
 refine⟨?_,om⟩
 unfold bO
 rw[show(bq n).length+1=((bq (fD n)).length+1)+1 by omega,mV,XW hne,XW (by rw[hf];simp)]
theorem PV{z:Zon}{n:Str}(hne:n≠z.apex)(hf:dN z.sets ⟨n,2⟩=true):bO z n=(n,true):=by
 unfold bO
 rw[mV,XW hne,X0 hf]
theorem Zcj{z:Zon}{n:Str}(h:n=z.apex):bO z n=([],false):=Zcn h _
@[go_sem]theorem CR{z:Zon}:(aN z).z=z:=rfl
def dH(x:Lay):Nat->List Str
 | 0=>[]
 | k+1=>if !(x.b[k]! == []) && !(x.b[k]! == x.z.sets[k]!.set.name)then dH x k
   else if(dH x k).length=0\/(dH x k)[(dH x k).length-1]! ≠ x.z.sets[k]!.set.name then dH x k++[x.z.sets[k]!.set.name]else dH x k
@[go_sem]theorem nmTo_0{x:Lay}:dH x 0=[]:=rfl
def wX(x:Lay)(k:Nat):Prop:=x.b[k]! = []\/x.b[k]! = x.z.sets[k]!.set.name
def WB{x:Lay}{k:Nat}(h : ¬wX x k):dH x (k+1)=dH x k:=by
 unfold wX at h
 rw[dH,X0 (by simp only[XT,X7,YY];exact⟨λe=>h (.inl e),λe=>h (.inr e)⟩)]
def L8{x:Lay}{k:Nat}(h:wX x k)(h2:(dH x k).length=0\/(dH x k)[(dH x k).length-1]! ≠ x.z.sets[k]!.set.name):dH x (k+1)=dH x k++[x.z.sets[k]!.set.name]:=by
 unfold wX at h
 rw[dH,XW (by simp only[XT,X7,YY];rintro⟨a,b⟩;exact h.elim a b),X0 h2]
def L6{x:Lay}{k:Nat}(h2 : ¬((dH x k).length=0\/(dH x k)[(dH x k).length-1]! ≠ x.z.sets[k]!.set.name)):dH x (k+1)=dH x k:=by
 rw[dH]
 split
 . rfl
 first|rfl|rw[XW h2]
def bf(z:Zon):List Str:=dH (aN z) z.sets.length
theorem F5(x:Lay):∀k,(dH x k).length<=k
 | 0=>X3 _
 | k+1=>by
  have:=F5 x k;unfold dH
  split
  . omega
  split
  . simp;omega
  omega
abbrev PM:=List (Qst×Sgd)
def KW:PM->Qst->Option Sgd
 | p::m,q=>if p.1=q then some p.2 else KW m q
 | [],_=>none
def PM.of:List D->PM
 | .agg k :: .agg v::l=>(Qst.of k,Sgd.of v)::PM.of l
 | _=>[]
abbrev PZ:=List (Qst×Option Sgd)
def I4:PZ->Qst->Option Sgd->PZ
 | p::m,q,s=>if p.1=q then(q,s)::m else p::I4 m q s
 | [],q,s=>[(q,s)]
def sgdZ:Sgd:=⟨⟨[],0,0,[]⟩,[]⟩
def zp(m:PZ):PM:=m.map λp=>(p.1,p.2.getD sgdZ)
def mapZ(l:List Sgd):PZ:=(mapF l).map λs=>(s.q,some s)
def GX(m:PZ)(l:List Qst):Nat->PZ
 | 0=>m
 | k+1=>I4 (GX m l k) l[k]! none
@[go_sem]theorem goesZ_0{m:PZ}{l:List Qst}:GX m l 0=m:=rfl
def goesF(put:List Sgd)(drop:List Qst):PM:=zp (GX (mapZ put) drop drop.length)
def newB(m:PM)(q:Qst):Bool:=!(KW m q).isSome
def goS(m:PM)(s:Sgd):Option Sgd:=if newB m s.q=true then some s else none
attribute [go_sem] List.filterMap_nil Option.map_some Option.map_none Option.getD_some Option.getD_none Option.isSome_some Option.isSome_none
structure dV where
 kind:Int
 sets:List Sgd
 cut:Str
 deriving Inhabited,DecidableEq
def dV.d(x:dV):List D:=[.i x.kind,.l (x.sets.map Sgd.d),.v (.string (bs x.cut))]
def dV.df(f:Bool)(x:dV):List D:=[.i x.kind,.list f (x.sets.map Sgd.d),.v (.string (bs x.cut))]
abbrev IM:=List (Qst×Int)
def lU(m:IM):List D:=m.flatMap λp=>[.agg p.1.d,.i p.2]
theorem xg(p:Qst×Int)(m:IM):lU (p::m) = .agg p.1.d :: .i p.2::lU m:=rfl
def lZ:IM->Qst->Option Int
 | p::m,q=>if p.1=q then some p.2 else lZ m q
 | [],_=>none
def xk:IM->Qst->Int->IM
 | p::m,q,s=>if p.1=q then(q,s)::m else p::xk m q s
 | [],q,s=>[(q,s)]
theorem XH{m:IM}{q:Qst}:iL (lU m) (.agg q.d)=(lZ m q).map λs=>.i s:=by
 induction m with
 | nil=>rfl
 | cons p m ih =>
  rw[xg];simp only[iL,MX,lZ]
  by_cases h:p.1=q
  . subst h;simp
  have h2 : ¬q=p.1:=λe=>h e.symm
  simp only[h,h2,decide_false,Yd,YT,ih]
@[go_sem]theorem kvGet_Ix{m:IM}{n:Str}{t:Int}:iL (lU m) (.agg [.v (.string (bs n)),.i t])=(lZ m ⟨n,t⟩).map λs=>.i s:=XH (q:=⟨n,t⟩)
theorem XE{m:IM}{q:Qst}{s:Int}:iK (lU m) (.agg q.d) (.i s)=lU (xk m q s):=by
 induction m with
 | nil=>rfl
 | cons p m ih =>
  rw[xg];simp only[iK,MX,xk]
  by_cases h:p.1=q
  . rw[X0 h,h];simp[xg]
  have h2 : ¬q=p.1:=λe=>h e.symm
  rw[XW h];simp only[h2,decide_false,Yd,YT,ih,xg]
def nK(l:List Sgd):Nat->IM
 | 0=>[]
 | k+1=>xk (nK l k) l[k]!.q k
def aR(l:List Sgd)(q:Qst):Int:=(lZ (nK l l.length) q).getD (-1)
theorem Nj{m:IM}{q r:Qst}{s:Int}:lZ (xk m q s) r=if q=r then some s else lZ m r:=by
 induction m with
 | nil=>simp[xk,lZ]
 | cons p m ih =>
  unfold xk
  by_cases h:p.1=q
  .
   rw[X0 h];simp only[lZ]
   by_cases e:q=r
   . rw[X0 e,X0 e]
   rw[XW e,XW e,XW (λe2=>e (h▸e2))]
  rw[XW h];simp only[lZ,ih]
  by_cases e:p.1=r
  . rw[X0 e,X0 e,XW (λe2=>h (e.trans e2.symm))]
  rw[XW e,XW e]
theorem FH(l:List Sgd)(q:Qst):∀k,k<=l.length -> ∀i,lZ (nK l k) q=some i -> ∃j:Nat,i=j/\j<k/\l[j]!.q=q
 | 0,_,i,h=>by cases h
 | k+1,hk,i,h=>by
  rw[nK,Nj]at h
  by_cases e:l[k]!.q=q
  . rw[X0 e]at h;cases h;exact⟨k,rfl,om,e⟩
  rw[XW e]at h;obtain⟨j,h1,h2,h3⟩:=FH l q k om i h;exact⟨j,h1,om,h3⟩
theorem VR{l:List Sgd}{q:Qst}(h:0<=aR l q):(aR l q).toNat<l.length/\l[(aR l q).toNat]!.q=q:=by
 unfold aR at h ⊢
 cases e:lZ (nK l l.length) q with
 | none=>rw[e]at h;simp at h
 | some i =>
  obtain⟨j,rfl,h2,h3⟩:=FH l q _ (X3 _) i e;exact⟨by simpa using h2,by simpa using h3⟩
def lL(l:List Sgd)(q:Qst):aR l q<l.length:=by
 by_cases h:0<=aR l q
 . have:=(VR h).1;omega
 omega
def mW(a b:Str):Int:=if ai a&&ai b then fZ a b else 0
def EU(p:Nat->Bool)(n:Nat):Nat:=gJ (λk=>if p k then 0 else -1) 0 n
def BN{X i j:Nat}{p:Nat->Bool}(hv:X=gJ (λk=>if p k then 0 else -1) i j)(h:i<j):(p ((i+j) / 2)=false->X=gJ (λk=>if p k then 0 else -1) ((i+j) / 2+1) j)/\(p ((i+j) / 2)=true->X=gJ (λk=>if p k then 0 else -1) i ((i+j) / 2)):=by
 rw[qf,X0 h]at hv
 exact⟨λh2=>by rw[h2,X0 (by decide)]at hv;exact hv,λh2=>by rw[h2,XW (by decide)]at hv;exact hv⟩
def tL(l:List Sgd)(n:Str):Nat:=EU (λi=>decide (0<=mW l[i]!.set.name n)) l.length
def gy(l:List Sgd)(n:Str):Bool:=decide (tL l n<l.length)&&dX l[tL l n]!.set.name n
def rO(l:List Sgd)(n:Str):Nat:=EU (λi=>decide (0<mW l[i]!.set.name n)) l.length
def ow(l:List Sgd):Nat->Int
 | 0=>-1
 | k+1=>if l[k]!.set.ty=8 then k else ow l k
def fA(l:List Sgd)(n:Str):Int:=ow l (rO l n)
theorem Zcp{l:List Sgd}{k:Nat}(h:0<k)(h2:l[k-1]!.set.ty=8):ow l k=(k:Int)-1:=by
 obtain⟨m,rfl⟩:∃m,k=m+1:=⟨k-1,om⟩
 rw[Nat.add_sub_cancel]at h2
 rw[ow,X0 h2];omega
theorem Zcq{l:List Sgd}{k:Nat}(h:0<k)(h2 : ¬l[k-1]!.set.ty=8):ow l k=ow l (k-1):=by
 obtain⟨m,rfl⟩:∃m,k=m+1:=⟨k-1,om⟩
 rw[Nat.add_sub_cancel]at *
 rw[ow,XW h2]
theorem BO(p:Nat->Bool)(n:Nat):EU p n<=n:=by
 have : ∀m i j,j-i<=m->i<=j->gJ (λk=>if p k then(0:Int)else -1) i j<=j:=by
  intro m
  induction m with
  | zero=>intro i j h1 h2;rw[qf,XW (by omega)];exact h2
  | succ m ih =>
   intro i j h1 h2;rw[qf]
   by_cases hij:i<j
   .
    rw[X0 hij]
    by_cases q:(if p ((i+j) / 2)=true then(0:Int)else -1)<0
    . rw[X0 q];exact ih _ _ (by omega) (by omega)
    rw[XW q];exact Yx (ih i ((i+j) / 2) (by omega) (by omega)) (by omega)
   rw[XW hij];exact h2
 exact this n 0 n om (Yk _)
theorem PY(l:List Sgd):∀k, -1<=ow l k/\ow l k<k
 | 0=>by simp[ow]
 | k+1=>by
  have:=PY l k;unfold ow
  split<;>omega
def qd(l:List Sgd)(n:Str):fA l n<l.length:=by
 have h1:=(PY l (rO l n)).2
 have h2:rO l n<=l.length:=BO _ _
 unfold fA
 omega
def kX(ls:List Str):Str×Int :=
 if ls=[]then([46],0)
 else if 8<ls.length then([],11)
 else if aB ls.length (fC ls) 0=false then([],11)
 else if 60<(fT ls).length then([],11)
 else(fT ls,0)
def rT(n:Str):List Str:=[42]::aL n
def Je(n:Str):Str:=(kX (rT n)).1
def Ef(z:Zon):Nat->Str->Str
 | 0,n=>n
 | f+1,n=>if n=z.apex\/gy z.sets n=true then n else Ef z f (kS n)
def vH(z:Zon)(n:Str):Str:=Ef z ((bq n).length+1) n
def Qf{z:Zon}{n:Str}(hn:ai n=true)(hu:bF n z.apex)(hne:n≠z.apex)(he:gy z.sets n=false):vH z n=vH z (fD n)/\(bq (fD n)).length<(bq n).length:=by
 obtain⟨hr,_⟩:=vT hn hu hne
 have e:=(nL hn hr).2
 have hl:(bq (fD n)).length+1=(bq n).length:=by
  rw[e,List.length_dropLast];have:bq n≠[]:=λe2=>hr (ww (by rw[e2];decide))
  have:=Y6.2 this;omega
 have hp:kS n=fD n:=by unfold kS;rw[hn,YY.2 hr];rfl
 refine⟨?_,om⟩
 unfold vH
 rw[show(bq n).length+1=((bq (fD n)).length+1)+1 by omega,Ef,XW (by rw[he];simp[hne]),hp]
def ZcL{z:Zon}{n:Str}(h:n=z.apex\/gy z.sets n=true):vH z n=n:=by
 unfold vH
 rw[Ef,X0 h]
theorem XM{l:List Str}(h:(kX l).2≠0):(kX l).1=[]:=by
 unfold kX at h ⊢
 repeat' split
 all_goals first|rfl|(simp_all;done)
def iZ(ls:List Str):List Str:=List.replicate (8-ls.length) []++ls
theorem xY{ls:List Str}(h:ls.length<=8):(iZ ls).length=8:=by simp[iZ];omega
def SB{ls:List Str}{a:Str}(h:ls.length<8):(iZ ls).set (8-ls.length-1) a=iZ (a::ls):=by
 unfold iZ
 rw[List.set_append_left _ _ (by simp;omega)]
 obtain⟨m,hm⟩:∃m,8-ls.length=m+1:=⟨8-ls.length-1,om⟩
 rw[hm,Nat.add_sub_cancel,YI,show 8-(ls.length+1)=m by omega,List.replicate_succ',List.set_append_right _ _ (by simp)]
 simp
def JS{ls:List Str}(h:ls.length<=8):(((iZ ls).map sR).take 8).drop (8-ls.length)=ls.map sR:=by
 rw[Yg (by rw[Y8,xY h];exact X3 _)]
 unfold iZ
 rw[YP,List.drop_append_of_le_length (by simp),List.drop_of_length_le (by simp),XZ]
def o6(z:Zon)(n:Str):Str:=Je (vH z n)
theorem Nl : ∀{l:List Int}{x:Int}{k:Nat},k<l.length->l[k]! = x->(∀i,i<k->l[i]! ≠ x)->l.idxOf x=k
 | [],_,_,h,_,_=>by simp at h
 | y::l,x,0,_,h,_=>by simp at h;subst h;simp
 | y::l,x,k+1,hk,h,hn=>by
  have h0:y≠x:=by simpa using hn 0 (Nat.succ_pos _)
  have:=Nl (l:=l) (x:=x) (k:=k) (by simpa using hk) (by simpa using h) (λi hi=>by simpa using hn (i+1) om)
  rw[List.idxOf_cons,YY.2 h0,this];rfl
def sV(l:List Int)(x:Int):Int:=if x∈l then(l.idxOf x:Int)else -1
theorem Zao{l:List Int}{x:Int}{k:Nat}(hk:k<l.length)(h:l[k]! = x)(hn : ∀i,i<k->l[i]! ≠ x):sV l x=k:=by
 unfold sV
 rw[X0 (by rw[<-h,getElem!_pos l k hk];exact Yq hk),Nl hk h hn]
theorem Zap{l:List Int}{x:Int}(hn : ∀i,i<l.length->l[i]! ≠ x):sV l x = -1:=by
 unfold sV
 rw[XW]
 intro h
 obtain⟨i,hi,e⟩:=YZ h
 exact hn i hi (by rw[getElem!_pos l i hi];exact e)
theorem Zaq{l:List Int}{x:Int}:decide (0<=sV l x)=decide (x∈l):=by
 unfold sV
 split
 . rename_i h;simp[h]
 rename_i h;simp[h]
def jX(l:List Sgd)(ps:List Int):Nat->List Sgd
 | 0=>[]
 | k+1=>if ps[k]! < 0\/ps[k]! ∈ ps.take k then jX l ps k else jX l ps k++[l[ps[k]!.toNat]!]
@[go_sem]theorem pickTo_0{l:List Sgd}{ps:List Int}:jX l ps 0=[]:=rfl
def KV{l:List Sgd}{ps:List Int}{k:Nat}(h:ps[k]! < 0\/ps[k]! ∈ ps.take k):jX l ps (k+1)=jX l ps k:=X0 h
def KU{l:List Sgd}{ps:List Int}{k:Nat}(h : ¬(ps[k]! < 0\/ps[k]! ∈ ps.take k)):jX l ps (k+1)=jX l ps k++[l[ps[k]!.toNat]!]:=XW h
def iI(l:List Sgd)(ps:List Int):List Sgd:=jX l ps ps.length
theorem FK(l:List Sgd)(ps:List Int):∀k,(jX l ps k).length<=k
 | 0=>X3 _
 | k+1=>by
  have:=FK l ps k;unfold jX
  split
  . omega
  simp;omega
theorem FJ(l:List Sgd)(ps:List Int)(hp : ∀i,i<ps.length->ps[i]! < l.length):∀k,k<=ps.length -> ∀s∈jX l ps k,s∈l
 | 0,_,s,h=>by cases h
 | k+1,hk,s,h=>by
  unfold jX at h
  split at h
  . exact FJ l ps hp k om s h
  rename_i hn
  rcases Yu.1 h with h|h
  . exact FJ l ps hp k om s h
  rw[Yi.1 h];have:=hp k om;exact fE om
def CL{l:List Int}{n:Int}(h : ∀x∈l,x<n):∀i,i<l.length->l[i]! < n:=λi hi=>h _ (by rw[getElem!_pos l i hi];exact Yq hi)
def pV(l:List Sgd)(cut:Str)(ds:List Dat):Nat->List Int
 | 0=>[]
 | k+1=>if dX ds[k]!.t cut then pV l cut ds k++[aR l ⟨ds[k]!.t,1⟩]else pV l cut ds k
def wJ(l:List Sgd)(c:Str):Int:=if aR l ⟨c,6⟩<0 then aR l ⟨c,8⟩else aR l ⟨c,6⟩
def VH(l:List Sgd)(c:Str):wJ l c<l.length:=by
 unfold wJ
 split<;>exact lL _ _
theorem ZaK{l:List Sgd}{c:Str}{ds:List Dat}{k:Nat}(h:dX ds[k]!.t c=true):pV l c ds (k+1)=pV l c ds k++[aR l ⟨ds[k]!.t,1⟩]:=X0 h
theorem ZaL{l:List Sgd}{c:Str}{ds:List Dat}{k:Nat}(h:dX ds[k]!.t c=false):pV l c ds (k+1)=pV l c ds k:=XW (by rw[h];exact Bool.noConfusion)
theorem NP(l:List Sgd)(c:Str)(ds:List Dat):∀k,(pV l c ds k).length<=k
 | 0=>X3 _
 | k+1=>by
  have:=NP l c ds k;unfold pV
  split
  . simp;omega
  omega
theorem GY(l:List Sgd)(c:Str)(ds:List Dat):∀k,∀x∈pV l c ds k,x<(l.length:Int)
 | 0,x,h=>by cases h
 | k+1,x,h=>by
  unfold pV at h
  split at h
  .
   rcases Yu.1 h with h|h
   . exact GY l c ds k x h
   rw[Yi.1 h];exact lL _ _
  exact GY l c ds k x h
def iG(l:List Sgd)(cut:Str)(ds:List Dat)(k:Nat):List Int:=[aR l ⟨cut,2⟩,wJ l cut]++pV l cut ds k
def VK{l:List Sgd}{c:Str}{ds:List Dat}:(iG l c ds 0).map iR=[[.i (aR l ⟨c,2⟩)],[.i (wJ l c)]]:=rfl
def pls_l0{l:List Sgd}{c:Str}{ds:List Dat}:(iG l c ds 0).length=2:=rfl
attribute[go_sem]VK pls_l0
def VI{l:List Sgd}{c:Str}{ds:List Dat}{k:Nat}(h:dX ds[k]!.t c=true):iG l c ds (k+1)=iG l c ds k++[aR l ⟨ds[k]!.t,1⟩]:=by
 unfold iG;rw[ZaK h,YS]
def VJ{l:List Sgd}{c:Str}{ds:List Dat}{k:Nat}(h:dX ds[k]!.t c=false):iG l c ds (k+1)=iG l c ds k:=by unfold iG;rw[ZaL h]
def FE(l:List Sgd)(c:Str)(ds:List Dat)(k:Nat):(iG l c ds k).length<=2+k:=by
 have:=NP l c ds k
 unfold iG
 rw[YE]
 simp;omega
def KQ(l:List Sgd)(c:Str)(ds:List Dat)(k:Nat):∀i,i<(iG l c ds k).length->(iG l c ds k)[i]! < (l.length:Int):=CL λx hx=>by
 unfold iG at hx
 rcases Yu.1 hx with e|e
 .
  rcases Yv.1 e with e|e
  . rw[e];exact lL _ _
  rw[Yi.1 e];exact VH _ _
 exact GY _ _ _ _ _ e
def Ch(l:List Sgd)(cut:Str):List Int :=
 iG l cut l[(aR l ⟨cut,2⟩).toNat]!.set.data l[(aR l ⟨cut,2⟩).toNat]!.set.data.length
structure Vw where
 z:Zon
 q:Qst
 cut:Str
 beh:Bool
 wc:Str
 deriving Inhabited
def IK(v:Vw):Bool:=!v.beh||(v.q.name==v.cut&&(v.q.ty==6||v.q.ty==8))
def bY(v:Vw)(k:Nat):dV×Bool :=
 let l:=v.z.sets
 let st:=aR l ⟨v.z.apex,4⟩
 match k with
 | 0=>if IK v then(⟨0,[],[]⟩,false)else(⟨4,iI l (Ch l v.cut),v.cut⟩,true)
 | 1=>(⟨1,iI l [aR l v.q],[]⟩,decide (0<=aR l v.q))
 | 2=>(⟨3,iI l [aR l ⟨v.q.name,3⟩],[]⟩,decide (0<=aR l ⟨v.q.name,3⟩) && !decide (v.q.ty=8))
 | 3=>if gy l v.q.name then(⟨5,iI l [st,fA l v.q.name],[]⟩,true)else(⟨0,[],[]⟩,false)
 | 4=>(⟨2,iI l [aR l ⟨v.wc,v.q.ty⟩,fA l v.q.name],[]⟩,decide (0<=aR l ⟨v.wc,v.q.ty⟩))
 | 5=>(⟨3,iI l [aR l ⟨v.wc,3⟩,fA l v.q.name],[]⟩,decide (0<=aR l ⟨v.wc,3⟩) && !decide (v.q.ty=8))
 | _=>if v.wc==[] || !gy l v.wc then(⟨0,[],[]⟩,false)else(⟨5,iI l [st,fA l v.q.name,fA l v.wc],[]⟩,true)
def uV(v:Vw):dV:=⟨6,iI v.z.sets [aR v.z.sets ⟨v.z.apex,4⟩,fA v.z.sets v.q.name,if v.wc=[]then -1 else fA v.z.sets v.wc],[]⟩
theorem Jw{v:Vw}(h:IK v=true):bY v 0=(⟨0,[],[]⟩,false):=X0 h
theorem Jy{v:Vw}(h:IK v=false):bY v 0=(⟨4,iI v.z.sets (Ch v.z.sets v.cut),v.cut⟩,true):=XW (by rw[h];exact Bool.noConfusion)
theorem EL{v:Vw}(h:gy v.z.sets v.q.name=true):bY v 3=(⟨5,iI v.z.sets [aR v.z.sets ⟨v.z.apex,4⟩,fA v.z.sets v.q.name],[]⟩,true):=X0 h
theorem Jv{v:Vw}(h:gy v.z.sets v.q.name=false):bY v 3=(⟨0,[],[]⟩,false):=XW (by rw[h];exact Bool.noConfusion)
theorem Jt{v:Vw}(h:(v.wc==[] || !gy v.z.sets v.wc)=true):bY v 6=(⟨0,[],[]⟩,false):=X0 h
theorem Ju{v:Vw}(h:(v.wc==[] || !gy v.z.sets v.wc)=false):bY v 6=(⟨5,iI v.z.sets [aR v.z.sets ⟨v.z.apex,4⟩,fA v.z.sets v.q.name,fA v.z.sets v.wc],[]⟩,true):=XW (by rw[h];exact Bool.noConfusion)
theorem LY{v:Vw}(h:v.wc≠[]):uV v=⟨6,iI v.z.sets [aR v.z.sets ⟨v.z.apex,4⟩,fA v.z.sets v.q.name,fA v.z.sets v.wc],[]⟩:=by unfold uV;rw[XW h]
theorem LZ{v:Vw}(h:v.wc=[]):uV v=⟨6,iI v.z.sets [aR v.z.sets ⟨v.z.apex,4⟩,fA v.z.sets v.q.name, -1],[]⟩:=by unfold uV;rw[X0 h]
def nu(z:Zon)(q:Qst)(k:Nat):Vw:=⟨z,q,(bO z q.name).1,(bO z q.name).2,if k<=3 then[]else o6 z q.name⟩
def ng(z:Zon)(q:Qst):Nat->Nat->dV
 | 0,k=>uV (nu z q k)
 | f+1,k=>if(bY (nu z q k) k).2 then(bY (nu z q k) k).1 else ng z q f (k+1)
theorem vz{z:Zon}{q:Qst}{k:Nat}(hk:k<7)(h:(bY (nu z q k) k).2=true):ng z q (7-k) k=(bY (nu z q k) k).1:=by
 rw[show 7-k=(6-k)+1 by omega,ng,X0 h]
theorem xE{z:Zon}{q:Qst}{k:Nat}(hk:k<7)(h:(bY (nu z q k) k).2=false):ng z q (7-k) k=ng z q (7-(k+1)) (k+1):=by
 rw[show 7-k=(6-k)+1 by omega,ng,XW (by rw[h];exact Bool.noConfusion),show 7-(k+1)=6-k by omega]
theorem ZaJ{z:Zon}{q:Qst}:ng z q (7-7) 7=uV (nu z q 7):=rfl
def IR(z:Zon)(q:Qst):dV:=ng z q 7 0
def fB(z:Zon)(q:Qst):dV×Int :=
 if aO q.ty 1 8=false then(⟨0,[],[]⟩,1)
 else if(fF z q.name).2.2=20 then(⟨7,[],[]⟩,0)
 else if(fF z q.name).2.2≠0 then(⟨0,[],[]⟩,(fF z q.name).2.2)
 else(IR z q,0)
def zO(a b:dV):Bool:=wm a.sets b.sets&&decide (a.kind=b.kind)&&decide (a.cut=b.cut)
def ZfM{kv:List D}:(D.fmap kv).cells=[.fmap kv]:=rfl
def one_fmap{kv:List D}:(D.fmap kv).one=true:=rfl
def cells_mp{r:Nat}:(D.mp r).cells=[.mp r]:=rfl
def one_mp{r:Nat}:(D.mp r).one=true:=rfl
def one_map{o:Option Nat}:(D.v (.map o)).one=true:=rfl
attribute[go_sem]ZfM one_fmap cells_mp one_mp one_map
def Bv{z:Zon}(h:aJ z=true):iA z.sets:=Vb (by rw[<-QT];exact h)
def leS(a b:Sgd):Bool:=decide (sp a b<=0)
def Nh{α:Type}(le:α->α->Bool)(a:α):List α->List α
 | []=>[a]
 | b::l=>if le a b then a::b::l else b::Nh le a l
def SK{α:Type}(le:α->α->Bool)(l:List α):List α:=l.foldr (Nh le) []
def SI(l:List Sgd):List Sgd:=SK leS l
def UL{α:Type}{d:α->List D}{of:List D->α}(hof : ∀x,of (d x)=x){l:List α}{rows:List (List D)}(p:rows.Perm (l.map d)):(rows.map of).map d=rows/\(rows.map of).Perm l:=by
 constructor
 .
  rw[List.map_map]
  conv=>rhs;rw[<-List.map_id rows]
  refine YG λx hx=>?_
  obtain⟨y,_,rfl⟩:=Yh.1 (p.mem_iff.1 hx)
  show d (of (d y))=d y
  rw[hof]
 have:=p.map of
 rwa [qJ hof]at this
structure DOk(d:jS):Prop where
 apex:ai d.apex=true
 wild:fP d.apex=false
 frm:BX d.frm=true
 too:BX d.too=true
 bef:QA d.frm d.too=true
 dlen:d.drop.length<=20000
 plen:d.put.length<=20000
 gV : ∀q∈d.drop,wz q=true
 dord:uk qp d.drop
 pok : ∀s∈d.put,vO s.set
 pord:Ord d.put
 apart : ∀s∈d.put,s.q ∉ d.drop
def JL(z:Zon)(d:jS):List Sgd:=z.sets.filterMap (goS (goesF d.put d.drop))
def Ad(z:Zon)(d:jS):Zon:=⟨z.apex,SI (JL z d++d.put)⟩
def QC(z:Zon)(d:jS):Zon×Int :=
 if aJ z=false\/Pq d=false\/z.apex≠d.apex then(vR,1)else if rZ z≠d.frm then(vR,23)else
 if 20000<(JL z d).length+d.put.length then(vR,2)else
 if aJ (Ad z d)=false\/rZ (Ad z d)≠d.too then(vR,35)else(Ad z d,0)
end Go.Zon
namespace Go.Zon
open Go.DL Go.Str Go.Rec Go.Cmp
def ZdL:vR.apex=[]:=rfl
def ZdK:vR.sets=[]:=rfl
attribute[go_sem]ZdL ZdK
section
variable {a b : Zon}
end
structure AOk(z:Zon)(d:jS):Prop where
 zok:aJ z=true
 gV:Pq d=true
 apex:z.apex=d.apex
 frm:rZ z=d.frm
 new:aJ (Ad z d)=true
 too:rZ (Ad z d)=d.too
end Go.Zon
namespace Go.Jn
open Go.DL Go.Str Go.Rec Go.Cmp Go.Zon
structure zw where
 safe:Str
 pend:List Str
 deriving Inhabited,DecidableEq
def byR(s:Str):List D:=[.l (s.map bD)]
def ofBy:List D->Str
 | [x]=>zh x
 | _=>[]
def zw.d(x:zw):List D:=[.l (x.safe.map bD),.l (x.pend.map byR)]
def zw.of:List D->zw
 | [x,.list _ rows]=>⟨zh x,rows.map ofBy⟩
 | _=>default
def dU(d:Nat)(c:UInt8):Nat:=((d ^^^ c.toNat)*1099511628211) % 18446744073709551616
def xL:Nat:=14695981039346656037
def dig(l:Str):Nat:=l.foldl dU xL
def ig(k:Int)(st:RS):Nat×RS:=(LP (pz k st).1,(pz k st).2)
def uQ(st:RS):Str×RS:=pz (ig 1 st).1 (ig 1 st).2
def K7(st:RS):RSig×RS :=
 let z:=uQ st
 let a:=ig 8 z.2
 let b:=ig 8 a.2
 let c:=ig 8 b.2
 let e:=ig 8 c.2
 let s:=ig 8 e.2
 (⟨z.1,sN a.1,sN b.1,sN c.1,sN e.1,s.1⟩,s.2)
def K6:Nat->List RSig->RS->List RSig×RS
 | 0,out,st=>(out,st)
 | k+1,out,st=>if st.2 then(out,st)else K6 k (out++[(K7 st).1]) (K7 st).2
def Cu(st:RS):Str×RS:=pz (ig 2 st).1 (ig 2 st).2
def V5(st:RS):RSet×RS:=((KE (Cu st).1).1,if(KE (Cu st).1).2=0 then(Cu st).2 else((Cu st).2.1,true))
def K9(st:RS):Sgd×RS :=
 let s:=V5 st
 let n:=ig 1 s.2
 let g:=K6 n.1 [] n.2
 (⟨s.1,g.1⟩,g.2)
def K8:Nat->List Sgd->RS->List Sgd×RS
 | 0,out,st=>(out,st)
 | k+1,out,st=>if st.2 then(out,st)else K8 k (out++[(K9 st).1]) (K9 st).2
def FM(st:RS):List Sgd×RS:=K8 (ig 4 st).1 [] (ig 4 st).2
def K5(st:RS):Zon×RS:=(⟨(uQ st).1,(FM (uQ st).2).1⟩,(FM (uQ st).2).2)
def Lb(st:RS):Qst×RS:=(⟨(uQ st).1,sN (ig 1 (uQ st).2).1⟩,(ig 1 (uQ st).2).2)
def La:Nat->List Qst->RS->List Qst×RS
 | 0,out,st=>(out,st)
 | k+1,out,st=>if st.2 then(out,st)else La k (out++[(Lb st).1]) (Lb st).2
def Lc(st:RS):jS×RS :=
 let a:=uQ st
 let f:=ig 8 a.2
 let t:=ig 8 f.2
 let n:=ig 4 t.2
 let q:=La n.1 [] n.2
 let p:=FM q.2
 (⟨a.1,sN f.1,sN t.1,q.1,p.1⟩,p.2)
def LC(st:RS):Bool:=st.2||decide (0<st.1.length)
def Vg(w:Str):Option Zon:=if LC (K5 (w,false)).2 then none else some (K5 (w,false)).1
def Vi(w:Str):Option jS:=if LC (Lc (w,false)).2 then none else some (Lc (w,false)).1
def fst1(k:Nat)(b:Str):Nat×Str :=
 if b.length<13\/(b.getD 0 0).toNat≠k then(0,[])else
 let n:=ig 4 (b.drop 1,false)
 let h:=ig 8 n.2
 let w:=pz n.1 h.2
 let t:=ig 8 w.2
 if t.2.2=true\/h.1≠dig (b.take 5)\/t.1≠dig w.1 then(0,[])else(13+n.1+8,w.1)
def JI(b:Str):Option (Zon×Nat) :=
 if(fst1 1 b).1=0 then none else
 match Vg (fst1 1 b).2 with
 | none=>none
 | some z=>if aJ z then some (z,(fst1 1 b).1)else none
def BM(z:Zon)(b:Str):Option (Zon×Nat) :=
 if(fst1 2 b).1=0 then none else
 match Vi (fst1 2 b).2 with
 | none=>none
 | some d=>if(QC z d).2=0 then some ((QC z d).1,(fst1 2 b).1)else none
def ZaR(k:Nat)(b:Str)(h:(fst1 k b).1≠0):21<=(fst1 k b).1/\13<=b.length:=by
 unfold fst1 at h ⊢
 split
 . rename_i q;rw[X0 q]at h;exact absurd rfl h
 rename_i q
 rw[XW q]at h
 simp only at h ⊢
 split
 . rename_i r;rw[X0 r]at h;exact absurd rfl h
 rename_i r;exact⟨by show 21<=13+_+8;omega,om⟩
def R5{z:Zon}{b:Str}{y:Zon}{n:Nat}(h:BM z b=some (y,n)):0<n/\0<b.length:=by
 unfold BM at h
 split at h
 . cases h
 rename_i q
 obtain⟨h1,h2⟩:=ZaR 2 b q
 split at h
 . cases h
 split at h
 . simp only[XU,Yo]at h;omega
 cases h
def more(z:Zon)(b:Str):List (Zon×Nat) :=
 match _h:BM z b with
 | none=>[]
 | some (y,n)=>(y,n)::more y (b.drop n)
termination_by b.length
decreasing_by
 have:=R5 _h
 rw[Zf]
 omega
def frs(b:Str):List (Zon×Nat):=match JI b with
 | none=>[]
 | some (y,n)=>(y,n)::more y (b.drop n)
def sumL(l:List (Zon×Nat)):Nat:=(l.map (·.2)).sum
def KZ(b:Str):Str:=b.take (sumL (frs b))
abbrev nk:=Option Zon
def nk.d(c:nk):List D:=.b c.isSome::(c.getD vR).d
def nk.of:List D->nk
 | [.v (.bool b),.v (.string s),.list _ rows]=>if b then some ⟨s.data.toList,rows.map Sgd.of⟩else none
 | _=>none
def R7(c:nk)(b:Str):Option (Zon×Nat):=match c with
 | none=>JI b
 | some z=>BM z b
def nextF(c:nk)(b:Str):nk×Nat:=match R7 c b with
 | none=>(c,0)
 | some (y,n)=>(some y,n)
def Jg(b:Str):nk:=(frs b).getLast?.map (·.1)
structure Opn where
 whole:Str
 size:Int
 saved:nk
 all:nk
 deriving Inhabited
def KX(c:nk):List Str->Option nk
 | []=>some c
 | p::l=>if(nextF c p).2≠0/\(nextF c p).2=p.length then KX (nextF c p).1 l else none
def Qn(l:List Str):Str:=l.flatten
def Wh(d:zw):Option Opn :=
 if 1000000<d.safe.length\/200<d.pend.length then none else
 match KX (Jg d.safe) d.pend with
 | none=>none
 | some c=>some ⟨KZ d.safe,(KZ d.safe).length+(Qn d.pend).length,Jg d.safe,c⟩
def allR(d:zw):Option Str:=(Wh d).map λo=>o.whole++Qn d.pend
end Go.Jn
namespace Go.Zon
open Go.DL Go.Str Go.Rec Go.Cmp
structure SKey where
 n:Int
 a:Int
 deriving Inhabited,DecidableEq
def SKey.d(k:SKey):List D:=[.i k.n,.i k.a]
def mD(k:SKey):Bool:=aO k.n 1 1000000&&aO k.a 1 3
def jy(f u:Int):Bool:=decide (0<=f)&&decide (f<=u)&&decide (u<=20000000)
def xW(b zn:Str)(k:SKey)(f u:Int):Nat:=Go.Jn.dig (b++lT zn.length::zn++cz k.n++cz k.a++cz f++cz u)
def o8:RSig:=⟨[],0,0,0,0,0⟩
def qo(s:RSet)(zn:Str)(k:SKey)(f u:Int):Bool:=mD k&&jy f u&&ai zn && !fP zn&&decide ((ma s).2=0)&&dX s.name zn
def rV(s:RSet)(zn:Str)(k:SKey)(f u:Int):RSig:=⟨zn,k.n,k.a,f,u,(xW (ma s).1 zn k f u:Int)⟩
def bW(s:RSet)(zn:Str)(k:SKey)(f u:Int):RSig×Int:=if qo s zn k f u then(rV s zn k f u,0)else(o8,1)
def rD(s:RSet)(g:RSig)(k:SKey):Bool:=decide ((bW s g.zone k g.frm g.unt).2=0)&&decide ((bW s g.zone k g.frm g.unt).1=g)
def ZcM{s:RSet}{zn:Str}{k:SKey}{f u:Int}(h:(bW s zn k f u).2=0):rD s (bW s zn k f u).1 k=true:=by
 unfold bW at h ⊢
 by_cases e:qo s zn k f u=true
 .
  rw[X0 e];unfold rD
  show(decide ((bW s zn k f u).2=0)&&decide ((bW s zn k f u).1=rV s zn k f u))=true
  unfold bW;rw[X0 e]
  simp
 rw[XW e]at h;cases h
def qw(z:Zon)(ks:List SKey)(f u:Int)(i:Nat):Sgd:=⟨z.sets[i]!.set,if eO (aN z) i=true then ks.map λk=>(bW z.sets[i]!.set z.apex k f u).1 else[]⟩
def vZ(z:Zon)(ks:List SKey)(f u:Int):Nat->List Sgd
 | 0=>[]
 | i+1=>vZ z ks f u i++[qw z ks f u i]
def eU(z:Zon)(ks:List SKey)(f u:Int):Zon:=⟨z.apex,vZ z ks f u z.sets.length⟩
theorem E8(z:Zon)(ks:List SKey)(f u:Int):∀i,(vZ z ks f u i).length=i
 | 0=>rfl
 | i+1=>by simp[vZ,E8 z ks f u i]
theorem J7(z:Zon)(ks:List SKey)(f u:Int):∀n i,i<n->(vZ z ks f u n)[i]! = qw z ks f u i
 | 0,i,h=>by omega
 | n+1,i,h=>by
  have hl:=E8 z ks f u n;unfold vZ
  by_cases e:i<n
  . rw[<-J7 z ks f u n i e,getElem!_pos _ _ (by simp;omega),getElem!_pos _ _ (by omega),List.getElem_append_left]
  have:i=n:=by omega
  subst this;rw[getElem!_pos _ _ (by simp[hl]),List.getElem_append_right (by omega)]
  simp[hl]
theorem yg{z:Zon}{ks:List SKey}{f u:Int}{i:Nat}(h:i<z.sets.length):(eU z ks f u).sets[i]! = qw z ks f u i:=J7 z ks f u _ i h
theorem wh{z:Zon}{ks:List SKey}{f u:Int}:(eU z ks f u).sets.length=z.sets.length:=E8 z ks f u _
section
variable {z y : Zon} (ha : y.apex = z.apex) (hl : y.sets.length = z.sets.length) (hs : ∀i : Nat, y.sets[i]!.set = z.sets[i]!.set)
include hs in
theorem BS(i:Nat):y.sets[i]!.q=z.sets[i]!.q:=by unfold Sgd.q;rw[hs i]
include ha hl hs in
theorem SX:ordered y=ordered z:=by
 unfold ordered
 have e:ik y.apex y.sets=ik z.apex z.sets:=funext λi=>by unfold ik;rw[hs i,ha,BS hs i,BS hs (i-1)]
 rw[e,ha,hl]
include hl hs in
def SY(q:Qst):di y.sets q=di z.sets q/\dN y.sets q=dN z.sets q:=by
 have e:di y.sets q=di z.sets q:=by
  unfold di;rw[hl,show(λk:Nat=>qC y.sets[k]!.q q)=λk:Nat=>qC z.sets[k]!.q q from funext λk=>by rw[BS hs k]]
 exact⟨e,by unfold dN;rw[e,hl,BS hs _]⟩
include ha hl hs in
theorem Ta:mg y=mg z:=by
 unfold mg
 have e:jL y.apex y.sets=jL z.apex z.sets:=funext λi=>by unfold jL;rw[hs i,ha]
 have e2:iU y=iU z:=funext λi=>by unfold iU;rw[ha];exact(SY hl hs _).2
 rw[e,e2,hl]
include ha hs in
theorem JY : ∀k,bM y k=bM z k
 | 0=>rfl
 | k+1=>by unfold bM;rw[hs k,ha,JY k]
include hs in
theorem JZ(m:List Str):∀k,bI m y.sets k=bI m z.sets k
 | 0=>rfl
 | k+1=>by unfold bI;rw[hs k,JZ m k]
include ha hl hs in
theorem EZ:eT y=eT z:=by unfold eT;rw[hl,JY ha hs,JZ hs]
include hl hs in
theorem Tc:kG (aN y)=kG (aN z):=by
 unfold kG aN
 have e:gK y.sets=gK z.sets:=funext λi=>by unfold gK;rw[hs i,hs (i-1),hs (i+1),hl]
 show aB y.sets.length (gK y.sets) 0=aB z.sets.length (gK z.sets) 0
 rw[e,hl]
include ha hl hs in
theorem S9:iB (aN y)=iB (aN z):=by
 unfold iB
 have e:cutAt (aN y)=cutAt (aN z):=funext λi=>by
  unfold cutAt aN
  show(let t:=y.sets[i]!.set.ty;if(eT y)[i]! = []then !decide (t=6)else if(eT y)[i]! = y.sets[i]!.set.name then decide (t=2)||decide (t=6)||decide (t=8)||decide (t=1)else decide (t=1))=_
  rw[hs i,EZ ha hl hs]
 show aB y.sets.length (cutAt (aN y)) 0=aB z.sets.length (cutAt (aN z)) 0
 rw[e,hl]
end
def Kh{z:Zon}{ks:List SKey}{f u:Int}(i:Nat):(eU z ks f u).sets[i]!.set=z.sets[i]!.set:=by
 by_cases h:i<z.sets.length
 . rw[yg h];rfl
 rw[getElem!_neg (eU z ks f u).sets i (by rw[wh];exact h),getElem!_neg z.sets i h]
def Um{s:RSet}{a:Str}{ks:List SKey}{f u:Int}(hk:ks.length<=6)(hv : ∀k∈ks,mD k=true)(hw:jy f u=true)(hst : ∀i,0<i->i<ks.length->ks[i-1]!.n<ks[i]!.n)(hsg : ∀k∈ks,(bW s a k f u).2=0) :
  fV (ks.map λk=>(bW s a k f u).1) a=true:=by
 have at1 : ∀i,i<ks.length->(ks.map λk=>(bW s a k f u).1)[i]! = rV s a ks[i]! f u:=by
  intro i hi;rw[getElem!_pos (ks.map λk=>(bW s a k f u).1) i (by simpa using hi),List.getElem_map,getElem!_pos ks i hi]
  have:=hsg _ (Yq hi);unfold bW at this ⊢
  by_cases e:qo s a ks[i] f u=true
  . rw[X0 e]
  rw[XW e]at this;cases this
 unfold fV
 rw[XT]
 refine⟨by simpa using hk,(dO _ _ _).2 λi _ hi=>?_⟩
 have hi2:i<ks.length:=by simpa using hi
 have hki:=hv _ (fE hi2)
 unfold mD at hki
 rw[XT]at hki
 unfold jy at hw
 simp only[XT,XV]at hw
 unfold ic
 rw[at1 i hi2,at1 0 (by omega)]
 by_cases e:i=0
 .
  subst e
  simp[rV,hki.1,hki.2,hw, -List.getElem!_eq_getElem?_getD]
 rw[at1 (i-1) (by omega)]
 simp[rV,hki.1,hki.2,hw,e,hst i om hi2, -List.getElem!_eq_getElem?_getD]
def Uo{z:Zon}{ks:List SKey}{f u:Int}(hz:aJ z=true)(hk:ks.length<=6)(hv : ∀k∈ks,mD k=true)(hw:jy f u=true)(hst : ∀i,0<i->i<ks.length->ks[i-1]!.n<ks[i]!.n)
  (hsg : ∀i,i<z.sets.length->eO (aN z) i=true -> ∀k∈ks,(bW z.sets[i]!.set z.apex k f u).2=0):aJ (eU z ks f u)=true:=by
 have ha:(eU z ks f u).apex=z.apex:=rfl
 have hl:=wh (z:=z) (ks:=ks) (f:=f) (u:=u)
 have hs:=Kh (z:=z) (ks:=ks) (f:=f) (u:=u)
 unfold aJ at hz ⊢
 simp only[XT]at hz ⊢
 obtain⟨⟨⟨⟨⟨h1,h2⟩,h3⟩,h4⟩,h5⟩,h6⟩:=hz
 refine⟨⟨⟨⟨⟨by rw[SX ha hl hs];exact h1,by rw[Ta ha hl hs];exact h2⟩,by rw[Tc hl hs];exact h3⟩,by rw[S9 ha hl hs];exact h4⟩,?_⟩,?_⟩
 .
  refine(dO _ _ _).2 λi _ hi=>?_
  have hi2:i<z.sets.length:=by rw[<-hl];exact hi
  unfold pW aN
  show(!(!((eT (eU z ks f u))[i]! == [])&&(decide ((eU z ks f u).sets[i]!.set.ty=2)||decide ((eU z ks f u).sets[i]!.set.ty=1))&&decide (0<(eU z ks f u).sets[i]!.sigs.length)))=true
  rw[EZ ha hl hs,hs i,yg hi2]
  by_cases ho:eO (aN z) i=true
  .
   unfold eO at ho;have e9:((eT z)[i]! == []||(!decide (z.sets[i]!.set.ty=2) && !decide (z.sets[i]!.set.ty=1)))=true:=ho
   revert e9
   cases ((eT z)[i]! == [])<;>cases decide (z.sets[i]!.set.ty=2)<;>cases decide (z.sets[i]!.set.ty=1)<;>simp
  unfold qw;rw[XW ho]
  simp
 refine(dO _ _ _).2 λi _ hi=>?_
 have hi2:i<z.sets.length:=by rw[<-hl];exact hi
 unfold ol aN
 show fV (eU z ks f u).sets[i]!.sigs z.apex=true
 rw[yg hi2]
 unfold qw
 by_cases ho:eO (aN z) i=true
 . rw[X0 ho];exact Um hk hv hw hst (hsg i hi2 ho)
 rw[XW ho]
 show fV [] z.apex=true
 unfold fV aB
 rfl
theorem Le{z:Zon}{ks:List SKey}{f u:Int}(i:Nat):eO (aN (eU z ks f u)) i=eO (aN z) i:=by
 have hs:=Kh (z:=z) (ks:=ks) (f:=f) (u:=u)
 unfold eO aN
 show((eT (eU z ks f u))[i]! == []||(!decide ((eU z ks f u).sets[i]!.set.ty=2) && !decide ((eU z ks f u).sets[i]!.set.ty=1)))=_
 rw[EZ (z:=z) (y:=eU z ks f u) rfl wh hs,hs i]
end Go.Zon
namespace Go.Zon
open Go.DL Go.Str Go.Rec Go.Cmp
def aS(l:List Sgd):List Sgd:=l.filter λs=>!decide (s.set.ty=8)
def lG(l:List Sgd)(k:Nat):List Sgd:=aS (l.take k)
@[go_sem]theorem siftTo_0{l:List Sgd}:lG l 0=[]:=rfl
theorem Tx(l:List Sgd):lG l l.length=aS l:=by unfold lG;rw[Zw]
def Tw(l:List Sgd)(k:Nat):(lG l k).length<=k:=by
 unfold lG aS
 exact Yx (List.length_filter_le _ _) (by rw[Zu];omega)
theorem J5{l:List Sgd}{k:Nat}(hk:k<l.length):lG l (k+1)=lG l k++aS [l[k]!]:=by
 unfold lG aS
 rw[BK! hk,List.filter_append]
def Tq{l:List Sgd}{k:Nat}(hk:k<l.length)(h : ¬l[k]!.set.ty=8):lG l (k+1)=lG l k++[l[k]!]:=by rw[J5 hk];simp[aS,h, -List.getElem!_eq_getElem?_getD]
def Tt{l:List Sgd}{k:Nat}(hk:k<l.length)(h:l[k]!.set.ty=8):lG l (k+1)=lG l k:=by rw[J5 hk];simp[aS,h, -List.getElem!_eq_getElem?_getD]
def bG(l:List Sgd)(nx:List RSet):Nat->List Sgd×Nat
 | 0=>([],0)
 | k+1 =>
  if k+1<l.length/\l[k+1]!.set.name=l[k]!.set.name then((bG l nx k).1++[l[k]!],(bG l nx k).2)
  else if(bG l nx k).2<nx.length/\nx[(bG l nx k).2]!.name=l[k]!.set.name then((bG l nx k).1++[l[k]!]++[⟨nx[(bG l nx k).2]!,[]⟩],(bG l nx k).2+1)
  else((bG l nx k).1++[l[k]!],(bG l nx k).2)
def Eh(l:List Sgd)(nx:List RSet):List Sgd:=(bG l nx l.length).1
@[go_sem]theorem chnTo_0{l:List Sgd}{nx:List RSet}:bG l nx 0=([],0):=rfl
theorem Qi{l:List Sgd}{nx:List RSet}{k:Nat}(h:k+1<l.length/\l[k+1]!.set.name=l[k]!.set.name):bG l nx (k+1)=((bG l nx k).1++[l[k]!],(bG l nx k).2):=X0 h
theorem Qh{l:List Sgd}{nx:List RSet}{k:Nat}(h : ¬(k+1<l.length/\l[k+1]!.set.name=l[k]!.set.name))(h2:(bG l nx k).2<nx.length/\nx[(bG l nx k).2]!.name=l[k]!.set.name):bG l nx (k+1)=((bG l nx k).1++[l[k]!]++[⟨nx[(bG l nx k).2]!,[]⟩],(bG l nx k).2+1):=by rw[bG,XW h,X0 h2]
theorem Qg{l:List Sgd}{nx:List RSet}{k:Nat}(h : ¬(k+1<l.length/\l[k+1]!.set.name=l[k]!.set.name))(h2 : ¬((bG l nx k).2<nx.length/\nx[(bG l nx k).2]!.name=l[k]!.set.name)):bG l nx (k+1)=((bG l nx k).1++[l[k]!],(bG l nx k).2):=by rw[bG,XW h,XW h2]
theorem Iy(l:List Sgd)(nx:List RSet):∀k,(bG l nx k).1.length=k+(bG l nx k).2/\(bG l nx k).2<=nx.length
 | 0=>⟨rfl,Yk _⟩
 | k+1=>by
  have:=Iy l nx k;unfold bG
  split
  . simp;omega
  split
  . simp;omega
  simp;omega
def dV.of:List D->dV
 | [.v (.int _ k),.list _ rows,.v (.string c)]=>⟨k,rows.map Sgd.of,c.data.toList⟩
 | _=>default
def xP:D->dV:=rF dV.of default
def SKey.of:List D->SKey
 | [.v (.int _ a),.v (.int _ b)]=>⟨a,b⟩
 | _=>default
def jD:D->SKey:=rF SKey.of default
def lC:D->List SKey:=Ai SKey.of
attribute [go_sem] dV.d dV.df SKey.d
theorem FW(x:SKey):SKey.of x.d=x:=rfl
def ans1_agg{k:IntKind}{n:Int}{f:Bool}{rows:List (List D)}{c:ByteArray}:xP (.agg [.v (.int k n),.list f rows,.v (.string c)])=⟨n,kM (.list f rows),c.data.toList⟩:=rfl
def ans_eta{x:dV}:(⟨x.kind,x.sets,x.cut⟩:dV)=x:=rfl
def Zd9{k k':IntKind}{a b:Int}:jD (.agg [.v (.int k a),.v (.int k' b)])=⟨a,b⟩:=rfl
def skey_eta{x:SKey}:(⟨x.n,x.a⟩:SKey)=x:=rfl
attribute[go_sem]ans1_agg ans_eta Zd9 skey_eta
@[go_sem]theorem Tf{f:Bool}{l:List SKey}:lC (.list f (l.map SKey.d))=l:=qJ FW l
def yS{l:List SKey}{n:Nat}(h:n<l.length):(l.map SKey.d).getD n []=[.i l[n]!.n,.i l[n]!.a]:=by
 simp[List.getD,h,SKey.d,getElem!_pos]
@[go_sem]theorem yA{l:List SKey}:aZ (l.map SKey.d)=true:=by
 induction l with
 | nil=>rfl
 | cons x l ih=>simp only[X8,aZ,ih,SKey.d,bK,D.nr];rfl
@[go_sem]theorem wkr_skey{l:List SKey}:cK (l.map SKey.d)=l.map SKey.d:=by
 induction l with
 | nil=>rfl
 | cons x l ih=>simp only[X8,cK,ih,SKey.d,wk,dA]
@[go_sem]theorem all_skey{l:List SKey}:(∀r∈l.map SKey.d,r.length=2)=True:=by
 apply eq_true
 intro r hr
 obtain⟨x,_,rfl⟩:=Yh.1 hr
 rfl
def ZfG{x:List D}{h:H}:ou h (.eptr x) = .eptr x:=rfl
def ZfB{x:List D}{h:H}:mR h (.eptr x)=True:=rfl
attribute[go_sem]ZfG ZfB
@[go_sem]theorem Q5{l:List Int}:cK (l.map iR)=l.map iR:=by
 induction l with
 | nil=>rfl
 | cons x l ih=>simp only[X8,cK,ih,iR,wk,dA]
@[go_sem]theorem all_iR{l:List Int}:(∀r∈l.map iR,r.length=1)=True:=by
 apply eq_true
 intro r hr
 obtain⟨x,_,rfl⟩:=Yh.1 hr
 rfl
def Vw.d(v:Vw):List D:=[.v (.string (bs v.z.apex)),.l (v.z.sets.map Sgd.d),.fmap (lU (nK v.z.sets v.z.sets.length)),.v (.string (bs v.q.name)),.i v.q.ty,.v (.string (bs v.cut)),.b v.beh,.v (.string (bs v.wc))]
def Vw.of:List D->Vw
 | [.v (.string a),.list _ rows,_,.v (.string s),.v (.int _ t),.v (.string c),.v (.bool b),.v (.string w)]=>⟨⟨a.data.toList,rows.map Sgd.of⟩,⟨s.data.toList,t⟩,c.data.toList,b,w.data.toList⟩
 | _=>default
def gL:D->Vw
 | .eptr cs=>Vw.of cs
 | _=>default
attribute [go_sem] Vw.d
def vw1_e{a s c w:ByteArray}{f b:Bool}{rows:List (List D)}{x:D}{k:IntKind}{t:Int}:gL (.eptr [.v (.string a),.list f rows,x,.v (.string s),.v (.int k t),.v (.string c),.v (.bool b),.v (.string w)])=⟨⟨a.data.toList,kM (.list f rows)⟩,⟨s.data.toList,t⟩,c.data.toList,b,w.data.toList⟩:=rfl
def vw_eta{x:Vw}:(⟨x.z,x.q,x.cut,x.beh,x.wc⟩:Vw)=x:=rfl
attribute[go_sem]vw1_e vw_eta
def rJ:D->Vw
 | .eptr [x]=>gL x
 | _=>default
def rQ:D->Str
 | .eptr [x]=>ah x
 | _=>[]
def vwc1_e{x:D}:rJ (.eptr [x])=gL x:=rfl
def strc1_e{x:D}:rQ (.eptr [x])=ah x:=rfl
attribute[go_sem]vwc1_e strc1_e
@[go_sem]theorem Ws{m:IM}:bK (lU m)=true:=by
 induction m with
 | nil=>rfl
 | cons p m ih=>rw[xg];simp only[bK,ih,D.nr,Qst.d,ZW]
@[go_sem]theorem wks_kvIx{m:IM}:dA (lU m)=lU m:=by
 induction m with
 | nil=>rfl
 | cons p m ih=>rw[xg];simp only[dA,wk,ih,Qst.d]
def XF{l:List Sgd}{k:Nat}:iK (lU (nK l k)) (.agg [.v (.string (bs l[k]!.set.name)),.i l[k]!.set.ty]) (.i (k:Int))=lU (nK l (k+1)):=XE (q:=l[k]!.q)
theorem KS(l:List Sgd)(j:Nat):∀k,j<k -> ∃i,lZ (nK l k) l[j]!.q=some i
 | 0,h=>by omega
 | k+1,h=>by
  rw[nK,Nj]
  by_cases e:l[k]!.q=l[j]!.q
  . exact⟨_,X0 e⟩
  rw[XW e];exact KS l j k (by rcases Nat.lt_succ_iff_lt_or_eq.1 h with h|h;exact h;subst h;exact absurd rfl e)
def VP{l:List Sgd}{j:Nat}(h:j<l.length):0<=aR l l[j]!.q:=by
 obtain⟨i,hi⟩:=KS l j l.length h
 obtain⟨m,rfl,_,_⟩:=FH l _ _ (X3 _) i hi
 unfold aR
 rw[hi]
 exact Int.natCast_nonneg m
def VO{l:List Sgd}{s:Sgd}(h:s∈l):0<=aR l s.q:=by
 obtain⟨i,hi,rfl⟩:=nS.1 h
 exact VP hi
def VQ{z:Zon}{q:Qst}(hz:aJ z=true)(hq:ai q.name=true)(h:dN z.sets q=true):0<=aR z.sets q:=by
 have oz:mo z:=yt.1 (by unfold aJ at hz;simp only[XT]at hz;exact hz.1.1.1.1.1)
 have e1:=DD oz.ord oz.nms (q:=q) hq
 rw[X0 h]at e1
 obtain⟨hm,e⟩:=Ml e1
 have:=VO hm
 rwa [e]at this
abbrev TM:=List (Str×Int)
def pQ(m:TM):List D:=m.flatMap λp=>[.v (.string (bs p.1)),.i p.2]
theorem xe(p:Str×Int)(m:TM):pQ (p::m) = .v (.string (bs p.1)) :: .i p.2::pQ m:=rfl
@[go_sem]theorem kvN_nil:pQ []=[]:=rfl
def jZ:TM->Str->Int
 | p::m,n=>if p.1=n then p.2 else jZ m n
 | [],_=>0
def yz:TM->Str->Int->TM
 | p::m,n,v=>if p.1=n then(n,v)::m else p::yz m n v
 | [],n,v=>[(n,v)]
theorem MU{a b:Str}:jg (.v (.string (bs a))) (.v (.string (bs b)))=decide (a=b):=by
 rw[YN]
 simp[jg,kw,kz]
@[go_sem]theorem kvGetD_N{m:TM}{n:Str}:(iL (pQ m) (.v (.string (bs n)))).getD (.v (.int .i64 0)) = .v (.int .i64 (jZ m n)):=by
 induction m with
 | nil=>rfl
 | cons p m ih =>
  rw[xe];simp only[iL,MU,jZ]
  by_cases h:p.1=n
  . subst h;simp
  .
   have h2 : ¬n=p.1:=λe=>h e.symm
   simp only[h,h2,decide_false,Yd,YT];exact ih
@[go_sem]theorem kvSet_N{m:TM}{n:Str}{v:Int}:iK (pQ m) (.v (.string (bs n))) (.v (.int .i64 v))=pQ (yz m n v):=by
 induction m with
 | nil=>rfl
 | cons p m ih =>
  rw[xe];simp only[iK,MU,yz]
  by_cases h:p.1=n
  . rw[X0 h];simp[xe,h]
  .
   have h2 : ¬n=p.1:=λe=>h e.symm
   rw[XW h];simp only[h2,decide_false,Yd,YT,ih,xe]
@[go_sem]theorem Wq{m:TM}:bK (pQ m)=true:=by
 induction m with
 | nil=>rfl
 | cons p m ih=>rw[xe];simp only[bK,ih,D.nr,ZW]
@[go_sem]theorem wks_kvN{m:TM}:dA (pQ m)=pQ m:=by
 induction m with
 | nil=>rfl
 | cons p m ih=>rw[xe];simp only[dA,wk,ih]
def vJ : ∃f:(IntKind->Int->Int->Int)×(IntKind->Int->Int->Int)×(IntKind->Int->Int->Int)×(Int->Int),(∀k a b,f.1 k a b=wQ k a b)/\(∀k a b,f.2.1 k a b=Ew k a b)/\(∀k a b,f.2.2.1 k a b=Eu k a b) /\ ∀t,f.2.2.2 t=IntKind.i64.wrap (1*2^(min t.toNat 64)) :=
 ⟨(wQ,Ew,Eu,λt=>IntKind.i64.wrap (1*2^(min t.toNat 64))),λ_ _ _=>rfl,λ_ _ _=>rfl,λ_ _ _=>rfl,λ_=>rfl⟩
noncomputable def pF:IntKind->Int->Int->Int:=(Classical.choose vJ).1
noncomputable def Bp:IntKind->Int->Int->Int:=(Classical.choose vJ).2.1
noncomputable def Et:IntKind->Int->Int->Int:=(Classical.choose vJ).2.2.1
noncomputable def Bn:Int->Int:=(Classical.choose vJ).2.2.2
theorem FR(k:IntKind)(a b:Int):pF k a b=wQ k a b:=(Y9 vJ).1 k a b
theorem QF(k:IntKind)(a b:Int):Bp k a b=Ew k a b:=(Y9 vJ).2.1 k a b
theorem QG(k:IntKind)(a b:Int):Et k a b=Eu k a b:=(Y9 vJ).2.2.1 k a b
theorem Qu(t:Int):Bn t=IntKind.i64.wrap (1*2^(min t.toNat 64)):=(Y9 vJ).2.2.2 t
noncomputable def nz(l:List Sgd):Nat->TM
 | 0=>[]
 | k+1=>yz (nz l k) l[k]!.set.name (pF .i64 (jZ (nz l k) l[k]!.set.name) (Bn l[k]!.set.ty))
@[go_sem]theorem typTo_0{l:List Sgd}:nz l 0=[]:=rfl
def qK(l:List Sgd):Nat->Int
 | 0=>0
 | k+1=>if l[k]!.set.ty=4 then l[k]!.set.data[0]!.m else qK l k
noncomputable def xD(a:Str)(t:TM)(n:Str):Int :=
 if n≠a/\Bp .i64 (pF .i64 (jZ t n) 256) 4≠0 then Et .i64 (pF .i64 (jZ t n) 256) 2 else pF .i64 (jZ t n) 256
noncomputable def Md(z:Zon)(ns:List Str)(i:Nat):RSet:=⟨ns[i]!,8,qK z.sets z.sets.length,[⟨ns[(i+1) % ns.length]!,xD z.apex (nz z.sets z.sets.length) ns[i]!,0⟩]⟩
noncomputable def nextF(z:Zon)(ns:List Str):List RSet:=(List.range ns.length).map (Md z ns)
def Ru{l:List Sgd}{k:Nat}:yz (nz l k) l[k]!.set.name (pF .i64 (jZ (nz l k) l[k]!.set.name) (Bn l[k]!.set.ty))=nz l (k+1):=rfl
@[go_sem]theorem lifeTo_0{l:List Sgd}:qK l 0=0:=rfl
def Xk{l:List Sgd}{k:Nat}(h:l[k]!.set.ty=4):qK l (k+1)=l[k]!.set.data[0]!.m:=X0 h
def Xl{l:List Sgd}{k:Nat}(h : ¬l[k]!.set.ty=4):qK l (k+1)=qK l k:=XW h
noncomputable def yx(z:Zon)(ns:List Str)(k i:Nat):List D :=
 if i<k then[.v (.string (bs ns[i]!)),.i 8,.i (qK z.sets z.sets.length),.list true [[.v (.string (bs ns[(i+1) % ns.length]!)),.i (xD z.apex (nz z.sets z.sets.length) ns[i]!),.i 0]]]
 else[.v (.string (bs [])),.i 0,.i 0,.e]
noncomputable def kV(z:Zon)(ns:List Str)(k:Nat):List (List D):=(List.range ns.length).map (yx z ns k)
theorem z8(z:Zon)(ns:List Str)(k:Nat):(kV z ns k).length=ns.length:=by simp[kV]
def nx_0(z:Zon)(ns:List Str):List.replicate ns.length [D.v (.string (bs [])),.v (.int .i64 0),.v (.int .i64 0),.e]=kV z ns 0:=by
 unfold kV
 refine List.ext_getElem (by simp) λi h1 h2=>?_
 simp[yx]
def Wn{z:Zon}{ns:List Str}{k:Nat}(h:k<ns.length):(kV z ns k).getD k []=[.v (.string (bs [])),.i 0,.i 0,.e]:=by
 unfold kV
 simp[List.getD,h,yx]
def LH{z:Zon}{ns:List Str}{k j:Nat}(h:k<ns.length)(hj:j=(k+1) % ns.length){t:Int}(ht:t=xD z.apex (nz z.sets z.sets.length) ns[k]!):(kV z ns k).set k [.v (.string (bs ns[k]!)),.v (.int .i64 8),.v (.int .i64 (qK z.sets z.sets.length)),.list true [[.v (.string (bs ns[j]!)),.v (.int .i64 t),.v (.int .i64 0)]]]=kV z ns (k+1):=by
 subst ht
 subst hj
 unfold kV
 refine List.ext_getElem (by simp) λi h1 h2=>?_
 rw[List.getElem_set]
 simp only[List.getElem_map,List.getElem_range]
 unfold yx
 by_cases e:k=i
 . subst e;rw[X0 rfl,X0 (Nat.lt_succ_self _)]
 rw[XW e]
 by_cases e2:i<k
 . rw[X0 e2,X0 (Nat.lt_succ_of_lt e2)]
 rw[XW e2,XW (by omega)]
theorem LJ(z:Zon)(ns:List Str)(k:Nat):aZ (kV z ns k)=true:=by
 unfold kV
 generalize List.range ns.length=L
 induction L with
 | nil=>rfl
 | cons i L ih =>
  simp only[X8,aZ,ih,Bool.and_true];unfold yx
  split<;>simp[bK,D.nr,aZ]
theorem Wo(z:Zon)(ns:List Str):cK (kV z ns ns.length)=(nextF z ns).map RSet.d:=by
 unfold kV nextF
 rw[zB,List.map_map,List.map_map]
 refine YG λi hi=>?_
 have hi2:i<ns.length:=YU.1 hi
 simp only[Function.comp_apply,yx]
 rw[X0 hi2]
 rfl
def ZaC{a n:Str}{t:TM}(h:n≠a/\Bp .i64 (pF .i64 (jZ t n) 256) 4≠0):Et .i64 (pF .i64 (jZ t n) 256) 2=xD a t n:=(X0 h).symm
def ZaD{a n:Str}{t:TM}(h:n=a\/Bp .i64 (pF .i64 (jZ t n) 256) 4=0):pF .i64 (jZ t n) 256=xD a t n:=(XW (by rintro⟨h1,h2⟩;exact h.elim h1 h2)).symm
def QS{z:Zon}(hz:aJ z=true){i:Nat}(hi:i<z.sets.length):vO z.sets[i]!.set:=by
 refine(iE _).1 ?_
 have h1:ordered z=true:=by unfold aJ at hz;simp only[XT]at hz;exact hz.1.1.1.1.1
 unfold ordered at h1
 simp only[XT]at h1
 have h2:=(dO _ _ _).1 h1.2 i (Yk _) hi
 unfold ik at h2
 simp only[XT]at h2
 exact h2.1.1
def plainOf(z:Zon):Zon:=⟨z.apex,aS z.sets⟩
noncomputable def gG(z:Zon):Zon×Int :=
 if aJ z=false then(⟨[],[]⟩,1)
 else if aJ (plainOf z)=false then(⟨[],[]⟩,1)
 else if 20000<(plainOf z).sets.length+(bf (plainOf z)).length then(⟨[],[]⟩,2)
 else(⟨z.apex,Eh (plainOf z).sets (nextF (plainOf z) (bf (plainOf z)))⟩,0)
def bQ(ks:List SKey):List SKey:=ks.mergeSort λa b=>decide (a.n<=b.n)
def l8(ks:List SKey):Bool:=!decide (ks.map SKey.n).Nodup
theorem uC(ks:List SKey):(bQ ks).Perm ks:=List.mergeSort_perm _ _
def JV(ks:List SKey):(bQ ks).Pairwise λa b=>a.n<=b.n:=by
 have:=List.pairwise_mergeSort (le:=λa b:SKey=>decide (a.n<=b.n)) (λa b c h1 h2=>by simp at *;omega) (λa b=>by simp;omega) ks
 exact this.imp λh=>by simpa using h
theorem SF{ks l:List SKey}(hp:l.Perm ks)(hs:l.Pairwise λa b=>a.n<=b.n)(hd:l8 ks=false):l=bQ ks:=by
 have hn:(ks.map SKey.n).Nodup:=by simpa[l8]using hd
 have hm : ∀a b:SKey,a∈ks->b∈ks->a.n<=b.n->b.n<=a.n->a=b:=by
  intro a b ha hb h1 h2;have e:a.n=b.n:=by omega
  clear hp hs hd h1 h2
  induction ks with
  | nil=>cases ha
  | cons x ks ih =>
   rw[X8,List.nodup_cons]at hn
   rcases Yv.1 ha with e1|ha2
   .
    rcases Yv.1 hb with e2|hb2
    . rw[e1,e2]
    exact absurd (e1▸e▸List.mem_map_of_mem hb2) hn.1
   rcases Yv.1 hb with e2|hb2
   . exact absurd (e2▸e▸List.mem_map_of_mem ha2) hn.1
   exact ih hn.2 ha2 hb2
 exact List.Perm.eq_of_pairwise (λa b ha hb h1 h2=>hm a b (hp.mem_iff.1 ha) ((uC ks).mem_iff.1 hb) h1 h2) hs (JV ks) (hp.trans (uC ks).symm)
def kL(z:Zon)(ks:List SKey)(f u:Int)(i:Nat):Bool:=!eO (aN z) i||ks.all λk=>decide ((bW z.sets[i]!.set z.apex k f u).2=0)
def allR(z:Zon)(ks:List SKey)(f u:Int):Zon×Int :=
 if ks.length<1\/6<ks.length\/jy f u=false\/aJ z=false then(⟨[],[]⟩,1)
 else if ks.all mD=false then(⟨[],[]⟩,1)
 else if l8 ks=true then(⟨[],[]⟩,5)
 else if aB z.sets.length (kL z (bQ ks) f u) 0=false then(⟨[],[]⟩,1)
 else(eU z (bQ ks) f u,0)
def CO{a n:Int}(h:a<n):∀i,i<[a].length->[a][i]! < n:=CL λx hx=>by rw[Yi.1 hx];exact h
def yG{a b n:Int}(h:a<n)(k:b<n):∀i,i<[a,b].length->[a,b][i]! < n:=CL λx hx=>by
 rcases Yv.1 hx with e|e
 . rw[e];exact h
 rw[Yi.1 e];exact k
def Ag{a b c n:Int}(h:a<n)(k:b<n)(m:c<n):∀i,i<[a,b,c].length->[a,b,c][i]! < n:=CL λx hx=>by
 rcases Yv.1 hx with e|e
 . rw[e];exact h
 rcases Yv.1 e with e|e
 . rw[e];exact k
 rw[Yi.1 e];exact m
@[go_sem]theorem ZeU{f:Bool}{l:List Int}{k:Nat}:lY (.list f ((l.map iR).take k))=l.take k:=by rw[<-Z6];exact Zaf
@[go_sem]theorem ZdO{l:List Int}{k:Nat}:cK ((l.map iR).take k)=(l.map iR).take k:=by rw[<-Z6];exact Q5
@[go_sem]theorem iR_snoc{l:List Int}{x:Int}:(l++[x]).map iR=l.map iR++[[.v (.int .i64 x)]]:=by simp[iR]
def ints_1{f:Bool}{k:IntKind}{a:Int}:lY (.list f [[.v (.int k a)]])=[a]:=rfl
def ints_2{f:Bool}{k k':IntKind}{a b:Int}:lY (.list f [[.v (.int k a)],[.v (.int k' b)]])=[a,b]:=rfl
def ints_3{f:Bool}{k k' l:IntKind}{a b c:Int}:lY (.list f [[.v (.int k a)],[.v (.int k' b)],[.v (.int l c)]])=[a,b,c]:=rfl
attribute[go_sem]ints_1 ints_2 ints_3
def srS(f:D):Nat:=match f with
 | .fn (.func k) _ [x,y]=>if k=245 then rO (rJ x).z.sets (rQ y)else tL (rJ x).z.sets (rQ y)
 | _=>0
def srS_e{x y:D}:srS (.fn (.func 203) [] [x,y])=tL (rJ x).z.sets (rQ y):=rfl
def srS_u{x y:D}:srS (.fn (.func 245) [] [x,y])=rO (rJ x).z.sets (rQ y):=rfl
attribute[go_sem]srS_e srS_u
end Go.Zon
namespace Go.Jn
open Go.DL Go.Str Go.Rec Go.Cmp Go.Zon
structure SigSz(g:RSig):Prop where
 zone:g.zone.length<=255
 key:i64 g.key
 alg:i64 g.alg
 frm:i64 g.frm
 unt:i64 g.unt
 sum:0<=g.sum/\g.sum<18446744073709551616
structure QM(s:Sgd):Prop where
 set:vO s.set
 len:s.sigs.length<=255
 sig : ∀g∈s.sigs,SigSz g
def Zch{d:Dat}(h:IZ d/\d.t.length<=60/\0<=d.n/\0<=d.m):(ze d).length<=77:=by
 simp[ze,fH,mZ]
 omega
theorem Oi{α:Type}{f:α->Str}{n:Nat}:∀{l:List α},(∀x∈l,(f x).length<=n)->(l.flatMap f).length<=l.length*n
 | [],_=>by simp
 | x::l,h=>by
  rw[Z5,YE,YI,Za,Nat.one_mul];have h1:=h x (by simp)
  have h2:=Oi (f:=f) (n:=n) (l:=l) λy hy=>h y (by simp[hy])
  omega
def TS{s:RSet}(h:vO s):(yc s).length<=1000:=by
 have h1:=gT h.name
 have h2:=Oi (f:=ze) (n:=77) (l:=s.data) λd hd=>Zch (PD h.ty (h.dat d hd))
 have h3:=h.len
 simp[yc,fH,mZ]at h2 ⊢
 omega
structure QstSz(q:Qst):Prop where
 name:q.name.length<=255
 ty:0<=q.ty/\q.ty<=255
structure DltSz(d:jS):Prop where
 apex:d.apex.length<=255
 frm:i64 d.frm
 too:i64 d.too
 drop:d.drop.length<4294967296
 dropq : ∀q∈d.drop,QstSz q
 put:d.put.length<4294967296
 puts : ∀s∈d.put,QM s
structure ZonSz(z:Zon):Prop where
 apex:z.apex.length<=255
 len:z.sets.length<4294967296
 sets : ∀d∈z.sets,QM d
def fr(c:nk)(b:Str):List (Zon×Nat):=match c with
 | none=>frs b
 | some z=>more z b
end Go.Jn
namespace Go.DL
variable [Dr]
open Go.RowKit
variable {P : Program} {C : aH} {B : bH}

end Go.DL
namespace Go.DL
variable [Dr]
open Go.RowKit
section
variable {P : Program} {ro : Option Nat} {Q : Exit -> S -> Prop} [aa P] (C : aH) {s s1 : S} {n nx : Nat} {t : Nat -> D} {h : H} {ok : Prop} {e : Env} {id : Nat} {ops : Array Oper} {y : Code}
def ER(ps:List Pr)(hq:DW P ro y Q ⟨n,t,h,nx,True,e⟩)(he:exec P (words P) C ops.toList s=⟨n,t,h,nx,ok,e⟩:=by simp only[go_sem,ff];exact rfl)(hd:P.follows .mixedOrders=true/\rA C ops.toList none ps=true/\mf ops.toList=true:=by exact⟨mix,by kernel_rfl,by kernel_rfl⟩)
  (xC : ∀p∈ps,∀r∈iN ops.toList s.nx p.j ⟨n,t,h,nx,ok,e⟩,r ∉ iN ops.toList s.nx p.i ⟨n,t,h,nx,ok,e⟩:=by simp only[Yv,ZZ,or_false,forall_eq_or_imp,forall_eq,iN,foot,au,mK,X8,Yp,List.getD_cons_succ,List.getD_cons_zero,XX,XZ,Zg,go_sem,ff];(first|done|((repeat' (with_reducible apply And.intro))<;>first|omega|(intros;omega)|(intros;simp;omega))))
  (hok:ok:=by(try simp only[go_sem,ff]);all_goals exact ok0):DW P ro (.seq (.region id ops true) y) Q s:=aY (Ph ps hd he xC hok hq)
end
end Go.DL
namespace Go.DL
variable [Dr]
open Go.RowKit
variable {P : Program} {ro : Option Nat} {Q : Exit -> S -> Prop}
section
variable [aa P] {C : aH} {s s1 : S} {ops : Array Oper} {i b : Nat} {o : Oper}
end
end Go.DL
namespace Go.DL
variable [Dr]
open Go.RowKit
variable {P : Program} {ro : Option Nat} {Q : Exit -> S -> Prop}
def Zcr [aa P]{h:H}{g:Mem}{w:World}(hm:HM P h g w){t u e:TypeId}{r off len:Nat}{rows:List (List D)}{y:D}{vx vy:Value}(ht:P.underlying t=some (.slice e))(hr:h r=some ⟨e,rows⟩)
  (hx:ag w g (.mrow r off len) vx)(hy:ag w g y vy)(hl:(aj y h).length=aV y)(hs:ek P u h y=true)(hrl : ∀q∈aj y h,q.length=P.cellsOf e)(h0:0<aV y)(hk:aV y<=len)(ho:off<=rows.length)(ty:TypeId) :
  ∃g' w',(Builtin.copy_ #[t,u] ty #[vx,vy]).run P w = .ok (.int .i64 (aV y:Nat)) w'/\HM P (upd h r (some ⟨e,rows.take off++aj y h++rows.drop (off+aV y)⟩)) g' w'/\ay g g' w w' /\ ∀q,g'.U q->g.U q:=by
 obtain⟨blk,c,h1,h2,h3,h4,h5⟩:=hm.blk r _ hr
 simp only at h1 h2 h3
 obtain⟨news,r1,l1,f1,_⟩:=uH hm hy h2 hl hrl hs
 cases hx with|mrow _ _ _ _ eQ hU hvv =>
 obtain⟨p1,p2⟩:=hvv _ _ _ h1
 rcases p2 with⟨e0,a,rfl⟩|⟨e0,b,rfl,rfl⟩
 .
  obtain⟨a',c',e1,e2,_⟩:=eQ
  cases e1
  omega
 obtain⟨cur,c1,c2,c3⟩:=BA hm (off:=off) hr h1 p1.2 r1 ho (by rw[hl];exact Yx (Nat.add_le_add_left hk _) p1.1)
 obtain⟨g',q1,q2,q3,q4,q5⟩:=c3 _ rfl
 rw[hl]at q3
 have hst:=run_storeCells_at P b (off*P.cellsOf e) e news 0 cur w c1 (by simpa using c2) r1.one
 simp only[Zy]at hst
 have hmin:Nat.min (aV y) len=aV y:=Z0 hk
 refine⟨g',_,?_,q3,q4,q5⟩
 simp[Builtin.copy_,run_underlying ht,l1,lD h2,hmin,f1,hst,goInt]
def Uf [aa P]{C:aH}{s s1:S}{ops:Array Oper}{i b:Nat}(k:Nat){o:Oper}{t u e:TypeId}{x y:Operand}{r off len m:Nat}{yd:D}{rows news:List (List D)}(z9:gX P C ops i k o b s s1)
  (hop:o.op = .call { callee:=.builtin .copy,args:=#[x,y],argTypes:=#[t,u] })(ht:P.underlying t=some (.slice e))
  (hx:s1.ev x = .mrow r off len)(hy:s1.ev y=yd)(hr:s1.h r=some ⟨e,rows⟩)
  (hnw:aj yd s1.h=news)(hm:aV yd=m)(hl:news.length=m)(hs:ek P u s1.h yd=true)(hrl : ∀q∈news,q.length=P.cellsOf e)(h0:0<m)(AB:m<=len)(hlo:off<=rows.length)
  (hk:bg P ro ops (k+1) b { n:=s1.n,t:=s1.put o.dst (.i m),h:=upd s1.h r (some ⟨e,rows.take off++news++rows.drop (off+m)⟩),nx:=s1.nx,ok:=True,e:=s1.e } Q):bg P ro ops i b s Q:=by
 obtain⟨hik,ho,hg,he,hok,hd⟩:=z9
 subst hy
 subst hnw
 subst hm
 refine nD (C:=C) k (λd h'=>d = .i (aV (s1.ev y):Nat)/\h'=upd s1.h r (some ⟨e,rows.take off++aj (s1.ev y) s1.h++rows.drop (off+aV (s1.ev y))⟩)) hik ho hg (λc e=>by rw[hop]at e;cases e) he hok hd (λB g a w hst _=>?_) (λd h'⟨hy,hh⟩=>by subst hy;subst hh;exact hk)
 have hv:=cu hst x
 rw[hx]at hv
 obtain⟨g',w',q1,q2,q3,q4⟩:=Zcr (u:=u) hst.mem ht hr hv (cu hst y) hl hs hrl h0 AB hlo o.type
 refine⟨_,_,⟨rfl,rfl⟩,_,g',w',.inl ?_,.v _,q2,q3,λr hr=>.inl (q4 r hr)⟩
 obtain⟨od,oo,lM,op,oa,og⟩:=o
 simp only at hop
 subst hop
 simp[Go.BigFrame.execOp_builtin,Go.BigFrame.builtin_copy,q1]
def TU [aa P]{C:aH}{s s1:S}{ops:Array Oper}{i b:Nat}(k:Nat){o:Oper}(d:D)(v:Value)(hik:i<=k)(ho:ops[k]? = some o)(hg:o.guard=none)(hdef : ∀c,o.op ≠ .defer c)
  (he:bB P (words P) C ops.toList b i ((ops.toList.drop i).take (k-i)) s=s1)(hok:s1.ok)(hd:bS s1.n o.dst=true)
  (hrun : ∀(B:bH)(g:Mem)(a:Act)(w:World),St P B s1 g a w->(execOp a.eval o).run P w = .ok (.value v) w/\ag w g d v)
  (hk:bg P ro ops (k+1) b { n:=s1.n,t:=s1.put o.dst d,h:=s1.h,nx:=s1.nx,ok:=True,e:=s1.e } Q):bg P ro ops i b s Q :=
 nD (C:=C) k (λd' h'=>d'=d/\h'=s1.h) hik ho hg hdef he hok hd (λB g a w hst _=>by
  obtain⟨h1,h2⟩:=hrun B g a w hst;exact⟨_,_,⟨rfl,rfl⟩,v,g,w,.inl h1,h2,hst.mem,ay.refl _ _,λr hr=>.inl hr⟩) (λd' h'⟨hy,hh⟩=>by subst hy;subst hh;exact hk)
section
variable [aa P] {C : aH} {s s1 : S} {ops : Array Oper} {i b : Nat}
end
section
variable [aa P] {C : aH} {s s1 : S} {ops : Array Oper} {i b : Nat}
end
section
variable [aa P] (C : aH) {s s1 : S} {ops : Array Oper} {i b : Nat} {o : Oper} (k : Nat)
def ZaN{t u e:TypeId}{x y:Operand}{r off len m:Nat}{yd:D}{rows news:List (List D)}(hk:bg P ro ops (k+1) b { n:=s1.n,t:=s1.put o.dst (.i m),h:=upd s1.h r (some ⟨e,rows.take off++news++rows.drop (off+m)⟩),nx:=s1.nx,ok:=True,e:=s1.e } Q)
  (z9:gX P C ops i k o b s s1:=by exact pos)(hop:o.op = .call { callee:=.builtin .copy,args:=#[x,y],argTypes:=#[t,u] }:=by exact rfl)(ht:P.underlying t=some (.slice e):=by kernel_rfl)
  (hx:s1.ev x = .mrow r off len:=by simp only[go_sem,ff];first|done|exact rfl)(hy:s1.ev y=yd:=by simp only[go_sem,ff];first|done|exact rfl)(hr:s1.h r=some ⟨e,rows⟩:=by simp only[go_sem,ff];first|done|exact rfl)(hnw:aj yd s1.h=news:=by simp only[aj,go_sem,ff];first|done|exact rfl)(hm:aV yd=m:=by first|rfl|(simp only[aV,go_sem,ff];done)|(simp[aV];done)|(simp[aV];omega))(hl:news.length=m:=by first|(simp only[go_sem,ff];done)|(simp;done)|(simp;omega))(hs:ek P u s1.h yd=true:=by simp only[go_sem,ff])
  (hrl : ∀q∈news,q.length=P.cellsOf e:=by simp only[go_sem,ff])(h0:0<m:=by first|omega|(simp;done)|(simp;omega))(AB:m<=len:=by first|omega|(simp;done)|(simp;omega))(hlo:off<=rows.length:=by first|omega|(simp;done)|(simp;omega)):bg P ro ops i b s Q:=Uf k z9 hop ht hx hy hr hnw hm hl hs hrl h0 AB hlo hk
end
theorem dw_to [aa P]{c:Code}{s:S}(fx:List (Nat×D))(h2:H)(n2 nx2:Nat)(e2:Env)(h:DW P ro c Q { n:=n2,t:=tab fx,h:=h2,nx:=nx2,e:=e2 })(hfx:fx.map (λp=>s.t p.1)=fx.map Prod.snd:=by rfl)(hh:s.h=h2:=by rfl)(hn:s.n=n2:=by rfl)(hx:s.nx=nx2:=by rfl)(he:s.e=e2:=by rfl):DW P ro c Q s:=by
 subst hh
 subst hn
 subst hx
 subst he
 have key : ∀l:List (Nat×D),l.map (λp=>s.t p.1)=l.map Prod.snd -> ∀p∈l,s.t p.1=p.2:=by
  intro l
  induction l with
  | nil=>intro _ p hp;cases hp
  | cons q l ih =>
   intro e p hp;simp only[X8,Yt]at e
   rcases Yv.1 hp with rfl|hp
   . exact e.1
   exact ih e.2 p hp
 exact H7 fx s.h s.nx (λp hp=>Or.inl (key fx hfx p hp)) (λ_=>.inl rfl) (X3 _) h
def Ub [aa P]{C:aH}{s s1:S}{ops:Array Oper}{i b:Nat}(k:Nat){o:Oper}{t t':TypeId}{x y:Operand}{q:IntKind}{m n v:Int}(hv:q.wrap (m*n)=v)(z9:gX P C ops i k o b s s1)
  (hop:o.op = .binOp .mul t x y t')(hq:q.signed=false)
  (hx:s1.ev x = .v (.int q m))(hy:s1.ev y = .v (.int q n))
  (hk:bg P ro ops (k+1) b { n:=s1.n,t:=s1.put o.dst (.v (.int q v)),h:=s1.h,nx:=s1.nx,ok:=True,e:=s1.e } Q):bg P ro ops i b s Q:=by
 obtain⟨hik,ho,hg,he,hok,hd⟩:=z9
 refine TU (C:=C) k (.v (.int q v)) (.int q v) hik ho hg (λc e=>by rw[hop]at e;cases e) he hok hd (λB g a w hst=>?_) hk
 have h1:=cu hst x
 rw[hx]at h1
 have h1:=h1.v_inv
 have h2:=cu hst y
 rw[hy]at h2
 have h2:=h2.v_inv
 refine⟨?_,.v _⟩
 obtain⟨od,oo,lM,op,oa,og⟩:=o
 simp only at hop
 subst hop
 simp[execOp,h1,h2,eqGuard,binOp,Op.intArith,hv]
section
variable [aa P] (C : aH) {s s1 : S} {ops : Array Oper} {i b : Nat} {o : Oper} (k : Nat)
def gmulu{t t':TypeId}{x y:Operand}{q:IntKind}{m n v:Int}(hv:q.wrap (m*n)=v)(hk:bg P ro ops (k+1) b { n:=s1.n,t:=s1.put o.dst (.v (.int q v)),h:=s1.h,nx:=s1.nx,ok:=True,e:=s1.e } Q)
  (z9:gX P C ops i k o b s s1:=by exact pos)(hop:o.op = .binOp .mul t x y t':=by exact rfl)(hq:q.signed=false:=by rfl)
  (hx:s1.ev x = .v (.int q m):=by simp only[go_sem,ff];first|done|exact rfl)(hy:s1.ev y = .v (.int q n):=by simp only[go_sem,ff];first|done|exact rfl):bg P ro ops i b s Q:=Ub k hv z9 hop hq hx hy hk
end
def Ua [aa P]{C:aH}{s s1:S}{ops:Array Oper}{i b:Nat}(k:Nat){o:Oper}{x:Operand}{r j off:Nat}(hik:i<=k)(ho:ops[k]? = some o)(hg:o.guard=none)(hop:o.op = .nilCheck x)
  (he:bB P (words P) C ops.toList b i ((ops.toList.drop i).take (k-i)) s=s1)(hok:s1.ok)(hd:bS s1.n o.dst=true)(hx:s1.ev x = .mptr r j off)
  (hk:bg P ro ops (k+1) b { n:=s1.n,t:=s1.put o.dst (.mptr r j off),h:=s1.h,nx:=s1.nx,ok:=True,e:=s1.e } Q):bg P ro ops i b s Q:=by
 refine nD (C:=C) k (λd' h'=>d' = .mptr r j off/\h'=s1.h) hik ho hg (λc e=>by rw[hop]at e;cases e) he hok hd (λB g a w hst _=>?_) (λd h'⟨hy,hh⟩=>by subst hy;subst hh;exact hk)
 have h1:=cu hst x
 rw[hx]at h1
 have h2:=h1
 generalize hv:a.eval x=v at h2
 cases h2 with|mptr _ _ _ _ eQ _ _ =>
 obtain⟨p,rfl⟩:=eQ
 refine⟨_,_,⟨rfl,rfl⟩,_,g,w,.inl ?_,h1,hst.mem,ay.refl _ _,λr hr=>.inl hr⟩
 obtain⟨od,oo,lM,op,oa,og⟩:=o
 simp only at hop
 subst hop
 simp[execOp,hv]
def TV [aa P]{C:aH}{s s1:S}{ops:Array Oper}{i b:Nat}(k:Nat){o:Oper}{t e:TypeId}{x y:Operand}{r:Nat}{c d:D}(hik:i<=k)(ho:ops[k]? = some o)(hg:o.guard=none)(hop:o.op = .store t x y)
  (he:bB P (words P) C ops.toList b i ((ops.toList.drop i).take (k-i)) s=s1)(hok:s1.ok)(hd:bS s1.n o.dst=true)(hx:s1.ev x = .mptr r 0 0)(hy:s1.ev y=d)(hr:s1.h r=some ⟨e,[[c]]⟩)(ht:P.cellsOf t=1)(hc:d.cells=[d])(h1:d.one=true)
  (hk:bg P ro ops (k+1) b { n:=s1.n,t:=s1.put o.dst (.v undef),h:=upd s1.h r (some ⟨e,[[d]]⟩),nx:=s1.nx,ok:=True,e:=s1.e } Q):bg P ro ops i b s Q:=by
 have Au:(eF P t (.mptr r 0 0) d s1.h).1=upd s1.h r (some ⟨e,[[d]]⟩):=by
  unfold eF;simp only[hr,hc];rfl
 refine nD (C:=C) k (λd' h'=>d' = .v undef/\h'=upd s1.h r (some ⟨e,[[d]]⟩)) hik ho hg (λc e=>by rw[hop]at e;cases e) he hok hd (λB g a w hst _=>?_) (λd h'⟨hy,hh⟩=>by subst hy;subst hh;exact hk)
 have q1:=cu hst x
 rw[hx]at q1
 have q2:=cu hst y
 rw[hy]at q2
 obtain⟨g',w',k1,k2,k3,k4⟩:=JH (t:=t) hst.mem q1 q2 (by unfold eF;simp only[hr,hc];exact⟨by simp[ht],om,by simp,by simp,by simp[h1]⟩)
 rw[Au]at k2
 refine⟨_,_,⟨rfl,rfl⟩,undef,g',w',.inr ⟨?_,rfl⟩,.v _,k2,k3,λr hr=>.inl (k4 r hr)⟩
 obtain⟨od,oo,lM,op,oa,og⟩:=o
 simp only at hop
 subst hop
 simp[execOp,k1]
section
variable [aa P] (C : aH) {s s1 : S} {ops : Array Oper} {i b : Nat} {o : Oper} (k : Nat)
def gnilc{x:Operand}{r j off:Nat}(hk:bg P ro ops (k+1) b { n:=s1.n,t:=s1.put o.dst (.mptr r j off),h:=s1.h,nx:=s1.nx,ok:=True,e:=s1.e } Q)
  (hik:i<=k:=by omega)(ho:ops[k]? = some o:=by exact oZ rfl)(hg:o.guard=none:=by exact rfl)(hop:o.op = .nilCheck x:=by exact rfl)(he:bB P (words P) C ops.toList b i ((ops.toList.drop i).take (k-i)) s=s1:=by first|rfl|(simp only[Yw,Yl,YD,Y0,S.put,Zn,Nat.reduceSub,go_sem,ff];first|done|exact rfl))(hok:s1.ok:=by(try simp only[go_sem,ff]);all_goals exact ok0)(hd:bS s1.n o.dst=true:=by(try simp only[go_sem,ff]);all_goals (first|done|rfl|decide|simp))(hx:s1.ev x = .mptr r j off:=by first|rfl|(simp only[go_sem,ff];first|done|exact rfl)):bg P ro ops i b s Q:=Ua k hik ho hg hop he hok hd hx hk
def gst1{t e:TypeId}{x y:Operand}{r:Nat}{c d:D}(hk:bg P ro ops (k+1) b { n:=s1.n,t:=s1.put o.dst (.v undef),h:=upd s1.h r (some ⟨e,[[d]]⟩),nx:=s1.nx,ok:=True,e:=s1.e } Q)
  (hik:i<=k:=by omega)(ho:ops[k]? = some o:=by exact oZ rfl)(hg:o.guard=none:=by exact rfl)(hop:o.op = .store t x y:=by exact rfl)(he:bB P (words P) C ops.toList b i ((ops.toList.drop i).take (k-i)) s=s1:=by first|rfl|(simp only[Yw,Yl,YD,Y0,S.put,Zn,Nat.reduceSub,go_sem,ff];first|done|exact rfl))(hok:s1.ok:=by(try simp only[go_sem,ff]);all_goals exact ok0)(hd:bS s1.n o.dst=true:=by(try simp only[go_sem,ff]);all_goals (first|done|rfl|decide|simp))(hx:s1.ev x = .mptr r 0 0:=by first|rfl|(simp only[go_sem,ff];first|done|exact rfl))(hy:s1.ev y=d:=by first|rfl|(simp only[go_sem,ff];first|done|exact rfl))(hr:s1.h r=some ⟨e,[[c]]⟩:=by first|(simp only[bu];done)|(simp only[go_sem,ff];first|done|exact rfl))(ht:P.cellsOf t=1:=by kernel_rfl)(hc:d.cells=[d]:=by rfl)(h1:d.one=true:=by rfl):bg P ro ops i b s Q:=TV k hik ho hg hop he hok hd hx hy hr ht hc h1 hk
def gend(C:aH)(hq:Q .normal s.clear)(hi:i=ops.size:=by rfl)(hok:s.ok:=by trivial)(hn:s.nx=b+ops.size:=by rfl):bg P ro ops i b s Q:=by
 subst hi
 exact BZ (C:=C) (X3 _) (by rw[List.drop_of_length_le (by simp)];rfl) hok hn hq
end
end Go.DL
namespace Go.DL
variable [Dr]
open Go.RowKit
variable {P : Program} {C : aH} {B : bH}
section
variable [aa P] (C : aH) {ro : Option Nat} {Q : Exit -> S -> Prop} {s sq : S} {ops : Array Oper} {id : Nat} {y : Code}
end
end Go.DL
namespace Go.DL
variable [Dr]
open Go.RowKit
theorem Rl{h:H}{r:Nat}{a b:Option av}:upd (upd h r a) r b=upd h r b:=by
 funext q
 unfold upd
 split<;>rfl
variable {P : Program} {C : aH} {B : bH}
structure DrawL(C:aH)(ops:Array Oper)(k1 k3 k2:Nat):Prop where
 lt:k1<k3
 le3:k3<=k2
 le:k2<=ops.size
 back : ∀(i:Nat)o,ops.toList[i]? = some o -> ∀e∈o.after.toList,Region.binds .any e=true->e.on<i
 ord : ∀i,k2<=i->i<ops.size -> ∀j,j<i->((dC ops.toList []).getD i 0).testBit j=true
 quiet : ∀(i:Nat)o,i<k3->i≠k1->((dC ops.toList []).getD k1 0).testBit i=false->ops.toList[i]? = some o->nG C o=true
 wait : ∀i,k3<=i->i<k2->((dC ops.toList []).getD i 0).testBit k1=true
 comm : ∀(i j:Nat)x y,i<k2->j<i->i≠k1->j≠k1->ops.toList[j]? = some x->ops.toList[i]? = some y->((dC ops.toList []).getD i 0).testBit j=true\/jv C ops.toList x y=true
 call : ∀(i:Nat)x y,i<k3->i≠k1->ops.toList[i]? = some x->ops.toList[k1]? = some y->((dC ops.toList []).getD k1 0).testBit i=true\/fI ops.toList x y=true
 late : ∀(i j:Nat)x y,i<=j->j<k3->i≠k1->j≠k1->ops.toList[i]? = some x->ops.toList[j]? = some y -> ∀z∈looks ops.toList x,y.dst≠some z
section
variable [aa P] (C : aH) {ro : Option Nat} {Q : Exit -> S -> Prop} {s sq : S} {ops : Array Oper} {id : Nat} {y : Code}
end
end Go.DL
namespace Go.Proofs.YtdcenbhgholncaaGreatDoor
open Go.Proofs.Tryz
open Go.DL Go.Str Go.Rec Go.Cmp Go.Zon
set_option maxRecDepth 10000
variable [Dr]

@[go_sem]theorem sgd_snoc{l:List Sgd}{x:Sgd}:(l++[x]).map Sgd.d=l.map Sgd.d++[[.v (.string (bs x.set.name)),.i x.set.ty,.i x.set.life,.l (x.set.data.map Dat.d),.l (x.sigs.map RSig.d)]]:=by simp[Sgd.d]



end Go.Proofs.YtdcenbhgholncaaGreatDoor
namespace Go.DL
variable [Dr]
open Go.RowKit
variable {P : Program}
def Er{α:Type}{ds:List D}{us:Array α}{i:Nat}{d:D}(hn:ds.length=us.size)(h:ds[i]? = some d):∃u,us[i]? = some u:=by
 have:=(XY.1 h).1
 exact⟨us[i]'(by omega),Zc _⟩
theorem ag.shrink{w w':World}{g g' g2:Mem}(hM:g2.M=g'.M)(hI:g2.I=g'.I)(hU : ∀r,g.U r->g2.U r){d:D}{x:Value}(h:ag w' g' d x):∀{y:Value},ag w g d y->ag w' g2 d x:=by
 induction h with
 | v x=>intro y _;exact .v x
 | agg ds vs hn _ ih =>
  intro y k
  cases k with
  | agg _ us hn2 h2=>exact .agg ds vs hn λi d x h1 h3=>by obtain⟨u,hu⟩:=Er hn2 h1;exact ih i d x h1 h3 (h2 i d u h1 hu)
 | tuple ds vs hn _ ih =>
  intro y k
  cases k with
  | tuple _ us hn2 h2=>exact .tuple ds vs hn λi d x h1 h3=>by obtain⟨u,hu⟩:=Er hn2 h1;exact ih i d x h1 h3 (h2 i d u h1 hu)
 | iface t d x _ ih =>
  intro y k
  cases k with
  | iface _ _ _ h2=>exact .iface t d x (ih h2)
 | empty full a cap hf hm=>intro y _;exact .empty full a cap hf hm
 | list full rows ad cap size cv hi hl hf hm hs hc _ ih =>
  intro y k;refine .list full rows ad cap size cv (by rw[hI];exact hi) hl hf hm hs hc λi j r d h1 h2=>?_
  cases k with
  | empty=>simp at h1
  | list _ _ _ _ _ cv2 _ _ _ _ _ _ hr2=>exact ih i j r d h1 h2 (hr2 i j r d h1 h2)
 | eptr cs p cv hi hc _ ih =>
  intro y k
  cases k with
  | eptr _ p2 cv2 _ _ hr2=>exact .eptr cs p cv (by rw[hI];exact hi) hc λj d h1=>ih j d h1 (hr2 j d h1)
 | mrow r off len x hx hu h =>
  intro y k
  cases k with
  | mrow _ _ _ _ _ hu2 _=>exact .mrow r off len x hx (hU r hu2) (by rw[hM];exact h)
 | mptr r i off x hx hu h =>
  intro y k
  cases k with
  | mptr _ _ _ _ _ hu2 _=>exact .mptr r i off x hx (hU r hu2) (by rw[hM];exact h)
 | mp r x hx hu h =>
  intro y k
  cases k with
  | mp _ _ _ hu2 _=>exact .mp r x hx (hU r hu2) (by rw[hM];exact h)
 | fmap kv b es aQ hi hb hn _ ih =>
  intro y k
  cases k with
  | fmap _ b2 es2 clk2 _ _ hn2 h2 =>
   exact .fmap kv b es aQ (by rw[hI];exact hi) hb hn λi d x h1 h3=>by
    have hlt:i<(gp es2).length:=by rw[<-hn2];exact(XY.1 h1).1
    exact ih i d x h1 h3 (h2 i d _ h1 (X5 hlt))
 | fn f first aK fs cs hf hc _ _ ih1 ih2 =>
  intro y k
  cases k with
  | fn _ _ _ fs2 cs2 hf2 hc2 q1 q2 =>
   exact .fn f first aK fs cs hf hc (λi d x h1 h3=>by obtain⟨u,hu⟩:=Er hf2 h1;exact ih1 i d x h1 h3 (q1 i d u h1 hu)) λi d x h1 h3=>by obtain⟨u,hu⟩:=Er hc2 h1;exact ih2 i d x h1 h3 (q2 i d u h1 hu)
 | cond b d x _ hf ih =>
  intro y k
  cases k with
  | cond _ _ y ht2 _=>exact .cond b d x (λe=>ih e (ht2 e)) hf
 | junk x=>intro y _;exact .junk x
theorem Zco [aa P]{f:FuncId}{args:List D}{h:H}{res:D}(hnr:res.nr=true)(hc : ∀n,dz P f args h n (λd h' n'=>d=res/\h'=h/\n<=n')):∀b,Ct P f args h b res h:=λb=>by
 refine⟨(hc 0).1,λw g vs n hm hU hb hr=>?_⟩
 refine((hc n).2 w g vs hm hU hr).mono ?_
 rintro e w' ⟨v,g',d,h',n',⟨rfl,rfl,_⟩,he,hv,hm',mono,nY⟩
 let g2:Mem:={ M:=g'.M,U:=g.U,I:=g'.I }
 have hused : ∀r,g'.M r≠none->g.U r:=λr hr=>by
  cases hh:h' r with
  | none=>exact absurd (hm'.dead r hh) hr
  | some bl =>
   obtain⟨blk,c,h1,_⟩:=hm.blk r bl hh;exact hm.used r (by rw[h1];exact λq=>by cases q)
 refine⟨v,g2,he,hv.clean hnr λ_ h=>h,⟨hm'.dead,λr bl hr=>?_,hm'.inj,hused,hm'.imm,hm'.gr⟩,⟨mono.os,mono.tape,mono.output,mono.size,mono.drawn,λ_ h=>h,mono.M,mono.new,mono.I,mono.inew,mono.same⟩,λr hr=>.inl hr⟩
 obtain⟨blk,c,h1,h2,h3,h4,h5⟩:=hm'.blk r bl hr
 refine⟨blk,c,h1,h2,h3,h4,?_⟩
 rcases h5 with h5|⟨b2,cur,rfl,h6,h7,h8,h9⟩
 . exact .inl h5
 refine .inr ⟨b2,cur,rfl,h6,h7,h8,λi row hi=>⟨(h9 i row hi).1,λj d hd=>?_⟩⟩
 obtain⟨u,k3,k4,k5⟩:=(h9 i row hi).2 j d hd
 refine⟨u,k3,k4,?_⟩
 obtain⟨blk0,c0,m1,m2,m3,m4,m5⟩:=hm.blk r bl hr
 rcases m5 with⟨_,m5⟩|⟨b3,cur0,rfl,m6,m7,m8,m9⟩
 . have:i<bl.rows.length:=(XY.1 hi).1;omega
 obtain⟨u0,_,_,q5⟩:=(m9 i row hi).2 j d hd
 exact ag.shrink (w:=w) (g:=g) (g':=g') (g2:=g2) rfl rfl (λ_ h=>h) k5 q5
end Go.DL
namespace Go.DL
variable [Dr]
open Go.RowKit
variable {P : Program} {ro : Option Nat} {Q : Exit -> S -> Prop}
def Ux [aa P]{t e:TypeId}{m:Nat}{a:Addr}{w:World}(ht:P.underlying t=some (.array m e))(hs:P.cellsOf e=1)(h0:0<m):(Instr.sliceAt t (.pointer (some a)) none none none).run P w = .ok (.slice (some a) m m) w:=by
 have h2:=lD (P:=P) (w:=w) (t:=e) (by omega:0<P.cellsOf e)
 have h4:a.add 0=a:=rfl
 simp[Instr.sliceAt,Instr.sureAddr,Instr.sliceBounds,run_underlying ht,h2,h4]
theorem TW [aa P]{C:aH}{s s1:S}{ops:Array Oper}{i b:Nat}(k:Nat){o:Oper}{t e:TypeId}{x:Operand}{r m:Nat}{row:List D}{rty:TypeId}(z9:gX P C ops i k o b s s1)
  (hop:o.op = .slice t x none none none)(ht:P.underlying t=some (.array m e))(h1:P.cellsOf e=1)(hx:s1.ev x = .mptr r 0 0)(hr:s1.h r=some ⟨rty,[row]⟩)(hm:row.length=m)(h0:0<m)(hmx:m<=1000000)(hv : ∀d∈row,∃x:Value,d = .v x/\x.oneCell'=true)
  (hk:bg P ro ops (k+1) b { n:=s1.n,t:=s1.put o.dst (.list true (row.map λd=>[d])),h:=upd s1.h r none,nx:=s1.nx,ok:=True,e:=s1.e } Q):bg P ro ops i b s Q:=by
 obtain⟨hik,ho,hg,he,hok,hd⟩:=z9
 have hn:bK row=true:=by
  clear hm hr hk
  induction row with
  | nil=>rfl
  | cons d l ih =>
   obtain⟨x,rfl,_⟩:=hv d (by simp)
   simp only[bK,D.nr,Zj];exact ih λd hd=>hv d (List.mem_cons_of_mem _ hd)
 refine nD (C:=C) k (λd h'=>d = .list true (row.map λd=>[d])/\h'=upd s1.h r none) hik ho hg (λc e=>by rw[hop]at e;cases e) he hok hd (λB g a w hst hbk=>?_) (λd h'⟨hy,hh⟩=>by subst hy;subst hh;exact hk)
 have nX:=cu hst x
 rw[hx]at nX
 have hp:=NW hst.mem hr hn nX
 generalize fe:a.eval x=vx at nX hp
 cases hp with|eptr _ p cv hI hc hrr =>
 have mono:=xG g r w
 have hrun:=Ux (P:=P) (w:=w) (a:=p) ht h1 h0
 refine⟨_,_,⟨rfl,rfl⟩,.slice (some p) m m,jo g r,w,.inl ?_,?_,yT hst.mem r,mono,λq hq=>.inl hq⟩
 .
  obtain⟨od,oo,lM,op,oa,og⟩:=o;simp only at hop;subst hop
  simp[execOp,fe,hrun]
 have hl:(row.map λd=>[d]).length=m:=by simpa using hm
 rw[<-hl]
 refine .list true _ p _ 1 (λi _=>cv i) hI (X3 _) (λ_=>rfl) (by rw[hl];simp only[maxLen];omega) (λr hr=>?_) (λi j r d h1 h2=>?_) (λi j r d h1 h2=>?_)
 . obtain⟨d,_,rfl⟩:=Yh.1 hr;rfl
 .
  obtain⟨d',h3,rfl⟩:=dY h1;have:j=0:=by
   cases j with
   | zero=>rfl
   | succ j=>simp at h2
  subst this;obtain rfl:d'=d:=by simpa using h2
  obtain⟨y,rfl,hy⟩:=hv d' (X6 h3);refine⟨by simpa using hc i _ h3,?_⟩
  rw[(hrr i _ h3).v_inv];exact hy
 obtain⟨d',h3,rfl⟩:=dY h1
 have:j=0:=by
  cases j with
  | zero=>rfl
  | succ j=>simp at h2
 subst this
 obtain rfl:d'=d:=by simpa using h2
 exact hrr i _ h3
theorem HM.more [aa P]{h:H}{g:Mem}{w w':World}(hm:HM P h g w)(e1:w'.os=w.os)(e2:w'.tape=w.tape)(e3:w'.output=w.output)(e4:w'.heap.size=w.heap.size+1)(e5:w.drawn<=w'.drawn)(e6 : ∀j,j<w.heap.size->w'.heap[j]? = w.heap[j]?) :
  HM P h { g with I:=λb=>g.I b\/b=w.heap.size } w'/\ay g { g with I:=λb=>g.I b\/b=w.heap.size } w w':=by
 have mono:ay g { g with I:=λb=>g.I b\/b=w.heap.size } w w' :=
  ⟨e1,e2,e3,om,λ_=>e5,λ_ h=>h,λ_ _=>.inl rfl,λr b c s h=>.inl ⟨r,c,s,h⟩,λ_ h=>.inl h,λb h=>by rcases h with h|rfl;exact .inl h;exact .inr (.inl (X3 _)),λb hb _=>e6 b hb⟩
 refine⟨⟨hm.dead,λr bl hr=>?_,hm.inj,hm.used,λb hb=>?_,hm.gr.later (hm.kept mono)⟩,mono⟩
 .
  obtain⟨blk,c,h1,h2,h3,h4,h5⟩:=hm.blk r bl hr;refine⟨blk,c,h1,h2,h3,h4,?_⟩
  rcases h5 with h5|⟨b,cur,rfl,h6,h7,h8,h9⟩
  . exact .inl h5
  have hlt:=(kH hm h1).1;refine .inr ⟨b,cur,rfl,by rw[e6 b hlt];exact h6,h7,λhI=>?_,λi row hi=>?_⟩
  .
   rcases hI with hI|hI
   . exact h8 hI
   omega
  obtain⟨k1,k2⟩:=h9 i row hi;refine⟨k1,λj d hd=>?_⟩
  obtain⟨u,k3,k4,k5⟩:=k2 j d hd;exact⟨u,k3,k4,k5.later hm mono⟩
 rcases hb with hb|rfl
 . have:=hm.imm b hb;omega
 omega
def uy(b:UInt8):List D:=[.v (.int .u8 b.toNat)]
theorem Uh [aa P]{C:aH}{s s1:S}{ops:Array Oper}{i b:Nat}(k:Nat){o:Oper}{src dst e:TypeId}{x:Operand}{u:TypeDesc}{sb:ByteArray}(z9:gX P C ops i k o b s s1)
  (hop:o.op = .convert src dst x)(hs:P.underlying src=some u)(hd2:P.underlying dst=some (.slice e))(he2:P.underlying e=some (.int .u8))(hx:s1.ev x = .v (.string sb))(hl:sb.size<=1000000)
  (hk:bg P ro ops (k+1) b { n:=s1.n,t:=s1.put o.dst (.list false (sb.data.toList.map uy)),h:=s1.h,nx:=s1.nx,ok:=True,e:=s1.e } Q):bg P ro ops i b s Q:=by
 obtain⟨hik,ho,hg,he,hok,hd⟩:=z9
 refine nD (C:=C) k (λd h'=>d = .list false (sb.data.toList.map uy)/\h'=s1.h) hik ho hg (λc e=>by rw[hop]at e;cases e) he hok hd (λB g a w hst hbk=>?_) (λd h'⟨hy,hh⟩=>by subst hy;subst hh;exact hk)
 have nX:=cu hst x
 rw[hx]at nX
 have nX:=nX.v_inv
 have hrun:=Go.Lib.run_convert_string_bytes w src dst e sb hs hd2 he2
 have hsz:=Go.Lib.bytesWorld_size w e sb
 obtain⟨m1,m2⟩:=hst.mem.more (w':=Go.Lib.bytesWorld w e sb) (by unfold Go.Lib.bytesWorld Go.World.freeze;split<;>rfl) (by unfold Go.Lib.bytesWorld Go.World.freeze;split<;>rfl) (by unfold Go.Lib.bytesWorld Go.World.freeze;split<;>rfl) hsz (by unfold Go.Lib.bytesWorld Go.World.freeze;split<;>exact Nat.le_succ _) (λj hj=>Go.Lib.bytesWorld_at_old w e sb j hj)
 refine⟨_,_,⟨rfl,rfl⟩,.slice (some ⟨w.heap.size,0,none⟩) sb.size (grownCap w sb.size 0 e),_,Go.Lib.bytesWorld w e sb,.inl ?_,?_,m1,m2,λq hq=>.inl hq⟩
 .
  obtain⟨od,oo,lM,op,oa,og⟩:=o;simp only at hop;subst hop
  simp[execOp,nX,hrun]
 have hll:(sb.data.toList.map uy).length=sb.size:=by simp
 have hcap:grownCap w sb.size 0 e<=maxLen:=grownCap_le_maxLen _ _ _ _ (by simp only[maxLen];omega)
 have hge:=grownCap_ge w sb.size 0 e
 refine(congrArg (λz=>ag (Go.Lib.bytesWorld w e sb) _ _ (Value.slice (some ⟨w.heap.size,0,none⟩) z (grownCap w sb.size 0 e))) hll).mp ?_
 refine .list false _ ⟨w.heap.size,0,none⟩ _ 1 (λi _=>.int .u8 (sb.data.toList.getD i 0).toNat) (.inr rfl) (by rw[hll];exact hge) (λq=>by cases q) hcap (λr hr=>?_) (λi j r d h1 h2=>?_) (λi j r d h1 h2=>?_)
 . obtain⟨d,_,rfl⟩:=Yh.1 hr;rfl
 .
  obtain⟨d',h3,rfl⟩:=dY h1;have:j=0:=by
   cases j with
   | zero=>rfl
   | succ j=>simp[uy]at h2
  subst this;have hi:i<sb.size:=by have:=(XY.1 h3).1;simpa using this
  refine⟨?_,rfl⟩;have:=Go.Lib.bytesWorld_cell w e sb i hi;rw[jR]
  simpa using this
 obtain⟨d',h3,rfl⟩:=dY h1
 have:j=0:=by
  cases j with
  | zero=>rfl
  | succ j=>simp[uy]at h2
 subst this
 have e9:sb.data.toList.getD i 0=d':=by simp[List.getD,h3]
 rw[e9]
 obtain rfl:D.v (.int .u8 d'.toNat)=d:=by simpa[uy]using h2
 exact .v _
section
variable [aa P] (C : aH) {s s1 : S} {ops : Array Oper} {i b : Nat} (k : Nat) {o : Oper}
def ZaI{t e rty:TypeId}{x:Operand}{r m:Nat}{row:List D}(hk:bg P ro ops (k+1) b { n:=s1.n,t:=s1.put o.dst (.list true (row.map λd=>[d])),h:=upd s1.h r none,nx:=s1.nx,ok:=True,e:=s1.e } Q)(hm:row.length=m)(hv : ∀d∈row,∃x:Value,d = .v x/\x.oneCell'=true)
  (z9:gX P C ops i k o b s s1:=by exact pos)(hop:o.op = .slice t x none none none:=by exact rfl)(ht:P.underlying t=some (.array m e):=by kernel_rfl)(h1:P.cellsOf e=1:=by kernel_rfl)(hx:s1.ev x = .mptr r 0 0:=by simp only[go_sem,ff];first|done|exact rfl)(hr:s1.h r=some ⟨rty,[row]⟩:=by simp only[go_sem,ff];first|done|exact rfl)(h0:0<m:=by omega)(hmx:m<=1000000:=by omega):bg P ro ops i b s Q :=
 TW k z9 hop ht h1 hx hr hm h0 hmx hv hk
def gconv{src dst e:TypeId}{x:Operand}{u:TypeDesc}{sb:ByteArray}(hk:bg P ro ops (k+1) b { n:=s1.n,t:=s1.put o.dst (.list false (sb.data.toList.map uy)),h:=s1.h,nx:=s1.nx,ok:=True,e:=s1.e } Q)(hl:sb.size<=1000000)
  (hs:P.underlying src=some u:=by kernel_rfl)(hd2:P.underlying dst=some (.slice e):=by kernel_rfl)(he2:P.underlying e=some (.int .u8):=by kernel_rfl)
  (z9:gX P C ops i k o b s s1:=by exact pos)(hop:o.op = .convert src dst x:=by exact rfl)(hx:s1.ev x = .v (.string sb):=by simp only[go_sem,ff];first|done|exact rfl):bg P ro ops i b s Q :=
 Uh k z9 hop hs hd2 he2 hx hl hk
end
end Go.DL
namespace Go.Proofs.YtdcenbhgholncaaGreatDoor
open Go.Proofs.Tryz
open Go.DL Go.Str Go.Rec Go.Zon Go.Cmp Go.Jn Go.RowKit
set_option maxRecDepth 10000
variable [Dr]

end Go.Proofs.YtdcenbhgholncaaGreatDoor
namespace Go.Zon
open Go.DL

end Go.Zon
namespace Go.Proofs.YtdcenbhgholncaaGreatDoor
open Go.Proofs.Tryz
open Go.DL Go.Str Go.Rec Go.Cmp Go.Zon
set_option maxRecDepth 10000
variable [Dr]

@[go_sem]theorem ofV_map{o:Option Nat}:jI (.map o) = .v (.map o):=by cases o<;>rfl
@[go_sem]theorem mapTo_0{l:List Sgd}:Gf l 0=[]:=rfl


end Go.Proofs.YtdcenbhgholncaaGreatDoor
namespace Go.DL
variable [Dr]
open Go.RowKit
variable {P : Program}
def IV(cf:List D->List D->Int)(rows:List (List D)):Prop:=rows.Pairwise λx y=>¬cf y x<0
structure SwoOn(cf:List D->List D->Int)(rows:List (List D)):Prop where
 irrefl : ∀x∈rows,¬cf x x<0
 trans : ∀x∈rows,∀y∈rows,∀z∈rows,cf x y<0->cf y z<0->cf x z<0
 ntrans : ∀x∈rows,∀y∈rows,∀z∈rows,¬cf x y<0 -> ¬cf y z<0 -> ¬cf x z<0
def EY(enc:Nat->List Value)(k:Nat)(w:World)(b m:Nat)(d:Array Nat)(os:Array Obj)(i:Nat)(hi:i<w.heap.size)(hb:i≠b):(Go.Proofs.sortWorldK enc k w b 0 m d os).heap[i]? = w.heap[i]? := by
 unfold Go.Proofs.sortWorldK Go.Sort.putRowK Go.Sort.putRow Go.Sort.mapBlock Go.Sort.grow
 simp only[Go.Sort.ahead]
 rw[Array.getElem?_append_left (by simpa using hi),Array.getElem?_modify,XW (Ne.symm hb)]
def SH(enc:Nat->List Value)(k:Nat)(w:World)(b m:Nat)(d:Array Nat)(os:Array Obj){cur:Array Value}{ty:TypeId}(hb:w.heap[b]? = some (.cells cur ty (0,0))) :
  (Go.Proofs.sortWorldK enc k w b 0 m d os).heap[b]? = some (.cells (Go.Sort.putCells id 0 (Go.Sort.flatK enc k d) cur) ty (0,0)):=by
 have hi:b<w.heap.size:=(X9.1 hb).1
 unfold Go.Proofs.sortWorldK Go.Sort.putRowK Go.Sort.putRow Go.Sort.mapBlock Go.Sort.grow
 simp only[Go.Sort.ahead]
 rw[Array.getElem?_append_left (by simpa using hi),Array.getElem?_modify,X0 rfl,hb]
 rfl
theorem JU(enc:Nat->List Value)(k:Nat)(w:World)(b m:Nat)(d:Array Nat)(os:Array Obj):(Go.Proofs.sortWorldK enc k w b 0 m d os).heap.size=w.heap.size+os.size:=by
 unfold Go.Proofs.sortWorldK Go.Sort.putRowK Go.Sort.putRow Go.Sort.mapBlock Go.Sort.grow
 simp[Go.Sort.ahead]
def Zdf{w w':World}(h : @vP drT w w'):∃q os,w'=Go.Sort.grow (w.drewN q) os:=by
 refine⟨w'.drawn-w.drawn,w'.heap.extract w.heap.size w'.heap.size,?_⟩
 obtain⟨h1,h2,h3,h4,h5,h6⟩:=h
 have h5:=h5 trivial
 have hh:w'.heap=w.heap++w'.heap.extract w.heap.size w'.heap.size:=by
  apply Array.ext_getElem?
  intro i
  by_cases hi:i<w.heap.size
  . rw[Array.getElem?_append_left hi,h6 i hi]
  rw[Array.getElem?_append_right (by omega),Array.getElem?_extract]
  by_cases hj:i<w'.heap.size
  .
   rw[X0 (by omega)]
   congr 1
   omega
  rw[XW (by omega),Array.getElem?_eq_none (by omega)]
 cases w'
 cases w
 simp only at h1 h2 h3 h5 hh
 simp only[Go.Sort.grow,World.drewN,World.mk.injEq]
 refine⟨hh,h2,?_,h1,h3⟩
 omega
def SG [aa P]{ρ:Go.Shelf.Ren}(L:Go.Proofs.SlLaysF0.n6 P ρ){fS ty:Nat}(hfS:ρ.f 6=fS)(hty:ρ.t 24=ty)(aE : ∀w,(isAgg ty).run P w = .ok true w)(zE : ∀w,(Go.sizeOf ty).run P w = .ok (P.cellsOf ty) w)
  {r nf g:Nat}{rows:List (List D)}{h:H}{aK:List D}(cf:List D->List D->Int)(hbS:jl P fS=true)(hr:h r=some ⟨ty,rows⟩)(hnr:aZ rows=true)(hcn:aK.all D.nr=true)(hmax:rows.length<4611686018427387904)
  (hcmp:letI:Dr:=drT;∀x∈rows,∀y∈rows,PureCt P g ([.agg x,.agg y]++aK) (.i (cf x y)))(hO:SwoOn cf rows) :
  dz P fS [.mrow r 0 rows.length,.fn (.func g) [] aK] h nf (λd h' n'=>d = .tuple []/\n'=nf /\ ∃rows',rows'.Perm rows/\IV cf rows'/\h'=upd h r (some ⟨ty,rows'⟩)):=by
 refine⟨hbS,λw gm vs hm hU hrs=>?_⟩
 obtain⟨x,vs1,rfl,hx,h1⟩:=hrs.of_cons
 obtain⟨f,vs2,rfl,hf,h2⟩:=h1.of_cons
 rw[h2.of_nil]
 cases hf with|fn _ _ _ fs cs l1 l2 r1 r2 =>
 have hfs:fs = #[]:=Y7 (by simpa using l1.symm)
 subst hfs
 cases hx with|mrow _ _ _ _ _ hUr hv =>
 obtain⟨blk,c,q1,q2,q3,q4,q5⟩:=hm.blk r _ hr
 obtain⟨v1,v2⟩:=hv _ _ _ q1
 by_cases hne:rows=[]
 .
  subst hne;have hx' : ∃p cap,x = .slice p 0 cap:=by
   rcases v2 with⟨_,a,rfl⟩|⟨_,b,_,rfl⟩
   . exact⟨a,0,rfl⟩
   exact⟨_,_,rfl⟩
  obtain⟨p,cap,rfl⟩:=hx';have key:=Go.Proofs.AnyF.slices_SortFunc_none L p cap (.func (.func g) #[] cs) w;rw[hfS]at key;refine callsIn_wide.2 (key.mono ?_);rintro e w' ⟨rfl,rfl⟩;refine⟨_,gm,_,h,nf,⟨rfl,rfl,[],.refl _,.nil,?_⟩,rfl,.mk_tuple (vs:=#[]) .nil,hm,ay.refl _ _,hU⟩
  funext i
  unfold upd
  split
  . rename_i e;subst e;exact hr
  rfl
 have hn0:0<rows.length:=Y6.2 hne
 rcases q5 with⟨_,q5⟩|⟨b,cur,rfl,q6,q7,q8,q9⟩
 . simp only at q3;omega
 have q6:=q6.cells v1.2
 have q7:=q7 v1.2
 have q4:=v1.2
 rcases v2 with⟨e0,a,rfl⟩|⟨hc0,b',hb',rfl⟩
 . simp only at q3;omega
 cases hb'
 have hbw:b<w.heap.size:=(X9.1 q6).1
 generalize hk:P.cellsOf ty=k at *
 simp only at q3
 let ix:Nat->Nat:=λi=>if i<rows.length then i else 0
 have hix : ∀i,ix i<rows.length:=λi=>by simp only[ix];split<;>assumption
 have De : ∀i,i<rows.length->ix i=i:=λi hi=>by simp only[ix];rw[X0 hi]
 let enc:Nat->List Value:=λi=>(List.range k).map λj=>cur.getD (ix i*k+j) undef
 have GL : ∀i,(enc i).length=k:=λi=>by simp[enc]
 have hrow : ∀i,i<rows.length->(rows.getD i []).length=k /\ ∀(j:Nat)d,(rows.getD i [])[j]? = some d->(enc i)[j]? = some (cur.getD (i*k+j) undef)/\cur[i*k+j]? = some (cur.getD (i*k+j) undef)/\(cur.getD (i*k+j) undef).oneCell'=true/\ag w gm d (cur.getD (i*k+j) undef):=by
  intro i hi;have e1:rows[i]? = some (rows.getD i []):=by simp[List.getD,hi]
  obtain⟨p1,p2⟩:=q9 i _ e1;simp only[hk]at p1 p2;refine⟨p1,λj d hd=>?_⟩
  obtain⟨u,u1,u2,u3⟩:=p2 j d hd;have e2:cur.getD (i*k+j) undef=u:=by simp[YV,u1]
  have hj:j<k:=by rw[<-p1];exact(XY.1 hd).1
  rw[e2];refine⟨by simp[enc,hj,De i hi];rw[<-e2];simp[YV],u1,u2,u3⟩
 have NF : ∀i,enc i=enc (ix i):=λi=>by simp only[enc];rw[De (ix i) (hix i)]
 have hone : ∀i,∀v∈enc i,v.oneCell'=true:=by
  intro i v hv;rw[NF]at hv;obtain⟨j,hj⟩:=YB hv;have hjk:j<k:=by rw[<-GL (ix i)];exact(XY.1 hj).1
  obtain⟨p1,p2⟩:=hrow (ix i) (hix i);have hd:(rows.getD (ix i) [])[j]? = some ((rows.getD (ix i) [])[j]'(by omega)):=by simp
  obtain⟨u1,_,u2,_⟩:=p2 j _ hd;rw[u1]at hj
  cases hj
  exact u2
 let rw':Nat->List D:=λi=>rows.getD (ix i) []
 have hmem : ∀i,rw' i∈rows:=λi=>by
  have:rw' i=rows[ix i]'(hix i):=by simp[rw',List.getD,hix i]
  rw[this];exact Yq _
 let cn:Nat->Nat->Int:=λi j=>cf (rw' i) (rw' j)
 have hswo:Go.Sort.SWO (Go.Proofs.ltOf cn):=by
  refine⟨λx=>?_,λx y z p1 p2=>?_,λx y z p1 p2=>?_⟩
  . simp only[Go.Proofs.ltOf,cn,X4];exact hO.irrefl _ (hmem x)
  . simp only[Go.Proofs.ltOf,cn,XV]at *;exact hO.trans _ (hmem x) _ (hmem y) _ (hmem z) p1 p2
  simp only[Go.Proofs.ltOf,cn,X4]at *;exact hO.ntrans _ (hmem x) _ (hmem y) _ (hmem z) p1 p2
 let d:Array Nat:=Array.range rows.length
 have hds:d.size=rows.length:=by simp[d]
 have hdg : ∀i,i<rows.length->d[i]! = i:=λi hi=>by simp[d,hi]
 have Zau : ∀t,t<rows.length*k->t / k<rows.length/\t % k<k:=λt ht=>⟨Nat.div_lt_of_lt_mul (by rw[Zt];exact ht),Nat.mod_lt _ q2⟩
 have hget : ∀i j,i<rows.length->j<k->(enc i)[j]! = cur.getD (i*k+j) undef:=by
  intro i j hi hj;obtain⟨p1,p2⟩:=hrow i hi;have hd:(rows.getD i [])[j]? = some ((rows.getD i [])[j]'(by omega)):=by simp
  rw[List.getElem!_eq_getElem?_getD,(p2 j _ hd).1];rfl
 have hH:Go.Sort.HoldsK enc k w b 0 d:=by
  intro t ht;simp only[Go.Sort.size_flatK,hds]at ht;rw[Go.Sort.get_flatK _ _ _ _ (by rw[hds];exact ht)]
  obtain⟨t1,t2⟩:=Zau t ht;rw[hdg _ t1,hget _ _ t1 t2];have e:t / k*k+t % k=t:=by rw[Zt];exact Nat.div_add_mod t k
  rw[e,Nat.zero_add];have hlt:t<cur.size:=by rw[q7];exact YW ht (YL k q3)
  refine⟨?_,?_⟩
  . simp[World.cell?,q6,hlt,id,YV]
  simp[World.frozen?,q6]
 have hcl:Go.Proofs.CmpLays P g cs enc k cn b 0 d.size w:=by
  intro m os dk hdk x y;obtain⟨hbd,_,hct⟩:=hcmp _ (hmem x) _ (hmem y);have hW:=JU enc k w b m dk os;have hI : ∀b',gm.I b'->b'<(Go.Proofs.sortWorldK enc k w b 0 m dk os).heap.size:=λb' hb'=>by rw[hW];have:=hm.imm b' hb';omega
  have hrep : ∀{d:D}{v:Value},d.nr=true->ag w gm d v->ag (Go.Proofs.sortWorldK enc k w b 0 m dk os) (eY gm.I) d v:=by
   intro d v hd hv;have h1:=ag.clean (g':=eY gm.I) hv hd (λb hb=>hb)
   refine ag.mono (g:=eY gm.I) (g':=eY gm.I) (λb' hb'=>⟨hb',?_⟩) (λ_ h=>h) (λ_ h=>.inl rfl) h1
   exact EY enc k w b m dk os b' (hm.imm b' hb') (λe=>q8 (e▸hb'))
  have hagg : ∀i,ag (Go.Proofs.sortWorldK enc k w b 0 m dk os) (eY gm.I) (.agg (rw' i)) (.agg (enc i).toArray):=by
   intro i;rw[NF i];obtain⟨p1,p2⟩:=hrow (ix i) (hix i);refine .mk_agg ⟨by rw[p1,GL],λj d v e1 e2=>?_⟩
   obtain⟨u1,_,_,u4⟩:=p2 j d e1;rw[u1]at e2
   cases e2
   exact hrep (mJ (Aa hnr (hmem i)) (X6 e1)) u4
  have hargs:aC (Go.Proofs.sortWorldK enc k w b 0 m dk os) (eY gm.I) ([.agg (rw' x),.agg (rw' y)]++aK) ([.agg (enc x).toArray,.agg (enc y).toArray]++cs.toList):=by
   refine aC.append (.cons (hagg x) (.cons (hagg y) .nil)) ⟨by simpa using l2,λi d v e1 e2=>?_⟩
   exact hrep (Yf.1 hcn d (X6 e1)) (r2 i d v e1 (by simpa using e2))
  have:=callsIn_wide.1 (hct _ gm.I _ hI (hm.gr.later λb' hb'=>⟨hb',EY enc k w b m dk os b' (hm.imm b' hb') (λe=>q8 (e▸hb'))⟩) hargs)
  have ea:([.agg (enc x).toArray,.agg (enc y).toArray]++cs.toList:List Value).toArray = #[.agg (enc x).toArray,.agg (enc y).toArray]++cs:=by apply Zd;simp
  rw[ea]at this;refine this.mono ?_;rintro e w' ⟨v,rfl,hb,hv⟩;refine⟨?_,Zdf hb⟩;rw[hv.v_inv]
 have key:=Go.Proofs.AnyQ.slices_SortFunc L k (by rw[hty];exact aE) (by rw[hty];exact zE) enc GL hone cn hswo g cs b 0 c d w (λargs w=>xM (hcmp _ (hmem 0) _ (hmem 0)).1 args w) hcl hH hbw (by rw[hds];exact hmax)
 rw[hfS,hds]at key
 have ev:(Value.slice (some ⟨b,0*k,Option.none⟩) rows.length (c-0))=Value.slice (some ⟨b,0,Option.none⟩) rows.length c:=by simp
 rw[ev]
 refine callsIn_wide.2 (key.mono ?_)
 rintro e w' ⟨rfl,d',n',os,hperm,hsort,rfl⟩
 obtain⟨hsz,_,hpm⟩:=hperm
 rw[hds]at hsz
 have hex : ∀a:Array Nat,a.size=rows.length->a.extract 0 rows.length=a:=λa ha=>by rw[<-ha];exact Array.extract_size
 rw[hex d' hsz,hex d hds]at hpm
 have hlt' : ∀i,i<rows.length->d'[i]! < rows.length:=by
  intro i hi;have h1:d'[i]! ∈ d'.toList:=by
   rw[getElem!_pos d' i (by omega)]
   simp
  have:=hpm.mem_iff.1 h1
  simpa[d]using this
 let rows':List (List D):=d'.toList.map rw'
 have hrows:d.toList.map rw'=rows:=by
  apply List.ext_getElem?
  intro i
  by_cases hi:i<rows.length
  . simp[d,hi,rw',De i hi,List.getD]
  simp[d,hi]
 have hP:rows'.Perm rows:=by rw[<-hrows];exact hpm.map rw'
 have hS:IV cf rows':=by
  unfold IV;rw[YO];intro i j hi hj hij;have hj':j<rows.length:=by simpa[rows',hsz]using hj
  have:=hsort i j (Yk _) hij hj';simp only[Go.Proofs.ltOf,cn,X4]at this;rw[getElem!_pos d' i (by omega),getElem!_pos d' j (by omega)]at this
  simpa[rows']using this
 have hl':rows'.length=rows.length:=by simp[rows',hsz]
 have hput:=hm.put (h':=upd h r (some ⟨ty,rows'⟩)) (w':=Go.Proofs.sortWorldK enc k w b 0 n' d' os) r b c ⟨ty,rows'⟩ (Go.Sort.putCells id 0 (Go.Sort.flatK enc k d') cur)
  (.inr (by simp only[hk];exact q1)) (bu _ _ _) (λr' hr'=>.inl (aI _ _ _ _ hr')) (.inr ⟨r,c,_,q1,.inl rfl⟩) (SH enc k w b n' d' os q6) (by simp[Go.Sort.putCells,q7,hk]) (by simp only[hk];exact q2)
  (by simp only[hl'];exact q3) q4 (by
   intro i row hi;have hil:i<rows.length:=by rw[<-hl'];exact(XY.1 hi).1
   have e1:row=rows.getD (d'[i]!) []:=by
    simp only[rows',Yj]at hi;rw[getElem!_pos d' i (by omega)]
    have:d'.toList[i]? = some d'[i]:=by simp
    rw[this]at hi;simp only[YK,XU]at hi;rw[<-hi];simp only[rw'];rw[De _ (by have:=hlt' i hil;rwa [getElem!_pos d' i (by omega)]at this)]
   obtain⟨p1,p2⟩:=hrow _ (hlt' i hil);rw[<-e1]at p1 p2;simp only[hk];refine⟨p1,λj dd hd=>?_⟩
   have hjk:j<k:=by rw[<-p1];exact(XY.1 hd).1
   obtain⟨u1,u2,u3,u4⟩:=p2 j dd hd;have hbound:i*k+j<rows.length*k:=by
    have:=YL k (show i+1<=rows.length from hil)
    rw[Za,Nat.one_mul]at this;omega
   have hcs:i*k+j<cur.size:=by rw[q7];exact YW hbound (YL k q3)
   refine⟨_,?_,u3,u4⟩;have hdiv:(i*k+j) / k=i:=by rw[Zt,Nat.mul_add_div q2,Nat.div_eq_of_lt hjk];rfl
   have hmod:(i*k+j) % k=j:=by rw[Zt,ZP,Zx hjk]
   simp only[Go.Sort.putCells,Array.getElem?_mapIdx,Zc hcs,YK];rw[X0 ⟨Yk _,by simp only[Go.Sort.size_flatK,hsz];omega⟩,Nat.sub_zero,Go.Sort.get_flatK _ _ _ _ (by rw[hsz];exact hbound),hdiv,hmod,hget _ _ (hlt' i hil) hjk]
   rfl)
  ⟨rfl,rfl,rfl,by rw[JU];omega,λi hi hne=>EY enc k w b n' d' os i hi (λe=>hne (by rw[e]))⟩ (by unfold Go.Proofs.sortWorldK Go.Sort.putRowK Go.Sort.putRow Go.Sort.mapBlock Go.Sort.grow Go.Sort.ahead;exact ZC _ _)
 obtain⟨g',g1,g2,g3,g4,g5⟩:=hput
 exact⟨_,g',_,_,nf,⟨rfl,rfl,rows',hP,hS,rfl⟩,rfl,.mk_tuple (vs:=#[]) .nil,g4,g5,λr' hr'=>by
  rcases(g2 r').1 hr' with h|h
  . exact hU _ h
  subst h;exact hU _ hUr⟩
end Go.DL
namespace Go.Proofs.YtdcenbhgholncaaGreatDoor
open Go.Proofs.Tryz
open Go.DL Go.Str Go.Rec Go.Cmp Go.Zon
set_option maxRecDepth 10000
variable [Dr]

end Go.Proofs.YtdcenbhgholncaaGreatDoor
namespace Go.Zon
open Go.DL Go.Str Go.Rec Go.Cmp
def fu{α:Type}(p:α->Bool)(d:α):List α->α×Bool
 | []=>(d,false)
 | x::l=>if p x then(x,true)else fu p d l
theorem NV{α:Type}{p:α->Bool}{d:α}{l:List α}:(fu p d l).2=l.any p:=by
 induction l with
 | nil=>rfl
 | cons x l ih=>rw[fu,List.any_cons];by_cases h:p x<;>simp[h,ih]
theorem NS{α:Type}[Inhabited α]{p:α->Bool}{d:α}{l:List α}{k:Nat}(hk:k<l.length)(h:p l[k]! = true):fu p d (l.drop k)=(l[k]!,true):=by
 rw[Yr hk,fu,<-getElem!_pos l k hk,X0 h]
def NT{α:Type}[Inhabited α]{p:α->Bool}{d:α}{l:List α}{k:Nat}(hk:k<l.length)(h:p l[k]! = false):fu p d (l.drop k)=fu p d (l.drop (k+1)):=by
 rw[Yr hk,fu,<-getElem!_pos l k hk,h];rfl
theorem NU{α:Type}{p:α->Bool}{d:α}{l:List α}:fu p d (l.drop l.length)=(d,false):=by rw[ZL];rfl
def rU:SKey:=⟨0,0⟩
structure Bt where
 s:Sgd
 g:RSig
 deriving Inhabited
structure Br where
 zn:Str
 at_:Int
 dr:Int
 ks:List SKey
 s:Sgd
 deriving Inhabited
def oU(f:Bt)(k:SKey):Bool:=rD f.s.set f.g k
def jK(f:Br)(g:RSig):Bool:=decide (g.zone=f.zn)&&decide (g.frm<=f.at_-f.dr)&&decide (f.at_+f.dr<=g.unt)&&(fu (oU ⟨f.s,g⟩) rU f.ks).2
def kI(a d:Int):Bool:=aO a 0 10000000&&aO d 0 1000
def vY(s:Sgd)(zn:Str)(ks:List SKey)(a d:Int):Bool:=kI a d&&(fu (jK ⟨zn,a,d,ks,s⟩) o8 s.sigs).2
def rX:D->Sgd
 | .eptr cs=>Sgd.of cs
 | _=>default
def zK:D->RSig
 | .eptr cs=>RSig.of cs
 | _=>default
def xX:D->Str
 | .eptr [.v (.string b)]=>b.data.toList
 | _=>[]
def sQ:D->Int
 | .eptr [.v (.int _ n)]=>n
 | _=>0
def Ak:D->List SKey
 | .eptr [d]=>lC d
 | _=>[]
def AZ:D->Bt
 | .fn _ _ [s,g]=>⟨rX s,zK g⟩
 | _=>default
def AU:D->Br
 | .fn _ _ [z,a,d,k,s]=>⟨xX z,sQ a,sQ d,Ak k,rX s⟩
 | _=>default
def sgE_e{cs:List D}:rX (.eptr cs)=jE (.agg cs):=rfl
def siE_e{cs:List D}:zK (.eptr cs)=xZ (.agg cs):=rfl
attribute[go_sem]sgE_e siE_e
@[go_sem]theorem stE_e{s:Str}:xX (.eptr [.v (.string (bs s))])=s:=by simp[xX,bs]
@[go_sem]theorem inE_e{n:Int}:sQ (.eptr [.v (.int .i64 n)])=n:=rfl
@[go_sem]theorem ksE_e{l:List SKey}:Ak (.eptr [.l (l.map SKey.d)])=l:=Tf
def fck1_e{k:Nat}{s g:D}:AZ (.fn (.func k) [] [s,g])=⟨rX s,zK g⟩:=rfl
def fsg1_e{k:Nat}{z a d q s:D}:AU (.fn (.func k) [] [z,a,d,q,s])=⟨xX z,sQ a,sQ d,Ak q,rX s⟩:=rfl
def fck_eta{f:Bt}:(⟨f.s,f.g⟩:Bt)=f:=rfl
def fsg_eta{f:Br}:(⟨f.zn,f.at_,f.dr,f.ks,f.s⟩:Br)=f:=rfl
def Zd8{f:Bool}{k k':IntKind}{a b:Int}:lC (.list f [[.v (.int k a),.v (.int k' b)]])=[⟨a,b⟩]:=rfl
attribute[go_sem]fck1_e fsg1_e fck_eta fsg_eta Zd8
def zm(s:Sgd)(c:Str)(b:Bool):Bool:=b&&(decide (s.set.ty=1)||(decide (s.set.ty=2)&&decide (s.set.name=c)))
structure QL(x:Zon)(A:dV)(ks:List SKey)(a d:Int):Prop where
 cut : ∀k,k<A.sets.length->fF x A.sets[k]!.set.name=((bO x A.sets[k]!.set.name).1,(bO x A.sets[k]!.set.name).2,0)
 un : ∀k,k<A.sets.length->zm A.sets[k]! (bO x A.sets[k]!.set.name).1 (bO x A.sets[k]!.set.name).2=true->A.sets[k]!.sigs=[]
 sg : ∀k,k<A.sets.length->zm A.sets[k]! (bO x A.sets[k]!.set.name).1 (bO x A.sets[k]!.set.name).2=false -> ∀j,j<ks.length->vY A.sets[k]! x.apex [ks[j]!] a d=true
 len:A.sets.length<=1000000
 sigs : ∀k,k<A.sets.length->A.sets[k]!.sigs.length<=1000
def RB{a d:Int}(h:kI a d=true):0<=a/\a<=10000000/\0<=d/\d<=1000:=by
 unfold kI aO at h
 simp only[XT,XV]at h
 exact⟨h.1.1,h.1.2,h.2.1,h.2.2⟩
def Zdt{z:Zon}{q:Qst}:(fB z q).2=0\/(fB z q).2=1:=by
 unfold fB
 split
 . exact .inr rfl
 split
 . exact .inl rfl
 split
 .
  rename_i h1 h2 h3
  right
  unfold fF at h2 h3 ⊢
  split<;>(try split)<;>simp_all
 exact .inl rfl
open Go.Jn
def SN{ks:List SKey}(h:l8 ks=false):∀i,0<i->i<(bQ ks).length->(bQ ks)[i-1]!.n<(bQ ks)[i]!.n:=by
 intro i h0 hi
 have hn:((bQ ks).map SKey.n).Nodup:=by
  have h1:(ks.map SKey.n).Nodup:=by simpa[l8]using h
  exact((uC ks).map SKey.n).nodup_iff.2 h1
 have h1:=YO.1 (JV ks) (i-1) i (by omega) hi (by omega)
 have h2:=YO.1 (List.pairwise_map.1 hn) (i-1) i (by omega) hi (by omega)
 rw[getElem!_pos (bQ ks) (i-1) (by omega),getElem!_pos (bQ ks) i hi]
 omega
structure AllOk(z:Zon)(ks:List SKey)(f u:Int):Prop where
 eq:(allR z ks f u).1=eU z (bQ ks) f u
 ok:aJ z=true
 sok:aJ (eU z (bQ ks) f u)=true
 dup:l8 ks=false
 sg : ∀i,i<z.sets.length->eO (aN z) i=true -> ∀k∈bQ ks,(bW z.sets[i]!.set z.apex k f u).2=0
theorem Zdw{z:Zon}{ks:List SKey}{f u:Int}(e:(allR z ks f u).2=0):AllOk z ks f u:=by
 unfold allR at e
 split at e
 . cases e
 rename_i h1
 split at e
 . cases e
 rename_i h2
 split at e
 . cases e
 rename_i h3
 split at e
 . cases e
 rename_i h4
 have hk:(bQ ks).length<=6:=by rw[(uC ks).length_eq];omega
 have hv : ∀k∈bQ ks,mD k=true:=by
  intro k hk;have:ks.all mD=true:=by simpa using h2
  exact Yf.1 this k ((uC ks).mem_iff.1 hk)
 have hw:jy f u=true:=by
  cases q:jy f u with
  | true=>rfl
  | false=>exact absurd (.inr (.inr (.inl q))) h1
 have hz:aJ z=true:=by
  cases q:aJ z with
  | true=>rfl
  | false=>exact absurd (.inr (.inr (.inr q))) h1
 have hd:l8 ks=false:=by simpa using h3
 have hsg : ∀i,i<z.sets.length->eO (aN z) i=true -> ∀k∈bQ ks,(bW z.sets[i]!.set z.apex k f u).2=0:=by
  intro i hi ho k hk2;have h5:aB z.sets.length (kL z (bQ ks) f u) 0=true:=by simpa using h4
  have h6:=(dO _ _ _).1 h5 i (Yk _) hi;unfold kL at h6;rw[ho]at h6;simp only[Bool.not_true,Bool.false_or,Yf,XV]at h6;exact h6 k hk2
 refine⟨?_,hz,Uo hz hk hv hw (SN hd) hsg,hd,hsg⟩
 unfold allR
 rw[XW h1,XW h2,XW h3,XW h4]
def uO{l:List Sgd}{ps:List Int}(hp : ∀i,i<ps.length->ps[i]! < (l.length:Int)):∀s∈iI l ps,s∈l :=
 FJ l ps hp ps.length (X3 _)
def Rz{v:Vw}(k:Nat):∀s∈(bY v k).1.sets,s∈v.z.sets:=by
 have P:=lL v.z.sets
 have C:=qd v.z.sets
 have N : ∀s∈([]:List Sgd),s∈v.z.sets:=λs h=>by cases h
 unfold bY
 split
 .
  dsimp only
  split
  . exact N
  exact uO (KQ _ _ _ _)
 . exact uO (CO (P _))
 . exact uO (CO (P _))
 .
  dsimp only
  split
  . exact uO (yG (P _) (C _))
  exact N
 . exact uO (yG (P _) (C _))
 . exact uO (yG (P _) (C _))
 dsimp only
 split
 . exact N
 exact uO (Ag (P _) (C _) (C _))
def WA{v:Vw}:∀s∈(uV v).sets,s∈v.z.sets:=by
 refine uO (Ag (lL _ _) (qd _ _) ?_)
 split
 . omega
 exact qd _ _
theorem go_in{z:Zon}{q:Qst}:∀f k,∀s∈(ng z q f k).sets,s∈z.sets
 | 0,k=>WA (v:=nu z q k)
 | f+1,k=>by
  unfold ng
  split
  . exact Rz (v:=nu z q k) k
  exact go_in f (k+1)
def Zdv{z:Zon}{q:Qst}:∀s∈(fB z q).1.sets,s∈z.sets:=by
 have N : ∀s∈([]:List Sgd),s∈z.sets:=λs h=>by cases h
 unfold fB
 repeat' split
 . exact N
 . exact N
 . exact N
 exact go_in 7 0
theorem Zdu{z:Zon}{q:Qst}(hf:iA z.sets):(fB z q).1.sets.length<=1000000:=by
 have L : ∀(l:List Sgd)(ps:List Int),ps.length<=1000000->(iI l ps).length<=1000000:=λl ps h=>Yx (FK l ps ps.length) h
 have R:(Ch z.sets (bO z q.name).1).length<=1000000:=by
  unfold Ch;refine Yx (FE _ _ _ _) ?_
  by_cases h:(aR z.sets ⟨(bO z q.name).1,2⟩).toNat<z.sets.length
  . have:=(hf.2 _ h).1;omega
  rw[getElem!_neg z.sets _ h];exact(by decide:2+(default:Sgd).set.data.length<=1000000)
 have T : ∀k,(bY (nu z q k) k).1.sets.length<=1000000:=by
  intro k;unfold bY
  split
  .
   dsimp only
   split
   . simp
   exact L _ _ R
  . exact L _ _ (by simp)
  . exact L _ _ (by simp)
  .
   dsimp only
   split
   . exact L _ _ (by simp)
   simp
  . exact L _ _ (by simp)
  . exact L _ _ (by simp)
  dsimp only
  split
  . simp
  exact L _ _ (by simp)
 have G : ∀f k,(ng z q f k).sets.length<=1000000:=by
  intro f
  induction f with
  | zero=>intro k;exact L _ _ (by simp)
  | succ f ih =>
   intro k;unfold ng
   split
   . exact T k
   exact ih (k+1)
 unfold fB
 repeat' split
 . simp
 . simp
 . simp
 exact G 7 0
def PU{z:Zon}(hO:mo z){c:Str}(hc:iC z c):dN z.sets ⟨c,2⟩=true/\c≠z.apex:=by
 obtain⟨i,hi,h1,h2,rfl⟩:=hc
 have hm:=fE hi
 have h3:=Mm hO.ord hm
 have h4:=DD (q:=⟨z.sets[i]!.set.name,2⟩) hO.ord hO.nms (hO.nms _ hm)
 have h5:z.sets[i]!.q=⟨z.sets[i]!.set.name,2⟩:=by show(⟨_,_⟩:Qst)=_;rw[h1]
 rw[h5]at h3
 rw[h3]at h4
 refine⟨?_,h2⟩
 by_cases e:dN z.sets ⟨z.sets[i]!.set.name,2⟩=true
 . exact e
 rw[XW e]at h4;cases h4
def ZaE{z:Zon}(hO:mo z){n:Str}(hn:ai n=true)(h:dN z.sets ⟨n,2⟩=true)(hne:n≠z.apex):iC z n:=by
 have h4:=DD (q:=⟨n,2⟩) hO.ord hO.nms hn
 rw[X0 h]at h4
 obtain⟨hm,hq⟩:=Ml h4
 obtain⟨i,hi,e⟩:=nS.1 hm
 have hq:(⟨z.sets[i]!.set.name,z.sets[i]!.set.ty⟩:Qst)=⟨n,2⟩:=by
  have:z.sets[i]! = z.sets[di z.sets ⟨n,2⟩]! := by first|exact e|exact e.symm
  rw[this];exact hq
 injection hq with q1 q2
 exact⟨i,hi,q2,by rw[q1];exact hne,q1⟩
def Rp{n:Str}(hn:ai n=true)(hr:n≠[46]):bF n (fD n):=by
 unfold bF
 rw[(nL hn hr).2]
 exact List.dropLast_prefix _
theorem PS{z:Zon}(hO:mo z){c:Str}(hc:iC z c):∀f n,ai n=true->bF n c->(bq n).length<f->(mV z f n).2=true
 | 0,n,_,_,h=>by omega
 | f+1,n,hn,hu,hl=>by
  obtain⟨h1,h2⟩:=PU hO hc;obtain⟨i,hi,_,_,hci⟩:=hc;have hca:bF c z.apex:=hci▸hO.und _ (fE hi);rw[mV]
  by_cases e:n=z.apex
  . subst e;exact absurd (BI hca hu) h2
  rw[XW e]
  by_cases e2:dN z.sets ⟨n,2⟩=true
  . rw[X0 e2]
  rw[XW e2];have hne:n≠c:=λq=>e2 (q▸h1)
  obtain⟨hr,hu2⟩:=vT hn hu hne;refine PS hO ⟨i,hi,by assumption,by assumption,hci⟩ f _ (nL hn hr).1 hu2 ?_
  have h6:(bq (fD n)).length=(bq n).length-1:=by rw[(nL hn hr).2,List.length_dropLast]
  have h7:0<(bq n).length:=by
   rcases Nat.eq_zero_or_pos (bq n).length with q|q
   .
    exfalso
    have h8:bq n=[]:=Ye q;have h9:bF c n:=by unfold bF;rw[h8];exact List.nil_prefix
    exact hne (BI hu h9)
   exact q
  omega
theorem PW{z:Zon}(hO:mo z):∀f n,ai n=true->bF n z.apex->(mV z f n).2=true -> ∃c,iC z c/\bF n c
 | 0,n,_,_,h=>by cases h
 | f+1,n,hn,hu,h=>by
  rw[mV]at h
  by_cases e:n=z.apex
  . rw[X0 e]at h;cases h
  rw[XW e]at h
  by_cases e2:dN z.sets ⟨n,2⟩=true
  . exact⟨n,ZaE hO hn e2 e,zF _⟩
  rw[XW e2]at h;obtain⟨hr,hu2⟩:=vT hn hu e;obtain⟨c,k1,k2⟩:=PW hO f _ (nL hn hr).1 hu2 h;exact⟨c,k1,BH (Rp hn hr) k2⟩
theorem Lf{z:Zon}(hz:aJ z=true){j:Nat}(hj:j<z.sets.length):eO (aN z) j = !zm z.sets[j]! (bO z z.sets[j]!.set.name).1 (bO z z.sets[j]!.set.name).2:=by
 have hO:=Ez hz
 have hm:=fE hj
 have hn:=hO.nms _ hm
 have hu:=hO.und _ hm
 have hB:=Eo hO hj
 have hcut:cutAt (aN z) j=true:=by
  have h1:=hz;unfold aJ at h1;simp only[XT]at h1;exact(dO _ _ _).1 h1.1.1.2 j (Yk _) hj
 unfold eO zm
 unfold cutAt at hcut
 show((eT z)[j]! == []||(!decide (z.sets[j]!.set.ty=2) && !decide (z.sets[j]!.set.ty=1)))=_
 have hcut:(if(eT z)[j]! = []then !decide (z.sets[j]!.set.ty=6)else if(eT z)[j]! = z.sets[j]!.set.name then decide (z.sets[j]!.set.ty=2)||decide (z.sets[j]!.set.ty=6)||decide (z.sets[j]!.set.ty=8)||decide (z.sets[j]!.set.ty=1)else decide (z.sets[j]!.set.ty=1))=true:=hcut
 rcases hB with⟨h1,h2⟩|⟨h1,h2⟩
 .
  have h3:(bO z z.sets[j]!.set.name).2=false:=by
   cases e:(bO z z.sets[j]!.set.name).2 with
   | false=>rfl
   | true =>
    obtain⟨c,k1,k2⟩:=PW hO _ _ hn hu e;exact absurd k2 (h2 c k1)
  rw[h1,h3];rfl
 have h3:(bO z z.sets[j]!.set.name).2=true:=PS hO h2.1 _ _ hn h2.2.1 (Nat.lt_succ_self _)
 rw[h3]
 rw[XW h1]at hcut
 have h4:((eT z)[j]! == [])=false:=by simpa using h1
 rw[h4]
 by_cases e1:z.sets[j]!.set.ty=1
 . grind
 by_cases e2:z.sets[j]!.set.ty=2
 .
  by_cases e3:(eT z)[j]! = z.sets[j]!.set.name
  .
   have h5:=PU hO h2.1;rw[e3]at h5;rw[PV h5.2 h5.1]
   grind
  rw[XW e3]at hcut;exact absurd (Y1 hcut) e1
 grind
def Ry{c:Zon}{ks:List SKey}{f u:Int}{q:Qst}{a d:Int}(a0:(allR c ks f u).2=0)(hk6:ks.length<=6)(ht:kI a d=true)(h1:f<=a-d)(h2:a+d<=u) :
  QL (allR c ks f u).1 (fB (allR c ks f u).1 q).1 ks a d:=by
 have A:=Zdw a0
 rw[A.eq]
 have hO:=Ez A.sok
 have key : ∀k,k<(fB (eU c (bQ ks) f u) q).1.sets.length -> ∃j,j<c.sets.length/\(fB (eU c (bQ ks) f u) q).1.sets[k]! = (eU c (bQ ks) f u).sets[j]! := by
  intro k hk;obtain⟨j,hj,e⟩:=nS.1 (Zdv _ (fE hk));exact⟨j,by rw[wh]at hj;exact hj,by first|exact e|exact e.symm⟩
 refine⟨λk hk=>?_,λk hk hb=>?_,λk hk hb i hi=>?_,Zdu (Bv A.sok),λk hk=>?_⟩
 .
  obtain⟨j,hj,e⟩:=key k hk;have hm:(eU c (bQ ks) f u).sets[j]! ∈ (eU c (bQ ks) f u).sets:=fE (by rw[wh];exact hj)
  rw[e];unfold fF;rw[hO.nms _ hm,A.sok,(zD (hO.nms _ hm) hO.apex).2 (hO.und _ hm)];rfl
 .
  obtain⟨j,hj,e⟩:=key k hk;rw[e]at hb ⊢;have ho:=Lf A.sok (j:=j) (by rw[wh];exact hj)
  rw[hb,Le]at ho;rw[yg hj];unfold qw;rw[ho];rfl
 .
  obtain⟨j,hj,e⟩:=key k hk;rw[e]at hb ⊢;have ho:=Lf A.sok (j:=j) (by rw[wh];exact hj)
  rw[hb,Le]at ho;have hks:ks[i]! ∈ bQ ks:=(uC ks).mem_iff.2 (fE hi);have hs:=A.sg j hj ho _ hks;unfold vY;rw[ht,NV,Zj,ZE];rw[yg hj];unfold qw;rw[ho];refine⟨(bW c.sets[j]!.set c.apex ks[i]! f u).1,Yh.2 ⟨_,hks,rfl⟩,?_⟩;have hsg:(bW c.sets[j]!.set c.apex ks[i]! f u).1=rV c.sets[j]!.set c.apex ks[i]! f u:=by
   unfold bW at hs ⊢
   by_cases q:qo c.sets[j]!.set c.apex ks[i]! f u=true
   . rw[X0 q]
   rw[XW q]at hs;cases hs
  have hck:=ZcM hs;unfold jK;rw[NV];rw[hsg]at hck ⊢;simp only[rV,oU,List.any_cons,List.any_nil,ZB,XT,XV];refine⟨⟨⟨YQ rfl,YQ h1⟩,YQ h2⟩,?_⟩
  simpa[rV]using hck
 obtain⟨j,hj,e⟩:=key k hk
 rw[e,yg hj]
 unfold qw
 dsimp only
 split
 . rw[Y8,(uC ks).length_eq];omega
 simp
end Go.Zon
namespace Go.DL
variable [Dr]
open Go.RowKit Go.ChangeShapes Go.WideShapes
variable {P : Program}
def IW(Q:TypeId->List D->Prop):List Field->List D->Prop
 | [],ds=>ds=[]
 | f::fs,ds=>∃a b,ds=a++b/\Q f.type a/\IW Q fs b
def Sh(P:Program)[aa P]:Nat->TypeId->List D->Prop
 | 0,_,_=>False
 | k+1,t,ds=>match P.underlying t with
  | some .bool=>∃b,ds=[.v (.bool b)]
  | some (.int q)=>∃n,ds=[.v (.int q n)]/\(Lit.int q n).wf=true
  | some .string=>∃s,ds=[.v (.string s)]/\s.size<=maxLen
  | some (.slice e)=>∃rows,ds=[.list false rows] /\ ∀r∈rows,Sh P k e r
  | some (.struct fs)=>IW (Sh P k) fs.toList ds
  | _=>False
def uD(P:Program)[aa P]:Nat->TypeId->Bool
 | 0,_=>false
 | k+1,t=>match P.underlying t with
  | some .bool|some (.int _)|some .string=>true
  | some (.slice e)=>decide (0<P.cellsOf e)&&decide (e<P.types.size)&&uD P k e
  | some (.struct fs)=>fs.toList.all λf=>decide (f.type<P.types.size)&&uD P k f.type
  | _=>false
def rG(w:World)(g:Mem)(ds:List D)(cs:List Value):Prop:=aC w g ds cs /\ ∀v∈cs,v.oneCell'=true
theorem rG.nil{w:World}{g:Mem}:rG w g [] []:=⟨.nil,λv h=>by cases h⟩
def rG.one{w:World}{g:Mem}{d:D}{v:Value}(h:ag w g d v)(h1:v.oneCell'=true):rG w g [d] [v] :=
 ⟨.cons h .nil,λu hu=>by rw[Yi]at hu;subst hu;exact h1⟩
def rG.append{w:World}{g:Mem}{ds es:List D}{cs us:List Value}(h:rG w g ds cs)(k:rG w g es us):rG w g (ds++es) (cs++us) :=
 ⟨h.1.append k.1,λv hv=>(Yu.1 hv).elim (h.2 v) (k.2 v)⟩
def Ql{w:World}{a:Addr}{v:Value}(h:w.cell? a=some v):a.block<w.heap.size:=by
 unfold World.cell? at h
 split at h
 . rename_i c _ _ hb;exact(X9.1 hb).1
 cases h
theorem ZcU{w:World}{base:Nat}{a:Addr}{n:Nat}{cs:List Value}(h:w.cells? base a n=some cs):cs.length=n /\ ∀j,j<n->w.cell? (a.add j)=cs[j]? := by
 unfold World.cells? at h
 split at h
 .
  have key : ∀(l:List Nat)(cs:List Value),l.mapM (λi=>w.cell? (a.add i))=some cs->cs.length=l.length /\ ∀(j i:Nat),l[j]? = some i->w.cell? (a.add i)=cs[j]? := by
   intro l
   induction l with
   | nil=>intro cs h;simp at h;subst h;exact⟨rfl,λj i h=>by simp at h⟩
   | cons i l ih =>
    intro cs h;rw[List.mapM_cons]at h
    cases hc:w.cell? (a.add i)with
    | none=>rw[hc]at h;simp at h
    | some v =>
     rw[hc]at h;simp only[Option.bind_eq_bind,Option.bind_some]at h
     cases hr:l.mapM (λi=>w.cell? (a.add i))with
     | none=>rw[hr]at h;simp at h
     | some r =>
      rw[hr]at h
      simp at h
      subst h;obtain⟨h1,h2⟩:=ih r hr;refine⟨by simp[h1],λj i' hj=>?_⟩
      cases j with
      | zero=>simp at hj;subst hj;simpa using hc
      | succ j=>simp at hj;simpa using h2 j i' hj
  obtain⟨h1,h2⟩:=key _ _ h;exact⟨by simpa using h1,λj hj=>h2 j j (by simp[hj])⟩
 cases h
theorem EQ{α:Type}(l:List α)(m n:Nat):(l.drop m).take n++(l.drop (m+n))=l.drop m:=by
 rw[<-Z8];exact ZQ n (l.drop m)
theorem reads [aa P]{H:Type}{enc:TypeId×Value->H}{w:World}{base:Nat}{spare:Nat->Bool}{held:Bool}(hl:laidOutB P=true) :
  ∀(k:Nat)(t:TypeId)(cs:List Value)(fuel:Nat)(x:DataW H×List MemPlace),t<P.types.size->uD P k t=true->DataW.trod enc P w base spare held fuel t cs=some x ->
   ∃ds,Sh P k t ds/\rG w (eY λb=>b<w.heap.size) ds cs:=by
 intro k
 induction k with
 | zero=>intro t cs fuel x _ h;cases h
 | succ k ih =>
  intro t cs fuel x htl hs hr;unfold uD at hs;unfold Sh
  split at hs
  .
   rename_i hu
   obtain⟨b,rfl,_⟩:=DataW.trod_bool hu hr;exact⟨_,⟨b,rfl⟩,.one (.v _) rfl⟩
  .
   rename_i q hu
   obtain⟨n,rfl,_,hw⟩:=DataW.trod_int hu hr;exact⟨_,⟨n,rfl,hw⟩,.one (.v _) rfl⟩
  .
   rename_i hu
   obtain⟨s,rfl,_,hw⟩:=DataW.trod_string hu hr;exact⟨_,⟨s,rfl,hw⟩,.one (.v _) rfl⟩
  .
   rename_i e hu
   simp only[XT,XV]at hs;obtain⟨⟨hpos,hel⟩,hs⟩:=hs
   rcases DataW.trod_slice hu hr with⟨rfl,_⟩|⟨a,len,cap,elems,rest,n,_,rfl,_,_,hlc,hcm,hlen,hrd,_,_⟩
   . exact⟨_,⟨[],rfl,λr h=>by cases h⟩,.one (.empty false none 0 (λh=>by cases h) (by simp[maxLen])) rfl⟩
   have hrow : ∀i,i<len -> ∃ds,Sh P k e ds/\ds.length=P.cellsOf e /\ ∀(j:Nat)d,ds[j]? = some d -> ∃v,w.cell? (a.add (i*P.cellsOf e+j))=some v/\v.oneCell'=true/\ag w (eY λb=>b<w.heap.size) d v:=by
    intro i hi;have h1:=hrd i hi;have h2:elems[i]? = some (elems[i]'(by omega)):=X5 _
    rw[h2]at h1;rw[Option.bind_eq_some_iff]at h1;obtain⟨cs',hc,ht⟩:=h1;obtain⟨hcl,hcg⟩:=ZcU hc;obtain⟨ds,hsh,⟨hrl,hrr⟩,ho⟩:=ih e cs' n _ hel hs ht;refine⟨ds,hsh,by rw[hrl,hcl],λj d hd=>?_⟩
    have hj:j<cs'.length:=by rw[<-hrl];exact(XY.1 hd).1
    have hcj:=hcg j (by omega)
    rw[add_add']at hcj;have hg:cs'[j]? = some (cs'[j]'hj):=X5 _;exact⟨cs'[j]'hj,by rw[hcj,hg],ho _ (Yq _),hrr j d _ hd hg⟩
   have hch : ∃rows:List (List D),rows.length=len /\ ∀i r,rows[i]? = some r->Sh P k e r/\r.length=P.cellsOf e /\ ∀(j:Nat)d,r[j]? = some d -> ∃v,w.cell? (a.add (i*P.cellsOf e+j))=some v/\v.oneCell'=true/\ag w (eY λb=>b<w.heap.size) d v:=by
    refine⟨(List.range len).map λi=>if h:i<len then Classical.choose (hrow i h)else[],by simp,λi r hr=>?_⟩
    rw[Yj]at hr
    by_cases hi:i<len
    . rw[List.getElem?_range hi]at hr;simp only[YK,XU]at hr;rw[dif_pos hi]at hr;subst hr;exact Y9 (hrow i hi)
    rw[Zm (by simpa using hi)]at hr;cases hr
   obtain⟨rows,hrl,hrr⟩:=hch;refine⟨_,⟨rows,rfl,λr h=>by obtain⟨i,hi⟩:=YB h;exact(hrr i r hi).1⟩,.one ?_ rfl⟩
   cases hz:len with
   | zero =>
    subst hz;have:rows=[]:=Ye hrl;subst this;exact .empty false _ _ (λh=>by cases h) hcm
   | succ m =>
    rw[<-hz,<-hrl];have hcv : ∀i j,∃u,∀row d,rows[i]? = some row->row[j]? = some d->w.cell? (a.add (i*P.cellsOf e+j))=some u/\u.oneCell'=true/\ag w (eY λb=>b<w.heap.size) d u:=by
     intro i j
     by_cases hh : ∃row d,rows[i]? = some row/\row[j]? = some d
     .
      obtain⟨row,d,q1,q2⟩:=hh;obtain⟨u,q3⟩:=(hrr i row q1).2.2 j d q2;refine⟨u,λrow' d' q1' q2'=>?_⟩
      rw[q1]at q1';cases q1'
      rw[q2]at q2';cases q2'
      exact q3
     exact⟨undef,λrow d q1 q2=>absurd ⟨row,d,q1,q2⟩ hh⟩
    have hcs : ∀i j row d,rows[i]? = some row->row[j]? = some d->w.cell? (a.add (i*P.cellsOf e+j))=some (Classical.choose (hcv i j))/\(Classical.choose (hcv i j)).oneCell'=true/\ag w (eY λb=>b<w.heap.size) d (Classical.choose (hcv i j)):=λi j row d h1 h2=>Y9 (hcv i j) row d h1 h2
    refine .list false rows a cap (P.cellsOf e) (λi j=>Classical.choose (hcv i j)) ?_ om (λh=>by cases h) hcm (λr hr=>?_) (λi j r d h1 h2=>⟨(hcs i j r d h1 h2).1,(hcs i j r d h1 h2).2.1⟩) λi j r d h1 h2=>(hcs i j r d h1 h2).2.2
    .
     show a.block<w.heap.size
     have h0:rows[0]? = some (rows[0]'(by omega)):=X5 _
     obtain⟨_,q2,q3⟩:=hrr 0 _ h0;have h1:(rows[0]'(by omega))[0]? = some ((rows[0]'(by omega))[0]'(by omega)):=X5 _
     obtain⟨v,hv,_⟩:=q3 0 _ h1;have:=Ql hv;rwa [block_add]at this
    obtain⟨i,hi⟩:=YB hr;exact(hrr i r hi).2.1
  .
   rename_i fs hu
   obtain⟨xs,n,_,_,hcl,hxl,hf⟩:=DataW.trod_struct hu hr;obtain⟨_,hsum,hoff⟩:=kid_struct hl htl hu;simp only[Yf,XT,XV]at hs;have key : ∀(fl:List Field)(i off:Nat),fs.toList.drop i=fl->off=((fs.toList.take i).map λf=>P.cellsOf f.type).sum -> ∃ds,IW (Sh P k) fl ds/\rG w (eY λb=>b<w.heap.size) ds (cs.drop off):=by
    intro fl
    induction fl with
    | nil =>
     intro i off hd ho;have hil:fs.toList.length<=i:=by
      have:=congrArg List.length hd;simp only[Zf,ZH]at this;omega
     have:off=cs.length:=by rw[hcl,hsum,ho,Yg hil]
     rw[this,ZL];exact⟨[],rfl,.nil⟩
    | cons f fl ihf =>
     intro i off hd ho;have hil:i<fs.toList.length:=by
      have:=congrArg List.length hd;simp only[Zf,YI]at this;omega
     have hfi:fs.toList[i]? = some f:=by
      have:(fs.toList.drop i)[0]? = some f:=by rw[hd];rfl
      simpa using this
     have hofs:=hoff i f hfi;have hxi:xs[i]? = some (xs[i]'(by rw[hxl];simpa using hil)):=X5 _
     have hrd:=hf i f (by simpa using hfi)
     rw[hxi,hofs,<-ho]at hrd;have hmem:=X6 hfi;obtain⟨ds1,h1,h2⟩:=ih f.type _ n _ (hs f hmem).1 (hs f hmem).2 hrd;have htk:fs.toList.take (i+1)=fs.toList.take i++[f]:=by rw[ZI,hfi];rfl
     obtain⟨ds2,h3,h4⟩:=ihf (i+1) (off+P.cellsOf f.type) (by rw[<-Z8,hd];rfl) (by rw[htk,YP,List.sum_append,<-ho];simp)
     refine⟨ds1++ds2,⟨ds1,ds2,rfl,h1,h3⟩,?_⟩;rw[<-EQ cs off (P.cellsOf f.type)];exact h2.append h4
   obtain⟨ds,h1,h2⟩:=key fs.toList 0 0 rfl (by simp)
   exact⟨ds,h1,by simpa using h2⟩
  cases hs
def shFuel:Nat:=12
def ShV(P:Program)[aa P](t:TypeId)(x:D):Prop:=match P.underlying t with
 | some (.struct _)=>∃cs,x = .agg cs/\Sh P shFuel t cs
 | _=>Sh P shFuel t [x]
def ShArgs(P:Program)[aa P]:List TypeId->List D->Prop
 | [],xs=>xs=[]
 | t::ts,xs=>∃x ys,xs=x::ys/\ShV P t x/\ShArgs P ts ys
theorem Vh [aa P]{H:Type}{enc:TypeId×Value->H}{w:World}{spare:Nat->Bool}{held:Bool}{b0:Nat}{t:TypeId}{v:Value}{d:DataW H}{ps:List MemPlace}(hl:laidOutB P=true)(htl:t<P.types.size)(hs:uD P shFuel t=true)(hv:Value.okWide P w .any b0 t v)(h:DataW.Trod enc P w 0 spare held t v d ps) :
  ∃x,ShV P t x/\ag w (eY λb=>b<w.heap.size) x v:=by
 obtain⟨fuel,h⟩:=h
 obtain⟨ds,h1,h2⟩:=reads hl shFuel t v.cells.toList fuel _ htl hs h
 have one:v.cells = #[v]->ShV P t (ds.headD .junk)/\ag w (eY λb=>b<w.heap.size) (ds.headD .junk) v\/(∃fs,P.underlying t=some (.struct fs)):=by
  intro hc;rw[hc]at h2;have hlen:ds.length=1:=h2.1.1
  match ds,hlen with
  | [x],_ =>
   by_cases hst : ∃fs,P.underlying t=some (.struct fs)
   . exact .inr hst
   refine .inl ⟨?_,h2.1.head⟩;unfold ShV
   split
   . rename_i fs hu;exact absurd ⟨fs,hu⟩ hst
   exact h1
 unfold shFuel uD at hs
 split at hs
 .
  rename_i hu
  obtain⟨b,rfl⟩:=okWide_bool hu hv
  rcases one rfl with h|⟨fs,h⟩
  . exact⟨_,h⟩
  rw[hu]at h;cases h
 .
  rename_i q hu
  obtain⟨n,rfl⟩:=okWide_int hu hv
  rcases one rfl with h|⟨fs,h⟩
  . exact⟨_,h⟩
  rw[hu]at h;cases h
 .
  rename_i hu
  obtain⟨s,rfl⟩:=okWide_string hu hv
  rcases one rfl with h|⟨fs,h⟩
  . exact⟨_,h⟩
  rw[hu]at h;cases h
 .
  rename_i e hu
  obtain⟨a,len,cap,rfl⟩:=okWide_slice hu hv
  rcases one rfl with h|⟨fs,h⟩
  . exact⟨_,h⟩
  rw[hu]at h;cases h
 .
  rename_i fs hu
  obtain⟨cs,rfl,_⟩:=okWide_struct hu hv;refine⟨.agg ds,?_,.mk_agg ?_⟩
  . unfold ShV;rw[hu];exact⟨ds,rfl,h1⟩
  have:(Value.agg cs).cells=cs:=rfl;rw[this]at h2;exact h2.1
 cases hs
theorem readAll [aa P]{H:Type}{enc:TypeId×Value->H}{w:World}{spare:Nat->Bool}{held:Bool}{b0:Nat}(hl:laidOutB P=true):∀(ts:List TypeId)(vs:List Value)(ds:List (DataW H))(ps:List MemPlace),(∀t∈ts,t<P.types.size/\uD P shFuel t=true) ->
  (∀(j:Nat)t v,ts[j]? = some t->vs[j]? = some v->Value.okWide P w .any b0 t v)->DataW.TrodAll enc P w 0 spare held ts vs ds ps -> ∃xs,ShArgs P ts xs/\aC w (eY λb=>b<w.heap.size) xs vs
 | [],[],[],_,_,_,_=>⟨[],rfl,.nil⟩
 | t::ts,v::vs,d::ds,ps,ht,hv,⟨p,q,h1,h2,_⟩=>by
  obtain⟨x,hx1,hx2⟩:=Vh hl (ht t (by simp)).1 (ht t (by simp)).2 (hv 0 t v rfl rfl) h1
  obtain⟨xs,hy1,hy2⟩:=readAll hl ts vs ds q (λt' h=>ht t' (by simp[h])) (λj t' v' e1 e2=>hv (j+1) t' v' (by simpa using e1) (by simpa using e2)) h2
  exact⟨x::xs,⟨x,xs,rfl,hx1,hy1⟩,.cons hx2 hy2⟩
theorem Zde{W W':World}(hb:vP W W')(may:MemPlace->Prop):W.keptBut W' may:=by
 refine⟨hb.os,hb.output,λi hi=>?_⟩
 rw[hb.block i hi]
 cases h:W.heap[i]? with
 | none=>trivial
 | some o =>
  cases o<;>first
   | exact⟨rfl,rfl,rfl,λ_ _=>rfl⟩
   | exact .inr ⟨rfl,rfl⟩
   | rfl
theorem Jz [aa P]{H:Type}{enc:TypeId×Value->H}{W W':World}(hl:laidOutB P=true)(hb:vP W W'):∀(ts:List TypeId)(vs:List Value)(ds:List (DataW H))(ps:List MemPlace),(∀t∈ts,P.readableRec t=true/\t<P.types.size) ->
  DataW.TrodAll enc P W 0 (λ_=>true) true ts vs ds ps->(∀x∈ps,x.block<W.heap.size) -> ∀sp:Nat->Bool,(∀x∈ps,sp x.block=true)->DataW.TrodAll enc P W' 0 sp true ts vs ds ps
 | [],[],[],_,_,h,_,_,_=>h
 | t::ts,v::vs,d::ds,ps,ht,⟨p,q,h1,h2,e⟩,hlt,sp,hsp=>by
  subst e;have hbe:Below W.heap.size W W':=⟨hb.os,hb.tape,hb.output,hb.size,hb.block⟩;exact⟨p,q,WideElems.Trod_stays hl (ht t (by simp)).1 (ht t (by simp)).2 h1 (λx hx=>hbe.same (hlt x (ZK _ hx))) (λx hx=>hsp x (ZK _ hx)),
   Jz hl hb ts vs ds q (λt' h=>ht t' (by simp[h])) h2 (λx hx=>hlt x (List.mem_append_right _ hx)) sp (λx hx=>hsp x (List.mem_append_right _ hx)),rfl⟩
theorem law_contract_g [aa P]{H:Type}{enc:TypeId×Value->H}{f:FuncId}{fn:Func}{s:ChangeSpec}{tb:TypeId}{apart fresh handsOn again:Bool}(hl:laidOutB P=true)(hvars:s.vars=[])(hrt:fn.resultTypes = #[tb])(NI:P.underlying tb=some .bool)
  (C8:(fn.params.toList.all λt=>P.readableRec t&&decide (t<P.types.size)&&uD P shFuel t)=true)
  (hfn : ∀ds:List (DataW H),ds.length=fn.params.toList.length->s.fn H ds={ results:=[.lit (.bool true)],args:=ds })
  (hct : ∀xs:List D,ShArgs P fn.params.toList xs->PureCt P f xs (.b true)) :
  ∀(W:World)(base:Nat)(args:Array Value)(ds gs:List (DataW H))(before:List MemPlace),Gr P (λb=>b<W.heap.size) W->(∀(j:Nat)t v,fn.params[j]? = some t->args[j]? = some v->Value.okWide P W .any base t v) ->
   DataW.Whole enc P fn.params.toList s.vars apart W args.toList ds gs before ->
   Calls P f args W λe W'=>∃v,e = .returned v/\s.post enc P fn apart fresh handsOn again W args v W':=by
 intro W base args ds gs before hgr hval hW
 simp only[Yf,XT,XV]at C8
 have hW':=hW
 obtain⟨p,q,hA,hV,hpq,hfz,hnd⟩:=hW
 rw[hvars]at hV
 obtain⟨rfl,rfl⟩:gs=[]/\q=[]:=by
  cases gs with
  | nil=>exact⟨rfl,hV⟩
  | cons g gs=>exact False.elim hV
 rw[Zg]at hpq
 obtain⟨xs,hx1,hx2⟩:=readAll hl _ _ _ _ (λt ht=>⟨(C8 t ht).1.2,(C8 t ht).2⟩) (λj t v h1 h2=>hval j t v (by simpa using h1) (by simpa using h2)) hA
 obtain⟨_,_,hct⟩:=hct xs hx1
 have hlen : ∀{ts:List TypeId}{vs:List Value}{ds:List (DataW H)}{ps:List MemPlace},DataW.TrodAll enc P W 0 (λ_=>true) true ts vs ds ps->ds.length=ts.length:=by
  intro ts
  induction ts with
  | nil=>intro vs ds ps h;cases vs<;>cases ds<;>first|rfl|exact False.elim h
  | cons t ts ih =>
   intro vs ds ps h
   cases vs<;>cases ds<;>first|exact False.elim h|skip
   obtain⟨_,_,_,h2,_⟩:=h
   simp[ih h2]
 have hres:=hfn ds (hlen hA)
 have:=callsIn_wide.1 (hct W (λb=>b<W.heap.size) _ (λb h=>h) hgr hx2)
 have ea:args.toList.toArray=args:=by simp
 rw[ea]at this
 refine this.mono ?_
 rintro e W' ⟨v,rfl,hb,hv⟩
 rw[hv.v_inv]
 refine⟨_,rfl,?_⟩
 have hlt : ∀x∈before,x.block<W.heap.size:=λx hx=>hW'.lt x hx
 have hsp : ∀sp:Nat->Bool,(∀x∈before,sp x.block=true)->DataW.TrodAll enc P W' 0 sp true fn.params.toList args.toList ds before:=by
  intro sp h;rw[hpq]at h hlt ⊢;exact Jz hl hb _ _ _ _ (λt ht=>(C8 t ht).1) hA hlt sp h
 have hfn':s.fn H (ds++[])={ results:=[.lit (.bool true)],args:=ds }:=by rw[Zg];exact hres
 have hrs : ∀(b:Nat)(sp:Nat->Bool)(hd:Bool),DataW.TrodAll enc P W' b sp hd fn.resultTypes.toList ((Value.bool true).resultList fn.resultTypes.size) [.lit (.bool true)] []:=by
  intro b sp hd;rw[hrt];exact trodAll_cons_mk (shut_bool NI _) trodAll_mk0
 have hold : ∀x∈before,(λb=>decide (b<W.heap.size)) x.block=true:=λx hx=>by simpa using hlt x hx
 have hvs : ∀sp:Nat->Bool,DataW.TrodVars enc P W' sp s.vars [] []:=λsp=>by rw[hvars];exact rfl
 have hfz' : ∀x∈before,∀b off,x=MemPlace.cell b off->W'.frozen? ⟨b,off,none⟩=false:=by
  intro x hx b off e;subst e;have hbl:b<W.heap.size:=hlt _ hx;have e2:W'.frozen? ⟨b,off,none⟩=W.frozen? ⟨b,off,none⟩:=World.frozen?_of_block (hb.block b hbl);rw[e2];exact hfz b off hx
 unfold ChangeSpec.post
 refine⟨ds,[],before,[],before,[],hW',?_,?_,?_,World.keptBut_mono (λx hx=>⟨hx,.inr (.inl hx)⟩) (Zde hb (· ∈ before)),λ_=>⟨?_,?_⟩⟩
 . rw[hfn'];exact hrs _ _ _
 . rw[hfn'];exact hsp _ hold
 . rw[hfn'];exact hvs _
 . exact ok_one hrt rfl (okWide_bool_mk NI _)
 refine⟨_,[],([]++before)++[],⟨[]++before,[],trodAll_append (hsp _ λ_ _=>rfl) (hrs _ _ _),hvs _,rfl,?_,?_⟩,?_⟩
 . intro b off hx;exact hfz' _ (by simpa using hx) b off rfl
 .
  intro ha
  simpa using hnd ha
 intro x hx _
 simpa using hx
end Go.DL
namespace Go.DL
open Go.RowKit Go.ChangeShapes Go.WideShapes
variable {P : Program}
def litV:Lit->Value
 | .bool b=>.bool b
 | .int k n=>.int k n
 | .string s=>.string ⟨s.toArray⟩
 | _=>undef
def uY{H:Type}:Nat->DataW H->List Value
 | 0,_=>[]
 | k+1,d=>match d with
  | .lit l=>[litV l]
  | .agg ds=>ds.flatMap (uY k)
  | _=>[]
def Ah(P:Program):Nat->TypeId->Bool
 | 0,_=>false
 | k+1,t=>match P.underlying t with
  | some .bool|some (.int _)|some .string=>true
  | some (.array _ e)=>decide (e<P.types.size)&&Ah P k e
  | some (.struct fs)=>fs.toList.all λf=>decide (f.type<P.types.size)&&Ah P k f.type
  | _=>false
theorem lits{H:Type}{enc:TypeId×Value->H}{w:World}{base:Nat}{spare:Nat->Bool}{held:Bool}(hl:laidOutB P=true) :
  ∀(k:Nat)(t:TypeId)(cs:List Value)(fuel:Nat)(x:DataW H×List MemPlace),t<P.types.size->Ah P k t=true->DataW.trod enc P w base spare held fuel t cs=some x->cs=uY k x.1:=by
 intro k
 induction k with
 | zero=>intro t cs fuel x _ h;cases h
 | succ k ih =>
  intro t cs fuel x htl hs hr;unfold Ah at hs
  split at hs
  .
   rename_i hu
   obtain⟨b,rfl,rfl⟩:=DataW.trod_bool hu hr;rfl
  .
   rename_i q hu
   obtain⟨n,rfl,rfl,_⟩:=DataW.trod_int hu hr;rfl
  .
   rename_i hu
   obtain⟨s,rfl,rfl,_⟩:=DataW.trod_string hu hr
   show[Value.string s]=[Value.string ⟨s.data.toList.toArray⟩]
   simp
  .
   rename_i n e hu
   simp only[XT,XV]at hs;obtain⟨xs,m,_,rfl,hcl,hxl,hel⟩:=DataW.trod_array hu hr;obtain⟨_,hcn⟩:=kid_array hl htl hu;have key : ∀(j i:Nat),i+j=n->cs.drop (i*P.cellsOf e)=((xs.drop i).map (·.1)).flatMap (uY k):=by
    intro j
    induction j with
    | zero =>
     intro i hi;have hi':i=n:=by omega
     subst hi';rw[<-hcn,<-hcl,ZL,<-hxl,ZL];rfl
    | succ j ihj =>
     intro i hi;have hlt:i<xs.length:=by omega
     have h1:=hel i (by omega)
     rw[X5 hlt]at h1;have h2:=ih e _ m _ hs.1 hs.2 h1;have h3:=ihj (i+1) (by omega)
     have e1:(i+1)*P.cellsOf e=i*P.cellsOf e+P.cellsOf e:=by rw[Nat.succ_mul]
     rw[e1]at h3;rw[Yr hlt,X8,Z5,<-h3,<-h2];exact(EQ cs _ _).symm
   have:=key n 0 om
   simpa[uY]using this
  .
   rename_i fs hu
   obtain⟨xs,n,_,rfl,hcl,hxl,hf⟩:=DataW.trod_struct hu hr;obtain⟨_,hsum,hoff⟩:=kid_struct hl htl hu;simp only[Yf,XT,XV]at hs;have hxl':xs.length=fs.toList.length:=by simpa using hxl
   have key : ∀(j i:Nat),i+j=fs.toList.length->cs.drop ((fs.toList.take i).map λf=>P.cellsOf f.type).sum=((xs.drop i).map (·.1)).flatMap (uY k):=by
    intro j
    induction j with
    | zero =>
     intro i hi;have hi':i=fs.toList.length:=by omega
     subst hi';rw[Zw,<-hsum,<-hcl,ZL,<-hxl',ZL];rfl
    | succ j ihj =>
     intro i hi;have hlt:i<fs.toList.length:=by omega
     have Nv:i<xs.length:=by omega
     have hfi:fs.toList[i]? = some fs.toList[i]:=X5 hlt;have h1:=hf i fs.toList[i] (by simp)
     rw[hoff i _ hfi,X5 Nv]at h1;have hm:=hs _ (Yq hlt);have h2:=ih _ _ n _ hm.1 hm.2 h1;have h3:=ihj (i+1) (by omega)
     have htk:fs.toList.take (i+1)=fs.toList.take i++[fs.toList[i]]:=by rw[ZI,hfi];rfl
     rw[htk,YP,List.sum_append]at h3;simp only[X8,Yp,List.sum_cons,List.sum_nil,Zy]at h3;rw[Yr Nv,X8,Z5,<-h3,<-h2];exact(EQ cs _ _).symm
   have:=key fs.toList.length 0 om
   simpa[uY]using this
  cases hs
theorem laid_one [aa P]{nm:String}{d:DataW Unit}{W:World}{g:Nat}{t:TypeId}{k:Nat}{cells:List Value}(hl:laidOutB P=true)(hplain:([(nm,d)].all λx=>x.2.handleName?.isNone)=true)
  (hg:P.globalNamed nm=some g)(ht:(P.globals[g]?).map (·.type)=some t)(htl:t<P.types.size)(hb:Ah P k t=true)(hc:uY k d=cells)(hgl : ∀x cs,aa.tab P x=some cs->x=g/\cs=cells)(hsz:0<cells.length)
  (h:laidMetH P [(nm,d)] W):Gr P (λb=>b<W.heap.size) W:=by
 rw[MakeChecks.laidMetH_plain _ _ _ hplain]at h
 obtain⟨ps,⟨g0,t0,cs,fuel,p,q,hg0,ht0,hv,hd,_,_⟩,_,_⟩:=h
 obtain rfl:=ZX (hg.symm.trans hg0)
 obtain rfl:=ZX (ht.symm.trans ht0)
 have hcs:=lits hl k t _ _ _ htl hb hd
 rw[show uY k (d,p).1=cells from hc]at hcs
 intro x cs' hx
 obtain⟨rfl,rfl⟩:=hgl x cs' hx
 have hcell:=λj=>World.var?_cell hg0 hv j
 have hj : ∀(j:Nat)v,cs'[j]? = some v->W.cell? ⟨x,j,none⟩=some v:=by
  intro j v hv';rw[hcell j];obtain⟨l⟩:=cs;simp only at hcs;subst hcs
  simp[hv']
 refine⟨?_,hj⟩
 have h0:cs'[0]? = some (cs'[0]'hsz):=X5 hsz
 have:=Ql (hj 0 _ h0)
 exact this
end Go.DL
namespace Go.Proofs.YtdcenbhgholncaaGreatDoor
open Go.Proofs.Tryz
open Go.DL Go.Str Go.Rec Go.Zon Go.Jn
noncomputable def Tg:aH where
 pure:=λ_=>true
 pf:=λk xs=>match k,xs with
  | 288,[x0,x1]=>.i (bN (ah x0) (aG x1))
  | 247,[x0,x1]=>.i (bN (ah x0) (aG x1))
  | 209,[x0]=>.b (dI (ah x0))
  | 175,[x0]=>.b (dI (ah x0))
  | 174,[x0]=>.list false ((fQ (ah x0)).map sR)
  | 102,[x0]=>.b (ai (ah x0))
  | 133,[x0]=>.b (ai (ah x0))
  | 50,[x0]=>.b (ai (ah x0))
  | 148,[x0]=>.list false ((aL (ah x0)).map sR)
  | 270,[x0,x1]=>.i (Go.Lib.compareBytes (ah x0) (ah x1))
  | 227,[x0,x1]=>.i (Go.Lib.compareBytes (ah x0) (ah x1))
  | 183,[x0,x1]=>.i (dB (ah x0) (ah x1))
  | 181,[x0,x1]=>.tuple [.i (if ai (ah x0)&&ai (ah x1)then fZ (ah x0) (ah x1)else 0),.i (if ai (ah x0)&&ai (ah x1)then 0 else 11)]
  | 166,[x0,x1]=>.tuple [.i (if ai (ah x0)&&ai (ah x1)then fZ (ah x0) (ah x1)else 0),.i (if ai (ah x0)&&ai (ah x1)then 0 else 11)]
  | 140,[x0,x1,x2]=>.b (aO (aG x0) (aG x1) (aG x2))
  | 249,[x0,x1,x2]=>.b (aO (aG x0) (aG x1) (aG x2))
  | 176,[x0,x1,x2]=>.b (aO (aG x0) (aG x1) (aG x2))
  | 122,[x0]=>.b ((aG x0) != (aG x0))
  | 250,[x0]=>.b ((ah x0) != (ah x0))
  | 37,[x0,x1]=>.i (cmpI (aG x0) (aG x1))
  | 213,[x0,x1]=>.i (oG (ah x0) (ah x1))
  | 196,[x0,x1]=>.b (sZ (ah x0) (ah x1))
  | 123,[x0,x1]=>.b (sZ (ah x0) (ah x1))
  | 141,[x0]=>.b (fP (ah x0))
  | 178,[x0]=>.b (fP (ah x0))
  | 212,[x0]=>.b (pX (ah x0))
  | 236,[x0]=>.b (pX (ah x0))
  | 180,[x0,x1]=>.b (less (mU x0) (mU x1))
  | 142,[x0,x1]=>.b (jO (Fg x0) (mU x1))
  | 179,[x0,x1]=>.b (jW (aG x0) (mU x1))
  | 158,[x0]=>.i (nO (lY x0) 0)
  | 143,[x0,x1]=>.i (jP (mU x0) (mU x1))
  | 62,[x0]=>.b (eG (set1 x0))
  | 104,[x0]=>.b (eG (set1 x0))
  | 177,[x0]=>.b (vX (aG x0))
  | 106,[x0,x1]=>.i (mF (set1 x0) (set1 x1))
  | 235,[x0,x1]=>.b (o9 (set1 x0) (set1 x1))
  | 124,[x0]=>.tuple [.list false ((ma (set1 x0)).1.map bD),.i (ma (set1 x0)).2]
  | 210,[x0,x1]=>.b (qQ (ah x0) (ah x1))
  | 134,[x0,x1]=>.b (qQ (ah x0) (ah x1))
  | 51,[x0,x1]=>.tuple [.b (dX (ah x0) (ah x1)),.i (if ai (ah x0)&&ai (ah x1)then 0 else 11)]
  | 105,[x0,x1]=>.b (ji (ah x0) (ah x1))
  | 103,[x0]=>.b (uw (ah x0))
  | 138,[x0,x1,x2,x3]=>.i (qC ⟨(ah x0),(aG x1)⟩ ⟨(ah x2),(aG x3)⟩)
  | 184,[x0,x1]=>.b (fits (aG x0) (zi x1))
  | 108,[x0,x1]=>.b (fits (aG x0) (zi x1))
  | 185,[x0,x1]=>.b (fV (lF x0) (ah x1))
  | 111,[x0,x1]=>.b (fV (lF x0) (ah x1))
  | 151,[x0]=>.b (wz (eH x0))
  | 173,[x0,x1]=>.b (r9 (jE x0) (jE x1))
  | 101,[x0,x1]=>.b (wm (kM x0) (kM x1))
  | 137,[x0,x1]=>.i (qC (jE x0).q (eH x1))
  | 136,[x0,x1,.fn (.func 137) [] []]=>.tuple [.i (di (kM x0) (eH x1)),.b (dN (kM x0) (eH x1))]
  | 53,[x0,x1]=>.tuple [.i (di (aM x0).sets (eH x1)),.b (dN (aM x0).sets (eH x1))]
  | 112,[x0]=>.b (ordered (aM x0))
  | 113,[x0]=>.b (mg (aM x0))
  | 115,[x0]=>.b (kG (nT x0))
  | 116,[x0]=>.b (iB (nT x0))
  | 117,[x0]=>.b (tF (nT x0))
  | 118,[x0]=>.b (vB (nT x0))
  | 114,[x0]=>.agg (aN (aM x0)).d
  | 27,[x0]=>.b (aJ (aM x0))
  | 232,[x0]=>.tuple [.i (if aJ (aM x0)then rZ (aM x0)else 0),.i (if aJ (aM x0)then 0 else 1)]
  | 107,[x0,x1]=>.i (uh (aM x0).sets (eH x1))
  | 22,[x0]=>.b (kT (aM x0))
  | 23,[x0]=>.b (qi (aM x0))
  | 24,[x0]=>.b (lu (aM x0))
  | 237,[x0]=>.list false ((d9 (aM x0)).map sR)
  | 182,[x0]=>.list false ((bz (aM x0)).map sR)
  | 109,[x0]=>.list false ((ed (aM x0)).map sR)
  | 25,[x0]=>.b (pY (aM x0))
  | 110,[x0]=>.list false ((wN (aM x0)).map bR)
  | 26,[x0]=>.b (qW (aM x0))
  | 7,[x0]=>.b (nE (aM x0))
  | 6,[x0]=>.b (AY (aM x0))
  | 39,[x0]=>.list false ((zb x0).map Dat.d)
  | 119,[x0]=>.list false ((lF x0).map RSig.d)
  | 152,[x0]=>.agg (jE x0).d
  | 77,[x0,x1]=>.tuple [.agg (kZ (aM x0) (eH x1)).1.d,.b (kZ (aM x0) (eH x1)).2.1,.i (kZ (aM x0) (eH x1)).2.2]
  | 135,[x0,x1]=>.i (ixF (ah x0) (aG x1))
  | 246,[x0,x1]=>.v (.string (bs (fT (qj x0))))
  | 52,[x0]=>.tuple [.v (.string (bs (kS (ah x0)))),.i (if ai (ah x0)then(if(ah x0)=[46]then 4 else 0)else 11)]
  | 206,[x0]=>.tuple [.list false ((if ai (ah x0)then aL (ah x0)else[]).map sR),.i (if ai (ah x0)then 0 else 11)]
  | 207,[x0]=>.tuple [.v (.string (bs (kX (qj x0)).1)),.i (kX (qj x0)).2]
  | 12,[x0,x1]=>.tuple [.v (.string (bs (fF (aM x0) (ah x1)).1)),.b (fF (aM x0) (ah x1)).2.1,.i (fF (aM x0) (ah x1)).2.2]
  | 30,[x0]=>.tuple [.list false ((if aJ (aM x0)then bf (aM x0)else[]).map sR),.i (if aJ (aM x0)then 0 else 1)]
  | 204,[x0,x1]=>.i (mW (ah x0) (ah x1))
  | 127,[x0,x1]=>.b (dX (ah x0) (ah x1))
  | 126,[x0,x1,x2]=>.i (aR (gL x0).z.sets ⟨(ah x1),(aG x2)⟩)
  | 130,[x0]=>.i (aR (gL x0).z.sets ⟨(gL x0).z.apex,4⟩)
  | 203,[x0,x1,x2]=>.b (decide (0<=mW (rJ x1).z.sets[(aG x0).toNat]!.set.name (rQ x2)))
  | 245,[x0,x1,x2]=>.b (decide (0<mW (rJ x1).z.sets[(aG x0).toNat]!.set.name (rQ x2)))
  | 202,[x0,x1]=>.i ((srS (x1):Nat):Int)
  | 129,[x0,x1]=>.b (gy (gL x0).z.sets (ah x1))
  | 205,[x0,x1]=>.fn (.func 244) [] [.eptr [.eptr (gL x0).d],.eptr [.v (.string (bs (ah x1)))]]
  | 131,[x0,x1]=>.i (fA (gL x0).z.sets (ah x1))
  | 132,[x0]=>.v (.string (bs (o6 (gL x0).z (gL x0).q.name)))
  | 243,[x0,x1]=>.i (sV (lY x0) (aG x1))
  | 201,[x0,x1]=>.b (decide ((aG x1)∈(lY x0)))
  | 128,[x0,x1,x2]=>.agg (⟨(aG x1),iI (gL x0).z.sets (lY x2),[]⟩:dV).d
  | 11,[x0,x1]=>.tuple [.agg (fB (aM x0) (eH x1)).1.d,.i (fB (aM x0) (eH x1)).2]
  | 29,[x0]=>.b (!decide ((jE x0).set.ty=8))
  | 28,[x0,.fn (.func 29) [] []]=>.list false ((aS (kM x0)).map Sgd.d)
  | 32,[x0]=>.agg (jE x0).d
  | 31,[x0,x1]=>.list false ((nextF (aM x0) (qj x1)).map RSet.d)
  | 9,[x0]=>.tuple [.agg (gG (aM x0)).1.d,.i (gG (aM x0)).2]
  | 34,[x0]=>.b (mD (jD x0))
  | 33,[x0,x1]=>.b (jy (aG x0) (aG x1))
  | 125,[x0,x1,x2,x3,x4]=>.v (.int .u64 ((xW (zh x0) (ah x1) (jD x2) (aG x3) (aG x4):Nat):Int))
  | 40,[x0,x1,x2,x3,x4]=>.tuple [.agg (bW (set1 x0) (ah x1) (jD x2) (aG x3) (aG x4)).1.d,.i (bW (set1 x0) (ah x1) (jD x2) (aG x3) (aG x4)).2]
  | 59,[x0,x1,x2]=>.b (rD (set1 x0) (xZ x1) (jD x2))
  | 36,[x0,x1]=>.i (Go.Rec.cmpI (jD x0).n (jD x1).n)
  | 38,[x0]=>.list false ((jH (aN (aM x0)) (aM x0).sets.length).map bR)
  | 10,[x0,x1,x2,x3]=>.tuple [.agg (allR (aM x0) (lC x1) (aG x2) (aG x3)).1.d,.i (allR (aM x0) (lC x1) (aG x2) (aG x3)).2]
  | 21,[x0,x1]=>.b (zO (xP x0) (xP x1))
  | 54,[x0,x1]=>.b (kI (aG x0) (aG x1))
  | 8,[x0,x1]=>.b (kI (aG x0) (aG x1))
  | 58,[x0,x1,x2]=>.b (rD (rX x1).set (zK x2) (jD x0))
  | 57,[x0,x1]=>.tuple [.agg (fu (oU (AZ x1)) rU (lC x0)).1.d,.b (fu (oU (AZ x1)) rU (lC x0)).2]
  | 56,[x0,x1,x2,x3,x4,x5]=>.b (jK ⟨(xX x1),(sQ x2),(sQ x3),(Ak x4),(rX x5)⟩ (xZ x0))
  | 55,[x0,x1]=>.tuple [.agg (fu (jK (AU x1)) o8 (lF x0)).1.d,.b (fu (jK (AU x1)) o8 (lF x0)).2]
  | 13,[x0,x1,x2,x3,x4]=>.b (vY (jE x0) (ah x1) (lC x2) (aG x3) (aG x4))
  | 5,[]=>.b true
  | 3,[x0,x1,x2,x3,x4,x5,x6]=>.b true
  | _,_=>.junk
@[go_sem]theorem tgp{k:FuncId}:Tg.pure k=true:=rfl
@[go_sem]theorem tgg1{x0 x1:D}:Tg.pf 288 [x0,x1] = .i (bN (ah x0) (aG x1))/\Tg.pf 247 [x0,x1] = .i (bN (ah x0) (aG x1))/\Tg.pf 270 [x0,x1] = .i (Go.Lib.compareBytes (ah x0) (ah x1))/\Tg.pf 227 [x0,x1] = .i (Go.Lib.compareBytes (ah x0) (ah x1))/\Tg.pf 183 [x0,x1] = .i (dB (ah x0) (ah x1))/\Tg.pf 181 [x0,x1] = .tuple [.i (if ai (ah x0)&&ai (ah x1)then fZ (ah x0) (ah x1)else 0),.i (if ai (ah x0)&&ai (ah x1)then 0 else 11)]/\Tg.pf 166 [x0,x1] = .tuple [.i (if ai (ah x0)&&ai (ah x1)then fZ (ah x0) (ah x1)else 0),.i (if ai (ah x0)&&ai (ah x1)then 0 else 11)]/\Tg.pf 37 [x0,x1] = .i (cmpI (aG x0) (aG x1))/\Tg.pf 213 [x0,x1] = .i (oG (ah x0) (ah x1))/\Tg.pf 196 [x0,x1] = .b (sZ (ah x0) (ah x1))/\Tg.pf 123 [x0,x1] = .b (sZ (ah x0) (ah x1))/\Tg.pf 180 [x0,x1] = .b (less (mU x0) (mU x1))/\Tg.pf 142 [x0,x1] = .b (jO (Fg x0) (mU x1))/\Tg.pf 179 [x0,x1] = .b (jW (aG x0) (mU x1))/\Tg.pf 143 [x0,x1] = .i (jP (mU x0) (mU x1))/\Tg.pf 106 [x0,x1] = .i (mF (set1 x0) (set1 x1))/\Tg.pf 235 [x0,x1] = .b (o9 (set1 x0) (set1 x1))/\Tg.pf 210 [x0,x1] = .b (qQ (ah x0) (ah x1))/\Tg.pf 134 [x0,x1] = .b (qQ (ah x0) (ah x1))/\Tg.pf 51 [x0,x1] = .tuple [.b (dX (ah x0) (ah x1)),.i (if ai (ah x0)&&ai (ah x1)then 0 else 11)]/\Tg.pf 105 [x0,x1] = .b (ji (ah x0) (ah x1))/\Tg.pf 184 [x0,x1] = .b (fits (aG x0) (zi x1))/\Tg.pf 108 [x0,x1] = .b (fits (aG x0) (zi x1))/\Tg.pf 185 [x0,x1] = .b (fV (lF x0) (ah x1))/\Tg.pf 111 [x0,x1] = .b (fV (lF x0) (ah x1))/\Tg.pf 173 [x0,x1] = .b (r9 (jE x0) (jE x1))/\Tg.pf 101 [x0,x1] = .b (wm (kM x0) (kM x1))/\Tg.pf 137 [x0,x1] = .i (qC (jE x0).q (eH x1))/\Tg.pf 136 [x0,x1,.fn (.func 137) [] []] = .tuple [.i (di (kM x0) (eH x1)),.b (dN (kM x0) (eH x1))]/\Tg.pf 53 [x0,x1] = .tuple [.i (di (aM x0).sets (eH x1)),.b (dN (aM x0).sets (eH x1))]/\Tg.pf 107 [x0,x1] = .i (uh (aM x0).sets (eH x1))/\Tg.pf 77 [x0,x1] = .tuple [.agg (kZ (aM x0) (eH x1)).1.d,.b (kZ (aM x0) (eH x1)).2.1,.i (kZ (aM x0) (eH x1)).2.2]/\Tg.pf 135 [x0,x1] = .i (ixF (ah x0) (aG x1))/\Tg.pf 246 [x0,x1] = .v (.string (bs (fT (qj x0))))/\Tg.pf 12 [x0,x1] = .tuple [.v (.string (bs (fF (aM x0) (ah x1)).1)),.b (fF (aM x0) (ah x1)).2.1,.i (fF (aM x0) (ah x1)).2.2]/\Tg.pf 204 [x0,x1] = .i (mW (ah x0) (ah x1))/\Tg.pf 127 [x0,x1] = .b (dX (ah x0) (ah x1))/\Tg.pf 202 [x0,x1] = .i ((srS (x1):Nat):Int)/\Tg.pf 129 [x0,x1] = .b (gy (gL x0).z.sets (ah x1))/\Tg.pf 205 [x0,x1] = .fn (.func 244) [] [.eptr [.eptr (gL x0).d],.eptr [.v (.string (bs (ah x1)))]]:=by and_intros<;>rfl
@[go_sem]theorem tgg2{x0 x1:D}:Tg.pf 131 [x0,x1] = .i (fA (gL x0).z.sets (ah x1))/\Tg.pf 243 [x0,x1] = .i (sV (lY x0) (aG x1))/\Tg.pf 201 [x0,x1] = .b (decide ((aG x1)∈(lY x0)))/\Tg.pf 11 [x0,x1] = .tuple [.agg (fB (aM x0) (eH x1)).1.d,.i (fB (aM x0) (eH x1)).2]/\Tg.pf 31 [x0,x1] = .list false ((nextF (aM x0) (qj x1)).map RSet.d)/\Tg.pf 33 [x0,x1] = .b (jy (aG x0) (aG x1))/\Tg.pf 36 [x0,x1] = .i (Go.Rec.cmpI (jD x0).n (jD x1).n)/\Tg.pf 21 [x0,x1] = .b (zO (xP x0) (xP x1))/\Tg.pf 54 [x0,x1] = .b (kI (aG x0) (aG x1))/\Tg.pf 8 [x0,x1] = .b (kI (aG x0) (aG x1))/\Tg.pf 57 [x0,x1] = .tuple [.agg (fu (oU (AZ x1)) rU (lC x0)).1.d,.b (fu (oU (AZ x1)) rU (lC x0)).2]/\Tg.pf 55 [x0,x1] = .tuple [.agg (fu (jK (AU x1)) o8 (lF x0)).1.d,.b (fu (jK (AU x1)) o8 (lF x0)).2]:=by and_intros<;>rfl
@[go_sem]theorem tgg3{x0:D}:Tg.pf 209 [x0] = .b (dI (ah x0))/\Tg.pf 175 [x0] = .b (dI (ah x0))/\Tg.pf 174 [x0] = .list false ((fQ (ah x0)).map sR)/\Tg.pf 102 [x0] = .b (ai (ah x0))/\Tg.pf 133 [x0] = .b (ai (ah x0))/\Tg.pf 50 [x0] = .b (ai (ah x0))/\Tg.pf 148 [x0] = .list false ((aL (ah x0)).map sR)/\Tg.pf 122 [x0] = .b ((aG x0) != (aG x0))/\Tg.pf 250 [x0] = .b ((ah x0) != (ah x0))/\Tg.pf 141 [x0] = .b (fP (ah x0))/\Tg.pf 178 [x0] = .b (fP (ah x0))/\Tg.pf 212 [x0] = .b (pX (ah x0))/\Tg.pf 236 [x0] = .b (pX (ah x0))/\Tg.pf 158 [x0] = .i (nO (lY x0) 0)/\Tg.pf 62 [x0] = .b (eG (set1 x0))/\Tg.pf 104 [x0] = .b (eG (set1 x0))/\Tg.pf 177 [x0] = .b (vX (aG x0))/\Tg.pf 124 [x0] = .tuple [.list false ((ma (set1 x0)).1.map bD),.i (ma (set1 x0)).2]/\Tg.pf 103 [x0] = .b (uw (ah x0))/\Tg.pf 151 [x0] = .b (wz (eH x0))/\Tg.pf 112 [x0] = .b (ordered (aM x0))/\Tg.pf 113 [x0] = .b (mg (aM x0))/\Tg.pf 115 [x0] = .b (kG (nT x0))/\Tg.pf 116 [x0] = .b (iB (nT x0))/\Tg.pf 117 [x0] = .b (tF (nT x0))/\Tg.pf 118 [x0] = .b (vB (nT x0))/\Tg.pf 114 [x0] = .agg (aN (aM x0)).d/\Tg.pf 27 [x0] = .b (aJ (aM x0))/\Tg.pf 232 [x0] = .tuple [.i (if aJ (aM x0)then rZ (aM x0)else 0),.i (if aJ (aM x0)then 0 else 1)]/\Tg.pf 22 [x0] = .b (kT (aM x0))/\Tg.pf 23 [x0] = .b (qi (aM x0))/\Tg.pf 24 [x0] = .b (lu (aM x0))/\Tg.pf 237 [x0] = .list false ((d9 (aM x0)).map sR)/\Tg.pf 182 [x0] = .list false ((bz (aM x0)).map sR)/\Tg.pf 109 [x0] = .list false ((ed (aM x0)).map sR)/\Tg.pf 25 [x0] = .b (pY (aM x0))/\Tg.pf 110 [x0] = .list false ((wN (aM x0)).map bR)/\Tg.pf 26 [x0] = .b (qW (aM x0))/\Tg.pf 7 [x0] = .b (nE (aM x0))/\Tg.pf 6 [x0] = .b (AY (aM x0)):=by and_intros<;>rfl
@[go_sem]theorem tgg4{x0:D}:Tg.pf 39 [x0] = .list false ((zb x0).map Dat.d)/\Tg.pf 119 [x0] = .list false ((lF x0).map RSig.d)/\Tg.pf 152 [x0] = .agg (jE x0).d/\Tg.pf 52 [x0] = .tuple [.v (.string (bs (kS (ah x0)))),.i (if ai (ah x0)then(if(ah x0)=[46]then 4 else 0)else 11)]/\Tg.pf 206 [x0] = .tuple [.list false ((if ai (ah x0)then aL (ah x0)else[]).map sR),.i (if ai (ah x0)then 0 else 11)]/\Tg.pf 207 [x0] = .tuple [.v (.string (bs (kX (qj x0)).1)),.i (kX (qj x0)).2]/\Tg.pf 30 [x0] = .tuple [.list false ((if aJ (aM x0)then bf (aM x0)else[]).map sR),.i (if aJ (aM x0)then 0 else 1)]/\Tg.pf 130 [x0] = .i (aR (gL x0).z.sets ⟨(gL x0).z.apex,4⟩)/\Tg.pf 132 [x0] = .v (.string (bs (o6 (gL x0).z (gL x0).q.name)))/\Tg.pf 29 [x0] = .b (!decide ((jE x0).set.ty=8))/\Tg.pf 28 [x0,.fn (.func 29) [] []] = .list false ((aS (kM x0)).map Sgd.d)/\Tg.pf 32 [x0] = .agg (jE x0).d/\Tg.pf 9 [x0] = .tuple [.agg (gG (aM x0)).1.d,.i (gG (aM x0)).2]/\Tg.pf 34 [x0] = .b (mD (jD x0))/\Tg.pf 38 [x0] = .list false ((jH (aN (aM x0)) (aM x0).sets.length).map bR):=by and_intros<;>rfl
@[go_sem]theorem tgg5{x0 x1 x2:D}:Tg.pf 140 [x0,x1,x2] = .b (aO (aG x0) (aG x1) (aG x2))/\Tg.pf 249 [x0,x1,x2] = .b (aO (aG x0) (aG x1) (aG x2))/\Tg.pf 176 [x0,x1,x2] = .b (aO (aG x0) (aG x1) (aG x2))/\Tg.pf 126 [x0,x1,x2] = .i (aR (gL x0).z.sets ⟨(ah x1),(aG x2)⟩)/\Tg.pf 203 [x0,x1,x2] = .b (decide (0<=mW (rJ x1).z.sets[(aG x0).toNat]!.set.name (rQ x2)))/\Tg.pf 245 [x0,x1,x2] = .b (decide (0<mW (rJ x1).z.sets[(aG x0).toNat]!.set.name (rQ x2)))/\Tg.pf 128 [x0,x1,x2] = .agg (⟨(aG x1),iI (gL x0).z.sets (lY x2),[]⟩:dV).d/\Tg.pf 59 [x0,x1,x2] = .b (rD (set1 x0) (xZ x1) (jD x2))/\Tg.pf 58 [x0,x1,x2] = .b (rD (rX x1).set (zK x2) (jD x0)):=by and_intros<;>rfl
@[go_sem]theorem tgg6{x0 x1 x2 x3:D}:Tg.pf 138 [x0,x1,x2,x3] = .i (qC ⟨(ah x0),(aG x1)⟩ ⟨(ah x2),(aG x3)⟩)/\Tg.pf 10 [x0,x1,x2,x3] = .tuple [.agg (allR (aM x0) (lC x1) (aG x2) (aG x3)).1.d,.i (allR (aM x0) (lC x1) (aG x2) (aG x3)).2]:=by and_intros<;>rfl
@[go_sem]theorem tgg7{x0 x1 x2 x3 x4:D}:Tg.pf 125 [x0,x1,x2,x3,x4] = .v (.int .u64 ((xW (zh x0) (ah x1) (jD x2) (aG x3) (aG x4):Nat):Int))/\Tg.pf 40 [x0,x1,x2,x3,x4] = .tuple [.agg (bW (set1 x0) (ah x1) (jD x2) (aG x3) (aG x4)).1.d,.i (bW (set1 x0) (ah x1) (jD x2) (aG x3) (aG x4)).2]/\Tg.pf 13 [x0,x1,x2,x3,x4] = .b (vY (jE x0) (ah x1) (lC x2) (aG x3) (aG x4)):=by and_intros<;>rfl
def tgg8{x0 x1 x2 x3 x4 x5:D}:Tg.pf 56 [x0,x1,x2,x3,x4,x5] = .b (jK ⟨(xX x1),(sQ x2),(sQ x3),(Ak x4),(rX x5)⟩ (xZ x0)):=rfl
def tgg9:Tg.pf 5 [] = .b true:=rfl
def tgg10{x0 x1 x2 x3 x4 x5 x6:D}:Tg.pf 3 [x0,x1,x2,x3,x4,x5,x6] = .b true:=rfl
attribute[go_sem]tgg8 tgg9 tgg10
noncomputable def vN:aH:={ Tg with bs:=true }
def tgB_p{k:FuncId}:vN.pure k=Tg.pure k:=rfl
def tgB_f{k:FuncId}{xs:List D}:vN.pf k xs=Tg.pf k xs:=rfl
def tgB_b:vN.bs=true:=rfl
def tg_b:Tg.bs=false:=rfl
def tg_c:Tg.cf=false:=rfl
def tgB_c:vN.cf=false:=rfl
attribute[go_sem]tgB_p tgB_f tgB_b tg_b tg_c tgB_c
noncomputable def zo:aH:={ Tg with cf:=true }
def tgF_p{k:FuncId}:zo.pure k=Tg.pure k:=rfl
def tgF_f{k:FuncId}{xs:List D}:zo.pf k xs=Tg.pf k xs:=rfl
def tgF_b:zo.bs=false:=rfl
def tgF_c:zo.cf=true:=rfl
def tg_s:Tg.dp=false:=rfl
def tgB_s:vN.dp=false:=rfl
attribute[go_sem]tgF_p tgF_f tgF_b tgF_c tg_s tgB_s
noncomputable def iW:aH:={ Tg with pure:=λk=>k != 128 }
def tgL_p128:iW.pure 128=false:=rfl
def tgL_p126:iW.pure 126=true:=rfl
def tgL_p130:iW.pure 130=true:=rfl
def tgL_p131:iW.pure 131=true:=rfl
def tgL_p129:iW.pure 129=true:=rfl
def tgL_p132:iW.pure 132=true:=rfl
def tgL_f{k:FuncId}{xs:List D}:iW.pf k xs=Tg.pf k xs:=rfl
def tgL_bs:iW.bs=false:=rfl
def tgL_cf:iW.cf=false:=rfl
def tgL_dp:iW.dp=false:=rfl
attribute[go_sem]tgL_p128 tgL_p126 tgL_p130 tgL_p131 tgL_p129 tgL_p132 tgL_f tgL_bs tgL_cf tgL_dp
set_option maxRecDepth 10000
variable [Dr]
def Xy(s:Str)(c:Int)(hs:s.length<=9223372036854775806):PureCt prog 288 [.v (.string (bs s)),.v (.int .u8 c)] (.i (bN s c)):=by
 rw[bN]
 refine oO func288 λff=>?_
 unfold f288
 refine ae Tg ?_
 refine wA Tg ?_
 refine lq (Nat×Nat) [0,1] (λ⟨k,nx⟩=>(k<=s.length/\jf s c s.length=jf s c k,k,[(5,.i ((k:Int)-1))],[],nx)) (s.length,_) ?_
 rintro⟨k,nx⟩ ⟨hk,hv⟩
 simp only[XX,XZ]
 refine oT Tg ?_ ?_ (hq:=rfl)<;>intro c1
 .
  have hk2:0<k:=by have h7:(0:Int)<=(k:Int)-1:=(by simpa using c1);omega
  have e1:((k:Int)-1).toNat=k-1:=by omega
  have ff:=qA @e1 ff;refine wD ?_;refine wE Tg ?_ ?_<;>intro c2
  . exact fr Tg (k:=by rw[hv,MK hk2,X0 c2];congr 2;omega)
  refine wC Tg ?_;exact ax (k-1,_) (h1:=⟨iv,(by(try dsimp only);rw[hv,MK hk2,if_neg c2])⟩)
 have hk2:k=0:=by have h7 : ¬(0:Int)<=(k:Int)-1:=(by simpa using c1);omega
 refine aP ?_
 exact fr Tg (k:=by rw[hv,hk2];rfl)
def CS(s:Str)(c:Int)(hs:s.length<=9223372036854775806):PureCt prog 247 [.v (.string (bs s)),.v (.int .u8 c)] (.i (bN s c)):=by
 refine oO func247 λff=>?_
 unfold f247
 refine ae Tg ?_
 exact ft Tg (hok:=oF (Xy _ _ hs))
def Nc(s:Str):PureCt prog 209 [.v (.string (bs s))] (.b (dI s)):=by
 rw[Xz]
 refine oO func209 λff=>?_
 unfold f209
 have e1:((s.length:Int)-1).toNat=s.length-1:=by omega
 have ff:=qA @e1 ff
 refine ae Tg ?_
 refine oK Tg ?_ ?_<;>intro c1
 . exact fr Tg (k:=by(repeat' split)<;>first|rfl|(exfalso;omega))
 refine wA Tg ?_
 refine lq (Nat×Nat) [0,27] (λ⟨k,nx⟩=>(k<=s.length/\aB s.length (sH s) 0=aB s.length (sH s) k,s.length-k,[(28,.i k)],[],nx)) (0,_) ?_
 rintro⟨k,nx⟩ ⟨hk,hv⟩
 simp only[XX,XZ]
 refine wH Tg ?_ ?_<;>intro c2
 .
  have hk2:k<s.length:=by simpa using c2
  refine wB ?_;refine oC Tg ?_;refine wE Tg ?_ ?_<;>intro c3
  . exact fr Tg (k:=by have h8:sH s k=false:=(by simp only[sH,mh,Yb,YC,X4];omega);rw[hv,eD,X0 hk2,h8];(repeat' split)<;>rfl)
  refine wC Tg ?_;exact ax (k+1,_) (h1:=⟨iv,(by(try dsimp only);have h8:sH s k=true:=(by simp only[sH,mh,Bool.or_eq_true,Bool.and_eq_true,decide_eq_true_eq];omega);rw[hv,eD,if_pos hk2,h8];rfl)⟩)
 refine aP ?_
 exact fr Tg (k:=by rw[hv,eD,XW (by omega),XW (by omega),XW (by omega),XW (by omega),XW (by omega)])
def Kt(s:Str)(hs:s.length<=9223372036854775806):PureCt prog 175 [.v (.string (bs s))] (.b (dI s)):=by
 rw[dI]
 refine oO func175 λff=>?_
 unfold f175
 refine ae Tg ?_
 refine wA Tg ?_
 refine lq (Nat×Nat) [0] (λ⟨k,nx⟩=>(k<=s.length/\aB s.length (kU s) 0=aB s.length (kU s) k,s.length-k,[(3,.i k)],[],nx)) (0,_) ?_
 rintro⟨k,nx⟩ ⟨hk,hv⟩
 simp only[XX,XZ]
 refine oT Tg ?_ ?_<;>intro c1
 .
  have hk2:k<s.length:=by simpa using c1
  refine wD ?_;refine oC Tg ?_;refine wE Tg ?_ ?_<;>intro c2
  . exact fr Tg (k:=by have h8:kU s k=false:=(by simp only[kU,mh,Yb,YC,X4];omega);rw[hv,eD,X0 hk2,h8];rfl)
  refine wC Tg ?_;exact ax (k+1,_) (h1:=⟨iv,(by(try dsimp only);have h8:kU s k=true:=(by simp only[kU,mh,Bool.or_eq_true,Bool.and_eq_true,decide_eq_true_eq];omega);rw[hv,eD,if_pos hk2,h8];rfl)⟩)
 refine aP ?_
 exact fr Tg (k:=by rw[hv,eD,XW (by omega)];congr 2;rw[YN];simp only[XT,XV,Zj];omega)
def Kl(s:Str)(hs:s.length<=1000):PureCt prog 174 [.v (.string (bs s))] (.l ((fQ s).map sR)):=by
 rw[fQ]
 refine oO func174 λff=>?_
 unfold f174
 refine ae Tg ?_
 refine ae vN ?_
 refine wA Tg ?_
 refine lq (Nat×(List Str)×Nat×Nat) [0] (λ⟨k,out,r,nx⟩=>(k<=s.length/\1<=out.length/\out.length<=k+1/\(∀x∈out,x.length<=k)/\qm s 0 [[]]=qm s k out/\r<nx,s.length-k,[(3,.mrow r 0 out.length),(4,.i k)],[(r,⟨9,out.map sR⟩)],nx)) (0,[[]],1,_) ?_ (hA:=⟨iv,(by first|(simp)|(dsimp only;simp)),(by first|(simp)|(dsimp only;simp)),(by first|(simp)|(dsimp only;simp)),rfl,iv⟩)
 rintro⟨k,out,r,nx⟩ ⟨hk,ho1,ho,hl,hv,hr⟩
 simp only[XX,XZ]
 have ff:=qA @hr ff
 refine oT Tg ?_ ?_<;>intro c1
 .
  have hk2:k<s.length:=by simpa using c1
  have hk3:out.length-1<out.length:=by omega
  have e1:((out.length:Int)-1).toNat=out.length-1:=by omega
  have e5:((k:Int)+1).toNat=k+1:=by omega
  have hl3:out[out.length-1]!.length<=k:=hl _ (by rw[getElem!_pos out _ hk3];exact Yq _)
  have ff:=qE @e1 @e5 (gu hk3) (Wj hk2) ff;refine wD ?_;refine wE Tg ?_ ?_<;>intro c2
  . have e2:=Sv (out:=out) (c:=s.getD k 0) c2;refine aA Tg ?_;refine aA Tg ?_;exact ax (k+1,out++[[]],(nx+10),_) (h1:=⟨iv,(by first|(simp)|(dsimp only;simp)),(by first|(simp;omega)|(dsimp only;simp;omega)),(by(try dsimp only);intro x hx;rcases List.mem_append.1 hx with h|h;exact Nat.le_succ_of_le (hl x h);simp at h;subst h;exact Nat.zero_le _),(by(try dsimp only);rw[hv,zJ,if_pos hk2,e2]),iv⟩) (h3:=by(try simp only[go_sem,ff]);all_goals (first|done|(simp[sR];done)|(simp[sR];omega)|((repeat' (with_reducible apply And.intro))<;>first|(left;simp[sR];done)|(right;simp[go_sem,sR];done)))) (h4:=by(try simp only[go_sem,ff]);all_goals (first|done|(simp[sR];done)|(simp[sR];omega)|((repeat' (with_reducible apply And.intro))<;>first|(left;simp[sR];done)|(right;simp[go_sem,sR];done)))) (h5:=by(try simp only[go_sem,ff]);all_goals (first|done|(simp[sR];done)|(simp[sR];omega)|((repeat' (with_reducible apply And.intro))<;>first|(left;simp[sR];done)|(right;simp[go_sem,sR];done))))
  have e2:=Sy (out:=out) (c:=s.getD k 0) c2;refine aA Tg ?_;refine aA Tg ?_;exact ax (k+1,out.set (out.length-1) (out[out.length-1]! ++ [s.getD k 0]),r,_) (h1:=⟨iv,(by first|(simp;omega)|(dsimp only;simp;omega)),(by first|(simp;omega)|(dsimp only;simp;omega)),(by(try dsimp only);intro x hx;rcases List.mem_or_eq_of_mem_set hx with h|h;exact Nat.le_succ_of_le (hl x h);subst h;rw[List.length_append];exact Nat.succ_le_succ hl3),(by(try dsimp only);rw[hv,zJ,if_pos hk2,e2]),iv⟩) (h3:=by(try simp only[go_sem,ff]);all_goals (first|done|(simp[sR];done)|(simp[sR];omega)|((repeat' (with_reducible apply And.intro))<;>first|(left;simp[sR];done)|(right;simp[go_sem,sR];done)))) (h4:=by(try simp only[go_sem,ff]);all_goals (first|done|(simp[sR];done)|(simp[sR];omega)|((repeat' (with_reducible apply And.intro))<;>first|(left;simp[sR];done)|(right;simp[go_sem,sR];done)))) (h5:=by(try simp only[go_sem,ff]);all_goals (first|done|(simp[sR];done)|(simp[sR];omega)|((repeat' (with_reducible apply And.intro))<;>first|(left;simp[sR];done)|(right;simp[go_sem,sR];done))))
 refine aP ?_
 exact fr Tg (K:=1) (k:=by rw[hv,zJ,XW (by omega)])
def pq(s:Str):PureCt prog 102 [.v (.string (bs s))] (.b (ai s)):=by
 rw[ai]
 refine oO func102 λff=>?_
 unfold f102
 refine ae Tg ?_
 refine oK Tg ?_ ?_<;>intro c1
 . exact fr Tg (k:=by rw[X0 c1])
 refine oK Tg ?_ ?_<;>intro c2
 . exact fr Tg (k:=by rw[XW c1,X0 (by omega)])
 refine ae Tg ?_ (hok:=jd @Kl)
 refine wA Tg ?_
 refine lq (Nat×Nat) [3] (λ⟨k,nx⟩=>(k<=(fQ s).length/\aB (fQ s).length (fC (fQ s)) 0=aB (fQ s).length (fC (fQ s)) k,(fQ s).length-k,[(4,.i k)],[],nx)) (0,_) ?_
 rintro⟨k,nx⟩ ⟨hk,hv⟩
 simp only[XX,XZ]
 have hsl:=Sz s k
 have hsn:=(BR s).2
 refine oT Tg ?_ ?_<;>intro c3
 .
  have hk2:k<(fQ s).length:=by simpa using c3
  have ff:=qA (gu hk2) ff;refine wD ?_;refine ae Tg ?_ (hok:=jd @Kt);refine wE Tg (λc4=>?_) (λc4=>?_) (hok:=oS (k:=by refine⟨λ_=>⟨om,om⟩,λh1 _=>⟨h1,λh3=>by rw[h1,h3];rfl⟩⟩))
  . exact fr Tg (k:=by rw[XW c1,XW (by omega),hv,eD,X0 hk2,V3 c4.1 (by first|exact c4.2|(rcases c4.2 with h|h;exact .inl (by omega);exact .inr h))];rfl)
  refine wC Tg ?_;exact ax (k+1,_) (h1:=⟨iv,(by(try dsimp only);rw[hv,eD,if_pos hk2,VZ (by first|exact c4|(rcases c4 with h|h;exact .inl h;exact .inr ⟨om,h.2⟩))];rfl)⟩)
 refine aP ?_
 exact fr Tg (k:=by rw[XW c1,XW (by omega),hv,eD,XW (by omega),Zj];congr 2;exact ZU.2 (by omega))
def yh(s:Str)(hs:s.length<=1000):PureCt prog 148 [.v (.string (bs s))] (.l ((aL s).map sR)):=by
 rw[aL]
 refine oO func148 λff=>?_
 unfold f148
 refine ae Tg ?_
 refine oK Tg ?_ ?_<;>intro c1
 . exact fr Tg (k:=by rw[X0 c1];rfl)
 exact fr Tg (hok:=oF (Kl _ hs)) (k:=by rw[XW c1])
theorem IB:jl prog 208=true:=by kernel_rfl
theorem vU(s:Str):PureCt prog 133 [.v (.string (bs s))] (.b (ai s)):=by
 refine oO func133 λff=>?_
 unfold f133
 refine ae Tg ?_
 refine oK Tg ?_ ?_<;>intro c1
 . exact fr Tg (k:=by rw[ai,X0 c1])
 refine oK Tg ?_ ?_<;>intro c3
 . exact fr Tg (k:=by rw[ai,XW c1,X0 (by omega)])
 refine ae Tg ?_
 refine wA Tg ?_
 refine A9 (by simp only[go_sem,ff]) ev func208 rfl IB (by simp[f208]) rfl (λl rL hp ha hb hn=>?_)
 unfold f208
 refine oK Tg ?_ ?_<;>intro d0
 . exact absurd d0 c1
 refine ae Tg ?_
 refine dZ ?_
 refine lq (Str×Nat×Bool×Nat) [1] (λ⟨rest,n,wild,nx⟩=>(n<=8/\rest.length<=s.length/\7<nx/\ai s=lm (kP rest) n wild,rest.length,[(4,.v (.string (bs rest)))],[(0,⟨4,[[.b false]]⟩),(6,⟨3,[[.i n]]⟩),(7,⟨4,[[.b wild]]⟩)],nx)) (s,0,false,_) ?_ (hA:=⟨oW,(by first|(first|omega|(simp;omega))|(dsimp only;first|omega|(simp;omega))),iv,(by(try dsimp only);rw[Mh,if_neg c1,if_neg (by omega)])⟩)
 rintro⟨rest,n,wild,nx⟩ ⟨hn8,hl,hx,hv⟩
 simp only[XX,XZ]
 have hL:=Aj rest 46
 have n0:0<nx:=by omega
 have n6:6<nx:=by omega
 have n7:7<nx:=by omega
 refine dZ ?_
 refine ae Tg ?_ (hok:=jd @CS)
 refine aY ?_
 refine aY ?_
 refine DR (C:=Tg) (r:=rL) 5 (oZ rfl) rfl rfl rfl (by simp only[YD,Y0,go_sem,ff];exact rfl) ?_ ev (by first|(simp only[go_sem,ff];done)|(simp only[go_sem,ff];exact rfl)) (by simp only[go_sem,ff]) ev (by rw[hp];rfl) (by rw[hp,hn];show ∀p∈[13],p<30;decide) ?_
 .
  try simp only[go_sem,ff]
  all_goals (first|done|(repeat' (with_reducible apply And.intro))<;>first|omega|(with_reducible assumption)|(intros;omega)|(intros;simp only[XV,X4,Ya,XT,Yb,X7,Ym]at *;omega)|(simp_all;done)|(simp_all;omega))
 rw[ha,hb,hp,hn]
 show DW _ _ _ _ { n:=_,t:=lH _ [13] _,h:=_,nx:=_ }
 simp only[zN,zM]
 refine aA Tg ?_
 refine⟨rfl,?_⟩
 refine dZ ?_
 refine ae Tg ?_
 refine oM Tg ?_ ?_ (hq:=rfl)<;>intro c9
 .
  refine ae Tg ?_;refine iP ?_;refine⟨rfl,false,some .ret,⟨rfl,rfl⟩,⟨_,_,_,_,_,_⟩,by simp only[Yw,Yl,S.put,go_sem,ff];exact rfl,?_,?_⟩
  .
   try simp only[go_sem,ff]
   all_goals (first|done|(repeat' (with_reducible apply And.intro))<;>first|omega|(with_reducible assumption)|(intros;omega)|(intros;simp only[XV,X4,Ya,XT,Yb,X7,Ym]at *;omega)|(simp_all;done)|(simp_all;omega))
  try simp only[gz]
  refine ce ?_ ?_ (hq:=rfl)<;>intro d3
  . refine iP ?_;refine⟨.inr rfl,some .ret,rfl,?_⟩;exact fin 0 (hr:=oS (k:=by first|(rw[hv,lI,Jk c9];done)|(rw[hv,lI,Jj c9 c12])))
  simp at d3
 have c9b:=ZcB c9
 refine ae Tg ?_
 refine wG Tg (λc12=>?_) (λc12=>?_) (hok:=jd @Nc) (hq:=rfl)
 .
  refine ae Tg ?_;refine iP ?_;refine⟨rfl,false,some .ret,⟨rfl,rfl⟩,⟨_,_,_,_,_,_⟩,by simp only[Yw,Yl,S.put,go_sem,ff];exact rfl,?_,?_⟩
  .
   try simp only[go_sem,ff]
   all_goals (first|done|(repeat' (with_reducible apply And.intro))<;>first|omega|(with_reducible assumption)|(intros;omega)|(intros;simp only[XV,X4,Ya,XT,Yb,X7,Ym]at *;omega)|(simp_all;done)|(simp_all;omega))
  try simp only[gz]
  refine ce ?_ ?_ (hq:=rfl)<;>intro d3
  . refine iP ?_;refine⟨.inr rfl,some .ret,rfl,?_⟩;exact fin 0 (hr:=oS (k:=by first|(rw[hv,lI,Jk c9];done)|(rw[hv,lI,Jj c9 c12])))
  simp at d3
 refine dS ?_
 refine⟨rfl,true,none,⟨rfl,rfl⟩,⟨_,_,_,_,_,_⟩,by simp only[Yw,Yl,S.put,go_sem,ff];exact rfl,?_,?_⟩
 .
  try simp only[go_sem,ff]
  all_goals (first|done|(repeat' (with_reducible apply And.intro))<;>first|omega|(with_reducible assumption)|(intros;omega)|(intros;simp only[XV,X4,Ya,XT,Yb,X7,Ym]at *;omega)|(simp_all;done)|(simp_all;omega))
 try simp only[gz]
 refine cd ?_ ?_<;>intro d3
 . refine iP ?_;refine⟨.inr rfl,none,rfl,?_⟩;exact fr Tg (k:=by rw[hv,lI,Ji c9 c12,X0 d3];rfl)
 refine wC Tg ?_
 exact ax (rest.take (bN rest 46).toNat,n+1,((rest.drop (bN rest 46+1).toNat)==[42]),_) (h1:=⟨oW,(by first|(first|omega|(simp;omega))|(dsimp only;first|omega|(simp;omega))),iv,(by(try dsimp only);rw[hv,lI,Ji c9 c12,if_neg d3])⟩) (h2:=by show(_:Nat)<_;(simp;omega))
def uU(s:Str):PureCt prog 50 [.v (.string (bs s))] (.b (ai s)):=by
 refine oO func50 λff=>?_
 unfold f50
 refine ae Tg ?_
 exact ft Tg (hok:=oF (vU _))
open Go.RowKit
def ZcI:Go.Shelf.Ren:={ f:=λx=>match x with|213=>270|265=>296|n=>n,t:=λx=>match x with|3=>3|9=>9|n=>n,g:=λn=>n }
def ZcJ:Go.Proofs.Lays.n213 prog ZcI:={
 mixed:=mix
 f213:=func270.trans (by kernel_rfl)
 f265:=func296.trans (by kernel_rfl)
 t3:=underlying3
 a3:=Tryz.isAgg3
 z3:=Tryz.sizeOf3
 v3:=Tryz.zeroValue3
 t9:=underlying9
 a9:=Tryz.isAgg9
 z9:=Tryz.sizeOf9
 v9:=Tryz.zeroValue9 }
def ZcH(a b:Str):PureCt prog 270 [.v (.string (bs a)),.v (.string (bs b))] (.i (Go.Lib.compareBytes a b)):=by
 refine⟨by kernel_rfl,by simp[D.nr],λw I vs hI hg hr=>?_⟩
 obtain⟨x,l,rfl,h1,h2⟩:=hr.of_cons
 obtain⟨y,l,rfl,h3,h4⟩:=h2.of_cons
 rw[h4.of_nil,h1.v_inv,h3.v_inv]
 have:=Go.Proofs.Any.bytealg_CompareString ZcJ (bs a) (bs b) w
 refine callsIn_wide.2 (this.mono ?_)
 rintro e w' ⟨rfl,rfl⟩
 refine⟨_,rfl,⟨rfl,rfl,rfl,X3 _,λ_=>X3 _,λ_ _=>rfl⟩,?_⟩
 rw[kz,kz]
 exact .v _
def ZcG(a:Str)(b:Str):PureCt prog 227 [.v (.string (bs a)),.v (.string (bs b))] (.i (Go.Lib.compareBytes a b)):=by
 refine oO func227 λff=>?_
 unfold f227
 refine ae Tg ?_
 exact ft Tg (hok:=oF (ZcH _ _))
def VE(s:Str)(h:H)(n:Nat):dz prog 226 [.v (.string (bs s))] h n (λd h' n'=>d = .fn (.func 269) [] [.mptr (n+5) 0 0,.mptr (n+4) 0 0]/\h'=upd (upd h (n+4) (some ⟨9,[[.v (.string (bs s))]]⟩)) (n+5) (some ⟨4,[[.b (s != [46])]]⟩)/\n'=n+10):=by
 refine oP func226 λhnone ff=>?_
 unfold f226
 have ff:=qA (nH (n+4) (n+5)) ff
 refine oD Tg ?_
 exact oN (fJ (upd (upd h (n+4) (some ⟨9,[[.v (.string (bs s))]]⟩)) (n+5) (some ⟨4,[[.b (s != [46])]]⟩)) (hr:=by(try simp only[go_sem,ff]);all_goals (exact⟨rfl,rfl,rfl⟩)) (hh:=by intro q;left;by_cases e1:q=n+5<;>by_cases e2:q=n+4<;>simp[upd,e1,e2]))
def VF(more:Bool)(rest:Str)(m r:Nat)(h:H)(n:Nat)(hm:h m=some ⟨4,[[.b more]]⟩)(hr:h r=some ⟨9,[[.v (.string (bs rest))]]⟩)(hmr:m≠r)(hl:rest.length<=1000):dz prog 269 [.mptr m 0 0,.mptr r 0 0] h n (λd h' n'=>d = .tuple [.v (.string (bs (sD more rest))),.b more]/\h'=upd (upd h m (some ⟨4,[[.b (mH more rest)]]⟩)) r (some ⟨9,[[.v (.string (bs (mG more rest)))]]⟩)/\n<=n'):=by
 refine oP func269 λhnone ff=>?_
 unfold f269
 have hrm:r≠m:=λe=>hmr e.symm
 have hL:=Aj rest 46
 have ff:=qE @hm @hr @hmr @hrm ff
 refine ae Tg ?_
 refine oK Tg ?_ ?_<;>intro c1
 . refine ae Tg ?_;exact oN (fJ (upd (upd h m (some ⟨4,[[.b (mH more rest)]]⟩)) r (some ⟨9,[[.v (.string (bs (mG more rest)))]]⟩)) (hr:=oS (k:=by first|exact ZC _ _|(refine⟨?_,ZC _ _⟩;simp_all [sD]))) (hh:=by intro q;left;by_cases e1:q=r<;>by_cases e2:q=m<;>simp_all [upd,mH,mG]<;>(rw[XW (by omega)])))
 refine ae Tg ?_ (hok:=jd @CS)
 refine ae Tg ?_
 refine aY ?_
 refine wE Tg ?_ ?_<;>intro c2
 . refine aA Tg ?_;refine ae Tg ?_;exact oN (fJ (upd (upd h m (some ⟨4,[[.b (mH more rest)]]⟩)) r (some ⟨9,[[.v (.string (bs (mG more rest)))]]⟩)) (hr:=oS (k:=by first|exact ZC _ _|(refine⟨?_,ZC _ _⟩;simp_all [sD]))) (hh:=by intro q;left;by_cases e1:q=r<;>by_cases e2:q=m<;>simp_all [upd,mH,mG]<;>(rw[XW (by omega)])))
 refine aA Tg ?_
 refine ae Tg ?_
 exact oN (fJ (upd (upd h m (some ⟨4,[[.b (mH more rest)]]⟩)) r (some ⟨9,[[.v (.string (bs (mG more rest)))]]⟩)) (hr:=oS (k:=by first|exact ZC _ _|(refine⟨?_,ZC _ _⟩;simp_all [sD]))) (hh:=by intro q;left;by_cases e1:q=r<;>by_cases e2:q=m<;>simp_all [upd,mH,mG]<;>(rw[XW (by omega)])))
def F8(a:Str)(b:Str):PureCt prog 166 [.v (.string (bs a)),.v (.string (bs b))] (.tuple [.i (if ai a&&ai b then fZ a b else 0),.i (if ai a&&ai b then 0 else 11)]):=by
 refine oO func166 λff=>?_
 unfold f166
 refine oC Tg ?_
 refine oM Tg (λc1=>?_) (λc1=>?_) (hok:=oS (k:=by first|done|(simp only[vU,and_true,implies_true];done)|((repeat' (with_reducible apply And.intro))<;>first|(intros;exact vU _))))
 . exact fr Tg (K:=1) (k:=by(have e:(ai a&&ai b)=false:=by revert c1;cases ai a<;>cases ai b<;>simp);rw[e];rfl)
 refine oK Tg ?_ ?_<;>intro c2
 . exact fr Tg (K:=1) (k:=by rw[c1.1,c1.2,fZ,X0 c2];rfl)
 refine aY (gI Tg 1 (hct:=by exact VE b _ _) (hk:=?_))
 rintro res h2 n2 ⟨rfl,rfl,rfl⟩
 refine gH Tg ?_
 refine ae Tg ?_
 refine wA Tg ?_
 refine A9 (by simp only[go_sem,ff]) ev func208 rfl IB (by simp[f208]) rfl (λl rL hp ha hb hn=>?_)
 unfold f208
 refine oK Tg ?_ ?_<;>intro d0
 . refine iP ?_;refine⟨.inr rfl,none,rfl,?_⟩;exact fr Tg (K:=1) (k:=by first|(rw[c1.1,c1.2,fZ,XW c2,hv,Ir c11 c14,X0 d3];rfl)|(rw[c1.1,c1.2,fZ,XW c2,d0];rfl))
 refine ae Tg ?_
 refine dZ ?_
 refine lq (Str×Bool×Str×Nat) [1] (λ⟨rest,more,uJ,nx⟩=>(rest.length<=60/\uJ.length<=60/\30<nx/\oQ (bq a) (bq b)=oQ (kP rest) (pl more uJ),rest.length,[(4,.v (.string (bs rest)))],[(0,⟨3,[[.i 0]]⟩),(1,⟨31,[[.i 0]]⟩),(22,⟨9,[[.v (.string (bs uJ))]]⟩),(23,⟨4,[[.b more]]⟩),(30,⟨281,[[.fn (.func 269) [] [.mptr 23 0 0,.mptr 22 0 0]]]⟩)],nx)) (a,(b != [46]),b,_) ?_ (hA:=⟨(gT c1.1),(gT c1.2),iv,(by(try dsimp only);rw[U3 b,bq,if_neg d0])⟩)
 rintro⟨rest,more,uJ,nx⟩ ⟨hl,hl2,hx,hv⟩
 simp only[XX,XZ]
 have hL:=Aj rest 46
 have n0:0<nx:=by omega
 have n1:1<nx:=by omega
 have n22:22<nx:=by omega
 have n23:23<nx:=by omega
 refine dZ ?_
 refine ae Tg ?_ (hok:=jd @CS)
 refine aY ?_
 refine aY ?_
 refine DR (C:=Tg) (r:=rL) 5 (oZ rfl) rfl rfl rfl (by simp only[YD,Y0,go_sem,ff];exact rfl) ?_ ev (by first|(simp only[go_sem,ff];done)|(simp only[go_sem,ff];exact rfl)) (by simp only[go_sem,ff]) ev (by rw[hp];rfl) (by rw[hp,hn];show ∀p∈[32],p<46;decide) ?_
 .
  try simp only[go_sem,ff]
  all_goals (first|done|(repeat' (with_reducible apply And.intro))<;>first|omega|(with_reducible assumption)|(intros;omega)|(intros;simp only[XV,X4,Ya,XT,Yb,X7,Ym]at *;omega)|(simp_all;done)|(simp_all;omega))
 rw[ha,hb,hp,hn]
 show DW _ _ _ _ { n:=_,t:=lH _ [32] _,h:=_,nx:=_ }
 simp only[zN,zM]
 refine aA Tg ?_
 refine⟨rfl,?_⟩
 refine dZ ?_
 refine aY (gI Tg 1 (hct:=by exact VF more uJ 23 22 _ _ rfl rfl (by decide) om) (hk:=?_))
 rintro res h2 n2 ⟨rfl,rfl,hn2⟩
 refine gH Tg ?_
 refine oM Tg (λc11=>?_) (λc11=>?_) (hq:=rfl)
 .
  refine ae Tg ?_;refine iP ?_;refine⟨rfl,false,some .ret,⟨rfl,rfl⟩,⟨_,_,_,_,_,_⟩,by simp only[Yw,Yl,S.put,go_sem,ff];exact rfl,?_,?_⟩
  .
   try simp only[go_sem,ff]
   all_goals (first|done|(repeat' (with_reducible apply And.intro))<;>first|omega|(with_reducible assumption)|(intros;omega)|(intros;simp only[XV,X4,Ya,XT,Yb,X7,Ym]at *;omega)|(simp_all;done)|(simp_all;omega))
  try simp only[gz]
  refine ce ?_ ?_ (hq:=rfl)<;>intro d3
  . refine iP ?_;refine⟨.inr rfl,some .ret,rfl,?_⟩;exact fin 1 (hr:=oS (k:=by first|(rw[c1.1,c1.2,fZ,XW c2,hv,Ec c11];done)|(rw[c1.1,c1.2,fZ,XW c2,hv,Ec c11];rfl)|(rw[c1.1,c1.2,fZ,XW c2,hv,Qa c11 c14];rfl)))
  simp at d3
 refine ae Tg ?_ (hok:=oF (ZcG _ _))
 refine wG Tg (λc14=>?_) (λc14=>?_) (hq:=rfl)
 .
  refine ae Tg ?_;refine iP ?_;refine⟨rfl,false,some .ret,⟨rfl,rfl⟩,⟨_,_,_,_,_,_⟩,by simp only[Yw,Yl,S.put,go_sem,ff];exact rfl,?_,?_⟩
  .
   try simp only[go_sem,ff]
   all_goals (first|done|(repeat' (with_reducible apply And.intro))<;>first|omega|(with_reducible assumption)|(intros;omega)|(intros;simp only[XV,X4,Ya,XT,Yb,X7,Ym]at *;omega)|(simp_all;done)|(simp_all;omega))
  try simp only[gz]
  refine ce ?_ ?_ (hq:=rfl)<;>intro d3
  . refine iP ?_;refine⟨.inr rfl,some .ret,rfl,?_⟩;exact fin 1 (hr:=oS (k:=by first|(rw[c1.1,c1.2,fZ,XW c2,hv,Ec c11];done)|(rw[c1.1,c1.2,fZ,XW c2,hv,Ec c11];rfl)|(rw[c1.1,c1.2,fZ,XW c2,hv,Qa c11 c14];rfl)))
  simp at d3
 refine dS ?_
 refine⟨rfl,true,none,⟨rfl,rfl⟩,⟨_,_,_,_,_,_⟩,by simp only[Yw,Yl,S.put,go_sem,ff];exact rfl,?_,?_⟩
 .
  try simp only[go_sem,ff]
  all_goals (first|done|(repeat' (with_reducible apply And.intro))<;>first|omega|(with_reducible assumption)|(intros;omega)|(intros;simp only[XV,X4,Ya,XT,Yb,X7,Ym]at *;omega)|(simp_all;done)|(simp_all;omega))
 try simp only[gz]
 refine cd ?_ ?_<;>intro d3
 . refine iP ?_;refine⟨.inr rfl,none,rfl,?_⟩;exact fr Tg (K:=1) (k:=by first|(rw[c1.1,c1.2,fZ,XW c2,hv,Ir c11 c14,X0 d3];rfl)|(rw[c1.1,c1.2,fZ,XW c2,d0];rfl))
 refine wC Tg ?_
 exact ax (rest.take (bN rest 46).toNat,mH more uJ,mG more uJ,_) (h1:=⟨(by first|(first|omega|(simp;omega))|(dsimp only;first|omega|(simp;omega))),(by(try dsimp only);first|omega|(have:=VS more uJ;omega)),iv,(by(try dsimp only);rw[hv,Ir c11 c14,if_neg d3])⟩) (h2:=by show(_:Nat)<_;(simp;omega))
def Fs(a:Str)(b:Str)(ha:a.length<=1000)(hb:b.length<=1000):PureCt prog 183 [.v (.string (bs a)),.v (.string (bs b))] (.i (dB a b)):=by
 rw[WC]
 refine oO func183 λff=>?_
 unfold f183
 have hl:=(FL a).2
 have hm:=(FL b).2
 refine ae Tg ?_
 refine ae Tg ?_ (hok:=oF (yh _ ha))
 refine ae Tg ?_ (hok:=oF (yh _ hb))
 refine wA Tg ?_
 refine lq (Nat×Nat) [5,6] (λ⟨k,nx⟩=>(1<=k/\k<=(aL a).length+1/\uR (aL a) (aL b) 1=uR (aL a) (aL b) k,(aL a).length+1-k,[(7,.i k)],[],nx)) (1,_) ?_
 rintro⟨k,nx⟩ ⟨hk,hk1,hv⟩
 simp only[XX,XZ]
 refine oT Tg ?_ ?_ (hq:=rfl)<;>intro c1
 .
  have hk2:k<=(aL a).length/\k<=(aL b).length:=by simp only[XT,XV]at c1;omega
  have e1:(((aL a).length:Int)-k).toNat=(aL a).length-k:=by omega
  have e2:(((aL b).length:Int)-k).toNat=(aL b).length-k:=by omega
  have g1:(aL a).length-k<(aL a).length:=by omega
  have g2:(aL b).length-k<(aL b).length:=by omega
  have ff:=qE @e1 @e2 (gu g1) (gu g2) ff;refine wD ?_;refine oC Tg ?_;refine oM Tg ?_ ?_ (hq:=rfl)<;>intro c2
  . exact fr Tg (k:=by rw[hv,wP,X0 hk2,X0 c2])
  refine wG Tg ?_ ?_ (hq:=rfl)<;>intro c3
  . exact fr Tg (k:=by rw[hv,wP,X0 hk2,XW (by rw[c2];simp),X0 c3])
  refine wC Tg ?_;exact ax (k+1,_) (h1:=⟨iv,iv,(by(try dsimp only);rw[hv,wP,if_pos hk2,if_neg (by rw[c2];simp),if_neg (by rw[c3];simp)])⟩)
 have hk2 : ¬(k<=(aL a).length/\k<=(aL b).length):=by simp only[YC,X4]at c1;omega
 refine aP ?_
 refine oK Tg ?_ ?_<;>intro c4
 . exact fr Tg (k:=by rw[hv,wP,XW hk2,X0 (by omega)])
 refine oK Tg ?_ ?_<;>intro c5
 . exact fr Tg (k:=by rw[hv,wP,XW hk2,XW (by omega),X0 (by omega)])
 exact fr Tg (k:=by rw[hv,wP,XW hk2,XW (by omega),XW (by omega)])
def U1(a:Str)(b:Str):PureCt prog 181 [.v (.string (bs a)),.v (.string (bs b))] (.tuple [.i (if ai a&&ai b then fZ a b else 0),.i (if ai a&&ai b then 0 else 11)]):=by
 refine oO func181 λff=>?_
 unfold f181
 refine ae Tg ?_
 refine ae Tg ?_ (hok:=oF (pq _))
 refine ae Tg ?_ (hok:=oF (pq _))
 refine oM Tg ?_ ?_<;>intro c1
 .
  have e:(ai a&&ai b)=false:=by revert c1;cases ai a<;>cases ai b<;>simp
  exact fr Tg (K:=1) (k:=by rw[e];rfl)
 have e:(ai a&&ai b)=true:=by rw[c1.1,c1.2];rfl
 have la:=gT c1.1
 have lb:=gT c1.2
 exact fr Tg (K:=1) (hok:=jd @Fs) (k:=by rw[e,F6];rfl)
def BD(x:Int)(lo:Int)(hi:Int):PureCt prog 140 [.i x,.i lo,.i hi] (.b (aO x lo hi)):=by
 refine oO func140 λff=>?_
 unfold f140
 refine ae Tg ?_
 exact ft Tg
theorem EH(x:Int)(lo:Int)(hi:Int):PureCt prog 249 [.v (.int .u8 x),.v (.int .u8 lo),.v (.int .u8 hi)] (.b (aO x lo hi)):=by
 refine oO func249 λff=>?_
 unfold f249
 refine ae Tg ?_
 exact ft Tg
def uE(x:Int)(lo:Int)(hi:Int):PureCt prog 176 [.i x,.i lo,.i hi] (.b (aO x lo hi)):=by
 refine oO func176 λff=>?_
 unfold f176
 refine ae Tg ?_
 exact ft Tg
def Mg(x:Int):PureCt prog 122 [.i x] (.b (x != x)):=by
 refine oO func122 λff=>?_
 unfold f122
 refine ae Tg ?_
 exact ft Tg
def Mf(x:Str):PureCt prog 250 [.v (.string (bs x))] (.b (x != x)):=by
 refine oO func250 λff=>?_
 unfold f250
 refine ae Tg ?_
 exact ft Tg
def Eb(x:Int)(y:Int):PureCt prog 37 [.i x,.i y] (.i (cmpI x y)):=by
 refine oO func37 λff=>?_
 unfold f37
 refine ae Tg ?_
 refine ae Tg ?_ (hok:=oS (k:=by have h:=Mg x;simp only[bne_self_eq_false]at h;exact h))
 refine ae Tg ?_ (hok:=oS (k:=by have h:=Mg y;simp only[bne_self_eq_false]at h;exact h))
 refine oM Tg ?_ ?_<;>intro c1
 . simp at c1
 refine oM Tg ?_ ?_<;>intro c2
 . simp at c2
 refine oK Tg ?_ ?_<;>intro c3
 . exact fr Tg (k:=by simp only[cmpI,oG,pM];first|(simp_all;done)|((repeat' split)<;>first|rfl|omega))
 refine oK Tg ?_ ?_<;>intro c4
 . exact fr Tg (k:=by simp only[cmpI,oG,pM];first|(simp_all;done)|((repeat' split)<;>first|rfl|omega))
 exact fr Tg (k:=by simp only[cmpI,oG,pM];first|(simp_all;done)|((repeat' split)<;>first|rfl|omega))
def ZcC(x:Str)(y:Str):PureCt prog 213 [.v (.string (bs x)),.v (.string (bs y))] (.i (oG x y)):=by
 refine oO func213 λff=>?_
 unfold f213
 refine ae Tg ?_
 refine ae Tg ?_ (hok:=oS (k:=by have h:=Mf x;simp only[bne_self_eq_false]at h;exact h))
 refine ae Tg ?_ (hok:=oS (k:=by have h:=Mf y;simp only[bne_self_eq_false]at h;exact h))
 refine oM Tg ?_ ?_<;>intro c1
 . simp at c1
 refine oM Tg ?_ ?_<;>intro c2
 . simp at c2
 refine oK Tg ?_ ?_<;>intro c3
 . exact fr Tg (k:=by simp only[cmpI,oG,pM];first|(simp_all;done)|((repeat' split)<;>first|rfl|omega))
 refine oK Tg ?_ ?_<;>intro c4
 . exact fr Tg (k:=by simp only[cmpI,oG,pM];first|(simp_all;done)|((repeat' split)<;>first|rfl|omega))
 exact fr Tg (k:=by simp only[cmpI,oG,pM];first|(simp_all;done)|((repeat' split)<;>first|rfl|omega))
def ZaB(s:Str)(p:Str):PureCt prog 196 [.v (.string (bs s)),.v (.string (bs p))] (.b (sZ s p)):=by
 refine oO func196 λff=>?_
 unfold f196
 refine ae Tg ?_
 exact fr Tg (k:=by have e:decide ((p.length:Int)<=s.length)=decide (p.length<=s.length):=ZU.2 (by omega);rw[sZ,e])
def GR(s:Str)(p:Str):PureCt prog 123 [.v (.string (bs s)),.v (.string (bs p))] (.b (sZ s p)):=by
 refine oO func123 λff=>?_
 unfold f123
 refine ae Tg ?_
 exact ft Tg (hok:=jd @ZaB)
def Nb(s:Str):PureCt prog 141 [.v (.string (bs s))] (.b (fP s)):=by
 refine oO func141 λff=>?_
 unfold f141
 refine ae Tg ?_
 exact fr Tg (hok:=jd @GR) (k:=by rw[vS])
def uF(s:Str):PureCt prog 178 [.v (.string (bs s))] (.b (fP s)):=by
 refine oO func178 λff=>?_
 unfold f178
 refine ae Tg ?_
 exact fr Tg (k:=by rw[fP];congr 2;rw[YN];simp only[XT,XV,Yy];omega)
def XR(s:Str):PureCt prog 212 [.v (.string (bs s))] (.b (pX s)):=by
 rw[pX]
 refine oO func212 λff=>?_
 unfold f212
 have e1:((s.length:Int)-1).toNat=s.length-1:=by omega
 have ff:=qA @e1 ff
 refine ae Tg ?_
 have hin:aO (s.length:Int) 1 40=true->(1:Int)<=s.length/\(s.length:Int)<=40:=by intro h;simp only[aO,XT,XV]at h;exact h
 refine oK Tg (λc1=>?_) (λc1=>?_) (hok:=oS (k:=by refine⟨⟨⟨BD _ _ _,λh=>by have:=hin h;omega⟩,λh=>?_⟩,λh=>?_⟩<;>(rw[Yb,Ym]at h;have:=hin h.1;omega)))
 .
  try simp only[aO,XT,YC,XV,X4]at c1
  exact fr Tg (k:=by(repeat' split)<;>first|rfl|(exfalso;omega))
 try simp only[aO,XT,YC,XV,X4]at c1
 refine wA Tg ?_
 refine lq (Nat×Nat) [0,23] (λ⟨k,nx⟩=>(k<=s.length/\aB s.length (mP s) 0=aB s.length (mP s) k,s.length-k,[(24,.i k)],[],nx)) (0,_) ?_
 rintro⟨k,nx⟩ ⟨hk,hv⟩
 simp only[XX,XZ]
 refine wH Tg ?_ ?_<;>intro c2
 .
  have hk2:k<s.length:=by simpa using c2
  refine wB ?_;refine oC Tg ?_;refine wE Tg (λc3=>?_) (λc3=>?_) (hok:=oS (k:=by first|done|(simp only[EH,and_true,implies_true];done)|((repeat' (with_reducible apply And.intro))<;>first|(intros;exact EH _ _ _)|(intros;simp_all;done))))
  . exact fr Tg (k:=by have h8:mP s k=false:=(by simp only[mP,mh,Yb,YC,X4];(try simp only[aO,XT,YC,XV,X4]at c3);omega);rw[hv,eD,X0 hk2,h8];(repeat' split)<;>rfl)
  refine wC Tg ?_;exact ax (k+1,_) (h1:=⟨iv,(by(try dsimp only);have h8:mP s k=true:=(by simp only[mP,mh,Bool.or_eq_true,Bool.and_eq_true,decide_eq_true_eq];(try simp only[aO,Bool.and_eq_true,Bool.and_eq_false_iff,decide_eq_true_eq,decide_eq_false_iff_not]at c3);omega);rw[hv,eD,if_pos hk2,h8];rfl)⟩)
 refine aP ?_
 exact fr Tg (k:=by rw[hv,eD,XW (by omega),XW (by omega),XW (by omega),XW (by omega),XW (by omega)])
def UB(s:Str):PureCt prog 236 [.v (.string (bs s))] (.b (pX s)):=by
 rw[pX]
 refine oO func236 λff=>?_
 unfold f236
 have e1:((s.length:Int)-1).toNat=s.length-1:=by omega
 have ff:=qA @e1 ff
 refine oC Tg ?_
 refine oK Tg ?_ ?_<;>intro c1
 . exact fr Tg (k:=by(repeat' split)<;>first|rfl|(exfalso;omega))
 refine wA Tg ?_
 refine lq (Nat×Nat) [0,3] (λ⟨k,nx⟩=>(k<=s.length/\aB s.length (mP s) 0=aB s.length (mP s) k,s.length-k,[(4,.i k)],[],nx)) (0,_) ?_
 rintro⟨k,nx⟩ ⟨hk,hv⟩
 simp only[XX,XZ]
 refine oT Tg ?_ ?_<;>intro c2
 .
  have hk2:k<s.length:=by simpa using c2
  refine wD ?_;refine ae Tg ?_;refine wE Tg ?_ ?_<;>intro c3
  . exact fr Tg (k:=by have h8:mP s k=false:=(by simp only[mP,mh,Yb,YC,X4];(try simp only[aO,XT,YC,XV,X4]at c3);omega);rw[hv,eD,X0 hk2,h8];(repeat' split)<;>rfl)
  refine wC Tg ?_;exact ax (k+1,_) (h1:=⟨iv,(by(try dsimp only);have h8:mP s k=true:=(by simp only[mP,mh,Bool.or_eq_true,Bool.and_eq_true,decide_eq_true_eq];(try simp only[aO,Bool.and_eq_true,Bool.and_eq_false_iff,decide_eq_true_eq,decide_eq_false_iff_not]at c3);omega);rw[hv,eD,if_pos hk2,h8];rfl)⟩)
 refine aP ?_
 exact fr Tg (k:=by rw[hv,eD,XW (by omega),XW (by omega),XW (by omega),XW (by omega),XW (by omega)])
def U2(a:Dat)(b:Dat):PureCt prog 180 [.agg a.d,.agg b.d] (.b (less a b)):=by
 rw[less]
 refine oO func180 λff=>?_
 unfold f180
 refine ae Tg ?_
 refine oM Tg ?_ ?_ (hq:=rfl)<;>intro c1
 . exact fr Tg (k:=by rw[X0 c1];rfl)
 refine oM Tg ?_ ?_ (hq:=rfl)<;>intro c2
 . exact fr Tg (k:=by rw[XW (by rw[c1];simp),X0 c2])
 exact fr Tg (k:=by rw[XW (by rw[c1];simp),XW (by rw[c2];simp)])
def P9(l:List Int):PureCt prog 158 [.l (l.map iR)] (.i (nO l 0)):=by
 refine oO func158 λff=>?_
 unfold f158
 refine ZbP 0 rfl λhlen=>?_
 simp only[Y8,maxLen]at hlen
 refine oC Tg ?_
 refine wA Tg ?_
 refine lq (Nat×Nat) [3,6,7] (λ⟨k,nx⟩=>(k<=l.length/\nO l 0=nO l k,l.length-k,[(8,.i k)],[],nx)) (0,_) ?_
 rintro⟨k,nx⟩ ⟨hk,hv⟩
 simp only[XX,XZ]
 refine wH Tg ?_ ?_<;>intro c1
 .
  have hk2:k<l.length:=by simpa using c1
  have ff:=qA (Dm hk2) ff;refine wB ?_;refine ae Tg ?_;refine wG Tg ?_ ?_ (hq:=rfl)<;>intro c2
  . exact fr Tg (k:=by rw[hv,wR,X0 hk2,X0 c2])
  refine wC Tg ?_;exact ax (k+1,_) (h1:=⟨iv,(by(try dsimp only);rw[hv,wR,if_pos hk2,if_neg (by rw[c2];simp)])⟩)
 refine aP ?_
 exact fr Tg (k:=by rw[hv,wR,XW (by omega)])
def ZcD(a:Dat)(b:Dat):PureCt prog 143 [.agg a.d,.agg b.d] (.i (jP a b)):=by
 refine oO func143 λff=>?_
 unfold f143
 refine ae Tg ?_
 exact fr Tg (hok:=oJ ZcC Eb (P9 [_,_,_])) (k:=by rw[<-Wd];try rfl)
def UC(k:Int):PureCt prog 177 [.i k] (.b (vX k)):=by
 refine oO func177 λff=>?_
 unfold f177
 refine ae Tg ?_
 exact fr Tg (k:=by first|rfl|(unfold vX;simp))
def Rh(r:qh)(d:Dat)(hr:r.even=true->0<=r.n0):PureCt prog 142 [.agg r.d,.agg d.d] (.b (jO r d)):=by
 refine oO func142 λff=>?_
 unfold f142
 refine ae Tg ?_
 refine oK Tg (λc1=>?_) (λc1=>?_) (hok:=oS (k:=by first|trivial|(repeat' with_reducible apply And.intro)<;>first|(intros;exact BD _ _ _)|(intro h;simp only[XT,X7,Yb,Ym,iy]at h;have:=hr h.2;omega)|(intros;simp_all;done)))
 . exact fr Tg (k:=by rcases c1 with(h|h)|⟨h1,h2⟩<;>simp[jO, *])
 refine wA Tg ?_
 refine wE Tg ?_ ?_<;>intro c2
 . exact fr Tg (hok:=oI uU Nb) (k:=by obtain⟨⟨h1,h2⟩,h3⟩:=c1;rcases h3 with h3|h3<;>simp[jO,uz, *])
 refine wE Tg ?_ ?_<;>intro c3
 . exact fr Tg (hok:=oF (uU _)) (k:=by obtain⟨⟨h1,h2⟩,h3⟩:=c1;rcases h3 with h3|h3<;>simp[jO,uz, *])
 refine wE Tg ?_ ?_<;>intro c4
 . exact fr Tg (hok:=oF (XR _)) (k:=by obtain⟨⟨h1,h2⟩,h3⟩:=c1;rcases h3 with h3|h3<;>simp[jO,uz, *])
 refine dS ?_
 exact fr Tg (k:=by obtain⟨⟨h1,h2⟩,h3⟩:=c1;rcases h3 with h3|h3<;>simp[jO,uz, *]<;>cases d.t<;>rfl)
def Vj(k:Int)(d:Dat):PureCt prog 179 [.i k,.agg d.d] (.b (jW k d)):=by
 refine oO func179 λff=>?_
 unfold f179
 refine ae Tg ?_
 refine wA Tg ?_
 refine wE Tg ?_ ?_<;>intro c1
 . exact fr Tg (hok:=oS (k:=by first|trivial|(repeat' with_reducible apply And.intro)<;>first|(intros;exact uE _ _ _)|(intros;exact pq _)|(intros;exact uF _)|(intro h;simp only[XT,iy]at h;omega)|omega)) (k:=by simp[jW, *])
 refine oL Tg ?_ ?_<;>intro c2
 .
  refine cd ?_ ?_<;>intro c3
  . exact fr Tg (hok:=oS (k:=by first|trivial|(repeat' with_reducible apply And.intro)<;>first|(intros;exact uE _ _ _)|(intros;exact pq _)|(intros;exact uF _)|(intro h;simp only[XT,iy]at h;omega)|omega)) (k:=by simp[jW, *])
  exact absurd c2 c3
 refine aA Tg ?_
 refine cd ?_ ?_<;>intro c4
 . exact fr Tg (hok:=oS (k:=by first|trivial|(repeat' with_reducible apply And.intro)<;>first|(intros;exact uE _ _ _)|(intros;exact pq _)|(intros;exact uF _)|(intro h;simp only[XT,iy]at h;omega)|omega)) (k:=by simp[jW, *])
 refine wE Tg ?_ ?_<;>intro c5
 . exact fr Tg (hok:=oS (k:=by first|trivial|(repeat' with_reducible apply And.intro)<;>first|(intros;exact uE _ _ _)|(intros;exact pq _)|(intros;exact uF _)|(intro h;simp only[XT,iy]at h;omega)|omega)) (k:=by simp[jW, *])
 refine wE Tg ?_ ?_<;>intro c6
 . exact fr Tg (hok:=jd @UB) (k:=by simp[jW, *])
 refine oL Tg ?_ ?_<;>intro c7
 .
  refine cd ?_ ?_<;>intro c8
  . exact fr Tg (hok:=oS (k:=by first|trivial|(repeat' with_reducible apply And.intro)<;>first|(intros;exact uE _ _ _)|(intros;exact pq _)|(intros;exact uF _)|(intro h;simp only[XT,iy]at h;omega)|omega)) (k:=by simp[jW, *])
  exact absurd c7 c8
 refine aA Tg ?_
 refine cd ?_ ?_<;>intro c9
 . exact fr Tg (hok:=oS (k:=by first|trivial|(repeat' with_reducible apply And.intro)<;>first|(intros;exact uE _ _ _)|(intros;exact pq _)|(intros;exact uF _)|(intro h;simp only[XT,iy]at h;omega)|omega)) (k:=by simp[jW, *])
 refine wE Tg (λc10=>?_) (λc10=>?_)
 . exact fr Tg (hok:=oS (k:=by first|trivial|(repeat' with_reducible apply And.intro)<;>first|(intros;exact uE _ _ _)|(intros;exact pq _)|(intros;exact uF _)|(intro h;simp only[XT,iy]at h;omega)|omega)) (k:=by simp[jW, *])
 refine dS ?_
 exact fr Tg (k:=by simp[jW, *])
open Go.Cmp
def Uz{k:Nat}(h1:1<=k)(h8:k<=8):∃rest:List D,∀hh,eP prog (.v (.pointer (some ⟨0,k*8,none⟩))) hh=(eX k).d++rest:=by
 refine⟨(rulesTab.drop (k*8+8)).map D.v,λhh=>?_⟩
 rw[Xq,glob0]
 have:k=1\/k=2\/k=3\/k=4\/k=5\/k=6\/k=7\/k=8:=by omega
 rcases this with e|e|e|e|e|e|e|e<;>subst e<;>rfl
def Ff(s:RSet):PureCt prog 62 [.agg s.d] (.b (eG s)):=by
 refine oO func62 λff=>?_
 unfold f62
 refine ae Tg ?_
 refine oK Tg ?_ ?_ (hok:=oa2 @uU @BD)<;>intro c1
 . exact fr Tg (k:=by rcases c1 with(h|h)|h<;>simp[eG,h])
 refine oK Tg ?_ ?_ (hok:=oF (BD _ _ _))<;>intro c2
 . exact fr Tg (k:=by simp[eG,c2])
 have hty:=iy.1 c1.1.2
 obtain⟨rest,hld⟩:=Uz (k:=s.ty.toNat) om om
 have ff:=qA @hld ff
 refine ae Tg ?_ (hok:=oS (k:=by first|done|omega|((repeat' (with_reducible apply And.intro))<;>first|omega|rfl)))
 refine oK Tg (λc3=>?_) (λc3=>?_) (hok:=oS (k:=by first|trivial|(repeat' with_reducible apply And.intro)<;>first|(intros;exact Nb _)|(intros;simp_all;done)|(intros;by_cases hq:(eX s.ty.toNat).single=true<;>simp_all)))
 . exact fr Tg (k:=by rcases c3 with⟨h1,h2⟩|⟨h1,h2⟩<;>simp[eG,h1,h2])
 refine wA Tg ?_
 refine lq (Nat×Nat) [1,3,50,51] (λ⟨k,nx⟩=>(k<=s.data.length/\27<nx/\aB s.data.length (ky s.ty.toNat s.data) 0=aB s.data.length (ky s.ty.toNat s.data) k,s.data.length-k,[(52,.i k)],[(0,⟨41,[s.d]⟩),(27,⟨208,[(eX s.ty.toNat).d]⟩)],nx)) (0,_) ?_
 rintro⟨k,nx⟩ ⟨hk,hx,hv⟩
 simp only[XX,XZ]
 have n0:0<nx:=by omega
 have ff:=qB @hx @n0 ff
 refine wH Tg ?_ ?_<;>intro c4
 .
  have hk2:k<s.data.length:=by simpa using c4
  have ff:=qA (qU hk2) ff;refine wB ?_;refine ae Tg ?_;have hl8:=iy.1 c2;have e1:((k:Int)-1).toNat=k-1:=by omega
  have hk1:k-1<s.data.length:=by omega
  have ff:=qB @e1 (qU hk1) ff;refine wE Tg (λc5=>?_) (λc5=>?_) (hok:=oS (k:=by first|trivial|(repeat' with_reducible apply And.intro)<;>first|(intros;exact Rh _ _ (UA _))|(intros;exact ZcD _ _)|(intros;simp_all;done)|(intro h;simp only[XT,XV]at h;have:=h.2;omega)))
  . exact fr Tg (k:=by rw[Fa c1 c2 c3,hv,eD,X0 hk2,Pz c5];rfl)
  refine wC Tg ?_;exact ax (k+1,_) (h1:=⟨iv,iv,(by(try dsimp only);rw[hv,eD,if_pos hk2,Py c5];rfl)⟩)
 refine aP ?_
 exact fr Tg (k:=by rw[Fa c1 c2 c3,hv,eD,XW (by omega)])
def UI(s:RSet):PureCt prog 104 [.agg s.d] (.b (eG s)):=by
 refine oO func104 λff=>?_
 unfold f104
 refine oC Tg ?_
 refine oK Tg ?_ ?_ (hok:=oa3 @pq @uE @UC)<;>intro c1
 . exact fr Tg (k:=by rw[TP c1])
 refine oM Tg ?_ ?_ (hok:=jd @uF) (hq:=rfl)<;>intro c2
 .
  rw[Jf _ c1.1.1.1.2]at c2
  try simp only[XV,X4,Ya,XT,Yb,X7,Ym,YC,Yy,YY,ZF,ZV,ne_eq]at c2
  exact fr Tg (k:=by rw[TN c2])
 rw[Jf _ c1.1.1.1.2]at c2
 try simp only[XV,X4,Ya,XT,Yb,X7,Ym,YC,Yy,YY,ZF,ZV,ne_eq]at c2
 refine wA Tg ?_
 refine lq (Nat×Nat) [1,3] (λ⟨k,nx⟩=>(k<=s.data.length/\0<nx/\aB s.data.length (ky s.ty.toNat s.data) 0=aB s.data.length (ky s.ty.toNat s.data) k,s.data.length-k,[(4,.i k)],[(0,⟨41,[s.d]⟩)],nx)) (0,_) ?_
 rintro⟨k,nx⟩ ⟨hk,hx,hv⟩
 simp only[XX,XZ]
 have ff:=qA @hx ff
 refine oT Tg ?_ ?_<;>intro c3
 .
  have hk2:k<s.data.length:=by simpa using c3
  have ff:=qA (qU hk2) ff;refine wD ?_;have hl8:=iy.1 c1.1.2;have e1:((k:Int)-1).toNat=k-1:=by omega
  have hk1:k-1<s.data.length:=by omega
  have ff:=qB @e1 (qU hk1) ff;refine wE Tg ?_ ?_ (hok:=oa2 @Vj @U2)<;>intro c4
  . exact fr Tg (k:=by rw[Ka c1 c2,hv,eD,X0 hk2,Zcf c1.1.1.1.2 c4];rfl)
  refine wC Tg ?_;exact ax (k+1,_) (h1:=⟨iv,iv,(by(try dsimp only);rw[hv,eD,if_pos hk2,Zcd c1.1.1.1.2 c4];rfl)⟩)
 refine aP ?_
 exact fr Tg (k:=by rw[Ka c1 c2,hv,eD,XW (by omega)])
def U0(a:RSet)(b:RSet):PureCt prog 106 [.agg a.d,.agg b.d] (.i (mF a b)):=by
 refine oO func106 λff=>?_
 unfold f106
 refine ae Tg ?_
 refine ae Tg ?_ (hok:=oF (U1 _ _))
 refine oK Tg ?_ ?_<;>intro c1
 . exact fr Tg (k:=by simp only[mF,jB,uW,Go.Rec.cmpI];simp_all<;>(repeat' split)<;>omega)
 refine oK Tg ?_ ?_<;>intro c2
 . exact fr Tg (k:=by simp only[mF,jB,uW,Go.Rec.cmpI];simp_all<;>(repeat' split)<;>omega)
 refine oK Tg ?_ ?_<;>intro c3
 . exact fr Tg (k:=by simp only[mF,jB,uW,Go.Rec.cmpI];simp_all<;>(repeat' split)<;>omega)
 exact fr Tg (k:=by simp only[mF,jB,uW,Go.Rec.cmpI];simp_all<;>(repeat' split)<;>omega)
def UH(a:RSet)(b:RSet)(ha:a.data.length<=100000):PureCt prog 235 [.agg a.d,.agg b.d] (.b (o9 a b)):=by
 refine oO func235 λff=>?_
 unfold f235
 refine ae Tg ?_
 refine oK Tg ?_ ?_<;>intro c1
 . exact fr Tg (k:=by rw[Ut c1])
 refine wA Tg ?_
 refine lq (Nat×Nat) [2,3] (λ⟨k,nx⟩=>(k<=a.data.length/\1<nx/\(∀i,i<k->a.data[i]! = b.data[i]!),a.data.length-k,[(5,.i k)],[(0,⟨41,[a.d]⟩),(1,⟨41,[b.d]⟩)],nx)) (0,_) ?_ (hA:=⟨iv,iv,(by first|(intro i hi;omega)|(dsimp only;intro i hi;omega))⟩)
 rintro⟨k,nx⟩ ⟨hk,hx,hv⟩
 simp only[XX,XZ]
 have n0:0<nx:=by omega
 have ff:=qB @hx @n0 ff
 refine oT Tg ?_ ?_<;>intro c2
 .
  have hk2:k<a.data.length:=by simpa using c2
  have hk3:k<b.data.length:=by have:=c1.2;omega
  have ff:=qB (qU hk2) (qU hk3) ff;refine wD ?_;refine wG Tg ?_ ?_ (hq:=rfl)<;>intro c3
  . exact fr Tg (k:=by rw[Uu (Zcg c3)])
  refine wC Tg ?_;exact ax (k+1,_) (h1:=⟨iv,iv,(by(try dsimp only);intro i hi;by_cases e:i=k;subst e;exact Zce c3;exact hv i om)⟩)
 refine aP ?_
 exact fr Tg (k:=by rw[Us c1 λi hi=>hv i (by omega)])
@[go_sem]theorem all_bD{t:Str}:(∀r∈t.map bD,r.length=1)=True:=by
 apply eq_true
 intro r hr
 obtain⟨x,_,rfl⟩:=Yh.1 hr
 rfl
theorem UK(b t:Str):(b.map bD++[[.v (.int .u8 ((lT t.length).toNat:Int))]])++t.map bD=(b++fH t).map bD:=by
 simp[fH,bD]
theorem xV(t:Str):(fH t).length=t.length+1:=rfl
theorem ZbZ{l:List Dat}{k:Nat}(h:k<l.length):l.drop k=l[k]! :: l.drop (k+1):=by
 rw[Yr h,getElem!_pos l k h]
theorem take8(m:Int){k:Nat}(h:k<8):(cz m).take (k+1)=(cz m).take k++[lh (uN m) (56-8*k)]:=by
 have:k=0\/k=1\/k=2\/k=3\/k=4\/k=5\/k=6\/k=7:=by omega
 rcases this with e|e|e|e|e|e|e|e<;>subst e<;>rfl
def LM(m:Int)(s:Nat)(hs:s<=56):IntKind.u8.wrap ((IntKind.u64.wrap m).fdiv (2^(min s 64)))=((lh (uN m) s).toNat:Int):=by
 have e1:IntKind.u64.wrap m=(uN m:Int):=by rw[IntKind.wrap_u64];unfold uN;omega
 rw[e1,IntKind.wrap_u8,Z0 (by omega),Zc1]
 rw[Int.fdiv_eq_ediv_of_nonneg _ (by exact_mod_cast Yk _)]
 norm_cast
def QE(b t:Str)(r:Nat)(h:H)(n:Nat)(hr:h r=some ⟨5,b.map bD⟩)(hl:b.length<=1000000)(ht:t.length<=1000000):dz prog 197 [.mrow r 0 b.length,.v (.string (bs t))] h n (λd h' n'=>∃r',d = .mrow r' 0 (b++fH t).length/\h'=upd (upd h r none) r' (some ⟨5,(b++fH t).map bD⟩)/\n<=r'/\r'<n'):=by
 refine oP func197 λhnone ff=>?_
 unfold f197
 have hrn:r<n:=by rcases Zo r n with q|q;exact q;rw[hnone r q]at hr;cases hr
 have ff:=qB @hr @hrn ff
 refine oD Tg ?_
 exact oN (fJ (upd (upd h r none) (n+10) (some ⟨5,(b++fH t).map bD⟩)) (hr:=oS (k:=by exact⟨n+10,by simp[fH];omega,rfl,om,om⟩)) (hh:=by rw[<-UK];exact NZ (r1:=n+6) (.inr (hnone _ (by omega)))))
def Es(b:Str)(m:Int)(r:Nat)(h:H)(n:Nat)(hr:h r=some ⟨5,b.map bD⟩)(hl:b.length<=1000000):dz prog 198 [.mrow r 0 b.length,.i m] h n (λd h' n'=>∃r',d = .mrow r' 0 (b++cz m).length/\h'=upd (upd h r none) r' (some ⟨5,(b++cz m).map bD⟩)/\n<=r'/\r'<n'):=by
 refine oP func198 λhnone ff=>?_
 unfold f198
 have hrn:r<n:=by rcases Zo r n with q|q;exact q;rw[hnone r q]at hr;cases hr
 have ff:=qB @hr @hrn ff
 refine ae Tg ?_
 refine wA Tg ?_
 refine yI (Nat×Nat×Nat) [1] (λ⟨k,r1,nx⟩=>(k<=8/\(r1=r/\k=0\/n<=r1)/\r1<nx/\n<=nx,9-k,[(0,.mrow r1 0 (b.length+k)),(5,.i (56-8*k))],upd (upd h r none) r1 (some ⟨5,(b++(cz m).take k).map bD⟩),nx)) (0,r,_) ?_ (qN:=by simp only[Y0,Zg];exact ZaT hr)
 rintro⟨k,r1,nx⟩ ⟨hk,h1,hx,hn⟩
 simp only[XX,XZ]
 have ff:=qA @hx ff
 refine oT Tg ?_ ?_ (hq:=rfl)<;>intro c1
 .
  have hk2:k<8:=by have:(0:Int)<=56-8*(k:Int):=(by simpa using c1);omega
  have e1:(56-8*(k:Int)).toNat=56-8*k:=by omega
  have e2:=LM m (56-8*k) (by omega)
  have ff:=qB @e1 @e2 ff;refine wD ?_;refine aA Tg ?_ (hok:=by(try simp only[go_sem,ff,mZ,Zu,YE]);all_goals (exact ok0))
  refine aA Tg ?_;refine ax (k+1,(nx+9),_) (h5:=?_);rw[take8 m hk2,<-YS,YP,YP];exact NZ (h1.imp (λq=>q.1) λq=>hnone _ q)
 have hk3:k=8:=by have : ¬(0:Int)<=56-8*(k:Int):=(by simpa using c1);omega
 subst hk3
 refine aP ?_
 refine ae Tg ?_
 exact oN (fJ (upd (upd h r none) r1 (some ⟨5,(b++cz m).map bD⟩)) (hr:=oS (k:=by exact⟨r1,by simp[mZ],rfl,om,om⟩)))
def Vk(s:RSet):PureCt prog 124 [.agg s.d] (.tuple [.l ((ma s).1.map bD),.i (ma s).2]):=by
 refine oO func124 λff=>?_
 unfold f124
 refine ae Tg ?_
 refine oK Tg ?_ ?_ (hok:=oF (Ff _))<;>intro c1
 . exact fr Tg (K:=2) (k:=by simp[ma,c1])
 have hs:=(iE s).1 c1
 have hl8:=hs.len
 have hn60:=gT hs.name
 refine ae Tg ?_
 refine Ba 4 5 (by simp only[go_sem,ff]) (by simp only[go_sem,ff]) ?_
 refine aY (gI Tg 3 (hct:=by exact QE [] s.name 7 _ _ rfl (by simp) om) (hk:=?_))
 rintro res h2 n2 ⟨r1,rfl,rfl,ar1,br1⟩
 dsimp only at ar1 br1
 have z1r1:(0=r1)=False:=ZR om
 have z2r1:(r1=0)=False:=ZR om
 have pr1:0<n2:=by omega
 have ff:=qE @z1r1 @z2r1 @br1 @pr1 ff
 refine gH Tg ?_
 refine y7 [1,4] [(0,⟨41,[s.d]⟩),(r1,⟨5,(fH s.name).map bD⟩)] (by simp only[X8,Yp,go_sem,ff];exact rfl) (by first|(simp only[go_sem,ff];done)|(simp[go_sem,ff];done)) ?_
 refine aY (gI Tg 3 (hct:=by exact Es (fH s.name) s.ty r1 _ _ (by simp only[go_sem,z1r1,z2r1]) (by simp only[YE,xV,mZ];omega)) (hk:=?_))
 rintro res h2 n2 ⟨r2,rfl,rfl,ar2,br2⟩
 dsimp only at ar2 br2
 have z1r2:(0=r2)=False:=ZR om
 have z2r2:(r2=0)=False:=ZR om
 have pr2:0<n2:=by omega
 have ff:=qE @z1r2 @z2r2 @br2 @pr2 ff
 refine gH Tg ?_
 refine y7 [1,4] [(0,⟨41,[s.d]⟩),(r2,⟨5,(fH s.name++cz s.ty).map bD⟩)] (by simp only[X8,Yp,go_sem,ff];exact rfl) (by first|(simp only[go_sem,ff];done)|(simp[go_sem,ff];done)) ?_
 refine aY (gI Tg 3 (hct:=by exact Es (fH s.name++cz s.ty) s.life r2 _ _ (by simp only[go_sem,z1r2,z2r2]) (by simp only[YE,xV,mZ];omega)) (hk:=?_))
 rintro res h2 n2 ⟨r3,rfl,rfl,ar3,br3⟩
 dsimp only at ar3 br3
 have pr3:0<n2:=by omega
 have ff:=qD (nH 0 r3) @br3 @pr3 ff
 refine gH Tg ?_
 refine y7 [1,4] [(0,⟨41,[s.d]⟩),(r3,⟨5,(fH s.name++cz s.ty++cz s.life).map bD⟩)] (by simp only[X8,Yp,go_sem,ff];exact rfl) (by first|(simp only[go_sem,ff];done)|(simp[go_sem,ff];done)) ?_
 refine ae Tg ?_ (hok:=by(try simp only[go_sem,ff,xV,mZ,YE]);all_goals (exact ok0))
 refine wA Tg ?_
 refine lq (Nat×Str×Nat×Nat) [30,31] (λ⟨k,out,r,nx⟩=>(k<=s.data.length/\r<nx/\out.length<=1000+k*300/\out++(s.data.drop k).flatMap ze=yc s,s.data.length-k,[(4,.mrow r 0 out.length),(32,.i k)],[(r,⟨5,(out).map bD⟩)],nx)) (0,fH s.name++cz s.ty++cz s.life++[lT s.data.length],(n2+11),_) ?_ (hA:=⟨iv,iv,(by first|(simp[fH,mZ];omega)|(dsimp only;simp[fH,mZ];omega)),(by first|(simp[yc])|(dsimp only;simp[yc]))⟩)
 rintro⟨k,out,r,nx⟩ ⟨hk,hr,ho,hv⟩
 simp only[XX,XZ]
 have ff:=qA @hr ff
 refine wH Tg ?_ ?_<;>intro c2
 .
  have hk2:k<s.data.length:=by simpa using c2
  have hd:=(PD hs.ty (hs.dat _ (Yq hk2))).2.1;rw[<-getElem!_pos s.data k hk2]at hd;have ff:=qA (qU hk2) ff;refine wB ?_;refine ae Tg ?_;refine aY (gI Tg 3 (hct:=by exact QE out s.data[k]!.t r _ _ (by simp only[go_sem,hr]) om om) (hk:=?_))
  rintro res h2 n2 ⟨q1,rfl,rfl,aq1,bq1⟩;dsimp only at aq1 bq1;have z1q1:(nx+3=q1)=False:=eq_false om;have z2q1:(q1=nx+3)=False:=eq_false om;have pq1:nx+3<n2:=by omega
  have ff:=qE @z1q1 @z2q1 @bq1 @pq1 ff;refine gH Tg ?_;refine y7 [4,6,30,31,32] [((nx+3),⟨91,[s.data[k]!.d]⟩),(q1,⟨5,(out++fH s.data[k]!.t).map bD⟩)] (by simp only[X8,Yp,go_sem,ff];exact rfl) (by first|(simp only[go_sem,ff];done)|(simp[go_sem,ff];done)) ?_
  refine aY (gI Tg 3 (hct:=by exact Es (out++fH s.data[k]!.t) s.data[k]!.n q1 _ _ (by simp only[go_sem,z1q1,z2q1]) (by simp only[YE,xV,mZ];omega)) (hk:=?_))
  rintro res h2 n2 ⟨q2,rfl,rfl,aq2,bq2⟩;dsimp only at aq2 bq2;have z1q2:(nx+3=q2)=False:=eq_false om;have z2q2:(q2=nx+3)=False:=eq_false om;have pq2:nx+3<n2:=by omega
  have ff:=qE @z1q2 @z2q2 @bq2 @pq2 ff;refine gH Tg ?_;refine y7 [4,6,30,31,32] [((nx+3),⟨91,[s.data[k]!.d]⟩),(q2,⟨5,(out++fH s.data[k]!.t++cz s.data[k]!.n).map bD⟩)] (by simp only[X8,Yp,go_sem,ff];exact rfl) (by first|(simp only[go_sem,ff];done)|(simp[go_sem,ff];done)) ?_
  refine gI Tg 3 (hct:=by exact Es (out++fH s.data[k]!.t++cz s.data[k]!.n) s.data[k]!.m q2 _ _ (by simp only[go_sem,z1q2,z2q2]) (by simp only[YE,xV,mZ];omega)) (hk:=?_)
  rintro res h2 n2 ⟨q3,rfl,rfl,aq3,bq3⟩;dsimp only at aq3 bq3;have pq3:nx+3<n2:=by omega
  have ff:=qD (nH (nx+3) q3) @bq3 @pq3 ff;refine gH Tg ?_;refine y7 [4,30,31,32] [(q3,⟨5,(out++fH s.data[k]!.t++cz s.data[k]!.n++cz s.data[k]!.m).map bD⟩)] (by simp only[X8,Yp,go_sem,ff];exact rfl) (by first|(simp only[go_sem,ff];done)|(simp[go_sem,ff];done)) ?_
  refine aA Tg ?_;exact ax (k+1,out++fH s.data[k]!.t++cz s.data[k]!.n++cz s.data[k]!.m,q3,_) (h1:=⟨iv,iv,(by(try dsimp only);simp only[List.length_append,xV,mZ];omega),(by(try dsimp only);rw[<-hv,ZbZ hk2];simp[ze])⟩)
 refine aP ?_
 exact fr Tg (K:=2) (k:=by rw[YM (by omega)]at hv;simp at hv;simp[ma,c1,hv])
def ZaM{l:Str}{n:Nat}(h:n<l.length):(l.map bD).getD n []=[.v (.int .u8 ((l.getD n 0).toNat:Int))]:=by
 simp[List.getD,h,bD]
def Zb7{d:Nat}{c:UInt8}(h:d<18446744073709551616):IntKind.u64.wrap (EF .u64 (d:Int) (IntKind.u64.wrap (c.toNat:Int))*1099511628211)=((dU d c:Nat):Int):=by
 have hc:=c.toNat_lt
 have e0:IntKind.u64.wrap (c.toNat:Int)=(c.toNat:Int):=by rw[IntKind.wrap_u64];omega
 have e1:(BitVec.ofInt 64 (d:Int) ^^^ BitVec.ofInt 64 (c.toNat:Int)).toNat=d ^^^ c.toNat:=by
  rw[BitVec.toNat_xor,BitVec.ofInt_natCast,BitVec.ofInt_natCast,BitVec.toNat_ofNat,BitVec.toNat_ofNat,Zx (by omega),Zx (by omega)]
 have e2:d ^^^ c.toNat<2^64:=Nat.xor_lt_two_pow om om
 have e3:EF .u64 (d:Int) (c.toNat:Int)=IntKind.u64.wrap ((BitVec.ofInt 64 (d:Int) ^^^ BitVec.ofInt 64 (c.toNat:Int)).toNat:Int):=rfl
 rw[e0,e3,e1,IntKind.wrap_u64,IntKind.wrap_u64]
 unfold dU
 omega
def y9(l:Str){d:Nat}(h:d<18446744073709551616):l.foldl dU d<18446744073709551616:=by
 rcases List.eq_nil_or_concat l with e|⟨p,z,e⟩
 . subst e;exact h
 rw[e,List.concat_eq_append,Y2,Yz,ZG]
 unfold dU
 omega
def Zb8{b:Str}{d k:Nat}(h:k<b.length):(b.take (k+1)).foldl dU d=dU ((b.take k).foldl dU d) (b.getD k 0):=by
 have e:b[k]?.toList=[b.getD k 0]:=by simp[List.getD,X5 h]
 rw[ZI,Y2,e,Yz,ZG]
theorem DZ(b:Str)(d:Nat)(h:H)(n W:Nat)(hW:h W=some ⟨256,[[.v (.int .u64 ((d:Nat):Int))]]⟩)(hd:d<18446744073709551616)(hb:b.length<=1000000000000):dz prog 200 [.mptr W 0 0,.l (b.map bD)] h n (λx h' n'=>h'=upd h W (some ⟨256,[[.v (.int .u64 ((b.foldl dU d:Nat):Int))]]⟩)/\n<=n'):=by
 refine oP func200 λhnone ff=>?_
 unfold f200
 refine ae Tg ?_
 refine dZ ?_
 refine yI (Nat×Nat) [0,6,7] (λ⟨k,nx⟩=>(k<=b.length/\n<=nx/\W<nx,b.length-k,[(8,.i k)],upd h W (some ⟨256,[[.v (.int .u64 (((b.take k).foldl dU d:Nat):Int))]]⟩),nx)) (0,_) ?_ (hA:=⟨iv,iv,(by(try dsimp only);rcases Nat.lt_or_ge W n with q|q;omega;rw[hnone W q]at hW;cases hW)⟩) (qN:=by intro q;left;show upd h W (some ⟨256,[[.v (.int .u64 ((d:Nat):Int))]]⟩) q=h q;by_cases e:q=W;subst e;rw[bu];exact hW.symm;rw[aI _ _ _ _ e])
 rintro⟨k,nx⟩ ⟨hk,hn,hWx⟩
 simp only[XX,XZ]
 refine wF Tg ?_ ?_<;>intro c1
 .
  have hk2:k<b.length:=by omega
  have hst:=Zb8 (d:=d) hk2;have hdl:=y9 (b.take k) hd;have hds:=Zb7 (c:=b.getD k 0) hdl;have ff:=qA (ZaM hk2) ff;refine wB ?_;refine ae Tg ?_;refine sgr ?_;refine gmulu Tg 7 hds ?_;refine gnilc Tg 8 (r:=W) (j:=0) (off:=0) ?_;refine gst1 Tg 9 ?_;refine gend Tg ?_;refine dw_to [(8,.i k),(0,.mptr W 0 0),(6,.l (b.map bD)),(7,.i b.length)] (upd h W (some ⟨256,[[.v (.int .u64 ((dU ((b.take k).foldl dU d) (b.getD k 0):Nat):Int))]]⟩)) _ (nx+14) .tt ?_ (hh:=by show upd (upd h W _) W _=_;rw[Rl];rfl)
  refine aA Tg ?_;refine ax (k+1,_) (h5:=?_);rw[hst];exact wZ _
 have hk3:k=b.length:=by omega
 subst hk3
 refine aP ?_
 exact fJ (upd h W (some ⟨256,[[.v (.int .u64 ((b.foldl dU d:Nat):Int))]]⟩)) (hr:=oS (k:=by first|omega|exact⟨rfl,om⟩)) (hh:=by rw[Zw];exact wZ _)
def ZaA(s:Str)(p:Str)(hs:s.length<=1000000):PureCt prog 210 [.v (.string (bs s)),.v (.string (bs p))] (.b (qQ s p)):=by
 refine oO func210 λff=>?_
 unfold f210
 have e1:((s.length:Int)-p.length).toNat=s.length-p.length:=by omega
 have ff:=qA @e1 ff
 refine ae Tg ?_
 exact fr Tg (k:=by simp[qQ])
def Zaz(s:Str)(p:Str)(hs:s.length<=1000000):PureCt prog 134 [.v (.string (bs s)),.v (.string (bs p))] (.b (qQ s p)):=by
 refine oO func134 λff=>?_
 unfold f134
 refine ae Tg ?_
 exact ft Tg (hok:=oF (ZaA _ _ hs))
def wU(s:Str)(z:Str):PureCt prog 51 [.v (.string (bs s)),.v (.string (bs z))] (.tuple [.b (dX s z),.i (if ai s&&ai z then 0 else 11)]):=by
 refine oO func51 λff=>?_
 unfold f51
 refine ae Tg ?_
 refine oK Tg ?_ ?_ (hok:=oH vU)<;>intro c1
 . exact fr Tg (K:=1) (k:=by first|(simp_all [dX,under];done)|(simp;simp only[dX,under];grind))
 refine oK Tg ?_ ?_<;>intro c2
 . exact fr Tg (K:=1) (k:=by first|(simp_all [dX,under];done)|(simp;simp only[dX,under];grind))
 have hn:=gT c1.1
 have hm:=gT c1.2
 have e1:((s.length:Int)-z.length-1).toNat=s.length-z.length-1:=by omega
 have ff:=qA @e1 ff
 exact fr Tg (K:=1) (hok:=jd @Zaz) (k:=by first|(simp_all [dX,under];done)|(simp;simp only[dX,under];grind))
def Kj(s:Str)(hs:s.length<=1000):PureCt prog 103 [.v (.string (bs s))] (.b (uw s)):=by
 refine oO func103 λff=>?_
 unfold f103
 refine ae Tg ?_
 refine ae Tg ?_ (hok:=jd @yh)
 rcases hps:aL s with _|⟨p0,ps⟩
 . have ff:=qA @hps ff;exact fr Tg (k:=by simp[uw,hps])
 have ff:=qA @hps ff
 exact fr Tg (k:=by simp[uw,hps])
def I9(a:Str)(s:Int)(b:Str)(t:Int):PureCt prog 138 [.v (.string (bs a)),.i s,.v (.string (bs b)),.i t] (.i (qC ⟨a,s⟩ ⟨b,t⟩)):=by
 refine oO func138 λff=>?_
 unfold f138
 refine ae Tg ?_
 refine oK Tg ?_ ?_<;>intro c1
 . refine ae Tg ?_ (hok:=oF (F8 _ _));exact fr Tg (k:=by simp[qC, *])
 exact fr Tg (hok:=jd @Eb) (k:=by simp[qC, *])
def Ol(t:Int)(a:Bool):PureCt prog 184 [.i t,.b a] (.b (fits t a)):=by
 refine oO func184 λff=>?_
 unfold f184
 refine ae Tg ?_
 refine wA Tg ?_
 refine oL Tg ?_ ?_<;>intro c1
 .
  refine cd ?_ ?_<;>intro c2
  . exact fr Tg (k:=by simp_all [fits])
  refine oL Tg ?_ ?_<;>intro c3
  .
   refine cd ?_ ?_<;>intro c4
   . exact fr Tg (k:=by simp_all [fits])
   refine dS ?_;exact fr Tg (k:=by simp_all [fits])
  refine aA Tg ?_;refine cd ?_ ?_<;>intro c5
  . exact fr Tg (k:=by simp_all [fits])
  refine dS ?_;exact fr Tg (k:=by simp_all [fits])
 refine aA Tg ?_
 refine cd ?_ ?_<;>intro c6
 . exact fr Tg (k:=by simp_all [fits])
 refine oL Tg ?_ ?_<;>intro c7
 .
  refine cd ?_ ?_<;>intro c8
  . exact fr Tg (k:=by simp_all [fits])
  refine dS ?_;exact fr Tg (k:=by simp_all [fits])
 refine aA Tg ?_
 refine cd ?_ ?_<;>intro c9
 . exact fr Tg (k:=by simp_all [fits])
 refine dS ?_
 exact fr Tg (k:=by simp_all [fits])
def UJ(t:Int)(a:Bool):PureCt prog 108 [.i t,.b a] (.b (fits t a)):=by
 refine oO func108 λff=>?_
 unfold f108
 refine ae Tg ?_
 refine oK Tg ?_ ?_<;>intro c1
 . exact fr Tg (k:=by simp;simp only[fits];grind)
 exact fr Tg (k:=by simp;simp only[fits];grind)
def QQ(q:Qst):PureCt prog 151 [.agg q.d] (.b (wz q)):=by
 refine oO func151 λff=>?_
 unfold f151
 refine ae Tg ?_
 exact fr Tg (hok:=oH uU) (k:=by simp[wz,aO,Zq])
def wy(s:Str)(z:Str)(hs:s.length<=1000)(hz:z.length<=1000):PureCt prog 105 [.v (.string (bs s)),.v (.string (bs z))] (.b (ji s z)):=by
 refine oO func105 λff=>?_
 unfold f105
 refine ae Tg ?_
 refine ae Tg ?_ (hok:=oF (yh _ hs))
 refine ae Tg ?_ (hok:=oF (yh _ hz))
 refine oK Tg ?_ ?_<;>intro c1
 . exact fr Tg (k:=by simp[ji];omega)
 have hp:=KY s
 have hq:=KY z
 refine wA Tg ?_
 refine lq (Nat×Nat) [5,6] (λ⟨k,nx⟩=>(k<=(aL z).length/\aB (aL z).length (sS (aL s) (aL z)) 0=aB (aL z).length (sS (aL s) (aL z)) k,(aL z).length-k,[(7,.i k)],[],nx)) (0,_) ?_
 rintro⟨k,nx⟩ ⟨hk,hv⟩
 simp only[XX,XZ]
 refine oT Tg ?_ ?_<;>intro c2
 .
  have hk2:k<(aL z).length:=by simpa using c2
  have hk3:(aL s).length-(aL z).length+k<(aL s).length:=by omega
  have e1:(((aL s).length:Int)-(aL z).length+k).toNat=(aL s).length-(aL z).length+k:=by omega
  have ff:=qD @e1 (gu hk2) (gu hk3) ff;refine wD ?_;refine wE Tg ?_ ?_<;>intro c3
  . exact fr Tg (k:=by have hF:(sS (aL s) (aL z)) k=false:=(by simp only[sS];grind);simp only[ji];rw[hv,dK hk2 hF];try simp)
  refine wC Tg ?_;have h8:(sS (aL s) (aL z)) k=true:=by simp only[sS];grind
  exact ax (k+1,_) (h1:=⟨iv,(by(try dsimp only);rw[hv,bC hk2 h8])⟩)
 refine aP ?_
 exact fr Tg (k:=by simp only[ji];rw[hv,iV (by omega)];simp;omega)
def I6(l:List RSig)(a:Str):PureCt prog 185 [.l (l.map RSig.d),.v (.string (bs a))] (.b (fV l a)):=by
 refine oO func185 λff=>?_
 unfold f185
 refine ae Tg ?_
 refine oK Tg ?_ ?_<;>intro c1
 . exact fr Tg (k:=by simp[fV];omega)
 refine wA Tg ?_
 refine lq (Nat×Nat) [0,1,10,11] (λ⟨k,nx⟩=>(k<=l.length/\aB l.length (ic a l) 0=aB l.length (ic a l) k,l.length-k,[(12,.i k)],[],nx)) (0,_) ?_
 rintro⟨k,nx⟩ ⟨hk,hv⟩
 simp only[XX,XZ]
 refine wH Tg ?_ ?_<;>intro c2
 .
  have hk2:k<l.length:=by simpa using c2
  have h0:0<l.length:=by omega
  have hk1:k-1<l.length:=by omega
  have e1:((k:Int)-1).toNat=k-1:=by omega
  have ff:=qE (tH hk2) (tH h0) (tH hk1) @e1 ff;refine wB ?_;refine ae Tg ?_;refine oK Tg ?_ ?_<;>intro c3
  . exact fr Tg (k:=by have hF:(ic a l) k=false:=(by simp only[ic,aO];grind);simp only[fV];rw[hv,dK hk2 hF];try simp)
  refine oK Tg ?_ ?_<;>intro c4
  . exact fr Tg (k:=by have hF:(ic a l) k=false:=(by simp only[ic,aO];grind);simp only[fV];rw[hv,dK hk2 hF];try simp)
  refine wE Tg ?_ ?_<;>intro c5
  . exact fr Tg (k:=by have hF:(ic a l) k=false:=(by simp only[ic,aO];grind);simp only[fV];rw[hv,dK hk2 hF];try simp)
  refine wC Tg ?_;have h8:(ic a l) k=true:=by simp only[ic,aO];grind
  exact ax (k+1,_) (h1:=⟨iv,(by(try dsimp only);rw[hv,bC hk2 h8])⟩)
 refine aP ?_
 exact fr Tg (k:=by simp only[fV];rw[hv,iV (by omega)];simp;omega)
def UD(l:List RSig)(a:Str):PureCt prog 111 [.l (l.map RSig.d),.v (.string (bs a))] (.b (fV l a)):=by
 refine oO func111 λff=>?_
 unfold f111
 refine ae Tg ?_
 refine oK Tg ?_ ?_<;>intro c1
 . exact fr Tg (k:=by simp[fV];omega)
 refine wA Tg ?_
 refine lq (Nat×Nat) [0,1] (λ⟨k,nx⟩=>(k<=l.length/\aB l.length (ic a l) 0=aB l.length (ic a l) k,l.length-k,[(5,.i k)],[],nx)) (0,_) ?_
 rintro⟨k,nx⟩ ⟨hk,hv⟩
 simp only[XX,XZ]
 refine oT Tg ?_ ?_<;>intro c2
 .
  have hk2:k<l.length:=by simpa using c2
  have h0:0<l.length:=by omega
  have hk1:k-1<l.length:=by omega
  have e1:((k:Int)-1).toNat=k-1:=by omega
  have ff:=qE (tH hk2) (tH h0) (tH hk1) @e1 ff;refine wD ?_;refine ae Tg ?_;refine oK Tg ?_ ?_<;>intro c3
  . exact fr Tg (k:=by have hF:(ic a l) k=false:=(by simp only[ic,aO];grind);simp only[fV];rw[hv,dK hk2 hF];try simp)
  refine wE Tg ?_ ?_<;>intro c4
  . exact fr Tg (k:=by have hF:(ic a l) k=false:=(by simp only[ic,aO];grind);simp only[fV];rw[hv,dK hk2 hF];try simp)
  refine wC Tg ?_;have h8:(ic a l) k=true:=by simp only[ic,aO];grind
  exact ax (k+1,_) (h1:=⟨iv,(by(try dsimp only);rw[hv,bC hk2 h8])⟩)
 refine aP ?_
 exact fr Tg (k:=by simp only[fV];rw[hv,iV (by omega)];simp;omega)
def Ho{l:List Sgd}{q:Qst}{i j:Nat}(hv:di l q=gJ (λk=>qC l[k]!.q q) i j)(h:i<j):(qC l[(i+j) / 2]!.q q<0->di l q=gJ (λk=>qC l[k]!.q q) ((i+j) / 2+1) j)/\(¬qC l[(i+j) / 2]!.q q<0->di l q=gJ (λk=>qC l[k]!.q q) i ((i+j) / 2)):=by
 rw[qf,X0 h]at hv
 exact⟨λh2=>by rw[X0 h2]at hv;exact hv,λh2=>by rw[XW h2]at hv;exact hv⟩
def EB(s:Sgd)(q:Qst):PureCt prog 137 [.agg s.d,.agg q.d] (.i (qC s.q q)):=by
 refine oO func137 λff=>?_
 unfold f137
 refine ae Tg ?_
 exact ft Tg (hok:=oF (I9 _ _ _ _))
def QX(l:List Sgd)(q:Qst)(hl:l.length<=1000000):PureCt prog 136 [.l (l.map Sgd.d),.agg q.d,.fn (.func 137) [] []] (.tuple [.i (di l q),.b (dN l q)]):=by
 refine oO func136 λff=>?_
 unfold f136
 refine oD Tg ?_
 refine wD ?_
 refine lq (Nat×Nat×Nat) [0,2,4,8] (λ⟨i,j,nx⟩=>(i<=j/\j<=l.length/\0<nx/\(di l q=gJ (λk=>qC l[k]!.q q) i j),j-i,[(9,.i i),(10,.i j)],[(0,⟨27,[q.d]⟩)],nx)) (0,l.length,_) ?_
 rintro⟨i,j,nx⟩ ⟨hij,hj,hx,hv⟩
 simp only[XX,XZ]
 have ff:=qA @hx ff
 refine oT Tg ?_ ?_<;>intro c1
 .
  have hk2:i<j:=by simpa using c1
  have hm:(i+j) / 2<l.length:=by omega
  have ff:=qB (Gc (i:=i) (j:=j) (by omega)) (bU hm) ff
  refine dZ ?_;refine ae Tg ?_;refine wE Tg ?_ ?_ (hok:=oH (EB l[(i+j) / 2]! q))<;>intro c2
  . refine aA Tg ?_;exact ax ((i+j) / 2+1,j,_) (h1:=⟨iv,iv,iv,((Ho hv hk2).1 c2)⟩)
  refine aA Tg ?_;exact ax (i,(i+j) / 2,_) (h1:=⟨iv,iv,iv,(by(try dsimp only);exact(Ho hv hk2).2 om)⟩)
 refine aP ?_
 have hij2:i=j:=by have h9 : ¬i<j:=(by simpa using c1);omega
 have hv2:di l q=i:=by rw[hv,qf,XW (by omega)]
 by_cases hk4:i<l.length
 . have ff:=qA (bU hk4) ff;exact fr Tg (K:=1) (hok:=oS (k:=by first|trivial|(repeat' with_reducible apply And.intro)<;>first|(intros;exact EB l[i]! q)|omega|(intro h;have h:=Y1 h;omega))) (k:=by simp only[dN];rw[hv2];simp[hk4])
 have ff:=qA (NQ (f:=Sgd.d) (Nat.le_of_not_lt hk4)) ff
 exact fr Tg (K:=1) (hok:=oS (k:=by first|trivial|(repeat' with_reducible apply And.intro)<;>first|(intros;exact EB l[i]! q)|omega|(intro h;have h:=Y1 h;omega))) (k:=by simp only[dN];rw[hv2];simp[hk4])
def uq(z:Zon)(q:Qst)(hl:z.sets.length<=1000000):PureCt prog 53 [.agg z.d,.agg q.d] (.tuple [.i (di z.sets q),.b (dN z.sets q)]):=by
 refine oO func53 λff=>?_
 unfold f53
 refine ae Tg ?_
 exact ft Tg (K:=1) (hok:=oH (QX _ _ hl))
def QR(z:Zon):PureCt prog 112 [.agg z.d] (.b (ordered z)):=by
 refine oO func112 λff=>?_
 unfold f112
 refine ae Tg ?_
 refine oK Tg ?_ ?_ (hok:=oI uU GR)<;>intro c1
 . exact fr Tg (k:=by simp only[ordered];rw[vS]at *;grind)
 refine wA Tg ?_
 refine lq (Nat×Nat) [1,28,29] (λ⟨k,nx⟩=>(k<=z.sets.length/\aB z.sets.length (ik z.apex z.sets) 0=aB z.sets.length (ik z.apex z.sets) k/\0<nx,z.sets.length-k,[(30,.i k)],[(0,⟨110,[z.d]⟩)],nx)) (0,_) ?_
 rintro⟨k,nx⟩ ⟨hk,hv,hx⟩
 simp only[XX,XZ]
 have ff:=qA @hx ff
 refine wH Tg ?_ ?_<;>intro c2
 .
  have hk2:k<z.sets.length:=by simpa using c2
  have h0:0<z.sets.length:=by omega
  have hk1:k-1<z.sets.length:=by omega
  have e1:((k:Int)-1).toNat=k-1:=by omega
  have ff:=qE (bU hk2) (bU h0) (bU hk1) @e1 ff;refine wB ?_;refine ae Tg ?_;refine oK Tg ?_ ?_ (hok:=oF (Ff _))<;>intro c3
  . exact fr Tg (k:=by have hF:(ik z.apex z.sets) k=false:=(by simp only[ik];grind [Sgd.q]);simp only[ordered];rw[hv,dK hk2 hF];try simp)
  refine aY ?_;refine ae Tg ?_ (hok:=oF (wU _ _));refine wE Tg ?_ ?_<;>intro c4
  . exact fr Tg (k:=by have hF:(ik z.apex z.sets) k=false:=(by simp only[ik];grind [Sgd.q]);simp only[ordered];rw[hv,dK hk2 hF];try simp)
  refine dS ?_;refine oK Tg ?_ ?_<;>intro c5
  .
   refine aP ?_;refine aA Tg ?_;have h8:(ik z.apex z.sets) k=true:=by simp only[ik];grind [Sgd.q]
   exact ax (k+1,_) (h1:=⟨iv,(by(try dsimp only);rw[hv,bC hk2 h8]),iv⟩)
  refine ae Tg ?_;refine wE Tg ?_ ?_ (hok:=oF (I9 _ _ _ _))<;>intro c6
  . exact fr Tg (k:=by have hF:(ik z.apex z.sets) k=false:=(by simp only[ik];grind [Sgd.q]);simp only[ordered];rw[hv,dK hk2 hF];try simp)
  refine wC Tg ?_;have h8:(ik z.apex z.sets) k=true:=by simp only[ik];grind [Sgd.q]
  exact ax (k+1,_) (h1:=⟨iv,(by(try dsimp only);rw[hv,bC hk2 h8]),iv⟩)
 refine aP ?_
 exact fr Tg (k:=by simp only[ordered];rw[vS]at *;rw[hv,iV (by omega)];grind)
def QY(z:Zon)(hl:z.sets.length<=1000000):PureCt prog 113 [.agg z.d] (.b (mg z)):=by
 refine oO func113 λff=>?_
 unfold f113
 refine ae Tg ?_
 refine wA Tg ?_
 refine lq (Nat×Nat) [1,9,10] (λ⟨k,nx⟩=>(k<=2/\aB 2 (iU z) 0=aB 2 (iU z) k/\0<nx,2-k,[(11,.i k)],[(0,⟨110,[z.d]⟩)],nx)) (0,_) ?_
 rintro⟨k,nx⟩ ⟨hk,hv1,hx⟩
 simp only[XX,XZ]
 have ff:=qA @hx ff
 refine wH Tg ?_ ?_<;>intro c1
 .
  have hk2:k<2:=by have h9:(k:Int)<2:=(by simpa using c1);omega
  refine wB ?_;have h01:k=0\/k=1:=by omega
  rcases h01 with e0|e0
  .
   have ff:=qA @e0 ff;refine ae Tg ?_;refine ae Tg ?_ (hok:=oI (uq z ⟨z.apex,4⟩ hl) (uq z ⟨z.apex,2⟩ hl));refine wE Tg ?_ ?_<;>intro c2
   . exact fr Tg (k:=by have hF:(iU z) k=false:=(by simpa[iU,e0]using c2);simp only[mg];rw[hv1,dK hk2 hF];try simp)
   refine wC Tg ?_;have h8:(iU z) k=true:=by simpa[iU,e0]using c2
   exact ax (k+1,_) (h1:=⟨iv,(by(try dsimp only);rw[hv1,bC hk2 h8]),iv⟩)
  have ff:=qA @e0 ff;refine ae Tg ?_;refine ae Tg ?_ (hok:=oI (uq z ⟨z.apex,4⟩ hl) (uq z ⟨z.apex,2⟩ hl));refine wE Tg ?_ ?_<;>intro c2
  . exact fr Tg (k:=by have hF:(iU z) k=false:=(by simpa[iU,e0]using c2);simp only[mg];rw[hv1,dK hk2 hF];try simp)
  refine wC Tg ?_;have h8:(iU z) k=true:=by simpa[iU,e0]using c2
  exact ax (k+1,_) (h1:=⟨iv,(by(try dsimp only);rw[hv1,bC hk2 h8]),iv⟩)
 refine aP ?_
 refine wA Tg ?_
 refine lq (Nat×Nat) [1,30,31] (λ⟨k,nx⟩=>(k<=z.sets.length/\aB z.sets.length (jL z.apex z.sets) 0=aB z.sets.length (jL z.apex z.sets) k/\0<nx,z.sets.length-k,[(32,.i k)],[(0,⟨110,[z.d]⟩)],nx)) (0,_) ?_
 rintro⟨k,nx⟩ ⟨hk,hv,hx⟩
 simp only[XX,XZ]
 have ff:=qA @hx ff
 refine wH Tg ?_ ?_<;>intro c3
 .
  have hk2:k<z.sets.length:=by simpa using c3
  have ff:=qA (bU hk2) ff;refine wB ?_;refine ae Tg ?_;refine wE Tg ?_ ?_ (hok:=oF (Ol _ _))<;>intro c4
  . exact fr Tg (k:=by have hF:(jL z.apex z.sets) k=false:=(by simp only[jL];grind);simp only[mg];rw[hv,dK hk2 hF];try simp)
  refine wC Tg ?_;have h8:(jL z.apex z.sets) k=true:=by simp only[jL];grind
  exact ax (k+1,_) (h1:=⟨iv,(by(try dsimp only);rw[hv,bC hk2 h8]),iv⟩)
 refine aP ?_
 exact fr Tg (k:=by simp only[mg];rw[hv1,hv,iV (n:=2) (by omega),iV (by omega)];rfl)
@[go_sem]theorem keysOk_T{m:List Str}:kg prog 9 (nU m)=true:=by
 induction m with
 | nil=>rfl
 | cons s m ih=>rw[w9];simp only[kg,ih,ko9,ZW]
def Jb(x:Lay)(hl:x.z.sets.length<=1000000):PureCt prog 115 [.agg x.d] (.b (kG x)):=by
 refine oO func115 λff=>?_
 unfold f115
 refine ae Tg ?_
 refine wA Tg ?_
 refine lq (Nat×Nat) [1,8,9] (λ⟨k,nx⟩=>(k<=x.z.sets.length/\aB x.z.sets.length (gK x.z.sets) 0=aB x.z.sets.length (gK x.z.sets) k/\0<nx,x.z.sets.length-k,[(10,.i k)],[(0,⟨187,[x.d]⟩)],nx)) (0,_) ?_
 rintro⟨k,nx⟩ ⟨hk,hv,hx⟩
 simp only[XX,XZ]
 have ff:=qA @hx ff
 refine wH Tg ?_ ?_<;>intro c1
 .
  have hk2:k<x.z.sets.length:=by simpa using c1
  have hk1:k-1<x.z.sets.length:=by omega
  have e1:((k:Int)-1).toNat=k-1:=by omega
  have e2:((k:Int)+1).toNat=k+1:=by omega
  have ff:=qE (bU hk2) (bU hk1) @e1 @e2 ff;refine wB ?_;refine ae Tg ?_;refine oK Tg ?_ ?_<;>intro c2
  .
   refine aP ?_;refine aA Tg ?_;have h8:(gK x.z.sets) k=true:=by simp only[gK];grind
   exact ax (k+1,_) (h1:=⟨iv,(by(try dsimp only);rw[hv,bC hk2 h8]),iv⟩)
  refine oK Tg ?_ ?_<;>intro c3
  . exact fr Tg (k:=by have hF:(gK x.z.sets) k=false:=(by simp only[gK];grind);simp only[kG];rw[hv,dK hk2 hF];try simp)
  by_cases hk4:k+1<x.z.sets.length
  .
   have ff:=qA (bU hk4) ff;refine wE Tg ?_ ?_<;>intro c4
   . exact fr Tg (k:=by have hF:(gK x.z.sets) k=false:=(by simp only[gK];grind);simp only[kG];rw[hv,dK hk2 hF];try simp)
   refine wC Tg ?_;have h8:(gK x.z.sets) k=true:=by simp only[gK];grind
   exact ax (k+1,_) (h1:=⟨iv,(by(try dsimp only);rw[hv,bC hk2 h8]),iv⟩)
  have e9:decide (((k+1:Nat):Int)<x.z.sets.length)=false:=Y3 om;have ff:=qA (NQ (f:=Sgd.d) (Nat.le_of_not_lt hk4)) ff;refine wE Tg ?_ ?_<;>intro c5
  . exact fr Tg (k:=by have hF:(gK x.z.sets) k=false:=(by simp only[gK];grind);simp only[kG];rw[hv,dK hk2 hF];try simp)
  refine wC Tg ?_;have h8:(gK x.z.sets) k=true:=by simp only[gK];grind
  exact ax (k+1,_) (h1:=⟨iv,(by(try dsimp only);rw[hv,bC hk2 h8]),iv⟩)
 refine aP ?_
 exact fr Tg (k:=by simp only[kG];rw[hv,iV (by omega)])
def I8(x:Lay)(hl:x.z.sets.length<=1000000)(hb:x.b.length=x.z.sets.length):PureCt prog 116 [.agg x.d] (.b (iB x)):=by
 refine oO func116 λff=>?_
 unfold f116
 refine ae Tg ?_
 refine wA Tg ?_
 refine lq (Nat×Nat) [1,9,10] (λ⟨k,nx⟩=>(k<=x.z.sets.length/\aB x.z.sets.length (cutAt x) 0=aB x.z.sets.length (cutAt x) k/\0<nx,x.z.sets.length-k,[(11,.i k)],[(0,⟨187,[x.d]⟩)],nx)) (0,_) ?_
 rintro⟨k,nx⟩ ⟨hk,hv,hx⟩
 simp only[XX,XZ]
 have ff:=qA @hx ff
 refine wH Tg ?_ ?_<;>intro c1
 .
  have hk2:k<x.z.sets.length:=by simpa using c1
  have hk3:k<x.b.length:=by omega
  have ff:=qB (bU hk2) (gu hk3) ff;refine wB ?_;refine oD Tg ?_;refine dZ ?_;refine wE Tg ?_ ?_<;>intro c2
  .
   refine wE Tg ?_ ?_<;>intro c3
   . exact fr Tg (k:=by have hF:(cutAt x) k=false:=(by simp only[cutAt];grind);simp only[iB];rw[hv,dK hk2 hF];try simp)
   refine wC Tg ?_;have h8:(cutAt x) k=true:=by simp only[cutAt];grind
   exact ax (k+1,_) (h1:=⟨iv,(by(try dsimp only);rw[hv,bC hk2 h8]),iv⟩)
  refine wE Tg ?_ ?_<;>intro c4
  .
   refine wE Tg ?_ ?_<;>intro c5
   . exact fr Tg (k:=by have hF:(cutAt x) k=false:=(by simp only[cutAt];grind);simp only[iB];rw[hv,dK hk2 hF];try simp)
   refine wC Tg ?_;have h8:(cutAt x) k=true:=by simp only[cutAt];grind
   exact ax (k+1,_) (h1:=⟨iv,(by(try dsimp only);rw[hv,bC hk2 h8]),iv⟩)
  refine wE Tg ?_ ?_<;>intro c6
  . exact fr Tg (k:=by have hF:(cutAt x) k=false:=(by simp only[cutAt];grind);simp only[iB];rw[hv,dK hk2 hF];try simp)
  refine wC Tg ?_;have h8:(cutAt x) k=true:=by simp only[cutAt];grind
  exact ax (k+1,_) (h1:=⟨iv,(by(try dsimp only);rw[hv,bC hk2 h8]),iv⟩)
 refine aP ?_
 exact fr Tg (k:=by simp only[iB];rw[hv,iV (by omega)])
def I7(x:Lay)(hl:x.z.sets.length<=1000000)(hb:x.b.length=x.z.sets.length):PureCt prog 117 [.agg x.d] (.b (tF x)):=by
 refine oO func117 λff=>?_
 unfold f117
 refine ae Tg ?_
 refine wA Tg ?_
 refine lq (Nat×Nat) [1,9,10] (λ⟨k,nx⟩=>(k<=x.z.sets.length/\aB x.z.sets.length (pW x) 0=aB x.z.sets.length (pW x) k/\0<nx,x.z.sets.length-k,[(11,.i k)],[(0,⟨187,[x.d]⟩)],nx)) (0,_) ?_
 rintro⟨k,nx⟩ ⟨hk,hv,hx⟩
 simp only[XX,XZ]
 have ff:=qA @hx ff
 refine wH Tg ?_ ?_<;>intro c1
 .
  have hk2:k<x.z.sets.length:=by simpa using c1
  have hk3:k<x.b.length:=by omega
  have ff:=qB (bU hk2) (gu hk3) ff;refine wB ?_;refine oC Tg ?_;refine wE Tg ?_ ?_<;>intro c2
  . exact fr Tg (k:=by have hF:(pW x) k=false:=(by simp only[pW];grind);simp only[tF];rw[hv,dK hk2 hF];try simp)
  refine wC Tg ?_;have h8:(pW x) k=true:=by simp only[pW];grind
  exact ax (k+1,_) (h1:=⟨iv,(by(try dsimp only);rw[hv,bC hk2 h8]),iv⟩)
 refine aP ?_
 exact fr Tg (k:=by simp only[tF];rw[hv,iV (by omega)])
def QU(x:Lay)(hl:x.z.sets.length<=1000000):PureCt prog 118 [.agg x.d] (.b (vB x)):=by
 refine oO func118 λff=>?_
 unfold f118
 refine ae Tg ?_
 refine wA Tg ?_
 refine lq (Nat×Nat) [1,8,9] (λ⟨k,nx⟩=>(k<=x.z.sets.length/\aB x.z.sets.length (ol x.z) 0=aB x.z.sets.length (ol x.z) k/\0<nx,x.z.sets.length-k,[(10,.i k)],[(0,⟨187,[x.d]⟩)],nx)) (0,_) ?_
 rintro⟨k,nx⟩ ⟨hk,hv,hx⟩
 simp only[XX,XZ]
 have ff:=qA @hx ff
 refine wH Tg ?_ ?_<;>intro c1
 .
  have hk2:k<x.z.sets.length:=by simpa using c1
  have ff:=qA (bU hk2) ff;refine wB ?_;refine ae Tg ?_;refine wE Tg ?_ ?_ (hok:=oF (I6 _ _))<;>intro c2
  . exact fr Tg (k:=by have hF:(ol x.z) k=false:=(by simpa only[ol]using c2);simp only[vB];rw[hv,dK hk2 hF];try simp)
  refine wC Tg ?_;have h8:(ol x.z) k=true:=by simpa only[ol]using c2
  exact ax (k+1,_) (h1:=⟨iv,(by(try dsimp only);rw[hv,bC hk2 h8]),iv⟩)
 refine aP ?_
 exact fr Tg (k:=by simp only[vB];rw[hv,iV (by omega)])
def EA(z:Zon)(hl:z.sets.length<=1000000):PureCt prog 114 [.agg z.d] (.agg (aN z).d):=by
 refine oO func114 λff=>?_
 unfold f114
 refine oC Tg ?_
 refine wA Tg ?_
 refine lq (Nat×Nat) [1,2,3,16,17] (λ⟨k,nx⟩=>(k<=z.sets.length/\2<nx,z.sets.length-k,[(18,.i k)],[(0,⟨110,[z.d]⟩),(1,⟨187,[[.v (.string (bs [])),.e,.e]]⟩),(2,⟨168,gU (nU (bM z (k)))⟩)],nx)) (0,_) ?_
 rintro⟨k,nx⟩ ⟨hk,hx⟩
 simp only[XX,XZ]
 have n0:0<nx:=by omega
 have n1:1<nx:=by omega
 have ff:=qD @hx @n0 @n1 ff
 refine wH Tg ?_ ?_<;>intro c1
 .
  have hk2:k<z.sets.length:=by simpa using c1
  have ff:=qA (bU hk2) ff;refine wB ?_;refine ae Tg ?_;refine wE Tg ?_ ?_<;>intro c2
  .
   refine aA Tg ?_;refine aA Tg ?_;have ff:=qA (Ie (z:=z) (k:=k) (by grind)) ff
   exact ax (k+1,_)
  refine wC Tg ?_;have ff:=qA (Ig (z:=z) (k:=k) (by grind)) ff
  exact ax (k+1,_)
 refine aP ?_
 refine H8 3 2 ev ev rfl LQ ?_
 refine oC Tg ?_
 refine wA Tg ?_
 refine lq (Nat×Str×Nat×Nat×Nat) [2,3,49,50] (λ⟨k,cut,r6,rb,nx⟩=>(k<=z.sets.length/\rb<nx/\r6<nx/\(2<rb/\rb<r6)/\cut=(bI (bM z z.sets.length) z.sets k).2,z.sets.length-k,[(6,.mptr r6 0 0),(7,.v (.string (bs cut))),(51,.i k)],[(0,⟨110,[z.d]⟩),(1,⟨187,[[.v (.string (bs [])),.e,.e]]⟩),(r6,⟨187,[[.v (.string (bs z.apex)),.l (z.sets.map Sgd.d),.mrow rb 0 z.sets.length]]⟩),(rb,⟨9,(lJ (bM z z.sets.length) z.sets z.sets.length (k)).map sR⟩)],nx)) (0,[],(nx+8),(nx+6),_) ?_
 rintro⟨k,cut,r6,rb,nx⟩ ⟨hk,hx,hx6,hbr,hc⟩
 simp only[XX,XZ]
 have n0:0<nx:=by omega
 have n1:1<nx:=by omega
 have ff:=qA @hx (qI @hx6 @n0 @n1 (nH r6 rb) (nH 0 rb) (nH 1 rb) (nH 0 r6) (nH 1 r6) ff)
 refine wH Tg ?_ ?_<;>intro c3
 .
  have hk2:k<z.sets.length:=by simpa using c3
  have ff:=qD (bU hk2) (Fj (m:=(bM z z.sets.length)) (l:=z.sets) hk) (gu (l:=lJ (bM z z.sets.length) z.sets z.sets.length k) (n:=k) (by rw[Fj hk];exact hk2)) ff
  refine wB ?_;refine oC Tg ?_;refine oK Tg ?_ ?_<;>intro c4
  .
   refine ae Tg ?_ (hok:=oF (wU _ _));refine wE Tg ?_ ?_<;>intro c5
   .
    refine aA Tg ?_;refine oK Tg ?_ ?_<;>intro c6
    .
     refine aA Tg ?_;refine aA Tg ?_;refine aA Tg ?_;have hcc:(bI (bM z z.sets.length) z.sets (k+1)).2=z.sets[k]!.set.name:=by show stepC _ (bI _ _ k).2 _=_;rw[<-hc];simp only[stepC];grind
     have ff:=qB (yl hk2 hcc) hcc ff;exact ax (k+1,(bI (bM z z.sets.length) z.sets (k+1)).2,r6,rb,_)
    refine aA Tg ?_;refine aA Tg ?_;have hcc:(bI (bM z z.sets.length) z.sets (k+1)).2=[]:=by show stepC _ (bI _ _ k).2 _=_;rw[<-hc];simp only[stepC];grind
    have ff:=qB (yl hk2 hcc) hcc ff;exact ax (k+1,(bI (bM z z.sets.length) z.sets (k+1)).2,r6,rb,_)
   refine dS ?_;refine oK Tg ?_ ?_<;>intro c6
   .
    refine aA Tg ?_;refine aA Tg ?_;refine aA Tg ?_;have hcc:(bI (bM z z.sets.length) z.sets (k+1)).2=z.sets[k]!.set.name:=by show stepC _ (bI _ _ k).2 _=_;rw[<-hc];simp only[stepC];grind
    have ff:=qB (yl hk2 hcc) hcc ff;exact ax (k+1,(bI (bM z z.sets.length) z.sets (k+1)).2,r6,rb,_)
   refine aA Tg ?_;refine aA Tg ?_;have hcc:(bI (bM z z.sets.length) z.sets (k+1)).2=cut:=by show stepC _ (bI _ _ k).2 _=_;rw[<-hc];simp only[stepC];grind
   have ff:=qB (yl hk2 hcc) hcc ff;exact ax (k+1,(bI (bM z z.sets.length) z.sets (k+1)).2,r6,rb,_)
  refine oK Tg ?_ ?_<;>intro c6
  .
   refine aA Tg ?_;refine aA Tg ?_;refine aA Tg ?_;have hcc:(bI (bM z z.sets.length) z.sets (k+1)).2=z.sets[k]!.set.name:=by show stepC _ (bI _ _ k).2 _=_;rw[<-hc];simp only[stepC];grind
   have ff:=qB (yl hk2 hcc) hcc ff;exact ax (k+1,(bI (bM z z.sets.length) z.sets (k+1)).2,r6,rb,_)
  refine aA Tg ?_;refine aA Tg ?_;have hcc:(bI (bM z z.sets.length) z.sets (k+1)).2=cut:=by show stepC _ (bI _ _ k).2 _=_;rw[<-hc];simp only[stepC];grind
  have ff:=qB (yl hk2 hcc) hcc ff;exact ax (k+1,(bI (bM z z.sets.length) z.sets (k+1)).2,r6,rb,_)
 refine aP ?_
 have e9:k=z.sets.length:=by omega
 subst e9
 have tk:List.take z.sets.length ((lJ (bM z z.sets.length) z.sets z.sets.length z.sets.length).map sR)=(eT z).map sR:=by rw[UR];exact Yg (by rw[Y8,vK];exact X3 _)
 have ff:=qB @tk (Fj (m:=(bM z z.sets.length)) (l:=z.sets) (X3 z.sets.length)) ff
 refine ae Tg ?_
 exact oN (fin 2 (hr:=oR) (hk:=by(try simp only[go_sem,ff]);all_goals (exact En z)))
def vQ(z:Zon):PureCt prog 27 [.agg z.d] (.b (aJ z)):=by
 refine oO func27 λff=>?_
 unfold f27
 refine oC Tg ?_
 refine oK Tg (λc1=>?_) (λc1=>?_) (hok:=oS (k:=by first|trivial|(repeat' with_reducible apply And.intro)<;>first|(intros;exact QR z)|(intro h;exact QY z (FQ h))|(intros;simp_all;done)))
 . exact fr Tg (k:=by simp only[aJ];grind)
 have ho:=FQ c1.1
 refine ae Tg ?_ (hok:=oF (EA z ho))
 exact fr Tg (hok:=oa4 (Jb (aN z) ho) (I8 (aN z) ho (En z)) (I7 (aN z) ho (En z)) (QU (aN z) ho)) (k:=by simp only[aJ];rw[c1.1,c1.2];first|(simp[Zq];done)|(simp[Zq];rfl))
def QP(z:Zon):PureCt prog 232 [.agg z.d] (.tuple [.i (if aJ z then rZ z else 0),.i (if aJ z then 0 else 1)]):=by
 refine oO func232 λff=>?_
 unfold f232
 refine ae Tg ?_
 refine oK Tg ?_ ?_ (hok:=oF (vQ z))<;>intro c1
 . exact fr Tg (K:=1) (k:=by simp[c1])
 refine ae Tg ?_ (hok:=oF (uq z ⟨z.apex,4⟩ (uT c1)))
 obtain⟨hf1,hf2⟩:=R9 c1
 have ff:=qB (bU hf1) (qU hf2) ff
 exact fr Tg (K:=1) (k:=by simp[c1,rZ])
def Tn{x y:RSig}(h:x.zone=y.zone/\x.key=y.key/\x.alg=y.alg/\x.frm=y.frm/\x.unt=y.unt/\x.sum=y.sum):x=y:=by
 obtain⟨a,b,c,d,e,f⟩:=x
 obtain⟨g,i,j,k,l,m⟩:=y
 simp at h
 simp[h]
theorem Tm{x y:RSig}(h : ¬x.zone=y.zone \/ ¬x.key=y.key \/ ¬x.alg=y.alg \/ ¬x.frm=y.frm \/ ¬x.unt=y.unt \/ ¬x.sum=y.sum):x≠y:=by
 rintro rfl
 simp at h
def UE(a:Sgd)(b:Sgd)(ha:yX a):PureCt prog 173 [.agg a.d,.agg b.d] (.b (r9 a b)):=by
 refine oO func173 λff=>?_
 unfold f173
 have ha2:=ha.2
 refine ae Tg ?_
 refine oK Tg ?_ ?_ (hok:=oH (UH _ _ ha.1))<;>intro c1
 . exact fr Tg (k:=by rw[TI (by grind [o9])])
 refine wA Tg ?_
 refine lq (Nat×Nat) [2,3] (λ⟨k,nx⟩=>(k<=a.sigs.length/\1<nx/\(∀i,i<k->a.sigs[i]! = b.sigs[i]!),a.sigs.length-k,[(5,.i k)],[(0,⟨44,[a.d]⟩),(1,⟨44,[b.d]⟩)],nx)) (0,_) ?_ (hA:=⟨iv,iv,(by first|(intro i hi;omega)|(dsimp only;intro i hi;omega))⟩)
 rintro⟨k,nx⟩ ⟨hk,hx,hv⟩
 simp only[XX,XZ]
 have n0:0<nx:=by omega
 have ff:=qB @hx @n0 ff
 refine oT Tg ?_ ?_<;>intro c2
 .
  have hk2:k<a.sigs.length:=by simpa using c2
  have hk3:k<b.sigs.length:=by grind
  have ff:=qB (tH hk2) (tH hk3) ff;refine wD ?_;refine wE Tg ?_ ?_<;>intro c3
  . exact fr Tg (k:=by rw[TH (Tm c3)])
  refine wC Tg ?_;exact ax (k+1,_) (h1:=⟨iv,iv,(by(try dsimp only);intro i hi;by_cases e:i=k;subst e;exact Tn c3;exact hv i om)⟩)
 refine aP ?_
 exact fr Tg (k:=by rw[TF (by grind [o9]) (by grind) λi hi=>hv i (by omega)])
def UF(a:List Sgd)(b:List Sgd)(ha:iA a):PureCt prog 101 [.l (a.map Sgd.d),.l (b.map Sgd.d)] (.b (wm a b)):=by
 refine oO func101 λff=>?_
 unfold f101
 have ha1:=ha.1
 refine ae Tg ?_
 refine oK Tg ?_ ?_<;>intro c1
 . exact fr Tg (k:=by rw[TE (by grind)])
 refine wA Tg ?_
 refine lq (Nat×Nat) [0,1] (λ⟨k,nx⟩=>(k<=a.length/\(∀i,i<k->r9 a[i]! b[i]! = true),a.length-k,[(5,.i k)],[],nx)) (0,_) ?_ (hA:=⟨iv,(by first|(intro i hi;omega)|(dsimp only;intro i hi;omega))⟩)
 rintro⟨k,nx⟩ ⟨hk,hv⟩
 simp only[XX,XZ]
 refine oT Tg ?_ ?_<;>intro c2
 .
  have hk2:k<a.length:=by simpa using c2
  have hk3:k<b.length:=by grind
  have ff:=qB (bU hk2) (bU hk3) ff;refine wD ?_;refine wE Tg ?_ ?_ (hok:=oH (UE _ _ (ha.2 k hk2)))<;>intro c3
  . exact fr Tg (k:=by rw[TG (k:=k) (by grind)])
  refine wC Tg ?_;exact ax (k+1,_) (h1:=⟨iv,(by(try dsimp only);intro i hi;by_cases e:i=k;subst e;grind;exact hv i om)⟩)
 refine aP ?_
 exact fr Tg (k:=by rw[TD (by grind) λi hi=>hv i (by omega)])
def KG(z:Zon)(q:Qst)(hl:z.sets.length<=1000000):PureCt prog 107 [.agg z.d,.agg q.d] (.i (uh z.sets q)):=by
 refine oO func107 λff=>?_
 unfold f107
 refine ae Tg ?_
 refine wA Tg ?_
 refine lq (Nat×Nat) [2,3] (λ⟨k,nx⟩=>(k<=z.sets.length/\1<nx/\uh z.sets q=sM z.sets q k,z.sets.length-k,[(5,.i k)],[(0,⟨24,[z.d]⟩),(1,⟨27,[q.d]⟩)],nx)) (0,_) ?_
 rintro⟨k,nx⟩ ⟨hk,hx,hv⟩
 simp only[XX,XZ]
 have n0:0<nx:=by omega
 have ff:=qB @hx @n0 ff
 refine oT Tg ?_ ?_<;>intro c1
 .
  have hk2:k<z.sets.length:=by simpa using c1
  have ff:=qA (bU hk2) ff;refine wD ?_;refine wE Tg ?_ ?_<;>intro c2
  . exact fr Tg (k:=by rw[hv,Am,X0 hk2,X0 (by cases q;simp_all [Sgd.q])])
  refine wC Tg ?_;exact ax (k+1,_) (h1:=⟨iv,iv,(by(try dsimp only);rw[hv,Am,if_pos hk2,if_neg (by intro e;rw[<-e]at c2;simp[Sgd.q]at c2)])⟩)
 refine aP ?_
 exact fr Tg (k:=by rw[hv,Am,XW (by omega)])
def Vn(z:Zon)(hl:z.sets.length<=1000000):PureCt prog 23 [.agg z.d] (.b (qi z)):=by
 refine oO func23 λff=>?_
 unfold f23
 refine ae Tg ?_
 refine oK Tg ?_ ?_ (hok:=oI (KG z ⟨z.apex,4⟩ hl) (KG z ⟨z.apex,2⟩ hl))<;>intro c1
 . exact fr Tg (k:=by simp only[qi];grind)
 refine wA Tg ?_
 refine lq (Nat×Nat) [1] (λ⟨k,nx⟩=>(k<=z.sets.length/\aB z.sets.length (jL z.apex z.sets) 0=aB z.sets.length (jL z.apex z.sets) k/\0<nx,z.sets.length-k,[(3,.i k)],[(0,⟨24,[z.d]⟩)],nx)) (0,_) ?_
 rintro⟨k,nx⟩ ⟨hk,hv,hx⟩
 simp only[XX,XZ]
 have ff:=qA @hx ff
 refine oT Tg ?_ ?_<;>intro c2
 .
  have hk2:k<z.sets.length:=by simpa using c2
  have ff:=qA (bU hk2) ff;refine wD ?_;refine wE Tg ?_ ?_ (hok:=oH UJ)<;>intro c3
  . exact fr Tg (k:=by have hF:(jL z.apex z.sets) k=false:=(by simp only[jL];grind);simp only[qi];rw[hv,dK hk2 hF];try simp)
  refine wC Tg ?_;have h8:(jL z.apex z.sets) k=true:=by simp only[jL];grind
  exact ax (k+1,_) (h1:=⟨iv,(by(try dsimp only);rw[hv,bC hk2 h8]),iv⟩)
 refine aP ?_
 exact fr Tg (k:=by simp only[qi];rw[hv,iV (by omega)];grind)
def Vq(z:Zon):PureCt prog 22 [.agg z.d] (.b (kT z)):=by
 refine oO func22 λff=>?_
 unfold f22
 refine ae Tg ?_
 refine oK Tg (λc1=>?_) (λc1=>?_) (hok:=oS (k:=by first|trivial|(repeat' with_reducible apply And.intro)<;>first|(intros;exact pq _)|exact(λ_=>Kj _ (by have:=gT (by assumption);omega))|exact(λh=>Kj _ (by have:=gT (by simpa using h);omega))))
 . exact fr Tg (k:=by simp only[kT];grind)
 refine wA Tg ?_
 refine lq (Nat×Nat) [1] (λ⟨k,nx⟩=>(k<=z.sets.length/\aB z.sets.length (pI z.apex z.sets) 0=aB z.sets.length (pI z.apex z.sets) k/\0<nx,z.sets.length-k,[(3,.i k)],[(0,⟨24,[z.d]⟩)],nx)) (0,_) ?_
 rintro⟨k,nx⟩ ⟨hk,hv,hx⟩
 simp only[XX,XZ]
 have ff:=qA @hx ff
 refine oT Tg ?_ ?_<;>intro c2
 .
  have hk2:k<z.sets.length:=by simpa using c2
  have hk1:k-1<z.sets.length:=by omega
  have e1:((k:Int)-1).toNat=k-1:=by omega
  have ff:=qD (bU hk2) (bU hk1) @e1 ff;refine wD ?_;refine ae Tg ?_;refine wE Tg (λc3=>?_) (λc3=>?_) (hok:=oS (k:=by first|trivial|(repeat' with_reducible apply And.intro)<;>first|(intros;exact UI _)|(intros;exact U0 _ _)|exact(λh=>wy _ _ (TQ (by simpa using h)) (by have:=gT c1.1.1;omega))|omega|(intro h;simp only[XT,XV]at h;omega)|(intros;simp_all;done)))
  . exact fr Tg (k:=by have hF:(pI z.apex z.sets) k=false:=(by simp only[pI];grind);simp only[kT];rw[hv,dK hk2 hF];try simp)
  refine wC Tg ?_;have h8:(pI z.apex z.sets) k=true:=by simp only[pI];grind
  exact ax (k+1,_) (h1:=⟨iv,(by(try dsimp only);rw[hv,bC hk2 h8]),iv⟩)
 refine aP ?_
 exact fr Tg (k:=by simp only[kT];rw[hv,iV (by omega)];grind)
def Vu(z:Zon):PureCt prog 6 [.agg z.d] (.b (AY z)):=by
 refine oO func6 λff=>?_
 unfold Tryz.f6
 refine ae Tg ?_
 refine wA Tg ?_
 refine lq (Nat×Nat) [1] (λ⟨k,nx⟩=>(k<=z.sets.length/\(aB z.sets.length (λi=>decide (z.sets[i]!.set.data.length<=20)&&decide (z.sets[i]!.sigs.length<=20)) 0=aB z.sets.length (λi=>decide (z.sets[i]!.set.data.length<=20)&&decide (z.sets[i]!.sigs.length<=20)) k)/\0<nx/\k<=101,z.sets.length-k,[(3,.i k)],[(0,⟨24,[z.d]⟩)],nx)) (0,_) ?_
 rintro⟨k,nx⟩ ⟨hk,hv,hx,ko⟩
 simp only[XX,XZ]
 have ff:=qA @hx ff
 refine oL Tg ?_ ?_<;>intro c1
 .
  have hk2:k<z.sets.length:=by grind
  have hk9:k<=100:=by grind
  have ff:=qA (bU hk2) ff;refine wD ?_;refine wE Tg ?_ ?_<;>intro c2
  . exact fr Tg (k:=by have hF:(λi=>decide (z.sets[i]!.set.data.length<=20)&&decide (z.sets[i]!.sigs.length<=20)) k=false:=(by grind);simp only[AY];rw[hv,dK hk2 hF];try simp)
  refine wC Tg ?_;have h8:(λi=>decide (z.sets[i]!.set.data.length<=20)&&decide (z.sets[i]!.sigs.length<=20)) k=true:=by grind
  exact ax (k+1,_) (h1:=⟨iv,(by(try dsimp only);rw[hv,bC hk2 h8]),iv,iv⟩)
 refine aP ?_
 exact fr Tg (k:=by simp only[AY];by_cases h100:z.sets.length<=100;rw[hv,iV (by grind)];simp;omega;simp[h100];omega)
def Vo(z:Zon)(hl:z.sets.length<=1000000):PureCt prog 24 [.agg z.d] (.b (lu z)):=by
 refine oO func24 λff=>?_
 unfold f24
 refine oC Tg ?_
 refine wA Tg ?_
 refine lq (Nat×Str×Nat) [1] (λ⟨k,al,nx⟩=>(k<=z.sets.length/\0<nx/\al=fM z.sets k/\aB z.sets.length (gN z.sets) 0=aB z.sets.length (gN z.sets) k,z.sets.length-k,[(3,.v (.string (bs al))),(4,.i k)],[(0,⟨24,[z.d]⟩)],nx)) (0,[],_) ?_
 rintro⟨k,al,nx⟩ ⟨hk,hx,ha,hv⟩
 simp only[XX,XZ]
 have ff:=qA @hx ff
 refine oT Tg ?_ ?_<;>intro c1
 .
  have hk2:k<z.sets.length:=by simpa using c1
  have hk1:k-1<z.sets.length:=by omega
  have e1:((k:Int)-1).toNat=k-1:=by omega
  have ff:=qD (bU hk2) (bU hk1) @e1 ff;refine wD ?_;refine oK Tg ?_ ?_<;>intro c2
  .
   refine aA Tg ?_;refine oC Tg ?_;refine oK Tg ?_ ?_<;>intro c3
   .
    refine aA Tg ?_;refine wE Tg (λc4=>?_) (λc4=>?_) (hok:=oS (k:=by first|done|grind|(simp;grind)))
    . exact fr Tg (k:=by have hF:(gN z.sets) k=false:=(by simp only[gN,jb,fM];grind);simp only[lu];rw[hv,dK hk2 hF];try simp)
    refine wC Tg ?_;have hal:fM z.sets (k+1)=z.sets[k]!.set.name:=by simp only[fM];grind
    have ff:=qA hal ff;have h8:gN z.sets k=true:=by simp only[gN,jb,hal];grind
    exact ax (k+1,fM z.sets (k+1),_) (h1:=⟨iv,iv,rfl,(by(try dsimp only);rw[hv,bC hk2 h8])⟩)
   refine wE Tg (λc4=>?_) (λc4=>?_) (hok:=oS (k:=by first|done|grind|(simp;grind)))
   . exact fr Tg (k:=by have hF:(gN z.sets) k=false:=(by simp only[gN,jb,fM];grind);simp only[lu];rw[hv,dK hk2 hF];try simp)
   refine wC Tg ?_;have hal:fM z.sets (k+1)=z.sets[k]!.set.name:=by simp only[fM];grind
   have ff:=qA hal ff;have h8:gN z.sets k=true:=by simp only[gN,jb,hal];grind
   exact ax (k+1,fM z.sets (k+1),_) (h1:=⟨iv,iv,rfl,(by(try dsimp only);rw[hv,bC hk2 h8])⟩)
  refine oC Tg ?_;refine oK Tg ?_ ?_<;>intro c3
  .
   refine aA Tg ?_;refine wE Tg (λc4=>?_) (λc4=>?_) (hok:=oS (k:=by first|done|grind|(simp;grind)))
   . exact fr Tg (k:=by have hF:(gN z.sets) k=false:=(by simp only[gN,jb,fM];grind);simp only[lu];rw[hv,dK hk2 hF];try simp)
   refine wC Tg ?_;have hal:fM z.sets (k+1)=al:=by simp only[fM];grind
   have ff:=qA hal ff;have h8:gN z.sets k=true:=by simp only[gN,jb,hal];grind
   exact ax (k+1,fM z.sets (k+1),_) (h1:=⟨iv,iv,rfl,(by(try dsimp only);rw[hv,bC hk2 h8])⟩)
  refine wE Tg (λc4=>?_) (λc4=>?_) (hok:=oS (k:=by first|done|grind|(simp;grind)))
  . exact fr Tg (k:=by have hF:(gN z.sets) k=false:=(by simp only[gN,jb,fM];grind);simp only[lu];rw[hv,dK hk2 hF];try simp)
  refine wC Tg ?_;have hal:fM z.sets (k+1)=al:=by simp only[fM];grind
  have ff:=qA hal ff;have h8:gN z.sets k=true:=by simp only[gN,jb,hal];grind
  exact ax (k+1,fM z.sets (k+1),_) (h1:=⟨iv,iv,rfl,(by(try dsimp only);rw[hv,bC hk2 h8])⟩)
 refine aP ?_
 exact fr Tg (k:=by simp only[lu];rw[hv,iV (by omega)])
def cutsR_0{z:Zon}:jQ z 0=[]:=rfl
def highTo_0{cs:List Str}:bT cs 0=[]:=rfl
attribute[go_sem]cutsR_0 highTo_0
@[go_sem]theorem sR_snoc{l:List Str}{x:Str}:(l++[x]).map sR=l.map sR++[[.v (.string (bs x))]]:=by simp[sR]
theorem Ih{z:Zon}{k:Nat}(h:z.sets[k]!.set.ty=2 /\ ¬z.sets[k]!.set.name=z.apex):jQ z (k+1)=jQ z k++[z.sets[k]!.set.name]:=X0 h
theorem Ii{z:Zon}{k:Nat}(h : ¬(z.sets[k]!.set.ty=2 /\ ¬z.sets[k]!.set.name=z.apex)):jQ z (k+1)=jQ z k:=XW h
theorem Ij(z:Zon):∀k,(jQ z k).length<=k
 | 0=>X3 _
 | k+1=>by
  have:=Ij z k
  by_cases h:z.sets[k]!.set.ty=2 /\ ¬z.sets[k]!.set.name=z.apex
  . rw[Ih h,YE];simp;omega
  rw[Ii h];omega
theorem D8{z:Zon}(hn:nP z):∀k,k<=z.sets.length -> ∀x∈jQ z k,x.length<=1000
 | 0,_,x,hx=>by cases hx
 | k+1,h,x,hx=>by
  by_cases h2:z.sets[k]!.set.ty=2 /\ ¬z.sets[k]!.set.name=z.apex
  .
   rw[Ih h2,Yu,Yi]at hx
   rcases hx with hx|hx
   . exact D8 hn k om x hx
   subst hx;exact hn.2 k om
  rw[Ii h2]at hx;exact D8 hn k (by omega) x hx
def PR{z:Zon}(hn:nP z):(d9 z).length<=1000000:=Yx (Ij z _) hn.1
def PQ{z:Zon}(hn:nP z){k:Nat}(h:k<(d9 z).length):(d9 z)[k]!.length<=1000:=by
 refine D8 hn _ (X3 _) _ ?_
 show(d9 z)[k]! ∈ d9 z
 rw[getElem!_pos (d9 z) k h];exact Yq h
theorem GM{cs:List Str}{k:Nat}(h:bT cs k=[]\/ji cs[k]! (bT cs k)[(bT cs k).length-1]! = false):bT cs (k+1)=bT cs k++[cs[k]!]:=X0 h
theorem NB{cs:List Str}{k:Nat}(h : ¬(bT cs k=[]\/ji cs[k]! (bT cs k)[(bT cs k).length-1]! = false)):bT cs (k+1)=bT cs k:=XW h
theorem Df(cs:List Str):∀k,k<=cs.length->(bT cs k).length<=k /\ ∀x∈bT cs k,x∈cs
 | 0,_=>⟨X3 _,λx hx=>by cases hx⟩
 | k+1,h=>by
  have ih:=Df cs k (by omega)
  by_cases h2:bT cs k=[]\/ji cs[k]! (bT cs k)[(bT cs k).length-1]! = false
  .
   rw[GM h2];refine⟨by rw[YE];simp;omega,λx hx=>?_⟩
   rcases Yu.1 hx with hx|hx
   . exact ih.2 x hx
   rw[Yi]at hx;subst hx;rw[getElem!_pos _ _ (by omega)];exact Yq _
  rw[NB h2];exact⟨om,ih.2⟩
def GN{z:Zon}(hn:nP z){k i:Nat}(hk:k<=(d9 z).length)(h:i<(bT (d9 z) k).length):(bT (d9 z) k)[i]!.length<=1000:=by
 refine D8 hn _ (X3 _) _ ((Df _ k hk).2 _ ?_)
 rw[getElem!_pos (bT (d9 z) k) i h];exact Yq h
def Zaw{z:Zon}(hn:nP z):(bz z).length<=1000000:=Yx (Df _ _ (X3 _)).1 (PR hn)
def yP{z:Zon}(hn:nP z){i:Nat}(h:i<(bz z).length):(bz z)[i]!.length<=1000:=GN hn (X3 _) h
def Vv(z:Zon)(hl:z.sets.length<=1000000):PureCt prog 237 [.agg z.d] (.l ((d9 z).map sR)):=by
 refine oO func237 λff=>?_
 unfold f237
 refine oC Tg ?_
 refine aY ?_
 refine Ba 3 9 (by simp only[go_sem,ff]) (by simp only[go_sem,ff]) ?_
 refine ae Tg ?_
 refine dZ ?_
 refine lq (Nat×Nat×Nat) [1] (λ⟨k,r,nx⟩=>(k<=z.sets.length/\r<nx/\0<r,z.sets.length-k,[(3,.mrow r 0 (jQ z k).length),(4,.i k)],[(0,⟨24,[z.d]⟩),(r,⟨9,(jQ z k).map sR⟩)],nx)) (0,3,_) ?_
 rintro⟨k,r,nx⟩ ⟨hk,hr,hr0⟩
 simp only[XX,XZ]
 have hcl:=Ij z k
 have n0:0<nx:=by omega
 have ff:=qD @hr @n0 (nH 0 r) ff
 refine oT Tg ?_ ?_<;>intro c1
 .
  have hk2:k<z.sets.length:=by simpa using c1
  have ff:=qA (bU hk2) ff;refine wD ?_;refine ae Tg ?_;refine wE Tg ?_ ?_<;>intro c2
  .
   refine aA Tg ?_;refine aA Tg ?_;have ff:=qA (Ih (z:=z) (k:=k) (by grind)) ff
   exact ax (k+1,(nx+27),_)
  refine wC Tg ?_;have ff:=qA (Ii (z:=z) (k:=k) (by grind)) ff
  exact ax (k+1,r,_)
 refine aP ?_
 have e9:k=z.sets.length:=by omega
 subst e9
 exact ft Tg (K:=1)
def Vr(z:Zon)(hn:nP z):PureCt prog 182 [.agg z.d] (.l ((bz z).map sR)):=by
 refine oO func182 λff=>?_
 unfold f182
 have hl:=hn.1
 have hcl:=PR hn
 refine ae Tg ?_
 refine ae Tg ?_ (hok:=oF (Vv z hl))
 refine ae Tg ?_
 refine aY ?_
 refine Ba 4 9 (by simp only[go_sem,ff]) (by simp only[go_sem,ff]) ?_
 refine ae Tg ?_
 refine dZ ?_
 refine lq (Nat×Nat×Nat) [3] (λ⟨k,r,nx⟩=>(k<=(d9 z).length/\r<nx,(d9 z).length-k,[(4,.mrow r 0 (bT (d9 z) k).length),(5,.i k)],[(r,⟨9,(bT (d9 z) k).map sR⟩)],nx)) (0,6,_) ?_
 rintro⟨k,r,nx⟩ ⟨hk,hr⟩
 simp only[XX,XZ]
 have hhl:=(Df (d9 z) k hk).1
 have ff:=qA @hr ff
 refine oT Tg ?_ ?_<;>intro c1
 .
  have hk2:k<(d9 z).length:=by simpa using c1
  have e1:(((bT (d9 z) k).length:Int)-1).toNat=(bT (d9 z) k).length-1:=by omega
  have ff:=qB (gu hk2) @e1 ff;refine wD ?_
  by_cases h0:(bT (d9 z) k).length=0
  .
   have hnil:=Ye h0;have ff:=qB @h0 @hnil ff;refine wE Tg (λc2=>?_) (λc2=>?_) (hok:=oS (k:=by first|trivial|(repeat' with_reducible apply And.intro)<;>first|exact(λ_=>wy _ _ (PQ hn hk2) (GN hn hk h9))|omega|(intros;omega)|(intro h;simp at h;done))) (hq:=rfl)
   .
    refine aA Tg ?_;refine aA Tg ?_;have ff:=qA (GM (cs:=d9 z) (k:=k) (by first|exact .inl (List.eq_nil_of_length_eq_zero h0)|grind)) ff
    exact ax (k+1,(nx+27),_)
   grind
  have h9:(bT (d9 z) k).length-1<(bT (d9 z) k).length:=by omega
  have ff:=qA (gu h9) ff;refine wE Tg (λc2=>?_) (λc2=>?_) (hok:=oS (k:=by first|trivial|(repeat' with_reducible apply And.intro)<;>first|exact(λ_=>wy _ _ (PQ hn hk2) (GN hn hk h9))|omega|(intros;omega)|(intro h;simp at h;done)))
  .
   refine aA Tg ?_;refine aA Tg ?_;have ff:=qA (GM (cs:=d9 z) (k:=k) (by first|exact .inl (List.eq_nil_of_length_eq_zero h0)|grind)) ff
   exact ax (k+1,(nx+27),_)
  refine wC Tg ?_;have ff:=qA (NB (cs:=d9 z) (k:=k) (by grind)) ff
  exact ax (k+1,r,_)
 refine aP ?_
 have e9:k=(d9 z).length:=by omega
 subst e9
 exact ft Tg (K:=1)
def KI(z:Zon)(hn:nP z):PureCt prog 109 [.agg z.d] (.l ((ed z).map sR)):=by
 refine oO func109 λff=>?_
 unfold f109
 have hl:=hn.1
 have hcl:=Zaw hn
 refine ae Tg ?_
 refine ae Tg ?_ (hok:=oF (Vr z hn))
 refine oC Tg ?_
 refine wA Tg ?_
 refine lq (Nat×Nat×Nat×Nat) [1,3] (λ⟨k,j,rb,nx⟩=>(k<=z.sets.length/\rb<nx/\0<rb/\j=fG (bz z) z.sets k/\j<=(bz z).length,z.sets.length-k,[(4,.mrow rb 0 z.sets.length),(5,.i j),(6,.i k)],[(0,⟨24,[z.d]⟩),(rb,⟨9,(ja (bz z) z.sets z.sets.length (k)).map sR⟩)],nx)) (0,0,8,_) ?_
 rintro⟨k,j,rb,nx⟩ ⟨hk,hx,hb0,hj,hj2⟩
 simp only[XX,XZ]
 have n0:0<nx:=by omega
 have ff:=qD @hx @n0 (nH 0 rb) ff
 refine oT Tg ?_ ?_<;>intro c1
 .
  have hk2:k<z.sets.length:=by simpa using c1
  have ff:=qD (bU hk2) (Fh (hs:=bz z) (l:=z.sets) hk) (gu (l:=ja (bz z) z.sets z.sets.length k) (n:=k) (by rw[Fh hk];exact hk2)) ff
  refine wD ?_;refine ae Tg ?_;refine wD ?_;refine lq (Nat×Nat) [1,3,4,6,7] (λ⟨i,nx⟩=>(i<=(bz z).length/\rb<nx/\mi (bz z) z.sets[k]!.set.name j=mi (bz z) z.sets[k]!.set.name i,(bz z).length-i,[(5,.i i)],[(0,⟨24,[z.d]⟩),(rb,⟨9,(ja (bz z) z.sets z.sets.length (k)).map sR⟩)],nx)) (j,_) ?_
  rintro⟨i,nx⟩ ⟨hi,hx,hv2⟩;simp only[XX,XZ];have n0:0<nx:=by omega
  have ff:=qD @hx @n0 (nH 0 rb) ff;refine aY ?_
  by_cases hk4:i<(bz z).length
  .
   have ff:=qA (gu hk4) ff;refine wE Tg (λc2=>?_) (λc2=>?_) (hok:=oS (k:=by first|trivial|(repeat' with_reducible apply And.intro)<;>first|exact(λ_=>Fs _ _ (yP hn hk4) (hn.2 _ hk2))|omega|(intros;omega))) (hq:=rfl)
   . refine dS ?_;refine dZ ?_;refine aA Tg ?_;exact ax (i+1,_) (h1:=⟨iv,iv,(by first|(rw[hv2,vM];grind)|(dsimp only;rw[hv2,vM];grind))⟩)
   have fe:fG (bz z) z.sets (k+1)=i:=by show mi _ _ _=_;rw[<-hj,hv2,vM];grind
   refine aP ?_
   by_cases hi0:i=0
   .
    have ff:=qA @hi0 ff;refine wE Tg (λc3=>?_) (λc3=>?_) (hok:=oS (k:=by first|trivial|(repeat' with_reducible apply And.intro)<;>first|exact(λ_=>wy _ _ (hn.2 _ hk2) (yP hn hi9))|omega|(intros;omega)|(intro h;simp at h;done)))
    .
     refine aA Tg ?_;refine aA Tg ?_;have hcc:fK (bz z) z.sets[k]!.set.name (fG (bz z) z.sets (k+1))=(bz z)[i-1]! := by rw[fe];simp only[fK];grind
     have ff:=qA (Ca hk2 hcc) ff;exact ax (k+1,i,rb,_) (h1:=⟨iv,iv,iv,fe.symm,iv⟩)
    refine wC Tg ?_;have hcc:fK (bz z) z.sets[k]!.set.name (fG (bz z) z.sets (k+1))=[]:=by rw[fe];simp only[fK];grind
    have ff:=qA (Cb hk2 hcc) ff;exact ax (k+1,i,rb,_) (h1:=⟨iv,iv,iv,fe.symm,iv⟩)
   have hi9:i-1<(bz z).length:=by omega
   have e1:((i:Int)-1).toNat=i-1:=by omega
   have ff:=qB @e1 (gu hi9) ff;refine wE Tg (λc3=>?_) (λc3=>?_) (hok:=oS (k:=by first|trivial|(repeat' with_reducible apply And.intro)<;>first|exact(λ_=>wy _ _ (hn.2 _ hk2) (yP hn hi9))|omega|(intros;omega)|(intro h;simp at h;done)))
   .
    refine aA Tg ?_;refine aA Tg ?_;have hcc:fK (bz z) z.sets[k]!.set.name (fG (bz z) z.sets (k+1))=(bz z)[i-1]! := by rw[fe];simp only[fK];grind
    have ff:=qA (Ca hk2 hcc) ff;exact ax (k+1,i,rb,_) (h1:=⟨iv,iv,iv,fe.symm,iv⟩)
   refine wC Tg ?_;have hcc:fK (bz z) z.sets[k]!.set.name (fG (bz z) z.sets (k+1))=[]:=by rw[fe];simp only[fK];grind
   have ff:=qA (Cb hk2 hcc) ff;exact ax (k+1,i,rb,_) (h1:=⟨iv,iv,iv,fe.symm,iv⟩)
  have e9:decide ((i:Int)<((bz z).length:Int))=false:=Y3 om;have ff:=qA @e9 ff;refine wG Tg (λc2=>?_) (λc2=>?_) (hok:=oS (k:=by first|trivial|(repeat' with_reducible apply And.intro)<;>first|exact(λ_=>Fs _ _ (yP hn hk4) (hn.2 _ hk2))|omega|(intros;omega))) (hq:=rfl)
  . grind
  have fe:fG (bz z) z.sets (k+1)=i:=by show mi _ _ _=_;rw[<-hj,hv2,vM];grind
  refine aP ?_
  by_cases hi0:i=0
  .
   have ff:=qA @hi0 ff;refine wE Tg (λc3=>?_) (λc3=>?_) (hok:=oS (k:=by first|trivial|(repeat' with_reducible apply And.intro)<;>first|exact(λ_=>wy _ _ (hn.2 _ hk2) (yP hn hi9))|omega|(intros;omega)|(intro h;simp at h;done)))
   .
    refine aA Tg ?_;refine aA Tg ?_;have hcc:fK (bz z) z.sets[k]!.set.name (fG (bz z) z.sets (k+1))=(bz z)[i-1]! := by rw[fe];simp only[fK];grind
    have ff:=qA (Ca hk2 hcc) ff;exact ax (k+1,i,rb,_) (h1:=⟨iv,iv,iv,fe.symm,iv⟩)
   refine wC Tg ?_;have hcc:fK (bz z) z.sets[k]!.set.name (fG (bz z) z.sets (k+1))=[]:=by rw[fe];simp only[fK];grind
   have ff:=qA (Cb hk2 hcc) ff;exact ax (k+1,i,rb,_) (h1:=⟨iv,iv,iv,fe.symm,iv⟩)
  have hi9:i-1<(bz z).length:=by omega
  have e1:((i:Int)-1).toNat=i-1:=by omega
  have ff:=qB @e1 (gu hi9) ff;refine wE Tg (λc3=>?_) (λc3=>?_) (hok:=oS (k:=by first|trivial|(repeat' with_reducible apply And.intro)<;>first|exact(λ_=>wy _ _ (hn.2 _ hk2) (yP hn hi9))|omega|(intros;omega)|(intro h;simp at h;done)))
  .
   refine aA Tg ?_;refine aA Tg ?_;have hcc:fK (bz z) z.sets[k]!.set.name (fG (bz z) z.sets (k+1))=(bz z)[i-1]! := by rw[fe];simp only[fK];grind
   have ff:=qA (Ca hk2 hcc) ff;exact ax (k+1,i,rb,_) (h1:=⟨iv,iv,iv,fe.symm,iv⟩)
  refine wC Tg ?_;have hcc:fK (bz z) z.sets[k]!.set.name (fG (bz z) z.sets (k+1))=[]:=by rw[fe];simp only[fK];grind
  have ff:=qA (Cb hk2 hcc) ff;exact ax (k+1,i,rb,_) (h1:=⟨iv,iv,iv,fe.symm,iv⟩)
 refine aP ?_
 have e9:k=z.sets.length:=by omega
 subst e9
 have tk:List.take z.sets.length ((ja (bz z) z.sets z.sets.length z.sets.length).map sR)=(ed z).map sR:=by rw[UN];exact Yg (by rw[Y8,ug];exact X3 _)
 have ff:=qB @tk (Fh (hs:=bz z) (l:=z.sets) (X3 z.sets.length)) ff
 refine ae Tg ?_
 exact oN (fin 1 (hr:=oR) (hk:=by(try simp only[go_sem,ff]);all_goals (exact ug _ _ _)))
def II(z:Zon):(ed z).length=z.sets.length:=ug _ _ _
def Lh(z:Zon):(wN z).length=z.sets.length:=pE _ _
def Vs(z:Zon)(hn:nP z):PureCt prog 25 [.agg z.d] (.b (pY z)):=by
 refine oO func25 λff=>?_
 unfold f25
 have hl:=hn.1
 have hbl:=II z
 refine ae Tg ?_
 refine ae Tg ?_ (hok:=oF (KI z hn))
 refine wA Tg ?_
 refine lq (Nat×Nat) [1,3] (λ⟨k,nx⟩=>(k<=z.sets.length/\aB z.sets.length (cutAt ⟨z,ed z⟩) 0=aB z.sets.length (cutAt ⟨z,ed z⟩) k/\0<nx,z.sets.length-k,[(4,.i k)],[(0,⟨24,[z.d]⟩)],nx)) (0,_) ?_
 rintro⟨k,nx⟩ ⟨hk,hv,hx⟩
 simp only[XX,XZ]
 have ff:=qA @hx ff
 refine oT Tg ?_ ?_<;>intro c1
 .
  have hk2:k<z.sets.length:=by simpa using c1
  have hk3:k<(ed z).length:=by omega
  have ff:=qB (bU hk2) (gu hk3) ff;refine wD ?_;refine oC Tg ?_;refine oK Tg ?_ ?_<;>intro c2
  . exact fr Tg (k:=by have hF:(cutAt ⟨z,ed z⟩) k=false:=(by simp only[cutAt];grind);simp only[pY,iB];rw[hv,dK hk2 hF];try simp)
  refine oK Tg ?_ ?_<;>intro c3
  . exact fr Tg (k:=by have hF:(cutAt ⟨z,ed z⟩) k=false:=(by simp only[cutAt];grind);simp only[pY,iB];rw[hv,dK hk2 hF];try simp)
  refine wE Tg ?_ ?_<;>intro c4
  . exact fr Tg (k:=by have hF:(cutAt ⟨z,ed z⟩) k=false:=(by simp only[cutAt];grind);simp only[pY,iB];rw[hv,dK hk2 hF];try simp)
  refine wC Tg ?_;have h8:(cutAt ⟨z,ed z⟩) k=true:=by simp only[cutAt];grind
  exact ax (k+1,_) (h1:=⟨iv,(by(try dsimp only);rw[hv,bC hk2 h8]),iv⟩)
 refine aP ?_
 exact fr Tg (k:=by simp only[pY,iB];rw[hv,iV (by omega)])
def Vp(z:Zon)(hn:nP z):PureCt prog 110 [.agg z.d] (.l ((wN z).map bR)):=by
 refine oO func110 λff=>?_
 unfold f110
 have hl:=hn.1
 have hbl:=II z
 refine ae Tg ?_
 refine ae Tg ?_ (hok:=oF (KI z hn))
 refine ae Tg ?_
 refine wA Tg ?_
 refine lq (Nat×Nat×Nat) [1,3] (λ⟨k,rb,nx⟩=>(k<=z.sets.length/\rb<nx/\0<rb,z.sets.length-k,[(4,.mrow rb 0 z.sets.length),(5,.i k)],[(0,⟨24,[z.d]⟩),(rb,⟨4,(jF ⟨z,ed z⟩ z.sets.length (k)).map bR⟩)],nx)) (0,8,_) ?_
 rintro⟨k,rb,nx⟩ ⟨hk,hx,hb0⟩
 simp only[XX,XZ]
 have n0:0<nx:=by omega
 have ff:=qD @hx @n0 (nH 0 rb) ff
 refine oT Tg ?_ ?_<;>intro c1
 .
  have hk2:k<z.sets.length:=by simpa using c1
  have hk3:k<(ed z).length:=by omega
  have ff:=qE (bU hk2) (gu hk3) (yj (x:=⟨z,ed z⟩) hk) (Dn (l:=jF ⟨z,ed z⟩ z.sets.length k) (n:=k) (by rw[yj hk];exact hk2)) ff
  refine wD ?_;refine ae Tg ?_;refine aA Tg ?_;refine aA Tg ?_;exact ax (k+1,rb,_) (h3:=by(try simp only[go_sem,ff]);all_goals (first|done|exact congrArg (λq=>some (av.mk 4 q)) (kQ hk2 (by simp only[eO];grind))|(simp;done))) (h4:=by(try simp only[go_sem,ff]);all_goals (first|done|exact congrArg (λq=>some (av.mk 4 q)) (kQ hk2 (by simp only[eO];grind))|(simp;done))) (h5:=by(try simp only[go_sem,ff]);all_goals (first|done|exact congrArg (λq=>some (av.mk 4 q)) (kQ hk2 (by simp only[eO];grind))|(simp;done)))
 refine aP ?_
 have e9:k=z.sets.length:=by omega
 subst e9
 have tk:List.take z.sets.length ((jF ⟨z,ed z⟩ z.sets.length (z.sets.length)).map bR)=(wN z).map bR:=by rw[Kn];exact Yg (by rw[Y8,pE];exact X3 _)
 have ff:=qB @tk (yj (x:=⟨z,ed z⟩) (X3 z.sets.length)) ff
 refine ae Tg ?_
 exact oN (fin 1 (hr:=oR) (hk:=by(try simp only[go_sem,ff]);all_goals (exact Lh z)))
def Vt(z:Zon)(hn:nP z):PureCt prog 26 [.agg z.d] (.b (qW z)):=by
 refine oO func26 λff=>?_
 unfold f26
 have hl:=hn.1
 have hbl:=II z
 have hol:=Lh z
 refine ae Tg ?_
 refine ae Tg ?_ (hok:=oF (Vp z hn))
 refine wA Tg ?_
 refine lq (Nat×Nat) [1,3] (λ⟨k,nx⟩=>(k<=z.sets.length/\aB z.sets.length (tJ ⟨z,ed z⟩) 0=aB z.sets.length (tJ ⟨z,ed z⟩) k/\0<nx,z.sets.length-k,[(4,.i k)],[(0,⟨24,[z.d]⟩)],nx)) (0,_) ?_
 rintro⟨k,nx⟩ ⟨hk,hv,hx⟩
 simp only[XX,XZ]
 have ff:=qA @hx ff
 refine oT Tg ?_ ?_<;>intro c1
 .
  have hk2:k<z.sets.length:=by simpa using c1
  have hk3:k<(wN z).length:=by omega
  have ho:(wN z)[k]! = eO ⟨z,ed z⟩ k:=Lg _ _ _ hk2;have ff:=qB (bU hk2) (Dn hk3) ff;refine wD ?_;refine wE Tg ?_ ?_ (hok:=jd @UD)<;>intro c2
  . exact fr Tg (k:=by have hF:(tJ ⟨z,ed z⟩) k=false:=(by simp only[tJ,ol,pW,eO]at *;grind);simp only[qW];rw[hv,dK hk2 hF];try simp)
  refine wC Tg ?_;have h8:(tJ ⟨z,ed z⟩) k=true:=by simp only[tJ,ol,pW,eO]at *;grind
  exact ax (k+1,_) (h1:=⟨iv,(by(try dsimp only);rw[hv,bC hk2 h8]),iv⟩)
 refine aP ?_
 exact fr Tg (k:=by simp only[qW];rw[hv,iV (by omega)])
def Vm(z:Zon):PureCt prog 7 [.agg z.d] (.b (nE z)):=by
 refine oO func7 λff=>?_
 unfold Tryz.f7
 refine ae Tg ?_
 exact fr Tg (hok:=oS (k:=by first|trivial|(repeat' with_reducible apply And.intro)<;>first|(intros;exact Vq z)|exact(λh=>Vn z (Cx (by simp_all)).1)|exact(λh=>Vo z (Cx (by simp_all)).1)|exact(λh=>Vs z (Cx (by simp_all)))|exact(λh=>Vt z (Cx (by simp_all)))|(intros;simp_all;done))) (k:=by simp[nE,Zq])
@[go_sem]theorem all_dat6{l:List Dat}:(∀r∈l.map Dat.d,r.length=3)=True:=by
 apply eq_true
 intro r hr
 obtain⟨x,_,rfl⟩:=Yh.1 hr
 rfl
def Bi(l:List Dat)(hl:l.length<=1000000):PureCt prog 39 [.l (l.map Dat.d)] (.l (l.map Dat.d)):=by
 refine oO func39 λff=>?_
 unfold f39
 refine ae Tg ?_
 refine aY ?_
 refine aY (DT ?_)
 refine Ke (C:=Tg) 1 (e:=91) om (oZ rfl) rfl rfl (by kernel_rfl) (by simp only[Yw,Yl,YD,Y0,S.put,Zn,go_sem,ff];exact rfl) ?_ (by rfl) ev (λy hy=>?_)
 .
  try simp only[go_sem,ff]
  all_goals (first|done|(repeat' (with_reducible apply And.intro))<;>first|omega|(with_reducible assumption)|(intros;omega)|(intros;simp only[XV,X4,Ya,XT,Yb,X7,Ym]at *;omega)|(simp_all;done)|(simp_all;omega))
 refine BZ (C:=Tg) (by first|decide|simp) (by simp only[Yw,Yl,YD,Y0,S.put,Zn,go_sem,ff];exact rfl) ?_ rfl ?_
 .
  try simp only[go_sem,ff]
  all_goals (first|done|(repeat' (with_reducible apply And.intro))<;>first|omega|(with_reducible assumption)|(intros;omega)|(intros;simp only[XV,X4,Ya,XT,Yb,X7,Ym]at *;omega)|(simp_all;done)|(simp_all;omega))
 try simp only[gz]
 refine ce ?_ ?_ (hq:=rfl)<;>intro c1
 . have hn:l=[]:=List.map_eq_nil_iff.1 (hy c1);subst hn;exact ft Tg (K:=1)
 refine dS ?_
 exact ft Tg (K:=1)
def Eg(l:List RSig)(hl:l.length<=1000000):PureCt prog 119 [.l (l.map RSig.d)] (.l (l.map RSig.d)):=by
 refine oO func119 λff=>?_
 unfold f119
 refine ae Tg ?_
 refine aY ?_
 refine aY (DT ?_)
 refine Ke (C:=Tg) 1 (e:=94) om (oZ rfl) rfl rfl (by kernel_rfl) (by simp only[Yw,Yl,YD,Y0,S.put,Zn,go_sem,ff];exact rfl) ?_ (by rfl) ev (λy hy=>?_)
 .
  try simp only[go_sem,ff]
  all_goals (first|done|(repeat' (with_reducible apply And.intro))<;>first|omega|(with_reducible assumption)|(intros;omega)|(intros;simp only[XV,X4,Ya,XT,Yb,X7,Ym]at *;omega)|(simp_all;done)|(simp_all;omega))
 refine BZ (C:=Tg) (by first|decide|simp) (by simp only[Yw,Yl,YD,Y0,S.put,Zn,go_sem,ff];exact rfl) ?_ rfl ?_
 .
  try simp only[go_sem,ff]
  all_goals (first|done|(repeat' (with_reducible apply And.intro))<;>first|omega|(with_reducible assumption)|(intros;omega)|(intros;simp only[XV,X4,Ya,XT,Yb,X7,Ym]at *;omega)|(simp_all;done)|(simp_all;omega))
 try simp only[gz]
 refine ce ?_ ?_ (hq:=rfl)<;>intro c1
 . have hn:l=[]:=List.map_eq_nil_iff.1 (hy c1);subst hn;exact ft Tg (K:=1)
 refine dS ?_
 exact ft Tg (K:=1)
def Ja(s:Sgd)(hs:yX s):PureCt prog 152 [.agg s.d] (.agg s.d):=by
 refine oO func152 λff=>?_
 unfold f152
 refine ae Tg ?_
 refine ae Tg ?_ (hok:=oS (k:=by exact Bi _ (Yx hs.1 om)))
 refine ae Tg ?_ (hok:=oS (k:=by exact Eg _ (Yx hs.2 om)))
 exact ft Tg (K:=2)
def QV(z:Zon)(q:Qst)(hf:iA z.sets):PureCt prog 77 [.agg z.d,.agg q.d] (.tuple [.agg (kZ z q).1.d,.b (kZ z q).2.1,.i (kZ z q).2.2]):=by
 refine oO func77 λff=>?_
 unfold f77
 refine ae Tg ?_
 refine oK Tg ?_ ?_ (hok:=oI QQ vQ)<;>intro c1
 . exact fr Tg (K:=2) (k:=by rw[kZ,if_neg (by simp only[Bool.and_eq_true];grind)];try rfl)
 refine ae Tg ?_ (hok:=oF (uq z q hf.1))
 refine oK Tg ?_ ?_<;>intro c2
 . exact fr Tg (K:=2) (k:=by rw[kZ,if_pos (by simp only[Bool.and_eq_true];grind),if_neg (by simp[c2])];try rfl)
 have h9:di z.sets q<z.sets.length:=by simp only[dN,XT,XV]at c2;exact c2.1
 have ff:=qA (bU h9) ff
 exact fr Tg (K:=2) (hok:=oH (Ja z.sets[di z.sets q]! (hf.2 _ h9))) (k:=by rw[kZ,if_pos (by simp only[Bool.and_eq_true];grind),if_pos c2];try rfl)
def Zcc(s:Sgd):PureCt prog 29 [.agg s.d] (.b (!decide (s.set.ty=8))):=by
 refine oO func29 λff=>?_
 unfold f29
 refine ae Tg ?_
 exact ft Tg
def Zb6(s:Sgd)(hs:yX s):PureCt prog 32 [.agg s.d] (.agg s.d):=by
 refine oO func32 λff=>?_
 unfold f32
 refine ae Tg ?_
 refine ae Tg ?_ (hok:=oS (k:=by exact Bi _ (Yx hs.1 om)))
 refine ae Tg ?_ (hok:=oS (k:=by exact Eg _ (Yx hs.2 om)))
 exact ft Tg (K:=2)
def ZbY(l:List Sgd)(hl:l.length<=1000000):PureCt prog 28 [.l (l.map Sgd.d),.fn (.func 29) [] []] (.l ((aS l).map Sgd.d)):=by
 refine oO func28 λff=>?_
 unfold f28
 refine oC Tg ?_
 refine aY ?_
 refine Ba 5 44 (by simp only[go_sem,ff]) (by simp only[go_sem,ff]) ?_
 refine ae Tg ?_
 refine dZ ?_
 refine lq (Nat×Nat×Nat) [1,8,9] (λ⟨k,r,nx⟩=>(k<=l.length/\r<nx,l.length-k,[(5,.mrow r 0 (lG l k).length),(10,.i k)],[(r,⟨44,(lG l k).map Sgd.d⟩)],nx)) (0,2,_) ?_
 rintro⟨k,r,nx⟩ ⟨hk,hr⟩
 simp only[XX,XZ]
 have hfl:=Tw l k
 have ff:=qA @hr ff
 refine wH Tg ?_ ?_<;>intro c1
 .
  have hk2:k<l.length:=by simpa using c1
  have ff:=qA (bU hk2) ff;refine wB ?_;refine ae Tg ?_;refine wE Tg ?_ ?_ (hok:=oF (Zcc l[k]!))<;>intro c2
  . refine aA Tg ?_;refine aA Tg ?_;have hst:=Tq hk2 c2;have ff:=qA hst ff;exact ax (k+1,(nx+11),_)
  refine wC Tg ?_;have hst:=Tt hk2 c2;have ff:=qA hst ff;exact ax (k+1,r,_)
 have e8:k=l.length:=by omega
 subst e8
 refine aP ?_
 exact fr Tg (K:=1) (k:=by rw[Tx])
@[go_sem]theorem keysOk_N{m:TM}:kg prog 9 (pQ m)=true:=by
 induction m with
 | nil=>rfl
 | cons p m ih=>rw[xe];simp only[kg,ih,ko9,ZW]
@[go_sem high] theorem ZfW {P:Program}[aa P] {t:TypeId}{k':IntKind}{b:Int}:cO P t .shl (.int .i64 1) (.int k' b)=(.int .i64 (Bn b),0<=b):=by rw[Qu];rfl
@[go_sem high] theorem binV_orX {P:Program}[aa P] {t:TypeId}{k k':IntKind}{a b:Int}:cO P t .or (.int k a) (.int k' b)=(.int k (pF k a b),k=k'):=by rw[FR];rfl
@[go_sem high] theorem ZfZ {P:Program}[aa P] {t:TypeId}{k k':IntKind}{a b:Int}:cO P t .and (.int k a) (.int k' b)=(.int k (Bp k a b),k=k'):=by rw[QF];rfl
@[go_sem high] theorem Zf0 {P:Program}[aa P] {t:TypeId}{k k':IntKind}{a b:Int}:cO P t .andNot (.int k a) (.int k' b)=(.int k (Et k a b),k=k'):=by rw[QG];rfl
def Zb5(z:Zon)(ns:List Str)(hz:aJ z=true)(hn:ns.length<=20000):PureCt prog 31 [.agg z.d,.l (ns.map sR)] (.l ((nextF z ns).map RSet.d)):=by
 refine oO func31 λff=>?_
 unfold f31
 have hll:=uT hz
 refine oD Tg ?_
 refine wA Tg ?_
 refine lq (Nat×Nat) [1,2,5,18,19] (λ⟨k,nx⟩=>(k<=z.sets.length/\4<nx,z.sets.length-k,[(6,.i (qK z.sets k)),(20,.i k)],[(0,⟨24,[z.d]⟩),(4,⟨175,gU (pQ (nz z.sets k))⟩)],nx)) (0,_) ?_
 rintro⟨k,nx⟩ ⟨hk,hx⟩
 simp only[XX,XZ]
 have n0:0<nx:=by omega
 have ff:=qB @hx @n0 ff
 refine wH Tg ?_ ?_<;>intro c1
 .
  have hk2:k<z.sets.length:=by simpa using c1
  have hso:=QS hz hk2;have hty:1<=z.sets[k]!.set.ty/\z.sets[k]!.set.ty<=8:=by(have h9:=hso.ty;simp only[aO,XT,XV]at h9;exact h9)
  have hd0:0<z.sets[k]!.set.data.length:=hso.len.1;have ff:=qD (bU hk2) (qU hd0) (Ru (l:=z.sets) (k:=k)) ff;refine wB ?_;refine oC Tg ?_;refine wE Tg ?_ ?_<;>intro c2
  . refine aA Tg ?_;refine aA Tg ?_;have hst:=Xk (l:=z.sets) (k:=k) c2;have ff:=qA hst ff;exact ax (k+1,_)
  refine wC Tg ?_;have hst:=Xl (l:=z.sets) (k:=k) c2;have ff:=qA hst ff;exact ax (k+1,_)
 have e8:k=z.sets.length:=by omega
 subst e8
 refine aP ?_
 refine H8 5 4 ev ev rfl Wq ?_
 have ff:=qA (nx_0 z ns) ff
 refine ae Tg ?_
 refine wA Tg ?_
 refine lq (Nat×Nat×Nat) [1,2,5,6,48,49] (λ⟨i,b,nx⟩=>(i<=ns.length/\b<nx/\0<b,ns.length-i,[(9,.mrow b 0 ns.length),(50,.i i)],[(0,⟨24,[z.d]⟩),(b,⟨41,kV z ns i⟩)],nx)) (0,(nx+3),_) ?_
 rintro⟨i,b,nx⟩ ⟨hi,hb,hb0⟩
 simp only[XX,XZ]
 have n0:0<nx:=by omega
 have hnl:=z8 z ns i
 have ff:=qD @hb @n0 (nH 0 b) ff
 refine wH Tg ?_ ?_<;>intro c3
 .
  have hi2:i<ns.length:=by simpa using c3
  obtain⟨j,hj⟩:∃j:Nat,j=(i+1) % ns.length:=⟨_,rfl⟩;have e5:((i:Int)+1) % (ns.length:Int)=(j:Int):=by rw[hj];exact(Int.natCast_emod (i+1) ns.length).symm
  have hi3:j<ns.length:=by rw[hj];exact Nat.mod_lt _ (by omega)
  have ff:=qE (gu hi2) @e5 (gu hi3) (Wn (z:=z) hi2) ff;refine wB ?_;refine oC Tg ?_;refine oK Tg ?_ ?_<;>intro c4
  .
   refine aA Tg ?_;refine ae Tg ?_;refine aA Tg ?_ (hok:=oS (k:=by(repeat' (with_reducible apply And.intro))<;>first|omega|(rw[z8];omega)|rfl|skip))
   refine aA Tg ?_;have ff:=qA (LH hi2 hj (ZaC c4)) ff;exact ax (i+1,b,_)
  refine ae Tg ?_;refine aA Tg ?_ (hok:=oS (k:=by(repeat' (with_reducible apply And.intro))<;>first|omega|(rw[z8];omega)|rfl|skip))
  refine aA Tg ?_;have ff:=qA (LH hi2 hj (ZaD c4)) ff;exact ax (i+1,b,_)
 have e8:i=ns.length:=by omega
 subst e8
 refine aP ?_
 refine Pn 9 b (rows:=kV z ns ns.length) (off:=0) (len:=ns.length) ev ev (by rw[z8];omega) (LJ _ _ _) ?_
 rw[Yl,Yg (by rw[z8];exact X3 _)]
 refine ae Tg ?_
 exact oN (fin 0 (hr:=oS (k:=by rw[Wo])) (hk:=by(try simp only[go_sem,ff]);all_goals (exact LJ z ns ns.length)))
def XO:Go.Shelf.Ren:={ f:=λx=>match x with|137=>135|217=>211|266=>248|n=>n,t:=λx=>match x with|9=>9|5=>5|3=>3|n=>n,g:=λn=>n }
def ixbS:Go.Proofs.Lays.n137 prog XO:={
 mixed:=by kernel_rfl
 f137:=func135.trans (by kernel_rfl)
 f217:=func211.trans (by kernel_rfl)
 f266:=func248.trans (by kernel_rfl)
 t3:=underlying3
 a3:=Tryz.isAgg3
 z3:=Tryz.sizeOf3
 v3:=Tryz.zeroValue3
 t5:=underlying5
 a5:=Tryz.isAgg5
 z5:=Tryz.sizeOf5
 v5:=Tryz.zeroValue5
 t9:=underlying9
 a9:=Tryz.isAgg9
 z9:=Tryz.sizeOf9
 v9:=Tryz.zeroValue9 }
def M0:Go.Shelf.Ren:={ f:=λx=>match x with|156=>246|165=>285|166=>286|169=>287|240=>301|241=>302|276=>315|277=>316|n=>n,t:=λx=>match x with|31=>62|9=>9|3=>3|4=>4|0=>0|20=>20|72=>342|76=>346|70=>340|37=>63|75=>345|127=>355|164=>365|5=>5|80=>200|n=>n,g:=λn=>n }
def Gv:Go.Proofs.Lays.n156 prog M0:={
 mixed:=by kernel_rfl
 f156:=func246.trans (by kernel_rfl)
 f165:=func285.trans (by kernel_rfl)
 f166:=func286.trans (by kernel_rfl)
 f169:=func287.trans (by kernel_rfl)
 f240:=func301.trans (by kernel_rfl)
 f241:=func302.trans (by kernel_rfl)
 f276:=func315.trans (by kernel_rfl)
 f277:=func316.trans (by kernel_rfl)
 t0:=underlying0
 a0:=Tryz.isAgg0
 z0:=Tryz.sizeOf0
 v0:=Tryz.zeroValue0
 t3:=underlying3
 a3:=Tryz.isAgg3
 z3:=Tryz.sizeOf3
 v3:=Tryz.zeroValue3
 t4:=underlying4
 a4:=Tryz.isAgg4
 z4:=Tryz.sizeOf4
 v4:=Tryz.zeroValue4
 t9:=underlying9
 a9:=Tryz.isAgg9
 z9:=Tryz.sizeOf9
 v9:=Tryz.zeroValue9
 t20:=underlying20
 a20:=Tryz.isAgg20
 z20:=Tryz.sizeOf20
 v20:=Tryz.zeroValue20
 t31:=underlying62
 a31:=Tryz.isAgg62
 z31:=Tryz.sizeOf62
 v31:=Tryz.zeroValue62
 t37:=underlying63
 a37:=Tryz.isAgg63
 z37:=Tryz.sizeOf63
 v37:=Tryz.zeroValue63
 t70:=underlying340
 a70:=Tryz.isAgg340
 z70:=Tryz.sizeOf340
 v70:=Tryz.zeroValue340
 t72:=underlying342
 a72:=Tryz.isAgg342
 z72:=Tryz.sizeOf342
 v72:=Tryz.zeroValue342
 t75:=underlying345
 a75:=Tryz.isAgg345
 z75:=Tryz.sizeOf345
 v75:=Tryz.zeroValue345
 t76:=underlying346
 a76:=Tryz.isAgg346
 z76:=Tryz.sizeOf346
 v76:=Tryz.zeroValue346
 t127:=underlying355
 a127:=Tryz.isAgg355
 z127:=Tryz.sizeOf355
 v127:=Tryz.zeroValue355
 t164:=underlying365
 a164:=Tryz.isAgg365
 z164:=Tryz.sizeOf365
 v164:=Tryz.zeroValue365 }
def M7(s:Str)(c:Int):PureCt prog 135 [.v (.string (bs s)),.v (.int .u8 c)] (.i (ixF s c)):=by
 refine⟨by kernel_rfl,by simp[D.nr],λw I vs hI hg hr=>?_⟩
 obtain⟨x,l,rfl,h1,h2⟩:=hr.of_cons
 obtain⟨y,l,rfl,h3,h4⟩:=h2.of_cons
 rw[h4.of_nil,h1.v_inv,h3.v_inv]
 have:=Go.Proofs.Any.strings_IndexByte ixbS (bs s) c w
 refine callsIn_wide.2 (this.mono ?_)
 rintro e w' ⟨rfl,rfl⟩
 refine⟨_,rfl,⟨rfl,rfl,rfl,X3 _,λ_=>X3 _,λ_ _=>rfl⟩,?_⟩
 rw[kz]
 exact .v _
def M5{s:Str}(h:(46:UInt8)∈s):PureCt prog 135 [.v (.string (bs s)),.v (.int .u8 46)] (.i (s.idxOf 46:Int)):=by
 have:=M7 s 46
 rwa [M9 h]at this
def M6{s:Str}(h : ¬(46:UInt8)∈s):PureCt prog 135 [.v (.string (bs s)),.v (.int .u8 46)] (.i (-1)):=by
 have:=M7 s 46
 rwa [Na h]at this
def Gu:Builder.Extra prog M0 where
 sizeBuilder:=by kernel_rfl
 liesBuilder:=by kernel_rfl
 t5:=underlying5
 a5:=Tryz.isAgg5
 z5:=Tryz.sizeOf5
 v5:=Tryz.zeroValue5
 infoByte:=by kernel_rfl
 cellsByte:=by kernel_rfl
 sizeByte:=by kernel_rfl
 neB5:=by decide
theorem Gw : ∀l:List Str,Go.Lib.join l [46]=fT l
 | []=>rfl
 | [p]=>Go.Lib.join_one _ _
 | p::q::r=>by
  rw[Go.Lib.join_cons,fT,<-Gw (q::r),Go.Lib.join_cons]
  simp[Go.Lib.joinTail]
def FZ(s:Str):PureCt prog 52 [.v (.string (bs s))] (.tuple [.v (.string (bs (kS s))),.i (if ai s then(if s=[46]then 4 else 0)else 11)]):=by
 refine oO func52 λff=>?_
 unfold f52
 refine oC Tg ?_
 refine oK Tg ?_ ?_ (hok:=oF (vU _))<;>intro c1
 . exact fr Tg (K:=1) (k:=by simp_all [kS,fD])
 refine oK Tg ?_ ?_<;>intro c2
 . exact fr Tg (K:=1) (k:=by simp_all [kS,fD])
 refine aY ?_
 have hsl:=gT (by simpa using c1)
 by_cases h46:(46:UInt8)∈s
 .
  have hix:=List.idxOf_lt_length_of_mem h46;have e1:((s.idxOf 46:Int)+1).toNat=s.idxOf 46+1:=by omega
  have ff:=qB (M9 h46) @e1 ff;refine ae Tg ?_ (hok:=oS (k:=by first|exact M5 h46|exact M6 h46))
  refine wG Tg ?_ ?_ (hq:=rfl)<;>intro c3
  . exact fr Tg (K:=1) (k:=by simp_all [kS,fD])
  simp at c3
 have ff:=qA (Na h46) ff
 refine ae Tg ?_ (hok:=oS (k:=by first|exact M5 h46|exact M6 h46))
 refine wG Tg ?_ ?_ (hq:=rfl)<;>intro c3
 . simp at c3
 refine dS ?_
 exact fr Tg (K:=1) (k:=by simp_all [kS,fD])
def MH(a:Str)(b:Str):PureCt prog 204 [.v (.string (bs a)),.v (.string (bs b))] (.i (mW a b)):=by
 refine oO func204 λff=>?_
 unfold f204
 refine ae Tg ?_
 refine ae Tg ?_ (hok:=oF (F8 _ _))
 exact ft Tg
def Gg(s:Str)(z:Str):PureCt prog 127 [.v (.string (bs s)),.v (.string (bs z))] (.b (dX s z)):=by
 refine oO func127 λff=>?_
 unfold f127
 refine ae Tg ?_
 refine ae Tg ?_ (hok:=oF (wU _ _))
 exact ft Tg
def QW(z:Zon)(s:Str):PureCt prog 12 [.agg z.d,.v (.string (bs s))] (.tuple [.v (.string (bs (fF z s).1)),.b (fF z s).2.1,.i (fF z s).2.2]):=by
 refine oO func12 λff=>?_
 unfold f12
 refine ae Tg ?_
 refine oK Tg ?_ ?_ (hok:=oI uU (vQ z))<;>intro c1
 . exact fr Tg (K:=1) (k:=by simp only[fF];rw[if_neg (by simp only[Bool.and_eq_true];grind)])
 have hn:ai s=true:=by grind
 have hz:aJ z=true:=by grind
 have ha:ai z.apex=true:=(yt.1 (by unfold aJ at hz;simp only[XT]at hz;exact hz.1.1.1.1.1)).apex
 refine aY ?_
 refine ae Tg ?_ (hok:=oF (wU _ _))
 refine wE Tg ?_ ?_<;>intro c2
 . exact fr Tg (K:=1) (k:=by simp only[fF];rw[X0 (by rw[hn,hz];rfl),XW (by have h9:=c2;unfold dX at h9;rw[hn,ha]at h9;simpa using h9)])
 have hu:under s z.apex=true:=by have h9:=c2;unfold dX at h9;rw[hn,ha]at h9;simpa using h9
 refine dS ?_
 refine ae Tg ?_
 refine wA Tg ?_
 refine lq (Str×Nat) [2,9] (λ⟨m,nx⟩=>(ai m=true/\bF m z.apex/\bO z s=bO z m/\25<nx,(bq m).length,[(10,.v (.string (bs m)))],[(0,⟨24,[z.d]⟩),(25,⟨110,[z.d]⟩)],nx)) (s,_) ?_ (hA:=⟨hn,((zD hn ha).1 hu),rfl,iv⟩)
 rintro⟨m,nx⟩ ⟨hmo,hmu,hmc,hx⟩
 simp only[XX,XZ]
 have n0:0<nx:=by omega
 have ff:=qB @hx @n0 ff
 refine oL Tg ?_ ?_<;>intro c3
 .
  refine wD ?_;refine ae Tg ?_ (hok:=oH (uq z ⟨m,2⟩ (uT hz)));refine wG Tg ?_ ?_ (hq:=rfl)<;>intro c4
  . exact fr Tg (K:=1) (k:=by simp only[fF];rw[X0 (by rw[hn,hz];rfl),X0 hu,hmc,PV c3 (by simpa using c4)])
  have hf:dN z.sets ⟨m,2⟩=false:=by simpa using c4
  obtain⟨hr,Ar⟩:=vT hmo hmu c3;have hpf:kS m=fD m:=by unfold kS;rw[hmo,YY.2 hr];rfl
  have ff:=qA @hpf ff;refine wC Tg ?_ (hok:=oV (FZ m));exact ax (fD m,_) (h1:=⟨((nL hmo hr).1),Ar,(by(try dsimp only);exact hmc.trans (PT hmo hmu c3 hf).1),iv⟩) (h2:=by show(_:Nat)<_;exact(PT hmo hmu c3 hf).2)
 refine aP ?_
 exact fr Tg (K:=1) (k:=by simp only[fF];rw[X0 (by rw[hn,hz];rfl),X0 hu,hmc,Zcj c3])
def I5(z:Zon):PureCt prog 30 [.agg z.d] (.tuple [.l ((if aJ z then bf z else[]).map sR),.i (if aJ z then 0 else 1)]):=by
 refine oO func30 λff=>?_
 unfold f30
 refine ae Tg ?_
 refine oK Tg ?_ ?_ (hok:=oF (vQ z))<;>intro c1
 . exact fr Tg (K:=2) (k:=by rw[show aJ z=false by simpa using c1];rfl)
 have hz:aJ z=true:=by simpa using c1
 have hbl:(aN z).b.length=z.sets.length:=En z
 have hll:=uT hz
 refine ae Tg ?_ (hok:=oF (EA z (uT hz)))
 refine ae Tg ?_
 refine aY ?_
 refine Ba 5 9 (by simp only[go_sem,ff]) (by simp only[go_sem,ff]) ?_
 refine ae Tg ?_
 refine dZ ?_
 refine lq (Nat×Nat×Nat) [4,18,19] (λ⟨k,r,nx⟩=>(k<=z.sets.length/\r<nx/\9<r,z.sets.length-k,[(5,.mrow r 0 (dH (aN z) (k)).length),(20,.i k)],[(0,⟨24,[z.d]⟩),(9,⟨187,[(aN z).d]⟩),(r,⟨9,(dH (aN z) (k)).map sR⟩)],nx)) (0,12,_) ?_
 rintro⟨k,r,nx⟩ ⟨hk,hr,hr0⟩
 simp only[XX,XZ]
 have n0:9<nx:=by omega
 have hnl:=F5 (aN z) k
 have ff:=qF @hr @n0 (nH 0 9) (nH 0 r) (nH 9 r) ff
 refine wH Tg ?_ ?_<;>intro c2
 .
  have hk2:k<z.sets.length:=by simpa using c2
  have hk3:k<(aN z).b.length:=by omega
  have ff:=qB (bU hk2) (gu hk3) ff;refine wB ?_;refine oC Tg ?_;refine oK Tg ?_ ?_<;>intro c3
  .
   refine aP ?_;refine aA Tg ?_;have hst:=WB (x:=aN z) (k:=k) (λh9=>by unfold wX at h9;exact h9.elim c3.1 c3.2)
   have ff:=qA hst ff;exact ax (k+1,r,_)
  by_cases hl0:(dH (aN z) (k)).length=0
  .
   have hl9:(dH (aN z) (k))=[]:=Ye hl0;have ff:=qB @hl0 @hl9 ff;refine wG Tg ?_ ?_<;>intro c4
   .
    refine aA Tg ?_;refine aA Tg ?_;have hst:=L8 (x:=aN z) (k:=k) (show wX (aN z) k from c3) (by simp only[CR];first|exact .inl hl0|grind)
    have ff:=qA hst ff;exact ax (k+1,(nx+42),_)
   refine wC Tg ?_;have hst:=L6 (x:=aN z) (k:=k) (by simp only[CR];grind)
   have ff:=qA hst ff;exact ax (k+1,r,_)
  have hl1:(dH (aN z) (k)).length-1<(dH (aN z) (k)).length:=by omega
  have e1:(((dH (aN z) (k)).length:Int)-1).toNat=(dH (aN z) (k)).length-1:=by omega
  have e2:(((dH (aN z) (k)).length:Int)==0)=false:=by rw[YY];omega
  have ff:=qD @e1 @e2 (gu hl1) ff;refine wG Tg ?_ ?_<;>intro c4
  .
   refine aA Tg ?_;refine aA Tg ?_;have hst:=L8 (x:=aN z) (k:=k) (show wX (aN z) k from c3) (by simp only[CR];first|exact .inl hl0|grind)
   have ff:=qA hst ff;exact ax (k+1,(nx+42),_)
  refine wC Tg ?_;have hst:=L6 (x:=aN z) (k:=k) (by simp only[CR];grind)
  have ff:=qA hst ff;exact ax (k+1,r,_)
 have e8:k=z.sets.length:=by omega
 subst e8
 refine aP ?_
 exact fr Tg (K:=2) (k:=by rw[hz];rfl)
end Go.Proofs.YtdcenbhgholncaaGreatDoor
