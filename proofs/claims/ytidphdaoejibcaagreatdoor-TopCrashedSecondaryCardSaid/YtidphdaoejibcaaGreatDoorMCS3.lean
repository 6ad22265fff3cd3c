/-
  MANY TEXTS OF MINE IN ONE (a claim has a limit of files): Ztr, Zts, Upd, Upe, Upf, To, DFrame, DFoot, DSh, DFs, DGrow, DSl, DPan, DDrawC, DSg, DRec. Conditions: none.
-/
import Derived.Lib.SliceRun
import Derived.KernelRfl
import Derived.Shelf.Spec.SlicesGrow
import Derived.BigFrame
import Derived.Lib.Overlaps
import Derived.RecoverIn
import Derived.Laws.Externs
import Derived.Test.YtidphdaoejibcaaGreatDoorMCS2
set_option linter.unusedVariables false
set_option linter.unusedSimpArgs false
set_option linter.unusedSectionVars false
set_option linter.defProp false
set_option linter.unnecessarySimpa false
namespace Go.Zon
open Go.DL Go.Str Go.Rec Go.Cmp
theorem _root_.o5u{p:Prop}(h:p:=by simp only[bnd];omega):p:=h
theorem _root_.o4d{p:Prop}(h:p:=by rw[getD_set (by omega),hk1];simp;exact λh=>hne h.symm):p:=h
theorem _root_.o2k{p:Prop}(h:p:=by simp only[X9,X6,X5,Ye,S.put,Yq,Nat.reduceSub,Nat.reduceAdd,go_sem,ff];exact rfl):p:=h
structure gU where
 has:Bool
 zone:Zon
 seen:Int
 deriving Inhabited,DecidableEq
structure Off where
 full:Bool
 zone:Zon
 deltas:List aG
 deriving Inhabited,DecidableEq
def kz(n:Int):List D:=[.i n]
def kz.of:List D->Int
 | [.v (.int _ n)]=>n
 | _=>0
def boD(b:Bool):List D:=[.b b]
def boD.of:List D->Bool
 | [.v (.bool b)]=>b
 | _=>false
def gU.d(x:gU):List D:=[.b x.has,.v (.string (bs x.zone.apex)),.list false (x.zone.sets.map Sgd.d),.i x.seen]
def gU.of:List D->gU
 | [.v (.bool b),.v (.string s),.list _ r,.v (.int _ n)]=>⟨b,⟨s.data.toList,r.map Sgd.of⟩,n⟩
 | _=>default
def Off.d(x:Off):List D:=[.b x.full,.v (.string (bs x.zone.apex)),.list false (x.zone.sets.map Sgd.d),.list false (x.deltas.map aG.d)]
def Off.of:List D->Off
 | [.v (.bool b),.v (.string s),.list _ r,.list _ q]=>⟨b,⟨s.data.toList,r.map Sgd.of⟩,q.map aG.of⟩
 | _=>default
def sW:D->gU:=sG gU.of default
def vE:D->Off:=sG Off.of default
def Wj:D->List aG:=wX aG.of
def mr:D->List Zon:=wX Zon.of
attribute [go_sem] gU.d Off.d
def Zfc(x:Zon):Zon.of x.d=x:=by simp[Zon.of,Zon.d,uf,kW Da]
@[go_sem]theorem Zmp{f:Bool}{l:List aG}:Wj (.list f (l.map aG.d))=l:=kW Zfe l
@[go_sem]theorem Zaf{f:Bool}{l:List Zon}:mr (.list f (l.map Zon.d))=l:=kW Zfc l
def sec1_agg{s:ByteArray}{f b:Bool}{k:IntKind}{n:Int}{rows:List (List D)}:sW (.agg [.v (.bool b),.v (.string s),.list f rows,.v (.int k n)])=⟨b,⟨s.data.toList,fA (.list f rows)⟩,n⟩:=rfl
def off1_agg{s:ByteArray}{f f' b:Bool}{rows q:List (List D)}:vE (.agg [.v (.bool b),.v (.string s),.list f rows,.list f' q])=⟨b,⟨s.data.toList,fA (.list f rows)⟩,Wj (.list f' q)⟩:=rfl
def sec_eta{x:gU}:(⟨x.has,x.zone,x.seen⟩:gU)=x:=rfl
def off_eta{x:Off}:(⟨x.full,x.zone,x.deltas⟩:Off)=x:=rfl
attribute[go_sem]sec1_agg off1_agg sec_eta off_eta
def rY{l:List Zon}{n:Nat}(h:n<l.length):(l.map Zon.d).getD n []=[.v (.string (bs l[n]!.apex)),.list false (l[n]!.sets.map Sgd.d)]:=by
 simp[List.getD,h,Zon.d,getElem!_pos]
def JE{l:List aG}{n:Nat}(h:n<l.length):(l.map aG.d).getD n []=[.v (.string (bs l[n]!.apex)),.i l[n]!.frm,.i l[n]!.too,.list false (l[n]!.drop.map ak.d),.list false (l[n]!.put.map Sgd.d)]:=by
 simp[List.getD,h,aG.d,getElem!_pos]
@[go_sem]theorem Zfp{l:List Zon}:bq (l.map Zon.d)=true:=by
 induction l with
 | nil=>rfl
 | cons x l ih=>simp only[X8,bq,ih,Zon.d,bC,D.nr,Db];rfl
@[go_sem]theorem Zfr{l:List aG}:bq (l.map aG.d)=true:=by
 induction l with
 | nil=>rfl
 | cons x l ih=>simp only[X8,bq,ih,aG.d,bC,D.nr,Db,Tg];rfl
@[go_sem]theorem Tf{l:List Int}:bq (l.map kz)=true:=by
 induction l with
 | nil=>rfl
 | cons x l ih=>simp only[X8,bq,ih,kz,bC,D.nr];rfl
@[go_sem]theorem wkr_zon{l:List Zon}:eG (l.map Zon.d)=l.map Zon.d:=by
 induction l with
 | nil=>rfl
 | cons x l ih=>simp only[X8,eG,ih,Zon.d,eB,wk,Pi]
@[go_sem]theorem wkr_dlt{l:List aG}:eG (l.map aG.d)=l.map aG.d:=by
 induction l with
 | nil=>rfl
 | cons x l ih=>simp only[X8,eG,ih,aG.d,eB,wk,Pi,Zax]
@[go_sem]theorem wkr_zint{l:List Int}:eG (l.map kz)=l.map kz:=by
 induction l with
 | nil=>rfl
 | cons x l ih=>simp only[X8,eG,ih,kz,eB,wk]
def wI:gU:=⟨false,dH,0⟩
def C9:Off:=⟨false,dH,[]⟩
def Bi(z:Zon):Bool:=decide (z.apex=[])&&decide (z.sets.length=0)
def lS(s:gU):Bool:=decide (0<=s.seen)&&decide (s.seen<=10000000)&&(if s.has then aJ s.zone else Bi s.zone)
def wQ(o:Off)(i:Nat):Bool:=fU o.deltas[i]! && (decide (i=0)||(decide (o.deltas[i]!.apex=o.deltas[i-1]!.apex)&&decide (o.deltas[i]!.frm=o.deltas[i-1]!.too)))
def kI(o:Off):Bool:=if o.full then aJ o.zone&&decide (o.deltas.length=0)else Bi o.zone&&decide (o.deltas.length<=20000)&&aA o.deltas.length (wQ o) 0
def uk(l:List Zon)(i:Nat):Bool:=aJ l[i]! && decide (l[i]!.apex=l[0]!.apex)
def u7(l:List Zon)(i:Nat):Bool:=decide (i=0)||gZ (aM l[i-1]!) (aM l[i]!)
def sO(l:List Zon):Bool:=aA l.length (uk l) 0&&aA l.length (u7 l) 0
def uj(l:List Zon):List Int×Bool:=if sO l then(l.map aM,true)else([],false)
def nJ(p:Nat->Bool):Nat->Int
 | 0=>-1
 | k+1=>if p k then k else nJ p k
def xm(l:List Zon)(has:Bool)(n:Int):Int:=if has then nJ (λi=>decide (aM l[i]! = n)) l.length else -1
def jR(l:List Zon)(i:Nat):aG:=(lh l[i]! l[i+1]!).1
def jQ(l:List Zon)(f k:Nat):List aG:=(List.range' f k).map (jR l)
def zD(l:List Zon)(f:Int):Off:=if f<0 then⟨true,l[l.length-1]!,[]⟩else⟨false,dH,jQ l f.toNat (l.length-1-f.toNat)⟩
def jW(l:List Zon)(has:Bool)(n:Int):Off×Int :=
 if 20000<l.length\/(has=true/\(n<0\/65536<=n))then(C9,1)else if sO l=false then(C9,1)else if l.length=0 then(C9,4)else(zD l (xm l has n),0)
def qP(s:gU)(z:Zon):Int:=if s.has=false then 0 else if aM s.zone=aM z then(if s.zone=z then 0 else 35)else if gZ (aM s.zone) (aM z)then 0 else 23
def nu(z:Zon)(l:List aG):Nat->Zon×Int
 | 0=>(z,0)
 | k+1=>if(nu z l k).2≠0 then nu z l k else eD (nu z l k).1 l[k]!
def oQ(o:Off):Str×Bool:=if o.full then(o.zone.apex,true)else if 0<o.deltas.length then(o.deltas[0]!.apex,true)else([],false)
def kR(s:gU)(o:Off)(t:Int):gU×Int :=
 if lS s=false\/kI o=false\/t<s.seen\/10000000<t then(wI,1)else if s.has=true/\(oQ o).2=true/\(oQ o).1≠s.zone.apex then(wI,1)else
 if s.has=false/\o.full=false then(wI,6)else
 if o.full=true then(if qP s o.zone≠0 then(wI,qP s o.zone)else(⟨true,o.zone,t⟩,0))else
 if(nu s.zone o.deltas o.deltas.length).2≠0 then(wI,(nu s.zone o.deltas o.deltas.length).2)else(⟨true,(nu s.zone o.deltas o.deltas.length).1,t⟩,0)
def xN(s:gU):Int:=if s.has then aM s.zone else 0
def lW(s:gU)(l:List Zon)(t:Int):gU×Int :=
 if lS s=false then(wI,1)else if(jW l s.has (xN s)).2≠0 then(wI,(jW l s.has (xN s)).2)else kR s (jW l s.has (xN s)).1 t
theorem Zjb(l:List Zon)(f k:Nat):jQ l f (k+1)=jQ l f k++[jR l (f+k)]:=by
 unfold jQ
 rw[List.range'_concat,YT];simp
theorem Ak(l:List Zon)(f k:Nat):(jQ l f k).length=k:=by simp[jQ]
theorem Gt{l:List Zon}{f k i:Nat}(h:i<k):(jQ l f k)[i]! = jR l (f+i):=by
 rw[getElem!_pos _ i (by rw[Ak];exact h)]
 simp[jQ]
def lstIx_0{p:Nat->Bool}:nJ p 0 = -1:=rfl
def difTo_0{l:List Zon}{f:Nat}:jQ l f 0=[]:=rfl
attribute[go_sem]lstIx_0 difTo_0
def TP{p:Nat->Bool}{k:Nat}(h:p k=true):nJ p (k+1)=k:=by simp[nJ,h]
theorem TQ{p:Nat->Bool}{k:Nat}(h:p k=false):nJ p (k+1)=nJ p k:=by simp[nJ,h]
theorem MK(p:Nat->Bool):∀n,(nJ p n = -1 /\ ∀i,i<n->p i=false) \/ ∃k,nJ p n=(k:Nat)/\k<n/\p k=true /\ ∀i,k<i->i<n->p i=false
 | 0=>.inl ⟨rfl,λi h=>by omega⟩
 | n+1=>by
  cases h:p n with
  | true=>exact .inr ⟨n,TP h,om,h,λi h1 h2=>by omega⟩
  | false =>
   rw[TQ h]
   rcases MK p n with⟨e,k⟩|⟨k,e,h1,h2,h3⟩
   .
    refine .inl ⟨e,λi hi=>?_⟩
    by_cases q:i=n
    . subst q;exact h
    exact k i om
   refine .inr ⟨k,e,om,h2,λi h4 h5=>?_⟩
   by_cases q:i=n
   . subst q;exact h
   exact h3 i h4 om
theorem ZkE{z:Zon}{l:List aG}{k:Nat}(h:(nu z l k).2≠0):nu z l (k+1)=nu z l k:=X3 h
theorem OW{z:Zon}{l:List aG}{k:Nat}(h:(nu z l k).2=0):nu z l (k+1)=eD (nu z l k).1 l[k]! := XV (λq=>q h)
theorem XN{z:Zon}{l:List aG}{k:Nat}(h:(nu z l k).2≠0):∀n,k<=n->nu z l n=nu z l k
 | 0,hn=>by rw[show k=0 from by omega]
 | n+1,hn=>by
  by_cases e:k=n+1
  . rw[e]
  have ih:=XN h n (by omega)
  rw[ZkE (by rw[ih];exact h),ih]
structure pQ(l:List Zon):Prop where
 ok : ∀i,i<l.length->aJ l[i]! = true
 apex : ∀i,i<l.length->l[i]!.apex=l[0]!.apex
 bef : ∀i,i+1<l.length->gZ (aM l[i]!) (aM l[i+1]!)=true
def KP{l:List Zon}:sO l=true↔pQ l:=by
 unfold sO
 rw[XU,eF,eF]
 have hv : ∀i,uk l i=true↔(aJ l[i]! = true/\l[i]!.apex=l[0]!.apex):=by intro i;simp[uk]
 have hs : ∀i,u7 l i=true↔(i=0\/gZ (aM l[i-1]!) (aM l[i]!)=true):=by intro i;simp[u7]
 constructor
 . rintro⟨h1,h2⟩;exact⟨λi hi=>((hv i).1 (h1 i (Yi _) hi)).1,λi hi=>((hv i).1 (h1 i (Yi _) hi)).2,λi hi=>by simpa using((hs (i+1)).1 (h2 (i+1) (Yi _) hi)).resolve_left om⟩
 intro h
 refine⟨λi _ hi=>(hv i).2 ⟨h.ok i hi,h.apex i hi⟩,λi _ hi=>(hs i).2 ?_⟩
 by_cases e:i=0
 . exact .inl e
 right
 have:=h.bef (i-1) om
 rwa [show i-1+1=i from by omega]at this
def pQ.diff{l:List Zon}(h:pQ l){i:Nat}(hi:i+1<l.length):lh l[i]! l[i+1]! = (dD l[i]! l[i+1]!,0) :=
 Zja (h.ok i om) (h.ok _ hi) ((h.apex i om).trans (h.apex _ hi).symm) (h.bef i hi)
def pQ.apply{l:List Zon}(h:pQ l){i:Nat}(hi:i+1<l.length):eD l[i]! (jR l i)=(l[i+1]!,0):=by
 unfold jR
 rw[h.diff hi]
 exact Zks (h.ok i om) (h.ok _ hi) ((h.apex i om).trans (h.apex _ hi).symm) (h.bef i hi)
theorem pQ.app{l:List Zon}(h:pQ l){f n:Nat}(hn:f+n+1<=l.length):∀k,k<=n->nu l[f]! (jQ l f n) k=(l[f+k]!,0)
 | 0,_=>rfl
 | k+1,hk=>by
  have ih:=h.app hn k (by omega)
  rw[OW (by rw[ih]),ih,Gt (by omega)]
  exact h.apply om
def pQ.dok{l:List Zon}(h:pQ l){i:Nat}(hi:i+1<l.length):jR l i=dD l[i]! l[i+1]! /\ fU (jR l i)=true:=by
 have e:jR l i=dD l[i]! l[i+1]! := by unfold jR;rw[h.diff hi]
 exact⟨e,by rw[e];exact yJ.2 (WK (h.ok i (by omega)) (h.ok _ hi) ((h.apex i (by omega)).trans (h.apex _ hi).symm) (h.bef i hi))⟩
theorem pQ.off{l:List Zon}(h:pQ l)(hl:l.length<=20000){f n:Nat}(hn:f+n+1<=l.length):kI ⟨false,dH,jQ l f n⟩=true:=by
 unfold kI
 rw[XV (by simp)]
 simp only[XU,XW,Ak]
 refine⟨⟨rfl,om⟩,(eF _ _ _).2 λi _ hi=>?_⟩
 unfold wQ
 simp only[XU,Yc,XW]
 rw[Gt hi]
 refine⟨(h.dok om).2,?_⟩
 by_cases e:i=0
 . exact .inl e
 right
 rw[Gt (by omega:i-1<n),(h.dok (i:=f+i) (by omega)).1,(h.dok (i:=f+(i-1)) (by omega)).1,show f+(i-1)+1=f+i from by omega]
 exact⟨(h.apex _ om).trans (h.apex _ om).symm,rfl⟩
def Q8{s:gU}(hs:s.has=true):lS s=true↔(0<=s.seen/\s.seen<=10000000)/\aJ s.zone=true:=by
 unfold lS;rw[X3 hs];simp
theorem Zdo:lS wI=true:=by decide
def Zex{l:List Zon}(h:pQ l)(hl:l.length<=20000){f:Nat}(hf:f<l.length){s:gU}(hs:lS s=true)(hh:s.has=true)(hz:s.zone=l[f]!)(hu : ∀i,f<i->i<l.length->aM l[i]! ≠ aM l[f]!){t:Int}(h1:s.seen<=t)(h2:t<=10000000) :
  jW l true (aM s.zone)=(⟨false,dH,jQ l f (l.length-1-f)⟩,0)/\kR s ⟨false,dH,jQ l f (l.length-1-f)⟩ t=(⟨true,l[l.length-1]!,t⟩,0)/\lW s l t=(⟨true,l[l.length-1]!,t⟩,0):=by
 have hv:=KP.2 h
 have hzo:=h.ok f hf
 have Dv:iB (aM l[f]!)=true:=ze hzo
 have hx:nJ (λi=>decide (aM l[i]! = aM l[f]!)) l.length=f:=by
  rcases MK (λi=>decide (aM l[i]! = aM l[f]!)) l.length with⟨_,k⟩|⟨k,e,k1,k2,k3⟩
  . exact absurd (k f hf) (by simp)
  rw[e];have : ¬k<f:=λq=>by have:=k3 f q hf;simp at this
  have : ¬f<k:=λq=>hu k q k1 (YN k2)
  omega
 have e:jW l true (aM s.zone)=(⟨false,dH,jQ l f (l.length-1-f)⟩,0):=by
  unfold jW;rw[hz,XV (by simp only[iB,XU,XW]at Dv;rintro (q|⟨_,q|q⟩)<;>omega),XV (by simp[hv]),XV (by omega)]
  unfold xm;rw[X3 rfl,hx];unfold zD;rw[XV (by omega)]
  simp
 have ho:=h.off hl (f:=f) (n:=l.length-1-f) (by omega)
 have ha:=h.app (f:=f) (n:=l.length-1-f) (by omega) _ (XX _)
 rw[show f+(l.length-1-f)=l.length-1 from by omega]at ha
 have et:kR s ⟨false,dH,jQ l f (l.length-1-f)⟩ t=(⟨true,l[l.length-1]!,t⟩,0):=by
  unfold kR;rw[XV (by rw[hs,ho];simp;omega),XV,XV (by simp[hh]),XV (by simp)]
  . simp only[Ak,hz,ha];rw[XV (by simp)]
  rintro⟨_,h3,h4⟩;unfold oQ at h3 h4;rw[XV (by simp)]at h3 h4
  by_cases q:0<(jQ l f (l.length-1-f)).length
  .
   rw[X3 q]at h4;rw[Ak]at q;rw[Gt q,(h.dok (by omega)).1,hz]at h4
   exact h4 rfl
  rw[XV q]at h3;cases h3
 refine⟨e,et,?_⟩
 unfold lW
 rw[XV (by rw[hs];simp),show xN s=aM s.zone from X3 hh,hh,e,XV (by simp)]
 exact et
end Go.Zon
namespace Go.Zon
open Go.DL Go.Str Go.Rec Go.Cmp
def UI{d:aG}(h:fU d=false):rV d d=(qV,1):=by unfold rV;rw[X3 (.inl h)]
def UH{d:aG}(h:fU d=true):rV d d=(qV,23):=by
 unfold rV
 rw[XV o3r,X3]
 have hd:=yJ.1 h
 exact .inl (OP hd.bef hd.too)
def pQ.difv{l:List Zon}(h:pQ l){i:Nat}(hi:i+1<l.length):lh l[i]! l[i+1]! = (jR l i,0):=by rw[(h.dok hi).1];exact h.diff hi
def fOrT(b:Bool):b=false\/b=true:=by cases b<;>simp
theorem UR{n:Nat}:((n:Int)==0)=decide (n=0):=by
 rw[YL];simp
theorem Zfx(z:Zon):(z.apex==[]&&((z.sets.length:Int)==0))=Bi z:=by
 unfold Bi
 rw[UR]
 cases z.apex<;>simp
theorem Zdq(a b:Sgd):(a.set.name==b.set.name&&a.set.ty==b.set.ty&&a.set.life==b.set.life&&kM a.set.data b.set.data&&xq a.sigs b.sigs)=lw a b:=by
 obtain⟨⟨a1,a2,a3,a4⟩,a5⟩:=a
 obtain⟨⟨b1,b2,b3,b4⟩,b5⟩:=b
 rw[YL]
 simp[lw,kM,xq,and_assoc]
theorem Zai(a b:Zon):(a.apex==b.apex&&sZ a.sets b.sets)=mG a b:=by
 obtain⟨a1,a2⟩:=a
 obtain⟨b1,b2⟩:=b
 rw[YL]
 simp[mG,sZ]
def Ny{l:List Zon}{n:Nat}(h:n<l.length):((l.map aM).map kz).getD n []=[.i (aM l[n]!)]:=by
 simp[List.getD,h,kz,getElem!_pos]
theorem KQ{l:List Zon}(h:sO l=true):uj l=(l.map aM,true):=by unfold uj;rw[X3 h]
theorem Px{l:List Zon}(h:sO l=false):uj l=([],false):=by unfold uj;rw[XV (by rw[h];exact Bool.noConfusion)]
theorem ZaF{l:List Zon}(h1:aA l.length (uk l) 0=true)(h2:aA l.length (u7 l) 0=true):uj l=(l.map aM,true):=KQ (by unfold sO;rw[h1,h2];rfl)
theorem Pw{l:List Zon}(h:aA l.length (uk l) 0=false\/aA l.length (u7 l) 0=false):uj l=([],false):=Px (by unfold sO;rcases h with h|h<;>rw[h]<;>simp)
def BZ(l:List Zon)(b:Bool)(n:Int):xm l b n<(l.length:Int)\/l.length=0:=by
 unfold xm
 split
 .
  rcases MK (λi=>decide (aM l[i]! = n)) l.length with⟨e,_⟩|⟨k,e,h,_⟩
  . rw[e];omega
  rw[e];omega
 omega
def Lx{s:gU}(h:lS s=true)(hh:s.has=true):aJ s.zone=true:=((Q8 hh).1 h).2
def Zfa{o:Off}(h:kI o=true)(hf:o.full=true):aJ o.zone=true:=by
 unfold kI at h
 rw[X3 hf,XU]at h
 exact h.1
def Zfb{o:Off}(h:kI o=true):o.deltas.length<=20000:=by
 unfold kI at h
 split at h
 . simp only[XU,XW]at h;omega
 simp only[XU,XW]at h;exact h.1.2
def ZcW{l:List Zon}{b:Bool}{n:Int}{x:Off}{e:Int}(h:jW l b n=(x,e)):∀i,i<x.deltas.length->fO x.deltas[i]!.put:=by
 intro i hi
 unfold jW at h
 repeat' split at h
 . cases h;simp[C9]at hi
 . cases h;simp[C9]at hi
 . cases h;simp[C9]at hi
 rename_i q1 q2 q3
 cases h
 have hv:=KP.1 (by simpa using q2:sO l=true)
 unfold zD at hi ⊢
 split
 . rename_i q;rw[X3 q]at hi;simp at hi
 rename_i q
 rw[XV q]at hi
 have hlt:=BZ l b n
 simp only[Ak]at hi
 rw[Gt hi,(hv.dok (by omega)).1]
 exact LZ (sJ (hv.ok _ om))
section
variable {s : gU} {o : Off} {t : Int} (p1 : ¬(lS s = false \/ kI o = false \/ t < s.seen \/ 10000000 < t)) (p2 : ¬(s.has = true /\ (oQ o).2 = true /\ (oQ o).1 ≠ s.zone.apex)) (p3 : ¬(s.has = false /\ o.full = false))
include p1 p2 p3
end
def KJ:D->List Zon
 | .eptr [x]=>mr x
 | _=>[]
@[go_sem]theorem zonsc1_e{x:D}:KJ (.eptr [x])=mr x:=rfl
theorem take_ok{s:gU}{o:Off}{t:Int}{x:gU}(h:kR s o t=(x,0)):lS s=true/\kI o=true/\s.seen<=t/\t<=10000000:=by
 unfold kR at h
 split at h
 . cases h
 rename_i k
 refine⟨?_,?_,?_,?_⟩
 . cases q:lS s with|true=>rfl|false=>exact absurd (.inl q) k
 . cases q:kI o with|true=>rfl|false=>exact absurd (.inr (.inl q)) k
 . exact Int.not_lt.1 λq=>k (.inr (.inr (.inl q)))
 exact Int.not_lt.1 λq=>k (.inr (.inr (.inr q)))
theorem Zh0{s:gU}{z:Zon}(hh:s.has=true)(h:z=s.zone):qP s z=0:=by
 unfold qP;rw[XV (by simp[hh]),h,X3 rfl,X3 rfl]
theorem Zh2{s:gU}{z:Zon}(hh:s.has=true)(h:gZ (aM s.zone) (aM z)=true):qP s z=0:=by
 unfold qP
 rw[XV (by simp[hh]),XV (by intro e;rw[e]at h;unfold gZ at h;simp at h),X3 h]
theorem Zh3{s:gU}{z:Zon}(hh:s.has=true)(h:aM s.zone=aM z)(hn:z≠s.zone):qP s z=35:=by
 unfold qP
 rw[XV (by simp[hh]),X3 h,XV λq=>hn q.symm]
theorem Zh1{s:gU}{z:Zon}(hh:s.has=true)(h:aM s.zone≠aM z)(hb:gZ (aM s.zone) (aM z)=false):qP s z=23:=by
 unfold qP
 rw[XV (by simp[hh]),XV h,XV (by simp[hb])]
def take_none{z:Zon}(hz:aJ z=true){t:Int}(h1:0<=t)(h2:t<=10000000):kR wI ⟨true,z,[]⟩ t=(⟨true,z,t⟩,0):=by
 have ho:kI ⟨true,z,[]⟩=true:=by unfold kI;rw[X3 rfl,hz];rfl
 unfold kR
 rw[XV (by rw[Zdo,ho];rintro (q|q|q|q);cases q;cases q;exact absurd q (by show ¬t<0;omega);omega),XV (by rintro⟨q,_⟩;cases q),XV (by rintro⟨_,q⟩;cases q),X3 rfl,XV (by rw[show qP wI z=0 from rfl];exact λq=>q rfl)]
end Go.Zon
namespace Go.Zon
open Go.DL Go.Str Go.Rec Go.Cmp
structure Chg where
 kind:Int
 set:RSet
 deriving Inhabited,DecidableEq
structure Upd where
 needs:List Chg
 chgs:List Chg
 deriving Inhabited,DecidableEq
def Chg.q(c:Chg):ak:=⟨c.set.name,c.set.ty⟩
def Chg.d(x:Chg):List D:=[.i x.kind,.v (.string (bs x.set.name)),.i x.set.ty,.i x.set.life,.list false (x.set.data.map Dat.d)]
def Chg.of:List D->Chg
 | [.v (.int _ k),.v (.string s),.v (.int _ t),.v (.int _ l),.list _ rows]=>⟨k,⟨s.data.toList,t,l,rows.map Dat.of⟩⟩
 | _=>default
def Upd.d(x:Upd):List D:=[.list false (x.needs.map Chg.d),.list false (x.chgs.map Chg.d)]
def Upd.of:List D->Upd
 | [.list _ a,.list _ b]=>⟨a.map Chg.of,b.map Chg.of⟩
 | _=>default
def yN:D->Chg:=sG Chg.of default
def GH:D->List Chg:=wX Chg.of
def AB:D->Upd:=sG Upd.of default
attribute [go_sem] Chg.d Upd.d
theorem SY(x:Chg):Chg.of x.d=x:=by simp[Chg.of,Chg.d,uf,kW E5]
@[go_sem]theorem ZmI{f:Bool}{l:List Chg}:GH (.list f (l.map Chg.d))=l:=kW SY l
def ZmH{f:Bool}:GH (.list f [])=[]:=rfl
def chg1_agg{s:ByteArray}{k t l:Int}{k1 k2 k3:IntKind}{f:Bool}{rows:List (List D)}:yN (.agg [.v (.int k1 k),.v (.string s),.v (.int k2 t),.v (.int k3 l),.list f rows])=⟨k,⟨s.data.toList,t,l,nW (.list f rows)⟩⟩:=rfl
def upd1_agg{f f':Bool}{a b:List (List D)}:AB (.agg [.list f a,.list f' b])=⟨GH (.list f a),GH (.list f' b)⟩:=rfl
def chg_eta{x:Chg}:(⟨x.kind,x.set⟩:Chg)=x:=rfl
def upd_eta{x:Upd}:(⟨x.needs,x.chgs⟩:Upd)=x:=rfl
attribute[go_sem]ZmH chg1_agg upd1_agg chg_eta upd_eta
def DI{l:List Chg}{n:Nat}(h:n<l.length):(l.map Chg.d).getD n []=[.i l[n]!.kind,.v (.string (bs l[n]!.set.name)),.i l[n]!.set.ty,.i l[n]!.set.life,.list false (l[n]!.set.data.map Dat.d)]:=by
 simp[List.getD,h,Chg.d,getElem!_pos]
@[go_sem]theorem Zft{l:List Chg}:bq (l.map Chg.d)=true:=by
 induction l with
 | nil=>rfl
 | cons x l ih=>simp only[X8,bq,ih,Chg.d,bC,D.nr,oU];rfl
@[go_sem]theorem Zay{l:List Chg}:eG (l.map Chg.d)=l.map Chg.d:=by
 induction l with
 | nil=>rfl
 | cons x l ih=>simp only[X8,eG,ih,Chg.d,wk,eB,ui]
@[go_sem]theorem all_chg{l:List Chg}:(∀r∈l.map Chg.d,r.length=5)=True:=by
 apply eq_true
 intro r hr
 obtain⟨x,_,rfl⟩:=Yt.1 hr
 rfl
def jf(n:Chg):Bool:=az n.set.name&&(if n.kind=1\/n.kind=2 then true else if n.kind=3\/n.kind=4 then aW n.set.ty 1 8 else if n.kind=5 then fB n.set else false)
def gB(c:Chg):Bool:=az c.set.name&&(if c.kind=1\/c.kind=2 then fB c.set && !decide (c.set.ty=8)else if c.kind=3 then aW c.set.ty 1 8 else decide (c.kind=4))
def jU(u:Upd):Bool:=decide (u.needs.length<=20)&&decide (u.chgs.length<=20)&&aA u.needs.length (λi=>jf u.needs[i]!) 0&&aA u.chgs.length (λi=>gB u.chgs[i]!) 0
def xR(l:List Sgd)(i:Nat):Bool:=!(decide (0<l[i]!.sigs.length)||decide (l[i]!.set.ty=8))
def jG(z:Zon):Bool:=aA z.sets.length (xR z.sets) 0
def notAt(l:List Sgd)(n:Str)(i:Nat):Bool:=!(l[i]!.set.name==n)
def I5(z:Zon)(n:Str):Bool:=!aA z.sets.length (notAt z.sets n) 0
def holdB(z:Zon)(n:Chg):Bool :=
 if n.kind=1 then I5 z n.set.name else if n.kind=2 then !I5 z n.set.name else
 if n.kind=4 then decide (dQ z.sets n.q<0)else decide (0<=dQ z.sets n.q)&&(decide (n.kind=3)||decide (z.sets[(dQ z.sets n.q).toNat]!.set.data=n.set.data))
def o6:List Dat->List Dat->List Dat
 | [],b=>b
 | x::a,[]=>x::a
 | x::a,y::b=>if less x y then x::o6 a (y::b)else if x=y then y::o6 a b else y::o6 (x::a) b
termination_by a b=>a.length+b.length
def Bo(b:List Dat)(x:Dat):Nat->Bool
 | 0=>false
 | k+1=>Bo b x k||decide (x=b[k]!)
def zK(a b:List Dat):Nat->List Dat
 | 0=>[]
 | k+1=>if Bo b a[k]! b.length=true then zK a b k else zK a b k++[a[k]!]
def leftD(a b:List Dat):List Dat:=zK a b a.length
theorem TH(b:List Dat)(x:Dat):∀k,k<=b.length->(Bo b x k=true↔x∈b.take k)
 | 0,_=>by simp[Bo]
 | k+1,hk=>by
  rw[rE! (by omega)]
  unfold Bo;rw[Yc,TH b x k (by omega),XW,Yx,Yo]
theorem ZfU(b:List Dat)(x:Dat):Bo b x b.length=decide (x∈b):=by
 rw[YL,TH b x _ (XX _),Yn,XW]
theorem Ue(a b:List Dat):∀k,k<=a.length->zK a b k=(a.take k).filter λx=>!decide (x∈b)
 | 0,_=>by simp[zK]
 | k+1,hk=>by
  rw[rE! (by omega),List.filter_append,<-Ue a b k (by omega)]
  have e:zK a b (k+1)=if Bo b a[k]! b.length=true then zK a b k else zK a b k++[a[k]!]:=rfl;rw[e,ZfU];generalize a[k]! = x
  by_cases h:x∈b<;>simp[h]
def Zgm(a b:List Dat):leftD a b=a.filter λx=>!decide (x∈b):=by
 unfold leftD
 rw[Ue a b _ (XX _),Yn]
theorem ZfM(a:List Dat):o6 a []=a:=by cases a<;>simp[o6]
theorem ZfN(b:List Dat):o6 [] b=b:=by simp[o6]
theorem ZfL : ∀(n:Nat)(a b:List Dat),a.length+b.length<=n->jT dZ a->jT dZ b->jT dZ (o6 a b) /\ ∀x,x∈o6 a b↔x∈a\/x∈b:=by
 intro n
 induction n with
 | zero =>
  intro a b h ha hb
  cases a with
  | nil=>simp[o6];exact hb
  | cons x a=>simp at h
 | succ n ih =>
  intro a b h ha hb
  cases a with
  | nil=>rw[ZfN];exact⟨hb,λx=>by simp⟩
  | cons x a =>
   cases b with
   | nil=>rw[ZfM];exact⟨ha,λx=>by simp⟩
   | cons y b =>
    simp only[YS]at h;have ha':=YF.1 ha;have hb':=YF.1 hb;unfold o6;rw[MN]
    split
    .
     rename_i hl
     have hl:=YN hl;obtain⟨h1,h2⟩:=ih a (y::b) (by simp;omega) ha'.2 hb
     refine⟨YF.2 ⟨λz hz=>?_,h1⟩,λz=>?_⟩
     .
      rcases(h2 z).1 hz with k|k
      . exact ha'.1 z k
      rcases Ym.1 k with k|k
      . rw[k];exact hl
      exact tY.le_lt (Int.le_of_lt hl) (hb'.1 z k)
     simp only[List.mem_cons,h2];grind
    rename_i hl
    have hl : ¬dZ x y<0:=λk=>hl (YE k)
    split
    .
     rename_i he
     subst he;obtain⟨h1,h2⟩:=ih a b om ha'.2 hb'.2;refine⟨YF.2 ⟨λz hz=>?_,h1⟩,λz=>?_⟩
     .
      rcases(h2 z).1 hz with k|k
      . exact ha'.1 z k
      exact hb'.1 z k
     simp only[List.mem_cons,h2];grind
    rename_i he
    have hyx:dZ y x<0:=by
     have h3:=tY.anti x y;have h4:dZ x y≠0:=λe=>he (WH e)
     omega
    obtain⟨h1,h2⟩:=ih (x::a) b (by simp;omega) ha hb'.2
    refine⟨YF.2 ⟨λz hz=>?_,h1⟩,λz=>?_⟩
    .
     rcases(h2 z).1 hz with k|k
     .
      rcases Ym.1 k with k|k
      . rw[k];exact hyx
      exact tY.le_lt (Int.le_of_lt hyx) (ha'.1 z k)
     exact hb'.1 z k
    simp only[List.mem_cons,h2];grind
def CF(s:Sgd):Bool->List Sgd->List Sgd
 | b,[]=>if b then[]else[s]
 | b,x::l=>(if 0<=lU x.set s.set/\b=false then[s]else[])++((if lU x.set s.set≠0 then[x]else[])++CF s (b||decide (0<=lU x.set s.set)) l)
def Aw(z:Zon)(s:Sgd):Zon:=⟨z.apex,CF s false z.sets⟩
def Ph(z:Zon)(k:Nat):Zon:=⟨z.apex,z.sets.take k++z.sets.drop (k+1)⟩
def zH(l:List Sgd)(n:Str):Nat->List Sgd
 | 0=>[]
 | k+1=>if l[k]!.set.name=n then zH l n k else zH l n k++[l[k]!]
def Dh(z:Zon)(c:Chg):Zon :=
 if c.kind=4 then⟨z.apex,zH z.sets c.set.name z.sets.length⟩else
 if c.kind=1 then Aw z ⟨{ c.set with data:=if 0<=dQ z.sets c.q/\c.set.ty≠3/\c.set.ty≠4 then o6 z.sets[(dQ z.sets c.q).toNat]!.set.data c.set.data else c.set.data },[]⟩else
 if dQ z.sets c.q<0 then z else
 if c.kind=2/\0<(leftD z.sets[(dQ z.sets c.q).toNat]!.set.data c.set.data).length then Aw z ⟨{ z.sets[(dQ z.sets c.q).toNat]!.set with data:=leftD z.sets[(dQ z.sets c.q).toNat]!.set.data c.set.data },[]⟩else
 Ph z (dQ z.sets c.q).toNat
def xJ(y:Zon)(c:Chg):Option Zon:=if(c.kind=4/\c.set.name=y.apex)\/aJ (Dh y c)=false then none else some (Dh y c)
def tZ(z:Zon)(l:List Chg):Nat->Option Zon
 | 0=>some z
 | k+1=>(tZ z l k).bind λy=>xJ y l[k]!
def yM(z:Zon)(l:List Chg):Option Zon:=tZ z l l.length
theorem GK{z:Zon}{l:List Chg}{k:Nat}(h:tZ z l k=none):∀n,k<=n->tZ z l n=none
 | 0,hn=>by rw[show k=0 from by omega]at h;exact h
 | n+1,hn=>by
  by_cases e:k=n+1
  . rw[<-e];exact h
  show(tZ z l n).bind _=none
  rw[GK h n (by omega)]
  rfl
theorem GJ{z y:Zon}{l:List Chg}{k:Nat}(h:tZ z l k=some y):tZ z l (k+1)=xJ y l[k]! := by
 show(tZ z l k).bind _=_
 rw[h]
 rfl
def wR(n:Int):Int:=(n+1) % 65536
def Zca(z:Zon):Int:=dQ z.sets ⟨z.apex,4⟩
def gG(z:Zon):Sgd:=z.sets[(Zca z).toNat]!
def OH(y:Zon):Zon:=Aw y ⟨{ (gG y).set with data:=[⟨[],wR (gG y).set.data[0]!.n,(gG y).set.data[0]!.m⟩] },[]⟩
def vX(z y:Zon):Zon:=if mG y z=false/\lw (gG y) (gG z)=true then OH y else y
def kP(z:Zon)(l:List Chg):Bool:=!aA l.length (λi=>iq l[i]!.set.name z.apex) 0
def wS(z:Zon)(l:List Chg):Bool:=aA l.length (λi=>holdB z l[i]!) 0
def fJ(z:Zon)(u:Upd):Zon×Int :=
 if aJ z=false\/jU u=false then(dH,1)else if jG z=false then(dH,12)else if kP z u.needs=true\/kP z u.chgs=true then(dH,20)else
 if wS z u.needs=false then(dH,24)else match yM z u.chgs with|none=>(dH,6)|some y=>(vX z y,0)
structure mq(y z:Zon):Prop where
 apex:y.apex=z.apex
 len:y.sets.length=z.sets.length
 q : ∀i,i<z.sets.length->y.sets[i]!.q=z.sets[i]!.q
 sigs : ∀i,i<z.sets.length->y.sets[i]!.sigs=z.sets[i]!.sigs
 ok : ∀i,i<z.sets.length->fB y.sets[i]!.set=fB z.sets[i]!.set
theorem mq.nm{y z:Zon}(h:mq y z){i:Nat}(hi:i<z.sets.length):y.sets[i]!.set.name=z.sets[i]!.set.name:=congrArg ak.name (h.q i hi)
theorem mq.ty{y z:Zon}(h:mq y z){i:Nat}(hi:i<z.sets.length):y.sets[i]!.set.ty=z.sets[i]!.set.ty:=congrArg ak.ty (h.q i hi)
theorem Zgh{y z:Zon}(h:mq y z)(p:ak):∀n k,z.sets.length-k<=n->rW y.sets p k=rW z.sets p k:=by
 intro n
 induction n with
 | zero=>intro k hk;rw[vL,vL z.sets,XV (by rw[h.len];omega),XV (by omega)]
 | succ n ih =>
  intro k hk;rw[vL,vL z.sets,h.len]
  by_cases e:k<z.sets.length
  . rw[X3 e,X3 e,h.q k e,ih (k+1) (by omega)]
  rw[XV e,XV e]
theorem TY{y z:Zon}(h:mq y z)(p:ak):dQ y.sets p=dQ z.sets p:=Zgh h p _ 0 (XX _)
theorem Zgf{y z:Zon}(h:mq y z):mK y=mK z:=by
 unfold mK
 rw[h.apex,h.len]
 congr 1
 refine GR λi hi=>?_
 have h1:lU y.sets[i-1]!.set y.sets[i]!.set=lU z.sets[i-1]!.set z.sets[i]!.set:=by
  rw[Iz,Iz,h.q i hi,h.q (i-1) (by omega)]
 unfold uA
 rw[h.ok i hi,h.nm hi,h1]
theorem Zgd{y z:Zon}(h:mq y z):rA y=rA z:=by
 unfold rA
 rw[TY h,TY h,h.apex,h.len]
 congr 1
 refine GR λi hi=>?_
 unfold qQ
 rw[h.nm hi,h.ty hi]
theorem TZ{y z:Zon}(h:mq y z):∀k,k<=z.sets.length->iQ y.sets k=iQ z.sets k
 | 0,_=>rfl
 | k+1,hk=>by
  unfold iQ;rw[h.ty (by omega:k<_),h.nm (by omega:k<_),TZ h k (by omega)]
theorem Zge{y z:Zon}(h:mq y z):nA y=nA z:=by
 unfold nA
 rw[h.len]
 refine GR λi hi=>?_
 have hp:kT y.sets i=kT z.sets i:=by
  unfold kT;rw[h.nm hi,h.nm (by omega:i-1<_)]
 unfold kD
 rw[hp,h.ty hi,TZ h (i+1) (by omega)]
theorem TU{y z:Zon}(h:mq y z):∀k,k<=z.sets.length->lL y k=lL z k
 | 0,_=>rfl
 | k+1,hk=>by
  unfold lL;rw[h.ty (by omega:k<_),h.nm (by omega:k<_),TU h k (by omega),h.apex]
theorem Zgi{y z:Zon}(h:mq y z):bY y=bY z:=by
 unfold bY gX
 rw[h.len,TU h _ (XX _)]
theorem T9{y z:Zon}(h:mq y z)(hs:List Str):∀k,k<=z.sets.length->iJ hs y.sets k=iJ hs z.sets k
 | 0,_=>rfl
 | k+1,hk=>by
  unfold iJ;rw[h.nm (by omega:k<_),T9 h hs k (by omega)]
theorem TV{y z:Zon}(h:mq y z)(hs:List Str):∀k,k<=z.sets.length->mi hs y.sets k=mi hs z.sets k
 | 0,_=>rfl
 | k+1,hk=>by
  unfold mi;rw[h.nm (by omega:k<_),TV h hs k (by omega),T9 h hs (k+1) hk]
theorem TW{y z:Zon}(h:mq y z):gI y=gI z:=by
 unfold gI
 rw[Zgi h,h.len,TV h _ _ (XX _)]
theorem Zgj{y z:Zon}(h:mq y z):si y=si z:=by
 unfold si qY
 rw[TW h,h.len]
 refine GR λi hi=>?_
 simp only[cutAt,h.nm hi,h.ty hi]
theorem Zgk{y z:Zon}(h:mq y z):tV y=tV z:=by
 unfold tV
 rw[TW h,h.len]
 refine GR λi hi=>?_
 simp only[xk,sj,vR,h.ty hi,h.sigs i hi,h.apex]
theorem Zgg{y z:Zon}(h:mq y z):aJ y=aJ z:=by
 rw[sK,sK]
 unfold jl
 rw[Zgf h,Zgd h,Zge h,Zgj h,Zgk h]
def jY(l:List Sgd)(s:Sgd):List Sgd:=l.filter (λx=>decide (sp x s<0))++s::l.filter (λx=>decide (0<sp x s))
def Nms(l:List Sgd):Prop:=∀s∈l,az s.set.name=true
theorem Li{x s:Sgd}:sp x s=0↔x.q=s.q:=zm
def HV(x s:Sgd):sp x s<0↔0<sp s x:=by
 have:=mh.anti x s
 omega
def LY{l:List Sgd}(h:fq l)(s:Sgd):fq (jY l s):=by
 unfold jY
 refine Zf.2 ⟨h.filter _,YF.2 ⟨λx hx=>?_,h.filter _⟩,λx hx y hy=>?_⟩
 . have:=(Zr.1 hx).2;exact(HV s x).2 (YN this)
 have hx:=YN (Zr.1 hx).2
 rcases Ym.1 hy with e|e
 . rw[e];exact hx
 have hy:=YN (Zr.1 e).2
 exact mh.le_lt (Int.le_of_lt hx) ((HV s y).2 hy)
def AY{l:List Sgd}{s x:Sgd}:x∈jY l s↔x=s\/(x∈l/\x.q≠s.q):=by
 unfold jY
 rw[Yx,Ym,Zr,Zr,XW,XW]
 have h1:x.q≠s.q↔sp x s<0\/0<sp x s:=by
  rw[Ne,<-Li];omega
 rw[h1]
 grind
theorem Zev{l:List Sgd}(h:fq l)(s:Sgd)(q:ak):fC (jY l s) q=if s.q=q then some s else fC l q:=by
 by_cases e:s.q=q
 . rw[X3 e,<-e];exact vG (LY h s) (AY.2 (.inl rfl))
 rw[XV e]
 cases hq:fC l q with
 | none =>
  refine Df.2 λx hx=>?_
  rcases AY.1 hx with k|k
  . rw[k];exact e
  exact Df.1 hq x k.1
 | some x =>
  obtain⟨h1,h2⟩:=Bn hq;rw[<-h2];exact vG (LY h s) (AY.2 (.inr ⟨h1,by rw[h2];exact λk=>e k.symm⟩))
def RH{x s:Sgd}(hx:az x.set.name=true)(hs:az s.set.name=true):lU x.set s.set=sp x s:=by
 rw[Iz]
 exact zn hx hs
theorem Pk{s:Sgd}(hs:az s.set.name=true):∀{l:List Sgd},Nms l->CF s true l=l.filter λx=>!decide (sp x s=0)
 | [],_=>rfl
 | x::l,hn=>by
  have h1:=RH (hn x (by simp)) hs
  have h2:=Pk hs (l:=l) (λy hy=>hn y (List.mem_cons_of_mem _ hy))
  simp only[CF,Bool.true_or,h1,h2]
  by_cases e:sp x s=0<;>simp[e]
theorem Hd{s:Sgd}(hs:az s.set.name=true):∀{l:List Sgd},Nms l->fq l->CF s false l=jY l s
 | [],_,_=>rfl
 | x::l,hn,ho=>by
  have h1:=RH (hn x (by simp)) hs
  have hn':Nms l:=λy hy=>hn y (by simp[hy])
  have ho':=YF.1 ho;simp only[CF,Bool.false_or,h1]
  by_cases e:sp x s<0
  .
   rw[Y8 (by omega),Hd hs hn' ho'.2]
   have e2 : ¬(0<=sp x s):=by omega
   have e3:sp x s≠0:=by omega
   have e4 : ¬0<sp x s:=by omega
   simp[jY,e,e2,e3,e4]
  have hgt : ∀y∈l,0<sp y s:=λy hy=>by
   have h2:=ho'.1 y hy;have h3:sp s x<=0:=by have:=mh.anti x s;omega
   exact(HV s y).1 (mh.le_lt h3 h2)
  have f1:l.filter (λx=>decide (sp x s<0))=[]:=List.filter_eq_nil_iff.2 λy hy=>by have:=hgt y hy;simp;omega
  have f2:l.filter (λx=>decide (0<sp x s))=l:=Y1.2 λy hy=>YE (hgt y hy)
  have f3:l.filter (λx=>!decide (sp x s=0))=l:=Y1.2 λy hy=>by have:=hgt y hy;simp;omega
  have e2:0<=sp x s:=by omega
  rw[YE e2,Pk hs hn',f3];unfold jY;rw[List.filter_cons,List.filter_cons,f1,f2]
  by_cases e0:sp x s=0
  . simp[e0]
  have e4:0<sp x s:=by omega
  simp[e,e0,e2,e4]
theorem R8{l:List Sgd}(s:Sgd):(jY l s).length<=l.length+1:=by
 unfold jY
 have h1 : ∀l:List Sgd,(l.filter λx=>decide (sp x s<0)).length+(l.filter λx=>decide (0<sp x s)).length<=l.length:=by
  intro l
  induction l with
  | nil=>simp
  | cons x l ih =>
   rw[List.filter_cons,List.filter_cons]
   by_cases a:sp x s<0
   .
    have b : ¬0<sp x s:=by omega
    simp[a,b];omega
   by_cases b:0<sp x s<;>simp[a,b]<;>omega
 have:=h1 l
 simp;omega
def R7{A B:List Sgd}{s:Sgd}(hA : ∀x∈A,sp x s<0)(hB : ∀x∈B,0<sp x s):jY (A++B) s=A++s::B:=by
 unfold jY
 rw[List.filter_append,List.filter_append,Y1.2 λx hx=>YE (hA x hx),List.filter_eq_nil_iff.2 λx hx=>(by have:=hB x hx;simp;omega : ¬decide (sp x s<0)=true),
  List.filter_eq_nil_iff.2 λx hx=>(by have:=hA x hx;simp;omega : ¬decide (0<sp x s)=true),Y1.2 λx hx=>YE (hB x hx)]
 simp
def SE{A B:List Sgd}{o:Sgd}(h:fq (A++o::B)):(∀x∈A,sp x o<0)/\(∀x∈B,0<sp x o)/\fq (A++B):=by
 unfold fq jT at h ⊢
 rw[Zf,YF]at h
 obtain⟨h1,⟨h2,h3⟩,h4⟩:=h
 exact⟨λx hx=>h4 x hx o (by simp),λx hx=>(HV o x).1 (h2 x hx),Zf.2 ⟨h1,h3,λx hx y hy=>h4 x hx y (by simp[hy])⟩⟩
def Zeu{A B:List Sgd}{o s:Sgd}(h:fq (A++o::B))(hq:o.q=s.q):jY (A++o::B) s=A++s::B:=by
 obtain⟨h1,h2,_⟩:=SE h
 have hs : ∀x,sp x o=sp x s:=λx=>by unfold sp;rw[hq]
 have e:=R7 (s:=s) (λx hx=>by rw[<-hs];exact h1 x hx) (λx hx=>by rw[<-hs];exact h2 x hx)
 rw[<-e]
 unfold jY
 have h0:sp o s=0:=Li.2 hq
 simp[List.filter_append,List.filter_cons,h0]
def Am(l:List Sgd)(q:ak):List Sgd:=l.filter λx=>!decide (x.q=q)
def Zjj{l:List Sgd}{q:ak}{x:Sgd}:x∈Am l q↔x∈l/\x.q≠q:=by
 unfold Am
 rw[Zr]
 simp
def Zji{A B:List Sgd}{o:Sgd}{q:ak}(h:fq (A++o::B))(hq:o.q=q):Am (A++o::B) q=A++B:=by
 obtain⟨h1,h2,_⟩:=SE h
 have hne : ∀x,sp x o≠0->x.q≠q:=λx k e=>k (Li.2 (e.trans hq.symm))
 unfold Am
 rw[List.filter_append,List.filter_cons,XV (by simp[hq]),Y1.2 λx hx=>(by have:=hne x (by have:=h1 x hx;omega);simp[this]),Y1.2 λx hx=>(by have:=hne x (by have:=h2 x hx;omega);simp[this])]
def cut_at{α:Type}[Inhabited α]{l:List α}{k:Nat}(hk:k<l.length):l=l.take k++l[k]! :: l.drop (k+1):=by
 rw[getElem!_pos l k hk,List.getElem_cons_drop,Y7]
theorem R9{l:List Sgd}(h:fq l){k:Nat}(hk:k<l.length){s:Sgd}(hq:l[k]!.q=s.q):jY l s=l.take k++s::l.drop (k+1):=by
 have e:=cut_at hk
 have h':=h
 rw[e]at h'
 conv=>lhs;rw[e]
 exact Zeu h' hq
theorem Wu{l:List Sgd}(h:fq l){k:Nat}(hk:k<l.length){q:ak}(hq:l[k]!.q=q):Am l q=l.take k++l.drop (k+1):=by
 have e:=cut_at hk
 have h':=h
 rw[e]at h'
 conv=>lhs;rw[e]
 exact Zji h' hq
theorem Zet{l:List Sgd}(h:fq l){s:Sgd}(hs:s∈l):jY l s=l:=by
 refine ZeZ (LY h s) h λq=>?_
 rw[Zev h]
 split
 . rename_i e;rw[<-e];exact(vG h hs).symm
 rfl
def Kt(o:Option Sgd)(c:Chg):List Dat:=match o with
 | some x=>if c.set.ty≠3/\c.set.ty≠4 then o6 x.set.data c.set.data else c.set.data
 | none=>c.set.data
def kJ(l:List Sgd)(c:Chg):List Sgd :=
 if c.kind=4 then l.filter (λx=>!decide (x.set.name=c.set.name))else
 if c.kind=1 then jY l ⟨{ c.set with data:=Kt (fC l c.q) c },[]⟩else
 match fC l c.q with
 | none=>l
 | some o=>if c.kind=2/\leftD o.set.data c.set.data≠[]then jY l ⟨{ o.set with data:=leftD o.set.data c.set.data },[]⟩else Am l c.q
theorem TC(l:List Sgd)(n:Str):∀k,k<=l.length->zH l n k=(l.take k).filter λx=>!decide (x.set.name=n)
 | 0,_=>by simp[zH]
 | k+1,hk=>by
  rw[rE! (by omega),List.filter_append,<-TC l n k (by omega)]
  have e:zH l n (k+1)=if l[k]!.set.name=n then zH l n k else zH l n k++[l[k]!]:=rfl;rw[e];generalize l[k]! = x
  by_cases h:x.set.name=n<;>simp[h]
theorem MJ{z:Zon}(h:oh z){c:Chg}(hc:az c.set.name=true):Dh z c=⟨z.apex,kJ z.sets c⟩:=by
 unfold Dh kJ
 by_cases h4:c.kind=4
 . rw[X3 h4,X3 h4,TC _ _ _ (XX _),Yn]
 rw[XV h4,XV h4]
 have hg:=KD z.sets c.q
 by_cases h1:c.kind=1
 .
  rw[X3 h1,X3 h1];unfold Aw;have hd:(if 0<=dQ z.sets c.q/\c.set.ty≠3/\c.set.ty≠4 then o6 z.sets[(dQ z.sets c.q).toNat]!.set.data c.set.data else c.set.data)=Kt (fC z.sets c.q) c:=by
   rw[hg]
   by_cases e:dQ z.sets c.q<0
   . rw[X3 e,XV (by omega)];rfl
   rw[XV e];unfold Kt
   by_cases e2:c.set.ty≠3/\c.set.ty≠4
   . rw[X3 ⟨om,e2⟩];simp only[e2,ne_eq,not_false_eq_true,and_self,Zn]
   rw[XV (λk=>e2 k.2)];simp only[XV e2]
  rw[hd,Hd (by exact hc) h.nms h.ord]
 rw[XV h1,XV h1,hg]
 by_cases e:dQ z.sets c.q<0
 . rw[X3 e,X3 e]
 rw[XV e,XV e]
 have hlt:(dQ z.sets c.q).toNat<z.sets.length:=by have:=OT z.sets c.q;omega
 have hq:=XH (show 0<=dQ z.sets c.q by omega)
 have hdel:=Wu h.ord hlt hq
 simp only
 generalize z.sets[(dQ z.sets c.q).toNat]! = o at hq
 by_cases e2:c.kind=2/\leftD o.set.data c.set.data≠[]
 .
  rw[X3 ⟨e2.1,Zy.2 e2.2⟩,X3 e2];unfold Aw;rw[Hd _ h.nms h.ord];have:o.set.name=c.set.name:=congrArg ak.name hq
  show az o.set.name=true
  rw[this];exact hc
 rw[XV (λk=>e2 ⟨k.1,Zy.1 k.2⟩),XV e2]
 unfold Ph
 rw[hdel]
structure dO(z:Zon):Prop where
 ok:aJ z=true
 sig : ∀s∈z.sets,s.sigs=[]
 ty : ∀s∈z.sets,s.set.ty≠8
def Sg(z:Zon):jG z=true↔∀s∈z.sets,s.sigs=[]/\s.set.ty≠8:=by
 unfold jG
 rw[eF,xC]
 refine⟨λh i hi=>?_,λh i _ hi=>?_⟩
 . have:=h i (Yi _) hi;simp only[xR,Yb,Yd,X4]at this;exact⟨Ya om,this.2⟩
 obtain⟨h1,h2⟩:=h i hi
 simp only[xR,Yb,Yd,X4]
 exact⟨by rw[h1];simp,h2⟩
def dO.mk'{z:Zon}(h:aJ z=true)(p:jG z=true):dO z:=⟨h,λs hs=>((Sg z).1 p s hs).1,λs hs=>((Sg z).1 p s hs).2⟩
def dO.zo{z:Zon}(h:dO z):oh z:=lM h.ok
def dO.ord{z:Zon}(h:dO z):fq z.sets:=h.zo.ord
def sq(z:Zon):ak:=⟨z.apex,4⟩
def Ql{z:Zon}(h:aJ z=true):fC z.sets (sq z)=some (gG z):=by
 have hr:jl z=true:=by rw[<-sK];exact h
 have h0:=EP hr
 have:=KD z.sets (sq z)
 rw[XV (by show ¬dQ z.sets ⟨z.apex,4⟩<0;omega)]at this
 exact this
theorem xM{z:Zon}(h:aJ z=true):gG z∈z.sets/\(gG z).q=sq z:=Bn (Ql h)
theorem Hy{z:Zon}(h:aJ z=true):(gG z).set.data=[⟨[],dz z,(gG z).set.data[0]!.m⟩]/\0<=dz z/\dz z<=65535/\sI (gG z).set/\jS (gL 4) (gG z).set.data[0]! = true:=by
 have hr:jl z=true:=by rw[<-sK];exact h
 obtain⟨h1,h2⟩:=xM h
 have hs:sI (gG z).set:=(lM h).ok _ h1
 have ht:(gG z).set.ty=4:=congrArg ak.ty h2
 have hlen:(gG z).set.data.length=1:=by
  have:=hs.single;rw[ht]at this;exact this rfl
 obtain⟨d,hd⟩:∃d,(gG z).set.data=[d]:=by
  match hm:(gG z).set.data,hlen with
  | [d],_=>exact⟨d,rfl⟩
 have hdat:=hs.dat d (by rw[hd];simp)
 rw[ht]at hdat
 have hn:dz z=d.n:=by
  show(gG z).set.data[0]!.n=d.n
  rw[hd];rfl
 have UV:=Ir hr
 simp only[iB,XU,XW]at UV
 have htx:d.t=[]:=by
  have h9:jS (gL 4) d=true:=hdat;simp only[jS,XU]at h9;have h8:=h9.2;have:xH (gL 4).text d.t=(d.t==[]):=by rfl
  rw[this]at h8
  simpa using h8
 refine⟨?_,UV.1,om,hs,?_⟩
 .
  rw[hd,hn]
  show[d]=[⟨[],d.n,d.m⟩]
  rw[<-htx]
 rw[hd];exact hdat
def sS(z:Zon)(n:Int):Sgd:=⟨{ (gG z).set with data:=[⟨[],n,(gG z).set.data[0]!.m⟩] },[]⟩
def sM(z:Zon)(n:Int):Zon:=⟨z.apex,jY z.sets (sS z n)⟩
theorem Qn{z:Zon}(h:aJ z=true)(n:Int):(sS z n).q=sq z:=(xM h).2
def ZaC{z:Zon}(h:aJ z=true)(n:Int):Aw z (sS z n)=sM z n:=by
 unfold Aw sM
 have hz:=lM h
 rw[Hd (by show az (gG z).set.name=true;exact hz.nms _ (xM h).1) hz.nms hz.ord]
theorem Xq{z:Zon}(h:aJ z=true):OH z=sM z (wR (dz z)):=ZaC h _
theorem Zcf{z:Zon}(h:aJ z=true){n:Int}(h0:0<=n)(h1:n<=65535):fB (sS z n).set=true:=by
 obtain⟨e,_,_,hs,hd⟩:=Hy h
 have ht:(gG z).set.ty=4:=congrArg ak.ty (xM h).2
 have hso:=(iM _).2 hs
 have hdn:jS (gL 4) ⟨[],n,(gG z).set.data[0]!.m⟩=true:=by
  rw[e]at hd;have hd:jS (gL 4) ⟨[],dz z,(gG z).set.data[0]!.m⟩=true:=hd;simp only[jS,XU]at hd ⊢;refine⟨⟨⟨?_,hd.1.1.2⟩,?_⟩,hd.2⟩
  . exact jM.2 ⟨h0,h1⟩
  rfl
 unfold sS
 unfold fB at hso ⊢
 simp only[XU]at hso ⊢
 obtain⟨⟨⟨⟨⟨⟨a1,a2⟩,a3⟩,a4⟩,a5⟩,a6⟩,a7⟩:=hso
 refine⟨⟨⟨⟨⟨⟨a1,a2⟩,a3⟩,?_⟩,?_⟩,a6⟩,?_⟩
 . rfl
 . rw[ht];rfl
 rw[eF]
 intro i _ hi
 have:i=0:=by simp at hi;omega
 subst this
 unfold nX
 rw[ht]
 simp only[XU]
 exact⟨hdn,rfl⟩
theorem Pm{z:Zon}(h:dO z){n:Int}(h0:0<=n)(h1:n<=65535):mq (sM z n) z:=by
 obtain⟨m1,m2⟩:=xM h.ok
 obtain⟨k,hk,e⟩:=kV.1 m1
 have hq:z.sets[k]!.q=(sS z n).q:=by rw[e,Qn h.ok];exact m2
 have hp:=R9 h.ord hk hq
 have hlen:(sM z n).sets.length=z.sets.length:=by
  show(jY z.sets (sS z n)).length=_
  rw[hp];simp;omega
 have hget : ∀i,i<z.sets.length->(sM z n).sets[i]! = if i=k then sS z n else z.sets[i]! := by
  intro i hi
  show(jY z.sets (sS z n))[i]! = _
  rw[hp];have hl:(z.sets.take k).length=k:=by simp;omega
  by_cases e1:i=k
  .
   subst e1;rw[X3 rfl,getElem!_pos _ i (by simp;omega),List.getElem_append_right (by omega)]
   simp[hl]
  rw[XV e1,getElem!_pos _ i (by simp;omega),getElem!_pos z.sets i hi]
  by_cases e2:i<k
  . rw[List.getElem_append_left (by omega),List.getElem_take]
  rw[List.getElem_append_right (by omega)]
  obtain⟨j,rfl⟩:∃j,i=k+1+j:=⟨i-(k+1),om⟩;have e3:k+1+j-(z.sets.take k).length=j+1:=by omega
  simp only[e3,List.getElem_cons_succ,List.getElem_drop]
 refine⟨rfl,hlen,λi hi=>?_,λi hi=>?_,λi hi=>?_⟩<;>rw[hget i hi]
 .
  split
  . rename_i e1;rw[e1,<-hq]
  rfl
 .
  split
  . rename_i e1;rw[e1,h.sig _ (eT hk)];rfl
  rfl
 split
 .
  rename_i e1
  rw[e1,Zcf h.ok h0 h1,(iM _).2 (h.zo.ok _ (eT hk))]
 rfl
def ZaB{z:Zon}(h:dO z){n:Int}(h0:0<=n)(h1:n<=65535):dO (sM z n):=by
 refine⟨by rw[Zgg (Pm h h0 h1)];exact h.ok,λs hs=>?_,λs hs=>?_⟩
 .
  rcases AY.1 hs with e|e
  . rw[e];rfl
  exact h.sig s e.1
 rcases AY.1 hs with e|e
 .
  rw[e]
  show(gG z).set.ty≠8
  have ht:(gG z).set.ty=4:=congrArg ak.ty (xM h.ok).2;omega
 exact h.ty s e.1
theorem Zce{z:Zon}(h:dO z):sS z (dz z)=gG z:=by
 obtain⟨e,_⟩:=Hy h.ok
 have hs:=h.sig _ (xM h.ok).1
 unfold sS
 rw[<-e]
 cases hx:gG z with
 | mk a b=>rw[hx]at hs;simp only at hs;subst hs;rfl
def ZaA{z:Zon}(h:dO z):sM z (dz z)=z:=by
 unfold sM
 rw[Zce h,Zet h.ord (xM h.ok).1]
theorem Cj{c:Chg}(h:gB c=true):az c.set.name=true:=by
 simp only[gB,XU]at h
 exact h.1
def OA{c:Chg}(h:gB c=true)(hk:c.kind=1\/c.kind=2):sI c.set/\c.set.ty≠8:=by
 simp only[gB,XU,X3 hk]at h
 refine⟨(iM _).1 h.2.1,?_⟩
 have:=h.2.2
 simpa using this
theorem ZbT{y w:Zon}{c:Chg}:xJ y c=some w↔w=Dh y c/\aJ w=true /\ ¬(c.kind=4/\c.set.name=y.apex):=by
 unfold xJ
 constructor
 .
  intro h
  split at h
  . cases h
  rename_i hn
  cases h
  refine⟨rfl,?_,λk=>hn (.inl k)⟩
  cases hz:aJ (Dh y c)with
  | true=>rfl
  | false=>exact absurd (.inr hz) hn
 rintro⟨rfl,h2,h3⟩
 rw[XV]
 rintro (k|k)
 . exact h3 k
 rw[h2]at k;cases k
def TM{l:List Sgd}(hl:fq l){c:Chg}{x:Sgd}(hx:x∈kJ l c):x∈l\/(x.sigs=[]/\((c.kind=1/\x.set.ty=c.set.ty) \/ ∃o∈l,x.set.ty=o.set.ty)):=by
 unfold kJ at hx
 split at hx
 . exact .inl (Zr.1 hx).1
 split at hx
 .
  rename_i h1
  rcases AY.1 hx with e|e
  . exact .inr ⟨by rw[e],.inl ⟨h1,by rw[e]⟩⟩
  exact .inl e.1
 split at hx
 . exact .inl hx
 rename_i o ho
 split at hx
 .
  rcases AY.1 hx with e|e
  . exact .inr ⟨by rw[e],.inr ⟨o,(Bn ho).1,by rw[e]⟩⟩
  exact .inl e.1
 exact .inl (Zjj.1 hx).1
def Lb{y w:Zon}{c:Chg}(hy:dO y)(hc:gB c=true)(h:xJ y c=some w):dO w/\w=⟨y.apex,kJ y.sets c⟩:=by
 obtain⟨h1,h2,h3⟩:=ZbT.1 h
 have e:=MJ hy.zo (Cj hc)
 rw[e]at h1
 refine⟨⟨h2,λs hs=>?_,λs hs=>?_⟩,h1⟩
 .
  rw[h1]at hs
  rcases TM hy.ord hs with k|k
  . exact hy.sig s k
  exact k.1
 rw[h1]at hs
 rcases TM hy.ord hs with k|⟨_,⟨k1,k2⟩|⟨o,k1,k2⟩⟩
 . exact hy.ty s k
 . rw[k2];exact(OA hc (.inl k1)).2
 rw[k2];exact hy.ty o k1
theorem Ku{z:Zon}{l:List Chg}(hz:dO z)(hl : ∀c∈l,gB c=true):∀k y,k<=l.length->tZ z l k=some y->dO y/\y.apex=z.apex
 | 0,y,_,h=>by cases h;exact⟨hz,rfl⟩
 | k+1,y,hk,h=>by
  cases e:tZ z l k with
  | none=>rw[GK e (k+1) (by omega)]at h;cases h
  | some w =>
   obtain⟨h1,h2⟩:=Ku hz hl k w om e;rw[GJ e]at h;obtain⟨h3,h4⟩:=Lb h1 (hl _ (eT om)) h;exact⟨h3,by rw[h4];exact h2⟩
def Tn(n:Int):0<=wR n/\wR n<=65535:=by
 unfold wR
 omega
def WY{z y:Zon}(hy:dO y):∃m,0<=m/\m<=65535/\vX z y=sM y m:=by
 unfold vX
 split
 . exact⟨_,(Tn _).1,(Tn _).2,Xq hy.ok⟩
 obtain⟨_,h1,h2,_⟩:=Hy hy.ok
 exact⟨dz y,h1,h2,(ZaA hy).symm⟩
structure Made(z:Zon)(u:Upd)(y y0:Zon):Prop where
 pz:dO z
 pu:jU u=true
 cut:kP z u.needs=false/\kP z u.chgs=false
 need:wS z u.needs=true
 step:yM z u.chgs=some y0
 py:y=vX z y0
def Ep{z y:Zon}{u:Upd}(h:fJ z u=(y,0)):∃y0,Made z u y y0:=by
 unfold fJ at h
 split at h
 . cases h
 rename_i h1
 split at h
 . cases h
 rename_i h2
 split at h
 . cases h
 rename_i h3
 split at h
 . cases h
 rename_i h4
 split at h
 . cases h
 rename_i y0 h5
 have e1:aJ z=true:=by cases q:aJ z with|true=>rfl|false=>exact absurd (.inl q) h1
 have e2:jU u=true:=by cases q:jU u with|true=>rfl|false=>exact absurd (.inr q) h1
 have e3:jG z=true:=by cases q:jG z with|true=>rfl|false=>exact absurd q h2
 have e4:wS z u.needs=true:=by cases q:wS z u.needs with|true=>rfl|false=>exact absurd q h4
 refine⟨y0,.mk' e1 e3,e2,⟨?_,?_⟩,e4,h5,by cases h;rfl⟩
 . cases q:kP z u.needs with|false=>rfl|true=>exact absurd (.inl q) h3
 cases q:kP z u.chgs with|false=>rfl|true=>exact absurd (.inr q) h3
def KV{u:Upd}(h:jU u=true):∀c∈u.chgs,gB c=true:=by
 simp only[jU,XU]at h
 exact xC.2 λi hi=>(eF _ _ _).1 h.2 i (Yi _) hi
def ZaP{u:Upd}(h:jU u=true):∀c∈u.needs,jf c=true:=by
 simp only[jU,XU]at h
 exact xC.2 λi hi=>(eF _ _ _).1 h.1.2 i (Yi _) hi
def Made.p0{z y y0:Zon}{u:Upd}(h:Made z u y y0):dO y0/\y0.apex=z.apex:=Ku h.pz (KV h.pu) _ _ (XX _) h.step
def Made.plain{z y y0:Zon}{u:Upd}(h:Made z u y y0):dO y/\y.apex=z.apex /\ ∃m,0<=m/\m<=65535/\y=sM y0 m:=by
 obtain⟨h1,h2⟩:=h.p0
 obtain⟨m,m0,m1,e⟩:=WY (z:=z) h1
 rw[h.py,e]
 exact⟨ZaB h1 m0 m1,h2,m,m0,m1,rfl⟩
theorem ZaR{z y:Zon}{u:Upd}{e:Int}(h:fJ z u=(y,e))(he:e≠0):y=dH:=by
 unfold fJ at h
 split at h
 . cases h;rfl
 split at h
 . cases h;rfl
 split at h
 . cases h;rfl
 split at h
 . cases h;rfl
 split at h
 . cases h;rfl
 cases h;exact absurd rfl he
end Go.Zon
namespace Go.Jn
open Go.DL Go.Str Go.Rec Go.Cmp Go.Zon
def rzS(n:Int):List Sgd:=[⟨⟨[120],2,0,[⟨[97,46,110,115],0,0⟩]⟩,[]⟩,⟨⟨[120],4,0,[⟨[],n,0⟩]⟩,[]⟩]
def EJ(l:List Int):RSet:=⟨[119,46,120],1,0,l.map λa=>⟨[],a,0⟩⟩
def gV(n:Int)(l:List Int):Zon:=⟨[120],if 0<l.length then rzS n++[⟨EJ l,[]⟩]else rzS n⟩
def wy(o:List Zon)(u:Upd):Option (List Zon) :=
 if(fJ o[o.length-1]! u).2≠0\/(fJ o[o.length-1]! u).1=o[o.length-1]! then some o
 else if aJ (fJ o[o.length-1]! u).1=false\/gZ (dz o[o.length-1]!) (dz (fJ o[o.length-1]! u).1)=false\/dz (fJ o[o.length-1]! u).1∈o.map dz then none
 else some (o++[(fJ o[o.length-1]! u).1])
def mD(z:Zon)(l:List Upd):Nat->Option (List Zon)
 | 0=>some [z]
 | k+1=>(mD z l k).bind λo=>wy o l[k]!
def nz(z:Zon)(l:List Upd):List Zon×Bool:=match mD z l l.length with
 | none=>([],false)
 | some o=>(o,true)
theorem KS{z:Zon}{l:List Upd}{k:Nat}(h:mD z l k=none):∀n,k<=n->mD z l n=none:=by
 intro n
 induction n with
 | zero=>intro hk;rw[show(0:Nat)=k from by omega];exact h
 | succ n ih =>
  intro hk
  by_cases e:k=n+1
  . rw[<-e];exact h
  show(mD z l n).bind _=none
  rw[ih (by omega)]
  rfl
theorem Az{z:Zon}{l:List Upd}{k:Nat}{o:List Zon}(h:mD z l k=some o):mD z l (k+1)=wy o l[k]! := by
 show(mD z l k).bind _=_
 rw[h]
 rfl
def xn(z:Zon)(l:List Upd):Bool:=vU z&&jl z&&jG z&&decide (l.length<=6)&&aA l.length (λi=>decide (l[i]!.needs.length<=10)&&decide (l[i]!.chgs.length<=10)) 0
def Zf5(l:List Sgd)(c:Chg):(kJ l c).length<=l.length+1:=by
 unfold kJ
 split
 . have:=List.length_filter_le (λx:Sgd=>!decide (x.set.name=c.set.name)) l;omega
 split
 . exact R8 _
 split
 . omega
 split
 . exact R8 _
 have:=List.length_filter_le (λx:Sgd=>!decide (x.q=c.q)) l;unfold Am;omega
theorem Xl{z:Zon}{l:List Chg}(hz:dO z)(hl : ∀c∈l,gB c=true):∀k y,k<=l.length->tZ z l k=some y->y.sets.length<=z.sets.length+k
 | 0,y,_,h=>by cases h;omega
 | k+1,y,hk,h=>by
  cases e:tZ z l k with
  | none=>rw[GK e (k+1) (by omega)]at h;cases h
  | some w =>
   have h1:=Xl hz hl k w (by omega) e
   obtain⟨h2,_⟩:=Ku hz hl k w om e;rw[GJ e]at h;obtain⟨_,h4⟩:=Lb h2 (hl _ (eT om)) h;have h5:=Zf5 w.sets l[k]!;rw[h4]
   show(kJ w.sets l[k]!).length<=_
   omega
def ZaQ{z y:Zon}{u:Upd}(h:fJ z u=(y,0)):y.sets.length<=z.sets.length+u.chgs.length:=by
 obtain⟨y0,m⟩:=Ep h
 obtain⟨_,_,n,n0,n1,e⟩:=m.plain
 have h1:=Xl m.pz (KV m.pu) _ _ (XX _) m.step
 rw[e,(Pm m.p0.1 n0 n1).len]
 exact h1
theorem KF{α:Type}[Inhabited α]{o:List α}{y:α}{i:Nat}(h:i<o.length):(o++[y])[i]! = o[i]! := by
 rw[getElem!_pos (o++[y]) i (by simp;omega),getElem!_pos o i h,List.getElem_append_left h]
def ZkD{α:Type}[Inhabited α]{o:List α}{y:α}:(o++[y])[o.length]! = y:=by
 rw[getElem!_pos (o++[y]) o.length (by simp)]
 simp
structure pR(z:Zon)(o:List Zon):Prop where
 ne:0<o.length
 fst:o[0]! = z
 pl : ∀i,i<o.length->dO o[i]!
 ap : ∀i,i<o.length->o[i]!.apex=z.apex
 bf : ∀i,i+1<o.length->gZ (dz o[i]!) (dz o[i+1]!)=true
 ds : ∀i k,k<i->i<o.length->dz o[i]! ≠ dz o[k]!
 sz : ∀i,i<o.length->o[i]!.sets.length<=100+10*i
theorem ZaG{z:Zon}{o p:List Zon}{u:Upd}(h:pR z o)(hu:u.chgs.length<=10)(hs:wy o u=some p):pR z p/\p.length<=o.length+1:=by
 unfold wy at hs
 split at hs
 . cases hs;exact⟨h,om⟩
 rename_i h1
 split at hs
 . cases hs
 rename_i h2
 rcases hy:fJ o[o.length-1]! u with⟨y,e⟩
 rw[hy]at h1 h2 hs
 simp only at h1 h2 hs
 obtain rfl:e=0:=YV λq=>h1 (.inl q)
 cases hs
 obtain⟨y0,m⟩:=Ep hy
 obtain⟨p1,p2,_⟩:=m.plain
 have hlen:=ZaQ hy
 have hlast:o.length-1<o.length:=by have:=h.ne;omega
 have hbf:gZ (dz o[o.length-1]!) (dz y)=true:=by
  cases q:gZ (dz o[o.length-1]!) (dz y)with
  | true=>rfl
  | false=>exact absurd (.inr (.inl q)) h2
 have hds : ∀i,i<o.length->dz y≠dz o[i]! := λi hi q=>h2 (.inr (.inr (Yt.2 ⟨o[i]!,eT hi,q.symm⟩)))
 have hl:(o++[y]).length=o.length+1:=by simp
 have ix : ∀i,i<o.length+1->(i<o.length/\(o++[y])[i]! = o[i]!)\/(i=o.length/\(o++[y])[i]! = y):=λi hi=>by
  by_cases q:i<o.length
  . exact .inl ⟨q,KF q⟩
  have:i=o.length:=by omega
  subst this;exact .inr ⟨rfl,ZkD⟩
 refine⟨⟨om,by rw[KF h.ne];exact h.fst,λi hi=>?_,λi hi=>?_,λi hi=>?_,λi k hk hi=>?_,λi hi=>?_⟩,om⟩
 .
  rcases ix i (by omega)with⟨q,e⟩|⟨q,e⟩<;>rw[e]
  . exact h.pl i q
  exact p1
 .
  rcases ix i (by omega)with⟨q,e⟩|⟨q,e⟩<;>rw[e]
  . exact h.ap i q
  rw[p2];exact h.ap _ hlast
 .
  rcases ix (i+1) (by omega)with⟨q,e⟩|⟨q,e⟩<;>rw[e,KF (by omega)]
  . exact h.bf i q
  rw[show i=o.length-1 from by omega];exact hbf
 .
  rcases ix i (by omega)with⟨q,e⟩|⟨q,e⟩<;>rw[e,KF (by omega)]
  . exact h.ds i k hk q
  exact hds k om
 rcases ix i (by omega)with⟨q,e⟩|⟨q,e⟩<;>rw[e]
 . exact h.sz i q
 have:=h.sz _ hlast;omega
def ZaH{z:Zon}(hz:dO z)(hl:z.sets.length<=100):pR z [z]:=by
 have e : ∀i,i<[z].length->[z][i]! = z:=λi hi=>by
  have:i=0:=by simp at hi;omega
  subst this;rfl
 refine⟨by simp,rfl,λi hi=>by rw[e i hi];exact hz,λi hi=>by rw[e i hi],λi hi=>by simp at hi,λi k hk hi=>by simp at hi;omega,λi hi=>by rw[e i hi];omega⟩
theorem KR{z:Zon}{l:List Upd}(hz:dO z)(hl:z.sets.length<=100)(hc : ∀i,i<l.length->l[i]!.chgs.length<=10):∀k o,k<=l.length->mD z l k=some o->pR z o/\o.length<=k+1
 | 0,o,_,h=>by cases h;exact⟨ZaH hz hl,by simp⟩
 | k+1,o,hk,h=>by
  cases e:mD z l k with
  | none=>rw[KS e (k+1) (by omega)]at h;cases h
  | some w =>
   obtain⟨h1,h2⟩:=KR hz hl hc k w om e;rw[Az e]at h;obtain⟨h3,h4⟩:=ZaG h1 (hc k om) h;exact⟨h3,om⟩
def pR.vers{z:Zon}{o:List Zon}(h:pR z o):pQ o:=by
 have hs : ∀i,i<o.length->aM o[i]! = dz o[i]! := λi hi=>AU (h.pl i hi).ok
 refine⟨λi hi=>(h.pl i hi).ok,λi hi=>?_,λi hi=>?_⟩
 . rw[h.ap i hi,h.ap 0 h.ne]
 rw[hs i (by omega),hs _ hi];exact h.bf i hi
def pR.far{z:Zon}{o:List Zon}(h:pR z o){f:Nat}(hf:f<o.length):∀i,f<i->i<o.length->aM o[i]! ≠ aM o[f]! := λi hi hl=>by
 rw[AU (h.pl i hl).ok,AU (h.pl f hf).ok]
 exact h.ds i f hi hl
def pR.pull{z:Zon}{o:List Zon}(h:pR z o)(hl:o.length<=7){f:Nat}(hf:f<o.length){t:Int}(h1:0<=t)(h2:t<=10000000):lW ⟨true,o[f]!,0⟩ o t=(⟨true,o[o.length-1]!,t⟩,0) :=
 (Zex h.vers om hf (s:=⟨true,o[f]!,0⟩) ((Q8 rfl).2 ⟨⟨Int.le_refl _,by show(0:Int)<=10000000;omega⟩,(h.pl f hf).ok⟩) rfl rfl (h.far hf) h1 h2).2.2
def EW{z:Zon}(h:dO z):GV z:=λs hs g hg=>by rw[h.sig s hs]at hg;cases hg
def QP{z:Zon}(h:dO z){s:Sgd}(hs:s∈z.sets):(fw s).length<=1003:=by
 have hb:=EG (h.zo.ok s hs)
 have h1:=h.sig s hs
 simp only[fw,XZ,YS,fH,h1,List.flatMap_nil,Y4]
 omega
def Pd{z:Zon}(h:dO z):(dL z).length<=100+z.sets.length*1003:=by
 have ha:=gM h.zo.apex
 have h2:=xh (f:=fw) (n:=1003) (l:=z.sets) λs hs=>QP h hs
 simp only[dL,jk,bP,XZ,YS,fH]
 omega
def Oh{z:Zon}{o:List Zon}(h:pR z o){i:Nat}(hi:i+1<o.length):(dG (jR o i)).length<=100+o[i]!.sets.length*62+o[i+1]!.sets.length*1003/\Cs (jR o i):=by
 have hd:=(h.vers.dok hi).1
 have ha:=h.pl i (by omega)
 have hb:=h.pl (i+1) hi
 rw[hd]
 have hl1:(Ah o[i]! o[i+1]!).length<=o[i]!.sets.length:=List.length_filterMap_le _ _
 have hl2:(vv o[i]! o[i+1]!).length<=o[i+1]!.sets.length:=List.length_filterMap_le _ _
 have hm : ∀s∈vv o[i]! o[i+1]!,s∈o[i+1]!.sets:=λs hs=>((put_mem ha.ord).1 hs).1
 have h0:=gM ha.zo.apex
 have h1:=xh (f:=kG) (n:=62) (l:=Ah o[i]! o[i+1]!) λq hq=>by
  obtain⟨⟨s,hs,rfl⟩,_⟩:=Gn.1 hq;have:=gM (ha.zo.nms s hs);have e:s.q.name=s.set.name:=rfl;simp only[kG,bP,XZ,YS,Y4,e];omega
 have h2:=xh (f:=fw) (n:=1003) (l:=vv o[i]! o[i+1]!) λs hs=>QP hb (hm s hs)
 refine⟨?_,λs hs g hg=>by rw[hb.sig s (hm s hs)]at hg;cases hg⟩
 have e1:(dD o[i]! o[i+1]!).drop=Ah o[i]! o[i+1]! := rfl
 have e2:(dD o[i]! o[i+1]!).put=vv o[i]! o[i+1]! := rfl
 have e3:(dD o[i]! o[i+1]!).apex=o[i]!.apex:=rfl
 simp only[dG,jk,bP,XZ,YS,jb,fH,e1,e2,e3]
 have:=YY 62 hl1
 have:=YY 1003 hl2
 omega
def jP(o:List Zon)(i:Nat):Str:=bZ 2 (dG (jR o i))
def d9(d:bV)(o:List Zon)(k:Nat):bV:=⟨d.safe,d.pend++(List.range k).map (jP o)⟩
theorem Ki(d:bV)(o:List Zon):d9 d o 0=d:=by simp[d9]
theorem WI(d:bV)(o:List Zon)(k:Nat):d9 d o (k+1)=⟨d.safe,(d9 d o k).pend++[jP o k]⟩:=by
 unfold d9
 rw[List.range_succ,YT,Yu]
 rfl
theorem Gw(d:bV)(o:List Zon)(k:Nat):(d9 d o k).pend.length=d.pend.length+k:=by simp[d9]
def bnd:Nat->Int
 | 0=>100421
 | k+1=>bnd k+116651+10650*k
def OJ{k:Nat}(h:k<=6):bnd k<=1000000:=by
 have:k=0\/k=1\/k=2\/k=3\/k=4\/k=5\/k=6:=by omega
 rcases this with e|e|e|e|e|e|e<;>subst e<;>decide
structure Eg(z:Zon)(d:bV)(o:jD):Prop where
 op:eP d=some o
 wh:o.whole=d.safe
 al:o.all=some z
 pe:d.pend.length<=1
 sz:o.size<=100421
def Kb{z:Zon}{o:List Zon}(h:pR z o){k:Nat}(hk:k+1<o.length):((jP o k).length:Int)<=116651+10650*k:=by
 have h1:=(Oh h hk).1
 have h2:=h.sz k (by omega)
 have h3:=h.sz (k+1) hk
 unfold jP
 rw[rZ]
 omega
theorem Kh{z:Zon}{o:List Zon}(h:pR z o)(hl:o.length<=7){d:bV}{o0:jD}(b:Eg z d o0):∀k,k<o.length -> ∃p,eP (d9 d o k)=some p/\p.whole=d.safe/\p.all=some o[k]! /\ p.saved=o0.saved/\p.size<=bnd k/\(k+1<o.length->nk (d9 d o k) (jR o k)=(d9 d o (k+1),0)):=by
 intro k
 have app : ∀k,k+1<o.length -> ∀p,eP (d9 d o k)=some p->p.whole=d.safe->p.all=some o[k]! -> p.size<=bnd k->nk (d9 d o k) (jR o k)=(d9 d o (k+1),0):=by
  intro k hk p h1 h2 h3 h5;have hlen:=Gw d o k;have hb:=b.pe;have hf:=Kb h hk;have hbn:=OJ (k:=k+1) (by omega)
  have hb2:bnd (k+1)=bnd k+116651+10650*k:=rfl;have hA:=h.vers.apply hk;unfold jP at hf;rw[KE h1 h3 hA,XV (by omega),XV (by omega),WI,h2]
  rfl
 induction k with
 | zero =>
  intro hk;rw[Ki];refine⟨o0,b.op,b.wh,by rw[b.al,h.fst],rfl,b.sz,λhk=>?_⟩
  have:=app 0 hk o0 (by rw[Ki];exact b.op) b.wh (by rw[b.al,h.fst]) b.sz
  rwa [Ki]at this
 | succ k ih =>
  intro hk;obtain⟨p,h1,h2,h3,h4,h5,_⟩:=ih om;have hlen:=Gw d o k;have hb:=b.pe;have hf:=Kb h hk;have hA:=h.vers.apply hk;have hd:=(Oh h hk).2;unfold jP at hf;rw[rZ]at hf;have hop:=Zku h1 h3 (Wl hA hd) (by omega) hA (by omega)
  have e:d9 d o (k+1)=⟨p.whole,(d9 d o k).pend++[bZ 2 (dG (jR o k))]⟩:=by rw[WI,h2];rfl
  rw[<-e]at hop;have hsz:p.size+((bZ 2 (dG (jR o k))).length:Int)<=bnd (k+1):=by
   have hb2:bnd (k+1)=bnd k+116651+10650*k:=rfl;rw[rZ];omega
  exact⟨_,hop,h2,rfl,h4,hsz,λhk2=>app (k+1) hk2 _ hop h2 rfl hsz⟩
theorem SL{d:bV}{o:jD}(h:eP d=some o)(hs:o.size<=1000000):kw d:=by
 obtain⟨h1,h2,_,h4,_,_⟩:=uz h
 have key : ∀(l:List Str)p,p∈l->p.length<=(aR l).length:=by
  intro l
  induction l with
  | nil=>intro p hp;cases hp
  | cons q l ih =>
   intro p hp;rw[OD,XZ]
   rcases Ym.1 hp with e|e
   . rw[e];omega
   . have:=ih p e;omega
 exact⟨λp hp=>by have:=key _ p hp;omega,by omega,by omega⟩
def dA(z:Zon):bV:=⟨[],[bZ 1 (dL z)]⟩
def dC(z:Zon):bV:=⟨bZ 1 (dL z),[]⟩
def XD{z:Zon}(hz:dO z)(hl:z.sets.length<=100):sD z=(dA z,0) /\ ∃o,Eg z (dA z) o/\o.saved=none:=by
 have h1:=Pd hz
 obtain⟨h2,o,h3,h4,h5,h6,h7⟩:=Zkk hz.ok (EW hz) om
 refine⟨h2,o,⟨h3,h6,h4,by simp[dA],?_⟩,h5⟩
 obtain⟨_,_,k3,k4,_,_⟩:=uz h3
 have k5:(aR [bZ 1 (dL z)]).length=21+(dL z).length:=by
  rw[<-rZ 1]
  simp[aR]
 have k6:(di []).length=0:=by unfold di;simp
 rw[k4]
 show(((di []).length+(aR [bZ 1 (dL z)]).length:Nat):Int)<=_
 omega
def Zkl{z:Zon}(hz:dO z)(hl:z.sets.length<=100):rF (dA z)=(dC z,0) /\ ∃o,Eg z (dC z) o/\o.saved=some z:=by
 obtain⟨_,o,b,_⟩:=XD hz hl
 have hs:o.size<=1000000:=by have:=b.sz;omega
 obtain⟨h1,h2,h3⟩:=ZbN b.op hs
 have e:o.whole++aR (dA z).pend=bZ 1 (dL z):=by rw[b.wh];simp[dA,aR]
 rw[e]at h1 h2 h3
 obtain⟨_,_,k3,_,_,k6⟩:=uz b.op
 have hw:=KO k6
 have ep:di (dA z).safe=[]:=by show di []=[];unfold di;simp
 rw[ep]at hw
 have e2:[]++aR (dA z).pend=bZ 1 (dL z):=by simp[dA,aR]
 rw[e2]at hw
 have h4:=Ze4 (s:=bZ 1 (dL z)) h3
 refine⟨h1,_,⟨h4,hw.2,by show fe _=_;rw[h2,b.al],by simp[dC],?_⟩,by show fe _=_;rw[h2,b.al]⟩
 show(((di (bZ 1 (dL z))).length:Int)+((0:Nat):Int))<=100421
 rw[hw.2,rZ]
 have h1:=Pd hz
 omega
def Ch{z:Zon}{o:List Zon}(h:pR z o)(hl:o.length<=7){d:bV}{o0:jD}(b:Eg z d o0){k:Nat}(hk:k<o.length):kw (d9 d o k):=by
 obtain⟨p,h1,h2,h3,h4,h5,_⟩:=Kh h hl b k hk
 have hbn:=OJ (k:=k) (by omega)
 exact SL h1 (by omega)
def WU{z:Zon}{o:List Zon}(h:pR z o)(hl:o.length<=7){o0:jD}(b:Eg z (dC z) o0){n c:Nat}(hn:n<o.length)(hc:n+1<o.length->c<=(jP o n).length)(hc2 : ¬n+1<o.length->c=0) :
  ∃s,lm (d9 (dC z) o (o.length-1)) n c=(s,0)/\kw s/\lZ s=(o[if n+1<o.length/\c=(jP o n).length then n+1 else n]!,0):=by
 have hne:=h.ne
 obtain⟨p,h1,h2,h3,h4,h5,_⟩:=Kh h hl b (o.length-1) (by omega)
 have hbn:=OJ (k:=o.length-1) (by omega)
 have hlen:(d9 (dC z) o (o.length-1)).pend.length=o.length-1:=by rw[Gw];simp[dC]
 have hat : ∀i,i<o.length-1->(d9 (dC z) o (o.length-1)).pend[i]! = jP o i:=λi hi=>by
  rw[getElem!_pos _ i (by omega)]
  simp[d9,dC]
 have hbr:nY (d9 (dC z) o (o.length-1)) (n:Int)=if n+1<o.length then jP o n else[]:=by
  unfold nY;rw[hlen]
  by_cases q:n+1<o.length
  . rw[X3 (by omega),X3 q,Int.toNat_natCast,hat n (by omega)]
  . rw[XV (by omega),XV q]
 have hcb:(c:Int)<=((nY (d9 (dC z) o (o.length-1)) (n:Int)).length:Int):=by
  rw[hbr]
  by_cases q:n+1<o.length
  . rw[X3 q];have:=hc q;omega
  . rw[XV q,hc2 q];simp
 have ht:=Zbw h1 n c
 have hsz:(d9 (dC z) o (o.length-1)).safe.length+(aR (d9 (dC z) o (o.length-1)).pend).length<=1000000:=by
  obtain⟨_,_,k3,k4,_,_⟩:=uz h1;rw[<-k3,h2]at k4;have e:(d9 (dC z) o (o.length-1)).safe=(dC z).safe:=rfl;rw[e];omega
 have hz:=ZjJ h1 (n:=n) (c:=c) (by omega) (by rw[hlen];omega) (by omega) hcb
 have hza : ∀i,i<o.length->Cy (d9 (dC z) o (o.length-1)) i=some o[i]! := λi hi=>by
  obtain⟨p,k1,_,k3,_⟩:=Kh h hl b i hi;have ha:=Zah k1;rw[k3]at ha;rw[<-ha];have e:(d9 (dC z) o (o.length-1)).pend.take i=(d9 (dC z) o i).pend.take (d9 (dC z) o i).pend.length:=by
   rw[Yn];simp only[d9,dC,X0];rw[<-ZF,List.take_range,ZK (by omega)]
  unfold Cy;rw[e];rfl
 have hcr:lm (d9 (dC z) o (o.length-1)) n c=(⟨rC p (d9 (dC z) o (o.length-1)) n c,[]⟩,0):=by
  unfold lm;rw[h1];simp only;rw[XV (by rw[hlen];omega),XV (by omega),XV (by omega)]
 refine⟨_,hcr,⟨λp hp=>(by cases hp),by show(rC p _ n c).length<=_;omega,Yi _⟩,?_⟩
 rw[Zgc (by omega),hz]
 have e1:(if(n:Int)<((d9 (dC z) o (o.length-1)).pend.length:Int)/\(c:Int)=((nY (d9 (dC z) o (o.length-1)) (n:Int)).length:Int)then(n:Int).toNat+1 else(n:Int).toNat)=if n+1<o.length/\c=(jP o n).length then n+1 else n:=by
  rw[hlen,hbr,Int.toNat_natCast]
  by_cases q:n+1<o.length
  .
   rw[X3 q]
   by_cases q2:c=(jP o n).length
   . rw[X3 ⟨by omega,by omega⟩,X3 ⟨q,q2⟩]
   . rw[XV (λx=>q2 (by omega)),XV (λx=>q2 x.2)]
  . rw[XV q,XV (λx=>by omega),XV (λx=>q x.1)]
 rw[e1]
 by_cases q:n+1<o.length/\c=(jP o n).length
 . rw[X3 q,hza _ q.1]
 . rw[XV q,hza _ hn]
def AA:D->List Upd:=wX Upd.of
def Zfd(x:Upd):Upd.of x.d=x:=by simp[Upd.of,Upd.d,kW SY]
@[go_sem]theorem ZkT{f:Bool}{l:List Upd}:AA (.list f (l.map Upd.d))=l:=kW Zfd l
def getD_upd{l:List Upd}{n:Nat}(h:n<l.length):(l.map Upd.d).getD n []=[.list false (l[n]!.needs.map Chg.d),.list false (l[n]!.chgs.map Chg.d)]:=by
 simp[List.getD,h,Upd.d,getElem!_pos]
@[go_sem]theorem nrr_upd{l:List Upd}:bq (l.map Upd.d)=true:=by
 induction l with
 | nil=>rfl
 | cons x l ih=>simp only[X8,bq,ih,Upd.d,bC,D.nr,Zft];rfl
@[go_sem]theorem wkr_upd{l:List Upd}:eG (l.map Upd.d)=l.map Upd.d:=by
 induction l with
 | nil=>rfl
 | cons x l ih=>simp only[X8,eG,ih,Upd.d,wk,eB,Zay]
def yg(m:List Int):List D:=m.flatMap λn=>[.i n,.b true]
theorem Jd(n:Int)(m:List Int):yg (n::m) = .i n :: .b true::yg m:=rfl
@[go_sem]theorem kvI_one{n:Int}:yg [n]=[.i n,.b true]:=rfl
def yc(m:List Int)(n:Int):Bool:=decide (n∈m)
theorem Ut{n:Int}:∀m:List Int,(kK (yg m) (.v (.int .i64 n))).getD (.v (.bool false)) = .v (.bool (yc m n))
 | []=>rfl
 | a::m=>by
  rw[Jd];simp only[kK,mW,nU]
  by_cases e:n=a
  . subst e;simp[yc]
  have:=Ut (n:=n) m;have h2:yc (a::m) n=yc m n:=by simp[yc,e]
  rw[h2,<-this]
  simp[e]
attribute [go_sem] Ut
theorem MU{n:Int}:∀m:List Int,n ∉ m->jq (yg m) (.v (.int .i64 n)) (.v (.bool true))=yg (m++[n])
 | [],_=>rfl
 | a::m,h=>by
  have h1:n≠a:=λe=>h (by simp[e])
  rw[XY,Jd,Jd,<-MU m (λe=>h (by simp[e]))]
  simp only[jq,mW,nU]
  simp[h1]
def IsV(b:Nat)(T:TypeId)(h:H)(x:D)(l:List Zon)(nx:Nat):Prop:=x = .list true (l.map Zon.d) \/ ∃r,x = .mrow r 0 l.length/\h r=some ⟨T,l.map Zon.d⟩/\b<r/\r<nx
def ZjK{z:Zon}{o:List Zon}(h:pR z o)(hl:o.length<=7){o0:jD}(b:Eg z (dC z) o0){n m:Nat}(hn:n<o.length)(hm:m<=(jP o n).length) :
  (n+1<o.length/\m=(jP o n).length /\ ∃s,lm (d9 (dC z) o (o.length-1)) n m=(s,0)/\kw s/\lZ s=(o[n+1]!,0)) \/
  (n+1<o.length/\m≠(jP o n).length /\ ∃s,lm (d9 (dC z) o (o.length-1)) n m=(s,0)/\kw s/\lZ s=(o[n]!,0)) \/
  (¬n+1<o.length /\ ∃s,lm (d9 (dC z) o (o.length-1)) n 0=(s,0)/\kw s/\lZ s=(o[n]!,0)):=by
 by_cases q1:n+1<o.length
 .
  obtain⟨s,k1,k2,k3⟩:=WU h hl b (n:=n) (c:=m) hn (λ_=>hm) (λq=>absurd q1 q)
  by_cases q2:m=(jP o n).length
  . rw[X3 ⟨q1,q2⟩]at k3;exact .inl ⟨q1,q2,s,k1,k2,k3⟩
  rw[XV (λq=>q2 q.2)]at k3
  exact .inr (.inl ⟨q1,q2,s,k1,k2,k3⟩)
 obtain⟨s,k1,k2,k3⟩:=WU h hl b (n:=n) (c:=0) hn (λq=>absurd q q1) (λ_=>rfl)
 rw[XV (λq=>q1 q.1)]at k3
 exact .inr (.inr ⟨q1,s,k1,k2,k3⟩)
def WJ{z:Zon}{o:List Zon}{n:Nat}(h:n+1<o.length):(d9 (dC z) o (o.length-1)).pend[n]! = jP o n:=by
 rw[getElem!_pos _ n (by rw[Gw];simp[dC];omega)]
 simp[d9,dC]
theorem Zif{z:Zon}{l:List Upd}(h:vU z=false\/jl z=false\/jG z=false\/6<(l.length:Int)):xn z l=false:=by
 unfold xn
 rcases h with h|h|h|h
 . rw[h];rfl
 . rw[h];simp
 . rw[h];simp
 rw[show decide (l.length<=6)=false from Y8 (by omega)];simp
def Zig{z:Zon}{l:List Upd}(h:xn z l=true):dO z/\z.sets.length<=100/\l.length<=6 /\ ∀i,i<l.length->l[i]!.chgs.length<=10:=by
 unfold xn at h
 simp only[XU,XW]at h
 obtain⟨⟨⟨⟨h1,h2⟩,h3⟩,h4⟩,h5⟩:=h
 unfold vU at h1
 simp only[XU,XW]at h1
 refine⟨.mk' (by rw[sK];exact h2) h3,h1.1,h4,λi hi=>?_⟩
 have:=(eF _ _ _).1 h5 i (Yi _) hi
 simp only[XU,XW]at this
 exact this.2
def dI(a:Int):List D:=[.v (.string (bs [])),.i a,.i 0]
attribute [go_sem] dI
@[go_sem]theorem Zfs{l:List Int}:bq (l.map dI)=true:=by
 induction l with
 | nil=>rfl
 | cons x l ih=>simp only[X8,bq,ih,dI,bC,D.nr];rfl
@[go_sem]theorem wkr_dI{l:List Int}:eG (l.map dI)=l.map dI:=by
 induction l with
 | nil=>rfl
 | cons x l ih=>simp only[X8,eG,ih,dI,eB,wk]
def rzR(n:Int):List (List D):=[[.v (.string (bs [120])),.i 2,.i 0,.list false [[.v (.string (bs [97,46,110,115])),.i 0,.i 0]],.list false []],[.v (.string (bs [120])),.i 4,.i 0,.list false [[.v (.string (bs [])),.i n,.i 0]],.list false []]]
def rz_0{n:Int}{l:List Int}(h : ¬0<l.length):(gV n l).d=[.v (.string (bs [120])),.list false (rzR n)]:=by
 unfold gV
 rw[XV h]
 rfl
def rz_1{n:Int}{l:List Int}(h:0<l.length):(gV n l).d=[.v (.string (bs [120])),.list false (rzR n++[[.v (.string (bs [119,46,120])),.i 1,.i 0,.list false (l.map dI),.list false []]])]:=by
 unfold gV
 rw[X3 h]
 have e:(EJ l).data.map Dat.d=l.map dI:=by
  unfold EJ;rw[List.map_map];rfl
 show[D.v (.string (bs [120])),D.list false ((rzS n++[(⟨EJ l,[]⟩:Sgd)]).map Sgd.d)]=_
 rw[YT,X8]
 show[D.v (.string (bs [120])),D.list false (rzR n++[[.v (.string (bs [119,46,120])),.i 1,.i 0,.list false ((EJ l).data.map Dat.d),.list false []]])]=_
 rw[e]
def rzC:Chg:=⟨1,⟨[119,46,120],1,0,[⟨[],7,0⟩]⟩⟩
def chgs_rz{f g:Bool}:GH (.list f [[.v (.int .i64 1),.v (.string (bs [119,46,120])),.v (.int .i64 1),.v (.int .i64 0),.list g [[.v (.string (bs [])),.v (.int .i64 7),.v (.int .i64 0)]]]])=[rzC]:=rfl
def ints_nil{f:Bool}:Dn (.list f [])=[]:=rfl
def ints_7{f:Bool}:Dn (.list f [[.v (.int .i64 7)]])=[7]:=rfl
attribute[go_sem]chgs_rz ints_nil ints_7
@[go_sem]theorem ZkO{f:Bool}{a b:Zon}:mr (.list f [[.v (.string (bs a.apex)),.list false (a.sets.map Sgd.d)],[.v (.string (bs b.apex)),.list false (b.sets.map Sgd.d)]])=[a,b]:=Zaf (l:=[a,b])
end Go.Jn
namespace Go.DL
variable {P : Program} {C : aS} {ro : Option Nat} {Q : Exit -> S -> Prop}
theorem Ziy [Glob P]{c:Code}{s:S}{α:Type}(keep:List Nat)(A:α->Prop)(μ:α->Nat)(tb:α->List (Nat×D))(hh:α->H)(gq:α->Nat)(a0:α){fx:List (Nat×D)}(hfx:keep.map (λi=>(i,s.t i))=fx)(hA:A a0)(ht : ∀p∈tb a0,Tb s.t p)(hq : ∀r,hh a0 r=s.h r\/hh a0 r=none)(hn:s.nx<=gq a0)
  (round : ∀a,A a->DW P ro c (thenS (λs'=>∃a',A a'/\μ a'<μ a/\(∀p∈tb a',Tb s'.t p)/\(∀p∈fx,Tb s'.t p)/\(∀r,hh a' r=s'.h r\/hh a' r=none)/\s'.nx<=gq a'/\s'.n=s.n/\s'.e=s.e) Q) { n:=s.n,t:=tab (tb a++fx),h:=hh a,nx:=gq a,e:=s.e }):DW P ro (.loop c) Q s :=
 VZ A μ (λa=>tb a++fx) hh gq a0 hA (λp hp=>(Yx.1 hp).elim (ht p) (MG hfx p)) hq hn λa ha=>(round a ha).mono λe s' hq=>by
  cases e with
  | normal =>
   obtain⟨a',h1,h2,h3,h4,h5,h6,h7,h8⟩:=hq;exact⟨a',h1,h2,λp hp=>(Yx.1 hp).elim (h3 p) (h4 p),h5,h6,h7,h8⟩
  | _=>exact hq
def ZiB [Glob P]{x y:Code}{s:S}{α:Type}(keep:List Nat)(A:α->Prop)(tb:α->List (Nat×D))(hh:α->H)(gq:α->Nat){fx:List (Nat×D)}(_hfx:keep.map (λi=>(i,s.t i))=fx)
  (h:DW P ro x (thenS (λs'=>∃a,A a/\(∀p∈tb a,Tb s'.t p)/\(∀p∈fx,Tb s'.t p)/\(∀r,hh a r=s'.h r\/hh a r=none)/\s'.nx<=gq a/\s'.n=s.n/\s'.e=s.e) Q) s)
  (k : ∀a,A a->DW P ro y Q { n:=s.n,t:=tab (tb a++fx),h:=hh a,nx:=gq a,e:=s.e }):DW P ro (.seq x y) Q s:=by
 refine Zit _ h ?_
 rintro s' ⟨a,h1,h2,h3,h4,h5,h6,h7⟩
 refine Oa (tb a++fx) (hh a) (gq a) (λp hp=>(Yx.1 hp).elim (h2 p) (h3 p)) h4 h5 ?_
 rw[h6,h7]
 exact k a h1
def Less(h' h:H):Prop:=∀q,h' q=h q\/h' q=none
def Dj(h:H):Less h h:=λ_=>.inl rfl
def ZhW{h:H}{r:Nat}{x:eZ}(hr:h r=some x):∀q,upd (upd h r none) r (some x) q=h q\/upd (upd h r none) r (some x) q=none:=by
 intro q
 by_cases e:q=r
 . subst e;left;rw[bN,hr]
 left;rw[aK _ _ _ _ e,aK _ _ _ _ e]
def Vt{h:H}{r r1 r2:Nat}{x:Option eZ}{y:Option eZ}(h1:r1=r\/h r1=none):∀q,upd (upd h r none) r2 y q=upd (upd (upd (upd h r none) r1 x) r1 none) r2 y q\/upd (upd h r none) r2 y q=none:=by
 intro q
 by_cases e:q=r2
 . subst e;left;rw[bN,bN]
 rw[aK _ _ _ _ e,aK _ _ _ _ e]
 by_cases e1:q=r1
 .
  subst e1
  right
  rcases h1 with rfl|h1
  . rw[bN]
  by_cases e2:q=r
  . subst e2;rw[bN]
  rw[aK _ _ _ _ e2,h1]
 left;rw[aK _ _ _ _ e1,aK _ _ _ _ e1]
def HM.recell2 [Glob P]{h h1:H}{g g':Mem}{w:World}(hm:HM P h g w)(hm1:HM P h1 g' w)(mono:ax g g' w w){q:Nat}{ty:TypeId}{rows rows':List (List D)}(hq:h q=some ⟨ty,rows⟩)(hq1:h1 q=some ⟨ty,rows⟩)(hl:rows'.length=rows.length)
  (hc : ∀(i:Nat)(row':List D),rows'[i]? = some row' -> ∃row:List D,rows[i]? = some row/\row'.length=row.length /\ ∀(j:Nat)(d':D),row'[j]? = some d' -> ∃d,row[j]? = some d /\ ∀v,ag w g d v->ag w g' d' v):HM P (upd h1 q (some ⟨ty,rows'⟩)) g' w:=by
 refine⟨λx hx=>hm1.dead x ?_,λx bl hx=>?_,hm1.inj,hm1.used,hm1.imm,hm1.gr⟩
 .
  by_cases e:x=q
  . subst e;rw[bN]at hx;cases hx
  rwa [aK _ _ _ _ e]at hx
 by_cases e:x=q
 .
  subst e;rw[bN]at hx
  cases hx
  obtain⟨blk,c,e1,e2,e3,e4,e5⟩:=hm1.blk x _ hq1;obtain⟨blk2,c2,f1,f2,f3,f4,f5⟩:=hm.blk x _ hq;have eM:g'.M x=g.M x:=by
   rcases mono.M x (hm.used x (by rw[f1];simp))with k|k
   . exact k
   rw[k]at e1;cases e1
  rw[eM,f1]at e1
  cases e1
  refine⟨blk,c,eM.trans f1,e2,by show rows'.length<=c;rw[hl];exact e3,e4,?_⟩
  rcases e5 with e5|⟨b,cur,rfl,h6,h7,h8,h9⟩
  . exact .inl e5
  refine .inr ⟨b,cur,rfl,h6,h7,h8,λi row' hi=>?_⟩
  rcases f5 with⟨f5,_⟩|⟨b2,cur2,k5,k6,k7,k8,k9⟩
  . cases f5
  cases k5
  have k6:=h6.uniq k6;subst k6;obtain⟨row,r1,r2,r3⟩:=hc i row' hi;have hk:=k9 i row r1;refine⟨r2.trans hk.1,λj d' hd=>?_⟩
  obtain⟨d,d1,d2⟩:=r3 j d' hd;obtain⟨u,u3,u4,u5⟩:=hk.2 j d d1;exact⟨u,u3,u4,d2 u u5⟩
 rw[aK _ _ _ _ e]at hx
 exact hm1.blk x bl hx
theorem one_cell{row:List D}{j0:Nat}{d0 d1:D}(hj:row[j0]? = some d0){w:World}{g g':Mem}(hd : ∀v,ag w g d0 v->ag w g' d1 v)(ho : ∀d v,ag w g d v->ag w g' d v) :
  ∀(i:Nat)(row':List D),[row.set j0 d1][i]? = some row' -> ∃rw0:List D,[row][i]? = some rw0/\row'.length=rw0.length /\ ∀(j:Nat)(d':D),row'[j]? = some d' -> ∃d,rw0[j]? = some d /\ ∀v,ag w g d v->ag w g' d' v:=by
 intro i row' hi
 cases i with
 | succ i=>simp at hi
 | zero =>
  simp at hi
  subst hi;refine⟨row,rfl,by simp,λj d' hd'=>?_⟩
  by_cases e:j=j0
  .
   subst e;rw[ZX (by exact(X7.1 hj).1)]at hd'
   cases hd'
   exact⟨d0,hj,hd⟩
  rw[List.getElem?_set_ne (Ne.symm e)]at hd';exact⟨d',hd',ho d'⟩
def yG [Glob P]{c:Code}{s:S}(r j:Nat)(ty0 ty:TypeId){row:List D}(hr:s.h r=some ⟨ty0,[row]⟩)(hj:row[j]? = some (.list true []))(hty:0<P.cellsOf ty)(h:DW P ro c Q { n:=s.n,t:=s.t,h:=upd (upd s.h s.nx (some ⟨ty,[]⟩)) r (some ⟨ty0,[row.set j (.mrow s.nx 0 0)]⟩),nx:=s.nx+1,e:=s.e }):DW P ro c Q s:=by
 intro B g a w hs hU
 have hnu : ¬g.U s.nx:=λh=>Nat.lt_irrefl _ (hU _ h)
 obtain⟨g',q1,q2,q3,q4,q5⟩:=hs.mem.putNone (h':=upd s.h s.nx (some ⟨ty,[]⟩)) s.nx ⟨ty,[]⟩ hnu (bN _ _ _) (λr hr=>.inl (aK _ _ _ _ hr)) hty rfl
 have hrn:r≠s.nx:=by
  intro e;subst e;obtain⟨blk,c,h1,_⟩:=hs.mem.blk _ _ hr;exact hnu (hs.mem.used _ (by rw[h1];simp))
 have hm:=HM.recell2 (rows':=[row.set j (.mrow s.nx 0 0)]) hs.mem q4 q5 hr (by rw[aK _ _ _ _ hrn];exact hr) rfl (one_cell hj (λv hv=>by
  obtain⟨x,rfl⟩:=Zio hv;refine .mrow _ _ _ _ ⟨x,0,rfl,XX _,λh=>absurd h om⟩ ((q2 _).2 (.inr rfl)) λblk c sz he=>?_
  rw[q1]at he
  cases he
  exact⟨⟨XX _,Yi _⟩,.inl ⟨rfl,x,rfl⟩⟩) λd v hv=>hv.later hs.mem q5)
 have hst:St P B { n:=s.n,t:=s.t,h:=upd (upd s.h s.nx (some ⟨ty,[]⟩)) r (some ⟨ty0,[row.set j (.mrow s.nx 0 0)]⟩),nx:=s.nx+1,e:=s.e } g' a w :=
  ⟨hs.sz,λj=>(hs.tm j).later hs.mem q5,hm,hs.df.later hs.mem q5,Env.later hs.mem q5 hs.en,hs.bd⟩
 exact wpIn_mono (h B g' a w hst (λr hr=>by
  rcases(q2 r).1 hr with h|h
  . exact Nat.lt_succ_of_lt (hU r h)
  subst h;exact Nat.lt_succ_self _)) λe a' w'⟨s',g'',q,r,m,u,v⟩=>⟨s',g'',q,r,q5.toX.trans m,u,v⟩
def ZiD [Glob P]{c:Code}{s:S}(i r:Nat){ty:TypeId}{rows:List (List D)}{off len:Nat}(hi:s.t i = .mrow r off len)(hr:s.h r=some ⟨ty,rows⟩)(hl:off+len<=rows.length)(hn:bq rows=true)(h:DW P ro c Q { n:=s.n,t:=upd s.t i (.list false ((rows.drop off).take len)),h:=upd s.h r none,nx:=s.nx,e:=s.e }):DW P ro c Q s:=by
 intro B g a w hs hU
 have mono:=DK g r w
 have hst:St P B { n:=s.n,t:=upd s.t i (.list false ((rows.drop off).take len)),h:=upd s.h r none,nx:=s.nx,e:=s.e } (nT g r) a w:=by
  refine⟨hs.sz,λj=>?_,F8 hs.mem r,hs.df.later hs.mem mono,Env.later hs.mem mono hs.en,hs.bd⟩
  by_cases e:j=i
  . subst e;simp only[bN];have hj:=hs.tm j;rw[hi]at hj;exact NE hs.mem hr hn hl hj
  simp only[aK _ _ _ _ e];exact(hs.tm j).later hs.mem mono
 exact wpIn_mono (h B (nT g r) a w hst hU) λe a' w'⟨s',g'',q,r,m,u,v⟩=>⟨s',g'',q,r,mono.toX.trans m,u,v⟩
def yI [Glob P]{c:Code}{s:S}(q j r:Nat){ty ty0:TypeId}{rows:List (List D)}{row:List D}{off len:Nat}(hq:s.h q=some ⟨ty0,[row]⟩)(hj:row[j]? = some (.mrow r off len))(hr:s.h r=some ⟨ty,rows⟩)(lH:q≠r)(hl:off+len<=rows.length)(hn:bq rows=true)
  (h:DW P ro c Q { n:=s.n,t:=s.t,h:=upd (upd s.h r none) q (some ⟨ty0,[row.set j (.list false ((rows.drop off).take len))]⟩),nx:=s.nx,e:=s.e }):DW P ro c Q s:=by
 intro B g a w hs hU
 have mono:=DK g r w
 have hm:=HM.recell2 (rows':=[row.set j (.list false ((rows.drop off).take len))]) hs.mem (F8 hs.mem r) mono hq (by rw[aK _ _ _ _ lH];exact hq) rfl (one_cell hj (λv hv=>NE hs.mem hr hn hl hv) λd v hv=>hv.later hs.mem mono)
 have hst:St P B { n:=s.n,t:=s.t,h:=upd (upd s.h r none) q (some ⟨ty0,[row.set j (.list false ((rows.drop off).take len))]⟩),nx:=s.nx,e:=s.e } (nT g r) a w :=
  ⟨hs.sz,λj=>(hs.tm j).later hs.mem mono,hm,hs.df.later hs.mem mono,Env.later hs.mem mono hs.en,hs.bd⟩
 exact wpIn_mono (h B (nT g r) a w hst hU) λe a' w'⟨s',g'',q,r,m,u,v⟩=>⟨s',g'',q,r,mono.toX.trans m,u,v⟩
def Vr [Glob P]{h:H}{g:Mem}{w:World}(hm:HM P h g w){r:Nat}{bl:eZ}(hr:h r=some bl){kv:List D}(hk:qy bl=some kv)(hn:bC kv=true){v:Value}(hv:ag w g (.mp r) v):ag w (nT g r) (.fmap kv) v:=by
 obtain⟨b,es,gP,rfl,h1,h2,h3,_⟩:=MH hm hv hr hk
 exact .fmap kv b es gP (.inr ⟨_,_,h3⟩) h1 h2.1 λk d x e1 e2=>(h2.2 k d x e1 e2).clean (tH hn (Yj e1)) λb hb=>.inl hb
def Oc [Glob P]{c:Code}{s:S}(i r:Nat){d d':D}(hi:s.t i=d)(hd : ∀(g:Mem)(w:World)(v:Value),HM P s.h g w->ag w g d v->ag w (nT g r) d' v)(h:DW P ro c Q { n:=s.n,t:=upd s.t i d',h:=upd s.h r none,nx:=s.nx,e:=s.e }):DW P ro c Q s:=by
 intro B g a w hs hU
 have mono:=DK g r w
 have hst:St P B { n:=s.n,t:=upd s.t i d',h:=upd s.h r none,nx:=s.nx,e:=s.e } (nT g r) a w:=by
  refine⟨hs.sz,λj=>?_,F8 hs.mem r,hs.df.later hs.mem mono,Env.later hs.mem mono hs.en,hs.bd⟩
  by_cases e:j=i
  . subst e;simp only[bN];have hj:=hs.tm j;rw[hi]at hj;exact hd g w _ hs.mem hj
  simp only[aK _ _ _ _ e];exact(hs.tm j).later hs.mem mono
 exact wpIn_mono (h B (nT g r) a w hst hU) λe a' w'⟨s',g'',q,r,m,u,v⟩=>⟨s',g'',q,r,mono.toX.trans m,u,v⟩
def V3 [Glob P]{c:Code}{s:S}(i r:Nat){bl:eZ}{kv:List D}(hi:s.t i = .mp r)(hr:s.h r=some bl)(hk:qy bl=some kv)(hn:bC kv=true)(h:DW P ro c Q { n:=s.n,t:=upd s.t i (.fmap kv),h:=upd s.h r none,nx:=s.nx,e:=s.e }):DW P ro c Q s :=
 Oc i r hi (λ_ _ _ hm hv=>Vr hm hr hk hn hv) h
def ZiF [Glob P]{c:Code}{s:S}(q j r:Nat){ty0:TypeId}{row:List D}{bl:eZ}{kv:List D}(hq:s.h q=some ⟨ty0,[row]⟩)(hj:row[j]? = some (.mp r))(hr:s.h r=some bl)(hk:qy bl=some kv)(lH:q≠r)(hn:bC kv=true)
  (h:DW P ro c Q { n:=s.n,t:=s.t,h:=upd (upd s.h r none) q (some ⟨ty0,[row.set j (.fmap kv)]⟩),nx:=s.nx,e:=s.e }):DW P ro c Q s:=by
 intro B g a w hs hU
 have mono:=DK g r w
 have hm:=HM.recell2 (rows':=[row.set j (.fmap kv)]) hs.mem (F8 hs.mem r) mono hq (by rw[aK _ _ _ _ lH];exact hq) rfl (one_cell hj (λv hv=>Vr hs.mem hr hk hn hv) λd v hv=>hv.later hs.mem mono)
 have hst:St P B { n:=s.n,t:=s.t,h:=upd (upd s.h r none) q (some ⟨ty0,[row.set j (.fmap kv)]⟩),nx:=s.nx,e:=s.e } (nT g r) a w :=
  ⟨hs.sz,λj=>(hs.tm j).later hs.mem mono,hm,hs.df.later hs.mem mono,Env.later hs.mem mono hs.en,hs.bd⟩
 exact wpIn_mono (h B (nT g r) a w hst hU) λe a' w'⟨s',g'',q,r,m,u,v⟩=>⟨s',g'',q,r,mono.toX.trans m,u,v⟩
def Vq [Glob P]{h:H}{g:Mem}{w:World}(hm:HM P h g w){r:Nat}{ty:TypeId}{row:List D}(hr:h r=some ⟨ty,[row]⟩)(hn:bC row=true){v:Value}(hv:ag w g (.mptr r 0 0) v):ag w (nT g r) (.eptr row) v:=by
 let h1:H:=λx=>if x=r then h r else none
 have hsub : ∀x,h1 x=h x\/h1 x=none:=λx=>by
  by_cases e:x=r
  . subst e;exact .inl (X3 rfl)
  exact .inr (XV e)
 have hm1:=hm.only hsub
 have e1:h1 r=some ⟨ty,[row]⟩:=by show(if r=r then h r else none)=_;rw[X3 rfl];exact hr
 have e2:jL (.mptr r 0 0) h1=row:=by simp only[jL,e1];rfl
 have h0 : ∀d:D,d.nr=true->D5 h1 d=d/\Gu h1 d:=by
  intro d hd
  cases d<;>first|exact⟨rfl,trivial⟩|(simp[D.nr]at hd;done)
 have:=Oi hm1 (vC hv.only) ⟨by rw[e1];rfl,by rw[e2];exact λc hc=>(h0 c (tH hn hc)).2⟩
 rw[e2]at this
 have e3:row.map (D5 h1)=row:=by
  conv=>rhs;rw[<-List.map_id row]
  exact Zd λc hc=>(h0 c (tH hn hc)).1
 rw[e3]at this
 refine this.clean hn λb hb=>?_
 rcases hb with hb|⟨x,c,sz,hb⟩
 . exact .inl hb
 have hb2:(if(h1 x).isSome then g.M x else none)=some (some b,c,sz):=hb
 split at hb2
 .
  rename_i hx
  have:x=r:=by
   refine YV λe=>?_
   have:h1 x=none:=XV e;rw[this]at hx;cases hx
  subst this;exact .inr ⟨c,sz,hb2⟩
 cases hb2
def qR [Glob P]{c:Code}{s:S}(i r:Nat){ty:TypeId}{row:List D}(hi:s.t i = .mptr r 0 0)(hr:s.h r=some ⟨ty,[row]⟩)(hn:bC row=true)(h:DW P ro c Q { n:=s.n,t:=upd s.t i (.eptr row),h:=upd s.h r none,nx:=s.nx,e:=s.e }):DW P ro c Q s :=
 Oc i r hi (λ_ _ _ hm hv=>Vq hm hr hn hv) h
def av(P:Program)[Glob P](ro:Option Nat)(ops:Array Oper)(i b:Nat)(s:S)(Q:Exit->S->Prop):Prop :=
 ∀(B:dn)(g0 g:Mem)(a:Act)(w0 w:World),St P B s g a w->ax g0 g w0 w->(∀r,g.U r->r<b+i) ->
  wpOpsIn (Fw ro) 0 P ops (λe a' w'=>∃s' g',Q e s'/\St P B s' g' a' w'/\gJ s.e.x g0 g' w0 w'/\(∀r,g'.U r->r<s'.nx)/\s'.e.x=s.e.x) (List.range' i (ops.size-i)) a w
def eY(P:Program)[Glob P](C:aS)(ops:Array Oper)(i k:Nat)(o:Oper)(b:Nat)(s s1:S):Prop:=i<=k/\ops[k]? = some o/\o.guard=none/\aZ P (words P) C ops.toList b i ((ops.toList.drop i).take (k-i)) s=s1/\s1.ok/\dK s1.n o.dst=true
def xw [Glob P]{s:S}{id:Nat}{ops:Array Oper}(h:av P ro ops 0 s.nx { n:=s.n,t:=s.t,h:=s.h,nx:=s.nx+ops.size,ok:=True,e:=s.e } Q):DW P ro (.region id ops false) Q s:=by
 intro B g a w hs hU
 refine wpIn_region ?_
 rw[Ze]
 exact h B g g a w w ⟨hs.sz,hs.tm,hs.mem,hs.df,hs.en,hs.bd⟩ (ax.refl _ _) (λr hr=>by have:=hU r hr;omega)
theorem NW [Glob P](L:List Oper)(b:Nat):∀(l:List Oper)(i:Nat)(u:S),(aZ P (words P) C L b i l u).nx=u.nx:=by
 intro l
 induction l with
 | nil=>intro i u;rfl
 | cons x l ih=>intro i u;simp only[aZ];rw[ih,Cb.2]
theorem uO [Glob P](L:List Oper)(b:Nat):∀(l:List Oper)(i:Nat)(u:S),(aZ P (words P) C L b i l u).e=u.e:=by
 intro l
 induction l with
 | nil=>intro i u;rfl
 | cons x l ih =>
  intro i u;simp only[aZ];rw[ih];unfold dJ
  split<;>rfl
def wH [Glob P]{s s2:S}{ops:Array Oper}{i b:Nat}(hi:i<=ops.size)(he:aZ P (words P) C ops.toList b i (ops.toList.drop i) s=s2)(hok:s2.ok)(hn:s.nx=b+ops.size)(hq:Q .normal s2.clear):av P ro ops i b s Q:=by
 intro B g0 g a w0 w hs hm hU
 have e3:(ops.toList.drop i).take (ops.size-i)=ops.toList.drop i:=Yl (by simp)
 have:=uM (ro:=ro) (P:=P) (C:=C) (B:=B) (ops:=ops) (b:=b) (n:=0) (rest:=[]) (g0:=g0) (w0:=w0) (Q:=λe a' w'=>∃s' g',Q e s'/\St P B s' g' a' w'/\gJ s.e.x g0 g' w0 w'/\(∀r,g'.U r->r<s'.nx)/\s'.e.x=s.e.x) (ops.size-i) i s g a w hs hm hU om
  (by rw[e3,he];exact hok) λg'' a'' w'' p1 p2 p3=>by
   rw[e3,he]at p1;refine⟨_,g'',hq,p1.clear,p2.toX,λr hr=>?_,?_⟩
   .
    have h3:=p3 r hr;have h4:=NW (P:=P) (C:=C) ops.toList b (ops.toList.drop i) i s;rw[he]at h4
    show r<s2.nx
    rw[h4,hn];omega
   have h5:=uO (P:=P) (C:=C) ops.toList b (ops.toList.drop i) i s;rw[he]at h5
   show s2.e.x=s.e.x
   rw[h5]
 rw[Yv]at this
 exact this
def EI [Glob P]{s s1:S}{ops:Array Oper}{i b:Nat}(k:Nat){o:Oper}{f:Operand}{args:Array Operand}{ts:Array TypeId}{aX:FuncId}{first aD xs:List D}(R:D->H->Nat->Prop)(hik:i<=k)
  (ho:ops[k]? = some o)(hop:o.op = .call { callee:=.value f,args:=args,argTypes:=ts })(hg:o.guard=none)
  (he:aZ P (words P) C ops.toList b i ((ops.toList.drop i).take (k-i)) s=s1)(hok:s1.ok)(hd:dK s1.n o.dst=true)
  (hf:s1.ev f = .fn (.func aX) first aD)(hxg:(args.toList.map s1.ev).all sg=true)(hx:((args.toList.map s1.ev).map sd).map wk=xs)(hct:bU P aX (first++xs++aD) s1.h (b+k) R)
  (hk : ∀res h' n',R res h' n'->av P ro ops (k+1) n' { n:=s1.n,t:=s1.put o.dst res,h:=h',nx:=n'+ops.size,ok:=True,e:=s1.e } Q):av P ro ops i b s Q:=by
 intro B g0 g a w0 w hs hm hU
 have hlt:k<ops.size:=(Yk.1 ho).1
 have hr:List.range' i (ops.size-i)=List.range' i (k-i)++(k::List.range' (k+1) (ops.size-(k+1))):=by
  have:ops.size-i=(k-i)+((ops.size-(k+1))+1):=by omega
  rw[this,<-Zl,Y9];have e1:i+(k-i)=k:=by omega
  rw[e1]
 rw[hr]
 refine uM (C:=C) (b:=b) (k-i) i s g a w hs hm hU (by omega) o6a λg1 a1 w1 hs1 hm1 eH=>?_
 rw[he]at hs1
 have eH : ∀r,g1.U r->r<b+k:=λr hr=>by have:=eH r hr;omega
 have hse:s1.e=s.e:=by rw[<-he];exact uO _ _ _ _ _
 rw[wpOpsIn_cons]
 unfold wpOpIn
 rw[ho]
 simp only
 have hw:Region.wanted o (yielded ops a1.tmps)=true:=by simp[Region.wanted,hg]
 rw[X3 hw]
 have hdef : ∀c,o.op ≠ .defer c:=by intro c e;rw[e]at hop;cases hop
 have j6:o.semAt (Fw ro).round a1.eval=execOp a1.eval o:=Oper.semAt_eq _ _ _ hdef
 refine⟨λ_ _=>trivial,?_⟩
 rw[j6]
 obtain⟨hbd,hct⟩:=hct
 have hfr:=bX hs1 f
 rw[hf]at hfr
 have fQ:=aB.wk (wC (vV hs1 args.toList) hxg)
 rw[hx]at fQ
 generalize hv:a1.eval f=vf at hfr
 cases hfr with|fn _ _ _ fs cs l1 l2 r1 r2 =>
 have hrun:(execOp a1.eval o).run P w1 = .ok (.enter aX (fs++args.map a1.eval++cs)) w1:=by
  simp[execOp,hop,resolve,Deferred.ofValue,hv,invoke,vY hbd]
 rw[hrun,Oper.uponIn_enter]
 have e:fs++args.map a1.eval++cs=(fs.toList++args.toList.map a1.eval++cs.toList).toArray:=by apply Zq;simp
 rw[e]
 refine⟨λh=>by simp[Fw,Fence.wide]at h,yO ((hct w1 g1 _ hs1.mem eH (aB.append (aB.append ⟨by simpa using l1,λi d x h1 h2=>r1 i d x h1 (by simpa using h2)⟩ fQ) ⟨by simpa using l2,λi d x h1 h2=>r2 i d x h1 (by simpa using h2)⟩)).mono ?_)⟩
 rintro e w' ⟨v,g',res,h',n',hR,rfl,q1,q2,q3,q4⟩
 have hs2:=mI hs1 q3 q2 hd q1 True
 have:=hk res h' n' hR B g0 g' (a1.put o.dst v) w0 w' ⟨hs2.sz,hs2.tm,hs2.mem,hs2.df,hs2.en,hs2.bd⟩ (hm1.trans q3) (λr hr=>by have:=q4 r hr;omega)
 rw[hse]at this
 exact this
def kE [Glob P]{s s1:S}{ops:Array Oper}{i b:Nat}(k:Nat){o:Oper}(A:D->H->Prop)(hik:i<=k)(ho:ops[k]? = some o)(hg:o.guard=none)(hdef : ∀c,o.op ≠ .defer c)
  (he:aZ P (words P) C ops.toList b i ((ops.toList.drop i).take (k-i)) s=s1)(hok:s1.ok)(hd:dK s1.n o.dst=true)
  (hdo : ∀(B:dn)(g:Mem)(a:Act)(w:World),St P B s1 g a w -> ¬g.U (b+k) -> ∃d h',A d h'/\Does P g w (b+k) ((execOp a.eval o).run P w) d h')
  (hk : ∀d h',A d h'->av P ro ops (k+1) b { n:=s1.n,t:=s1.put o.dst d,h:=h',nx:=s1.nx,ok:=True,e:=s1.e } Q):av P ro ops i b s Q:=by
 intro B g0 g a w0 w hs hm hU
 have hlt:k<ops.size:=(Yk.1 ho).1
 have hr:List.range' i (ops.size-i)=List.range' i (k-i)++(k::List.range' (k+1) (ops.size-(k+1))):=by
  have:ops.size-i=(k-i)+((ops.size-(k+1))+1):=by omega
  rw[this,<-Zl,Y9];have e1:i+(k-i)=k:=by omega
  rw[e1]
 rw[hr]
 refine uM (C:=C) (b:=b) (k-i) i s g a w hs hm hU (by omega) o6a λg1 a1 w1 hs1 hm1 eH=>?_
 rw[he]at hs1
 have eH : ∀r,g1.U r->r<b+k:=λr hr=>by have:=eH r hr;omega
 have hse:s1.e=s.e:=by rw[<-he];exact uO _ _ _ _ _
 rw[wpOpsIn_cons]
 unfold wpOpIn
 rw[ho]
 simp only
 have hw:Region.wanted o (yielded ops a1.tmps)=true:=by simp[Region.wanted,hg]
 rw[X3 hw]
 have j6:o.semAt (Fw ro).round a1.eval=execOp a1.eval o:=Oper.semAt_eq _ _ _ hdef
 refine⟨λ_ _=>trivial,?_⟩
 rw[j6]
 obtain⟨d,h',hA,v,g',w',hrun,q1,q2,q3,q4⟩:=hdo B g1 a1 w1 hs1 (λh=>Nat.lt_irrefl _ (eH _ h))
 have hend : ∀(v:Value)(g':Mem)(w':World),ag w' g' d v->HM P h' g' w'->ax g1 g' w1 w'->(∀r,g'.U r->g1.U r\/r=b+k)->wpOpsIn (Fw ro) 0 P ops (λe a' w'=>∃s' g',Q e s'/\St P B s' g' a' w'/\gJ s.e.x g0 g' w0 w'/\(∀r,g'.U r->r<s'.nx)/\s'.e.x=s.e.x) (List.range' (k+1) (ops.size-(k+1))) (a1.put o.dst v) w':=by
  intro v g' w' q1 q2 q3 q4;have hs2:=mI hs1 q3 q2 hd q1 True;have:=hk d h' hA B g0 g' (a1.put o.dst v) w0 w' ⟨hs2.sz,hs2.tm,hs2.mem,hs2.df,hs2.en,hs2.bd⟩ (hm1.trans q3) (λr hr=>by
   rcases q4 r hr with h|h
   . have:=eH r h;omega
   omega)
  rw[hse]at this;exact this
 rcases hrun with hrun|⟨hrun,rfl⟩
 . rw[hrun,Oper.uponIn_value];exact hend v g' w' q1 q2 q3 q4
 rw[hrun,Oper.uponIn_skip];exact hend undef g' w' q1 q2 q3 q4
theorem EH [Glob P]{s s1:S}{ops:Array Oper}{i b:Nat}(k:Nat){o:Oper}{t e t':TypeId}{x:Operand}{f:Bool}{rows:List (List D)}(hik:i<=k)(ho:ops[k]? = some o)(hg:o.guard=none)
  (hop:o.op = .binOp .eql t x (.const (.slice none 0 0)) t')(ht:P.underlying t=some (.slice e))
  (he:aZ P (words P) C ops.toList b i ((ops.toList.drop i).take (k-i)) s=s1)(hok:s1.ok)(hd:dK s1.n o.dst=true)(hx:s1.ev x = .list f rows)
  (hk : ∀y:Bool,(y=true->rows=[])->av P ro ops (k+1) b { n:=s1.n,t:=s1.put o.dst (.b y),h:=s1.h,nx:=s1.nx,ok:=True,e:=s1.e } Q):av P ro ops i b s Q:=by
 refine kE (C:=C) k (λd h'=>∃y:Bool,d = .b y/\h'=s1.h/\(y=true->rows=[])) hik ho hg (λc e=>by rw[hop]at e;cases e) he hok hd (λB g a w hs _=>?_) (λd h'⟨y,hy,hh,hr⟩=>by subst hy;subst hh;exact hk y hr)
 have hr:=bX hs x
 rw[hx]at hr
 have key : ∃(ad:Option Addr)(n c:Nat),a.eval x = .slice ad n c/\(ad=none->rows=[]):=by
  generalize a.eval x=v at hr
  cases hr with
  | empty _ ad cap hf hm=>exact⟨ad,0,cap,rfl,λ_=>rfl⟩
  | list _ _ ad cap size cv hI hl hf=>exact⟨some ad,_,cap,rfl,λh=>by cases h⟩
 obtain⟨ad,n,c,hv,hn⟩:=key
 refine⟨.b ad.isNone,s1.h,⟨ad.isNone,rfl,rfl,λh=>hn (Zb.1 h)⟩,.bool ad.isNone,g,w,.inl ?_,.v _,hs.mem,ax.refl _ _,λr hr=>.inl hr⟩
 have hrun:=Go.Lib.run_eql_slice_nil (P:=P) w t e ad n c 0 0 ht
 have hc:a.eval (.const (.slice none 0 0)) = .slice none 0 0:=rfl
 simp[execOp,hop,hv,hc,eqGuard,hrun]
end Go.DL
namespace Go.DL
open Go.RowKit
variable {P : Program} {C : aS} {B : dn}

end Go.DL
namespace Go.DL
variable {P : Program} {ro : Option Nat} {Q : Exit -> S -> Prop}
attribute [go_sem] List.take_length bne_self_eq_false
@[go_sem]theorem self_ne{n k:Nat}(h:0<k):(n=n+k)=False:=YO (by omega)
@[go_sem]theorem ne_self{n k:Nat}(h:0<k):(n+k=n)=False:=YO (by omega)
def ok0{p:Prop}(h:p:=by first|done|(repeat' (with_reducible apply And.intro))<;>first|omega|(with_reducible assumption)|(intros;omega)|(intros;simp only[XW,X4,Yc,XU,Yd,Yb,Yr]at *;omega)|(simp_all;done)|(simp_all;omega)):p:=h
theorem ev{α:Sort _}{a b:α}(h:a=b:=by first|(simp only[go_sem,ff];exact rfl)|(simp only[go_sem,ff];done)|exact rfl):a=b:=h
def iv{p:Prop}(h:p:=by first|omega|(with_reducible assumption)|rfl|(simp_all;done)|(simp_all;omega)|(dsimp only;first|omega|(with_reducible assumption)|rfl|(simp_all;done)|(simp_all;omega))):p:=h
section
variable [Glob P] (C : aS) {s : S} {n nx : Nat} {t : Nat -> D} {h : H} {ok : Prop} {e : Env} {id : Nat} {ops : Array Oper} {draw : Bool} {x y c : Code}
def aa(hq:DW P ro y Q ⟨n,t,h,nx,True,e⟩)(he:exec P (words P) C ops.toList s=⟨n,t,h,nx,ok,e⟩:=by simp only[go_sem,ff];exact rfl)(hd:draw=true->P.follows .mixedOrders=true/\qZ C ops.toList=true/\kr ops.toList=true:=by intro hdr;first|(cases hdr;done)|exact⟨o7,by kernel_rfl,by kernel_rfl⟩)
  (hok:ok:=by(try simp only[go_sem,ff]);all_goals exact ok0):DW P ro (.seq (.region id ops draw) y) Q s:=Af he hd hok hq
def ai(hq:Q .normal ⟨n,t,h,nx,True,e⟩)(he:exec P (words P) C ops.toList s=⟨n,t,h,nx,ok,e⟩:=by simp only[go_sem,ff];exact rfl)(hd:draw=true->P.follows .mixedOrders=true/\qZ C ops.toList=true/\kr ops.toList=true:=by intro hdr;first|(cases hdr;done)|exact⟨o7,by kernel_rfl,by kernel_rfl⟩)
  (hok:ok:=by(try simp only[go_sem,ff]);all_goals exact ok0):DW P ro (.region id ops draw) Q s:=Ziw he hd hok hq
end
section
variable [Glob P] {s : S} {x y c : Code}
def cd{o:Operand}{b:Bool}{p q:Prop}(ht:p->DW P ro x Q s)(hf:q->DW P ro y Q s)(hc:s.ev o = .v (.bool b):=by first|(simp only[go_sem,ff];exact rfl)|exact rfl)
  (hp:(b=true)=p:=by first|(simp only[XW,X4,Yc,XU,Yd,Yb,Yr,Yy,YB,Zi,ZC,Zo,ne_eq];exact rfl)|exact rfl)
  (hq:(b=false)=q:=by first|(simp only[XW,X4,Yc,XU,Yd,Yb,Yr,Yy,YB,Zi,ZC,Zo,ne_eq];exact rfl)|exact rfl):DW P ro (.cond o x y) Q s :=
 ZiJ hc (λh=>ht (Eq.mp hp h)) (λh=>hf (Eq.mp hq h))
variable {α : Type} {fx : List (Nat × D)}
def lp(keep:List Nat)(A:α->Prop)(μ:α->Nat)(tb:α->List (Nat×D))(hb:α->List (Nat×eZ))(gq:α->Nat)(a0:α)(hn:s.nx<=gq a0:=by first|exact XX _|omega)(hA:A a0)
  (round : ∀a,A a->DW P ro c (thenS (λs'=>∃a',A a'/\μ a'<μ a/\(∀p∈tb a',Tb s'.t p)/\(∀p∈fx,Tb s'.t p)/\(∀p∈hb a',s'.h p.1=some p.2)/\s'.nx<=gq a'/\s'.n=s.n/\s'.e=s.e) Q) { n:=s.n,t:=tab (tb a++fx),h:=htab (hb a),nx:=gq a,e:=s.e })
  (hfx:keep.map (λi=>(i,s.t i))=fx:=by simp only[X8,Yz,go_sem,ff];exact rfl)
  (ht : ∀p∈tb a0,Tb s.t p:=by first|(simp only[go_sem,ff];done)|(simp[go_sem,ff];done)|(simp only[go_sem,ff];(repeat' (with_reducible apply And.intro))<;>first|(left;simp;done)|(right;simp[go_sem];done)))
  (hh : ∀p∈hb a0,s.h p.1=some p.2:=by first|(simp only[go_sem,ff];done)|simp[go_sem,ff]):DW P ro (.loop c) Q s:=Ziz keep A μ tb hb gq a0 hfx hA ht hh hn round
def jm(keep:List Nat)(A:α->Prop)(μ:α->Nat)(tb:α->List (Nat×D))(hh:α->H)(gq:α->Nat)(a0:α)(hn:s.nx<=gq a0:=by first|exact XX _|omega)(hA:A a0)
  (round : ∀a,A a->DW P ro c (thenS (λs'=>∃a',A a'/\μ a'<μ a/\(∀p∈tb a',Tb s'.t p)/\(∀p∈fx,Tb s'.t p)/\(∀r,hh a' r=s'.h r\/hh a' r=none)/\s'.nx<=gq a'/\s'.n=s.n/\s'.e=s.e) Q) { n:=s.n,t:=tab (tb a++fx),h:=hh a,nx:=gq a,e:=s.e })
  (hfx:keep.map (λi=>(i,s.t i))=fx:=by simp only[X8,Yz,go_sem,ff];exact rfl)
  (ht : ∀p∈tb a0,Tb s.t p:=by first|(simp only[go_sem,ff];done)|(simp[go_sem,ff];done)|(simp only[go_sem,ff];(repeat' (with_reducible apply And.intro))<;>first|(left;simp;done)|(right;simp[go_sem];done)))
  (BN : ∀r,hh a0 r=s.h r\/hh a0 r=none:=by exact Dj _):DW P ro (.loop c) Q s:=Ziy keep A μ tb hh gq a0 hfx hA ht BN hn round
def jnh(keep:List Nat)(A:α->Prop)(tb:α->List (Nat×D))(hh:α->H)(gq:α->Nat)
  (h:DW P ro x (thenS (λs'=>∃a,A a/\(∀p∈tb a,Tb s'.t p)/\(∀p∈fx,Tb s'.t p)/\(∀r,hh a r=s'.h r\/hh a r=none)/\s'.nx<=gq a/\s'.n=s.n/\s'.e=s.e) Q) s)
  (k : ∀a,A a->DW P ro y Q { n:=s.n,t:=tab (tb a++fx),h:=hh a,nx:=gq a,e:=s.e })
  (hfx:keep.map (λi=>(i,s.t i))=fx:=by simp only[X8,Yz,go_sem,ff];exact rfl):DW P ro (.seq x y) Q s:=ZiB keep A tb hh gq hfx h k
end
def ay{α:Type}{A M T F B N E1 E2:α->Prop}(w:α)(h6:N w:=by first|exact XX _|omega)(h1:A w)(h2:M w:=by show(_:Nat)<_;first|omega|simp_all;omega)
  (h3:T w:=by(try simp only[go_sem,ff]);all_goals (first|done|(simp;done)|(simp;omega)|((repeat' (with_reducible apply And.intro))<;>first|(left;simp;done)|(right;simp[go_sem];done))))
  (h4:F w:=by(try simp only[go_sem,ff]);all_goals (first|done|(simp;done)|(simp;omega)|((repeat' (with_reducible apply And.intro))<;>first|(left;simp;done)|(right;simp[go_sem];done))))
  (h5:B w:=by first|exact Dj _|((try simp only[go_sem,ff]);all_goals (first|done|(simp;done)|(simp;omega)|((repeat' (with_reducible apply And.intro))<;>first|(left;simp;done)|(right;simp[go_sem];done)))))
  (h7:E1 w:=by exact rfl)(h8:E2 w:=by exact rfl):∃a,A a/\M a/\T a/\F a/\B a/\N a/\E1 a/\E2 a:=⟨w,h1,h2,h3,h4,h5,h6,h7,h8⟩
def CV{α:Type}{A T F B N E1 E2:α->Prop}(w:α)(h6:N w:=by first|exact XX _|omega)(h1:A w)
  (h3:T w:=by(try simp only[go_sem,ff]);all_goals (first|done|(simp;done)|(simp;omega)|((repeat' (with_reducible apply And.intro))<;>first|(left;simp;done)|(right;simp[go_sem];done))))
  (h4:F w:=by(try simp only[go_sem,ff]);all_goals (first|done|(simp;done)|(simp;omega)|((repeat' (with_reducible apply And.intro))<;>first|(left;simp;done)|(right;simp[go_sem];done))))
  (h5:B w:=by first|exact Dj _|((try simp only[go_sem,ff]);all_goals (first|done|(simp;done)|(simp;omega)|((repeat' (with_reducible apply And.intro))<;>first|(left;simp;done)|(right;simp[go_sem];done)))))
  (h7:E1 w:=by exact rfl)(h8:E2 w:=by exact rfl):∃a,A a/\T a/\F a/\B a/\N a/\E1 a/\E2 a:=⟨w,h1,h3,h4,h5,h6,h7,h8⟩
def fin{A B:Prop}{Ks Rs:Nat->Prop}(K:Nat)(hr:Rs K:=by(try simp only[go_sem,ff]);all_goals simp)(hk:Ks K:=by(try simp only[go_sem,ff]);all_goals simp)
  (ha:A:=by first|exact .inr rfl|exact .inl rfl|trivial|simp)(hb:B:=by simp only[go_sem,ff]):A/\B /\ ∃k,Ks k/\Rs k:=⟨ha,hb,K,hk,hr⟩
def cK{A B:Prop}{Hs:H->Prop}{Ns:Nat->Prop}{R:H->Nat->Prop}{n':Nat}(h':H)(hn:Ns n':=by first|exact XX _|omega)(hr:R h' n':=by(try simp only[go_sem,ff]);all_goals simp)(hh:Hs h':=by exact λ_=>.inl rfl)
  (ha:A:=by first|exact .inr rfl|exact .inl rfl|trivial|simp)(hb:B:=by simp only[go_sem,ff]):A/\B /\ ∃h' n',Hs h'/\Ns n'/\R h' n':=⟨ha,hb,h',n',hh,hn,hr⟩
section
variable [Glob P] (C : aS) {s s1 : S} {id : Nat} {ops : Array Oper} {o : Oper} {f : Operand} {args : Array Operand} {ts : Array TypeId} {aX : FuncId} {first aD xs : List D} {R : D -> H -> Nat -> Prop}
def Nxt(P:Program)[Glob P](C:aS)(L:List Oper)(b i:Nat)(l:List Oper)(u:S)(Q:Exit->S->Prop):Prop:=∃s2,aZ P (words P) C L b i l u=s2/\s2.ok/\Q .normal s2.clear
def bJ(k:Nat)(ho:ops[k]? = some o:=by exact dR rfl)(hop:o.op = .call { callee:=.value f,args:=args,argTypes:=ts }:=by exact rfl)(hg:o.guard=none:=by exact rfl)
  (he:aZ P (words P) C ops.toList s.nx 0 (ops.toList.take k) { n:=s.n,t:=s.t,h:=s.h,nx:=s.nx+k,ok:=s.ok,e:=s.e }=s1:=by simp only[X5,Ye,go_sem,ff];exact rfl)(hok:s1.ok:=by(try simp only[go_sem,ff]);all_goals exact ok0)(hd:dK s1.n o.dst=true:=by(try simp only[go_sem,ff]);all_goals (first|done|rfl|decide|simp))
  (hf:s1.ev f = .fn (.func aX) first aD:=by simp only[go_sem,ff];exact rfl)(hxg:(args.toList.map s1.ev).all sg=true:=by simp only[go_sem,ff])(hx:((args.toList.map s1.ev).map sd).map wk=xs:=by simp only[go_sem,ff];exact rfl)(hct:bU P aX (first++xs++aD) s1.h (s.nx+k) R)
  (hk : ∀res h' n',R res h' n'->Nxt P C ops.toList n' (k+1) (ops.toList.drop (k+1)) { n:=s1.n,t:=s1.put o.dst res,h:=h',nx:=n'+ops.size,ok:=True,e:=s1.e } Q) :
  DW P ro (.region id ops false) Q s:=ZiL k R ho hop hg he hok hd hf hxg hx hct hk
def bI{L:List Oper}{b i:Nat}{l:List Oper}{u:S}{n nx:Nat}{t:Nat->D}{h:H}{ok:Prop}{e:Env}(hq:Q .normal ⟨n,t,h,nx,True,e⟩)(he:aZ P (words P) C L b i l u=⟨n,t,h,nx,ok,e⟩:=by simp only[X9,X6,S.put,go_sem,ff];exact rfl)(hok:ok:=by(try simp only[go_sem,ff]);all_goals exact ok0) :
  Nxt P C L b i l u Q:=⟨_,he,hok,hq⟩
end
def qA{p0 p1:Prop}(a0:p0)(a1:p1):p0/\p1:=⟨a0,a1⟩
def qB{p0 p1 p2:Prop}(a0:p0)(a1:p1)(a2:p2):p0/\p1/\p2:=⟨a0,a1,a2⟩
def qD{p0 p1 p2 p3:Prop}(a0:p0)(a1:p1)(a2:p2)(a3:p3):p0/\p1/\p2/\p3:=⟨a0,a1,a2,a3⟩
def qE{p0 p1 p2 p3 p4:Prop}(a0:p0)(a1:p1)(a2:p2)(a3:p3)(a4:p4):p0/\p1/\p2/\p3/\p4:=⟨a0,a1,a2,a3,a4⟩
def qF{p0 p1 p2 p3 p4 p5:Prop}(a0:p0)(a1:p1)(a2:p2)(a3:p3)(a4:p4)(a5:p5):p0/\p1/\p2/\p3/\p4/\p5:=⟨a0,a1,a2,a3,a4,a5⟩
def qG{p0 p1 p2 p3 p4 p5 p6:Prop}(a0:p0)(a1:p1)(a2:p2)(a3:p3)(a4:p4)(a5:p5)(a6:p6):p0/\p1/\p2/\p3/\p4/\p5/\p6:=⟨a0,a1,a2,a3,a4,a5,a6⟩
def qH{p0 p1 p2 p3 p4 p5 p6 p7:Prop}(a0:p0)(a1:p1)(a2:p2)(a3:p3)(a4:p4)(a5:p5)(a6:p6)(a7:p7):p0/\p1/\p2/\p3/\p4/\p5/\p6/\p7:=⟨a0,a1,a2,a3,a4,a5,a6,a7⟩
def qI{p0 p1 p2 p3 p4 p5 p6 p7 p8:Prop}(a0:p0)(a1:p1)(a2:p2)(a3:p3)(a4:p4)(a5:p5)(a6:p6)(a7:p7)(a8:p8):p0/\p1/\p2/\p3/\p4/\p5/\p6/\p7/\p8:=⟨a0,a1,a2,a3,a4,a5,a6,a7,a8⟩
def nG(a b:Nat)(h:a<b:=by omega):(∀k:Nat,(a=b+k)=False) /\ ∀k:Nat,(b+k=a)=False:=⟨λk=>YO om,λk=>YO om⟩
def nH(a b:Nat)(h:a≠b:=by omega):((a=b)=False)/\((b=a)=False):=⟨YO h,YO h.symm⟩
def oF{p q:Prop}(k:q)(h:p=q:=by first|(simp only[go_sem,ff];exact rfl)|(simp only[go_sem,ff];done)|exact rfl):p:=h▸k
def oS{p q:Prop}(h:p=q:=by first|(simp only[go_sem,ff];exact rfl)|(simp only[go_sem,ff];done)|exact rfl)(k:q):p:=h▸k
def oR{p:Prop}(h:p:=by(try simp only[go_sem,ff]);all_goals (first|rfl|(simp;done))):p:=h
def oH{p r1:Prop}(x1:r1)(h:r1->p:=by intro c1;(try simp only[go_sem,ff]);all_goals (first|done|((repeat' (with_reducible apply And.intro))<;>first|exact c1|exact c1 _|exact c1 _ _|exact c1 _ _ _|(intros;exact c1)|(intros;exact c1 _)|(intros;exact c1 _ _)|omega|(intros;omega)|(intro h;cases h)|(intro h;simp at h;done)|(intros;simp;done)|skip))):p:=h x1
def oI{p r1 r2:Prop}(x1:r1)(x2:r2)(h:r1->r2->p:=by intro c1 c2;(try simp only[go_sem,ff]);all_goals (first|done|((repeat' (with_reducible apply And.intro))<;>first|exact c1|exact c1 _|exact c1 _ _|exact c1 _ _ _|(intros;exact c1)|(intros;exact c1 _)|(intros;exact c1 _ _)|exact c2|exact c2 _|exact c2 _ _|exact c2 _ _ _|(intros;exact c2)|(intros;exact c2 _)|(intros;exact c2 _ _)|omega|(intros;omega)|(intro h;cases h)|(intro h;simp at h;done)|(intros;simp;done)|skip))):p:=h x1 x2
def oJ{p r1 r2 r3:Prop}(x1:r1)(x2:r2)(x3:r3)(h:r1->r2->r3->p:=by intro c1 c2 c3;(try simp only[go_sem,ff]);all_goals (first|done|((repeat' (with_reducible apply And.intro))<;>first|exact c1|exact c1 _|exact c1 _ _|exact c1 _ _ _|(intros;exact c1)|(intros;exact c1 _)|(intros;exact c1 _ _)|exact c2|exact c2 _|exact c2 _ _|exact c2 _ _ _|(intros;exact c2)|(intros;exact c2 _)|(intros;exact c2 _ _)|exact c3|exact c3 _|exact c3 _ _|exact c3 _ _ _|(intros;exact c3)|(intros;exact c3 _)|(intros;exact c3 _ _)|omega|(intros;omega)|(intro h;cases h)|(intro h;simp at h;done)|(intros;simp;done)|skip))):p:=h x1 x2 x3
def og{p:Prop}(h:p:=by first|omega|(intros;omega)|(intro h;cases h;done)|(intro h;simp at h;done)|(intro h;simp at h;omega)|(intro h;simp only[XU,XW]at h;omega)|(intro h;simp only[XU,XW]at h;have:=h.2;omega)|(intros;simp_all;done)|(intros;simp;done)|rfl):p:=h
def iE{p r1:Prop}(x1:r1)(h:r1->p:=by intro c1;(try simp only[go_sem,ff]);all_goals (first|done|((repeat' (with_reducible apply And.intro))<;>first|(apply c1<;>omega)|(intros;apply c1<;>omega)|exact og))):p:=h x1
def oa2{p r1 r2:Prop}(x1:r1)(x2:r2)(h:r1->r2->p:=by intro c1 c2;(try simp only[go_sem,ff]);all_goals (first|done|((repeat' (with_reducible apply And.intro))<;>first|(apply c1<;>omega)|(apply c2<;>omega)|(intros;apply c1<;>omega)|(intros;apply c2<;>omega)|exact og))):p:=h x1 x2
def oa3{p r1 r2 r3:Prop}(x1:r1)(x2:r2)(x3:r3)(h:r1->r2->r3->p:=by intro c1 c2 c3;(try simp only[go_sem,ff]);all_goals (first|done|((repeat' (with_reducible apply And.intro))<;>first|(apply c1<;>omega)|(apply c2<;>omega)|(apply c3<;>omega)|(intros;apply c1<;>omega)|(intros;apply c2<;>omega)|(intros;apply c3<;>omega)|exact og))):p:=h x1 x2 x3
def oa4{p r1 r2 r3 r4:Prop}(x1:r1)(x2:r2)(x3:r3)(x4:r4)(h:r1->r2->r3->r4->p:=by intro c1 c2 c3 c4;(try simp only[go_sem,ff]);all_goals (first|done|((repeat' (with_reducible apply And.intro))<;>first|(apply c1<;>omega)|(apply c2<;>omega)|(apply c3<;>omega)|(apply c4<;>omega)|(intros;apply c1<;>omega)|(intros;apply c2<;>omega)|(intros;apply c3<;>omega)|(intros;apply c4<;>omega)|exact og))):p:=h x1 x2 x3 x4
def oN [Glob P]{s:S}(h:Q .ret s):DW P ro .ret Q s:=aL h
section
variable [Glob P] (C : aS) {s : S} {n nx : Nat} {t : Nat -> D} {h : H} {ok : Prop} {e : Env} {id : Nat} {ops : Array Oper} {draw : Bool} {x y c : Code} {o : Operand} {b : Bool} {p q : Prop}
def oK(ht:p->DW P ro x (thenS (DW P ro y Q) Q) ⟨n,t,h,nx,True,e⟩)(hf:q->DW P ro y Q ⟨n,t,h,nx,True,e⟩)(he:exec P (words P) C ops.toList s=⟨n,t,h,nx,ok,e⟩:=by simp only[go_sem,ff];exact rfl)(hd:draw=true->P.follows .mixedOrders=true/\qZ C ops.toList=true/\kr ops.toList=true:=by intro hdr;first|(cases hdr;done)|exact⟨o7,by kernel_rfl,by kernel_rfl⟩)
  (hok:ok:=by(try simp only[go_sem,ff]);all_goals exact ok0)(hc:S.ev ⟨n,t,h,nx,True,e⟩ o = .v (.bool b):=by first|(simp only[go_sem,ff];exact rfl)|exact rfl)(hp:(b=true)=p:=by first|(simp only[XW,X4,Yc,XU,Yd,Yb,Yr,Yy,YB,Zi,ZC,Zo,ne_eq];exact rfl)|exact rfl)(hq:(b=false)=q:=by first|(simp only[XW,X4,Yc,XU,Yd,Yb,Yr,Yy,YB,Zi,ZC,Zo,ne_eq];exact rfl)|exact rfl):DW P ro (.seq (.seq (.region id ops draw) (.cond o x .skip)) y) Q s :=
 ae (Af he hd hok (cd ht (λk=>ah (hf k)) hc hp hq))
def oL(ht:p->DW P ro y Q ⟨n,t,h,nx,True,e⟩)(hf:q->DW P ro x (thenS (DW P ro y Q) Q) ⟨n,t,h,nx,True,e⟩)(he:exec P (words P) C ops.toList s=⟨n,t,h,nx,ok,e⟩:=by simp only[go_sem,ff];exact rfl)(hd:draw=true->P.follows .mixedOrders=true/\qZ C ops.toList=true/\kr ops.toList=true:=by intro hdr;first|(cases hdr;done)|exact⟨o7,by kernel_rfl,by kernel_rfl⟩)
  (hok:ok:=by(try simp only[go_sem,ff]);all_goals exact ok0)(hc:S.ev ⟨n,t,h,nx,True,e⟩ o = .v (.bool b):=by first|(simp only[go_sem,ff];exact rfl)|exact rfl)(hp:(b=true)=p:=by first|(simp only[XW,X4,Yc,XU,Yd,Yb,Yr,Yy,YB,Zi,ZC,Zo,ne_eq];exact rfl)|exact rfl)(hq:(b=false)=q:=by first|(simp only[XW,X4,Yc,XU,Yd,Yb,Yr,Yy,YB,Zi,ZC,Zo,ne_eq];exact rfl)|exact rfl):DW P ro (.seq (.seq (.region id ops draw) (.cond o .skip x)) y) Q s :=
 ae (Af he hd hok (cd (λk=>ah (ht k)) hf hc hp hq))
end
def oO [Glob P]{f:FuncId}{fn:Func}{c:Code}{args:List D}{res:D}(hf:P.funcs[f]? = some fn)
  (h:True->DW P none c (λe s=>(e = .normal\/e = .ret)/\qh P s fn.results.toList /\ ∃k,dP s.h k (rO P fn.results.toList s)/\wk (snap s.h k (rO P fn.results.toList s))=res) { n:=fn.ntmps,t:=λi=>args.getD i .junk,h:=λ_=>none,nx:=0,ok:=True,e:=Env.tt })
  (hb:fn.body=some c:=by exact rfl)(hbd:dY P f=true:=by kernel_rfl)(hnr:args.all D.nr=true:=by simp[go_sem,D.nr,bC,bq])(hn:args.length<=fn.ntmps:=by exact Nat.le_of_ble_eq_true (by kernel_rfl)):PureCt P f args res:=xP hf hb hbd hnr hn (h trivial)
def oP [Glob P]{f:FuncId}{fn:Func}{c:Code}{args:List D}{h:H}{n:Nat}{R:D->H->Nat->Prop}(hf:P.funcs[f]? = some fn)
  (hw:(∀r,n<=r->h r=none)->True->DW P none c (λe s=>(e = .normal\/e = .ret)/\qh P s fn.results.toList /\ ∃h' n',(∀r,h' r=s.h r\/h' r=none)/\s.nx<=n'/\R (rO P fn.results.toList s) h' n') { n:=fn.ntmps,t:=λi=>args.getD i .junk,h:=h,nx:=n })
  (hb:fn.body=some c:=by exact rfl)(hbd:dY P f=true:=by kernel_rfl)(hn:args.length<=fn.ntmps:=by exact Nat.le_of_ble_eq_true (by kernel_rfl)):bU P f args h n R:=LU hf hb hbd hn (λk=>hw k trivial)
def oC [Glob P](C:aS){s:S}{n1 nx1:Nat}{t1:Nat->D}{h1:H}{ok1:Prop}{e1:Env}{id1:Nat}{xW:Array Oper}{Gs:Bool}{n2 nx2:Nat}{t2:Nat->D}{h2:H}{ok2:Prop}{e2:Env}{id2:Nat}{xV:Array Oper}{Gq:Bool}{y:Code}(hq:DW P ro y Q ⟨n2,t2,h2,nx2,True,e2⟩)(he1:exec P (words P) C xW.toList s=⟨n1,t1,h1,nx1,ok1,e1⟩:=by simp only[go_sem,ff];exact rfl)(hd1:Gs=true->P.follows .mixedOrders=true/\qZ C xW.toList=true/\kr xW.toList=true:=by intro hdr;first|(cases hdr;done)|exact⟨o7,by kernel_rfl,by kernel_rfl⟩)(hok1:ok1:=by(try simp only[go_sem,ff]);all_goals exact ok0)(he2:exec P (words P) C xV.toList ⟨n1,t1,h1,nx1,True,e1⟩=⟨n2,t2,h2,nx2,ok2,e2⟩:=by simp only[go_sem,ff];exact rfl)(hd2:Gq=true->P.follows .mixedOrders=true/\qZ C xV.toList=true/\kr xV.toList=true:=by intro hdr;first|(cases hdr;done)|exact⟨o7,by kernel_rfl,by kernel_rfl⟩)(hok2:ok2:=by(try simp only[go_sem,ff]);all_goals exact ok0):DW P ro (.seq (.region id1 xW Gs) (.seq (.region id2 xV Gq) y)) Q s:=(Af he1 hd1 hok1 (Af he2 hd2 hok2 hq))
def oD [Glob P](C:aS){s:S}{n1 nx1:Nat}{t1:Nat->D}{h1:H}{ok1:Prop}{e1:Env}{id1:Nat}{xW:Array Oper}{Gs:Bool}{n2 nx2:Nat}{t2:Nat->D}{h2:H}{ok2:Prop}{e2:Env}{id2:Nat}{xV:Array Oper}{Gq:Bool}{n3 nx3:Nat}{t3:Nat->D}{h3:H}{ok3:Prop}{e3:Env}{id3:Nat}{IU:Array Oper}{V8:Bool}{y:Code}(hq:DW P ro y Q ⟨n3,t3,h3,nx3,True,e3⟩)(he1:exec P (words P) C xW.toList s=⟨n1,t1,h1,nx1,ok1,e1⟩:=by simp only[go_sem,ff];exact rfl)(hd1:Gs=true->P.follows .mixedOrders=true/\qZ C xW.toList=true/\kr xW.toList=true:=by intro hdr;first|(cases hdr;done)|exact⟨o7,by kernel_rfl,by kernel_rfl⟩)(hok1:ok1:=by(try simp only[go_sem,ff]);all_goals exact ok0)(he2:exec P (words P) C xV.toList ⟨n1,t1,h1,nx1,True,e1⟩=⟨n2,t2,h2,nx2,ok2,e2⟩:=by simp only[go_sem,ff];exact rfl)(hd2:Gq=true->P.follows .mixedOrders=true/\qZ C xV.toList=true/\kr xV.toList=true:=by intro hdr;first|(cases hdr;done)|exact⟨o7,by kernel_rfl,by kernel_rfl⟩)(hok2:ok2:=by(try simp only[go_sem,ff]);all_goals exact ok0)(he3:exec P (words P) C IU.toList ⟨n2,t2,h2,nx2,True,e2⟩=⟨n3,t3,h3,nx3,ok3,e3⟩:=by simp only[go_sem,ff];exact rfl)(hd3:V8=true->P.follows .mixedOrders=true/\qZ C IU.toList=true/\kr IU.toList=true:=by intro hdr;first|(cases hdr;done)|exact⟨o7,by kernel_rfl,by kernel_rfl⟩)(hok3:ok3:=by(try simp only[go_sem,ff]);all_goals exact ok0):DW P ro (.seq (.region id1 xW Gs) (.seq (.region id2 xV Gq) (.seq (.region id3 IU V8) y))) Q s:=(Af he1 hd1 hok1 (Af he2 hd2 hok2 (Af he3 hd3 hok3 hq)))
def oV{p r:Prop}(x:r)(h:r->p:=by intro c1;(try simp only[go_sem,ff]at c1);(try simp only[go_sem,ff]);exact c1):p:=h x
section
variable [Glob P] {s : S} {A B q : Prop} {Ks Rs : Nat -> Prop}
def fo(K:Nat)(e:Q .ret s=(A/\B /\ ∃k,Ks k/\Rs k):=by exact rfl)(h:Rs K=q:=by first|(simp only[go_sem,ff];exact rfl)|(simp only[go_sem,ff];done)|exact rfl)(k:q)(hk:Ks K:=by(try simp only[go_sem,ff]);all_goals simp)(ha:A:=by first|exact .inr rfl|exact .inl rfl|trivial|simp)(hb:B:=by simp only[go_sem,ff]):DW P ro .ret Q s:=aL (e▸⟨ha,hb,K,hk,h▸k⟩)
def fp(K:Nat)(e:Q .ret s=(A/\B /\ ∃k,Ks k/\Rs k):=by exact rfl)(h:Rs K:=by(try simp only[go_sem,ff]);all_goals (first|rfl|(simp;done)))(hk:Ks K:=by(try simp only[go_sem,ff]);all_goals simp)(ha:A:=by first|exact .inr rfl|exact .inl rfl|trivial|simp)(hb:B:=by simp only[go_sem,ff]):DW P ro .ret Q s:=aL (e▸⟨ha,hb,K,hk,h⟩)
end
def pos [Glob P]{C:aS}{ops:Array Oper}{i k b:Nat}{o:Oper}{s s1:S}(hik:i<=k:=by omega)(ho:ops[k]? = some o:=by exact dR rfl)(hg:o.guard=none:=by exact rfl)(he:aZ P (words P) C ops.toList b i ((ops.toList.drop i).take (k-i)) s=s1:=by simp only[X9,X6,X5,Ye,S.put,Yq,Nat.reduceSub,go_sem,ff];first|done|exact rfl)
  (hok:s1.ok:=by(try simp only[go_sem,ff]);all_goals exact ok0)(hd:dK s1.n o.dst=true:=by(try simp only[go_sem,ff]);all_goals (first|done|rfl|decide|simp)):eY P C ops i k o b s s1:=⟨hik,ho,hg,he,hok,hd⟩
end Go.DL
namespace Go.DL
open Go.RowKit
section
variable {P : Program} {ro : Option Nat} {Q : Exit -> S -> Prop} [Glob P] (C : aS) {s s1 : S} {n nx : Nat} {t : Nat -> D} {h : H} {ok : Prop} {e : Env} {id : Nat} {ops : Array Oper} {y : Code}
def rgnP(ps:List Pr)(hq:Q .normal ⟨n,t,h,nx,True,e⟩)(he:exec P (words P) C ops.toList s=⟨n,t,h,nx,ok,e⟩:=by simp only[go_sem,ff];exact rfl)(hd:P.follows .mixedOrders=true/\xy C ops.toList none ps=true/\kr ops.toList=true:=by exact⟨o7,by kernel_rfl,by kernel_rfl⟩)
  (BP : ∀p∈ps,∀r∈ma ops.toList s.nx p.j ⟨n,t,h,nx,ok,e⟩,r ∉ ma ops.toList s.nx p.i ⟨n,t,h,nx,ok,e⟩:=by simp only[Ym,YZ,or_false,forall_eq_or_imp,forall_eq,ma,foot,aV,tK,X8,Yz,List.getD_cons_succ,List.getD_cons_zero,XY,X0,Yv,go_sem,ff];(first|done|((repeat' (with_reducible apply And.intro))<;>first|omega|(intros;omega)|(intros;simp;omega))))
  (hok:ok:=by(try simp only[go_sem,ff]);all_goals exact ok0):DW P ro (.region id ops true) Q s:=VX ps hd he BP hok hq
end
end Go.DL
namespace Go.DL
open Go.RowKit
variable {P : Program} {ro : Option Nat} {Q : Exit -> S -> Prop}
def HM.shrink [Glob P]{h:H}{g:Mem}{w:World}(hm:HM P h g w){r:Nat}{bl:eZ}(hr:h r=some bl)(k:Nat):HM P (upd h r (some ⟨bl.ty,bl.rows.take k⟩)) g w:=by
 refine⟨λq hq=>?_,λq bl' hq=>?_,hm.inj,hm.used,hm.imm,hm.gr⟩
 .
  by_cases e:q=r
  . subst e;rw[bN]at hq;cases hq
  rw[aK _ _ _ _ e]at hq;exact hm.dead q hq
 by_cases e:q=r
 .
  subst e;rw[bN]at hq
  cases hq
  obtain⟨blk,c,h1,h2,h3,h4,h5⟩:=hm.blk q bl hr;refine⟨blk,c,h1,h2,Yh (by simp;omega) h3,h4,h5.imp id ?_⟩
  rintro⟨b,cur,e1,e2,e3,e4,e5⟩;refine⟨b,cur,e1,e2,e3,e4,λi row hi=>?_⟩
  simp only[Y6]at hi
  split at hi
  . exact e5 i row hi
  cases hi
 rw[aK _ _ _ _ e]at hq;exact hm.blk q bl' hq
theorem ZjY [Glob P]{h:H}{g:Mem}{w:World}(hm:HM P h g w){t e:TypeId}{r off len:Nat}{rows:List (List D)}{v:Value}(ht:P.underlying t=some (.slice e))(hr:h r=some ⟨e,rows⟩)(hz:eQ P e=true)(ho:(zeroCells P e).all D.one=true)
  (hl:off+len<=rows.length)(hv:ag w g (.mrow r off len) v)(ty:TypeId) :
  ∃g' w',(Builtin.clear_ #[t] ty #[v]).run P w = .ok (.tuple #[]) w'/\HM P (upd h r (some ⟨e,rows.take off⟩)) g' w'/\ax g g' w w' /\ ∀r,g'.U r->g.U r:=by
 cases hv with|mrow _ _ _ _ hx hU hvv =>
 obtain⟨blk,c,h1,h2,h3,h4,h5⟩:=hm.blk r _ hr
 simp only at h1 h2 h3 h5
 obtain⟨p1,p2⟩:=hvv _ _ _ h1
 by_cases hn:len=0
 .
  subst hn;obtain⟨a,c',rfl,_,_⟩:=hx;refine⟨g,w,?_,hm.shrink hr off,ax.refl _ _,λ_ k=>k⟩
  cases a<;>simp[Builtin.clear_,run_underlying ht]
 rcases h5 with⟨_,e0⟩|⟨b,cur,rfl,h6,h7,h8,h9⟩
 . omega
 rcases p2 with⟨e0,_⟩|⟨e0,b',hb',rfl⟩
 . omega
 cases hb'
 have h6:=h6.cells p1.2
 have h7:=h7 p1.2
 obtain⟨i,hi,hs⟩:=wY h2
 have hz':=hz
 unfold eQ at hz
 cases hzz:i.zero with
 | none=>simp[hi,hzz]at hz
 | some z =>
  simp only[hi,hzz,Option.bind_some,YB]at hz;have hzv : ∀w,(zeroValue e).run P w = .ok z w:=λw=>by simp[zeroValue,typeInfo,hi,hzz]
  have hlen:(Builtin.zeroCells z.cells len).toList.length=len*P.cellsOf e:=by simp[size_zeroCells,hz]
  have hone : ∀u∈(Builtin.zeroCells z.cells len).toList,u.oneCell'=true:=by
   intro u hu;have hz1:=(Av hi hzz w g ho).2.1;unfold Builtin.zeroCells at hu;simp only[Array.toList_map,Yt]at hu;obtain⟨k,_,rfl⟩:=hu;have hk:k % z.cells.size<z.cells.size:=Nat.mod_lt _ om;rw[getElem!_pos z.cells _ hk];exact hz1 _ (by simp)
  have hmul:(off+len)*P.cellsOf e<=c*P.cellsOf e:=YY _ om;rw[Zk]at hmul;have hfit:off*P.cellsOf e+(Builtin.zeroCells z.cells len).toList.length<=cur.size:=by rw[hlen,h7];exact hmul
  have hst:=run_storeCells_at P b (off*P.cellsOf e) e (Builtin.zeroCells z.cells len).toList 0 cur w h6 (by simpa using hfit) hone
  simp only[Zu]at hst;generalize hnew:(List.take (off*P.cellsOf e) cur.toList++(Builtin.zeroCells z.cells len).toList++List.drop (off*P.cellsOf e+(Builtin.zeroCells z.cells len).toList.length) cur.toList)=new at hst;have hnl:new.length=cur.size:=by
   have e1:cur.toList.length=cur.size:=Array.length_toList;rw[<-hnew,XZ,XZ,YA,Yw,e1];omega
  have hget : ∀k,k<off*P.cellsOf e->new[k]? = cur[k]? := by
   intro k hk;rw[<-hnew,Yu,Y5 (by simp only[YA,Array.length_toList];omega),Y6,X3 hk]
   simp
  obtain⟨g',g1,g2,g3,g4,g5⟩:=hm.put (h':=upd h r (some ⟨e,rows.take off⟩)) (w':=w.setRow b new.toArray) r b c ⟨e,rows.take off⟩ new.toArray (.inr h1) (bN _ _ _) (λr' hr'=>.inl (aK _ _ _ _ hr')) (.inr ⟨r,c,_,h1,.inl rfl⟩)
   (setRow_heap w b cur _ e _ h6) (by simp[hnl,h7]) h2 (by simp;omega) p1.2 (by
    intro i' row' hi';simp only[Y6]at hi'
    split at hi'
    .
     rename_i hlt
     obtain⟨k1,k2⟩:=h9 i' row' hi';refine⟨k1,λj d hj=>?_⟩
     have hjl:j<P.cellsOf e:=by have:=(X7.1 hj).1;simp only at k1;omega
     obtain⟨u,u1,u2,u3⟩:=k2 j d hj;refine⟨u,?_,u2,u3⟩;simp only[List.getElem?_toArray];rw[hget _ (zT hlt hjl)];exact u1
    cases hi') ⟨rfl,rfl,rfl,by simp,λk _ hk=>setRow_other w b k _ (λe=>hk (by rw[e]))⟩
  refine⟨g',_,?_,g4,g5,λr' hr'=>?_⟩
  .
   obtain⟨m,rfl⟩:∃m,len=m+1:=⟨len-1,om⟩
   simp[Builtin.clear_,run_underlying ht,hzv,hst]
  rcases(g2 r').1 hr' with k|k
  . exact k
  subst k;exact hU
def Ig [Glob P]{C:aS}{s s1:S}{ops:Array Oper}{i b:Nat}(k:Nat){o:Oper}{t e:TypeId}{x:Operand}{r off len:Nat}{rows:List (List D)}(hik:i<=k)(ho:ops[k]? = some o)(hg:o.guard=none)
  (hop:o.op = .call { callee:=.builtin .clear,args:=#[x],argTypes:=#[t] })(ht:P.underlying t=some (.slice e))(hz:eQ P e=true)(h1:(zeroCells P e).all D.one=true)
  (he:aZ P (words P) C ops.toList b i ((ops.toList.drop i).take (k-i)) s=s1)(hok:s1.ok)(hd:dK s1.n o.dst=true)(hx:s1.ev x = .mrow r off len)(hr:s1.h r=some ⟨e,rows⟩)(hl:off+len<=rows.length)
  (hk:av P ro ops (k+1) b { n:=s1.n,t:=s1.put o.dst (.tuple []),h:=upd s1.h r (some ⟨e,rows.take off⟩),nx:=s1.nx,ok:=True,e:=s1.e } Q):av P ro ops i b s Q:=by
 refine kE (C:=C) k (λd h'=>d = .tuple []/\h'=upd s1.h r (some ⟨e,rows.take off⟩)) hik ho hg (λc e=>by rw[hop]at e;cases e) he hok hd (λB g a w hs _=>?_) (λd h'⟨hy,hh⟩=>by subst hy;subst hh;exact hk)
 have hv:=bX hs x
 rw[hx]at hv
 obtain⟨g',w',q1,q2,q3,q4⟩:=ZjY hs.mem ht hr hz h1 hl hv o.type
 refine⟨.tuple [],_,⟨rfl,rfl⟩,.tuple #[],g',w',.inl ?_,.mk_tuple (vs:=#[]) .nil,q2,q3,λr hr=>.inl (q4 r hr)⟩
 obtain⟨od,oo,iD,op,oa,og⟩:=o
 simp only at hop
 subst hop
 simp[Go.BigFrame.execOp_builtin,Go.BigFrame.builtin_clear,q1]
section
variable {C : aS}
end
section
variable [Glob P] (C : aS) {s s1 : S} {id : Nat} {ops : Array Oper} {o : Oper} {f : Operand} {args : Array Operand} {ts : Array TypeId} {aX : FuncId} {first aD xs : List D} {R : D -> H -> Nat -> Prop}
end
end Go.DL
namespace Go.DL
open Go.RowKit
variable {P : Program} {ro : Option Nat} {Q : Exit -> S -> Prop}
def G9 [Glob P]{h:H}{g:Mem}{w:World}(hm:HM P h g w){e:TypeId}{r off c b:Nat}{rows news:List (List D)}{cs:List Value}(hr:h r=some ⟨e,rows⟩)(hM:g.M r=some (some b,c,P.cellsOf e))(hcm:c<=maxLen)
  (hR:RowsIn w g (P.cellsOf e) news cs)(ho:off<=rows.length)(hc:off+news.length<=c) :
  ∃cur:Array Value,w.heap[b]? = some (.cells cur e (0,0))/\off*P.cellsOf e+cs.length<=cur.size /\ ∀new:Array Value,new=(cur.toList.take (off*P.cellsOf e)++cs++cur.toList.drop (off*P.cellsOf e+cs.length)).toArray ->
   ∃g',g'.M r=g.M r/\g'.U r/\HM P (upd h r (some ⟨e,rows.take off++news++rows.drop (off+news.length)⟩)) g' (w.setRow b new)/\ax g g' w (w.setRow b new) /\ ∀q,g'.U q->g.U q:=by
 obtain⟨blk,c',h1,h2,h3,h4,h5⟩:=hm.blk r _ hr
 rw[hM]at h1
 simp only[Yf,YK]at h1
 obtain⟨rfl,rfl,_⟩:=h1
 rcases h5 with⟨h5,_⟩|⟨b',cur,h5,k1,k2,_,k4⟩
 . cases h5
 cases h5
 have k1:=k1.cells hcm
 have k2:=k2 hcm
 simp only at h2 h3 k1 k2 k4
 have hcl:cs.length=news.length*P.cellsOf e:=hR.1
 have hfit:off*P.cellsOf e+cs.length<=cur.size:=by
  rw[hcl,k2,<-Zk];exact YY _ hc
 refine⟨cur,k1,hfit,λnew hnew=>?_⟩
 have e1:cur.toList.length=cur.size:=Array.length_toList
 have hsize:new.size=cur.size:=by rw[hnew];simp;omega
 have hA:=k4.rowsIn 0 off (by show 0+off<=rows.length;omega) o5t
 have hB:=hA.append hR
 have hend:off+news.length+(rows.length-(off+news.length))<=rows.length\/rows.length-(off+news.length)=0:=by omega
 have hC:RowsIn w g (P.cellsOf e) (rows.drop (off+news.length)) ((cur.toList.drop ((off+news.length)*P.cellsOf e)).take ((rows.length-(off+news.length))*P.cellsOf e)):=by
  rcases hend with hl|hl
  .
   have:=k4.rowsIn (off+news.length) (rows.length-(off+news.length)) hl o5t
   have e2:(rows.drop (off+news.length)).take (rows.length-(off+news.length))=rows.drop (off+news.length):=Yl (by simp)
   rw[e2]at this;exact this
  have e2:rows.drop (off+news.length)=[]:=Y3 om;rw[e2,hl]
  simpa using RowsIn.nil
 have Vb:=hB.append hC
 simp only[X6,Nat.zero_mul]at Vb
 have hnl:(rows.take off++news++rows.drop (off+news.length)).length<=c:=by simp;omega
 have hdrop:off*P.cellsOf e+cs.length=(off+news.length)*P.cellsOf e:=by rw[hcl,Zk]
 obtain⟨g',g1,g2,g3,g4,g5⟩:=hm.put (h':=upd h r (some ⟨e,rows.take off++news++rows.drop (off+news.length)⟩)) (w':=w.setRow b new) r b c ⟨e,rows.take off++news++rows.drop (off+news.length)⟩ new (.inr hM) (bN _ _ _) (λq hq=>.inl (aK _ _ _ _ hq)) (.inr ⟨r,c,_,hM,.inl rfl⟩)
  (setRow_heap w b cur _ e _ k1) (by rw[hsize,k2]) h2 hnl hcm (Vb.holds (by
   rw[hnew];simp only[hdrop];generalize List.take (off*P.cellsOf e) cur.toList++cs=X;rw[XZ,List.take_append,Yl (by omega),Nat.add_sub_cancel_left,YA]
   congr 1
   rw[List.take_eq_take_iff];omega))
  ⟨rfl,rfl,rfl,by simp,λk _ hk=>setRow_other w b k _ (λe=>hk (by rw[e]))⟩
 refine⟨g',by rw[g1,hM],(g2 r).2 (.inr rfl),g4,g5,λq hq=>?_⟩
 rcases(g2 q).1 hq with k|k
 . exact k
 subst k;exact hm.used q (by rw[hM];simp)
def TE [Glob P]{h:H}{g:Mem}{w:World}(hm:HM P h g w){e:TypeId}{r off len k:Nat}{rows:List (List D)}{v:Value}(hr:h r=some ⟨e,rows⟩)(hv:ag w g (.mrow r off len) v)(hk:k<=len)(hl:off+k<=rows.length) :
  ∃cs,RowsIn w g (P.cellsOf e) ((rows.drop off).take k) cs/\(∀w',(Builtin.lenOf v).run P w' = .ok len w') /\ ∀w',w'.heap=w.heap->(Builtin.firstCells (P.cellsOf e) k v).run P w' = .ok cs.toArray w':=by
 obtain⟨blk,c,h1,h2,h3,h4,h5⟩:=hm.blk r _ hr
 cases hv with|mrow _ _ _ _ hx hU hvv =>
 obtain⟨p1,p2⟩:=hvv _ _ _ h1
 simp only at h2 h3 h5
 by_cases hk0:k=0
 .
  subst hk0;obtain⟨a,c',rfl,_,_⟩:=hx;refine⟨[],by simpa using RowsIn.nil,λw'=>by simp[Builtin.lenOf],λw' _=>?_⟩
  cases a<;>simp[Builtin.firstCells,loadCells,loadCellsFrom]
 rcases p2 with⟨_,a,rfl⟩|⟨hne,b,rfl,rfl⟩
 .
  obtain⟨a',c',e1,e2,_⟩:=hx
  cases e1
  omega
 rcases h5 with⟨h5,_⟩|⟨b',cur,h5,k1,k2,_,k4⟩
 . cases h5
 cases h5
 have k1:=k1.cells p1.2
 have k2:=k2 p1.2
 have hR:RowsIn w g (P.cellsOf e) ((rows.drop off).take k) ((cur.toList.drop (off*P.cellsOf e)).take (k*P.cellsOf e)):=k4.rowsIn off k hl o5t
 refine⟨_,hR,λw'=>by simp[Builtin.lenOf],λw' hw=>?_⟩
 have hlen:=hR.1
 have hkl:((rows.drop off).take k).length=k:=by rw[YA,Yw];omega
 rw[hkl]at hlen
 refine run_firstCells_some (P:=P) w' (P.cellsOf e) k _ len _ _ hlen λj v hj=>?_
 rw[pO,cell_of_row w' b _ cur e (0,0) (by rw[hw];exact k1)]
 rw[Y6]at hj
 split at hj
 . rw[Y2]at hj;simpa using hj
 cases hj
def ZkA [Glob P]{h:H}{g:Mem}{w:World}(hm:HM P h g w){t u e:TypeId}{r off n:Nat}{rows:List (List D)}{y:D}{vx vy:Value}(ht:P.underlying t=some (.slice e))(hr:h r=some ⟨e,rows⟩)(hx:ag w g (.mrow r off n) vx)(hy:ag w g y vy)
  (hl:(aC y h).length=bO y)(hs:iA P u h y=true)(hrl : ∀q∈aC y h,q.length=P.cellsOf e)(h0:off<rows.length)(hfit:off+n+(aC y h).length<=rows.length)(ty:TypeId) :
  ∃v g' w',(Builtin.append_ #[t,u] ty #[vx,vy]).run P w = .ok v w'/\ag w' g' (.mrow r off (n+(aC y h).length)) v/\HM P (upd h r (some ⟨e,rows.take (off+n)++aC y h++rows.drop (off+n+(aC y h).length)⟩)) g' w'/\ax g g' w w' /\ ∀q,g'.U q->g.U q:=by
 obtain⟨blk,c,h1,h2,h3,h4,h5⟩:=hm.blk r _ hr
 simp only at h1 h2 h3
 obtain⟨i,hi,hsz⟩:=wY h2
 obtain⟨news,r1,r2,r3,r4⟩:=CR hm hy h2 hl hrl hs
 cases hx with|mrow _ _ _ _ fM hU hvv =>
 obtain⟨p1,p2⟩:=hvv _ _ _ h1
 rcases p2 with⟨e0,_⟩|⟨e0,b,rfl,rfl⟩
 . omega
 obtain⟨cur,c1,c2,c3⟩:=G9 hm (off:=off+n) hr h1 p1.2 r1 om om
 obtain⟨g',q1,q2,q3,q4,q5⟩:=c3 _ rfl
 have hroom:n+(aC y h).length<=c-off:=by omega
 have hap:=XK (P:=P) ht hi (r4 w) ty b (off*P.cellsOf e) n (c-off) (by rw[hl];exact r2 w) hroom (by rw[hsz,hl];exact r3 w rfl) r1.one c1 (by rw[hsz];rw[Zk]at c2;exact c2)
 rw[hsz,<-Zk]at hap
 refine⟨_,g',_,hap,.mrow r off _ _ ⟨_,_,rfl,hroom,λ_=>⟨_,rfl⟩⟩ q2 λblk c' sz he=>?_,q3,q4,q5⟩
 rw[q1,h1]at he
 simp only[Yf,YK]at he
 obtain⟨rfl,rfl,rfl⟩:=he
 exact⟨om,.inr ⟨e0,b,rfl,rfl⟩⟩
def ZjN [Glob P]{h:H}{g:Mem}{w:World}(hm:HM P h g w){t u e:TypeId}{r off len r2 mM o8 k:Nat}{rows lC:List (List D)}{vx vy:Value}(ht:P.underlying t=some (.slice e))(hr:h r=some ⟨e,rows⟩)(hr2:h r2=some ⟨e,lC⟩)
  (hx:ag w g (.mrow r off len) vx)(hy:ag w g (.mrow r2 mM o8) vy)(hk:k=min o8 len)(h0:0<k)(ho:off<=rows.length)(hl:mM+k<=lC.length)(ty:TypeId) :
  ∃g' w',(Builtin.copy_ #[t,u] ty #[vx,vy]).run P w = .ok (.int .i64 k) w'/\HM P (upd h r (some ⟨e,rows.take off++(lC.drop mM).take k++rows.drop (off+k)⟩)) g' w'/\ax g g' w w' /\ ∀q,g'.U q->g.U q:=by
 obtain⟨blk,c,h1,h2,h3,h4,h5⟩:=hm.blk r _ hr
 simp only at h1 h2 h3
 have hkl:k<=len:=by omega
 obtain⟨cs,r1,l1,f1⟩:=TE hm hr2 hy (k:=k) om hl
 have hnl:((lC.drop mM).take k).length=k:=by rw[YA,Yw];omega
 cases hx with|mrow _ _ _ _ fM hU hvv =>
 obtain⟨p1,p2⟩:=hvv _ _ _ h1
 rcases p2 with⟨e0,a,rfl⟩|⟨e0,b,rfl,rfl⟩
 .
  obtain⟨a',c',e1,e2,_⟩:=fM
  cases e1
  omega
 obtain⟨cur,c1,c2,c3⟩:=G9 hm (off:=off) hr h1 p1.2 r1 ho (by rw[hnl];exact Yh (Nat.add_le_add_left hkl _) p1.1)
 obtain⟨g',q1,q2,q3,q4,q5⟩:=c3 _ rfl
 rw[hnl]at q3
 have hst:=run_storeCells_at P b (off*P.cellsOf e) e cs 0 cur w c1 (by simpa using c2) r1.one
 simp only[Zu]at hst
 have hmin:Nat.min o8 len=k:=hk.symm
 refine⟨g',_,?_,q3,q4,q5⟩
 simp[Builtin.copy_,run_underlying ht,l1,rG h2,hmin,f1,hst,goInt]
def Env.lim(E:Env)(r c:Nat):Env where
 p:=λg w=>E.p g w/\g.U r /\ ∀blk c' sz,g.M r=some (blk,c',sz)->c'=c
 x:=E.x
 st:=λP _ h g g' w w' hm k⟨h1,h2,h3⟩=>⟨E.st P h g g' w w' hm k h1,k.U r h2,λblk c' sz he=>by
  rcases k.M r h2 with e|e
  . exact h3 blk c' sz (e▸he)
  . rw[e]at he;cases he⟩
theorem Zky [Glob P]{h:H}{g:Mem}{w:World}(hm:HM P h g w){t u e:TypeId}{kk:IntKind}{r off n m c b:Nat}{rows:List (List D)}{vx:Value}(hb : ¬g.U b)(ht:P.underlying t=some (.slice e))(hu:P.underlying u=some (.int kk))(hr:h r=some ⟨e,rows⟩)(hx:ag w g (.mrow r off n) vx)
  (hM : ∀blk c' sz,g.M r=some (blk,c',sz)->c'=c)(hz:eQ P e=true)(h1z:(zeroCells P e).all D.one=true)(hdef:(zeroCells P e).length=P.cellsOf e)(hc:c<off+n+m)(hl:off+n<=rows.length)(hby:(n+m)*P.bytesOf e<=140737488355328)(h63:n+m<=4611686018427387904)(ty:TypeId) :
  ∃v g' w',(Builtin.append_ #[t,u] ty #[vx,.int .i64 m]).run P w = .ok v w'/\ag w' g' (.mrow b 0 (n+m)) v/\HM P (upd h b (some ⟨e,(rows.drop off).take n++List.replicate m (zeroCells P e)⟩)) g' w'/\ax g g' w w' /\ ∀q,g'.U q->g.U q\/q=b:=by
 obtain⟨blk,c',h1,h2,h3,h4,h5⟩:=hm.blk r _ hr
 simp only at h1 h2 h3
 have hcc:=hM _ _ _ h1
 subst hcc
 obtain⟨i,hi,hs⟩:=wY h2
 have hz':=hz
 unfold eQ at hz'
 cases hzz:i.zero with
 | none=>simp[hi,hzz]at hz'
 | some z =>
 simp only[hi,hzz,Option.bind_some,YB]at hz'
 have FU:i.bytes=P.bytesOf e:=by simp[Program.bytesOf,hi]
 obtain⟨olds,o1,o2,o3⟩:=TE hm hr hx (k:=n) (XX _) hl
 have hv : ∃a cap,vx = .slice a n cap/\n<=cap/\cap<=c'-off:=by
  cases hx with|mrow _ _ _ _ fM hU hvv =>
  obtain⟨p1,p2⟩:=hvv _ _ _ h1
  rcases p2 with⟨e0,a,rfl⟩|⟨e0,b0,rfl,rfl⟩
  .
   obtain⟨a',c'',e1,e2,_⟩:=fM
   cases e1
   exact⟨a,0,rfl,XX _,Yi _⟩
  exact⟨_,_,rfl,om,XX _⟩
 obtain⟨a,cap,rfl,v1,v2⟩:=hv
 have hgr:cap<n+m:=by omega
 have hm0:0<m:=by omega
 have hrep:RowsIn w g (P.cellsOf e) (List.replicate m (zeroCells P e)) (Builtin.zeroCells z.cells m).toList:=by
  refine⟨by simp[size_zeroCells,hz'],λj row hj=>?_⟩
  obtain⟨hjl,FL⟩:=X7.1 hj;simp only[List.length_replicate]at hjl;simp only[List.getElem_replicate]at FL;subst FL;refine⟨hdef,λq d hq=>?_⟩
  obtain⟨hrz,hone,hcl⟩:=Av (P:=P) hi hzz w g h1z;have FC:q<P.cellsOf e:=by have:=(X7.1 hq).1;omega
  refine⟨z.cells[q]!,?_,?_,?_⟩
  . simp only[Zc];have hlt:=zT hjl FC;unfold Builtin.zeroCells;simp only[Array.getElem?_map,hz'];rw[Array.getElem?_range,X3 hlt];simp only[YX];rw[ZE,Z4,ZB FC]
  .
   have hq':q<z.cells.size:=by omega
   rw[getElem!_pos z.cells q hq'];exact hone _ (by simp)
  have hq':q<z.cells.size:=by omega
  rw[getElem!_pos z.cells q hq'];exact hrz.2 q d _ hq (by simp[hq'])
 have U1:((rows.drop off).take n++List.replicate m (zeroCells P e)).length=n+m:=by simp;omega
 have hge:=grownCap_ge w (n+m) cap e
 obtain⟨g',k1,k2,k3,k4⟩:=Jz (h':=upd h b (some ⟨e,(rows.drop off).take n++List.replicate m (zeroCells P e)⟩)) hm hb (o1.append hrep) h2 hz' (bN _ _ _) (λr hr=>.inl (aK _ _ _ _ hr)) (grownCap w (n+m) cap e) (by rw[U1];exact hge) (by omega)
  (grownCap_le_maxLen _ _ _ _ o5q)
 rw[U1]at k1 k2 k3
 have hap:(Builtin.append_ #[t,u] ty #[.slice a n cap,.int .i64 m]).run P w = .ok (.slice (some ⟨w.heap.size,0,none⟩) (n+m) (grownCap w (n+m) cap e))
   (w.drew.alloc (.cells ((olds++(Builtin.zeroCells z.cells m).toList).toArray++Builtin.zeroCells z.cells (grownCap w (n+m) cap e-(n+m))) e)):=by
  have e1 : ¬(n+m<=cap):=by omega
  have e2:IntKind.i64.wrap (m:Int)=m:=by rw[IntKind.wrap_i64];omega
  have e3 : ¬((m:Int)<0):=by omega
  have hmb:m*P.bytesOf e<=140737488355328:=Yh (YY _ om) hby;have e4 : ¬(281474976710656<(m:Int)*(i.bytes:Int)):=by
   rw[FU];have e9:((m*P.bytesOf e:Nat):Int)=(m:Int)*(P.bytesOf e:Int):=by simp
   omega
  have e5 : ¬(9223372036854775807<(n:Int)+(m:Int)):=by omega
  have h48 : ¬(281474976710656<Builtin.nextslicecap (n+m) cap*i.bytes):=by have:=growslice_fits (bytes:=i.bytes) hgr (by rw[FU];exact hby);omega
  have e6 : ¬(m*P.cellsOf e=0):=by
   intro h
   rcases Nat.mul_eq_zero.1 h with h|h<;>omega
  have e7 : ¬(m*i.size=0):=by rw[hs];exact e6
  have ho:=o3 w.drew rfl;rw[<-hs]at ho;have eA : ∀Z:Array Value,(olds++(Builtin.zeroCells z.cells m).toList).toArray++Z=olds.toArray++(Builtin.zeroCells z.cells m++Z):=λZ=>by apply Zq;simp
  rw[eA]
  simp[Builtin.append_,run_underlying ht,run_underlying hu,sizeOf,typeInfo,zeroValue,hi,hzz,asInt,asIntOf,e1,e2,e3,e4,e5,e7,h48,Question.forced,ho,newRow,grownCap]
 exact⟨_,g',_,hap,k1,k2,k3,k4⟩
def Q6 [Glob P]{C:aS}{s s1:S}{ops:Array Oper}{i b:Nat}(k:Nat){o:Oper}(A:D->H->Env->Prop)(hik:i<=k)(ho:ops[k]? = some o)(hg:o.guard=none)(hdef : ∀c,o.op ≠ .defer c)
  (he:aZ P (words P) C ops.toList b i ((ops.toList.drop i).take (k-i)) s=s1)(hok:s1.ok)(hd:dK s1.n o.dst=true)
  (hdo : ∀(B:dn)(g:Mem)(a:Act)(w:World),St P B s1 g a w -> ¬g.U (b+k) -> ∃d h' E v g' w',A d h' E/\E.x=s1.e.x/\(execOp a.eval o).run P w = .ok (.value v) w'/\ag w' g' d v/\HM P h' g' w'/\ax g g' w w'/\(∀r,g'.U r->g.U r\/r=b+k)/\E.p g' w')
  (hk : ∀d h' E,A d h' E->av P ro ops (k+1) b { n:=s1.n,t:=s1.put o.dst d,h:=h',nx:=s1.nx,ok:=True,e:=E } Q):av P ro ops i b s Q:=by
 intro B g0 g a w0 w hs hm hU
 have hlt:k<ops.size:=(Yk.1 ho).1
 have hr:List.range' i (ops.size-i)=List.range' i (k-i)++(k::List.range' (k+1) (ops.size-(k+1))):=by
  have:ops.size-i=(k-i)+((ops.size-(k+1))+1):=by omega
  rw[this,<-Zl,Y9];have e1:i+(k-i)=k:=by omega
  rw[e1]
 rw[hr]
 refine uM (C:=C) (b:=b) (k-i) i s g a w hs hm hU (by omega) o6a λg1 a1 w1 hs1 hm1 eH=>?_
 rw[he]at hs1
 have eH : ∀r,g1.U r->r<b+k:=λr hr=>by have:=eH r hr;omega
 have hse:s1.e=s.e:=by rw[<-he];exact uO _ _ _ _ _
 rw[wpOpsIn_cons]
 unfold wpOpIn
 rw[ho]
 simp only
 have hw:Region.wanted o (yielded ops a1.tmps)=true:=by simp[Region.wanted,hg]
 rw[X3 hw]
 have j6:o.semAt (Fw ro).round a1.eval=execOp a1.eval o:=Oper.semAt_eq _ _ _ hdef
 refine⟨λ_ _=>trivial,?_⟩
 rw[j6]
 obtain⟨d,h',E,v,g',w',hA,hx,hrun,q1,q2,q3,q4,q5⟩:=hdo B g1 a1 w1 hs1 (λh=>Nat.lt_irrefl _ (eH _ h))
 have hs2:=mI hs1 q3 q2 hd q1 True
 have:=hk d h' E hA B g0 g' (a1.put o.dst v) w0 w' ⟨hs2.sz,hs2.tm,hs2.mem,hs2.df,q5,hs2.bd⟩ (hm1.trans q3) (λr hr=>by
  rcases q4 r hr with h|h
  . have:=eH r h;omega
  omega)
 simp only[hx,hse]at this
 rw[hrun,Oper.uponIn_value]
 exact this
section
variable [Glob P] {C : aS} {s s1 : S} {ops : Array Oper} {i b : Nat} {o : Oper}
def Zdn(k:Nat){t u e:TypeId}{x y:Operand}{yd:D}{r off n:Nat}{rows:List (List D)}(hik:i<=k)(ho:ops[k]? = some o)(hg:o.guard=none)
  (hop:o.op = .call { callee:=.builtin .append,args:=#[x,y],argTypes:=#[t,u] })(ht:P.underlying t=some (.slice e))
  (he:aZ P (words P) C ops.toList b i ((ops.toList.drop i).take (k-i)) s=s1)(hok:s1.ok)(hd:dK s1.n o.dst=true)(hx:s1.ev x = .mrow r off n)(hy:s1.ev y=yd)(hr:s1.h r=some ⟨e,rows⟩)
  (hl:(aC yd s1.h).length=bO yd)(hs:iA P u s1.h yd=true)(hrl : ∀q∈aC yd s1.h,q.length=P.cellsOf e)(h0:off<rows.length)(hfit:off+n+(aC yd s1.h).length<=rows.length)
  (hk:av P ro ops (k+1) b { n:=s1.n,t:=s1.put o.dst (.mrow r off (n+(aC yd s1.h).length)),h:=upd s1.h r (some ⟨e,rows.take (off+n)++aC yd s1.h++rows.drop (off+n+(aC yd s1.h).length)⟩),nx:=s1.nx,ok:=True,e:=s1.e } Q):av P ro ops i b s Q:=by
 subst hy
 refine kE (C:=C) k (λd h'=>d = .mrow r off (n+(aC (s1.ev y) s1.h).length)/\h'=upd s1.h r (some ⟨e,rows.take (off+n)++aC (s1.ev y) s1.h++rows.drop (off+n+(aC (s1.ev y) s1.h).length)⟩)) hik ho hg (λc e=>by rw[hop]at e;cases e) he hok hd (λB g a w hst _=>?_) (λd h'⟨hy,hh⟩=>by subst hy;subst hh;exact hk)
 have hv:=bX hst x
 rw[hx]at hv
 obtain⟨v,g',w',q1,q2,q3,q4,q5⟩:=ZkA hst.mem ht hr hv (bX hst y) hl hs hrl h0 hfit o.type
 refine⟨_,_,⟨rfl,rfl⟩,v,g',w',.inl ?_,q2,q3,q4,λr hr=>.inl (q5 r hr)⟩
 obtain⟨od,oo,iD,op,oa,og⟩:=o
 simp only at hop
 subst hop
 simp[Go.BigFrame.execOp_builtin,Go.BigFrame.builtin_append,q1]
def Zdd(k:Nat){t u e:TypeId}{x y:Operand}{r off len r2 mM o8:Nat}(m:Nat){rows lC:List (List D)}(z9:eY P C ops i k o b s s1)
  (hop:o.op = .call { callee:=.builtin .copy,args:=#[x,y],argTypes:=#[t,u] })(ht:P.underlying t=some (.slice e))
  (hx:s1.ev x = .mrow r off len)(hy:s1.ev y = .mrow r2 mM o8)(hr:s1.h r=some ⟨e,rows⟩)(hr2:s1.h r2=some ⟨e,lC⟩)
  (hm:m=min o8 len)(h0:0<m)(hlo:off<=rows.length)(hl:mM+m<=lC.length)
  (hk:av P ro ops (k+1) b { n:=s1.n,t:=s1.put o.dst (.i m),h:=upd s1.h r (some ⟨e,rows.take off++(lC.drop mM).take m++rows.drop (off+m)⟩),nx:=s1.nx,ok:=True,e:=s1.e } Q):av P ro ops i b s Q:=by
 obtain⟨hik,ho,hg,he,hok,hd⟩:=z9
 refine kE (C:=C) k (λd h'=>d = .i m/\h'=upd s1.h r (some ⟨e,rows.take off++(lC.drop mM).take m++rows.drop (off+m)⟩)) hik ho hg (λc e=>by rw[hop]at e;cases e) he hok hd (λB g a w hst _=>?_) (λd h'⟨hy,hh⟩=>by subst hy;subst hh;exact hk)
 have hv:=bX hst x
 rw[hx]at hv
 have hv2:=bX hst y
 rw[hy]at hv2
 obtain⟨g',w',q1,q2,q3,q4⟩:=ZjN (u:=u) hst.mem ht hr hr2 hv hv2 hm h0 hlo hl o.type
 refine⟨_,_,⟨rfl,rfl⟩,_,g',w',.inl ?_,.v _,q2,q3,λr hr=>.inl (q4 r hr)⟩
 obtain⟨od,oo,iD,op,oa,og⟩:=o
 simp only at hop
 subst hop
 simp[Go.BigFrame.execOp_builtin,Go.BigFrame.builtin_copy,q1]
def Zc3(k:Nat){t e:TypeId}{x hi:Operand}{r off len m c:Nat}{rows:List (List D)}{E:Env}(z9:eY P C ops i k o b s s1)
  (hop:o.op = .slice t x none (some hi) none)(ht:P.underlying t=some (.slice e))
  (hx:s1.ev x = .mrow r off len)(hh:s1.ev hi = .i m)(hr:s1.h r=some ⟨e,rows⟩)(hE:s1.e=Env.lim E r c)(hc:off+m<=c)(h0:0<m)(hl:off<rows.length)
  (hk:av P ro ops (k+1) b { n:=s1.n,t:=s1.put o.dst (.mrow r off m),h:=s1.h,nx:=s1.nx,ok:=True,e:=s1.e } Q):av P ro ops i b s Q:=by
 obtain⟨hik,ho,hg,he,hok,hd⟩:=z9
 refine kE (C:=C) k (λd h'=>d = .mrow r off m/\h'=s1.h) hik ho hg (λc e=>by rw[hop]at e;cases e) he hok hd (λB g a w hst _=>?_) (λd h'⟨hy,hh⟩=>by subst hy;subst hh;exact hk)
 have hv:=bX hst x
 rw[hx]at hv
 have qJ:=(bX hst hi)
 rw[hh]at qJ
 have qJ:=qJ.v_inv
 have hen:=hst.en
 rw[hE]at hen
 obtain⟨_,hU,hcap⟩:=hen
 obtain⟨blk,c0,h1,h2,h3,h4,h5⟩:=hst.mem.blk r _ hr
 have hc0:=hcap _ _ _ h1
 subst hc0
 simp only at h2 h3
 generalize uF:a.eval x=v at hv
 cases hv with|mrow _ _ _ _ fM _ hvv =>
 obtain⟨p1,p2⟩:=hvv _ _ _ h1
 rcases p2 with⟨e0,_⟩|⟨e0,b0,rfl,rfl⟩
 . omega
 have r2:=ng (P:=P) (o:=some (.i m)) (vo:=some (a.eval hi)) (d:=len) (y:=c0-off) (w:=w) (g:=g) (by rw[qJ];exact .v _) rfl (by simp[bnd]) o5u (if true then .sliceAcap else .sliceAlen)
 have r1:=ng (P:=P) (o:=none) (vo:=none) (d:=0) (y:=(bnd (some (.i m)) len).toNat) (w:=w) (g:=g) trivial rfl (by simp[bnd]) (by simp[bnd]) .sliceB
 have hrun:=AL ht h2 (a:=some ⟨b0,off*P.cellsOf e,none⟩) (len:=len) (vm:=none) (D9 (P:=P) (len:=len) r2 r1)
 have hz : ¬(c0-off=0):=by omega
 simp only[bnd,Int.toNat_natCast,hz,Za,Nat.zero_mul,Nat.sub_zero,YX,pO,Zu]at hrun
 have hmc:m<=c0-off:=by omega
 refine⟨_,_,⟨rfl,rfl⟩,.slice (some ⟨b0,off*P.cellsOf e,none⟩) m (c0-off),g,w,.inl ?_,.mrow r off m _ ⟨_,_,rfl,hmc,λ_=>⟨_,rfl⟩⟩ hU λblk c' sz hq=>?_,hst.mem,ax.refl _ _,λr hr=>.inl hr⟩
 .
  obtain⟨od,oo,iD,op,oa,og⟩:=o;simp only at hop;subst hop
  simp[execOp,uF,hrun]
 rw[h1]at hq
 simp only[Yf,YK]at hq
 obtain⟨rfl,rfl,rfl⟩:=hq
 exact⟨om,.inr ⟨e0,b0,rfl,rfl⟩⟩
def Zdh(k:Nat){t e:TypeId}{x:Operand}{r off len:Nat}{rows:List (List D)}(z9:eY P C ops i k o b s s1)
  (hop:o.op = .call { callee:=.builtin .cap,args:=#[x],argTypes:=#[t] })(ht:P.underlying t=some (.slice e))
  (hx:s1.ev x = .mrow r off len)(hr:s1.h r=some ⟨e,rows⟩)
  (hk : ∀c:Nat,len<=c->c<=maxLen->av P ro ops (k+1) b { n:=s1.n,t:=s1.put o.dst (.i c),h:=s1.h,nx:=s1.nx,ok:=True,e:=Env.lim s1.e r (off+c) } Q):av P ro ops i b s Q:=by
 obtain⟨hik,ho,hg,he,hok,hd⟩:=z9
 refine Q6 (C:=C) k (λd h' E=>∃c:Nat,d = .i c/\h'=s1.h/\E=Env.lim s1.e r (off+c)/\len<=c/\c<=maxLen) hik ho hg (λc e=>by rw[hop]at e;cases e) he hok hd (λB g a w hst _=>?_) (λd h' E⟨c,h1,h2,h3,h4,h5⟩=>by subst h1;subst h2;subst h3;exact hk c h4 h5)
 have hv:=bX hst x
 rw[hx]at hv
 obtain⟨blk,c0,h1,h2,h3,h4,h5⟩:=hst.mem.blk r _ hr
 have key : ∃(ad:Option Addr)(c:Nat),a.eval x = .slice ad len c/\len<=c/\c<=maxLen/\c0=off+c/\g.U r:=by
  generalize a.eval x=v at hv
  cases hv with|mrow _ _ _ _ fM hU hvv =>
  obtain⟨p1,p2⟩:=hvv _ _ _ h1;obtain⟨a',c',e1,e2,_⟩:=fM
  rcases p2 with⟨e0,a,rfl⟩|⟨e0,b0,rfl,rfl⟩
  .
   cases e1
   exact⟨a',0,rfl,om,Yi _,om,hU⟩
  cases e1
  exact⟨_,_,rfl,e2,om,om,hU⟩
 obtain⟨ad,c,k1,k2,k3,k4,k5⟩:=key
 refine⟨_,_,_,.int .i64 c,g,w,⟨c,rfl,rfl,rfl,k2,k3⟩,rfl,?_,.v _,hst.mem,ax.refl _ _,λr hr=>.inl hr,hst.en,k5,λblk c' sz hq=>?_⟩
 .
  obtain⟨od,oo,iD,op,oa,og⟩:=o;simp only at hop;subst hop
  simp[Go.BigFrame.execOp_builtin,Go.BigFrame.builtin_cap,k1,Builtin.cap_,run_underlying ht,goInt]
 rw[h1]at hq
 simp only[Yf,YK]at hq
 obtain⟨rfl,rfl,rfl⟩:=hq
 exact k4
def Zdm(k:Nat){t u e:TypeId}{kk:IntKind}{x y:Operand}{r off n m c:Nat}{rows:List (List D)}{E:Env}(z9:eY P C ops i k o b s s1)
  (hop:o.op = .call { callee:=.builtin .append,args:=#[x,y],argTypes:=#[t,u] })(ht:P.underlying t=some (.slice e))(hu:P.underlying u=some (.int kk))(hz:eQ P e=true)(h1z:(zeroCells P e).all D.one=true)(hdef:(zeroCells P e).length=P.cellsOf e)
  (hx:s1.ev x = .mrow r off n)(hy:s1.ev y = .i m)(hr:s1.h r=some ⟨e,rows⟩)(hE:s1.e=Env.lim E r c)(hc:c<off+n+m)(hl:off+n<=rows.length)(hby:(n+m)*P.bytesOf e<=140737488355328)(h63:n+m<=4611686018427387904)
  (hk:av P ro ops (k+1) b { n:=s1.n,t:=s1.put o.dst (.mrow (b+k) 0 (n+m)),h:=upd s1.h (b+k) (some ⟨e,(rows.drop off).take n++List.replicate m (zeroCells P e)⟩),nx:=s1.nx,ok:=True,e:=s1.e } Q):av P ro ops i b s Q:=by
 obtain⟨hik,ho,hg,he,hok,hd⟩:=z9
 refine kE (C:=C) k (λd h'=>d = .mrow (b+k) 0 (n+m)/\h'=upd s1.h (b+k) (some ⟨e,(rows.drop off).take n++List.replicate m (zeroCells P e)⟩)) hik ho hg (λc e=>by rw[hop]at e;cases e) he hok hd (λB g a w hst hbk=>?_) (λd h'⟨hy,hh⟩=>by subst hy;subst hh;exact hk)
 have hv:=bX hst x
 rw[hx]at hv
 have nK:=bX hst y
 rw[hy]at nK
 have nK:=nK.v_inv
 have hen:=hst.en
 rw[hE]at hen
 obtain⟨v,g',w',q1,q2,q3,q4,q5⟩:=Zky hst.mem hbk ht hu hr hv hen.2.2 hz h1z hdef hc hl hby h63 o.type
 refine⟨_,_,⟨rfl,rfl⟩,v,g',w',.inl ?_,q2,q3,q4,q5⟩
 obtain⟨od,oo,iD,op,oa,og⟩:=o
 simp only at hop
 subst hop
 simp[Go.BigFrame.execOp_builtin,Go.BigFrame.builtin_append,nK,q1]
def Zc0(k:Nat){t e:TypeId}{x lo hi mx:Operand}{r len l m:Nat}{rows:List (List D)}(z9:eY P C ops i k o b s s1)
  (hop:o.op = .slice t x (some lo) (some hi) (some mx))(ht:P.underlying t=some (.slice e))
  (hx:s1.ev x = .mrow r 0 len)(hlo:s1.ev lo = .i l)(hh:s1.ev hi = .i m)(hmx:s1.ev mx = .i len)(hr:s1.h r=some ⟨e,rows⟩)(h1:l<=m)(h2:m<=len)
  (hk:av P ro ops (k+1) b { n:=s1.n,t:=s1.put o.dst .junk,h:=s1.h,nx:=s1.nx,ok:=True,e:=s1.e } Q):av P ro ops i b s Q:=by
 obtain⟨hik,ho,hg,he,hok,hd⟩:=z9
 refine kE (C:=C) k (λd h'=>d = .junk/\h'=s1.h) hik ho hg (λc e=>by rw[hop]at e;cases e) he hok hd (λB g a w hst _=>?_) (λd h'⟨hy,hh⟩=>by subst hy;subst hh;exact hk)
 have hv:=bX hst x
 rw[hx]at hv
 have hvl:=bX hst lo
 rw[hlo]at hvl
 have qJ:=bX hst hi
 rw[hh]at qJ
 have hvm:=bX hst mx
 rw[hmx]at hvm
 obtain⟨blk,c0,p1,p2,p3,p4,p5⟩:=hst.mem.blk r _ hr
 have key : ∃(ad:Option Addr)(c:Nat),a.eval x = .slice ad len c/\len<=c:=by
  generalize a.eval x=v at hv
  cases hv with|mrow _ _ _ _ fM hU hvv =>
  obtain⟨a',c',e1,e2,_⟩:=fM;exact⟨a',c',e1,e2⟩
 obtain⟨ad,c,k1,k2⟩:=key
 have r3:=ng (P:=P) (o:=some (.i len)) (vo:=some (a.eval mx)) (d:=0) (y:=c) (w:=w) (g:=g) hvm rfl (by simp[bnd]) o5u (if true then .slice3Acap else .slice3Alen)
 have r2:=ng (P:=P) (o:=some (.i m)) (vo:=some (a.eval hi)) (d:=0) (y:=(bnd (some (.i len)) 0).toNat) (w:=w) (g:=g) qJ rfl (by simp[bnd]) o5u .slice3B
 have r1:=ng (P:=P) (o:=some (.i l)) (vo:=some (a.eval lo)) (d:=0) (y:=(bnd (some (.i m)) 0).toNat) (w:=w) (g:=g) hvl rfl (by simp[bnd]) o5u .slice3C
 obtain⟨v,hrun⟩:∃v,(Instr.sliceAt t (.slice ad len c) (some (a.eval lo)) (some (a.eval hi)) (some (a.eval mx))).run P w = .ok v w:=⟨_,AL ht p2 (a:=ad) (len:=len) (Xt (P:=P) (len:=len) r3 r2 r1)⟩
 refine⟨_,_,⟨rfl,rfl⟩,v,g,w,.inl ?_,.junk _,hst.mem,ax.refl _ _,λr hr=>.inl hr⟩
 obtain⟨od,oo,iD,op,oa,og⟩:=o
 simp only at hop
 subst hop
 simp[execOp,k1,hrun]
end
end Go.DL
namespace Go.DL
open Go.RowKit
variable {P : Program} {ro : Option Nat} {Q : Exit -> S -> Prop}
theorem Uf [Glob P]{fn:Func}{tmps:Array Value}{R:Ending->World->Prop}{n B:Nat}{g:Mem}{u:FrameMode}(hu:u ≠ .run){ds0:List Deferred}:∀(ds:List Deferred)(w:World),Marks B g ds w ->
  (∀w',w'.drawn=w.drawn->w'.os=w.os->w'.tape=w.tape->w'.output=w.output->w'.heap.size=w.heap.size->(∀k:Nat,k<B->w'.heap[k]? = w.heap[k]?)->(∀k:Nat,g.I k->w'.heap[k]? = w.heap[k]?)->(∀(k:Nat)o,w.heap[k]? = some o->GX o->w'.heap[k]? = w.heap[k]?)->LeavesInM Fence.wide n P fn tmps R ds0 u w') ->
  LeavesInM Fence.wide n P fn tmps R (ds++ds0) u w:=by
 intro ds
 induction ds with
 | nil =>
  intro w _ h;exact h w rfl rfl rfl rfl rfl (λ_ _=>rfl) (λ_ _=>rfl) (λ_ _ _ _=>rfl)
 | cons d ds ih =>
  rintro w ⟨⟨D,h1,h2,h3,h4,h5⟩,h6⟩ h;refine⟨hu,.inl ⟨D,w.putObj D (.deferred none),h1,run_takeDeferred h2,?_⟩⟩;have hne : ∀k,k≠D->(w.putObj D (.deferred none)).heap[k]? = w.heap[k]? := λk hk=>World.putObj_heap_other hk
  have hms : ∀ds:List Deferred,(∀d'∈ds,d'.target ≠ .collected D)->Marks B g ds w->Marks B g ds (w.putObj D (.deferred none)):=by
   intro ds
   induction ds with
   | nil=>intro _ _;trivial
   | cons e ds ihd =>
    rintro hds ⟨⟨D',k1,k2,k3,k4,k5⟩,k6⟩;refine⟨⟨D',k1,?_,k3,k4,k5⟩,ihd (λd' hd'=>hds d' (by simp[hd'])) k6⟩
    rw[hne D' (λe'=>by subst e';exact hds e (by simp) k1)]
    exact k2
  refine ih _ (hms ds h3 h6) λw' e0 e1 e2 e3 e4 e5 e6 e7=>?_
  refine h w' (by rw[e0];rfl) (by rw[e1];rfl) (by rw[e2];rfl) (by rw[e3];rfl) (by rw[e4];simp) (λk hk=>?_) (λk hk=>?_) (λk o hk ho=>?_)
  . rw[e5 k hk,hne k (by omega)]
  . rw[e6 k hk,hne k (λe=>by subst e;exact h5 hk)]
  have:k≠D:=λe'=>by subst e';rw[h2]at hk;cases hk;exact ho
  rw[e7 k o (by rw[hne k this];exact hk) ho,hne k this]
def ol(P:Program)[Glob P](f:FuncId)(args:List D)(h:H)(n:Nat)(R:D->H->Nat->Prop)(X:List PanicEntry->H->Nat->Prop):Prop :=
 dY P f=true /\ ∀(w:World)(g:Mem)(vs:List Value),HM P h g w->(∀r,g.U r->r<n)->aB w g args vs ->
  CallsIn Fence.wide 0 P f vs.toArray w λe w'=>∃g' h' n',HM P h' g' w'/\ax g g' w w'/\(∀r,g'.U r->r<n')/\((∃v res,R res h' n'/\e = .returned v/\ag w' g' res v) \/ ∃c,X c h' n'/\e = .panicked c)
def OX(P:Program)[Glob P](fn:Func)(R:D->H->Nat->Prop)(X:List PanicEntry->H->Nat->Prop):Exit->S->Prop
 | .normal,s | .ret,s=>qh P s fn.results.toList /\ ∃h' n',(∀r,h' r=s.h r\/h' r=none)/\s.nx<=n'/\R (rO P fn.results.toList s) h' n'
 | .panic c,s=>∃h' n',(∀r,h' r=s.h r\/h' r=none)/\s.nx<=n'/\X c h' n'
 | _,_=>False
theorem Cz [Glob P]{f:FuncId}{fn:Func}{c:Code}{args:List D}{h:H}{n:Nat}{R:D->H->Nat->Prop}{X:List PanicEntry->H->Nat->Prop}(hf:P.funcs[f]? = some fn)(hb:fn.body=some c)(hbd:dY P f=true)(hn:args.length<=fn.ntmps)
  (hw:(∀r,n<=r->h r=none)->DW P none c (OX P fn R X) { n:=fn.ntmps,t:=λi=>args.getD i .junk,h:=h,nx:=n }):ol P f args h n R X:=by
 refine⟨hbd,λw g vs hm hU hr=>?_⟩
 have hs:=zR (P:=P) (n:=fn.ntmps) hr hn hm (nx:=n)
 refine callsIn_of_wp_marks (n:=0) hf hb trivial (wpIn_mono (F:=Fence.wide) (hw (Bh hm hU) (dn.of w.heap.size) g _ w hs hU) ?_)
 rintro e a' w' ⟨s',g',hq,hs',hm',iZ,_⟩
 have hm':=hm'.out
 have key : ∀u:FrameMode,u ≠ .run->(∀w2,w2.drawn=w'.drawn->w2.os=w'.os->w2.tape=w'.tape->w2.output=w'.output->w2.heap.size=w'.heap.size->ax g g' w w2->St P (dn.of w.heap.size) { s' with e:=Env.tt } g' { a' with defers:=[] } w2 ->
   LeavesIn Fence.wide 0 P fn a'.tmps (λe w'=>∃g' h' n',HM P h' g' w'/\ax g g' w w'/\(∀r,g'.U r->r<n')/\((∃v res,R res h' n'/\e = .returned v/\ag w' g' res v) \/ ∃c,X c h' n'/\e = .panicked c)) [] u w2) ->
   LeavesInM Fence.wide 0 P fn a'.tmps (λe w'=>∃g' h' n',HM P h' g' w'/\ax g g' w w'/\(∀r,g'.U r->r<n')/\((∃v res,R res h' n'/\e = .returned v/\ag w' g' res v) \/ ∃c,X c h' n'/\e = .panicked c)) a'.defers u w':=by
  intro u hu hk;obtain⟨ms,e,hms⟩:=hs'.df;rw[e];refine Uf (P:=P) hu ms w' hms λw2 e0 e1 e2 e3 e4 e5 e6 e7=>?_
  refine hk w2 e0 e1 e2 e3 e4 ?_ (hs'.marks e4 e6 e7);refine⟨by rw[e1,hm'.os],by rw[e2,hm'.tape],by rw[e3,hm'.output],by rw[e4];exact hm'.size,by rw[e0];exact hm'.drawn,hm'.U,hm'.M,hm'.new,hm'.I,hm'.inew,λk hk hne=>?_⟩
  rw[e5 k hk];exact hm'.same k hk hne
 have ret:(qh P s' fn.results.toList /\ ∃h' n',(∀r,h' r=s'.h r\/h' r=none)/\s'.nx<=n'/\R (rO P fn.results.toList s') h' n')->LeavesInM Fence.wide 0 P fn a'.tmps (λe w'=>∃g' h' n',HM P h' g' w'/\ax g g' w w'/\(∀r,g'.U r->r<n')/\((∃v res,R res h' n'/\e = .returned v/\ag w' g' res v) \/ ∃c,X c h' n'/\e = .panicked c)) a'.defers .returning w':=by
  rintro⟨ho,h',n',hh,hn',hR⟩;refine key .returning (by simp) λw2 _ _ _ _ _ vF hs2=>?_
  obtain⟨v,h1,h2⟩:=CW (fn:=fn) hs2 ho;exact⟨v,h1,g'.only h',h',n',hs2.mem.only hh,vF.trans vD,λr hr=>YD (iZ r hr) hn',.inl ⟨v,_,hR,rfl,h2.only⟩⟩
 cases e with
 | normal=>exact ret hq
 | ret=>exact ret hq
 | panic c =>
  obtain⟨h',n',hh,hn',hX⟩:=hq;exact key (.panicking c) (by simp) λw2 _ _ _ _ _ vF hs2=>⟨g'.only h',h',n',hs2.mem.only hh,vF.trans vD,λr hr=>YD (iZ r hr) hn',.inr ⟨c,hX,rfl⟩⟩
 | _=>exact hq.elim
section
variable [Glob P] {C : aS} {s s1 : S} {ops : Array Oper} {i b : Nat} {o : Oper}
def ZcX(k:Nat){f:Operand}{args:Array Operand}{ts:Array TypeId}{aX:FuncId}{first aD xs:List D}(R:D->H->Nat->Prop)(X:List PanicEntry->H->Nat->Prop)(hik:i<=k)
  (ho:ops[k]? = some o)(hop:o.op = .call { callee:=.value f,args:=args,argTypes:=ts })(hg:o.guard=none)
  (he:aZ P (words P) C ops.toList b i ((ops.toList.drop i).take (k-i)) s=s1)(hok:s1.ok)(hd:dK s1.n o.dst=true)
  (hf:s1.ev f = .fn (.func aX) first aD)(hxg:(args.toList.map s1.ev).all sg=true)(hx:((args.toList.map s1.ev).map sd).map wk=xs)(hct:ol P aX (first++xs++aD) s1.h (b+k) R X)
  (hk : ∀res h' n',R res h' n'->av P ro ops (k+1) n' { n:=s1.n,t:=s1.put o.dst res,h:=h',nx:=n'+ops.size,ok:=True,e:=s1.e } Q)
  (hp : ∀c h' n',X c h' n'->Q (.panic c) { n:=s1.n,t:=s1.t,h:=h',nx:=n',ok:=True,e:=s1.e }):av P ro ops i b s Q:=by
 intro B g0 g a w0 w hs hm hU
 have hlt:k<ops.size:=(Yk.1 ho).1
 have hr:List.range' i (ops.size-i)=List.range' i (k-i)++(k::List.range' (k+1) (ops.size-(k+1))):=by
  have:ops.size-i=(k-i)+((ops.size-(k+1))+1):=by omega
  rw[this,<-Zl,Y9];have e1:i+(k-i)=k:=by omega
  rw[e1]
 rw[hr]
 refine uM (C:=C) (b:=b) (k-i) i s g a w hs hm hU (by omega) o6a λg1 a1 w1 hs1 hm1 eH=>?_
 rw[he]at hs1
 have eH : ∀r,g1.U r->r<b+k:=λr hr=>by have:=eH r hr;omega
 have hse:s1.e=s.e:=by rw[<-he];exact uO _ _ _ _ _
 rw[wpOpsIn_cons]
 unfold wpOpIn
 rw[ho]
 simp only
 have hw:Region.wanted o (yielded ops a1.tmps)=true:=by simp[Region.wanted,hg]
 rw[X3 hw]
 have hdef : ∀c,o.op ≠ .defer c:=by intro c e;rw[e]at hop;cases hop
 have j6:o.semAt (Fw ro).round a1.eval=execOp a1.eval o:=Oper.semAt_eq _ _ _ hdef
 refine⟨λ_ _=>trivial,?_⟩
 rw[j6]
 obtain⟨hbd,hct⟩:=hct
 have hfr:=bX hs1 f
 rw[hf]at hfr
 have fQ:=aB.wk (wC (vV hs1 args.toList) hxg)
 rw[hx]at fQ
 generalize hv:a1.eval f=vf at hfr
 cases hfr with|fn _ _ _ fs cs l1 l2 r1 r2 =>
 have hrun:(execOp a1.eval o).run P w1 = .ok (.enter aX (fs++args.map a1.eval++cs)) w1:=by
  simp[execOp,hop,resolve,Deferred.ofValue,hv,invoke,vY hbd]
 rw[hrun,Oper.uponIn_enter]
 have e:fs++args.map a1.eval++cs=(fs.toList++args.toList.map a1.eval++cs.toList).toArray:=by apply Zq;simp
 rw[e]
 refine⟨λh=>by simp[Fw,Fence.wide]at h,yO ((hct w1 g1 _ hs1.mem eH (aB.append (aB.append ⟨by simpa using l1,λi d x h1 h2=>r1 i d x h1 (by simpa using h2)⟩ fQ) ⟨by simpa using l2,λi d x h1 h2=>r2 i d x h1 (by simpa using h2)⟩)).mono ?_)⟩
 rintro e w' ⟨g',h',n',q2,q3,q4,⟨v,res,hR,rfl,q1⟩|⟨c,hX,rfl⟩⟩
 .
  have hs2:=mI hs1 q3 q2 hd q1 True;have:=hk res h' n' hR B g0 g' (a1.put o.dst v) w0 w' ⟨hs2.sz,hs2.tm,hs2.mem,hs2.df,hs2.en,hs2.bd⟩ (hm1.trans q3) (λr hr=>by have:=q4 r hr;omega)
  rw[hse]at this;exact this
 have hs2:=mI (dst:=none) hs1 q3 q2 rfl (.junk undef) True
 exact⟨_,g',hp c h' n' hX,⟨hs2.sz,hs2.tm,hs2.mem,hs2.df,hs2.en,hs2.bd⟩,by rw[<-hse];exact(hm1.trans q3).toX,q4,by rw[<-hse]⟩
def jc(k:Nat){f:Operand}{args:Array Operand}{ts:Array TypeId}{aX:FuncId}{first aD xs:List D}{R:D->H->Nat->Prop}{X:List PanicEntry->H->Nat->Prop}(ho:ops[k]? = some o:=by exact dR rfl)(hop:o.op = .call { callee:=.value f,args:=args,argTypes:=ts }:=by exact rfl)(hg:o.guard=none:=by exact rfl)
  (he:aZ P (words P) C ops.toList b i ((ops.toList.drop i).take (k-i)) s=s1:=by simp only[X9,X6,X5,Ye,S.put,Yq,Nat.reduceSub,go_sem,ff];first|done|exact rfl)(hok:s1.ok:=by(try simp only[go_sem,ff]);all_goals exact ok0)(hd:dK s1.n o.dst=true:=by(try simp only[go_sem,ff]);all_goals (first|done|rfl|decide|simp))
  (hf:s1.ev f = .fn (.func aX) first aD:=by simp only[go_sem,ff];first|done|exact rfl)(hxg:(args.toList.map s1.ev).all sg=true:=by simp only[go_sem,ff])(hx:((args.toList.map s1.ev).map sd).map wk=xs:=by simp only[go_sem,ff];first|done|exact rfl)(hct:ol P aX (first++xs++aD) s1.h (b+k) R X)
  (hp : ∀c h' n',X c h' n'->Q (.panic c) { n:=s1.n,t:=s1.t,h:=h',nx:=n',ok:=True,e:=s1.e })
  (hk : ∀res h' n',R res h' n'->av P ro ops (k+1) n' { n:=s1.n,t:=s1.put o.dst res,h:=h',nx:=n'+ops.size,ok:=True,e:=s1.e } Q)(hik:i<=k:=by omega):av P ro ops i b s Q :=
 ZcX k R X hik ho hop hg he hok hd hf hxg hx hct hk hp
def Zc5(k:Nat){x:Operand}{d:D}{t:TypeId}{v:Value}(hik:i<=k)(ho:ops[k]? = some o)(hop:o.op = .panic x)(hg:o.guard=none)
  (he:aZ P (words P) C ops.toList b i ((ops.toList.drop i).take (k-i)) s=s1)(hok:s1.ok)(hx:s1.ev x=d)(hv : ∀(w:World)(g:Mem)u,ag w g d u->u = .iface t v)
  (hq:Q (.panic [{ v:=.iface t v,recovered:=false }]) { n:=s1.n,t:=s1.t,h:=s1.h,nx:=b+k,ok:=True,e:=s1.e }):av P ro ops i b s Q:=by
 intro B g0 g a w0 w hs hm hU
 have hlt:k<ops.size:=(Yk.1 ho).1
 have hr:List.range' i (ops.size-i)=List.range' i (k-i)++(k::List.range' (k+1) (ops.size-(k+1))):=by
  have:ops.size-i=(k-i)+((ops.size-(k+1))+1):=by omega
  rw[this,<-Zl,Y9];have e1:i+(k-i)=k:=by omega
  rw[e1]
 rw[hr]
 refine uM (C:=C) (b:=b) (k-i) i s g a w hs hm hU (by omega) o6a λg1 a1 w1 hs1 hm1 eH=>?_
 rw[he]at hs1
 have eH : ∀r,g1.U r->r<b+k:=λr hr=>by have:=eH r hr;omega
 have hse:s1.e=s.e:=by rw[<-he];exact uO _ _ _ _ _
 rw[wpOpsIn_cons]
 unfold wpOpIn
 rw[ho]
 simp only
 have hw:Region.wanted o (yielded ops a1.tmps)=true:=by simp[Region.wanted,hg]
 rw[X3 hw]
 have hdef : ∀c,o.op ≠ .defer c:=by intro c e;rw[e]at hop;cases hop
 have j6:o.semAt (Fw ro).round a1.eval=execOp a1.eval o:=Oper.semAt_eq _ _ _ hdef
 refine⟨λ_ _=>trivial,?_⟩
 rw[j6]
 have fQ:=bX hs1 x
 rw[hx]at fQ
 have hxv:=hv _ _ _ fQ
 have hrun:(execOp a1.eval o).run P w1 = .halt (.panic (.iface t v)) w1:=by
  simp[execOp,hop,hxv,Instr.panic]
 rw[hrun,Oper.uponIn_panic]
 exact⟨_,g1,hq,⟨hs1.sz,hs1.tm,hs1.mem,hs1.df,hs1.en,hs1.bd⟩,by rw[<-hse];exact hm1.toX,eH,by rw[<-hse]⟩
def Zc4(k K:Nat){f:Operand}{args:Array Operand}{ts:Array TypeId}{aX:FuncId}{first aD xs zs:List D}{res:D}(hik:i<=k)
  (ho:ops[k]? = some o)(hop:o.op = .call { callee:=.value f,args:=args,argTypes:=ts })(hg:o.guard=none)
  (he:aZ P (words P) C ops.toList b i ((ops.toList.drop i).take (k-i)) s=s1)(hok:s1.ok)(hd:dK s1.n o.dst=true)
  (hf:s1.ev f = .fn (.func aX) first aD)(hxg:(args.toList.map s1.ev).all sg=true)(hx:(args.toList.map s1.ev).map sd=xs)(hso : ∀d∈first++xs++aD,dP s1.h K d)(hz:(first++xs++aD).map (λd=>wk (snap s1.h K d))=zs)(hct:PureCt P aX zs res)(hfl:flat res=true)
  (hk:av P ro ops (k+1) b { n:=s1.n,t:=s1.put o.dst res,h:=s1.h,nx:=s1.nx,ok:=True,e:=s1.e } Q):av P ro ops i b s Q:=by
 have hrc:bU P aX (first++xs++aD) s1.h (b+k) (λd h' n'=>d=res/\h'=s1.h/\n'=b+k):=by
  obtain⟨hbd,hnr,hct⟩:=hct;refine⟨hbd,λw g vs hm hU hr=>?_⟩
  have hds:aB w (ML g) zs vs:=by
   rw[<-hz];refine⟨by simpa using hr.1,λi d x h1 h2=>?_⟩
   obtain⟨y,h3,rfl⟩:=kX h1;exact(H6 hm K y x (vC (hr.2 i y x h3 h2)) (hso y (Yj h3))).1.wk
  refine(hct w (λb=>g.I b \/ ∃r c s,g.M r=some (some b,c,s)) _ (λb hb=>?_) (hm.gr.later λb hb=>⟨.inl hb,rfl⟩) hds).mono ?_
  .
   rcases hb with hb|⟨r,c,s,hb⟩
   . exact hm.imm b hb
   exact(pU hm hb).1
  rintro e w' ⟨v,rfl,hbel,hv⟩;have mono:ax g g w w':=⟨hbel.os,hbel.tape,hbel.output,hbel.size,hbel.drawn,λ_ h=>h,λ_ _=>.inl rfl,λr b c s h=>.inl ⟨r,c,s,h⟩,λ_ h=>h,λ_ h=>.inl h,λb hb _=>hbel.block b hb⟩
  refine⟨v,g,res,s1.h,b+k,⟨rfl,rfl,rfl⟩,rfl,NK hv hfl,⟨hm.dead,λr bl hr=>?_,hm.inj,hm.used,λb hb=>YD (hm.imm b hb) hbel.size,hm.gr.later (hm.kept mono)⟩,mono,hU⟩
  obtain⟨blk,c,h1,h2,h3,h4,h5⟩:=hm.blk r bl hr;refine⟨blk,c,h1,h2,h3,h4,?_⟩
  rcases h5 with h5|⟨b,cur,rfl,h6,h7,h8,h9⟩
  . exact .inl h5
  refine .inr ⟨b,cur,rfl,by rw[hbel.block b (pU hm h1).1];exact h6,h7,h8,λi row hi=>⟨(h9 i row hi).1,λj d hd=>?_⟩⟩
  obtain⟨u,k3,k4,k5⟩:=(h9 i row hi).2 j d hd;exact⟨u,k3,k4,k5.later hm mono⟩
 intro B g0 g a w0 w hs hm hU
 have hlt:k<ops.size:=(Yk.1 ho).1
 have hr:List.range' i (ops.size-i)=List.range' i (k-i)++(k::List.range' (k+1) (ops.size-(k+1))):=by
  have:ops.size-i=(k-i)+((ops.size-(k+1))+1):=by omega
  rw[this,<-Zl,Y9];have e1:i+(k-i)=k:=by omega
  rw[e1]
 rw[hr]
 refine uM (C:=C) (b:=b) (k-i) i s g a w hs hm hU (by omega) o6a λg1 a1 w1 hs1 hm1 eH=>?_
 rw[he]at hs1
 have eH : ∀r,g1.U r->r<b+k:=λr hr=>by have:=eH r hr;omega
 have hse:s1.e=s.e:=by rw[<-he];exact uO _ _ _ _ _
 rw[wpOpsIn_cons]
 unfold wpOpIn
 rw[ho]
 simp only
 have hw:Region.wanted o (yielded ops a1.tmps)=true:=by simp[Region.wanted,hg]
 rw[X3 hw]
 have hdef : ∀c,o.op ≠ .defer c:=by intro c e;rw[e]at hop;cases hop
 have j6:o.semAt (Fw ro).round a1.eval=execOp a1.eval o:=Oper.semAt_eq _ _ _ hdef
 refine⟨λ_ _=>trivial,?_⟩
 rw[j6]
 obtain⟨hbd,hct⟩:=hrc
 have hfr:=bX hs1 f
 rw[hf]at hfr
 have fQ:=wC (vV hs1 args.toList) hxg
 rw[hx]at fQ
 generalize hv:a1.eval f=vf at hfr
 cases hfr with|fn _ _ _ fs cs l1 l2 r1 r2 =>
 have hrun:(execOp a1.eval o).run P w1 = .ok (.enter aX (fs++args.map a1.eval++cs)) w1:=by
  simp[execOp,hop,resolve,Deferred.ofValue,hv,invoke,vY hbd]
 rw[hrun,Oper.uponIn_enter]
 have e:fs++args.map a1.eval++cs=(fs.toList++args.toList.map a1.eval++cs.toList).toArray:=by apply Zq;simp
 rw[e]
 refine⟨λh=>by simp[Fw,Fence.wide]at h,yO ((hct w1 g1 _ hs1.mem eH (aB.append (aB.append ⟨by simpa using l1,λi d x h1 h2=>r1 i d x h1 (by simpa using h2)⟩ fQ) ⟨by simpa using l2,λi d x h1 h2=>r2 i d x h1 (by simpa using h2)⟩)).mono ?_)⟩
 rintro e w' ⟨v,g',d,h',n',⟨hd1,rfl,rfl⟩,rfl,q1,q2,q3,q4⟩
 subst hd1
 have hs2:=mI hs1 q3 q2 hd q1 True
 have:=hk B g0 g' (a1.put o.dst v) w0 w' ⟨hs2.sz,hs2.tm,hs2.mem,hs2.df,hs2.en,hs2.bd⟩ (hm1.trans q3) (λr hr=>by have:=q4 r hr;omega)
 rw[hse]at this
 exact this
end
def yV(P:Program)[Glob P](f:FuncId)(args:List D)(h:H)(n:Nat)(u u':FrameMode)(R:H->Nat->Prop):Prop :=
 dY P f=true /\ ∀(w:World)(g:Mem)(vs:List Value),HM P h g w->(∀r,g.U r->r<n)->aB w g args vs ->
  CallsDIn Fence.wide 0 P f vs.toArray u w λe u2 w'=>∃v g' h' n',e = .returned v/\u2=u'/\HM P h' g' w'/\ax g g' w w'/\(∀r,g'.U r->r<n')/\R h' n'
def Cw(P:Program)[Glob P](fn:Func)(aX:FuncId)(aD:List D)(R:D->H->Nat->Prop)(e:Exit)(s:S):Prop :=
 ∃u u' Rd,(match e with | .normal | .ret=>u = .returning | .panic c=>u = .panicking c|_=>False)/\settle u' = .returning/\yV P aX aD s.h s.nx u u' Rd /\
  ∀h1 n1,Rd h1 n1->qh P { s with h:=h1 } fn.results.toList /\ ∃h' n',(∀r,h' r=h1 r\/h' r=none)/\n1<=n'/\R (rO P fn.results.toList { s with h:=h1 }) h' n'
def Zii [Glob P]{C:aS}{B:dn}{s:S}{g:Mem}{a:Act}{w:World}(hs:St P B s g a w){b i N:Nat}(hb : ¬g.U (b+i))(hN : ∀r,g.U r->r<N){ops:Array Oper}{o:Oper}(hi:ops[i]? = some o)(hgn:o.guard=none)(hok:(dJ P (words P) C ops.toList b i o s).ok)
  {ro:Option Nat}{n:Nat}{K:Act->World->Prop}{Q:Exit->Act->World->Prop}
  (hK : ∀g' a' w',St P B (dJ P (words P) C ops.toList b i o s) g' a' w'->ax g g' w w'->(∀r,g'.U r->g.U r\/r=b+i)->a'.defers=a.defers->K a' w'):wpOpIn (Fw ro) n P ops Q i K a w:=by
 unfold wpOpIn
 rw[hi]
 simp only
 unfold dJ at hok hK
 rw[hgn]at hok hK
 simp only at hok hK
 obtain⟨_,h2,h3⟩:=hok
 have hw:Region.wanted o (yielded ops a.tmps)=true:=by simp[Region.wanted,hgn]
 rw[X3 hw]
 exact N9 hs hb hN h3 λv g' w' h4 h5 h6 h7=>hK g' _ w' (mI hs h6 h5 h2 h4 _) h6 h7 (by cases o.dst<;>rfl)
theorem NV [Glob P]{C:aS}{B:dn}{ops:Array Oper}{b:Nat}{n:Nat}{Q:Exit->Act->World->Prop}{w0:World}{g0:Mem}{rest:List Nat}:∀(k i:Nat)(s:S)(g:Mem)(a:Act)(w:World),St P B s g a w->ax g0 g w0 w->(∀r,g.U r->r<b+i) ->
  i+k<=ops.size->(∀o∈(ops.toList.drop i).take k,o.guard=none)->(aZ P (words P) C ops.toList b i ((ops.toList.drop i).take k) s).ok ->
  (∀g' a' w',St P B (aZ P (words P) C ops.toList b i ((ops.toList.drop i).take k) s) g' a' w'->ax g0 g' w0 w'->(∀r,g'.U r->r<b+(i+k))->a'.defers=a.defers->wpOpsIn (Fw ro) n P ops Q rest a' w') ->
  wpOpsIn (Fw ro) n P ops Q (List.range' i k++rest) a w:=by
 intro k
 induction k with
 | zero =>
  intro i s g a w hs hm hU hk _ hok hQ;exact hQ g a w hs hm hU rfl
 | succ k ih =>
  intro i s g a w hs hm hU hk hgn hok hQ;have hlt:i<ops.size:=by omega
  have hd:(ops.toList.drop i).take (k+1)=ops[i]::(ops.toList.drop (i+1)).take k:=by rw[YC (by simpa using hlt)];simp
  rw[hd]at hok hQ hgn;simp only[aZ]at hok hQ;rw[Y9,XY,wpOpsIn_cons];refine Zii hs (b:=b) (N:=b+i) (λh=>by have:=hU _ h;omega) hU (by simp[hlt]) (hgn _ (by simp)) (J2 hok) λg' a' w' h1 h2 h3 h4=>?_
  refine ih (i+1) _ g' a' w' h1 (hm.trans h2) (λr hr=>by
   rcases h3 r hr with h|h
   . have:=hU r h;omega
   omega) om (λo ho=>hgn o (by simp[ho])) hok λg'' a'' w'' q1 q2 q3 q4=>hQ g'' a'' w'' q1 q2 (λr hr=>by have:=q3 r hr;omega) (q4.trans h4)
def ZaM{F:Fence}{n:Nat}{o:Oper}{a:Act}{next next':Act->World->Prop}{Q Q':Exit->Act->World->Prop}(hn : ∀a w,next a w->next' a w)(hq : ∀e a w,Q e a w->Q' e a w)(r:Result Next)(h:o.uponIn F n P a next Q r):o.uponIn F n P a next' Q' r:=by
 have hl:LetsOut Q->LetsOut Q':=λ⟨a,w,h⟩=>⟨a,w,hq _ _ _ h⟩
 unfold Oper.uponIn at h ⊢
 split at h
 . exact hn _ _ h
 . exact hn _ _ h
 . exact hn _ _ h
 . exact⟨h.1,h.2.mono λe w h=>by cases e with|returned v=>exact hn _ _ h|panicked c=>exact hq _ _ _ h|outgrown=>exact hl h⟩
 . exact⟨h.1,h.2.mono λv w h=>hn _ _ h⟩
 . exact⟨h.1,h.2.mono λe w h=>by cases e with|returned v=>exact hn _ _ h|panicked c=>exact hq _ _ _ h|outgrown=>exact hl h⟩
 . exact hq _ _ _ h
 exact h.elim
theorem Em{F:Fence}{n:Nat}{ops:Array Oper}{Q Q':Exit->Act->World->Prop}(hq : ∀e a w,Q e a w->Q' e a w):∀(l:List Nat)(a:Act)(w:World),wpOpsIn F n P ops Q l a w->wpOpsIn F n P ops Q' l a w
 | [],a,w,h=>hq _ _ _ h
 | i::l,a,w,h=>by
  unfold wpOpsIn at h ⊢
  cases hi:ops[i]? with
  | none=>rw[hi]at h;exact Em hq l a w h
  | some o =>
   rw[hi]at h;simp only at h ⊢
   split
   .
    rename_i hw
    rw[X3 hw]at h;exact⟨h.1,ZaM (λa w h=>Em hq l a w h) hq _ h.2⟩
   rename_i hw
   rw[XV hw]at h;exact⟨h.1,Em hq l _ w h.2⟩
theorem Wv [Glob P]{C:aS}{fn:Func}{R:D->H->Nat->Prop}{id:Nat}{ops:Array Oper}{y:Code}(k:Nat){o:Oper}{fop:Operand}{ts:Array TypeId}{aX:FuncId}{aD:List D}{s0 s1:S}{g g0:Mem}{w w0:World}{a0:Act}
  (ho:ops[k]? = some o)(hg:o.guard=none)(hop:o.op = .defer { callee:=.value fop,args:=#[],argTypes:=ts })(hgn : ∀o∈ops.toList.take k,o.guard=none)
  {E:Env}(Dz:E.x=none)(hE:E.p g0 w0)(he:aZ P (words P) C ops.toList s0.nx 0 (ops.toList.take k) { n:=s0.n,t:=s0.t,h:=s0.h,nx:=s0.nx+ops.size,e:=E }=s1)(hok:s1.ok)(hd:dK s1.n o.dst=true)(yx:s1.ev fop = .fn (.func aX) [] aD)
  (hw:av P none ops (k+1) s0.nx { n:=s1.n,t:=s1.put o.dst .junk,h:=s1.h,nx:=s1.nx,ok:=True,e:=s1.e } (thenS (DW P none y (Cw P fn aX aD R)) (Cw P fn aX aD R)))
  (hs0:St P (dn.of w.heap.size) s0 g0 a0 w0)(hm0:ax g g0 w w0)(hU0 : ∀r,g0.U r->r<s0.nx)(hdf0:a0.defers=[]) :
  (Code.seq (.region id ops false) y).wpIn Fence.wide 0 P (bodyPostM Fence.wide 0 P fn (λe w'=>∃v g' res h' n',R res h' n'/\e = .returned v/\ag w' g' res v/\HM P h' g' w'/\ax g g' w w' /\ ∀r,g'.U r->r<n')) a0 w0:=by
 refine wpIn_seq (wpIn_region ?_)
 have hs:St P (dn.of w.heap.size) { n:=s0.n,t:=s0.t,h:=s0.h,nx:=s0.nx+ops.size,e:=E } g0 a0 w0:=⟨hs0.sz,hs0.tm,hs0.mem,hs0.df,hE,hs0.bd⟩
 have hlt:k<ops.size:=(Yk.1 ho).1
 have hrg:List.range ops.size=List.range' 0 k++(k::List.range' (k+1) (ops.size-(k+1))):=by
  rw[Ze];have:ops.size=k+((ops.size-(k+1))+1):=by omega
  conv=>lhs;rw[this]
  rw[<-Zl,Y9]
  simp
 rw[hrg]
 have e0:(ops.toList.drop 0).take k=ops.toList.take k:=rfl
 refine NV (ro:=none) (C:=C) (b:=s0.nx) k 0 _ g0 _ w0 hs hm0 (λr hr=>by have:=hU0 r hr;omega) (by omega) hgn (by rw[e0];exact he▸hok) λg1 a1 w1 hs1 hm1 eH hdf=>?_
 rw[e0]at hs1
 have hs1:St P (dn.of w.heap.size) s1 g1 a1 w1:=he▸hs1
 have hdf:a1.defers=[]:=hdf.trans hdf0
 have hse:s1.e=E:=by rw[<-he];exact uO _ _ _ _ _
 rw[wpOpsIn_cons]
 unfold wpOpIn
 rw[ho]
 simp only
 have hwt:Region.wanted o (yielded ops a1.tmps)=true:=by simp[Region.wanted,hg]
 rw[X3 hwt]
 refine⟨λ_ _=>trivial,?_⟩
 have hfr:=bX hs1 fop
 rw[yx]at hfr
 generalize hv:a1.eval fop=vf at hfr
 cases hfr with|fn _ _ _ fs cs l1 l2 r1 r2 =>
 have hfs:fs = #[]:=by
  apply Zz
  simpa using l1.symm
 subst hfs
 have hrun:(o.semAt (Fw none).round a1.eval).run P w1 = .ok (.defer { target:=.fn (.func aX) cs,args:=#[] }) w1:=by
  have:o.semAt (Fw none).round a1.eval=execOp a1.eval o:=rfl;rw[this]
  simp[execOp,hop,resolve,Deferred.ofValue,hv]
 rw[hrun,Oper.uponIn_defer]
 have hcaps:aB w1 g1 aD cs.toList:=⟨by simpa using l2,λi d x h1 h2=>r2 i d x h1 (by simpa using h2)⟩
 let B':dn:=⟨w.heap.size,[{ target:=.fn (.func aX) cs,args:=#[] }],λd hd D=>by simp at hd;subst hd;simp⟩
 have hst:St P B' { n:=s1.n,t:=s1.put o.dst .junk,h:=s1.h,nx:=s1.nx,ok:=True,e:=s1.e } g1 ({ a1 with defers:={ target:=.fn (.func aX) cs,args:=#[] }::a1.defers }.put o.dst undef) w1:=by
  have hb0:St P B' { n:=s1.n,t:=s1.t,h:=s1.h,nx:=s1.nx,ok:=True,e:=s1.e } g1 { a1 with defers:={ target:=.fn (.func aX) cs,args:=#[] }::a1.defers } w1 :=
   ⟨hs1.sz,hs1.tm,hs1.mem,by rw[hdf];exact ky.start (B:=B'),hs1.en,hs1.bd⟩
  exact mI hb0 (ax.refl _ _) hs1.mem hd (.junk undef) True
 have hseg:=hw B' g1 g1 _ w1 w1 hst (ax.refl _ _) (λr hr=>by have:=eH r hr;omega)
 have hx0:s1.e.x=none:=by rw[hse];exact Dz
 have fin : ∀(e:Exit)(a':Act)(w':World)(s':S)(g':Mem),Cw P fn aX aD R e s'->St P B' s' g' a' w'->ax g1 g' w1 w'->(∀r,g'.U r->r<s'.nx)->bodyPostM Fence.wide 0 P fn (λe w'=>∃v g' res h' n',R res h' n'/\e = .returned v/\ag w' g' res v/\HM P h' g' w'/\ax g g' w w' /\ ∀r,g'.U r->r<n') e a' w':=by
  intro e a' w' s' g' ⟨u,u',Rd,hu,hset,hdc,hfin⟩ hs' hm' iZ;have hne:u ≠ .run:=by
   intro hh;subst hh
   cases e<;>simp at hu
  have hlast:LeavesInM Fence.wide 0 P fn a'.tmps (λe w'=>∃v g' res h' n',R res h' n'/\e = .returned v/\ag w' g' res v/\HM P h' g' w'/\ax g g' w w' /\ ∀r,g'.U r->r<n') a'.defers u w':=by
   obtain⟨ms,hms,hmk⟩:=hs'.df;rw[hms];refine Uf (P:=P) hne ms w' hmk λw2 e0 e1 e2 e3 e4 e5 e6 e7=>?_
   have hs2:=hs'.marks e4 e6 e7;have tO:ax g g' w w':=hm1.trans hm';have vF:ax g g' w w2:=by
    refine⟨by rw[e1,tO.os],by rw[e2,tO.tape],by rw[e3,tO.output],by rw[e4];exact tO.size,by rw[e0];exact tO.drawn,tO.U,tO.M,tO.new,tO.I,tO.inew,λk hk hne=>?_⟩
    rw[e5 k hk];exact tO.same k hk hne
   have hc2:aB w2 g' aD cs.toList:=(hcaps.later hs1.mem hm').mono (λb hb=>⟨hb,e6 b hb⟩) (λ_ h=>h) (λ_ _=>.inl rfl)
   obtain⟨hbd2,hcall⟩:=hdc;have hcall:=hcall w2 g' cs.toList hs2.mem iZ hc2;refine⟨hne,.inr ⟨λh=>by simp[Fence.wide]at h,.func aX,cs,aX,cs,rfl,by simp[invoke,vY hbd2],λ_ _=>trivial,?_⟩⟩
   have ecs:cs.toList.toArray=cs:=by simp
   rw[ecs]at hcall;refine hcall.mono ?_;rintro e3 u2 w3 ⟨v,g3,h3,n3,rfl,rfl,q1,q2,q3,q4⟩
   show LeavesInM Fence.wide 0 P fn a'.tmps _ [] (settle u2) w3
   rw[hset];obtain⟨ro,h4,n4,k1,k2,k3⟩:=hfin h3 n3 q4;have hs3:St P (dn.of w.heap.size) { n:=s'.n,t:=s'.t,h:=h3,nx:=s'.nx,ok:=s'.ok,e:=Env.tt } g3 { a' with defers:=[] } w3 :=
    ⟨hs2.sz,λi=>(hs2.tm i).later hs2.mem q2,q1,ky.start (B:=dn.of w.heap.size),trivial,Yh hs2.bd q2.size⟩
   obtain⟨v3,p1,p2⟩:=CW (fn:=fn) (s:={ n:=s'.n,t:=s'.t,h:=h3,nx:=s'.nx,ok:=s'.ok,e:=s'.e }) hs3 ro;exact⟨v3,p1,v3,g3.only h4,_,h4,n4,k3,rfl,p2.only,q1.only k1,(vF.trans q2).trans vD,λr hr=>YD (q3 r hr) k2⟩
  cases e with
  | normal=>simp only at hu;subst hu;exact hlast
  | ret=>simp only at hu;subst hu;exact hlast
  | panic c=>simp only at hu;subst hu;exact hlast
  | _=>simp at hu
 refine Em (F:=Fence.wide) ?_ _ _ _ hseg
 rintro e a' w' ⟨s',g',hq,hs',hm',iZ,hx'⟩
 rw[hx0]at hm'
 cases e with
 | normal =>
  refine wpIn_mono (F:=Fence.wide) (hq B' g' a' w' hs' iZ) ?_;rintro e2 a2 w2 ⟨s2,g2,hq2,hs2,hm2,zW,hx2⟩;have hx3:s'.e.x=none:=by rw[hx'];exact hx0
  rw[hx3]at hm2;exact fin e2 a2 w2 s2 g2 hq2 hs2 (hm'.out.trans hm2.out) zW
 | exit id=>exact fin (.exit id) a' w' s' g' hq hs' hm'.out iZ
 | goto l=>exact fin (.goto l) a' w' s' g' hq hs' hm'.out iZ
 | ret=>exact fin .ret a' w' s' g' hq hs' hm'.out iZ
 | panic c=>exact fin (.panic c) a' w' s' g' hq hs' hm'.out iZ
 | outgrown=>exact fin .outgrown a' w' s' g' hq hs' hm'.out iZ
def Iy [Glob P]{C:aS}{f:FuncId}{fn:Func}{args:List D}{h:H}{n:Nat}{R:D->H->Nat->Prop}{id0:Nat}{gH:Array Oper}{id:Nat}{ops:Array Oper}{y:Code}(k:Nat){o:Oper}{fop:Operand}{ts:Array TypeId}{aX:FuncId}{aD:List D}{s0 s1:S}
  (hf:P.funcs[f]? = some fn)(hb:fn.body=some (.seq (.region id0 gH false) (.seq (.region id ops false) y)))(hbd:dY P f=true)(hn:args.length<=fn.ntmps)
  (Nk : ∀o∈gH.toList,o.guard=none)(he0:aZ P (words P) C gH.toList n 0 gH.toList { n:=fn.ntmps,t:=λi=>args.getD i .junk,h:=h,nx:=n+gH.size,e:=Env.tt }=s0)(hok0:s0.ok)
  (ho:ops[k]? = some o)(hg:o.guard=none)(hop:o.op = .defer { callee:=.value fop,args:=#[],argTypes:=ts })(hgn : ∀o∈ops.toList.take k,o.guard=none)
  (he:aZ P (words P) C ops.toList (n+gH.size) 0 (ops.toList.take k) { n:=s0.n,t:=s0.t,h:=s0.h,nx:=n+gH.size+ops.size,e:=Env.tt }=s1)(hok:s1.ok)(hd:dK s1.n o.dst=true)(yx:s1.ev fop = .fn (.func aX) [] aD)
  (hw:(∀r,n<=r->h r=none)->av P none ops (k+1) (n+gH.size) { n:=s1.n,t:=s1.put o.dst .junk,h:=s1.h,nx:=s1.nx,ok:=True,e:=s1.e } (thenS (DW P none y (Cw P fn aX aD R)) (Cw P fn aX aD R))):bU P f args h n R:=by
 refine⟨hbd,λw g vs hm hU hr=>?_⟩
 refine callsIn_of_wp_marks (n:=0) hf hb trivial (wpIn_seq (wpIn_region ?_))
 have hs:=zR (P:=P) (n:=fn.ntmps) hr hn hm (nx:=n+gH.size)
 have hrg:List.range gH.size=List.range' 0 gH.size++[]:=by rw[Yv,Ze]
 rw[hrg]
 have e0:(gH.toList.drop 0).take gH.size=gH.toList:=by rw[X6];exact Yl (by simp)
 refine NV (ro:=none) (C:=C) (b:=n) gH.size 0 _ g _ w hs (ax.refl _ _) (λr hr=>by have:=hU r hr;omega) (by omega) (by rw[e0];exact Nk) (by rw[e0];exact he0▸hok0) λg1 a1 w1 hs1 hm1 eH hdf=>?_
 rw[e0]at hs1
 have hs1:St P (dn.of w.heap.size) s0 g1 a1 w1:=he0▸hs1
 have hnx:s0.nx=n+gH.size:=by rw[<-he0];exact NW _ _ _ _ _
 have hse:s0.e=Env.tt:=by rw[<-he0];exact uO _ _ _ _ _
 rw[<-hnx]at he hw
 exact Wv (C:=C) (E:=Env.tt) k ho hg hop hgn rfl trivial he hok hd yx (hw (Bh hm hU)) hs1 hm1 (λr hr=>by rw[hnx];have:=eH r hr;omega) hdf
end Go.DL
namespace Go.DL
open Go.RowKit
variable {P : Program} {C : aS} {B : dn}
theorem wL{ops:Array Oper}{listed:Array Bool}(hsz:listed.size=ops.size){i:Nat} :
  i∈Region.ready .any ops listed↔∃h:i<ops.size,listed.getD i false=false /\ ∀e∈(ops[i]).after.toList,Region.binds .any e=true->listed.getD e.on false=true:=by
 unfold Region.ready
 simp only[Zr,Zp,XU,Yb]
 constructor
 .
  rintro⟨hlt,h1,h2⟩;have h3:ops[i]? = some ops[i]:=by simp[hlt]
  simp only[h3,YX,YR]at h2;have hil:i<listed.size:=by omega
  refine⟨hlt,by simp[Array.getD,hil]at h1 ⊢;exact h1,λe he hb=>?_⟩
  rw[Array.all_eq_true]at h2;obtain⟨q,hq,rfl⟩:=Array.mem_iff_getElem.1 (Array.mem_toList_iff.1 he);have:=h2 q hq;simp only[hb,Bool.not_true,Bool.false_or]at this;exact this
 rintro⟨hlt,h1,h2⟩
 have h3:ops[i]? = some ops[i]:=by simp[hlt]
 have hil:i<listed.size:=by omega
 refine⟨hlt,by simp[Array.getD,hil]at h1 ⊢;exact h1,?_⟩
 simp only[h3,YX,YR]
 rw[Array.all_eq_true]
 intro q hq
 simp only[Yc,Yb]
 cases hb:Region.binds .any (ops[i].after[q])with
 | false=>exact .inl rfl
 | true=>exact .inr (h2 _ (by simp) hb)
theorem Qc{ops:Array Oper}{F:Fence}{n k2:Nat}{Q:Exit->Act->World->Prop}(hback : ∀(i:Nat)o,ops.toList[i]? = some o -> ∀e∈o.after.toList,Region.binds .any e=true->e.on<i)
  (Jt : ∀i,k2<=i->i<ops.size -> ∀j,j<i->((ed ops.toList []).getD i 0).testBit j=true) :
  ∀(c m fuel:Nat)(listed:Array Bool)(a:Act)(w:World),m+c=ops.size->k2<=m->listed.size=ops.size->(∀j,j<ops.size->listed.getD j false=decide (j<m))->c<=fuel ->
   wpOpsIn F n P ops Q (List.range' m c) a w->wpAnyIn F n P .any ops Q fuel listed a w:=by
 intro c
 induction c with
 | zero =>
  intro m fuel listed a w hm hk hsz hl hf h;have hr:Region.ready .any ops listed=[]:=by
   rw[List.eq_nil_iff_forall_not_mem];intro i hi;obtain⟨h1,h2,_⟩:=(wL hsz).1 hi;rw[hl i h1]at h2
   simp at h2;omega
  cases fuel with
  | zero=>exact⟨hr,h⟩
  | succ fuel=>exact⟨λ_=>h,λi hi=>by rw[hr]at hi;cases hi⟩
 | succ c ih =>
  intro m fuel listed a w hm hk hsz hl hf h;have hlt:m<ops.size:=by omega
  cases fuel with
  | zero=>omega
  | succ fuel =>
   rw[Y9,wpOpsIn_cons]at h;refine⟨λhr=>?_,λi hi=>?_⟩
   .
    exfalso
    have:m∈Region.ready .any ops listed:=(wL hsz).2 ⟨hlt,by rw[hl m hlt];simp,λe he hb=>by
     have:=hback m ops[m] (by simp[hlt]) e he hb
     rw[hl e.on (by omega)];simpa using this⟩
    rw[hr]at this;cases this
   obtain⟨h1,h2,h3⟩:=(wL hsz).1 hi;rw[hl i h1]at h2;have hmi:m<=i:=by simp at h2;omega
   have e:i=m:=by
    by_cases q:i=m
    . exact q
    exfalso
    have:=yS (L:=ops.toList) (X:=λk=>k<m) (λk o ho hk e he hb=>by have:=hback k o ho e he hb;omega) i ops[i] (by simp[h1]) (λe he hb=>by
     have h4:=h3 e he hb;have h5:=hback i ops[i] (by simp[h1]) e he hb
     rw[hl e.on (by omega)]at h4
     simpa using h4) m (Jt i om h1 m om)
    omega
   subst e;refine wpOpIn_mono (λa' w' h'=>ih (i+1) fuel _ a' w' om om (by simp[hsz]) (λj hj=>?_) om h') h
   by_cases q:j=i
   .
    subst q;have hil:j<listed.size:=by omega
    simp[Array.getD,hil]
   rw[getD_set_ne false (Ne.symm q),hl j hj]
   by_cases q2:j<i
   . simp[q2];omega
   have : ¬j<i+1:=by omega
   simp[q2,this]
def tu(C:aS)(o:Oper):Bool:=o.guard.isNone&&(match bW C o.op with | .writes=>false|_=>true) && !BC o.op
def IC{o:Oper}(h:tu C o=true):o.guard=none/\bW C o.op ≠ .writes/\BC o.op=false:=by
 simp only[tu,XU,Zb,Yb]at h
 refine⟨h.1.1,λe=>?_,h.2⟩
 have:=h.1.2
 rw[e]at this;cases this
theorem Ziq [Glob P]{W:cu}{op:Op}{xs:List D}{h:H}{b b':Nat}(hc:bW C op ≠ .writes):bg P W C op xs h b=bg P W C op xs h b':=by
 unfold bg
 split<;>first
  | rfl
  | (exfalso;exact hc rfl)
  | skip
 have hb:C.bs=false:=by
  cases hb:C.bs with
  | false=>rfl
  | true=>exact absurd (by simp[bW,hb]) hc
 simp only[hb,Yp,Za]
theorem ZeX [Glob P]{W:cu}{L:List Oper}{b b' i:Nat}{o:Oper}{ev:Operand->D}{t:Nat->D}{n:Nat}{h:H}(hq:tu C o=true) :
  aN P W C L b i o n ev t h=aN P W C L b' i o n ev t h:=by
 obtain⟨h1,h2,_⟩:=IC hq
 simp only[aN,h1,aY]
 split
 . rfl
 rw[Ziq (b:=b+i) (b':=b'+i) h2]
def RV [Glob P]{W:cu}{L:List Oper}{b i:Nat}{o:Oper}{s:S}(hq:tu C o=true):(dJ P W C L b i o s).h=s.h:=by
 rw[mf]
 exact CZ (IC hq).2.1
theorem Zei{L:List Oper}{x y:Oper}(hx:tu C x=true)(hy:tu C y=true)(hs:iK L x y=true):Aq C L x y=true:=by
 simp only[iK,XU]at hs
 simp only[Aq,XU,Yb]
 refine⟨hs,?_⟩
 have h1:=(IC hx).2.1
 have h2:=(IC hy).2.1
 revert h1 h2
 generalize bW C x.op=a
 generalize bW C y.op=c
 intro h1 h2
 cases a<;>cases c<;>first|rfl|(exact absurd rfl h1)|(exact absurd rfl h2)
theorem JL [Glob P]{W:cu}{L:List Oper}{b:Nat}:∀(l:List Nat)(s:S),(∀i∈l,∀o,L[i]? = some o->tu C o=true)->(l.foldl (bB P W C L b) s).h=s.h
 | [],s,_=>rfl
 | i::l,s,h=>by
  simp only[YH];rw[JL l _ λk hk=>h k (by simp[hk])]
  unfold bB
  cases hi:L[i]? with
  | none=>rfl
  | some o=>exact RV (h i (by simp) o hi)
theorem JR [Glob P]{W:cu}{L:List Oper}{b b' m:Nat}{d:Option Tmp}{res:D}{h':H}{sq:S}:∀(l:List Nat)(s:S),l.Pairwise (· < ·) ->
  (∀i∈l,∀o,L[i]? = some o->tu C o=true/\(∀z,d=some z->z ∉ looks L o/\o.dst≠some z)/\(∀j∈l,i<=j -> ∀y,L[j]? = some y -> ∀z∈looks L o,y.dst≠some z)
   /\ aN P W C L b i o sq.n sq.ev sq.t h'=((aN P W C L b i o sq.n sq.ev sq.t sq.h).1,h',(aN P W C L b i o sq.n sq.ev sq.t sq.h).2.2)) ->
  l.foldl (bB P W C L b) s=sq->sq.ok ->
  l.foldl (bB P W C L b') { n:=s.n,t:=s.put d res,h:=h',nx:=m,ok:=True,e:=s.e }={ n:=sq.n,t:=sq.put d res,h:=h',nx:=m,ok:=True,e:=sq.e }
 | [],s,_,_,hf,_=>by
  simp only[ZA]at hf ⊢;rw[hf]
 | i::l,s,hp,hh,hf,hok=>by
  simp only[YH]at hf ⊢;have hp':=YF.1 hp
  cases hi:L[i]? with
  | none =>
   have e : ∀c u,bB P W C L c u i=u:=λc u=>by simp only[bB,hi]
   rw[e]at hf ⊢;exact JR l s hp'.2 (λk hk o ho=>by
    obtain⟨q1,q2,q3,q4⟩:=hh k (by simp[hk]) o ho
    exact⟨q1,q2,λj hj=>q3 j (by simp[hj]),q4⟩) hf hok
  | some o =>
   have e : ∀c u,bB P W C L c u i=dJ P W C L c i o u:=λc u=>by simp only[bB,hi]
   obtain⟨q1,q2,q3,q4⟩:=hh i (by simp) o hi
   have hT : ∀z∈looks L o,sq.t z=s.t z:=by
    intro z hz;rw[<-hf];have:=keeps (P:=P) (W:=W) (C:=C) (L:=L) (b:=b) (z:=z) (i::l) s (λk hk y hy=>by
     rcases Ym.1 hk with rfl|hk'
     . exact q3 k (by simp) (XX _) y hy z hz
     exact q3 k (by simp[hk']) (Nat.le_of_lt (hp'.1 k hk')) y hy z hz)
    simpa only[YH]using this
   have hn:sq.n=s.n/\sq.h=s.h:=by
    constructor
    .
     rw[<-hf];have : ∀(l:List Nat)(u:S),(l.foldl (bB P W C L b) u).n=u.n:=by
      intro l
      induction l with
      | nil=>intro u;rfl
      | cons k l ih =>
       intro u;simp only[YH];rw[ih];unfold bB
       split
       . exact Cb.1
       rfl
     rw[this,e];exact Cb.1
    rw[<-hf,JL l _ λk hk o ho=>(hh k (by simp[hk]) o ho).1,e];exact RV q1
   have e1:aN P W C L b i o s.n s.ev s.t h'=((aN P W C L b i o s.n s.ev s.t s.h).1,h',(aN P W C L b i o s.n s.ev s.t s.h).2.2):=by
    have:=q4;rw[hn.1,hn.2,C8 (s:=sq) (s':=s) hT,C8 (s:=sq) (s':=s) hT]at this;exact this
   have e2 : ∀c,aN P W C L c i o s.n (S.ev { n:=s.n,t:=s.put d res,h:=h',nx:=m,ok:=True,e:=s.e }) (s.put d res) h'=aN P W C L b i o s.n s.ev s.t h':=by
    intro c;rw[ZeX (b:=c) (b':=b) q1];refine C8 (s:={ n:=s.n,t:=s.put d res,h:=h',nx:=m,ok:=True,e:=s.e }) (s':=s) λz hz=>?_
    show s.put d res z=s.t z
    cases hd:d with
    | none=>rfl
    | some y=>exact aK _ _ _ _ λe=>(q2 y hd).1 (by rw[<-e];exact hz)
   have hok1:(dJ P W C L b i o s).ok:=by rw[e]at hf;exact EK (by rw[hf];exact hok)
   have hp1:(aN P W C L b i o s.n s.ev s.t s.h).2.2:=by rw[mf]at hok1;exact hok1.2
   have key:dJ P W C L b' i o { n:=s.n,t:=s.put d res,h:=h',nx:=m,ok:=True,e:=s.e }={ n:=(dJ P W C L b i o s).n,t:=(dJ P W C L b i o s).put d res,h:=h',nx:=m,ok:=True,e:=(dJ P W C L b i o s).e }:=by
    rw[mf,mf];simp only[e2,e1]
    congr 1
    .
     show S.put _ o.dst _=S.put _ d res
     cases hod:o.dst with
     | none=>rfl
     | some x =>
      cases hd:d with
      | none=>rfl
      | some y =>
       have hne:x≠y:=λe=>(q2 y hd).2 (by rw[hod,e])
       funext z
       simp only[S.put,upd]
       by_cases h1:z=x
       .
        have:z≠y:=λe=>hne (h1▸e)
        simp[h1,hne]
       simp[h1]
    exact propext ⟨λ_=>trivial,λ_=>⟨trivial,hp1⟩⟩
   rw[e,key];rw[e]at hf;exact JR l _ hp'.2 (λk hk o ho=>by
    obtain⟨q1,q2,q3,q4⟩:=hh k (by simp[hk]) o ho
    exact⟨q1,q2,λj hj=>q3 j (by simp[hj]),q4⟩) hf hok
structure O4(C:aS)(ops:Array Oper)(k1 k2:Nat):Prop where
 le:k2<=ops.size
 back : ∀(i:Nat)o,ops.toList[i]? = some o -> ∀e∈o.after.toList,Region.binds .any e=true->e.on<i
 ord : ∀i,k2<=i->i<ops.size -> ∀j,j<i->((ed ops.toList []).getD i 0).testBit j=true
 quiet : ∀(i:Nat)o,i<k2->i≠k1->((ed ops.toList []).getD k1 0).testBit i=false->ops.toList[i]? = some o->tu C o=true
 comm : ∀(i j:Nat)x y,i<k2->j<i->i≠k1->j≠k1->ops.toList[j]? = some x->ops.toList[i]? = some y->((ed ops.toList []).getD i 0).testBit j=true\/mo C ops.toList x y=true
 call : ∀(i:Nat)x y,i<k2->i≠k1->ops.toList[i]? = some x->ops.toList[k1]? = some y->((ed ops.toList []).getD k1 0).testBit i=true\/iK ops.toList x y=true
 late : ∀(i j:Nat)x y,i<=j->j<k2->i≠k1->j≠k1->ops.toList[i]? = some x->ops.toList[j]? = some y -> ∀z∈looks ops.toList x,y.dst≠some z
def dM(k1 k2:Nat)(listed:Array Bool):List Nat:=(List.range k2).filter λi=>i != k1 && !listed.getD i false
def lY{k1 k2 i:Nat}{listed:Array Bool}:i∈dM k1 k2 listed↔i<k2/\i≠k1/\listed.getD i false=false:=by
 simp only[dM,Zr,Zp,XU,ZC,Yb]
theorem getD_set{listed:Array Bool}{i:Nat}(hi:i<listed.size)(k:Nat):(listed.setIfInBounds i true).getD k false=(listed.getD k false||k==i):=by
 by_cases e:k=i
 . subst e;simp[Array.getD,hi]
 rw[getD_set_ne false (Ne.symm e)]
 have:(k==i)=false:=by simpa using e
 rw[this,ZR]
def Closed(ops:Array Oper)(listed:Array Bool):Prop:=∀(i:Nat)o,ops.toList[i]? = some o->listed.getD i false=true -> ∀e∈o.after.toList,Region.binds .any e=true->listed.getD e.on false=true
def Closed.set{ops:Array Oper}{listed:Array Bool}(h:Closed ops listed)(hsz:listed.size=ops.size){i:Nat}(hi:i∈Region.ready .any ops listed):Closed ops (listed.setIfInBounds i true):=by
 obtain⟨h1,h2,h3⟩:=(wL hsz).1 hi
 intro k o hk hkl e he hb
 rw[getD_set (by omega)]at hkl ⊢
 simp only[Yc,YB]at hkl ⊢
 rcases hkl with hkl|rfl
 . exact .inl (h k o hk hkl e he hb)
 have:o=ops[k]:=by simp[h1]at hk;exact hk.symm
 subst this
 exact .inl (h3 e he hb)
theorem LW [Glob P]{ops:Array Oper}{k1 k2 b n:Nat}{ro:Option Nat}{Q:Exit->Act->World->Prop}(Dle:k2<=ops.size)(Dcomm : ∀(i j:Nat)x y,i<k2->j<i->i≠k1->j≠k1->ops.toList[j]? = some x->ops.toList[i]? = some y->((ed ops.toList []).getD i 0).testBit j=true\/mo C ops.toList x y=true){listed:Array Bool}{s fin:S}{g:Mem}{a:Act}{w:World}(hsz:listed.size=ops.size)(hX:Closed ops listed)
  (hs:St P B s g a w)(hU : ∀r,g.U r->r<b \/ ∃j,listed.getD j false=true/\j<k2/\r=b+j)(hfin:(dM k1 k2 listed).foldl (bB P (words P) C ops.toList b) s=fin)(hok:fin.ok){i:Nat}(hi:i∈Region.ready .any ops listed)(hik:i<k2)(hne:i≠k1){K:Act->World->Prop}
  (hK : ∀g' a' w' s',St P B s' g' a' w'->ax g g' w w'->(∀r,g'.U r->r<b \/ ∃j,(listed.setIfInBounds i true).getD j false=true/\j<k2/\r=b+j) ->
   (dM k1 k2 (listed.setIfInBounds i true)).foldl (bB P (words P) C ops.toList b) s'=fin->(dM k1 k2 (listed.setIfInBounds i true)).length<(dM k1 k2 listed).length->K a' w'):wpOpIn (Fw ro) n P ops Q i K a w:=by
 obtain⟨hlt,xe,tN⟩:=(wL hsz).1 hi
 have uK:ops.toList[i]? = some ops[i]:=by simp[hlt]
 have hmem:i∈dM k1 k2 listed:=lY.2 ⟨hik,hne,xe⟩
 obtain⟨pre,post,hsplit⟩:=List.append_of_mem hmem
 have qK:(dM k1 k2 listed).Pairwise (· < ·):=Z6 _ ZW
 rw[hsplit]at qK
 have hpre : ∀j∈pre,j<i:=λj hj=>(Zf.1 qK).2.2 j hj i (by simp)
 have hpost : ∀j∈post,i<j:=λj hj=>(YF.1 (Zf.1 qK).2.1).1 j hj
 have hap : ∀j∈pre,j≠i /\ ∀x,ops.toList[j]? = some x->mo C ops.toList x ops[i]=true:=by
  intro j hj;have hjl:=hpre j hj;refine⟨om,λx hx=>?_⟩
  have hjm:j∈dM k1 k2 listed:=by rw[hsplit];simp[hj]
  obtain⟨j1,j2,j3⟩:=lY.1 hjm
  rcases Dcomm i j x _ hik hjl hne j2 hx uK with h|h
  .
   exfalso
   have:=yS (L:=ops.toList) (X:=λk=>listed.getD k false=true) hX i _ uK tN j h
   rw[j3]at this;cases this
  exact h
 have FJ : ∀j,j∈dM k1 k2 listed -> ¬g.U (b+j):=by
  intro j hjm hu;have hjn:=(lY.1 hjm).2.2
  rcases hU _ hu with h|⟨k,hk,_,e⟩
  . omega
  have:k=j:=by omega
  subst this;rw[hjn]at hk;cases hk
 have hh0:s.h (b+i)=none:=by
  cases hq:s.h (b+i)with
  | none=>rfl
  | some bl =>
   obtain⟨blk,c',q1,_⟩:=hs.mem.blk _ bl hq;exact absurd (hs.mem.used _ (by rw[q1];simp)) (FJ i hmem)
 have hok0:=hok
 rw[<-hfin,hsplit,Zh,YH]at hok0
 have hok1:=EK hok0
 have Na:(pre.foldl (bB P (words P) C ops.toList b) s).ok:=by
  unfold bB at hok1;rw[uK]at hok1;exact NY hok1
 have Nf:reader ops[i]=true -> ∀j∈pre,∀d∈(aV (ops[i]).op).map s.ev,named (b+j) (sd d)=false:=by
  intro hr j hj d hd;have hsg:sg d=true:=by
   have e:=JK (P:=P) (W:=words P) (C:=C) (L:=ops.toList) (b:=b) (y:=ops[i]) pre s λk hk x hx=>GQ ((hap k hk).2 x hx)
   have hrun' : ∀u,bB P (words P) C ops.toList b u i=dJ P (words P) C ops.toList b i ops[i] u:=λu=>by simp[bB,hlt]
   rw[hrun',mf]at hok1;have h2:=hok1.2;obtain⟨r1,r2⟩:=EQ hr;simp only[aN,r2,aY,LQ r1,Yp,Za]at h2;have h4:=h2.2.1 trivial;rw[show(aV (ops[i]).op).map (pre.foldl (bB P (words P) C ops.toList b) s).ev=(aV (ops[i]).op).map s.ev from e]at h4
   exact YJ.1 h4 d hd
  cases hq:named (b+j) (sd d)with
  | false=>rfl
  | true =>
   exfalso
   obtain⟨z,_,rfl⟩:=Yt.1 hd;exact FJ j (by rw[hsplit];simp[hj]) (Ru (bX hs z) hsg hq)
 have hrun:bB P (words P) C ops.toList b s i=dJ P (words P) C ops.toList b i ops[i] s:=by simp[bB,hlt]
 have FR:(pre++post).foldl (bB P (words P) C ops.toList b) (dJ P (words P) C ops.toList b i ops[i] s)=fin:=by
  rw[<-hrun,<-hfin,hsplit,Zh,Zh,YH,NI uK pre s hap Nf hh0 Na]
 have htodo:dM k1 k2 (listed.setIfInBounds i true)=pre++post:=by
  have e1:dM k1 k2 (listed.setIfInBounds i true)=(dM k1 k2 listed).filter (· != i):=by
   unfold dM;rw[List.filter_filter];refine Z5 λk _=>?_
   rw[getD_set (by omega) k]
   by_cases e:k=i
   . simp[e]
   have e2:(k==i)=false:=by simpa using e
   have e3:(k != i)=true:=by simpa using e
   rw[e2,e3,ZR,ZG]
  rw[e1,hsplit,List.filter_append,List.filter_cons];have p1:pre.filter (· != i)=pre:=Y1.2 λj hj=>by have:=hpre j hj;simp;omega
  have p2:post.filter (· != i)=post:=Y1.2 λj hj=>by have:=hpost j hj;simp;omega
  simp[p1,p2]
 refine Gj hs (b:=b) (N:=b+ops.size) (λh=>?_) (λr hr=>?_) (show ops[i]? = some ops[i]by simp[hlt]) (EK (by rw[FR];exact hok)) λg' a' w' q1 q2 q3=>?_
 .
  rcases hU _ h with h|⟨k,hk,_,e⟩
  . omega
  have:k=i:=by omega
  subst this;rw[xe]at hk;cases hk
 .
  have hle:=Dle
  rcases hU r hr with h|⟨k,_,h,rfl⟩<;>omega
 refine hK g' a' w' _ q1 q2 (λr hr=>?_) (by rw[htodo];exact FR) (by rw[htodo,hsplit];simp)
 rcases q3 r hr with h|rfl
 .
  rcases hU r h with h|⟨k,hk,hks,rfl⟩
  . exact .inl h
  exact .inr ⟨k,by rw[getD_set (by omega),hk];rfl,hks,rfl⟩
 exact .inr ⟨i,by rw[getD_set (by omega)];simp,hik,rfl⟩
theorem Ld [Glob P]{ops:Array Oper}{k1 k2 b n:Nat}{ro:Option Nat}{Q:Exit->Act->World->Prop}{w0:World}{g0:Mem}{fin:S}(Dle:k2<=ops.size)(Dback : ∀(i:Nat)o,ops.toList[i]? = some o -> ∀e∈o.after.toList,Region.binds .any e=true->e.on<i)(Dord : ∀i,k2<=i->i<ops.size -> ∀j,j<i->((ed ops.toList []).getD i 0).testBit j=true)(Dcomm : ∀(i j:Nat)x y,i<k2->j<i->i≠k1->j≠k1->ops.toList[j]? = some x->ops.toList[i]? = some y->((ed ops.toList []).getD i 0).testBit j=true\/mo C ops.toList x y=true) :
  ∀(fuel:Nat)(listed:Array Bool)(s:S)(g:Mem)(a:Act)(w:World),listed.size=ops.size->(k1<k2->listed.getD k1 false=true)->(∀j,k2<=j->listed.getD j false=false)->(dM k1 k2 listed).length+(ops.size-k2)<=fuel->Closed ops listed ->
   St P B s g a w->ax g0 g w0 w->(∀r,g.U r->r<b \/ ∃j,listed.getD j false=true/\j<k2/\r=b+j)->(dM k1 k2 listed).foldl (bB P (words P) C ops.toList b) s=fin->fin.ok ->
   (∀g' a' w',St P B fin g' a' w'->ax g0 g' w0 w'->(∀r,g'.U r->r<b+k2)->wpOpsIn (Fw ro) n P ops Q (List.range' k2 (ops.size-k2)) a' w') ->
   wpAnyIn (Fw ro) n P .any ops Q fuel listed a w:=by
 intro fuel
 induction fuel with
 | zero =>
  intro listed s g a w hsz hk1 hk2 hfu hX hs hm hU hfin hok hQ;have hnil:dM k1 k2 listed=[]:=Ya om;rw[hnil]at hfin;simp only[ZA]at hfin;subst hfin;have hle:=Dle;refine Qc Dback Dord (ops.size-k2) k2 0 listed a w om (XX _) hsz (λj hj=>?_) om (hQ g a w hs hm λr hr=>by rcases hU r hr with h|⟨j,_,h,rfl⟩<;>omega)
  by_cases q:j<k2
  .
   rw[YE q]
   by_cases e:j=k1
   . rw[e];exact hk1 (by omega)
   cases hl:listed.getD j false with
   | true=>rfl
   | false=>have:=lY.2 ⟨q,e,hl⟩;rw[hnil]at this;cases this
  rw[Y8 q];exact hk2 j (by omega)
 | succ fuel ih =>
  intro listed s g a w hsz hk1 hk2 hfu hX hs hm hU hfin hok hQ;have hle:=Dle
  cases hnil:dM k1 k2 listed with
  | nil =>
   rw[hnil]at hfin;simp only[ZA]at hfin;subst hfin;refine Qc Dback Dord (ops.size-k2) k2 (fuel+1) listed a w om (XX _) hsz (λj hj=>?_) om (hQ g a w hs hm λr hr=>by rcases hU r hr with h|⟨j,_,h,rfl⟩<;>omega)
   by_cases q:j<k2
   .
    rw[YE q]
    by_cases e:j=k1
    . rw[e];exact hk1 (by omega)
    cases hl:listed.getD j false with
    | true=>rfl
    | false=>have:=lY.2 ⟨q,e,hl⟩;rw[hnil]at this;cases this
   rw[Y8 q];exact hk2 j (by omega)
  | cons i0 l0 =>
   have hi0:i0∈dM k1 k2 listed:=by rw[hnil];simp
   obtain⟨a1,a2,a3⟩:=lY.1 hi0;have qK:(dM k1 k2 listed).Pairwise (· < ·):=Z6 _ ZW;rw[hnil]at qK;have hmin:=(YF.1 qK).1;refine⟨λhr=>?_,λi hi=>?_⟩
   .
    exfalso
    have:i0∈Region.ready .any ops listed:=(wL hsz).2 ⟨om,a3,λe he hb=>by
     have hlt:=Dback i0 ops[i0] (by simp) e he hb
     cases hl:listed.getD e.on false with
     | true=>rfl
     | false =>
      have hne:e.on≠k1:=λq=>by rw[q,hk1 (by omega)]at hl;cases hl
      have:=lY.2 ⟨show e.on<k2 by omega,hne,hl⟩
      rw[hnil]at this
      rcases Ym.1 this with h|h
      . omega
      have:=hmin _ h;omega⟩
    rw[hr]at this;cases this
   obtain⟨hlt,xe,tN⟩:=(wL hsz).1 hi;have hik:i<k2:=by
    by_cases q:i<k2
    . exact q
    exfalso
    have:=yS (L:=ops.toList) (X:=λk=>listed.getD k false=true) hX i ops[i] (by simp[hlt]) tN i0 (Dord i om hlt i0 om)
    rw[a3]at this;cases this
   have hne:i≠k1:=λq=>by rw[q,hk1 (by omega)]at xe;cases xe
   refine LW Dle Dcomm hsz hX hs hU hfin hok hi hik hne λg' a' w' s' q1 q2 q3 q4 q5=>?_
   refine ih _ s' g' a' w' (by simp[hsz]) (λhq=>by rw[getD_set (by omega),hk1 hq];rfl) (λj hj=>?_) (by omega) (hX.set hsz hi) q1 (hm.trans q2) q3 q4 hok hQ
   rw[getD_set (by omega),hk2 j hj]
   have:(j==i)=false:=by simp;omega
   rw[this];rfl
theorem Rz{ops:Array Oper}{listed:Array Bool}(hsz:listed.size=ops.size)(hback : ∀(i:Nat)o,ops.toList[i]? = some o -> ∀e∈o.after.toList,Region.binds .any e=true->e.on<i)(hr:Region.ready .any ops listed=[]) :
  ∀k,k<ops.size->listed.getD k false=true:=by
 intro k
 induction k using Nat.strongRecOn with
 | _ k ih =>
  intro hk
  cases hl:listed.getD k false with
  | true=>rfl
  | false =>
   exfalso
   have:k∈Region.ready .any ops listed:=(wL hsz).2 ⟨hk,hl,λe he hb=>by
    have h1:=hback k ops[k] (by simp) e he hb
    exact ih e.on h1 om⟩
   rw[hr]at this;cases this
theorem Ga [Glob P]{W:cu}{L:List Oper}{b:Nat}:∀(l:List Nat)(u:S),(l.foldl (bB P W C L b) u).n=u.n/\(l.foldl (bB P W C L b) u).e=u.e:=by
 intro l
 induction l with
 | nil=>intro u;exact⟨rfl,rfl⟩
 | cons k l ih =>
  intro u;simp only[YH];rw[(ih _).1,(ih _).2];unfold bB
  split
  . exact⟨Cb.1,by unfold dJ;split<;>rfl⟩
  exact⟨rfl,rfl⟩
def Ed(P:Program)[Glob P](f:FuncId)(args:List D)(h:H)(n:Nat)(E:Env)(R:D->H->Nat->Prop):Prop :=
 dY P f=true /\ ∀(w:World)(g:Mem)(vs:List Value),HM P h g w->(∀r,g.U r->r<n)->E.p g w->aB w g args vs ->
  CallsIn Fence.wide 0 P f vs.toArray w λe w'=>∃v g' res h' n',R res h' n'/\e = .returned v/\ag w' g' res v/\HM P h' g' w'/\ax g g' w w' /\ ∀r,g'.U r->r<n'
theorem aB.wkMid{w:World}{g:Mem}{a xs c:List D}{vs:List Value}(h:aB w g (a++xs++c) vs):aB w g (a++xs.map DL.wk++c) vs:=by
 refine⟨by simpa using h.1,λi d x h1 h2=>?_⟩
 rw[Yu]at h1
 by_cases q:i<a.length
 . rw[Y5 q]at h1;exact h.2 i d x (by rw[Yu,Y5 q];exact h1) h2
 rw[YM (by omega)]at h1
 by_cases q2:i-a.length<xs.length
 .
  rw[Y5 (by simpa using q2),YU]at h1
  cases hx:xs[i-a.length]? with
  | none=>rw[hx]at h1;cases h1
  | some y =>
   rw[hx]at h1;simp only[YX,Yf]at h1;subst h1;exact(h.2 i y x (by rw[Yu,YM (by omega),Y5 q2];exact hx) h2).wk
 rw[YM (by simp;omega),Zm]at h1
 exact h.2 i d x (by rw[Yu,YM (by omega),YM (by omega)];exact h1) h2
theorem bU.i [Glob P]{f:FuncId}{a xs c:List D}{h:H}{n:Nat}{R:D->H->Nat->Prop}(k:bU P f (a++xs.map wk++c) h n R):Ed P f (a++xs++c) h n Env.tt R :=
 ⟨k.1,λw g vs h1 h2 _ h3=>k.2 w g vs h1 h2 h3.wkMid⟩
theorem Zcd [Glob P]{ops:Array Oper}{k1 k2 b n:Nat}{ro:Option Nat}{Q:Exit->Act->World->Prop}{w0:World}{g0:Mem}{sq:S}(Dc:O4 C ops k1 k2)(hlt1:k1<k2)
  {o1:Oper}{f:Operand}{args:Array Operand}{ts:Array TypeId}{aX:FuncId}{first aD xs:List D}{R:D->H->Nat->Prop}
  (ho:ops[k1]? = some o1)(hop:o1.op = .call { callee:=.value f,args:=args,argTypes:=ts })(hg:o1.guard=none)(hd:dK sq.n o1.dst=true)
  (hf:sq.ev f = .fn (.func aX) first aD)(hxg:(args.toList.map sq.ev).all sg=true)(hx:(args.toList.map sq.ev).map sd=xs){E:Env}(hE : ∀g w,sq.e.p g w->E.p g w)(hct:Ed P aX (first++xs++aD) sq.h (b+k2) E R)(hok:sq.ok)
  (hst : ∀res h' n',R res h' n' -> ∀(i:Nat)o,i<k2->i≠k1->((ed ops.toList []).getD k1 0).testBit i=false->ops.toList[i]? = some o ->
   aN P (words P) C ops.toList b i o sq.n sq.ev sq.t h'=((aN P (words P) C ops.toList b i o sq.n sq.ev sq.t sq.h).1,h',(aN P (words P) C ops.toList b i o sq.n sq.ev sq.t sq.h).2.2))
  (hQ : ∀res h' n',R res h' n' -> ∀g' a' w',St P B { n:=sq.n,t:=sq.put o1.dst res,h:=h',nx:=n'+ops.size,ok:=True,e:=sq.e } g' a' w'->ax g0 g' w0 w'->(∀r,g'.U r->r<n'+k2)->wpOpsIn (Fw ro) n P ops Q (List.range' k2 (ops.size-k2)) a' w') :
  ∀(fuel:Nat)(listed:Array Bool)(s:S)(g:Mem)(a:Act)(w:World),listed.size=ops.size->listed.getD k1 false=false->(∀j,k2<=j->listed.getD j false=false)->(dM k1 k2 listed).length+1+(ops.size-k2)<=fuel->Closed ops listed ->
   St P B s g a w->ax g0 g w0 w->(∀r,g.U r->r<b \/ ∃j,listed.getD j false=true/\j<k2/\r=b+j)->(dM k1 k2 listed).foldl (bB P (words P) C ops.toList b) s=sq ->
   wpAnyIn (Fw ro) n P .any ops Q fuel listed a w:=by
 intro fuel
 have hle:=Dc.le
 induction fuel with
 | zero=>intro listed s g a w hsz hk1 hk2 hfu;omega
 | succ fuel ih =>
  intro listed s g a w hsz hk1 hk2 hfu hX hs hm hU hfin;refine⟨λhr=>?_,λi hi=>?_⟩
  .
   exfalso
   have:=Rz hsz Dc.back hr k1 om;rw[hk1]at this;cases this
  obtain⟨hlt,xe,tN⟩:=(wL hsz).1 hi;have hik:i<k2:=by
   by_cases q:i<k2
   . exact q
   exfalso
   have:=yS (L:=ops.toList) (X:=λk=>listed.getD k false=true) hX i ops[i] (by simp[hlt]) tN k1 (Dc.ord i om hlt k1 om)
   rw[hk1]at this;cases this
  by_cases hne:i=k1
  .
   subst hne;have ho':ops.toList[i]? = some o1:=by rw[Zc];exact ho
   have hoi:ops[i]=o1:=by
    have:ops[i]? = some ops[i]:=by simp[hlt]
    rw[ho]at this;exact(Zt this).symm
   have yu : ∀j∈dM i k2 listed,∀x,ops.toList[j]? = some x->((ed ops.toList []).getD i 0).testBit j=false/\iK ops.toList x o1=true:=by
    intro j hj x hxj;obtain⟨j1,j2,j3⟩:=lY.1 hj;have hnb:((ed ops.toList []).getD i 0).testBit j=false:=by
     cases q:((ed ops.toList []).getD i 0).testBit j with
     | false=>rfl
     | true =>
      have:=yS (L:=ops.toList) (X:=λk=>listed.getD k false=true) hX i ops[i] (by simp[hlt]) tN j q
      rw[j3]at this;cases this
    rcases Dc.call j x o1 j1 j2 hxj ho' with h|h
    . rw[hnb]at h;cases h
    exact⟨hnb,h⟩
   have hlk:=JK (P:=P) (W:=words P) (C:=C) (L:=ops.toList) (b:=b) (y:=o1) (dM i k2 listed) s λj hj x hxj=>(yu j hj x hxj).2
   rw[hfin,hop]at hlk;simp only[aV,X8,Y0]at hlk;have M9:sq.h=s.h:=by
    rw[<-hfin];exact JL _ _ λj hj o ho=>Dc.quiet j o (lY.1 hj).1 (lY.1 hj).2.1 (yu j hj o ho).1 ho
   have Dw:sq.n=s.n/\sq.e=s.e:=by rw[<-hfin];exact Ga _ _
   rw[M9]at hct;rw[hlk.2]at hxg hx;have hf':s.ev f = .fn (.func aX) first aD:=by rw[<-hlk.1];exact hf
   have eH : ∀r,g.U r->r<b+k2:=λr hr=>by rcases hU r hr with h|⟨j,_,h,rfl⟩<;>omega
   unfold wpOpIn;rw[ho];simp only;have hw:Region.wanted o1 (yielded ops a.tmps)=true:=by simp[Region.wanted,hg]
   rw[X3 hw];have hdef : ∀c,o1.op ≠ .defer c:=by intro c e;rw[e]at hop;cases hop
   have j6:o1.semAt (Fw ro).round a.eval=execOp a.eval o1:=Oper.semAt_eq _ _ _ hdef;refine⟨λ_ _=>trivial,?_⟩
   rw[j6];obtain⟨hbd,hct⟩:=hct;have hfr:=bX hs f;rw[hf']at hfr;have fQ:=wC (vV hs args.toList) hxg;rw[hx]at fQ;generalize hv:a.eval f=vf at hfr
   cases hfr with|fn _ _ _ fs cs l1 l2 r1 r2 =>
   have hrun:(execOp a.eval o1).run P w = .ok (.enter aX (fs++args.map a.eval++cs)) w:=by
    simp[execOp,hop,resolve,Deferred.ofValue,hv,invoke,vY hbd]
   rw[hrun,Oper.uponIn_enter];have e:fs++args.map a.eval++cs=(fs.toList++args.toList.map a.eval++cs.toList).toArray:=by apply Zq;simp
   rw[e];refine⟨λh=>by simp[Fw,Fence.wide]at h,yO ((hct w g _ hs.mem eH (hE g w (by rw[Dw.2];exact hs.en)) (aB.append (aB.append ⟨by simpa using l1,λi d x h1 h2=>r1 i d x h1 (by simpa using h2)⟩ fQ) ⟨by simpa using l2,λi d x h1 h2=>r2 i d x h1 (by simpa using h2)⟩)).mono ?_)⟩
   rintro e w' ⟨v,g',res,h',n',hR,rfl,q1,q2,q3,q4⟩;have hs2:=mI hs q3 q2 (show dK s.n o1.dst=true by rw[<-Dw.1];exact hd) q1 True
   have htodo:dM i k2 (listed.setIfInBounds i true)=dM i k2 listed:=by
    unfold dM;refine Z5 λk _=>?_
    rw[getD_set (by omega) k]
    by_cases e:k=i
    . simp[e]
    have e2:(k==i)=false:=by simpa using e
    rw[e2,ZR]
   have qK:(dM i k2 listed).Pairwise (· < ·):=Z6 _ ZW;have pE:=JR (P:=P) (W:=words P) (C:=C) (L:=ops.toList) (b:=b) (b':=n') (m:=n'+ops.size) (d:=o1.dst) (res:=res) (h':=h') (sq:=sq) (dM i k2 listed) s qK (λj hj o hoj=>by
    obtain⟨j1,j2,j3⟩:=lY.1 hj;obtain⟨k3,k4⟩:=yu j hj o hoj;refine⟨Dc.quiet j o j1 j2 k3 hoj,λz hz=>?_,λm hm hjm y hy=>Dc.late j m o y hjm (lY.1 hm).1 j2 (lY.1 hm).2.1 hoj hy,hst res h' n' hR j o j1 j2 k3 hoj⟩
    simp only[iK,XU,hz]at k4;refine⟨by simpa using k4.2,λe=>?_⟩
    have:=k4.1;rw[e]at this
    simp at this) hfin hok
   refine Ld (B:=B) (g0:=g0) (w0:=w0) (b:=n') Dc.le Dc.back Dc.ord Dc.comm fuel (listed.setIfInBounds i true) { n:=s.n,t:=s.put o1.dst res,h:=h',nx:=n'+ops.size,ok:=True,e:=s.e } g' _ w' (by simp[hsz]) (λ_=>by rw[getD_set (by omega)];simp) (λj hj=>?_) (by rw[htodo];omega) (hX.set hsz hi)
    ⟨hs2.sz,hs2.tm,hs2.mem,hs2.df,hs2.en,hs2.bd⟩ (hm.trans q3) (λr hr=>.inl (q4 r hr)) (by rw[htodo];exact pE) trivial (hQ res h' n' hR)
   rw[getD_set (by omega),hk2 j hj]
   have:(j==i)=false:=by simp;omega
   rw[this];rfl
  refine LW Dc.le Dc.comm hsz hX hs hU hfin hok hi hik hne λg' a' w' s' q1 q2 q3 q4 q5=>?_
  refine ih _ s' g' a' w' (by simp[hsz]) o4d (λj hj=>?_) (by omega) (hX.set hsz hi) q1 (hm.trans q2) q3 q4
  rw[getD_set (by omega),hk2 j hj]
  have:(j==i)=false:=by simp;omega
  rw[this];rfl
def D6(C:aS)(L:List Oper)(k1 k2:Nat):Bool :=
 decide (k1<k2)&&decide (k2<=L.length)&&kr L
 && ((List.range L.length).all λi=>decide (i<k2)||(List.range i).all λj=>((ed L []).getD i 0).testBit j)
 && ((List.range k2).all λi=>i==k1||((tu C (L.getD i default)||((ed L []).getD k1 0).testBit i)&&(((ed L []).getD k1 0).testBit i||iK L (L.getD i default) (L.getD k1 default))
  && (List.range i).all λj=>j==k1||((ed L []).getD i 0).testBit j||mo C L (L.getD j default) (L.getD i default)))
 && ((List.range k2).all λj=>j==k1||(List.range (j+1)).all λi=>i==k1||match(L.getD j default).dst with
  | none=>true
  | some d=>!(looks L (L.getD i default)).contains d)
def ZiS{ops:Array Oper}{k1 k2:Nat}(h:D6 C ops.toList k1 k2=true):k1<k2/\O4 C ops k1 k2:=by
 unfold D6 at h
 simp only[XU,XW]at h
 obtain⟨⟨⟨⟨⟨h1,h2⟩,h3⟩,h4⟩,h5⟩,h6⟩:=h
 have hat : ∀(i:Nat)o,ops.toList[i]? = some o->ops.toList.getD i default=o:=λi o ho=>by simp only[List.getD,ho,YR]
 simp only[YJ,Zp,Yc,XU,YB,XW]at h4 h5 h6
 refine⟨h1,by simpa using h2,?_,?_,?_,?_,?_,?_⟩
 .
  intro i o ho e he hb;unfold kr at h3;simp only[YJ,Zp,Yc,Yb,XW]at h3;have:=h3 i (X7.1 ho).1 e (by rw[hat i o ho];exact he)
  rcases this with h|h
  . rw[hb]at h;cases h
  exact h
 .
  intro i hi hs j hj
  rcases h4 i (by simpa using hs)with h|h
  . omega
  exact h j hj
 .
  intro i o hi hne hnb ho
  rcases h5 i hi with h|h
  . exact absurd h hne
  have:=h.1.1;rw[hat i o ho,hnb]at this;exact this.resolve_right (by simp)
 .
  intro i j x y hi hj hne yw hx hy
  rcases h5 i hi with h|h
  . exact absurd h hne
  rcases h.2 j hj with(h|h)|h
  . exact absurd h yw
  . exact .inl h
  rw[hat j x hx,hat i y hy]at h;exact .inr h
 .
  intro i x y hi hne hx hy
  rcases h5 i hi with h|h
  . exact absurd h hne
  have:=h.1.2;rw[hat i x hx,hat k1 y hy]at this;exact this
 intro i j x y hij hj hne yw hx hy z hz e
 rcases h6 j hj with h|h
 . exact absurd h yw
 rcases h i om with h|h
 . exact absurd h hne
 rw[hat i x hx,hat j y hy,e]at h
 simp at h
 exact h hz
def V5 [Glob P]{ro:Option Nat}{Q:Exit->S->Prop}{s sq:S}{id:Nat}{ops:Array Oper}(k1 k2:Nat){o1:Oper}{f:Operand}{args:Array Operand}{ts:Array TypeId}{aX:FuncId}{first aD xs:List D}{E:Env}(R:D->H->Nat->Prop)
  (nQ:P.follows .mixedOrders=true)(hD:D6 C ops.toList k1 k2=true)(ho:ops[k1]? = some o1)(hop:o1.op = .call { callee:=.value f,args:=args,argTypes:=ts })(hg:o1.guard=none)
  (hfin:((List.range k2).filter (· != k1)).foldl (bB P (words P) C ops.toList s.nx) s=sq)(hok:sq.ok)(hd:dK sq.n o1.dst=true)
  (hf:sq.ev f = .fn (.func aX) first aD)(hxg:(args.toList.map sq.ev).all sg=true)(hx:(args.toList.map sq.ev).map sd=xs)(hE : ∀g w,sq.e.p g w->E.p g w)(hct:Ed P aX (first++xs++aD) sq.h (s.nx+k2) E R)
  (hst : ∀res h' n',R res h' n' -> ∀(i:Nat)o,i<k2->i≠k1->((ed ops.toList []).getD k1 0).testBit i=false->ops.toList[i]? = some o ->
   aN P (words P) C ops.toList s.nx i o sq.n sq.ev sq.t h'=((aN P (words P) C ops.toList s.nx i o sq.n sq.ev sq.t sq.h).1,h',(aN P (words P) C ops.toList s.nx i o sq.n sq.ev sq.t sq.h).2.2))
  (hk : ∀res h' n',R res h' n'->av P ro ops k2 n' { n:=sq.n,t:=sq.put o1.dst res,h:=h',nx:=n'+ops.size,ok:=True,e:=sq.e } Q):DW P ro (.region id ops true) Q s:=by
 intro B g a w hs hU
 refine wpIn_region_any nQ ?_
 obtain⟨hs1,hm1⟩:=J5 hs
 obtain⟨hlt,Dc⟩:=ZiS hD
 have hle:=Dc.le
 have hrep : ∀i,(Array.replicate ops.size false).getD i false=false:=by
  intro i
  by_cases h:i<ops.size<;>simp[Array.getD,h]
 have htodo:dM k1 k2 (Array.replicate ops.size false)=(List.range k2).filter (· != k1):=by
  unfold dM;exact Z5 λi _=>by rw[hrep];simp
 have hlen:(dM k1 k2 (Array.replicate ops.size false)).length<k2:=by
  rw[htodo];have:=(List.length_filter_lt_length_iff_exists (p:=λx=>x != k1) (l:=List.range k2)).2 ⟨k1,by simpa using hlt,by simp⟩
  simpa using this
 have hse:sq.e=s.e:=by rw[<-hfin];exact(Ga _ _).2
 refine Zcd (B:=B) (C:=C) (g0:=g) (w0:=w) (b:=s.nx) (n:=0) Dc hlt ho hop hg hd hf hxg hx hE hct hok hst (λres h' n' hR g' a' w' q1 q2 q3=>?_) ops.size _ s g a _ (by simp) (hrep k1) (λj _=>hrep j) (by omega) (λi o _ hi=>by rw[hrep]at hi;cases hi) hs1 hm1 (λr hr=>.inl (hU r hr)) (by rw[htodo];exact hfin)
 have:=hk res h' n' hR B g g' a' w w' q1 q2 q3
 simp only[hse]at this
 exact this
def ZiH [Glob P]{ro:Option Nat}{Q:Exit->S->Prop}{s sq:S}{id:Nat}{ops:Array Oper}(k1 k2:Nat){o1:Oper}{f:Operand}{args:Array Operand}{ts:Array TypeId}{aX:FuncId}{first aD xs:List D}(R:D->H->Nat->Prop)
  (nQ:P.follows .mixedOrders=true)(hD:D6 C ops.toList k1 k2=true)(ho:ops[k1]? = some o1)(hop:o1.op = .call { callee:=.value f,args:=args,argTypes:=ts })(hg:o1.guard=none)
  (hfin:((List.range k2).filter (· != k1)).foldl (bB P (words P) C ops.toList s.nx) s=sq)(hok:sq.ok)(hd:dK sq.n o1.dst=true)
  (hf:sq.ev f = .fn (.func aX) first aD)(hxg:(args.toList.map sq.ev).all sg=true)(hx:((args.toList.map sq.ev).map sd).map wk=xs)(hct:bU P aX (first++xs++aD) sq.h (s.nx+k2) R)
  (hst : ∀res h' n',R res h' n' -> ∀(i:Nat)o,i<k2->i≠k1->((ed ops.toList []).getD k1 0).testBit i=false->ops.toList[i]? = some o ->
   aN P (words P) C ops.toList s.nx i o sq.n sq.ev sq.t h'=((aN P (words P) C ops.toList s.nx i o sq.n sq.ev sq.t sq.h).1,h',(aN P (words P) C ops.toList s.nx i o sq.n sq.ev sq.t sq.h).2.2))
  (hk : ∀res h' n',R res h' n'->av P ro ops k2 n' { n:=sq.n,t:=sq.put o1.dst res,h:=h',nx:=n'+ops.size,ok:=True,e:=sq.e } Q):DW P ro (.region id ops true) Q s :=
 V5 (E:=Env.tt) k1 k2 R nQ hD ho hop hg hfin hok hd hf hxg rfl (λ_ _ _=>trivial) (bU.i (by rw[hx];exact hct)) hst hk
theorem Zho [Glob P]{t:TypeId}{x ix:D}{h h':H}(hn : ∀r,named r x=true->h' r=h r):jr P t x ix h'=jr P t x ix h:=by
 unfold jr
 cases bQ P t with
 | none=>rfl
 | some e =>
  cases x with
  | mrow r off len =>
   have:=hn r (by simp[named])
   cases ix with
   | v y=>cases y<;>first|rfl|simp only[this]
   | _=>rfl
  | list f rows =>
   cases ix with
   | v y=>cases y<;>rfl
   | _=>rfl
  | _=>cases ix<;>rfl
theorem IQ [Glob P]{W:cu}{L:List Oper}{b i:Nat}{o:Oper}{ev:Operand->D}{t:Nat->D}{n:Nat}{h h':H}(hg:o.guard=none)
  (hq:bW C o.op = .none\/(match o.op with | .load .. | .indexAddr .. => True|_=>False) /\ ∀d∈(aV o.op).map ev,∀r,named r (sd d)=true->h' r=h r) :
  aN P W C L b i o n ev t h'=((aN P W C L b i o n ev t h).1,h',(aN P W C L b i o n ev t h).2.2):=by
 rcases hq with hq|⟨hc,hn⟩
 . exact Md hq
 cases ho:o.op with
 | load ty x =>
  rw[ho]at hn;have:=hn (ev x) (by simp[aV])
  simp only[aN,hg,aY,ho,fE,Yp,Za,aV,X8,Yz,bg,still,mP,Ui this]
 | indexAddr ty x y =>
  rw[ho]at hn;have:=hn (ev x) (by simp[aV])
  simp only[aN,hg,aY,ho,fE,Yp,Za,aV,X8,Yz,bg,still,Zho this]
 | _=>rw[ho]at hc;exact hc.elim
theorem Zed{k1 k2:Nat}(h:k1<k2):(List.range k2).filter (· != k1)=List.range' 0 k1++List.range' (k1+1) (k2-(k1+1)):=by
 have e:List.range k2=List.range' 0 k1++(k1::List.range' (k1+1) (k2-(k1+1))):=by
  rw[Ze];have:k2=k1+((k2-(k1+1))+1):=by omega
  conv=>lhs;rw[this]
  rw[<-Zl,Y9]
  simp
 rw[e,List.filter_append,List.filter_cons]
 have p1:(List.range' 0 k1).filter (· != k1)=List.range' 0 k1:=Y1.2 λj hj=>by simp[List.mem_range']at hj;simp;omega
 have p2:(List.range' (k1+1) (k2-(k1+1))).filter (· != k1)=List.range' (k1+1) (k2-(k1+1)):=Y1.2 λj hj=>by simp[List.mem_range']at hj;simp;omega
 simp[p1,p2]
def IB [Glob P]{W:cu}{ops:Array Oper}{b k1 k2:Nat}{s s1 sq:S}(h1:k1<k2)(h2:k2<=ops.toList.length)(he1:aZ P W C ops.toList b 0 (ops.toList.take k1) s=s1)
  (he2:aZ P W C ops.toList b (k1+1) ((ops.toList.drop (k1+1)).take (k2-(k1+1))) s1=sq):((List.range k2).filter (· != k1)).foldl (bB P W C ops.toList b) s=sq:=by
 rw[Zed h1,Zh,<-JZ k1 0 s (by omega),<-JZ (k2-(k1+1)) (k1+1) _ (by omega)]
 simp only[X6,he1,he2]
def Kj(C:aS)(L:List Oper)(k2:Nat):Bool :=
 decide (k2<=L.length)&&kr L
 && ((List.range L.length).all λi=>decide (i<k2)||(List.range i).all λj=>((ed L []).getD i 0).testBit j)
 && ((List.range k2).all λi=>tu C (L.getD i default)&&(List.range i).all λj=>((ed L []).getD i 0).testBit j||iK L (L.getD j default) (L.getD i default))
 && ((List.range k2).all λj=>(List.range (j+1)).all λi=>match(L.getD j default).dst with
  | none=>true
  | some d=>!(looks L (L.getD i default)).contains d)
def ZiR{ops:Array Oper}{k2:Nat}(h:Kj C ops.toList k2=true):O4 C ops k2 k2:=by
 unfold Kj at h
 simp only[XU,XW]at h
 obtain⟨⟨⟨⟨h2,h3⟩,h4⟩,h5⟩,h6⟩:=h
 have hat : ∀(i:Nat)o,ops.toList[i]? = some o->ops.toList.getD i default=o:=λi o ho=>by simp only[List.getD,ho,YR]
 simp only[YJ,Zp,Yc,XU,XW]at h4 h5 h6
 have Jt : ∀i,k2<=i->i<ops.size -> ∀j,j<i->((ed ops.toList []).getD i 0).testBit j=true:=by
  intro i hi hs j hj
  rcases h4 i (by simpa using hs)with h|h
  . omega
  exact h j hj
 refine⟨by simpa using h2,?_,Jt,?_,?_,?_,?_⟩
 .
  intro i o ho e he hb;unfold kr at h3;simp only[YJ,Zp,Yc,Yb,XW]at h3;have:=h3 i (X7.1 ho).1 e (by rw[hat i o ho];exact he)
  rcases this with h|h
  . rw[hb]at h;cases h
  exact h
 . intro i o hi hne _ ho;have:=(h5 i hi).1;rw[hat i o ho]at this;exact this
 .
  intro i j x y hi hj hne yw hx hy
  rcases(h5 i hi).2 j hj with h|h
  . exact .inl h
  have q1:=(h5 i hi).1;have q2:=(h5 j (by omega)).1
  rw[hat i y hy]at q1;rw[hat j x hx]at q2;rw[hat j x hx,hat i y hy]at h;refine .inr ?_;unfold mo;rw[Zei q2 q1 h];rfl
 . intro i x y hi hne hx hy;have hlt:=(X7.1 hy).1;exact .inl (Jt k2 (XX _) (by simpa using hlt) i hi)
 intro i j x y hij hj hne yw hx hy z hz e
 have h:=h6 j hj i (by omega)
 rw[hat i x hx,hat j y hy,e]at h
 simp at h
 exact h hz
def ZiI [Glob P]{ro:Option Nat}{Q:Exit->S->Prop}{s sq:S}{id:Nat}{ops:Array Oper}(k2:Nat)(nQ:P.follows .mixedOrders=true)(hD:Kj C ops.toList k2=true)
  (hfin:aZ P (words P) C ops.toList s.nx 0 (ops.toList.take k2) s=sq)(hok:sq.ok)
  (hk:av P ro ops k2 s.nx { n:=sq.n,t:=sq.t,h:=sq.h,nx:=s.nx+ops.size,ok:=True,e:=sq.e } Q):DW P ro (.region id ops true) Q s:=by
 intro B g a w hs hU
 refine wpIn_region_any nQ ?_
 obtain⟨hs1,hm1⟩:=J5 hs
 have Dc:=ZiR hD
 have hle:=Dc.le
 have hrep : ∀i,(Array.replicate ops.size false).getD i false=false:=by
  intro i
  by_cases h:i<ops.size<;>simp[Array.getD,h]
 have htodo:dM k2 k2 (Array.replicate ops.size false)=List.range' 0 k2:=by
  unfold dM;rw[Y1.2 (λi hi=>by have:=Zp.1 hi;rw[hrep];simp;omega),Ze]
 have BO:(List.range' 0 k2).foldl (bB P (words P) C ops.toList s.nx) s=sq:=by
  rw[<-hfin,<-JZ k2 0 s (by simpa using hle)]
  rfl
 have hse:sq.e=s.e:=by rw[<-BO];exact(Ga _ _).2
 refine Ld (B:=B) (C:=C) (g0:=g) (w0:=w) (b:=s.nx) (n:=0) Dc.le Dc.back Dc.ord Dc.comm ops.size _ s g a _ (by simp) (λh=>absurd h (Nat.lt_irrefl _)) (λj _=>hrep j) (by rw[htodo];simp;omega) (λi o _ hi=>by rw[hrep]at hi;cases hi) hs1 hm1 (λr hr=>.inl (hU r hr)) (by rw[htodo];exact BO) hok (λg' a' w' q1 q2 q3=>?_)
 have:=hk B g g' a' w w' ⟨q1.sz,q1.tm,q1.mem,q1.df,q1.en,q1.bd⟩ q2 q3
 simp only[hse]at this
 exact this
end Go.DL
namespace Go.DL
open Go.RowKit
variable {P : Program} {ro : Option Nat} {Q : Exit -> S -> Prop}
def Gb(C:aS)(L:List Oper)(k1 k2:Nat)(fl:List (Nat×Nat)):Bool:=(List.range k2).all λi=>i==k1||((ed L []).getD k1 0).testBit i||((L.getD i default).guard.isNone&&(bW C (L.getD i default).op == .none||fl.any λp=>p.1==i&&match(L.getD i default).op with
 | .load _ (.tmp t)=>t==p.2
 | .indexAddr _ (.tmp t) (.tmp u)=>t==p.2&&fl.any λq=>q.1==i&&u==q.2
 | _=>false))
theorem NM [Glob P]{C:aS}{L:List Oper}{k1 k2:Nat}{fl:List (Nat×Nat)}(h:Gb C L k1 k2 fl=true){h':H}{sq:S}{b:Nat}(hk : ∀p∈fl,∀r,named r (sd (sq.t p.2))=true->h' r=sq.h r)(i:Nat)(o:Oper)(hi:i<k2)(hne:i≠k1)(hb:((ed L []).getD k1 0).testBit i=false)(ho:L[i]? = some o) :
  aN P (words P) C L b i o sq.n sq.ev sq.t h'=((aN P (words P) C L b i o sq.n sq.ev sq.t sq.h).1,h',(aN P (words P) C L b i o sq.n sq.ev sq.t sq.h).2.2):=by
 have hat:L.getD i default=o:=by simp only[List.getD,ho,YR]
 unfold Gb at h
 have h1:=YJ.1 h i (Zp.2 hi)
 rw[hat,hb]at h1
 simp only[ZR,Yc,YB,XU,ZY]at h1
 rcases h1 with h1|⟨hg,h1|⟨p,hp,h2,h3⟩⟩
 . exact absurd h1 hne
 . exact IQ (Zb.1 hg) (.inl h1)
 refine IQ (Zb.1 hg) (.inr ?_)
 cases hop:o.op with
 | load ty x =>
  rw[hop]at h3
  cases x with
  | tmp t =>
   simp only[YB]at h3;subst h3;refine⟨trivial,λd hd r hr=>?_⟩
   simp only[aV,X8,Yz,Yo]at hd;subst hd;exact hk p hp r hr
  | _=>simp at h3
 | indexAddr ty x y =>
  rw[hop]at h3
  cases x with
  | tmp t =>
   cases y with
   | tmp u =>
    simp only[YB,XU,ZY]at h3;obtain⟨h3,p2,hp2,h4,h5⟩:=h3;subst h3;subst h5;refine⟨trivial,λd hd r hr=>?_⟩
    simp only[aV,X8,Yz,Ym,YZ,or_false]at hd
    rcases hd with rfl|rfl
    . exact hk p hp r hr
    exact hk p2 hp2 r hr
   | _=>simp at h3
  | _=>simp at h3
 | _=>rw[hop]at h3;simp at h3
def Zc2 [Glob P]{C:aS}{s s1:S}{ops:Array Oper}{i b:Nat}(k:Nat){o:Oper}{t e:TypeId}{x lo hi:Operand}{r off len l m:Nat}{rows:List (List D)}(z9:eY P C ops i k o b s s1)
  (hop:o.op = .slice t x (some lo) (some hi) none)(ht:P.underlying t=some (.slice e))
  (hx:s1.ev x = .mrow r off len)(hlo:s1.ev lo = .i l)(hh:s1.ev hi = .i m)(hr:s1.h r=some ⟨e,rows⟩)(h0:l<=m)(h1:off+m<=rows.length)(h2:0<rows.length)
  (hk:av P ro ops (k+1) b { n:=s1.n,t:=s1.put o.dst (.mrow r (off+l) (m-l)),h:=s1.h,nx:=s1.nx,ok:=True,e:=s1.e } Q):av P ro ops i b s Q:=by
 obtain⟨hik,ho,hg,he,hok,hd⟩:=z9
 refine kE (C:=C) k (λd h'=>d = .mrow r (off+l) (m-l)/\h'=s1.h) hik ho hg (λc e=>by rw[hop]at e;cases e) he hok hd (λB g a w hst _=>?_) (λd h'⟨hy,hh⟩=>by subst hy;subst hh;exact hk)
 have hv:=bX hst x
 rw[hx]at hv
 have hvl:=bX hst lo
 rw[hlo]at hvl
 have qJ:=bX hst hi
 rw[hh]at qJ
 obtain⟨blk,c0,p1,p2,p3,p4,p5⟩:=hst.mem.blk r _ hr
 simp only at p2 p3 p5
 generalize uF:a.eval x=v at hv
 cases hv with|mrow _ _ _ _ fM hU hvv =>
 obtain⟨q1,q2⟩:=hvv _ _ _ p1
 obtain⟨a',c',e1,e2,_⟩:=fM
 have key : ∃(ad:Option Addr)(c:Nat),v = .slice ad len c/\m<=c/\ag w g (.mrow r (off+l) (m-l)) (.slice (if c=l then ad else ad.map (·.add (l*P.cellsOf e))) (m-l) (c-l)):=by
  rcases q2 with⟨e0,a,rfl⟩|⟨e0,b0,rfl,rfl⟩
  .
   have hm0:m=0:=by omega
   subst hm0;have hl0:l=0:=by omega
   subst hl0
   cases e1
   refine⟨a',0,rfl,XX _,?_⟩;simp only[Zn,Yq,Zu];refine .mrow r off 0 _ ⟨a',0,rfl,XX _,λh=>absurd h om⟩ hU λblk' c2 sz he=>?_
   rw[p1]at he;simp only[Yf,YK]at he;obtain⟨rfl,rfl,rfl⟩:=he;exact⟨⟨om,q1.2⟩,.inl ⟨e0,a',rfl⟩⟩
  cases e1
  refine⟨some ⟨b0,off*P.cellsOf e,none⟩,c0-off,rfl,om,?_⟩
  by_cases hcl:c0-off=l
  .
   rw[X3 hcl];have BK:m-l=0:=by omega
   rw[BK,hcl,Yq];refine .mrow r (off+l) 0 _ ⟨_,0,rfl,XX _,λh=>absurd h om⟩ hU λblk' c2 sz he=>?_
   rw[p1]at he;simp only[Yf,YK]at he;obtain⟨rfl,rfl,rfl⟩:=he;exact⟨⟨om,q1.2⟩,.inl ⟨om,_,rfl⟩⟩
  rw[XV hcl,YX,pO,<-Zk];refine .mrow r (off+l) (m-l) _ ⟨_,_,rfl,om,λ_=>⟨_,rfl⟩⟩ hU λblk' c2 sz he=>?_
  rw[p1]at he;simp only[Yf,YK]at he;obtain⟨rfl,rfl,rfl⟩:=he;refine⟨⟨om,q1.2⟩,.inr ⟨om,b0,rfl,?_⟩⟩
  congr 1
  omega
 obtain⟨ad,c,rfl,k2,k3⟩:=key
 have r2:=ng (P:=P) (o:=some (.i m)) (vo:=some (a.eval hi)) (d:=len) (y:=c) (w:=w) (g:=g) qJ rfl (by simp[bnd]) o5u (if true then .sliceAcap else .sliceAlen)
 have r1:=ng (P:=P) (o:=some (.i l)) (vo:=some (a.eval lo)) (d:=0) (y:=(bnd (some (.i m)) len).toNat) (w:=w) (g:=g) hvl rfl (by simp[bnd]) o5u .sliceB
 have hrun:=AL ht p2 (a:=ad) (len:=len) (vm:=none) (D9 (P:=P) (len:=len) r2 r1)
 simp only[bnd,Int.toNat_natCast]at hrun
 refine⟨_,_,⟨rfl,rfl⟩,_,g,w,.inl ?_,k3,hst.mem,ax.refl _ _,λr hr=>.inl hr⟩
 obtain⟨od,oo,iD,op,oa,og⟩:=o
 simp only at hop
 subst hop
 simp[execOp,uF,hrun]
 try rfl
def seg_apart [Glob P]{C:aS}{s s1:S}{ops:Array Oper}{i b:Nat}(k:Nat){o:Oper}{f x y:Operand}{ts:Array TypeId}{aX:FuncId}{fnx:Func}{t u e:TypeId}{r off len r2 mM o8:Nat}{rows lC:List (List D)}(z9:eY P C ops i k o b s s1)
  (hop : o.op = .call { callee := .value f, args := #[x, y], argTypes := ts }) (hF : P.funcs[aX]? = some fnx) (hname : (fnx.name == "runtime.NumGoroutine") = false) (hb : fnx.body.isNone = true) (hn : Extern.findNext fnx = none) (hfind : Extern.find fnx = some (Extern.SlicesOverlaps.overlaps #[t, t] #[u])) (ht : P.underlying t = some (.slice e))
  (yx:s1.ev f = .fn (.func aX) [] []) (hx:s1.ev x = .mrow r off len) (hy:s1.ev y = .mrow r2 mM o8) (hr:s1.h r=some ⟨e,rows⟩) (hr2:s1.h r2=some ⟨e,lC⟩) (hne:r≠r2) (h0:0<len) (h1:0<o8)
  (hk:av P ro ops (k+1) b { n:=s1.n,t:=s1.put o.dst (.b false),h:=s1.h,nx:=s1.nx,ok:=True,e:=s1.e } Q):av P ro ops i b s Q:=by
 obtain⟨hik,ho,hg,he,hok,hd⟩:=z9
 refine kE (C:=C) k (λd h'=>d = .b false/\h'=s1.h) hik ho hg (λc e=>by rw[hop]at e;cases e) he hok hd (λB g a w hst _=>?_) (λd h'⟨hy,hh⟩=>by subst hy;subst hh;exact hk)
 have hv:=bX hst x
 rw[hx]at hv
 have nK:=bX hst y
 rw[hy]at nK
 have nL:=bX hst f
 rw[yx]at nL
 obtain⟨blk,c0,p1,p2,p3,p4,p5⟩:=hst.mem.blk r _ hr
 obtain⟨blk',c1,o1,o2,o3,o4,o5⟩:=hst.mem.blk r2 _ hr2
 simp only at p2 p3 p5 o2 o3 o5
 have key : ∀{r off len blk c0}{rows:List (List D)}{v:Value},g.M r=some (blk,c0,P.cellsOf e)->0<P.cellsOf e->0<len->ag w g (.mrow r off len) v->((blk=none/\c0=0) \/ ∃b cur,blk=some b/\uZ w.heap[b]? e cur c0/\(c0<=maxLen->cur.size=c0*P.cellsOf e) /\ ¬g.I b/\Holds P w g ⟨e,rows⟩ cur) ->
   ∃b0 cc cur,blk=some b0/\v = .slice (some ⟨b0,off*P.cellsOf e,none⟩) len cc/\w.heap[b0]? = some (.cells cur e (0,0))/\cur.size≠0:=by
  intro r off len blk c0 rows v q1 q2 q3 q5 q6
  cases q5 with|mrow _ _ _ _ fM hU hvv =>
  obtain⟨a',c',e1,e2,_⟩:=fM;obtain⟨z1,z2⟩:=hvv _ _ _ q1
  rcases z2 with⟨e0,a,rfl⟩|⟨e0,b0,rfl,rfl⟩
  . exact absurd q3 om
  rcases q6 with⟨q7,_⟩|⟨b,cur,q7,q8,q9,_⟩
  . cases q7
  cases q7
  have hcm:c0<=maxLen:=by omega
  have hsz:=q9 hcm;refine⟨b0,_,cur,rfl,rfl,q8.cells hcm,?_⟩;rw[hsz];have:0<c0*P.cellsOf e:=Nat.mul_pos om q2;omega
 obtain⟨b0,cc,cur,rfl,uF,hb0,hs0⟩:=key p1 p2 h0 hv p5
 obtain⟨b1,cc1,cur1,rfl,hvy',hb1,hs1⟩:=key o1 o2 h1 nK o5
 have hbne:b0≠b1:=λq=>hne (hst.mem.inj r r2 b0 _ _ _ _ p1 (by rw[q];exact o1))
 generalize hv':a.eval f=vf at nL
 cases nL with|fn _ _ _ fs cs l1 l2 r1 r2 =>
 have hfs:fs = #[]:=Zz (by simpa using l1.symm)
 have hcs:cs = #[]:=Zz (by simpa using l2.symm)
 subst hfs
 subst hcs
 have hov:=Lib.run_overlaps_apart (P:=P) w t u e ht (P.cellsOf e) (λw=>rG p2 w) ⟨b0,off*P.cellsOf e,none⟩ ⟨b1,mM*P.cellsOf e,none⟩ len cc o8 cc1 hbne e e cur.size cur1.size (by simp[World.shape?,hb0]) (by simp[World.shape?,hb1]) hs1 (by simp[World.frozen?,hb0]) (by simp[World.frozen?,hb0])
 have hcall:(callFunc aX #[a.eval x,a.eval y]).run P w = .ok (.value (.bool false)) w:=by
  rw[run_callFunc_extern hF hname hb hn hfind,uF,hvy',hov];rfl
 refine⟨_,_,⟨rfl,rfl⟩,_,g,w,.inl ?_,.v _,hst.mem,ax.refl _ _,λr hr=>.inl hr⟩
 obtain⟨od,oo,iD,op,oa,og⟩:=o
 simp only at hop
 subst hop
 simp[execOp,resolve,Deferred.ofValue,hv',invoke,hcall]
def Zdk [Glob P]{C:aS}{s s1:S}{ops:Array Oper}{i b:Nat}(k:Nat){o:Oper}{t u e:TypeId}{x y:Operand}{yd:D}{r n:Nat}{rows news:List (List D)}(z9:eY P C ops i k o b s s1)
  (hop:o.op = .call { callee:=.builtin .append,args:=#[x,y],argTypes:=#[t,u] })(ht:P.underlying t=some (.slice e))
  (hx:s1.ev x = .mrow r 0 n)(hy:s1.ev y=yd)(hr:s1.h r=some ⟨e,rows⟩)(hn:rows.length=n)(hne:r≠b+k)(hnw:aC yd s1.h=news)
  (hl:news.length=bO yd)(hs:iA P u s1.h yd=true)(hrl : ∀q∈news,q.length=P.cellsOf e)(hz:eQ P e=true)(hc:0<P.cellsOf e)(hby:(n+news.length)*P.bytesOf e<=140737488355328)(h63:n+news.length<=9223372036854775807)
  (hk:av P ro ops (k+1) b { n:=s1.n,t:=s1.put o.dst (.mrow (b+k) 0 (n+news.length)),h:=upd (upd s1.h r none) (b+k) (some ⟨e,rows++news⟩),nx:=s1.nx,ok:=True,e:=s1.e } Q):av P ro ops i b s Q:=by
 obtain⟨hik,ho,hg,he,hok,hd⟩:=z9
 subst hnw
 subst hy
 have hel:bQ P t=some e:=by simp[bQ,ht]
 have key:jh P t u (.mrow r 0 n) (s1.ev y) s1.h (b+k)=(.mrow (b+k) 0 (n+(aC (s1.ev y) s1.h).length),upd (upd s1.h r none) (b+k) (some ⟨e,rows++aC (s1.ev y) s1.h⟩),(0<P.cellsOf e/\(n+(aC (s1.ev y) s1.h).length)*P.bytesOf e<=140737488355328/\n+(aC (s1.ev y) s1.h).length<=9223372036854775807) /\
    ((aC (s1.ev y) s1.h).length=bO (s1.ev y)/\iA P u s1.h (s1.ev y)=true/\eQ P e=true /\ ∀r∈aC (s1.ev y) s1.h,r.length=P.cellsOf e)/\e=e/\rows.length=n/\r≠b+k):=by
  rw[Zkw,hel];simp only[hr]
 refine kE (C:=C) k (λd h'=>d = .mrow (b+k) 0 (n+(aC (s1.ev y) s1.h).length)/\h'=upd (upd s1.h r none) (b+k) (some ⟨e,rows++aC (s1.ev y) s1.h⟩)) hik ho hg (λc e=>by rw[hop]at e;cases e) he hok hd (λB g a w hst hb=>?_) (λd h'⟨hy,hh⟩=>by subst hy;subst hh;exact hk)
 have hv:=bX hst x
 rw[hx]at hv
 have hcc:(jh P t u (.mrow r 0 n) (s1.ev y) s1.h (b+k)).2.2:=by rw[key];exact⟨⟨hc,hby,h63⟩,⟨hl,hs,hz,hrl⟩,rfl,hn,hne⟩
 obtain⟨v,g',w',q1,q2,q3,q4,q5⟩:=XJ hst.mem hb hv (bX hst y) hcc o.type
 rw[key]at q2 q3
 refine⟨_,_,⟨rfl,rfl⟩,v,g',w',.inl ?_,q2,q3,q4,q5⟩
 obtain⟨od,oo,iD,op,oa,og⟩:=o
 simp only at hop
 subst hop
 simp[Go.BigFrame.execOp_builtin,Go.BigFrame.builtin_append,q1]
section
variable [Glob P] (C : aS) {s s1 sq : S} {id : Nat} {ops : Array Oper} {o : Oper} {i b : Nat} {x y : Code}
def sV(h:av P ro ops 0 s.nx { n:=s.n,t:=s.t,h:=s.h,nx:=s.nx+ops.size,ok:=True,e:=s.e } Q):DW P ro (.region id ops false) Q s:=xw h
def cB(h:av P ro ops 0 s.nx { n:=s.n,t:=s.t,h:=s.h,nx:=s.nx+ops.size,ok:=True,e:=s.e } (thenS (DW P ro y Q) Q)):DW P ro (.seq (.region id ops false) y) Q s:=ae (xw h)
def Ai(k2:Nat)(hk:av P ro ops k2 s.nx { n:=sq.n,t:=sq.t,h:=sq.h,nx:=s.nx+ops.size,ok:=True,e:=sq.e } Q)(nQ:P.follows .mixedOrders=true:=by exact o7)(hD:Kj C ops.toList k2=true:=by kernel_rfl)
  (hfin:aZ P (words P) C ops.toList s.nx 0 (ops.toList.take k2) s=sq:=by simp only[X5,Ye,go_sem,ff];first|done|exact rfl)(hok:sq.ok:=by(try simp only[go_sem,ff]);all_goals exact ok0):DW P ro (.region id ops true) Q s:=ZiI k2 nQ hD hfin hok hk
def dr1(k1 k2:Nat)(fl:List (Nat×Nat)){o1:Oper}{f:Operand}{args:Array Operand}{ts:Array TypeId}{aX:FuncId}{first aD xs:List D}{R:D->H->Nat->Prop}
  (nQ:P.follows .mixedOrders=true:=by exact o7)(hD:D6 C ops.toList k1 k2=true:=by kernel_rfl)(hfl:Gb C ops.toList k1 k2 fl=true:=by kernel_rfl)(ho:ops[k1]? = some o1:=by exact dR rfl)(hop:o1.op = .call { callee:=.value f,args:=args,argTypes:=ts }:=by exact rfl)(hg:o1.guard=none:=by exact rfl)
  (hfin:((List.range k2).filter (· != k1)).foldl (bB P (words P) C ops.toList s.nx) s=sq:=by exact IB (by decide) (by decide) o2k o2k)(hok:sq.ok:=by(try simp only[go_sem,ff]);all_goals exact ok0)(hd:dK sq.n o1.dst=true:=by(try simp only[go_sem,ff]);all_goals (first|done|rfl|decide|simp))
  (hf:sq.ev f = .fn (.func aX) first aD:=by simp only[go_sem,ff];first|done|exact rfl)(hxg:(args.toList.map sq.ev).all sg=true:=by simp only[go_sem,ff])(hx:((args.toList.map sq.ev).map sd).map wk=xs:=by simp only[go_sem,ff];first|done|exact rfl)
  (hct:bU P aX (first++xs++aD) sq.h (s.nx+k2) R)
  (hkeep : ∀res h' n',R res h' n' -> ∀p∈fl,∀r,named r (sd (sq.t p.2))=true->h' r=sq.h r)
  (hk : ∀res h' n',R res h' n'->av P ro ops k2 n' { n:=sq.n,t:=sq.put o1.dst res,h:=h',nx:=n'+ops.size,ok:=True,e:=sq.e } Q):DW P ro (.region id ops true) Q s :=
 (ZiH k1 k2 R nQ hD ho hop hg hfin hok hd hf hxg hx hct (λres h' n' hr i o hi hne hb ho=>NM hfl (hkeep res h' n' hr) i o hi hne hb ho) hk)
def Wd(k1 k2:Nat)(fl:List (Nat×Nat)){o1:Oper}{f:Operand}{args:Array Operand}{ts:Array TypeId}{aX:FuncId}{first aD xs:List D}{R:D->H->Nat->Prop}{E:Env}
  (nQ:P.follows .mixedOrders=true:=by exact o7)(hD:D6 C ops.toList k1 k2=true:=by kernel_rfl)(hfl:Gb C ops.toList k1 k2 fl=true:=by kernel_rfl)(ho:ops[k1]? = some o1:=by exact dR rfl)(hop:o1.op = .call { callee:=.value f,args:=args,argTypes:=ts }:=by exact rfl)(hg:o1.guard=none:=by exact rfl)
  (hfin:((List.range k2).filter (· != k1)).foldl (bB P (words P) C ops.toList s.nx) s=sq:=by exact IB (by decide) (by decide) o2k o2k)(hok:sq.ok:=by(try simp only[go_sem,ff]);all_goals exact ok0)(hd:dK sq.n o1.dst=true:=by(try simp only[go_sem,ff]);all_goals (first|done|rfl|decide|simp))
  (hf:sq.ev f = .fn (.func aX) first aD:=by simp only[go_sem,ff];first|done|exact rfl)(hxg:(args.toList.map sq.ev).all sg=true:=by simp only[go_sem,ff])(hx:(args.toList.map sq.ev).map sd=xs:=by simp only[go_sem,ff];first|done|exact rfl)
  (hE : ∀g w,sq.e.p g w->E.p g w)(hct:Ed P aX (first++xs++aD) sq.h (s.nx+k2) E R)
  (hkeep : ∀res h' n',R res h' n' -> ∀p∈fl,∀r,named r (sd (sq.t p.2))=true->h' r=sq.h r)
  (hk : ∀res h' n',R res h' n'->av P ro ops k2 n' { n:=sq.n,t:=sq.put o1.dst res,h:=h',nx:=n'+ops.size,ok:=True,e:=sq.e } Q):DW P ro (.region id ops true) Q s :=
 (V5 k1 k2 R nQ hD ho hop hg hfin hok hd hf hxg hx hE hct (λres h' n' hr i o hi hne hb ho=>NM hfl (hkeep res h' n' hr) i o hi hne hb ho) hk)
def aP{s2:S}(hq:Q .normal s2.clear)(hi:i<=ops.size:=by first|decide|simp)(he:aZ P (words P) C ops.toList b i (ops.toList.drop i) s=s2:=by simp only[X9,X6,S.put,go_sem,ff];first|done|exact rfl)(hok:s2.ok:=by(try simp only[go_sem,ff]);all_goals exact ok0)(hn:s.nx=b+ops.size:=by rfl):av P ro ops i b s Q:=wH hi he hok hn hq
end
section
variable [Glob P] (C : aS) {s s1 : S} {ops : Array Oper} {i b : Nat} {o : Oper} (k : Nat)
def DD{x:Operand}{d:D}{t:TypeId}{v:Value}(hq:Q (.panic [{ v:=.iface t v,recovered:=false }]) { n:=s1.n,t:=s1.t,h:=s1.h,nx:=b+k,ok:=True,e:=s1.e })(hv : ∀(w:World)(g:Mem)u,ag w g d u->u = .iface t v)
  (hik:i<=k:=by omega)(ho:ops[k]? = some o:=by exact dR rfl)(hop:o.op = .panic x:=by exact rfl)(hg:o.guard=none:=by exact rfl)
  (he:aZ P (words P) C ops.toList b i ((ops.toList.drop i).take (k-i)) s=s1:=by simp only[X9,X6,X5,Ye,S.put,Yq,Nat.reduceSub,go_sem,ff];first|done|exact rfl)(hok:s1.ok:=by(try simp only[go_sem,ff]);all_goals exact ok0)(hx:s1.ev x=d:=by simp only[go_sem,ff];first|done|exact rfl):av P ro ops i b s Q:=Zc5 k hik ho hop hg he hok hx hv hq
def ZhR{t u e:TypeId}{x y:Operand}{yd:D}{r off n:Nat}{rows news:List (List D)}
  (hk:av P ro ops (k+1) b { n:=s1.n,t:=s1.put o.dst (.mrow r off (n+news.length)),h:=upd s1.h r (some ⟨e,rows.take (off+n)++news++rows.drop (off+n+news.length)⟩),nx:=s1.nx,ok:=True,e:=s1.e } Q)
  (hik:i<=k:=by omega)(ho:ops[k]? = some o:=by exact dR rfl)(hg:o.guard=none:=by exact rfl)(hop:o.op = .call { callee:=.builtin .append,args:=#[x,y],argTypes:=#[t,u] }:=by exact rfl)(ht:P.underlying t=some (.slice e):=by kernel_rfl)
  (he:aZ P (words P) C ops.toList b i ((ops.toList.drop i).take (k-i)) s=s1:=by simp only[X9,X6,X5,Ye,S.put,Yq,Nat.reduceSub,go_sem,ff];first|done|exact rfl)(hok:s1.ok:=by(try simp only[go_sem,ff]);all_goals exact ok0)(hd:dK s1.n o.dst=true:=by(try simp only[go_sem,ff]);all_goals (first|done|rfl|decide|simp))(hx:s1.ev x = .mrow r off n:=by simp only[go_sem,ff];first|done|exact rfl)(hy:s1.ev y=yd:=by simp only[go_sem,ff];first|done|exact rfl)
  (hs:iA P u s1.h yd=true:=by simp only[go_sem,ff])(hr:s1.h r=some ⟨e,rows⟩:=by simp only[go_sem,ff];first|done|exact rfl)(hnw:aC yd s1.h=news:=by simp only[aC,go_sem,ff];first|done|exact rfl)(hl:news.length=bO yd:=by first|(simp only[bO,go_sem,ff];done)|(simp[bO];omega))(hrl : ∀q∈news,q.length=P.cellsOf e:=by simp only[go_sem,ff])(h0:off<rows.length:=by first|omega|(simp;done)|(simp;omega))(hfit:off+n+news.length<=rows.length:=by first|omega|(simp;done)|(simp;omega)):av P ro ops i b s Q:=by
 subst hnw
 exact Zdn k hik ho hg hop ht he hok hd hx hy hr hl hs hrl h0 hfit hk
def BX{t u e:TypeId}{x y:Operand}{r off len r2 mM o8:Nat}(m:Nat){rows lC:List (List D)}(hk:av P ro ops (k+1) b { n:=s1.n,t:=s1.put o.dst (.i m),h:=upd s1.h r (some ⟨e,rows.take off++(lC.drop mM).take m++rows.drop (off+m)⟩),nx:=s1.nx,ok:=True,e:=s1.e } Q)
  (z9:eY P C ops i k o b s s1:=by exact pos)(hop:o.op = .call { callee:=.builtin .copy,args:=#[x,y],argTypes:=#[t,u] }:=by exact rfl)(ht:P.underlying t=some (.slice e):=by kernel_rfl)
  (hx:s1.ev x = .mrow r off len:=by simp only[go_sem,ff];first|done|exact rfl)(hy:s1.ev y = .mrow r2 mM o8:=by simp only[go_sem,ff];first|done|exact rfl)(hr:s1.h r=some ⟨e,rows⟩:=by simp only[go_sem,ff];first|done|exact rfl)(hr2:s1.h r2=some ⟨e,lC⟩:=by simp only[go_sem,ff];first|done|exact rfl)(hm:m=min o8 len:=by first|omega|(simp;done)|(simp;omega))(h0:0<m:=by first|omega|(simp;done)|(simp;omega))(hlo:off<=rows.length:=by first|omega|(simp;done)|(simp;omega))(hl:mM+m<=lC.length:=by first|omega|(simp;done)|(simp;omega)):av P ro ops i b s Q:=Zdd k m z9 hop ht hx hy hr hr2 hm h0 hlo hl hk
def NB{t e:TypeId}{x:Operand}{r off len:Nat}{rows:List (List D)}(hk : ∀c:Nat,len<=c->c<=maxLen->av P ro ops (k+1) b { n:=s1.n,t:=s1.put o.dst (.i c),h:=s1.h,nx:=s1.nx,ok:=True,e:=Env.lim s1.e r (off+c) } Q)
  (z9:eY P C ops i k o b s s1:=by exact pos)(hop:o.op = .call { callee:=.builtin .cap,args:=#[x],argTypes:=#[t] }:=by exact rfl)(ht:P.underlying t=some (.slice e):=by kernel_rfl)
  (hx:s1.ev x = .mrow r off len:=by simp only[go_sem,ff];first|done|exact rfl)(hr:s1.h r=some ⟨e,rows⟩:=by simp only[go_sem,ff];first|done|exact rfl):av P ro ops i b s Q:=Zdh k z9 hop ht hx hr hk
def Nr{t e:TypeId}{x hi:Operand}{r off len c:Nat}{E:Env}(m:Nat){rows:List (List D)}(hE:s1.e=Env.lim E r c)(hc:off+m<=c)(hk:av P ro ops (k+1) b { n:=s1.n,t:=s1.put o.dst (.mrow r off m),h:=s1.h,nx:=s1.nx,ok:=True,e:=s1.e } Q)
  (z9:eY P C ops i k o b s s1:=by exact pos)(hop:o.op = .slice t x none (some hi) none:=by exact rfl)(ht:P.underlying t=some (.slice e):=by kernel_rfl)
  (hx:s1.ev x = .mrow r off len:=by simp only[go_sem,ff];first|done|exact rfl)(hh:s1.ev hi = .i m:=by simp only[go_sem,ff];first|done|exact rfl)(hr:s1.h r=some ⟨e,rows⟩:=by simp only[go_sem,ff];first|done|exact rfl)(h0:0<m:=by first|omega|(simp;done)|(simp;omega))(hl:off<rows.length:=by first|omega|(simp;done)|(simp;omega)):av P ro ops i b s Q:=Zc3 k z9 hop ht hx hh hr hE hc h0 hl hk
def ZhD{t e:TypeId}{x lo hi:Operand}{r off len:Nat}(l m:Nat){rows:List (List D)}(hk:av P ro ops (k+1) b { n:=s1.n,t:=s1.put o.dst (.mrow r (off+l) (m-l)),h:=s1.h,nx:=s1.nx,ok:=True,e:=s1.e } Q)
  (z9:eY P C ops i k o b s s1:=by exact pos)(hop:o.op = .slice t x (some lo) (some hi) none:=by exact rfl)(ht:P.underlying t=some (.slice e):=by kernel_rfl)
  (hx:s1.ev x = .mrow r off len:=by simp only[go_sem,ff];first|done|exact rfl)(hlo:s1.ev lo = .i l:=by simp only[go_sem,ff];first|done|exact rfl)(hh:s1.ev hi = .i m:=by simp only[go_sem,ff];first|done|exact rfl)(hr:s1.h r=some ⟨e,rows⟩:=by simp only[go_sem,ff];first|done|exact rfl)(h0:l<=m:=by first|omega|(simp;done)|(simp;omega))(h1:off+m<=rows.length:=by first|omega|(simp;done)|(simp;omega))(h2:0<rows.length:=by first|omega|(simp;done)|(simp;omega)):av P ro ops i b s Q:=Zc2 k z9 hop ht hx hlo hh hr h0 h1 h2 hk
def ZhQ{t u e:TypeId}{kk:IntKind}{x y:Operand}{r off n c:Nat}(m:Nat){rows:List (List D)}{E:Env}(hE:s1.e=Env.lim E r c)(hc:c<off+n+m)(hby:(n+m)*P.bytesOf e<=140737488355328)(h63:n+m<=4611686018427387904)
  (hk:av P ro ops (k+1) b { n:=s1.n,t:=s1.put o.dst (.mrow (b+k) 0 (n+m)),h:=upd s1.h (b+k) (some ⟨e,(rows.drop off).take n++List.replicate m (zeroCells P e)⟩),nx:=s1.nx,ok:=True,e:=s1.e } Q)
  (z9:eY P C ops i k o b s s1:=by exact pos)(hop:o.op = .call { callee:=.builtin .append,args:=#[x,y],argTypes:=#[t,u] }:=by exact rfl)(ht:P.underlying t=some (.slice e):=by kernel_rfl)(hu:P.underlying u=some (.int kk):=by kernel_rfl)(hz:eQ P e=true:=by kernel_rfl)(h1z:(zeroCells P e).all D.one=true:=by kernel_rfl)(hdef:(zeroCells P e).length=P.cellsOf e:=by kernel_rfl)
  (hx:s1.ev x = .mrow r off n:=by simp only[go_sem,ff];first|done|exact rfl)(hy:s1.ev y = .i m:=by simp only[go_sem,ff];first|done|exact rfl)(hr:s1.h r=some ⟨e,rows⟩:=by simp only[go_sem,ff];first|done|exact rfl)(hl:off+n<=rows.length:=by first|omega|(simp;done)|(simp;omega)):av P ro ops i b s Q:=Zdm k z9 hop ht hu hz h1z hdef hx hy hr hE hc hl hby h63 hk
def ZhB{t e:TypeId}{x lo hi mx:Operand}{r len l m:Nat}{rows:List (List D)}(hk:av P ro ops (k+1) b { n:=s1.n,t:=s1.put o.dst .junk,h:=s1.h,nx:=s1.nx,ok:=True,e:=s1.e } Q)
  (z9:eY P C ops i k o b s s1:=by exact pos)(hop:o.op = .slice t x (some lo) (some hi) (some mx):=by exact rfl)(ht:P.underlying t=some (.slice e):=by kernel_rfl)
  (hx:s1.ev x = .mrow r 0 len:=by simp only[go_sem,ff];first|done|exact rfl)(hlo:s1.ev lo = .i l:=by simp only[go_sem,ff];first|done|exact rfl)(hh:s1.ev hi = .i m:=by simp only[go_sem,ff];first|done|exact rfl)(hmx:s1.ev mx = .i len:=by simp only[go_sem,ff];first|done|exact rfl)(hr:s1.h r=some ⟨e,rows⟩:=by simp only[go_sem,ff];first|done|exact rfl)(h1:l<=m:=by first|omega|(simp;done)|(simp;omega))(h2:m<=len:=by first|omega|(simp;done)|(simp;omega)):av P ro ops i b s Q:=Zc0 k z9 hop ht hx hlo hh hmx hr h1 h2 hk
def ZhP{t e:TypeId}{x:Operand}{r off len:Nat}{rows:List (List D)}(hk:av P ro ops (k+1) b { n:=s1.n,t:=s1.put o.dst (.tuple []),h:=upd s1.h r (some ⟨e,rows.take off⟩),nx:=s1.nx,ok:=True,e:=s1.e } Q)
  (hik:i<=k:=by omega)(ho:ops[k]? = some o:=by exact dR rfl)(hg:o.guard=none:=by exact rfl)(hop:o.op = .call { callee:=.builtin .clear,args:=#[x],argTypes:=#[t] }:=by exact rfl)(ht:P.underlying t=some (.slice e):=by kernel_rfl)(hz:eQ P e=true:=by kernel_rfl)(h1:(zeroCells P e).all D.one=true:=by kernel_rfl)
  (he:aZ P (words P) C ops.toList b i ((ops.toList.drop i).take (k-i)) s=s1:=by simp only[X9,X6,X5,Ye,S.put,Yq,Nat.reduceSub,go_sem,ff];first|done|exact rfl)(hok:s1.ok:=by(try simp only[go_sem,ff]);all_goals exact ok0)(hd:dK s1.n o.dst=true:=by(try simp only[go_sem,ff]);all_goals (first|done|rfl|decide|simp))(hx:s1.ev x = .mrow r off len:=by simp only[go_sem,ff];first|done|exact rfl)(hr:s1.h r=some ⟨e,rows⟩:=by simp only[go_sem,ff];first|done|exact rfl)(hl:off+len<=rows.length:=by first|omega|(simp;done)|(simp;omega)):av P ro ops i b s Q:=Ig k hik ho hg hop ht hz h1 he hok hd hx hr hl hk
def JA(K:Nat){f:Operand}{args:Array Operand}{ts:Array TypeId}{aX:FuncId}{first aD xs zs:List D}{res:D}(hik:i<=k:=by omega)(ho:ops[k]? = some o:=by exact dR rfl)(hg:o.guard=none:=by exact rfl)(hop:o.op = .call { callee:=.value f,args:=args,argTypes:=ts }:=by exact rfl)
  (he:aZ P (words P) C ops.toList b i ((ops.toList.drop i).take (k-i)) s=s1:=by simp only[X9,X6,X5,Ye,S.put,Yq,Nat.reduceSub,go_sem,ff];first|done|exact rfl)(hok:s1.ok:=by(try simp only[go_sem,ff]);all_goals exact ok0)(hd:dK s1.n o.dst=true:=by(try simp only[go_sem,ff]);all_goals (first|done|rfl|decide|simp))(hf:s1.ev f = .fn (.func aX) first aD:=by simp only[go_sem,ff];first|done|exact rfl)(hxg:(args.toList.map s1.ev).all sg=true:=by simp only[go_sem,ff])(hx:(args.toList.map s1.ev).map sd=xs:=by simp only[go_sem,ff];first|done|exact rfl)(hct:PureCt P aX zs res)
  (hso : ∀d∈first++xs++aD,dP s1.h K d)(hz:(first++xs++aD).map (λd=>wk (snap s1.h K d))=zs)(hfl:flat res=true:=by rfl)
  (hk:av P ro ops (k+1) b { n:=s1.n,t:=s1.put o.dst res,h:=s1.h,nx:=s1.nx,ok:=True,e:=s1.e } Q):av P ro ops i b s Q:=Zc4 k K hik ho hop hg he hok hd hf hxg hx hso hz hct hfl hk
def ZhS{f x y:Operand}{ts:Array TypeId}{aX:FuncId}{fnx:Func}{t u e:TypeId}{r off len r2 mM o8:Nat}{rows lC:List (List D)}(hne:r≠r2)
  (hk:av P ro ops (k+1) b { n:=s1.n,t:=s1.put o.dst (.b false),h:=s1.h,nx:=s1.nx,ok:=True,e:=s1.e } Q)
  (hF : P.funcs[aX]? = some fnx := by exact rfl) (hname : (fnx.name == "runtime.NumGoroutine") = false := by kernel_rfl) (hb : fnx.body.isNone = true := by kernel_rfl) (hn : Extern.findNext fnx = none := by kernel_rfl) (hfind : Extern.find fnx = some (Extern.SlicesOverlaps.overlaps #[t, t] #[u]) := by kernel_rfl) (ht : P.underlying t = some (.slice e) := by kernel_rfl)
  (z9:eY P C ops i k o b s s1:=by exact pos) (hop:o.op = .call { callee:=.value f,args:=#[x,y],argTypes:=ts }:=by exact rfl)
  (yx:s1.ev f = .fn (.func aX) [] []:=by simp only[go_sem,ff];first|done|exact rfl) (hx:s1.ev x = .mrow r off len:=by simp only[go_sem,ff];first|done|exact rfl) (hy:s1.ev y = .mrow r2 mM o8:=by simp only[go_sem,ff];first|done|exact rfl) (hr:s1.h r=some ⟨e,rows⟩:=by simp only[go_sem,ff];first|done|exact rfl) (hr2:s1.h r2=some ⟨e,lC⟩:=by simp only[go_sem,ff];first|done|exact rfl) (h0:0<len:=by first|omega|(simp;done)|(simp;omega)) (h1:0<o8:=by first|omega|(simp;done)|(simp;omega)):av P ro ops i b s Q :=
 seg_apart k z9 hop hF hname hb hn hfind ht yx hx hy hr hr2 hne h0 h1 hk
def Vk{t u e:TypeId}{x y:Operand}{yd:D}{r n:Nat}{rows news:List (List D)}(hne:r≠b+k)
  (hk:av P ro ops (k+1) b { n:=s1.n,t:=s1.put o.dst (.mrow (b+k) 0 (n+news.length)),h:=upd (upd s1.h r none) (b+k) (some ⟨e,rows++news⟩),nx:=s1.nx,ok:=True,e:=s1.e } Q)
  (z9:eY P C ops i k o b s s1:=by exact pos)(hop:o.op = .call { callee:=.builtin .append,args:=#[x,y],argTypes:=#[t,u] }:=by exact rfl)(ht:P.underlying t=some (.slice e):=by kernel_rfl)
  (hx:s1.ev x = .mrow r 0 n:=by simp only[go_sem,ff];first|done|exact rfl)(hy:s1.ev y=yd:=by simp only[go_sem,ff];first|done|exact rfl)(hr:s1.h r=some ⟨e,rows⟩:=by simp only[go_sem,ff];first|done|exact rfl)(hnw:aC yd s1.h=news:=by simp only[aC,go_sem,ff];first|done|exact rfl)
  (hn:rows.length=n:=by first|omega|(simp;done)|(simp;omega))(hl:news.length=bO yd:=by first|(simp only[bO,go_sem,ff];done)|(simp[bO];done)|(simp[bO];omega))(hs:iA P u s1.h yd=true:=by simp only[go_sem,ff])(hrl : ∀q∈news,q.length=P.cellsOf e:=by simp only[go_sem,ff])(hz:eQ P e=true:=by kernel_rfl)(hc:0<P.cellsOf e:=by exact YN (by kernel_rfl))(hby:(n+news.length)*P.bytesOf e<=140737488355328:=by omega)(h63:n+news.length<=9223372036854775807:=by omega):av P ro ops i b s Q :=
 Zdk k z9 hop ht hx hy hr hn hne hnw hl hs hrl hz hc hby h63 hk
end
end Go.DL
namespace Go.DL
open Go.RowKit
variable {P : Program} {ro : Option Nat} {Q : Exit -> S -> Prop}
def GZ(P:Program)(K:World->Prop):List Deferred->World->Prop
 | [],w=>K w
 | d::ds,w=>∃r w',d.target = .collected r/\(Instr.takeDeferred r).run P w = .ok [] w'/\GZ P K ds w'
theorem ZfZ{K:World->Prop}{B:Nat}{g:Mem}:∀(ds:List Deferred)(w:World),Marks B g ds w ->
  (∀w',w'.drawn=w.drawn->w'.os=w.os->w'.tape=w.tape->w'.output=w.output->w'.heap.size=w.heap.size->(∀k:Nat,k<B->w'.heap[k]? = w.heap[k]?)->(∀k:Nat,g.I k->w'.heap[k]? = w.heap[k]?)->(∀(k:Nat)o,w.heap[k]? = some o->GX o->w'.heap[k]? = w.heap[k]?)->K w') ->
  GZ P K ds w:=by
 intro ds
 induction ds with
 | nil =>
  intro w _ h;exact h w rfl rfl rfl rfl rfl (λ_ _=>rfl) (λ_ _=>rfl) (λ_ _ _ _=>rfl)
 | cons d ds ih =>
  rintro w ⟨⟨D,h1,h2,h3,h4,h5⟩,h6⟩ h;refine⟨D,w.putObj D (.deferred none),h1,run_takeDeferred h2,?_⟩;have hne : ∀k,k≠D->(w.putObj D (.deferred none)).heap[k]? = w.heap[k]? := λk hk=>World.putObj_heap_other hk
  have hms : ∀ds:List Deferred,(∀d'∈ds,d'.target ≠ .collected D)->Marks B g ds w->Marks B g ds (w.putObj D (.deferred none)):=by
   intro ds
   induction ds with
   | nil=>intro _ _;trivial
   | cons e ds ihd =>
    rintro hds ⟨⟨D',k1,k2,k3,k4,k5⟩,k6⟩;refine⟨⟨D',k1,?_,k3,k4,k5⟩,ihd (λd' hd'=>hds d' (by simp[hd'])) k6⟩
    rw[hne D' (λe'=>by subst e';exact hds e (by simp) k1)]
    exact k2
  refine ih _ (hms ds h3 h6) λw' e0 e1 e2 e3 e4 e5 e6 e7=>?_
  refine h w' (by rw[e0];rfl) (by rw[e1];rfl) (by rw[e2];rfl) (by rw[e3];rfl) (by rw[e4];simp) (λk hk=>?_) (λk hk=>?_) (λk o hk ho=>?_)
  . rw[e5 k hk,hne k (by omega)]
  . rw[e6 k hk,hne k (λe=>by subst e;exact h5 hk)]
  have:k≠D:=λe'=>by subst e';rw[h2]at hk;cases hk;exact ho
  rw[e7 k o (by rw[hne k this];exact hk) ho,hne k this]
theorem TI{F:Fence}{n:Nat}{K:World->Prop}:∀(ds:List Deferred)(w:World)(fr:Frame)(cs:List Frame),fr.mode ≠ .run->fr.defers=ds->F.fn fr.fn->F.room (cs.length+1+n)->GZ P K ds w ->
  ∃w',K w'/\StepsIn (Machine.fenced P F) P (lone fr cs w) (lone { fr with defers:=[] } cs w'):=by
 intro ds
 induction ds with
 | nil =>
  intro w fr cs hm hd hb hr h;refine⟨w,h,?_⟩;have:({ fr with defers:=[] }:Frame)=fr:=by cases fr;simp only at hd;subst hd;rfl
  rw[this];exact .refl _
 | cons d ds ih =>
  intro w fr cs hm hd hb hr ⟨r,w',htar,htake,hrest⟩;have h1:=step_collected (cs:=cs) hm hd htar htake;have i1:(lone fr cs w).fenced P F:=fenced_out hb hr hm hd (λg hg=>by rw[htar]at hg;simp[Target.leads]at hg)
  obtain⟨w2,hk,hs⟩:=ih w' { fr with defers:=[]++ds } cs hm rfl hb hr hrest
  exact⟨w2,hk,StepsIn.trans (.one i1 h1) hs⟩
def Xu(P:Program)(fn:Func)(c₀:Frame)(cs:List Frame)(R:Ending->FrameMode->World->Prop):Exit->Act->List Frame->World->Prop
 | .normal,a,cs',w | .ret,a,cs',w=>∃u',cs'={ c₀ with mode:=u' }::cs/\GZ P (λw2=>∃v,(results fn a.tmps).run P w2 = .ok v w2/\R (.returned v) u' w2) a.defers w
 | _,_,_,_=>False
theorem Zj1{F:Fence}{n:Nat}{f:FuncId}{fn:Func}{c:Code}{args:Array Value}{u:FrameMode}{w:World}{R:Ending->FrameMode->World->Prop}
  (hf:P.funcs[f]? = some fn)(hb:fn.body=some c)(hF:F.fn f)
  (h : ∀(c₀:Frame)(cs:List Frame),c₀.mode=u ->
   c.wpSIn F n P (Xu P fn c₀ cs R) { tmps:=args++Array.replicate (fn.ntmps-args.size) undef,defers:=[] } (c₀::cs) w) :
  CallsDIn F n P f args u w R:=by
 refine⟨hF,λc₀ cs hu hroom=>?_⟩
 let b:Frame:={ (default:Frame)with fn:=f,kind:=.deferred,roundOf:=none }
 have henter:Frame.enter P f args .deferred =
   b.atR { tmps:=args++Array.replicate (fn.ntmps-args.size) undef,defers:=[] } [.code c]:=by
  simp[Frame.enter,Frame.atR,hf,hb,b]
 obtain⟨e,a',cs',w',hl,hq,harr⟩:=h c₀ cs hu b [] rfl rfl hF hroom
 rw[<-henter]at harr
 cases e with
 | normal =>
  obtain⟨u',rfl,hm⟩:=hq;obtain⟨w2,⟨v,hr,hR⟩,hs⟩:=TI (F:=F) (n:=n) a'.defers w' { b.atR a' []with mode:=.returning } ({ c₀ with mode:=u' }::cs) (by simp) rfl hF hroom hm
  exact⟨.returned v,u',w2,_,hR,StepsIn.trans (StepsIn.trans harr (.one (fenced_calm (fr:=b.atR a' []) hF hroom rfl) (stepR_end rfl))) hs,rfl,rfl,rfl,rfl,fn,hf,hr⟩
 | ret =>
  obtain⟨u',rfl,hm⟩:=hq;obtain⟨todo,hs₀⟩:=harr.1 rfl;obtain⟨w2,⟨v,hr,hR⟩,hs⟩:=TI (F:=F) (n:=n) a'.defers w' { b.atR a' todo with mode:=.returning } ({ c₀ with mode:=u' }::cs) (by simp) rfl hF hroom hm
  exact⟨.returned v,u',w2,_,hR,StepsIn.trans hs₀ hs,rfl,rfl,rfl,rfl,fn,hf,hr⟩
 | _=>exact hq.elim
def Zaw{F:Fence}{n:Nat}{Q:Exit->Act->List Frame->World->Prop}{a:Act}{cs cs1:List Frame}{w:World}{id:Nat}{ops:Array Oper}{o:Oper}{v:Value}(hro:F.round=none)(ho:ops[0]? = some o)(hg:o.guard=none)
  (habout : ∀f,o.about P w a.eval=some f->F.fn f)(hrun:(execOp a.eval o).run P w = .ok .recover w)(hlen:cs1.length=cs.length)(hrec:recoverD cs=some (v,cs1)\/recoverD cs=none/\v = .nilIface/\cs1=cs)
  (h:wpOpsIn F n P ops (λe a' w'=>Q e a' cs1 w') (List.range' 1 (ops.size-1)) (a.put o.dst v) w):(Code.region id ops false).wpSIn F n P Q a cs w:=by
 intro b k hb hr hF hroom
 have hlt:0<ops.size:=(Yk.1 ho).1
 have hrange:List.range ops.size=0::List.range' 1 (ops.size-1):=by
  rw[Ze];have:ops.size=(ops.size-1)+1:=by omega
  conv=>lhs;rw[this]
  rw[Y9]
 have hw:Region.wanted o (yielded ops a.tmps)=true:=by simp[Region.wanted,hg]
 have h0:(lone (b.atR a (.inRegion ops (0::List.range' 1 (ops.size-1))::k)) cs w).fenced P F:=fenced_oper hF hroom ho habout
 have hgs:=stepGR_op (P:=P) (b:=b) (k:=k) (cs:=cs) (w:=w) (a:=a) (rest:=List.range' 1 (ops.size-1)) ho hw
 rw[hr,Oper.semAt_none]at hgs
 have hfin : ∀v,(b.atR a (.inRegion ops (0::List.range' 1 (ops.size-1))::k)).finish v=b.atR (a.put o.dst v) (.inRegion ops (List.range' 1 (ops.size-1))::k):=by
  intro v;rw[Frame.finish_atR,ho];rfl
 have hk:(b.atR a (.inRegion ops (0::List.range' 1 (ops.size-1))::k)).kind = .deferred:=hb
 have htr:=tryRecover_deferred hk cs
 have hstep:step P (lone (b.atR a (.inRegion ops (0::List.range' 1 (ops.size-1))::k)) cs w) = .next (lone (b.atR (a.put o.dst v) (.inRegion ops (List.range' 1 (ops.size-1))::k)) cs1 w):=by
  refine step_lone_go ?_;rw[hgs,<-hfin];simp only[Frame.atR,hr]at htr ⊢
  rcases hrec with hrec|⟨hrec,rfl,rfl⟩
  . simp[stepG.apply,hrun,htr,hrec]
  simp[stepG.apply,hrun,htr,hrec]
 obtain⟨e,a',w',hq,harr⟩:=wp_opsIn _ _ w h b k cs1 (hr.trans hro.symm) hF (by rw[hlen];exact hroom)
 refine⟨e,a',cs1,w',hlen,hq,.of_steps (.head (fenced_calm hF hroom rfl) stepR_region ?_) harr⟩
 rw[hrange]
 exact .one h0 hstep
def O3(P:Program)[Glob P](fn:Func)(R:H->Nat->Prop)(e:Exit)(s:S):Prop:=match e with
 | .normal | .ret=>qh P s fn.results.toList /\ ∃h' n',(∀r,h' r=s.h r\/h' r=none)/\s.nx<=n'/\R h' n'
 | _=>False
theorem Cg [Glob P]{f:FuncId}{fn:Func}{args:List D}{h:H}{n:Nat}{u u':FrameMode}{R:H->Nat->Prop}{id:Nat}{ops:Array Oper}{y:Code}{o:Oper}{ts:Array TypeId}{d:D}{v:Value}
  (hf:P.funcs[f]? = some fn)(hb:fn.body=some (.seq (.region id ops false) y))(hbd:dY P f=true)(hn:args.length<=fn.ntmps)(ho:ops[0]? = some o)(hg:o.guard=none)(hop:o.op = .call { callee:=.builtin .recover,args:=#[],argTypes:=ts })(hd:dK fn.ntmps o.dst=true)
  (hu:(u = .returning/\u' = .returning/\v = .nilIface)\/(u = .panicking [{ v:=v,recovered:=false }]/\u' = .panicking [{ v:=v,recovered:=true }]))(hv : ∀(w:World)(g:Mem),ag w g d v)
  (hw:(∀r,n<=r->h r=none)->av P none ops 1 n { n:=fn.ntmps,t:=S.put { n:=fn.ntmps,t:=λi=>args.getD i .junk,h:=h,nx:=n+ops.size } o.dst d,h:=h,nx:=n+ops.size } (thenS (DW P none y (O3 P fn R)) (O3 P fn R))):yV P f args h n u u' R:=by
 refine⟨hbd,λw g vs hm hU hr=>Zj1 (F:=Fence.wide) hf hb trivial λc₀ cs hc₀=>wpSIn_seq ?_⟩
 have hs0:=zR (P:=P) (n:=fn.ntmps) hr hn hm (nx:=n+ops.size)
 have hs1:St P (dn.of w.heap.size) { n:=fn.ntmps,t:=S.put { n:=fn.ntmps,t:=λi=>args.getD i .junk,h:=h,nx:=n+ops.size } o.dst d,h:=h,nx:=n+ops.size } g (Act.put { tmps:=vs.toArray++Array.replicate (fn.ntmps-vs.toArray.size) undef,defers:=[] } o.dst v) w :=
  mI hs0 (ax.refl _ _) hs0.mem hd (hv w g) True
 have hseg:=hw (Bh hm hU) (dn.of w.heap.size) g g _ w w hs1 (ax.refl _ _) (λr hr=>by have:=hU r hr;omega)
 have hlen:({ c₀ with mode:=u' }::cs).length=(c₀::cs).length:=rfl
 have hrecd:recoverD (c₀::cs)=some (v,{ c₀ with mode:=u' }::cs)\/recoverD (c₀::cs)=none/\v = .nilIface/\({ c₀ with mode:=u' }::cs:List Frame)=c₀::cs:=by
  rcases hu with⟨hu1,hu2,hv0⟩|⟨hu1,hu2⟩
  .
   right
   refine⟨by simp[recoverD,hc₀,hu1],hv0,?_⟩
   have:({ c₀ with mode:=u' }:Frame)=c₀:=by cases c₀;simp only at hc₀;subst hc₀;rw[hu1,hu2]
   rw[this]
  left
  simp[recoverD,hc₀,hu1,hu2]
 refine Zaw (F:=Fence.wide) rfl ho hg (λ_ _=>trivial) (by simp[execOp,hop,resolve,invoke,builtin]) hlen hrecd ?_
 have fin : ∀(e:Exit)(a':Act)(w':World)(s':S)(g':Mem),O3 P fn R e s'->St P (dn.of w.heap.size) s' g' a' w'->ax g g' w w'->(∀r,g'.U r->r<s'.nx) ->
   Xu P fn c₀ cs (λe u2 w'=>∃v g' h' n',e = .returned v/\u2=u'/\HM P h' g' w'/\ax g g' w w'/\(∀r,g'.U r->r<n')/\R h' n') e a' ({ c₀ with mode:=u' }::cs) w':=by
  intro e a' w' s' g' hq hs' hm' iZ;have key:(qh P s' fn.results.toList /\ ∃h' n',(∀r,h' r=s'.h r\/h' r=none)/\s'.nx<=n'/\R h' n')->GZ P (λw2=>∃v,(results fn a'.tmps).run P w2 = .ok v w2 /\ ∃v2 g' h' n',Ending.returned v = .returned v2/\u'=u'/\HM P h' g' w2/\ax g g' w w2/\(∀r,g'.U r->r<n')/\R h' n') a'.defers w':=by
   rintro⟨hro,h4,n4,k1,k2,k3⟩;obtain⟨ms,hms,hmk⟩:=hs'.df;have hms:a'.defers=ms:=by rw[hms];simp[dn.of]
   rw[hms];refine ZfZ (P:=P) ms w' hmk λw2 e0 e1 e2 e3 e4 e5 e6 e7=>?_
   have hs2:=hs'.marks e4 e6 e7;have vF:ax g g' w w2:=by
    refine⟨by rw[e1,hm'.os],by rw[e2,hm'.tape],by rw[e3,hm'.output],by rw[e4];exact hm'.size,by rw[e0];exact hm'.drawn,hm'.U,hm'.M,hm'.new,hm'.I,hm'.inew,λk hk hne=>?_⟩
    rw[e5 k hk];exact hm'.same k hk hne
   have hs3:St P (dn.of w.heap.size) { s' with e:=Env.tt } g' { a' with defers:=[] } w2:=⟨hs2.sz,hs2.tm,hs2.mem,ky.start (B:=dn.of w.heap.size),trivial,hs2.bd⟩
   obtain⟨v3,p1,p2⟩:=CW (fn:=fn) hs3 hro;exact⟨v3,p1,v3,g'.only h4,h4,n4,rfl,rfl,hs3.mem.only k1,vF.trans vD,λr hr=>YD (iZ r hr) k2,k3⟩
  cases e with
  | normal=>exact⟨u',rfl,key hq⟩
  | ret=>exact⟨u',rfl,key hq⟩
  | _=>exact hq.elim
 refine Em (F:=Fence.wide) ?_ _ _ _ hseg
 rintro e a' w' ⟨s',g',hq,hs',hm',iZ,hx'⟩
 have hm':ax g g' w w':=hm'.out
 cases e with
 | normal =>
  refine wpSIn_of_wpIn rfl (wpIn_mono (F:=Fence.wide) (hq (dn.of w.heap.size) g' a' w' hs' iZ) ?_);rintro e2 a2 w2 ⟨s2,g2,hq2,hs2,hm2,zW,hx2⟩;have hx3:s'.e.x=none:=by rw[hx'];rfl
  rw[hx3]at hm2;exact fin e2 a2 w2 s2 g2 hq2 hs2 (hm'.trans hm2.out) zW
 | ret=>exact fin .ret a' w' s' g' hq hs' hm' iZ
 | _=>exact hq.elim
section
variable [Glob P] {C : aS} {s s1 : S} {ops : Array Oper} {i b : Nat} {o : Oper}
def Q7(k:Nat){x:Operand}{d r:D}{xT t:TypeId}{v:Value}(z:Value)(hik:i<=k)(ho:ops[k]? = some o)(hg:o.guard=none)(hop:o.op = .typeAssert x xT t true)(ht:jd P t=true)(hz:(P.info? t).bind (·.zero)=some z)
  (he:aZ P (words P) C ops.toList b i ((ops.toList.drop i).take (k-i)) s=s1)(hok:s1.ok)(hd:dK s1.n o.dst=true)(hx:s1.ev x=d)(hv : ∀(w:World)(g:Mem)q,ag w g d q->q=v)
  (hr:(v = .nilIface /\ ∀(w:World)(g:Mem),ag w g r (.tuple #[z,.bool false])) \/ ∃q,v = .iface t q /\ ∀(w:World)(g:Mem),ag w g r (.tuple #[q,.bool true]))
  (hk:av P ro ops (k+1) b { n:=s1.n,t:=s1.put o.dst r,h:=s1.h,nx:=s1.nx,ok:=True,e:=s1.e } Q):av P ro ops i b s Q:=by
 refine kE (C:=C) k (λd h'=>d=r/\h'=s1.h) hik ho hg (λc e=>by rw[hop]at e;cases e) he hok hd (λB g a w hst _=>?_) (λd h'⟨hy,hh⟩=>by subst hy;subst hh;exact hk)
 have fQ:=bX hst x
 rw[hx]at fQ
 have hxv:=hv _ _ _ fQ
 obtain⟨ti,hti,hzi⟩:=Option.bind_eq_some_iff.1 hz
 obtain⟨u,hu,hni⟩:∃u,P.underlying t=some u/\((∃fs,u = .struct fs) \/ ∃n e,u = .array n e):=by
  unfold jd at ht
  split at ht
  . rename_i fs hfs;exact⟨_,hfs,.inl ⟨_,rfl⟩⟩
  . rename_i n e hfs;exact⟨_,hfs,.inr ⟨_,_,rfl⟩⟩
  cases ht
 rcases hr with⟨rfl,hr⟩|⟨q,rfl,hr⟩
 .
  refine⟨_,_,⟨rfl,rfl⟩,_,g,w,.inl ?_,hr w g,hst.mem,ax.refl _ _,λr hr=>.inl hr⟩
  obtain⟨od,oo,iD,op,oa,og⟩:=o;simp only at hop;subst hop
  rcases hni with⟨fs,rfl⟩|⟨n,e,rfl⟩<;>simp[execOp,hxv,Instr.typeAssert,run_underlying hu,zeroValue,typeInfo,hti,hzi]
 refine⟨_,_,⟨rfl,rfl⟩,_,g,w,.inl ?_,hr w g,hst.mem,ax.refl _ _,λr hr=>.inl hr⟩
 obtain⟨od,oo,iD,op,oa,og⟩:=o
 simp only at hop
 subst hop
 rcases hni with⟨fs,rfl⟩|⟨n,e,rfl⟩<;>simp[execOp,hxv,Instr.typeAssert,run_underlying hu]
def Q5(k:Nat){x:Operand}{d:D}{t:TypeId}(hik:i<=k)(ho:ops[k]? = some o)(hg:o.guard=none)(hop:o.op = .makeInterface t x)(ht:jd P t=true)
  (he:aZ P (words P) C ops.toList b i ((ops.toList.drop i).take (k-i)) s=s1)(hok:s1.ok)(hd:dK s1.n o.dst=true)(hx:s1.ev x=d)
  (hk:av P ro ops (k+1) b { n:=s1.n,t:=s1.put o.dst (.iface t d),h:=s1.h,nx:=s1.nx,ok:=True,e:=s1.e } Q):av P ro ops i b s Q:=by
 refine kE (C:=C) k (λr h'=>r = .iface t d/\h'=s1.h) hik ho hg (λc e=>by rw[hop]at e;cases e) he hok hd (λB g a w hst _=>?_) (λd h'⟨hy,hh⟩=>by subst hy;subst hh;exact hk)
 have fQ:=bX hst x
 rw[hx]at fQ
 obtain⟨u,hu,hni⟩:∃u,P.underlying t=some u/\((∃fs,u = .struct fs) \/ ∃n e,u = .array n e):=by
  unfold jd at ht
  split at ht
  . rename_i fs hfs;exact⟨_,hfs,.inl ⟨_,rfl⟩⟩
  . rename_i n e hfs;exact⟨_,hfs,.inr ⟨_,_,rfl⟩⟩
  cases ht
 refine⟨_,_,⟨rfl,rfl⟩,_,g,w,.inl ?_,.iface t d _ fQ,hst.mem,ax.refl _ _,λr hr=>.inl hr⟩
 obtain⟨od,oo,iD,op,oa,og⟩:=o
 simp only at hop
 subst hop
 rcases hni with⟨fs,rfl⟩|⟨n,e,rfl⟩<;>simp[execOp,Instr.makeInterface,run_underlying hu]
end
def Zix [Glob P]{c:Code}{s:S}(h:(∀r,s.nx<=r->s.h r=none)->DW P ro c Q s):DW P ro c Q s:=λB g a w hs hU=>h (Bh hs.mem hU) B g a w hs hU
def ZiC [Glob P]{c:Code}{s:S}(h : ∀hq:H,hq=s.h->DW P ro c Q { n:=s.n,t:=s.t,h:=hq,nx:=s.nx,e:=s.e }):DW P ro c Q s:=by
 intro B g a w hs hU
 exact h s.h rfl B g a w ⟨hs.sz,hs.tm,hs.mem,hs.df,hs.en,hs.bd⟩ hU
end Go.DL
