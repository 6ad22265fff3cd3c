/-
  MANY TEXTS OF MINE IN ONE (a claim has a limit of files): Lw, LSem, Jnl, Jno, Zdt, Zdu, Jlw, Jlx, Jp, Jly, Ztr, Zts, Upd, Upe, Upf, To, DFrame, DFoot, DSh, DFs, DGrow, DSl, DPan, DDrawC, DSg, DRec. Conditions: none.
-/
import Derived.Shelf.Strings.OnBuilder
import Derived.Shelf.Small.Strs
import Derived.Lib.SliceRun
import Derived.KernelRfl
import Derived.Shelf.Spec.SlicesGrow
import Derived.BigFrame
import Derived.Lib.Overlaps
import Derived.RecoverIn
import Derived.Laws.Externs
import Derived.Test.YtjhhnhgflmkenaaGreatDoorMST2
set_option linter.unusedVariables false
set_option linter.unusedSimpArgs false
set_option linter.unusedSectionVars false
set_option linter.defProp false
set_option linter.unnecessarySimpa false
namespace Go.Zon
open Go.DL Go.Str Go.Rec Go.Cmp
theorem _root_.o3v{p:Prop}(h:p:=by rw[Yw];omega):p:=h
theorem _root_.o3g{p:Prop}(h:p:=by simp only[bnd];omega):p:=h
theorem _root_.o1A{p:Prop}(h:p:=by rintro (q|q|q);rw[h]at q;cases q;rw[h]at q;cases q;exact q rfl):p:=h
theorem _root_.o0X{p:Prop}(h:p:=by simp only[X9,X4,X5,Yf,S.put,Yq,Nat.reduceSub,Nat.reduceAdd,go_sem,ff];exact rfl):p:=h
variable{a:Int}{f:Bool}{k:Nat}{l:List Sgd}{rows:List (List D)}{z:Zon}
def jo.of:List D->jo
 | [.v (.int _ k),.list _ V,.v (.string c)]=>⟨k,V.map Sgd.of,c.data.toList⟩
 | _=>default
def Jq:D->jo:=pV jo.of default
def SKey.of:List D->SKey
 | [.v (.int _ a),.v (.int _ b)]=>⟨a,b⟩
 | _=>default
def rF:D->SKey:=pV SKey.of default
def CS:D->List SKey:=xC SKey.of
attribute [go_sem] jo.d jo.df SKey.d
theorem OM(x:SKey):SKey.of x.d=x:=rfl
def ans1_agg{k:IntKind}{n:Int}{c:ByteArray}:Jq (.agg [.v (.int k n),.list f rows,.v (.string c)])=⟨n,eZ (.list f rows),c.data.toList⟩:=rfl
def ans_eta{x:jo}:(⟨x.kind,x.sets,x.cut⟩:jo)=x:=rfl
def Zqn{k k':IntKind}{b:Int}:rF (.agg [.v (.int k a),.v (.int k' b)])=⟨a,b⟩:=rfl
def skey_eta{x:SKey}:(⟨x.n,x.a⟩:SKey)=x:=rfl
attribute[go_sem]ans1_agg ans_eta Zqn skey_eta
@[go_sem]theorem Zqm{l:List SKey}:CS (.list f (l.map SKey.d))=l:=lG OM l
def Em{l:List SKey}{n:Nat}(h:n<l.length):(l.map SKey.d).getD n []=[.i l[n]!.n,.i l[n]!.a]:=by simp[List.getD,h,SKey.d,getElem!_pos]
@[go_sem]theorem Zjf{l:List SKey}:aQ (l.map SKey.d)=true:=by
 induction l with
 | nil=>rfl
 | cons x l k=>simp only[X7,aQ,k,SKey.d,aX,D.nr];rfl
@[go_sem]theorem wkr_skey{l:List SKey}:dB (l.map SKey.d)=l.map SKey.d:=by
 induction l with
 | nil=>rfl
 | cons x l k=>simp only[X7,dB,k,SKey.d,wk,dA]
@[go_sem]theorem all_skey{l:List SKey}:(∀r∈l.map SKey.d,r.length=2)=True:=by apply eq_true;intro r O;obtain⟨x,_,rfl⟩:=Yp.1 O;rfl
def Zr2{x:List D}{h:H}:wI h (.eptr x) = .eptr x:=rfl
def ZrX{x:List D}{h:H}:xS h (.eptr x)=True:=rfl
attribute[go_sem]Zr2 ZrX
@[go_sem]theorem Zc4{l:List Int}:dB (l.map iR)=l.map iR:=by
 induction l with
 | nil=>rfl
 | cons x l k=>simp only[X7,dB,k,iR,wk,dA]
@[go_sem]theorem all_iR{l:List Int}:(∀r∈l.map iR,r.length=1)=True:=by apply eq_true;intro r O;obtain⟨x,_,rfl⟩:=Yp.1 O;rfl
def Vw.d(v:Vw):List D:=[.v (.string (bs v.z.apex)),.l (v.z.sets.map Sgd.d),.fmap (ug (vJ v.z.sets v.z.sets.length)),.v (.string (bs v.q.name)),.i v.q.ty,.v (.string (bs v.cut)),.b v.beh,.v (.string (bs v.wc))]
def Vw.of:List D->Vw
 | [.v (.string a),.list _ V,_,.v (.string s),.v (.int _ t),.v (.string c),.v (.bool b),.v (.string w)]=>⟨⟨a.data.toList,V.map Sgd.of⟩,⟨s.data.toList,t⟩,c.data.toList,b,w.data.toList⟩
 | _=>default
def lh:D->Vw
 | .eptr M=>Vw.of M
 | _=>default
attribute [go_sem] Vw.d
def vw1_e{a s c w:ByteArray}{b:Bool}{x:D}{k:IntKind}{t:Int}:lh (.eptr [.v (.string a),.list f rows,x,.v (.string s),.v (.int k t),.v (.string c),.v (.bool b),.v (.string w)])=⟨⟨a.data.toList,eZ (.list f rows)⟩,⟨s.data.toList,t⟩,c.data.toList,b,w.data.toList⟩:=rfl
def vw_eta{x:Vw}:(⟨x.z,x.q,x.cut,x.beh,x.wc⟩:Vw)=x:=rfl
attribute[go_sem]vw1_e vw_eta
def zi:D->Vw
 | .eptr [x]=>lh x
 | _=>default
def zw:D->Str
 | .eptr [x]=>av x
 | _=>[]
def vwc1_e{x:D}:zi (.eptr [x])=lh x:=rfl
def strc1_e{x:D}:zw (.eptr [x])=av x:=rfl
attribute[go_sem]vwc1_e strc1_e
@[go_sem]theorem Zjc{m:IM}:aX (ug m)=true:=by
 induction m with
 | nil=>rfl
 | cons p m k=>rw[DV];simp only[aX,k,D.nr,Qst.d,Zt]
@[go_sem]theorem wks_kvIx{m:IM}:dA (ug m)=ug m:=by
 induction m with
 | nil=>rfl
 | cons p m k=>rw[DV];simp only[dA,wk,k,Qst.d]
def ZkV:ib (ug (vJ l k)) (.agg [.v (.string (bs l[k]!.set.name)),.i l[k]!.set.ty]) (.i (k:Int))=ug (vJ l (k+1)):=ZkR (q:=l[k]!.q)
theorem Vt(l:List Sgd)(j:Nat):∀k,j<k -> ∃i,ul (vJ l k) l[j]!.q=some i
 | 0,h=>by omega
 | k+1,h=>by
  rw[vJ,Zai];by_cases e:l[k]!.q=l[j]!.q
  . exact⟨_,X0 e⟩
  rw[XV e];exact Vt l j k (by rcases Nat.lt_succ_iff_lt_or_eq.1 h with h|h;exact h;subst h;exact absurd rfl e)
def Zit{j:Nat}(h:j<l.length):0<=bK l l[j]!.q:=by let⟨i,hi⟩:=Vt l j l.length h;obtain⟨m,rfl,_,_⟩:=Oq l _ _ (XW _) i hi;unfold bK;rw[hi];exact Int.natCast_nonneg m
def Zis{s:Sgd}(h:s∈l):0<=bK l s.q:=by obtain⟨i,hi,rfl⟩:=jh.1 h;exact Zit hi
def Ziu{q:Qst}(hz:ak z=true)(hq:ai q.name=true)(h:bV z.sets q=true):0<=bK z.sets q:=by have oz:mi z:=zL.1 o1M;have y:=Cf oz.ord oz.nms (q:=q) hq;rw[X0 h]at y;let⟨v,e⟩:=zR y;have:=Zis v;rwa [e]at this
abbrev TM:=List (Str×Int)
def xD(m:TM):List D:=m.flatMap λp=>[.v (.string (bs p.1)),.i p.2]
theorem DU(p:Str×Int)(m:TM):xD (p::m) = .v (.string (bs p.1)) :: .i p.2::xD m:=rfl
@[go_sem]theorem kvN_nil:xD []=[]:=rfl
def vM:TM->Str->Int
 | p::m,n=>if p.1=n then p.2 else vM m n
 | [],_=>0
def Hf:TM->Str->Int->TM
 | p::m,n,v=>if p.1=n then(n,v)::m else p::Hf m n v
 | [],n,v=>[(n,v)]
theorem Xz{a b:Str}:lX (.v (.string (bs a))) (.v (.string (bs b)))=decide (a=b):=by rw[YD];simp[lX,ou,mh]
@[go_sem]theorem kvGetD_N{m:TM}{n:Str}:(iZ (xD m) (.v (.string (bs n)))).getD (.v (.int .i64 0)) = .v (.int .i64 (vM m n)):=by
 induction m with
 | nil=>rfl
 | cons p m k =>
  rw[DU];simp only[iZ,Xz,vM];by_cases h:p.1=n
  . subst h;simp
  . have Y : ¬n=p.1:=λe=>h e.symm;simp only[h,Y,decide_false,Yn,Y8];exact k
@[go_sem]theorem kvSet_N{m:TM}{n:Str}{v:Int}:ib (xD m) (.v (.string (bs n))) (.v (.int .i64 v))=xD (Hf m n v):=by
 induction m with
 | nil=>rfl
 | cons p m k =>
  rw[DU];simp only[ib,Xz,Hf];by_cases h:p.1=n
  . rw[X0 h];simp[DU,h]
  . have Y : ¬n=p.1:=λe=>h e.symm;rw[XV h];simp only[Y,decide_false,Yn,Y8,k,DU]
@[go_sem]theorem Zjb{m:TM}:aX (xD m)=true:=by
 induction m with
 | nil=>rfl
 | cons p m k=>rw[DU];simp only[aX,k,D.nr,Zt]
@[go_sem]theorem wks_kvN{m:TM}:dA (xD m)=xD m:=by
 induction m with
 | nil=>rfl
 | cons p m k=>rw[DU];simp only[dA,wk,k]
def Cw : ∃f:(IntKind->Int->Int->Int)×(IntKind->Int->Int->Int)×(IntKind->Int->Int->Int)×(Int->Int),(∀k a b,f.1 k a b=orI k a b)/\(∀k a b,f.2.1 k a b=Rz k a b)/\(∀k a b,f.2.2.1 k a b=Ry k a b) /\ ∀t,f.2.2.2 t=IntKind.i64.wrap (1*2^(min t.toNat 64)) :=
 ⟨(orI,Rz,Ry,λt=>IntKind.i64.wrap (1*2^(min t.toNat 64))),λ_ _ _=>rfl,λ_ _ _=>rfl,λ_ _ _=>rfl,λ_=>rfl⟩
noncomputable def xn:IntKind->Int->Int->Int:=(Classical.choose Cw).1
noncomputable def Jr:IntKind->Int->Int->Int:=(Classical.choose Cw).2.1
noncomputable def MV:IntKind->Int->Int->Int:=(Classical.choose Cw).2.2.1
noncomputable def MN:Int->Int:=(Classical.choose Cw).2.2.2
theorem ZiR(k:IntKind)(a b:Int):xn k a b=orI k a b:=(Zv Cw).1 k a b
theorem ZpF(k:IntKind)(a b:Int):Jr k a b=Rz k a b:=(Zv Cw).2.1 k a b
theorem ZpG(k:IntKind)(a b:Int):MV k a b=Ry k a b:=(Zv Cw).2.2.1 k a b
theorem Zpb(t:Int):MN t=IntKind.i64.wrap (1*2^(min t.toNat 64)):=(Zv Cw).2.2.2 t
noncomputable def yg(l:List Sgd):Nat->TM
 | 0=>[]
 | k+1=>Hf (yg l k) l[k]!.set.name (xn .i64 (vM (yg l k) l[k]!.set.name) (MN l[k]!.set.ty))
@[go_sem]theorem typTo_0:yg l 0=[]:=rfl
def zT(l:List Sgd):Nat->Int
 | 0=>0
 | k+1=>if l[k]!.set.ty=4 then l[k]!.set.data[0]!.m else zT l k
noncomputable def Iw(a:Str)(t:TM)(n:Str):Int :=
 if n≠a/\Jr .i64 (xn .i64 (vM t n) 256) 4≠0 then MV .i64 (xn .i64 (vM t n) 256) 2 else xn .i64 (vM t n) 256
noncomputable def ZjD(z:Zon)(ns:List Str)(i:Nat):RSet:=⟨ns[i]!,8,zT z.sets z.sets.length,[⟨ns[(i+1) % ns.length]!,Iw z.apex (yg z.sets z.sets.length) ns[i]!,0⟩]⟩
noncomputable def nextF(z:Zon)(ns:List Str):List RSet:=(List.range ns.length).map (ZjD z ns)
def Zd9:Hf (yg l k) l[k]!.set.name (xn .i64 (vM (yg l k) l[k]!.set.name) (MN l[k]!.set.ty))=yg l (k+1):=rfl
@[go_sem]theorem lifeTo_0:zT l 0=0:=rfl
def Zks(h:l[k]!.set.ty=4):zT l (k+1)=l[k]!.set.data[0]!.m:=X0 h
def Zkt(h : ¬l[k]!.set.ty=4):zT l (k+1)=zT l k:=XV h
noncomputable def Fv(z:Zon)(ns:List Str)(k i:Nat):List D :=
 if i<k then[.v (.string (bs ns[i]!)),.i 8,.i (zT z.sets z.sets.length),.list true [[.v (.string (bs ns[(i+1) % ns.length]!)),.i (Iw z.apex (yg z.sets z.sets.length) ns[i]!),.i 0]]]
 else[.v (.string (bs [])),.i 0,.i 0,.e]
noncomputable def rU(z:Zon)(ns:List Str)(k:Nat):List (List D):=(List.range ns.length).map (Fv z ns k)
theorem He(z:Zon)(a:List Str)(k:Nat):(rU z a k).length=a.length:=by simp[rU]
def nx_0(z:Zon)(a:List Str):List.replicate a.length [D.v (.string (bs [])),.v (.int .i64 0),.v (.int .i64 0),.e]=rU z a 0:=by unfold rU;refine List.ext_getElem (by simp) λi J Y=>?_;simp[Fv]
def Zi3{a:List Str}(h:k<a.length):(rU z a k).getD k []=[.v (.string (bs [])),.i 0,.i 0,.e]:=by unfold rU;simp[List.getD,h,Fv]
def VW{a:List Str}{j:Nat}(h:k<a.length)(A:j=(k+1) % a.length){t:Int}(ht:t=Iw z.apex (yg z.sets z.sets.length) a[k]!):(rU z a k).set k [.v (.string (bs a[k]!)),.v (.int .i64 8),.v (.int .i64 (zT z.sets z.sets.length)),.list true [[.v (.string (bs a[j]!)),.v (.int .i64 t),.v (.int .i64 0)]]]=rU z a (k+1):=by
 subst ht;subst A;unfold rU;refine List.ext_getElem (by simp) λi J Y=>?_;rw[List.getElem_set];simp only[List.getElem_map,List.getElem_range];unfold Fv;by_cases e:k=i
 . subst e;rw[X0 rfl,X0 (Nat.lt_succ_self _)]
 rw[XV e];by_cases O:i<k
 . rw[X0 O,X0 (Nat.lt_succ_of_lt O)]
 rw[XV O,XV (by omega)]
theorem VX(z:Zon)(a:List Str)(k:Nat):aQ (rU z a k)=true:=by
 unfold rU;generalize List.range a.length=L;induction L with
 | nil=>rfl
 | cons i L c =>
  simp only[X7,aQ,c,Bool.and_true];unfold Fv;split<;>simp[aX,D.nr,aQ]
theorem Zi4(z:Zon)(a:List Str):dB (rU z a a.length)=(nextF z a).map RSet.d:=by unfold rU nextF;rw[EO,List.map_map,List.map_map];refine Y3 λi hi=>?_;have c:i<a.length:=Zk.1 hi;simp only[Function.comp_apply,Fv];rw[X0 c];rfl
def Zl2{a n:Str}{t:TM}(h:n≠a/\Jr .i64 (xn .i64 (vM t n) 256) 4≠0):MV .i64 (xn .i64 (vM t n) 256) 2=Iw a t n:=(X0 h).symm
def Zl3{a n:Str}{t:TM}(h:n=a\/Jr .i64 (xn .i64 (vM t n) 256) 4=0):xn .i64 (vM t n) 256=Iw a t n:=(XV (by rintro⟨J,Y⟩;exact h.elim J Y)).symm
def ZcO(hz:ak z=true){i:Nat}(hi:i<z.sets.length):ve z.sets[i]!.set:=by
 refine(iA _).1 ?_;have J:ordered z=true:=by unfold ak at hz;simp only[XU]at hz;exact hz.1.1.1.1.1
 unfold ordered at J;simp only[XU]at J;have Y:=(dG _ _ _).1 J.2 i (Yh _) hi;unfold lW at Y;simp only[XU]at Y;exact Y.1.1
def plainOf(z:Zon):Zon:=⟨z.apex,bL z.sets⟩
noncomputable def fJ(z:Zon):Zon×Int :=
 if ak z=false then(⟨[],[]⟩,1)
 else if ak (plainOf z)=false then(⟨[],[]⟩,1)
 else if 20000<(plainOf z).sets.length+(cK (plainOf z)).length then(⟨[],[]⟩,2)
 else(⟨z.apex,ML (plainOf z).sets (nextF (plainOf z) (cK (plainOf z)))⟩,0)
def di(ks:List SKey):List SKey:=ks.mergeSort λa b=>decide (a.n<=b.n)
def qR(ks:List SKey):Bool:=!decide (ks.map SKey.n).Nodup
theorem zD(ks:List SKey):(di ks).Perm ks:=List.mergeSort_perm _ _
def TE(ks:List SKey):(di ks).Pairwise λa b=>a.n<=b.n:=by have:=List.pairwise_mergeSort (le:=λa b:SKey=>decide (a.n<=b.n)) (λa b c J Y=>by simp at *;omega) (λa b=>by simp;omega) ks;exact this.imp λh=>by simpa using h
theorem TB{ks l:List SKey}(hp:l.Perm ks)(hs:l.Pairwise λa b=>a.n<=b.n)(h:qR ks=false):l=di ks:=by
 have f:(ks.map SKey.n).Nodup:=by simpa[qR]using h
 have v : ∀a b:SKey,a∈ks->b∈ks->a.n<=b.n->b.n<=a.n->a=b:=by
  intro a b m p J Y;have e:a.n=b.n:=by omega
  clear hp hs h J Y;induction ks with
  | nil=>cases m
  | cons x ks k =>
   rw[X7,List.nodup_cons]at f;rcases Yl.1 m with y|g
   .
    rcases Yl.1 p with O|c
    . rw[y,O]
    exact absurd (y▸e▸List.mem_map_of_mem c) f.1
   rcases Yl.1 p with O|c
   . exact absurd (O▸e▸List.mem_map_of_mem g) f.1
   exact k f.2 g c
 exact List.Perm.eq_of_pairwise (λa b m p J Y=>v a b (hp.mem_iff.1 m) ((zD ks).mem_iff.1 p) J Y) hs (TE ks) (hp.trans (zD ks).symm)
def rH(z:Zon)(ks:List SKey)(f u:Int)(i:Nat):Bool:=!iW (bB z) i||ks.all λk=>decide ((fu z.sets[i]!.set z.apex k f u).2=0)
def allR(z:Zon)(ks:List SKey)(f u:Int):Zon×Int :=
 if ks.length<1\/6<ks.length\/oU f u=false\/ak z=false then(⟨[],[]⟩,1)
 else if ks.all uD=false then(⟨[],[]⟩,1)
 else if qR ks=true then(⟨[],[]⟩,5)
 else if ax z.sets.length (rH z (di ks) f u) 0=false then(⟨[],[]⟩,1)
 else(jy z (di ks) f u,0)
def K5{n:Int}(h:a<n):∀i,i<[a].length->[a][i]! < n:=K4 λx E=>by rw[Yk.1 E];exact h
def FB{b n:Int}(h:a<n)(k:b<n):∀i,i<[a,b].length->[a,b][i]! < n:=K4 λx E=>by
 rcases Yl.1 E with e|e
 . rw[e];exact h
 rw[Yk.1 e];exact k
def Hr{b c n:Int}(h:a<n)(k:b<n)(m:c<n):∀i,i<[a,b,c].length->[a,b,c][i]! < n:=K4 λx E=>by
 rcases Yl.1 E with e|e
 . rw[e];exact h
 rcases Yl.1 e with e|e
 . rw[e];exact k
 rw[Yk.1 e];exact m
@[go_sem]theorem Zrd{l:List Int}:pG (.list f ((l.map iR).take k))=l.take k:=by rw[<-ZJ];exact ZlF
@[go_sem]theorem Zp2{l:List Int}:dB ((l.map iR).take k)=(l.map iR).take k:=by rw[<-ZJ];exact Zc4
@[go_sem]theorem iR_snoc{l:List Int}{x:Int}:(l++[x]).map iR=l.map iR++[[.v (.int .i64 x)]]:=by simp[iR]
def ints_1{k:IntKind}:pG (.list f [[.v (.int k a)]])=[a]:=rfl
def ints_2{k k':IntKind}{b:Int}:pG (.list f [[.v (.int k a)],[.v (.int k' b)]])=[a,b]:=rfl
def ints_3{k k' l:IntKind}{b c:Int}:pG (.list f [[.v (.int k a)],[.v (.int k' b)],[.v (.int l c)]])=[a,b,c]:=rfl
attribute[go_sem]ints_1 ints_2 ints_3
def srS(f:D):Nat:=match f with
 | .fn (.func k) _ [x,y]=>if k=265 then zl (zi x).z.sets (zw y)else Ao (zi x).z.sets (zw y)
 | _=>0
def srS_e{x y:D}:srS (.fn (.func 198) [] [x,y])=Ao (zi x).z.sets (zw y):=rfl
def srS_u{x y:D}:srS (.fn (.func 265) [] [x,y])=zl (zi x).z.sets (zw y):=rfl
attribute[go_sem]srS_e srS_u
end Go.Zon
namespace Go.Jn
open Go.DL Go.Str Go.Rec Go.Cmp Go.Zon
variable{b:Str}{c:eT}{n:Nat}
structure ZcE(g:RSig):Prop where
 zone:g.zone.length<=255
 key:i64 g.key
 alg:i64 g.alg
 frm:i64 g.frm
 unt:i64 g.unt
 sum:0<=g.sum/\g.sum<18446744073709551616
structure Ju(s:Sgd):Prop where
 set:ve s.set
 len:s.sigs.length<=255
 sig : ∀g∈s.sigs,ZcE g
def Zob{d:Dat}(h:Jy d/\d.t.length<=60/\0<=d.n/\0<=d.m):(uY d).length<=77:=by simp[uY,dC,j4];omega
theorem Ep{α:Type}{f:α->Str}{n:Nat}:∀{l:List α},(∀x∈l,(f x).length<=n)->(l.flatMap f).length<=l.length*n
 | [],_=>by simp
 | x::l,h=>by rw[ZU,X3,YI,Zn,Nat.one_mul];have J:=h x (by simp);have Y:=Ep (f:=f) (n:=n) (l:=l) λy o=>h y (by simp[o]);omega
def Kc{s:RSet}(h:ve s):(lv s).length<=1000:=by have J:=iE h.name;have Y:=Ep (f:=uY) (n:=77) (l:=s.data) λd m=>Zob (Zby h.ty (h.dat d m));have A:=h.len;simp[lv,dC,j4]at Y ⊢;omega
structure RI(q:Qst):Prop where
 name:q.name.length<=255
 ty:0<=q.ty/\q.ty<=255
structure ZcH(d:aM):Prop where
 apex:d.apex.length<=255
 frm:i64 d.frm
 too:i64 d.too
 drop:d.drop.length<4294967296
 dropq : ∀q∈d.drop,RI q
 put:d.put.length<4294967296
 puts : ∀s∈d.put,Ju s
structure ZcD(z:Zon):Prop where
 apex:z.apex.length<=255
 len:z.sets.length<4294967296
 sets : ∀d∈z.sets,Ju d
def isF(k m:Nat)(p:Str):Prop:=(p.getD 0 0).toNat=k/\gU ((p.drop 1).take 4)=m/\gU ((p.drop 5).take 8)=dig (p.take 5)/\gU ((p.drop (13+m)).take 8)=dig ((p.drop 13).take m)
def ZaB{k m:Nat}{w:Str}:bU k b=(21+m,w)↔21+m<=b.length/\isF k m b/\w=(b.drop 13).take m:=by
 unfold bU;by_cases J:b.length<13\/(b.getD 0 0).toNat≠k
 .
  rw[X0 J];constructor
  . intro h;simp only[YL]at h;omega
  rintro⟨c,A,_⟩;have:=A.1;omega
 rw[XV J];have j:au 4 (b.drop 1,false)=(gU ((b.drop 1).take 4),(b.drop 5,false)):=by unfold au;rw[show(4:Int)=((4:Nat):Int)from rfl,take_ok rfl (by simp;omega)];show(_,((b.drop 1).drop 4,false))=_;rw[ZO]
 have n:au 8 (b.drop 5,false)=(gU ((b.drop 5).take 8),(b.drop 13,false)):=by unfold au;rw[show(8:Int)=((8:Nat):Int)from rfl,take_ok rfl (by simp;omega)];show(_,((b.drop 5).drop 8,false))=_;rw[ZO]
 simp only[j,n];generalize f:gU ((b.drop 1).take 4)=N;by_cases c:N<=(b.drop 13).length
 .
  rw[take_ok rfl c];show(if(au 8 ((b.drop 13).drop N,false)).2.2=true\/_ then _ else _)=_↔_;rw[ZO];by_cases A:8<=(b.drop (13+N)).length
  .
   have a3:au 8 (b.drop (13+N),false)=(gU ((b.drop (13+N)).take 8),((b.drop (13+N)).drop 8,false)):=by unfold au;rw[show(8:Int)=((8:Nat):Int)from rfl,take_ok rfl A]
   rw[a3];simp only[Yw]at c A;split
   .
    rename_i Y;constructor
    . intro h;simp only[YL]at h;omega
    rintro⟨U,⟨W,a,T,V⟩,_⟩;rw[f]at a;subst a;rcases Y with Y|Y|Y
    . cases Y
    . exact absurd T Y
    exact absurd V Y
   rename_i Y;simp only[YL];constructor
   .
    rintro⟨U,W⟩;have v:N=m:=by omega
    subst v;refine⟨om,⟨om,f,?_,?_⟩,W.symm⟩
    . exact YW λq=>Y (.inr (.inl q))
    exact YW λq=>Y (.inr (.inr q))
   rintro⟨U,⟨W,a,T,V⟩,g⟩;rw[f]at a;subst a;exact⟨om,g.symm⟩
  have a3:(au 8 (b.drop (13+N),false)).2.2=true:=by unfold au;rw[yj (.inr (by show((List.drop (13+N) b).length:Int)<8;omega))]
  rw[X0 (.inl a3)];simp only[Yw]at c A;constructor
  . intro h;simp only[YL]at h;omega
  rintro⟨U,⟨_,a,_⟩,_⟩;rw[f]at a;omega
 rw[yj (.inr (by show((List.drop 13 b).length:Int)<N;omega))];have a3:(au 8 (b.drop 13,true)).2.2=true:=by unfold au;rw[yj (.inl rfl)]
 simp only[Yw]at c;show(if(au 8 (b.drop 13,true)).2.2=true\/_ then _ else _)=_↔_;rw[X0 (.inl a3)];constructor
 . intro h;simp only[YL]at h;omega
 rintro⟨U,⟨_,a,_⟩,_⟩;rw[f]at a;omega
def Qf(k:Nat)(b:Str):bU k b=(0,[]) \/ ∃m,21+m<=b.length/\isF k m b/\bU k b=(21+m,(b.drop 13).take m):=by
 by_cases h:(bU k b).1=0
 .
  refine .inl ?_;unfold bU at h ⊢;split
  . rfl
  rename_i q;rw[XV q]at h;simp only at h ⊢;split
  . rfl
  rename_i r;rw[XV r]at h;simp at h
 let⟨J,_⟩:=Zaz k b h;obtain⟨m,v⟩:∃m,(bU k b).1=21+m:=⟨_,(by omega:(bU k b).1=21+((bU k b).1-21))⟩;have e:bU k b=(21+m,(bU k b).2):=Prod.ext v rfl;let⟨Y,A,a⟩:=ZaB.1 e;exact .inr ⟨m,Y,A,by rw[e,a]⟩
def ZaA{k:Nat}{w:Str}(h:bU k b=(n,w)):n<=b.length:=by
 obtain J|⟨m,J,Y,A⟩:=Qf k b
 . rw[h]at J;cases J;exact Yh _
 rw[h]at A;cases A;exact J
theorem Qj(k:UInt8)(w:Str):(jI k w).length=21+w.length:=by simp[jI,BQ,jd];omega
theorem Zbk(l:Str):dig l<18446744073709551616:=by
 unfold dig;rcases List.eq_nil_or_concat l with e|⟨p,z,e⟩
 . subst e;decide
 rw[e,List.concat_eq_append,Za,YM,ZH];unfold gP;omega
def ZeJ{z:Zon}:wY b=some (z,n)↔n≠0 /\ ∃w,bU 1 b=(n,w)/\Fh w=some z/\ak z=true:=by
 unfold wY;constructor
 .
  intro h;split at h
  . cases h
  rename_i q;split at h
  . cases h
  rename_i a V;split at h
  . rename_i u;simp only[Yj,YL]at h;obtain⟨rfl,rfl⟩:=h;exact⟨q,_,rfl,V,u⟩
  cases h
 rintro⟨p,w,J,Y,A⟩;rw[J];rw[XV p];simp only[Y];rw[X0 A]
def ZeO{y:Zon}{z:Zon}:o6 y b=some (z,n)↔n≠0 /\ ∃w d,bU 2 b=(n,w)/\Bg w=some d/\eY y d=(z,0):=by
 unfold o6;constructor
 .
  intro h;split at h
  . cases h
  rename_i q;split at h
  . cases h
  rename_i d m;split at h
  . rename_i u;simp only[Yj,YL]at h;obtain⟨rfl,rfl⟩:=h;exact⟨q,_,d,rfl,m,Prod.ext rfl u⟩
  cases h
 rintro⟨p,w,d,J,Y,A⟩;rw[J];rw[XV p];simp only[Y,A];exact X0 trivial
theorem JP{z:Zon}(h:stepC c b=some (z,n)):n<=b.length/\0<n:=by
 cases c with
 | none =>
  let⟨p,w,J,_⟩:=ZeJ.1 (show wY b=_ from h);exact⟨ZaA J,Nat.pos_of_ne_zero p⟩
 | some y =>
  let⟨p,w,d,J,_⟩:=ZeO.1 (show o6 y b=_ from h);exact⟨ZaA J,Nat.pos_of_ne_zero p⟩
def fr(c:eT)(b:Str):List (Zon×Nat):=match c with
 | none=>qP b
 | some z=>more z b
theorem Qk(h:stepC c b=none):fr c b=[]:=by
 cases c with
 | none=>unfold fr qP;simp only;rw[show wY b=none from h]
 | some z=>exact ZjT h
theorem ZaF{y:Zon}(h:stepC c b=some (y,n)):fr c b=(y,n)::fr (some y) (b.drop n):=by
 cases c with
 | none=>unfold fr qP;simp only;rw[show wY b=some (y,n)from h]
 | some z=>exact ZjS h
def FD(c:eT)(l:List (Zon×Nat)):eT:=match l.getLast? with
 | none=>c
 | some x=>some x.1
theorem ZkD(c:eT)(x:Zon×Nat)(l:List (Zon×Nat)):FD c (x::l)=FD (some x.1) l:=by
 unfold FD;cases l with
 | nil=>rfl
 | cons y l =>
  rw[List.getLast?_cons_cons];cases h:(y::l).getLast? with
  | none=>simp at h
  | some z=>rfl
theorem Tg(x:Zon×Nat)(l:List (Zon×Nat)):rD (x::l)=x.2+rD l:=by simp[rD]
theorem ZaD : ∀(n:Nat)(c:eT)(b:Str),b.length<=n->rD (fr c b)<=b.length:=by
 intro n;induction n with
 | zero =>
  intro c b p;cases h:stepC c b with
  | none=>rw[Qk h];exact Yh _
  | some x=>have:=JP (z:=x.1) (n:=x.2) h;omega
 | succ n a =>
  intro c b p;cases h:stepC c b with
  | none=>rw[Qk h];exact Yh _
  | some x =>
   let⟨y,k⟩:=x;let⟨J,Y⟩:=JP h;rw[ZaF h,Tg];have:=a (some y) (b.drop k) o3v;rw[Yw]at this;show k+_<=_;omega
theorem ZoV(p:Str)(l:List Str):fG (p::l)=p++fG l:=by simp[fG]
def OZ{p:Str}{y:Zon}(h:stepC c p=some (y,n)):nextF c p=(some y,n):=by unfold nextF;rw[h]
def Ho{p:Str}(h:stepC c p=none):nextF c p=(c,0):=by unfold nextF;rw[h]
theorem Zdb(b:Str):mq b=FD none (qP b):=by unfold mq FD;cases h:(qP b).getLast? <;> rfl
theorem OA(b:Str):(uK b).length=rD (qP b):=by have:=ZaD _ none b (XW _);unfold uK;rw[YO];exact Z4 this
def VP{d:eQ}{o:vg}(h:iX d=some o):d.safe.length<=1000000/\d.pend.length<=200/\o.whole=uK d.safe/\o.size=((uK d.safe).length+(fG d.pend).length:Nat)/\o.saved=mq d.safe/\rQ (mq d.safe) d.pend=some o.all:=by
 unfold iX at h;split at h
 . cases h
 rename_i q;split at h
 . cases h
 rename_i c j;cases h;exact⟨om,om,rfl,by push_cast;rfl,rfl,j⟩
end Go.Jn
namespace Go.Zon
open Go.DL Go.Str Go.Rec Go.Cmp
def Q0(l:List Qst):Nat->List Qst
 | 0=>[]
 | k+1=>if k=0\/l[k]! ≠ l[k-1]! then Q0 l k++[l[k]!]else Q0 l k
def cpF(l:List Qst):List Qst:=Q0 l l.length
def stayJ(d e:aM):List Sgd:=gF ⟨d.apex,d.put⟩ e
def Oj(d e:aM):List Sgd:=iU (stayJ d e++e.put)
def Zbc(d e:aM):List Qst:=(cpF (sortQ (d.drop++e.drop))).filterMap (j3S (lH (Oj d e)))
def uniP(d e:aM):aM:=⟨d.apex,d.frm,e.too,Zbc d e,Oj d e⟩
def uj(d e:aM):aM×Int :=
 if fO d=false\/fO e=false\/d.apex≠e.apex then(sS,1)else if d.too≠e.frm\/gX d.frm e.too=false then(sS,23)else
 if 20000<(Zbc d e).length\/20000<(Oj d e).length then(sS,2)else(uniP d e,0)
def Ww{z:Zon}{d:aM}{x:Sgd}:x∈(pF z d).sets↔(x∈z.sets/\x.q ∉ d.drop /\ ∀s∈d.put,s.q≠x.q)\/x∈d.put:=by show x∈iU _↔_;rw[NF,Yu,Gy]
def Ru{z:Zon}{d:aM}{x:Zon}(h:eY z d=(x,0)):x=pF z d/\AOk z d:=by
 rcases Zpq z d with m|⟨m,_⟩|m|m|⟨m,X⟩
 . rw[m]at h;cases h
 . rw[m]at h;cases h
 . rw[m]at h;cases h
 . rw[m]at h;cases h
 rw[m]at h;exact⟨(YL _ _ _ _▸h).1.symm,X⟩
def FZ:cZ []:=⟨by simp,λk X=>by simp at X⟩
end Go.Zon
namespace Go.Jn
open Go.DL Go.Str Go.Rec Go.Cmp Go.Zon
variable{c:eT}{k:Nat}{l:List Str}{w:Str}{x:aM}{z:Zon}
def cut_at{l:Str}{i a n:Nat}(h1:a<=i)(h2:i<a+n)(h3:i<l.length):∃h:i-a<((l.drop a).take n).length,((l.drop a).take n)[i-a]=l[i]:=by
 have h:i-a<((l.drop a).take n).length:=by rw[YO,Yw];omega
 refine⟨h,?_⟩;rw[List.getElem_take,List.getElem_drop];congr 1;omega
theorem Ox : ∀(l m:List Str)(c:eT),rQ c (l++m)=(rQ c l).bind λw=>rQ w m
 | [],m,c=>rfl
 | p::l,m,c=>by
  show(if(nextF c p).2≠0/\(nextF c p).2=p.length then rQ (nextF c p).1 (l++m)else none)=(if(nextF c p).2≠0/\(nextF c p).2=p.length then rQ (nextF c p).1 l else none).bind λw=>rQ w m;split
  . exact Ox l m _
  rfl
theorem ZoW(a b:List Str):fG (a++b)=fG a++fG b:=by simp[fG]
theorem Zb7{i:Nat}(h:i<l.length):fG (l.take (i+1))=fG (l.take i)++l[i]! := by
 rw[Zp];have e:l[i]?.toList=[l[i]!]:=by simp[h,getElem!_pos]
 rw[e];simp[fG]
def VD(b:Str):(uK b).length<=b.length:=by unfold uK;rw[YO];exact Nat.min_le_right _ _
theorem Rv{d:eQ}{o:vg}{y:Zon}(h:iX d=some o)(m:o.all=some z)(a:eY z x=(y,0)) :
  rf d x=if 200<=d.pend.length then(ut,2)else if 1000000<o.size+(jI 2 (il x)).length then(ut,41)else(⟨o.whole,d.pend++[jI 2 (il x)]⟩,0):=by
 let⟨_,k⟩:=Ru a;unfold rf;simp only[h,m,a];rw[XV (by rw[k.dok];simp),XV (by simp)]
theorem Zpr{d:eQ}{o:vg}(h:iX d=some o)(m:o.all=some z)(a:(eY z x).2≠0):rf d x=(ut,if fO x=false then 1 else(eY z x).2):=by unfold rf;simp only[h,m];split<;>first|rfl|(rw[X0 a])
theorem Zpv{d:eQ}{o:vg}(h:iX d=some o)(m:o.all=none):rf d x=(ut,if fO x=false then 1 else 42):=by unfold rf;simp only[h,m];split<;>rfl
def MX(z:Zon):Prop:=∀s∈z.sets,∀g∈s.sigs,0<=g.sum/\g.sum<18446744073709551616
def Gi(x:aM):Prop:=∀s∈x.put,∀g∈s.sigs,0<=g.sum/\g.sum<18446744073709551616
def RO(h:ak z=true){s:Sgd}(hs:s∈z.sets):s.sigs.length<=6 /\ ∀g∈s.sigs,g.zone=z.apex/\i64 g.key/\i64 g.alg/\i64 g.frm/\i64 g.unt:=by simp only[ak,XU]at h;obtain⟨i,hi,rfl⟩:=Zb hs;have J:=(dG _ _ _).1 h.2 i (Yh _) hi;have J:sI z i=true:=J;unfold sI kg at J;rw[XU]at J;rw[<-getElem!_pos z.sets i hi];refine⟨by have:=J.1;simpa using this,λg M=>?_⟩;obtain⟨j,A,rfl⟩:=Zb M;have Y:=(dG _ _ _).1 J.2 j (Yh _) A;simp only[lu,XU,XY,kV,YF]at Y;rw[<-getElem!_pos z.sets[i]!.sigs j A];let⟨⟨⟨⟨⟨⟨N,a⟩,a3⟩,a4⟩,a5⟩,c⟩,_⟩:=Y;unfold i64;exact⟨N,om,om,om,om⟩
def RP(h:ak z=true){s:Sgd}(hs:s∈z.sets)(u : ∀g∈s.sigs,0<=g.sum/\g.sum<18446744073709551616):Ju s:=by let⟨J,Y⟩:=RO h hs;have m:=iE (lL h).apex;exact⟨(lL h).ok s hs,om,λg M=>by let⟨a,b,c,d,e⟩:=Y g M;exact⟨by rw[a];omega,b,c,d,e,u g M⟩⟩
def ZcM(h:ak z=true)(u:MX z):ZcD z:=by have m:=iE (lL h).apex;have a:=(lL h).len;exact⟨om,om,λs N=>RP h N (u s N)⟩
def Us{n:Int}(h:iB n=true):i64 n:=by simp only[iB,XU,XY]at h;unfold i64;omega
def Zh7{q:Qst}(h:ku q=true):RI q:=by have J:=iE (yB h);simp only[ku,XU,kV]at h;exact⟨om,om⟩
def Znx{y:Zon}(h:eY z x=(y,0))(u:Gi x):ZcH x:=by obtain⟨rfl,k⟩:=Ru h;have m:=Ap.1 k.dok;have a:=iE m.apex;have J:=m.dlen;have Y:=m.plen;exact⟨om,Us m.frm,Us m.too,om,λq K=>Zh7 (m.dok q K),om,λs N=>RP k.new (Ww.2 (.inr N)) (u s N)⟩
def Uf(h:ak z=true){s:Sgd}(hs:s∈z.sets):(jv s).length<=1700:=by
 let⟨J,Y⟩:=RO h hs;have m:=iE (lL h).apex;have p:=Kc ((lL h).ok s hs);have a:=Ep (f:=o7) (n:=101) (l:=s.sigs) λg M=>by have:=(Y g M).1;simp only[o7,dC,X3,YI,j4,this];omega
 simp only[jv,X3,YI,jd];omega
def Znz{y:Zon}(h:eY z x=(y,0)):(il x).length<=100+x.drop.length*62+x.put.length*1700:=by
 obtain⟨rfl,k⟩:=Ru h;have m:=Ap.1 k.dok;have a:=iE m.apex;have J:=Ep (f:=xh) (n:=62) (l:=x.drop) λq K=>by have:=iE (yB (m.dok q K));simp only[xh,dC,X3,YI,Zw];omega
 have Y:=Ep (f:=jv) (n:=1700) (l:=x.put) λs N=>Uf k.new (Ww.2 (.inr N));simp only[il,mF,dC,X3,YI,j4,jd];omega
def ZcN(h:ak z=true):(lg z).length<=100+z.sets.length*1700:=by have m:=iE (lL h).apex;have Y:=Ep (f:=jv) (n:=1700) (l:=z.sets) λs N=>Uf h N;simp only[lg,mF,dC,X3,YI,jd];omega
def vv{α:Type}(f:RS->α×RS)(a:α->Nat)(ok:α->Prop):Prop:=∀n:RS,(f n).2.2=false->n.2=false/\n.1.length=a (f n).1+(f n).2.1.length/\ok (f n).1
theorem P6(k:Nat):vv (cB k) (λ_=>k) (λs=>s.length=k):=by
 intro n h;cases N:n.2 with
 | true=>rw[yj (.inl N)]at h;cases h
 | false =>
  by_cases X:k<=n.1.length
  .
   rw[take_ok N X];refine⟨rfl,?_,?_⟩
   . show n.1.length=k+(n.1.drop k).length;rw[Yw];omega
   show(n.1.take k).length=k;rw[YO];omega
  rw[yj (.inr (by omega))]at h;cases h
def LD(k:Nat):vv (au k) (λ_=>k) (λu=>u<18446744073709551616):=by intro n h;let⟨J,Y,_⟩:=P6 k n h;exact⟨J,Y,V4 _⟩
def PY:vv (au 1) (λ_=>1) (λu=>u<18446744073709551616):=LD 1
def Zmi:vv (au 2) (λ_=>2) (λu=>u<18446744073709551616):=LD 2
def Zav:vv (au 4) (λ_=>4) (λu=>u<18446744073709551616):=LD 4
def El:vv (au 8) (λ_=>8) (λu=>u<18446744073709551616):=LD 8
def P5:vv bY (λt=>(dC t).length) (λ_=>True):=by intro n h;let⟨J,Y,A⟩:=P6 (au 1 n).1 (au 1 n).2 h;let⟨a,U,_⟩:=PY n J;refine⟨a,?_,trivial⟩;have e:(bY n).1.length=(au 1 n).1:=A;have O:(au 1 n).2.1.length=(au 1 n).1+(bY n).2.1.length:=Y;show n.1.length=(bY n).1.length+1+_;have c:n.1.length=1+(au 1 n).2.1.length:=U;omega
def RF(g:RSig):Prop:=0<=g.sum/\g.sum<18446744073709551616
theorem TZ(g:RSig):(o7 g).length=(dC g.zone).length+40:=by simp only[o7,X3,j4]
def Zmj:vv nO (λg=>(o7 g).length) RF:=by intro n h;let⟨J,N,o⟩:=El _ h;let⟨Y,a,_⟩:=El _ J;let⟨A,w,_⟩:=El _ Y;let⟨c,f,_⟩:=El _ A;let⟨U,y,_⟩:=El _ c;let⟨W,j,_⟩:=P5 _ U;have k:(nO n).1.sum=(((au 8 (au 8 (au 8 (au 8 (au 8 (bY n).2).2).2).2).2).1:Nat):Int):=rfl;refine⟨W,?_,by unfold RF;rw[k];omega⟩;show n.1.length=(o7 (nO n).1).length+(nO n).2.1.length;rw[TZ];show n.1.length=(dC (bY n).1).length+40+_;have m:(nO n).2.1.length=(au 8 (au 8 (au 8 (au 8 (au 8 (bY n).2).2).2).2).2).2.1.length:=rfl;dsimp only at N a w f y j;rw[m];omega
def pg{α:Type}(f:RS->α×RS):Nat->List α->RS->List α×RS
 | 0,out,n=>(out,n)
 | k+1,out,n=>if n.2 then(out,n)else pg f k (out++[(f n).1]) (f n).2
theorem LF{α:Type}{f:RS->α×RS}{c:α->Nat}{ok:α->Prop}(a:vv f c ok):∀(k:Nat)(out:List α)(st:RS),(pg f k out st).2.2=false ->
  st.2=false /\ ∃l,(pg f k out st).1=out++l/\st.1.length=(l.map c).sum+(pg f k out st).2.1.length/\(∀x∈l,ok x)
 | 0,out,st,h=>⟨h,[],by simp[pg],by simp[pg],λx E=>by cases E⟩
 | k+1,out,st,h=>by
  unfold pg at h ⊢;split at h
  . rename_i q;rw[q]at h;cases h
  rename_i q;rw[XV q];let⟨J,l,Y,A,g⟩:=LF a k _ _ h;let⟨U,W,j⟩:=a st J;refine⟨U,(f st).1::l,by rw[Y];simp,?_,λx E=>?_⟩
  . rw[W,A];simp;omega
  rcases Yl.1 E with e|e
  . subst e;exact j
  exact g x e
theorem J8 : ∀(k:Nat)(out:List RSig)(st:RS),lV k out st=pg nO k out st
 | 0,_,_=>rfl
 | k+1,out,st=>by unfold lV pg;rw[J8 k]
theorem J9 : ∀(k:Nat)(out:List Sgd)(st:RS),mK k out st=pg jD k out st
 | 0,_,_=>rfl
 | k+1,out,st=>by unfold mK pg;rw[J9 k]
theorem GZ : ∀(k:Nat)(out:List Qst)(st:RS),qj k out st=pg tV k out st
 | 0,_,_=>rfl
 | k+1,out,st=>by unfold qj pg;rw[GZ k]
theorem L8{α:Type}(f:α->Str):∀l:List α,(l.flatMap f).length=(l.map λx=>(f x).length).sum
 | []=>rfl
 | x::l=>by rw[ZU,X3,X7,List.sum_cons,L8 f l]
def SgdS(s:Sgd):Prop:=∀g∈s.sigs,RF g
def Zmk:vv jD (λs=>(jv s).length) SgdS:=by
 intro n h;have h:(lV (au 1 (iV n).2).1 [] (au 1 (iV n).2).2).2.2=false:=h;rw[J8]at h;let⟨J,l,Y,A,k⟩:=LF Zmj _ _ _ h;let⟨U,W,_⟩:=PY _ J;have g:(jB (lF n).1).2=0:=by apply YW;intro q;unfold iV at U;rw[XV q]at U;cases U
 have O:iV n=((jB (lF n).1).1,(lF n).2):=by unfold iV;rw[X0 g]
 rw[O]at U;let⟨m,T,V⟩:=P6 (au 2 n).1 (au 2 n).2 U;let⟨a,f,_⟩:=Zmi n m;have p:=(Zo1 g).2;have j:(jD n).1=⟨(jB (lF n).1).1,l⟩:=by show(⟨(iV n).1,(lV (au 1 (iV n).2).1 [] (au 1 (iV n).2).2).1⟩:Sgd)=_;rw[J8,Y,O];rfl
 have o:(jD n).2=(pg nO (au 1 (iV n).2).1 [] (au 1 (iV n).2).2).2:=by show(lV (au 1 (iV n).2).1 [] (au 1 (iV n).2).2).2=_;rw[J8]
 refine⟨a,?_,by rw[j];exact k⟩;rw[j,o];show n.1.length=(iH (lv (jB (lF n).1).1).length 2++lv (jB (lF n).1).1++jS l.length::l.flatMap o7).length+_;rw[p];simp only[X3,YI,jd,L8];have G:(lF n).1.length=(au 2 n).1:=V;have c:(au 2 n).2.1.length=(au 2 n).1+(lF n).2.1.length:=T;have r:n.1.length=2+(au 2 n).2.1.length:=f;have t:(iV n).2.1.length=1+(au 1 (iV n).2).2.1.length:=W;have u:(iV n).2.1.length=(lF n).2.1.length:=by rw[O]
 omega
def SgdsS(l:List Sgd):Prop:=∀s∈l,SgdS s
theorem Zf8(l:List Sgd):(mF l).length=4+(l.map λs=>(jv s).length).sum:=by simp only[mF,X3,jd,L8]
def Zml:vv nP (λl=>(mF l).length) SgdsS:=by
 intro n h;have h:(mK (au 4 n).1 [] (au 4 n).2).2.2=false:=h;rw[J9]at h;let⟨J,l,Y,A,c⟩:=LF Zmk _ _ _ h;let⟨U,W,_⟩:=Zav _ J;have a:(nP n).1=l:=by show(mK (au 4 n).1 [] (au 4 n).2).1=l;rw[J9,Y];rfl
 have f:(nP n).2=(pg jD (au 4 n).1 [] (au 4 n).2).2:=by show(mK (au 4 n).1 [] (au 4 n).2).2=_;rw[J9]
 refine⟨U,?_,by rw[a];exact c⟩;rw[a,f];show n.1.length=(mF l).length+_;rw[Zf8];have g:n.1.length=4+(au 4 n).2.1.length:=W;omega
def Zmm:vv tV (λq=>(xh q).length) (λ_=>True):=by intro n h;let⟨J,Y,A⟩:=PY (bY n).2 h;let⟨a,U,_⟩:=P5 n J;refine⟨a,?_,trivial⟩;dsimp only at Y U;show n.1.length=(dC (bY n).1++[_]).length+(au 1 (bY n).2).2.1.length;rw[X3,List.length_singleton];have k:(bY n).2.1.length=1+(au 1 (bY n).2).2.1.length:=Y;omega
def Zmn:vv fU (λd=>(il d).length) Gi:=by
 intro n h;let⟨J,N,a⟩:=Zml _ h;rw[GZ]at J N;let⟨Y,l,c,o,_⟩:=LF Zmm _ _ _ J;let⟨A,w,_⟩:=Zav _ Y;let⟨f,p,_⟩:=El _ A;let⟨U,y,_⟩:=El _ f;let⟨W,r,_⟩:=P5 _ U;refine⟨W,?_,a⟩;have g:(fU n).1.drop=l:=by show(qj _ [] _).1=l;rw[GZ,c];rfl
 have j:(il (fU n).1).length=(dC (bY n).1).length+20+(l.map λx=>(xh x).length).sum+(mF (fU n).1.put).length:=by unfold il;rw[g];simp only[X3,j4,jd,L8];show(dC (bY n).1).length+8+8+4+_+_=_;omega
 dsimp only at *
 rw[j];have k:(fU n).2.1.length=(nP (pg tV (au 4 (au 8 (au 8 (bY n).2).2).2).1 [] (au 4 (au 8 (au 8 (bY n).2).2).2).2).2).2.1.length:=by rw[<-GZ];rfl
 have m:(mF (fU n).1.put).length=(mF (nP (pg tV (au 4 (au 8 (au 8 (bY n).2).2).2).1 [] (au 4 (au 8 (au 8 (bY n).2).2).2).2).2).1).length:=by rw[<-GZ];rfl
 rw[k,m];omega
def ZhM{d:aM}(h:Bg w=some d):(il d).length=w.length/\Gi d:=by
 unfold Bg at h;split at h
 . cases h
 rename_i q;cases h;unfold iM at q;simp only[Yc,XY,not_or,Bool.not_eq_true]at q;let⟨_,Y,A⟩:=Zmn (w,false) q.1;exact⟨by dsimp only at Y;omega,A⟩
def yC(w:Str):Zon:=if(lD (w,false)).2.2=true then dQ else(lD (w,false)).1
def tL(w:Str):aM:=if(fU (w,false)).2.2=true then sS else(fU (w,false)).1
def Na:D->Value
 | .v x=>x
 | _=>undef
@[go_sem]theorem val1_v(x:Value):Na (.v x)=x:=rfl
def isE:Value->Bool
 | .nilIface=>false
 | _=>true
def vg.d(o:vg):List D:=.l (o.whole.map bD) :: .i o.size::(o.saved.d++o.all.d)
def OJ:vg:=⟨[],0,none,none⟩
def xu(d:eQ):vg:=(iX d).getD OJ
@[go_sem]theorem cnt_d(c:eT):c.d=[.v (.bool c.isSome),.v (.string (bs (c.getD dQ).apex)),.l ((c.getD dQ).sets.map Sgd.d)]:=rfl
def mkC(b:Bool)(z:Zon):eT:=if b then some z else none
@[go_sem]theorem mkC_c(c:eT):mkC c.isSome (c.getD dQ)=c:=by cases c<;>rfl
@[go_sem]theorem cnt1_agg{b:Bool}{s:ByteArray}{f:Bool}{rows:List (List D)}:cnt1 (.agg [.v (.bool b),.v (.string s),.list f rows])=mkC b (aC (.agg [.v (.string s),.list f rows])):=by cases b<;>rfl
attribute [go_sem] Option.isSome_some Option.isSome_none Option.getD_some Option.getD_none
def dsk_d(x:eQ):x.d=[.l (x.safe.map bD),.l (x.pend.map jL)]:=rfl
def dsk1_agg{f g:Bool}{rows a:List (List D)}:pO (.agg [.list f rows,.list g a])=⟨gu (.list f rows),KG (.list g a)⟩:=rfl
attribute[go_sem]dsk_d dsk1_agg
@[go_sem]theorem ZqE{f:Bool}:KG (.list f (l.map jL))=l:=lG (f:=jL) (g:=ofBy) (λx=>by show gu (.l (x.map bD))=x;exact Zo3) l
@[go_sem]theorem opn_d(o:vg):o.d=[.l (o.whole.map bD),.i o.size,.v (.bool o.saved.isSome),.v (.string (bs (o.saved.getD dQ).apex)),.l ((o.saved.getD dQ).sets.map Sgd.d),.v (.bool o.all.isSome),.v (.string (bs (o.all.getD dQ).apex)),.l ((o.all.getD dQ).sets.map Sgd.d)]:=rfl
@[go_sem]theorem Zjk:aQ (l.map jL)=true:=by
 induction l with
 | nil=>rfl
 | cons x l k=>simp[go_sem,jL,aQ,aX,D.nr,k]
@[go_sem]theorem dsk_eta(x:eQ):(⟨x.safe,x.pend⟩:eQ)=x:=rfl
def Zay(k:Nat)(b:Str):(bU k b).2.length<=b.length/\(bU k b).1<=b.length:=by
 rcases Qf k b with e|⟨m,J,Y,A⟩
 . rw[e];exact⟨Yh _,Yh _⟩
 rw[A,YO,Yw];dsimp only;omega
theorem VT(h:iM (lD (w,false)).2=false):Fh w=some (yC w):=by unfold Fh yC;rw[XV (by rw[h];simp)];unfold iM at h;simp only[Yg]at h;rw[XV (by rw[h.1];simp)]
theorem OL(h:iM (fU (w,false)).2=false):Bg w=some (tL w):=by unfold Bg tL;rw[XV (by rw[h];simp)];unfold iM at h;simp only[Yg]at h;rw[XV (by rw[h.1];simp)]
theorem Zjx(h:(bU 1 w).1=0\/iM (lD ((bU 1 w).2,false)).2=true\/ak (yC (bU 1 w).2)=false):nextF none w=(none,0):=by
 refine Ho ?_;show wY w=none;unfold wY;by_cases p:(bU 1 w).1=0
 . rw[X0 p]
 rw[XV p];cases t:iM (lD ((bU 1 w).2,false)).2 with
 | true =>
  have:Fh (bU 1 w).2=none:=by unfold Fh;rw[X0 t]
  simp only[this]
 | false =>
  simp only[VT t];rcases h with h|h|h
  . exact absurd h p
  . rw[t]at h;cases h
  rw[XV (by rw[h];simp)]
def Zjw(h0:(bU 1 w).1≠0)(h1:iM (lD ((bU 1 w).2,false)).2=false)(h2:ak (yC (bU 1 w).2)=true):nextF none w=(some (yC (bU 1 w).2),(bU 1 w).1):=by refine OZ ?_;show wY w=_;unfold wY;rw[XV h0];simp only[VT h1];rw[X0 h2]
def ZjC(h:(bU 2 w).1=0):nextF (some z) w=(some z,0):=by refine Ho ?_;show o6 z w=none;unfold o6;rw[X0 h]
def ZjA(h:iM (fU ((bU 2 w).2,false)).2=true):nextF (some z) w=(some z,0):=by
 refine Ho ?_;show o6 z w=none;unfold o6;split
 . rfl
 have:Bg (bU 2 w).2=none:=by unfold Bg;rw[X0 h]
 simp only[this]
def ZjB(h1:iM (fU ((bU 2 w).2,false)).2=false)(h:(eY z (tL (bU 2 w).2)).2≠0):nextF (some z) w=(some z,0):=by
 refine Ho ?_;show o6 z w=none;unfold o6;split
 . rfl
 simp only[OL h1];rw[XV h]
def Zjz(h0:(bU 2 w).1≠0)(h1:iM (fU ((bU 2 w).2,false)).2=false)(h:(eY z (tL (bU 2 w).2)).2=0):nextF (some z) w=(some (eY z (tL (bU 2 w).2)).1,(bU 2 w).1):=by refine OZ ?_;show o6 z w=_;unfold o6;rw[XV h0];simp only[OL h1];rw[X0 h]
theorem L9{α:Type}{f:α->Str}{n:Nat}:∀{l:List α},(∀x∈l,n<=(f x).length)->l.length*n<=(l.flatMap f).length
 | [],_=>by simp
 | x::l,h=>by rw[ZU,X3,YI,Zn,Nat.one_mul];have J:=h x (by simp);have Y:=L9 (f:=f) (n:=n) (l:=l) λy o=>h y (by simp[o]);omega
theorem ZjX{α:Type}{f:α->Str}{l:List α}{x:α}(h:x∈l):(f x).length<=(l.flatMap f).length:=by
 induction l with
 | nil=>cases h
 | cons y l k =>
  rw[ZU,X3];rcases Yl.1 h with e|e
  . subst e;omega
  have:=k e;omega
def Zf7{l:List Sgd}(h:(mF l).length<=1000000):cZ l:=by
 have e:(mF l).length=4+(l.flatMap jv).length:=by simp only[mF,X3,jd]
 have J:=L9 (f:=jv) (n:=1) (l:=l) λs _=>by simp[jv];omega
 refine Qs om λs N=>?_;have Y:=ZjX (f:=jv) N;have A:=L9 (f:=o7) (n:=40) (l:=s.sigs) λg _=>by rw[TZ];omega
 have a:=L9 (f:=uY) (n:=16) (l:=s.set.data) λd _=>by simp[uY,j4]
 have U:(jv s).length=2+(lv s.set).length+1+(s.sigs.flatMap o7).length:=by simp only[jv,X3,YI,jd];omega
 have W:(s.set.data.flatMap uY).length<=(lv s.set).length:=by simp only[lv,X3,YI];omega
 exact Zf2 om om
def Zij(a:w.length<=1000000)(h:iM (fU (w,false)).2=false):cZ (tL w).put:=by
 let⟨J,_⟩:=ZhM (OL h);refine Zf7 ?_;have:(mF (tL w).put).length<=(il (tL w)).length:=by simp only[il,X3];omega
 omega
theorem Wt(c:eT)(w:Str):(stepC c w=none/\nextF c w=(c,0)) \/ ∃y n,stepC c w=some (y,n)/\nextF c w=(some y,n)/\0<n/\n<=w.length:=by
 cases h:stepC c w with
 | none=>exact .inl ⟨rfl,Ho h⟩
 | some x =>
  let⟨y,n⟩:=x;let⟨J,Y⟩:=JP h;exact .inr ⟨y,n,rfl,OZ h,Y,J⟩
def Jw(w:Str)(a:Nat)(c:eT):Prop:=a<=w.length/\rD (qP w)=a+rD (fr c (w.drop a))/\mq w=FD c (fr c (w.drop a))
def Zbg(w:Str):Jw w 0 none:=by
 refine⟨Yh _,?_,?_⟩
 . rw[X4,Nat.zero_add];rfl
 rw[X4,Zdb];rfl
def Zbf{a n:Nat}{y:Zon}(h:Jw w a c)(hs:stepC c (w.drop a)=some (y,n)):Jw w (a+n) (some y):=by let⟨J,Y,A⟩:=h;have f:=(JP hs).1;rw[Yw]at f;rw[ZaF hs,ZO]at Y A;rw[Tg]at Y;rw[ZkD]at A;exact⟨om,by dsimp only at Y;omega,A⟩
def Znu{a:Nat}(h:Jw w a c)(hs:stepC c (w.drop a)=none):rD (qP w)=a/\mq w=c:=by let⟨J,Y,A⟩:=h;rw[Qk hs]at Y A;exact⟨Y,A⟩
def Dm(c:eT)(l:List Str)(k:Nat):Option eT:=rQ c (l.take k)
def Oy{a:eT}(h:Dm c l k=some a)(hk:k<l.length):Dm c l (k+1)=if(nextF a l[k]!).2≠0/\(nextF a l[k]!).2=l[k]!.length then some (nextF a l[k]!).1 else none:=by
 unfold Dm at h ⊢;rw[Zp,Ox,h];have e:l[k]?.toList=[l[k]!]:=by simp[hk,getElem!_pos]
 rw[e];rfl
def VB(h:Dm c l k=none):rQ c l=none:=by rw[<-Zj k l,Ox,show rQ c (l.take k)=none from h];rfl
def ZiB:Dm c l l.length=rQ c l:=by unfold Dm;rw[Yt]
def Zb6(hk:k<l.length):(fG (l.take (k+1))).length=(fG (l.take k)).length+l[k]!.length:=by rw[Zb7 hk,X3]
def ZoU(k:Nat):(fG (l.take k)).length<=(fG l).length:=by
 conv=>rhs;rw[<-Zj k l,ZoW,X3]
 omega
@[go_sem]theorem wkr_byR:dB (l.map jL)=l.map jL:=by
 induction l with
 | nil=>rfl
 | cons x l k =>
  rw[X7];show dA (jL x)::dB (l.map jL)=_;rw[k];have:dA (jL x)=jL x:=by simp[jL,dA,go_sem]
  rw[this]
@[go_sem]theorem all_byR:(∀r∈l.map jL,r.length=1)=True:=by apply eq_true;intro r O;obtain⟨x,_,rfl⟩:=Yp.1 O;rfl
def ZiT{d:eQ}(h1:d.safe.length<=1000000)(h2:d.pend.length<=200)(h:rQ (mq d.safe) d.pend=some c):iX d=some ⟨uK d.safe,(uK d.safe).length+(fG d.pend).length,mq d.safe,c⟩:=by unfold iX;rw[XV (by omega),h]
def VO{d:eQ}(h:rQ (mq d.safe) d.pend=none):iX d=none:=by
 unfold iX;split
 . rfl
 rw[h]
def ZiU{d:eQ}(h:1000000<d.safe.length\/200<d.pend.length):iX d=none:=by unfold iX;rw[X0 h]
structure sV(d:eQ):Prop where
 pend : ∀p∈d.pend,p.length<=1000000
 safe:d.safe.length<=1000000000
 many:d.pend.length<=1000000
theorem sV.at{d:eQ}(h:sV d)(hk:k<d.pend.length):d.pend[k]!.length<=1000000:=by rw[getElem!_pos d.pend k hk];exact h.pend _ (Yz hk)
theorem Ra{d:eQ}(h:sV d)(k:Nat)(h2:d.pend.length<=200):(fG (d.pend.take k)).length<=200000000:=by
 have O : ∀l:List Str,(∀p∈l,p.length<=1000000)->(fG l).length<=l.length*1000000:=by
  intro l;induction l with
  | nil=>intro _;simp[fG]
  | cons p l a =>
   intro F;have J:=F p (by simp);have h2:=a λq K=>F q (by simp[K]);rw[ZoV,X3,YI];omega
 have:=O (d.pend.take k) λp F=>h.pend p (List.mem_of_mem_take F);rw[YO]at this;omega
def Zlg{d:aM}(h:fO d=false):uj d d=(sS,1):=by unfold uj;rw[X0 (.inl h)]
def Zlf{d:aM}(h:fO d=true):uj d d=(sS,23):=by have m:=Ap.1 h;have N:d.too≠d.frm:=Rn m.bef m.too;unfold uj;rw[XV o1A,X0 (.inl N)]
def P9{n:Nat}(h:n<l.length):(l.map jL).getD n []=[.l (l[n]!.map bD)]:=by simp[List.getD,h,jL,getElem!_pos]
end Go.Jn
namespace Go.Zon
open Go.DL Go.Str Go.Rec Go.Cmp
variable{f:Bool}{i k n:Nat}{l:List Zon}{p:Nat->Bool}{rows:List (List D)}{z:Zon}
structure gD where
 has:Bool
 zone:Zon
 seen:Int
 deriving Inhabited,DecidableEq
structure Off where
 full:Bool
 zone:Zon
 deltas:List aM
 deriving Inhabited,DecidableEq
def kK(n:Int):List D:=[.i n]
def kK.of:List D->Int
 | [.v (.int _ n)]=>n
 | _=>0
def boD(b:Bool):List D:=[.b b]
def boD.of:List D->Bool
 | [.v (.bool b)]=>b
 | _=>false
def gD.d(x:gD):List D:=[.b x.has,.v (.string (bs x.zone.apex)),.l (x.zone.sets.map Sgd.d),.i x.seen]
def gD.of:List D->gD
 | [.v (.bool b),.v (.string s),.list _ r,.v (.int _ n)]=>⟨b,⟨s.data.toList,r.map Sgd.of⟩,n⟩
 | _=>default
def Off.d(x:Off):List D:=[.b x.full,.v (.string (bs x.zone.apex)),.l (x.zone.sets.map Sgd.d),.l (x.deltas.map aM.d)]
def Off.of:List D->Off
 | [.v (.bool b),.v (.string s),.list _ r,.list _ q]=>⟨b,⟨s.data.toList,r.map Sgd.of⟩,q.map aM.of⟩
 | _=>default
def uF:D->gD:=pV gD.of default
def xy:D->Off:=pV Off.of default
def Zbh:D->List aM:=xC aM.of
def nD:D->List Zon:=xC Zon.of
attribute [go_sem] gD.d Off.d
def Zi0(x:Zon):Zon.of x.d=x:=by simp[Zon.of,Zon.d,mh,lG Fu]
@[go_sem]theorem ZrD{l:List aM}:Zbh (.list f (l.map aM.d))=l:=lG Zi1 l
@[go_sem]theorem ZcL:nD (.list f (l.map Zon.d))=l:=lG Zi0 l
def sec1_agg{s:ByteArray}{b:Bool}{k:IntKind}{n:Int}:uF (.agg [.v (.bool b),.v (.string s),.list f rows,.v (.int k n)])=⟨b,⟨s.data.toList,eZ (.list f rows)⟩,n⟩:=rfl
def off1_agg{s:ByteArray}{a b:Bool}{q:List (List D)}:xy (.agg [.v (.bool b),.v (.string s),.list f rows,.list a q])=⟨b,⟨s.data.toList,eZ (.list f rows)⟩,Zbh (.list a q)⟩:=rfl
def sec_eta{x:gD}:(⟨x.has,x.zone,x.seen⟩:gD)=x:=rfl
def off_eta{x:Off}:(⟨x.full,x.zone,x.deltas⟩:Off)=x:=rfl
attribute[go_sem]sec1_agg off1_agg sec_eta off_eta
def yS(h:n<l.length):(l.map Zon.d).getD n []=[.v (.string (bs l[n]!.apex)),.l (l[n]!.sets.map Sgd.d)]:=by simp[List.getD,h,Zon.d,getElem!_pos]
def LH{l:List aM}(h:n<l.length):(l.map aM.d).getD n []=[.v (.string (bs l[n]!.apex)),.i l[n]!.frm,.i l[n]!.too,.l (l[n]!.drop.map Qst.d),.l (l[n]!.put.map Sgd.d)]:=by simp[List.getD,h,aM.d,getElem!_pos]
@[go_sem]theorem V8:aQ (l.map Zon.d)=true:=by
 induction l with
 | nil=>rfl
 | cons x l k=>simp only[X7,aQ,k,Zon.d,aX,D.nr,Dy];rfl
@[go_sem]theorem Zjh{l:List aM}:aQ (l.map aM.d)=true:=by
 induction l with
 | nil=>rfl
 | cons x l k=>simp only[X7,aQ,k,aM.d,aX,D.nr,Dy,We];rfl
@[go_sem]theorem V9{l:List Int}:aQ (l.map kK)=true:=by
 induction l with
 | nil=>rfl
 | cons x l k=>simp only[X7,aQ,k,kK,aX,D.nr];rfl
@[go_sem]theorem wkr_zon:dB (l.map Zon.d)=l.map Zon.d:=by
 induction l with
 | nil=>rfl
 | cons x l k=>simp only[X7,dB,k,Zon.d,dA,wk,R3]
@[go_sem]theorem wkr_dlt{l:List aM}:dB (l.map aM.d)=l.map aM.d:=by
 induction l with
 | nil=>rfl
 | cons x l k=>simp only[X7,dB,k,aM.d,dA,wk,R3,Zc3]
@[go_sem]theorem wkr_zint{l:List Int}:dB (l.map kK)=l.map kK:=by
 induction l with
 | nil=>rfl
 | cons x l k=>simp only[X7,dB,k,kK,dA,wk]
def yx:gD:=⟨false,dQ,0⟩
def Fs:Off:=⟨false,dQ,[]⟩
def DC(z:Zon):Bool:=decide (z.apex=[])&&decide (z.sets.length=0)
def mG(s:gD):Bool:=decide (0<=s.seen)&&decide (s.seen<=10000000)&&(if s.has then ak s.zone else DC s.zone)
def yE(o:Off)(i:Nat):Bool:=fO o.deltas[i]! && (decide (i=0)||(decide (o.deltas[i]!.apex=o.deltas[i-1]!.apex)&&decide (o.deltas[i]!.frm=o.deltas[i-1]!.too)))
def kR(o:Off):Bool:=if o.full then ak o.zone&&decide (o.deltas.length=0)else DC o.zone&&decide (o.deltas.length<=20000)&&ax o.deltas.length (yE o) 0
def vC(l:List Zon)(i:Nat):Bool:=ak l[i]! && decide (l[i]!.apex=l[0]!.apex)
def w9(l:List Zon)(i:Nat):Bool:=decide (i=0)||gX (aL l[i-1]!) (aL l[i]!)
def uA(l:List Zon):Bool:=ax l.length (vC l) 0&&ax l.length (w9 l) 0
def vB(l:List Zon):List Int×Bool:=if uA l then(l.map aL,true)else([],false)
def rX(p:Nat->Bool):Nat->Int
 | 0=>-1
 | k+1=>if p k then k else rX p k
def Ce(l:List Zon)(has:Bool)(n:Int):Int:=if has then rX (λi=>decide (aL l[i]! = n)) l.length else -1
def qU(l:List Zon)(i:Nat):aM:=(lJ l[i]! l[i+1]!).1
def jW(l:List Zon)(f k:Nat):List aM:=(List.range' f k).map (qU l)
def Bt(l:List Zon)(f:Int):Off:=if f<0 then⟨true,l[l.length-1]!,[]⟩else⟨false,dQ,jW l f.toNat (l.length-1-f.toNat)⟩
def ko(l:List Zon)(has:Bool)(n:Int):Off×Int :=
 if 20000<l.length\/(has=true/\(n<0\/65536<=n))then(Fs,1)else if uA l=false then(Fs,1)else if l.length=0 then(Fs,4)else(Bt l (Ce l has n),0)
def sJ(s:gD)(z:Zon):Int:=if s.has=false then 0 else if aL s.zone=aL z then(if s.zone=z then 0 else 35)else if gX (aL s.zone) (aL z)then 0 else 23
def oG(z:Zon)(l:List aM):Nat->Zon×Int
 | 0=>(z,0)
 | k+1=>if(oG z l k).2≠0 then oG z l k else eY (oG z l k).1 l[k]!
def ql(o:Off):Str×Bool:=if o.full then(o.zone.apex,true)else if 0<o.deltas.length then(o.deltas[0]!.apex,true)else([],false)
def lm(s:gD)(o:Off)(t:Int):gD×Int :=
 if mG s=false\/kR o=false\/t<s.seen\/10000000<t then(yx,1)else if s.has=true/\(ql o).2=true/\(ql o).1≠s.zone.apex then(yx,1)else
 if s.has=false/\o.full=false then(yx,6)else
 if o.full=true then(if sJ s o.zone≠0 then(yx,sJ s o.zone)else(⟨true,o.zone,t⟩,0))else
 if(oG s.zone o.deltas o.deltas.length).2≠0 then(yx,(oG s.zone o.deltas o.deltas.length).2)else(⟨true,(oG s.zone o.deltas o.deltas.length).1,t⟩,0)
def zG(s:gD):Int:=if s.has then aL s.zone else 0
def o9(s:gD)(l:List Zon)(t:Int):gD×Int :=
 if mG s=false then(yx,1)else if(ko l s.has (zG s)).2≠0 then(yx,(ko l s.has (zG s)).2)else lm s (ko l s.has (zG s)).1 t
theorem ZnJ(l:List Zon)(f k:Nat):jW l f (k+1)=jW l f k++[qU l (f+k)]:=by unfold jW;rw[List.range'_concat,Yv];simp
theorem Cq(l:List Zon)(f k:Nat):(jW l f k).length=k:=by simp[jW]
theorem I9{f:Nat}(h:i<k):(jW l f k)[i]! = qU l (f+i):=by rw[getElem!_pos _ i (by rw[Cq];exact h)];simp[jW]
def lstIx_0:rX p 0 = -1:=rfl
def difTo_0{f:Nat}:jW l f 0=[]:=rfl
attribute[go_sem]lstIx_0 difTo_0
def WP(h:p k=true):rX p (k+1)=k:=by simp[rX,h]
theorem WQ(h:p k=false):rX p (k+1)=rX p k:=by simp[rX,h]
theorem Pe(p:Nat->Bool):∀n,(rX p n = -1 /\ ∀i,i<n->p i=false) \/ ∃k,rX p n=(k:Nat)/\k<n/\p k=true /\ ∀i,k<i->i<n->p i=false
 | 0=>.inl ⟨rfl,λi h=>by omega⟩
 | n+1=>by
  cases h:p n with
  | true=>exact .inr ⟨n,WP h,om,h,λi h1 Y=>by omega⟩
  | false =>
   rw[WQ h];rcases Pe p n with⟨e,k⟩|⟨k,e,h1,Y,h3⟩
   .
    refine .inl ⟨e,λi hi=>?_⟩;by_cases q:i=n
    . subst q;exact h
    exact k i om
   refine .inr ⟨k,e,om,Y,λi h4 U=>?_⟩;by_cases q:i=n
   . subst q;exact h
   exact h3 i h4 om
theorem ZpB{l:List aM}(h:(oG z l k).2≠0):oG z l (k+1)=oG z l k:=X0 h
theorem Rw{l:List aM}(h:(oG z l k).2=0):oG z l (k+1)=eY (oG z l k).1 l[k]! := XV (λq=>q h)
theorem Zcu{z:Zon}{l:List aM}{k:Nat}(h:(oG z l k).2≠0):∀n,k<=n->oG z l n=oG z l k
 | 0,f=>by rw[show k=0 from by omega]
 | n+1,f=>by
  by_cases e:k=n+1
  . rw[e]
  have a:=Zcu h n (by omega);rw[ZpB (by rw[a];exact h),a]
structure pX(l:List Zon):Prop where
 ok : ∀i,i<l.length->ak l[i]! = true
 apex : ∀i,i<l.length->l[i]!.apex=l[0]!.apex
 bef : ∀i,i+1<l.length->gX (aL l[i]!) (aL l[i+1]!)=true
def M6:uA l=true↔pX l:=by
 unfold uA;rw[XU,dG,dG];have u : ∀i,vC l i=true↔(ak l[i]! = true/\l[i]!.apex=l[0]!.apex):=by intro i;simp[vC]
 have N : ∀i,w9 l i=true↔(i=0\/gX (aL l[i-1]!) (aL l[i]!)=true):=by intro i;simp[w9]
 constructor
 . rintro⟨J,Y⟩;exact⟨λi hi=>((u i).1 (J i (Yh _) hi)).1,λi hi=>((u i).1 (J i (Yh _) hi)).2,λi hi=>by simpa using((N (i+1)).1 (Y (i+1) (Yh _) hi)).resolve_left om⟩
 intro h;refine⟨λi _ hi=>(u i).2 ⟨h.ok i hi,h.apex i hi⟩,λi _ hi=>(N i).2 ?_⟩;by_cases e:i=0
 . exact .inl e
 right;have:=h.bef (i-1) om;rwa [show i-1+1=i from by omega]at this
def pX.diff(h:pX l)(hi:i+1<l.length):lJ l[i]! l[i+1]! = (dD l[i]! l[i+1]!,0) :=
 ZnH (h.ok i om) (h.ok _ hi) ((h.apex i om).trans (h.apex _ hi).symm) (h.bef i hi)
def pX.apply(h:pX l)(hi:i+1<l.length):eY l[i]! (qU l i)=(l[i+1]!,0):=by unfold qU;rw[h.diff hi];exact Zpp (h.ok i om) (h.ok _ hi) ((h.apex i om).trans (h.apex _ hi).symm) (h.bef i hi)
theorem pX.app{l:List Zon}(h:pX l){f n:Nat}(hn:f+n+1<=l.length):∀k,k<=n->oG l[f]! (jW l f n) k=(l[f+k]!,0)
 | 0,_=>rfl
 | k+1,X=>by have a:=h.app hn k (by omega);rw[Rw (by rw[a]),a,I9 (by omega)];exact h.apply om
def pX.dok(h:pX l)(hi:i+1<l.length):qU l i=dD l[i]! l[i+1]! /\ fO (qU l i)=true:=by
 have e:qU l i=dD l[i]! l[i+1]! := by unfold qU;rw[h.diff hi]
 exact⟨e,by rw[e];exact Ap.2 (ZbB (h.ok i (by omega)) (h.ok _ hi) ((h.apex i (by omega)).trans (h.apex _ hi).symm) (h.bef i hi))⟩
theorem pX.off(h:pX l)(a:l.length<=20000){f:Nat}(hn:f+n+1<=l.length):kR ⟨false,dQ,jW l f n⟩=true:=by
 unfold kR;rw[XV (by simp)];simp only[XU,XY,Cq];refine⟨⟨rfl,om⟩,(dG _ _ _).2 λi _ hi=>?_⟩;unfold yE;simp only[XU,Yc,XY];rw[I9 hi];refine⟨(h.dok om).2,?_⟩;by_cases e:i=0
 . exact .inl e
 right;rw[I9 (by omega:i-1<n),(h.dok (i:=f+i) (by omega)).1,(h.dok (i:=f+(i-1)) (by omega)).1,show f+(i-1)+1=f+i from by omega];exact⟨(h.apex _ om).trans (h.apex _ om).symm,rfl⟩
def Ux{s:gD}(hs:s.has=true):mG s=true↔(0<=s.seen/\s.seen<=10000000)/\ak s.zone=true:=by unfold mG;rw[X0 hs];simp
theorem ZgK:mG yx=true:=by decide
def Zig(h:pX l)(o:l.length<=20000){f:Nat}(a:f<l.length){s:gD}(hs:mG s=true)(hh:s.has=true)(hz:s.zone=l[f]!)(u : ∀i,f<i->i<l.length->aL l[i]! ≠ aL l[f]!){t:Int}(h1:s.seen<=t)(h2:t<=10000000) :
  ko l true (aL s.zone)=(⟨false,dQ,jW l f (l.length-1-f)⟩,0)/\lm s ⟨false,dQ,jW l f (l.length-1-f)⟩ t=(⟨true,l[l.length-1]!,t⟩,0)/\o9 s l t=(⟨true,l[l.length-1]!,t⟩,0):=by
 have p:=M6.2 h;have g:=h.ok f a;have r:iB (aL l[f]!)=true:=A7 g;have E:rX (λi=>decide (aL l[i]! = aL l[f]!)) l.length=f:=by
  rcases Pe (λi=>decide (aL l[i]! = aL l[f]!)) l.length with⟨_,k⟩|⟨k,e,G,c,v⟩
  . exact absurd (k f a) (by simp)
  rw[e];have : ¬k<f:=λq=>by have:=v f q a;simp at this
  have : ¬f<k:=λq=>u k q G (YP c);omega
 have e:ko l true (aL s.zone)=(⟨false,dQ,jW l f (l.length-1-f)⟩,0):=by unfold ko;rw[hz,XV (by simp only[iB,XU,XY]at r;rintro (q|⟨_,q|q⟩)<;>omega),XV (by simp[p]),XV (by omega)];unfold Ce;rw[X0 rfl,E];unfold Bt;rw[XV (by omega)];simp
 have w:=h.off o (f:=f) (n:=l.length-1-f) (by omega);have m:=h.app (f:=f) (n:=l.length-1-f) (by omega) _ (XW _);rw[show f+(l.length-1-f)=l.length-1 from by omega]at m;have j:lm s ⟨false,dQ,jW l f (l.length-1-f)⟩ t=(⟨true,l[l.length-1]!,t⟩,0):=by
  unfold lm;rw[XV (by rw[hs,w];simp;omega),XV,XV (by simp[hh]),XV (by simp)]
  . simp only[Cq,hz,m];rw[XV (by simp)]
  rintro⟨_,A,Y⟩;unfold ql at A Y;rw[XV (by simp)]at A Y;by_cases q:0<(jW l f (l.length-1-f)).length
  . rw[X0 q]at Y;rw[Cq]at q;rw[I9 q,(h.dok (by omega)).1,hz]at Y;exact Y rfl
  rw[XV q]at A;cases A
 refine⟨e,j,?_⟩;unfold o9;rw[XV (by rw[hs];simp),show zG s=aL s.zone from X0 hh,hh,e,XV (by simp)];exact j
variable{s:gD}
def XH{d:aM}(h:fO d=false):uj d d=(sS,1):=by unfold uj;rw[X0 (.inl h)]
def XG{d:aM}(h:fO d=true):uj d d=(sS,23):=by unfold uj;rw[XV o1A,X0];have m:=Ap.1 h;exact .inl (Rn m.bef m.too)
def pX.difv(h:pX l)(hi:i+1<l.length):lJ l[i]! l[i+1]! = (qU l i,0):=by rw[(h.dok hi).1];exact h.diff hi
def fOrT(b:Bool):b=false\/b=true:=by cases b<;>simp
theorem intq:((n:Int)==0)=decide (n=0):=by rw[YD];simp
theorem Zjp(z:Zon):(z.apex==[]&&((z.sets.length:Int)==0))=DC z:=by unfold DC;rw[intq];cases z.apex<;>simp
theorem ZgS(a b:Sgd):(a.set.name==b.set.name&&a.set.ty==b.set.ty&&a.set.life==b.set.life&&kX a.set.data b.set.data&&yV a.sigs b.sigs)=lT a b:=by let⟨⟨N,c,a3,a4⟩,a5⟩:=a;let⟨⟨f,g,h,j⟩,k⟩:=b;rw[YD];simp[lT,kX,yV,and_assoc]
theorem ZcP(a b:Zon):(a.apex==b.apex&&rJ a.sets b.sets)=nJ a b:=by let⟨N,c⟩:=a;let⟨f,g⟩:=b;rw[YD];simp[nJ,rJ]
def P7(h:n<l.length):((l.map aL).map kK).getD n []=[.i (aL l[n]!)]:=by simp[List.getD,h,kK,getElem!_pos]
theorem M7(h:uA l=true):vB l=(l.map aL,true):=by unfold vB;rw[X0 h]
theorem Sk(h:uA l=false):vB l=([],false):=by unfold vB;rw[XV o2B]
theorem Zdj(h1:ax l.length (vC l) 0=true)(h2:ax l.length (w9 l) 0=true):vB l=(l.map aL,true):=M7 (by unfold uA;rw[h1,h2];rfl)
theorem Sj(h:ax l.length (vC l) 0=false\/ax l.length (w9 l) 0=false):vB l=([],false):=Sk (by unfold uA;rcases h with h|h<;>rw[h]<;>simp)
def IU(l:List Zon)(b:Bool)(n:Int):Ce l b n<(l.length:Int)\/l.length=0:=by
 unfold Ce;split
 .
  rcases Pe (λi=>decide (aL l[i]! = n)) l.length with⟨e,_⟩|⟨k,e,h,_⟩
  . rw[e];omega
  rw[e];omega
 omega
def NU(h:mG s=true)(hh:s.has=true):ak s.zone=true:=((Ux hh).1 h).2
def ZiY{o:Off}(h:kR o=true)(a:o.full=true):ak o.zone=true:=by unfold kR at h;rw[X0 a,XU]at h;exact h.1
def ZiZ{o:Off}(h:kR o=true):o.deltas.length<=20000:=by
 unfold kR at h;split at h
 . simp only[XU,XY]at h;omega
 simp only[XU,XY]at h;exact h.1.2
def Zgg{b:Bool}{n:Int}{x:Off}{e:Int}(h:ko l b n=(x,e)):∀i,i<x.deltas.length->cZ x.deltas[i]!.put:=by
 intro i hi;unfold ko at h
 repeat' split at h
 . cases h;simp[Fs]at hi
 . cases h;simp[Fs]at hi
 . cases h;simp[Fs]at hi
 rename_i B W k;cases h;have u:=M6.1 (by simpa using W:uA l=true);unfold Bt at hi ⊢;split
 . rename_i q;rw[X0 q]at hi;simp at hi
 rename_i q;rw[XV q]at hi;have K:=IU l b n;simp only[Cq]at hi;rw[I9 hi,(u.dok (by omega)).1];exact Vj (rA (u.ok _ om))
section
variable {s : gD} {o : Off} {t : Int} (p1 : ¬(mG s = false \/ kR o = false \/ t < s.seen \/ 10000000 < t)) (p2 : ¬(s.has = true /\ (ql o).2 = true /\ (ql o).1 ≠ s.zone.apex)) (p3 : ¬(s.has = false /\ o.full = false))
include p1 p2 p3
end
def MZ:D->List Zon
 | .eptr [x]=>nD x
 | _=>[]
@[go_sem]theorem zonsc1_e{x:D}:MZ (.eptr [x])=nD x:=rfl
theorem take_ok{o:Off}{t:Int}{x:gD}(h:lm s o t=(x,0)):mG s=true/\kR o=true/\s.seen<=t/\t<=10000000:=by
 unfold lm at h;split at h
 . cases h
 rename_i k;refine⟨?_,?_,?_,?_⟩
 . cases q:mG s with|true=>rfl|false=>exact absurd (.inl q) k
 . cases q:kR o with|true=>rfl|false=>exact absurd (.inr (.inl q)) k
 . exact Int.not_lt.1 λq=>k (.inr (.inr (.inl q)))
 exact Int.not_lt.1 λq=>k (.inr (.inr (.inr q)))
theorem Zmy(hh:s.has=true)(h:z=s.zone):sJ s z=0:=by unfold sJ;rw[XV (by simp[hh]),h,X0 rfl,X0 rfl]
theorem ZmA(hh:s.has=true)(h:gX (aL s.zone) (aL z)=true):sJ s z=0:=by unfold sJ;rw[XV (by simp[hh]),XV (by intro e;rw[e]at h;unfold gX at h;simp at h),X0 h]
theorem ZmB(hh:s.has=true)(h:aL s.zone=aL z)(hn:z≠s.zone):sJ s z=35:=by unfold sJ;rw[XV (by simp[hh]),X0 h,XV λq=>hn q.symm]
theorem Zmz(hh:s.has=true)(h:aL s.zone≠aL z)(p:gX (aL s.zone) (aL z)=false):sJ s z=23:=by unfold sJ;rw[XV (by simp[hh]),XV h,XV (by simp[p])]
def take_none(hz:ak z=true){t:Int}(h1:0<=t)(h2:t<=10000000):lm yx ⟨true,z,[]⟩ t=(⟨true,z,t⟩,0):=by
 have a:kR ⟨true,z,[]⟩=true:=by unfold kR;rw[X0 rfl,hz];rfl
 unfold lm;rw[XV (by rw[ZgK,a];rintro (q|q|q|q);cases q;cases q;exact absurd q (by show ¬t<0;omega);omega),XV (by rintro⟨q,_⟩;cases q),XV (by rintro⟨_,q⟩;cases q),X0 rfl,XV (by rw[show sJ yx z=0 from rfl];exact λq=>q rfl)]
variable{x:Sgd}{y:Zon}
structure Chg where
 kind:Int
 set:RSet
 deriving Inhabited,DecidableEq
structure Upd where
 needs:List Chg
 chgs:List Chg
 deriving Inhabited,DecidableEq
def Chg.q(c:Chg):Qst:=⟨c.set.name,c.set.ty⟩
def Chg.d(x:Chg):List D:=[.i x.kind,.v (.string (bs x.set.name)),.i x.set.ty,.i x.set.life,.l (x.set.data.map Dat.d)]
def Chg.of:List D->Chg
 | [.v (.int _ k),.v (.string s),.v (.int _ t),.v (.int _ l),.list _ V]=>⟨k,⟨s.data.toList,t,l,V.map Dat.of⟩⟩
 | _=>default
def Upd.d(x:Upd):List D:=[.l (x.needs.map Chg.d),.l (x.chgs.map Chg.d)]
def Upd.of:List D->Upd
 | [.list _ a,.list _ b]=>⟨a.map Chg.of,b.map Chg.of⟩
 | _=>default
def Ay:D->Chg:=pV Chg.of default
def EB:D->List Chg:=xC Chg.of
def CK:D->Upd:=pV Upd.of default
attribute [go_sem] Chg.d Upd.d
def Zi2(x:Chg):Chg.of x.d=x:=by simp[Chg.of,Chg.d,mh,lG G9]
@[go_sem]theorem Zr7{l:List Chg}:EB (.list f (l.map Chg.d))=l:=lG Zi2 l
def Zr6:EB (.list f [])=[]:=rfl
def chg1_agg{s:ByteArray}{k t l:Int}{k1 k2 Y:IntKind}:Ay (.agg [.v (.int k1 k),.v (.string s),.v (.int k2 t),.v (.int Y l),.list f rows])=⟨k,⟨s.data.toList,t,l,pQ (.list f rows)⟩⟩:=rfl
def upd1_agg{c:Bool}{a b:List (List D)}:CK (.agg [.list f a,.list c b])=⟨EB (.list f a),EB (.list c b)⟩:=rfl
def chg_eta{x:Chg}:(⟨x.kind,x.set⟩:Chg)=x:=rfl
def upd_eta{x:Upd}:(⟨x.needs,x.chgs⟩:Upd)=x:=rfl
attribute[go_sem]Zr6 chg1_agg upd1_agg chg_eta upd_eta
def FX{l:List Chg}(h:n<l.length):(l.map Chg.d).getD n []=[.i l[n]!.kind,.v (.string (bs l[n]!.set.name)),.i l[n]!.set.ty,.i l[n]!.set.life,.l (l[n]!.set.data.map Dat.d)]:=by simp[List.getD,h,Chg.d,getElem!_pos]
@[go_sem]theorem Zjj{l:List Chg}:aQ (l.map Chg.d)=true:=by
 induction l with
 | nil=>rfl
 | cons x l k=>simp only[X7,aQ,k,Chg.d,aX,D.nr,mM];rfl
@[go_sem]theorem Zc5{l:List Chg}:dB (l.map Chg.d)=l.map Chg.d:=by
 induction l with
 | nil=>rfl
 | cons x l k=>simp only[X7,dB,k,Chg.d,wk,dA,qb]
@[go_sem]theorem all_chg{l:List Chg}:(∀r∈l.map Chg.d,r.length=5)=True:=by apply eq_true;intro r O;obtain⟨x,_,rfl⟩:=Yp.1 O;rfl
def jg(n:Chg):Bool:=ai n.set.name&&(if n.kind=1\/n.kind=2 then true else if n.kind=3\/n.kind=4 then aP n.set.ty 1 8 else if n.kind=5 then fw n.set else false)
def gp(c:Chg):Bool:=ai c.set.name&&(if c.kind=1\/c.kind=2 then fw c.set && !decide (c.set.ty=8)else if c.kind=3 then aP c.set.ty 1 8 else decide (c.kind=4))
def j6(u:Upd):Bool:=decide (u.needs.length<=20)&&decide (u.chgs.length<=20)&&ax u.needs.length (λi=>jg u.needs[i]!) 0&&ax u.chgs.length (λi=>gp u.chgs[i]!) 0
def zJ(l:List Sgd)(i:Nat):Bool:=!(decide (0<l[i]!.sigs.length)||decide (l[i]!.set.ty=8))
def jQ(z:Zon):Bool:=ax z.sets.length (zJ z.sets) 0
def notAt(l:List Sgd)(n:Str)(i:Nat):Bool:=!(l[i]!.set.name==n)
def KV(z:Zon)(n:Str):Bool:=!ax z.sets.length (notAt z.sets n) 0
def holdB(z:Zon)(n:Chg):Bool :=
 if n.kind=1 then KV z n.set.name else if n.kind=2 then !KV z n.set.name else
 if n.kind=4 then decide (dV z.sets n.q<0)else decide (0<=dV z.sets n.q)&&(decide (n.kind=3)||decide (z.sets[(dV z.sets n.q).toNat]!.set.data=n.set.data))
def qw:List Dat->List Dat->List Dat
 | [],b=>b
 | x::a,[]=>x::a
 | x::a,y::b=>if less x y then x::qw a (y::b)else if x=y then y::qw a b else y::qw (x::a) b
termination_by a b=>a.length+b.length
def DI(b:List Dat)(x:Dat):Nat->Bool
 | 0=>false
 | k+1=>DI b x k||decide (x=b[k]!)
def BF(a b:List Dat):Nat->List Dat
 | 0=>[]
 | k+1=>if DI b a[k]! b.length=true then BF a b k else BF a b k++[a[k]!]
def leftD(a b:List Dat):List Dat:=BF a b a.length
theorem WI(b:List Dat)(x:Dat):∀k,k<=b.length->(DI b x k=true↔x∈b.take k)
 | 0,_=>by simp[DI]
 | k+1,X=>by rw[nE! (by omega)];unfold DI;rw[Yc,WI b x k (by omega),XY,Yu,Yk]
theorem ZjY(b:List Dat)(x:Dat):DI b x b.length=decide (x∈b):=by rw[YD,WI b x _ (XW _),Yt,XY]
theorem Xd(a b:List Dat):∀k,k<=a.length->BF a b k=(a.take k).filter λx=>!decide (x∈b)
 | 0,_=>by simp[BF]
 | k+1,X=>by
  rw[nE! (by omega),List.filter_append,<-Xd a b k (by omega)];have e:BF a b (k+1)=if DI b a[k]! b.length=true then BF a b k else BF a b k++[a[k]!]:=rfl;rw[e,ZjY];generalize a[k]! = x
  by_cases h:x∈b<;>simp[h]
def Zky(a b:List Dat):leftD a b=a.filter λx=>!decide (x∈b):=by unfold leftD;rw[Xd a b _ (XW _),Yt]
theorem ZjQ(a:List Dat):qw a []=a:=by cases a<;>simp[qw]
theorem ZjR(b:List Dat):qw [] b=b:=by simp[qw]
theorem ZjP : ∀(n:Nat)(a b:List Dat),a.length+b.length<=n->j5 eD a->j5 eD b->j5 eD (qw a b) /\ ∀x,x∈qw a b↔x∈a\/x∈b:=by
 intro n;induction n with
 | zero =>
  intro a b h m p;cases a with
  | nil=>simp[qw];exact p
  | cons x a=>simp at h
 | succ n o =>
  intro a b h m p;cases a with
  | nil=>rw[ZjR];exact⟨p,λx=>by simp⟩
  | cons x a =>
   cases b with
   | nil=>rw[ZjQ];exact⟨m,λx=>by simp⟩
   | cons y b =>
    simp only[YI]at h;have c:=YJ.1 m;have f:=YJ.1 p;unfold qw;rw[Pi];split
    .
     rename_i g;have g:=YP g;let⟨J,Y⟩:=o a (y::b) (by simp;omega) c.2 p;refine⟨YJ.2 ⟨λz V=>?_,J⟩,λz=>?_⟩
     .
      rcases(Y z).1 V with k|k
      . exact c.1 z k
      rcases Yl.1 k with k|k
      . rw[k];exact g
      exact u6.le_lt (Int.le_of_lt g) (f.1 z k)
     simp only[List.mem_cons,Y];grind
    rename_i g;have g : ¬eD x y<0:=λk=>g (YB k);split
    .
     rename_i r;subst r;let⟨J,Y⟩:=o a b om c.2 f.2;refine⟨YJ.2 ⟨λz V=>?_,J⟩,λz=>?_⟩
     .
      rcases(Y z).1 V with k|k
      . exact c.1 z k
      exact f.1 z k
     simp only[List.mem_cons,Y];grind
    rename_i r;have j:eD y x<0:=by have A:=u6.anti x y;have t:eD x y≠0:=λe=>r (ZbA e);omega
    let⟨J,Y⟩:=o (x::a) b (by simp;omega) m f.2;refine⟨YJ.2 ⟨λz V=>?_,J⟩,λz=>?_⟩
    .
     rcases(Y z).1 V with k|k
     .
      rcases Yl.1 k with k|k
      . rw[k];exact j
      exact u6.le_lt (Int.le_of_lt j) (c.1 z k)
     exact f.1 z k
    simp only[List.mem_cons,Y];grind
def EP(s:Sgd):Bool->List Sgd->List Sgd
 | b,[]=>if b then[]else[s]
 | b,x::l=>(if 0<=mH x.set s.set/\b=false then[s]else[])++((if mH x.set s.set≠0 then[x]else[])++EP s (b||decide (0<=mH x.set s.set)) l)
def CF(z:Zon)(s:Sgd):Zon:=⟨z.apex,EP s false z.sets⟩
def RZ(z:Zon)(k:Nat):Zon:=⟨z.apex,z.sets.take k++z.sets.drop (k+1)⟩
def Bz(l:List Sgd)(n:Str):Nat->List Sgd
 | 0=>[]
 | k+1=>if l[k]!.set.name=n then Bz l n k else Bz l n k++[l[k]!]
def Fz(z:Zon)(c:Chg):Zon :=
 if c.kind=4 then⟨z.apex,Bz z.sets c.set.name z.sets.length⟩else
 if c.kind=1 then CF z ⟨{ c.set with data:=if 0<=dV z.sets c.q/\c.set.ty≠3/\c.set.ty≠4 then qw z.sets[(dV z.sets c.q).toNat]!.set.data c.set.data else c.set.data },[]⟩else
 if dV z.sets c.q<0 then z else
 if c.kind=2/\0<(leftD z.sets[(dV z.sets c.q).toNat]!.set.data c.set.data).length then CF z ⟨{ z.sets[(dV z.sets c.q).toNat]!.set with data:=leftD z.sets[(dV z.sets c.q).toNat]!.set.data c.set.data },[]⟩else
 RZ z (dV z.sets c.q).toNat
def zz(y:Zon)(c:Chg):Option Zon:=if(c.kind=4/\c.set.name=y.apex)\/ak (Fz y c)=false then none else some (Fz y c)
def u7(z:Zon)(l:List Chg):Nat->Option Zon
 | 0=>some z
 | k+1=>(u7 z l k).bind λy=>zz y l[k]!
def Aw(z:Zon)(l:List Chg):Option Zon:=u7 z l l.length
theorem Jk{z:Zon}{l:List Chg}{k:Nat}(h:u7 z l k=none):∀n,k<=n->u7 z l n=none
 | 0,f=>by rw[show k=0 from by omega]at h;exact h
 | n+1,f=>by
  by_cases e:k=n+1
  . rw[<-e];exact h
  show(u7 z l n).bind _=none;rw[Jk h n (by omega)];rfl
theorem Jj{l:List Chg}(h:u7 z l k=some y):u7 z l (k+1)=zz y l[k]! := by
 show(u7 z l k).bind _=_;rw[h];rfl
def yG(n:Int):Int:=(n+1) % 65536
def ZeU(z:Zon):Int:=dV z.sets ⟨z.apex,4⟩
def gG(z:Zon):Sgd:=z.sets[(ZeU z).toNat]!
def Rf(y:Zon):Zon:=CF y ⟨{ (gG y).set with data:=[⟨[],yG (gG y).set.data[0]!.n,(gG y).set.data[0]!.m⟩] },[]⟩
def xV(z y:Zon):Zon:=if nJ y z=false/\lT (gG y) (gG z)=true then Rf y else y
def kY(z:Zon)(l:List Chg):Bool:=!ax l.length (λi=>ig l[i]!.set.name z.apex) 0
def yH(z:Zon)(l:List Chg):Bool:=ax l.length (λi=>holdB z l[i]!) 0
def fH(z:Zon)(u:Upd):Zon×Int :=
 if ak z=false\/j6 u=false then(dQ,1)else if jQ z=false then(dQ,12)else if kY z u.needs=true\/kY z u.chgs=true then(dQ,20)else
 if yH z u.needs=false then(dQ,24)else match Aw z u.chgs with|none=>(dQ,6)|some y=>(xV z y,0)
structure nu(y z:Zon):Prop where
 apex:y.apex=z.apex
 len:y.sets.length=z.sets.length
 q : ∀i,i<z.sets.length->y.sets[i]!.q=z.sets[i]!.q
 sigs : ∀i,i<z.sets.length->y.sets[i]!.sigs=z.sets[i]!.sigs
 ok : ∀i,i<z.sets.length->fw y.sets[i]!.set=fw z.sets[i]!.set
theorem nu.nm(h:nu y z)(hi:i<z.sets.length):y.sets[i]!.set.name=z.sets[i]!.set.name:=congrArg Qst.name (h.q i hi)
theorem nu.ty(h:nu y z)(hi:i<z.sets.length):y.sets[i]!.set.ty=z.sets[i]!.set.ty:=congrArg Qst.ty (h.q i hi)
theorem Zko(h:nu y z)(p:Qst):∀n k,z.sets.length-k<=n->uk y.sets p k=uk z.sets p k:=by
 intro n;induction n with
 | zero=>intro k X;rw[xE,xE z.sets,XV (by rw[h.len];omega),XV (by omega)]
 | succ n a =>
  intro k X;rw[xE,xE z.sets,h.len];by_cases e:k<z.sets.length
  . rw[X0 e,X0 e,h.q k e,a (k+1) (by omega)]
  rw[XV e,XV e]
theorem WX(h:nu y z)(p:Qst):dV y.sets p=dV z.sets p:=Zko h p _ 0 (XW _)
theorem Zkm(h:nu y z):nQ y=nQ z:=by
 unfold nQ;rw[h.apex,h.len];congr 1;refine Js λi hi=>?_;have J:mH y.sets[i-1]!.set y.sets[i]!.set=mH z.sets[i-1]!.set z.sets[i]!.set:=by rw[Kz,Kz,h.q i hi,h.q (i-1) (by omega)]
 unfold vL;rw[h.ok i hi,h.nm hi,J]
theorem Zkk(h:nu y z):tq y=tq z:=by unfold tq;rw[WX h,WX h,h.apex,h.len];congr 1;refine Js λi hi=>?_;unfold oq;rw[h.nm hi,h.ty hi]
theorem WY{y z:Zon}(h:nu y z):∀k,k<=z.sets.length->iT y.sets k=iT z.sets k
 | 0,_=>rfl
 | k+1,X=>by unfold iT;rw[h.ty (by omega:k<_),h.nm (by omega:k<_),WY h k (by omega)]
theorem Zkl(h:nu y z):oZ y=oZ z:=by
 unfold oZ;rw[h.len];refine Js λi hi=>?_;have F:lC y.sets i=lC z.sets i:=by unfold lC;rw[h.nm hi,h.nm (by omega:i-1<_)]
 unfold kL;rw[F,h.ty hi,WY h (i+1) (by omega)]
theorem WU{y z:Zon}(h:nu y z):∀k,k<=z.sets.length->mf y k=mf z k
 | 0,_=>rfl
 | k+1,X=>by unfold mf;rw[h.ty (by omega:k<_),h.nm (by omega:k<_),WU h k (by omega),h.apex]
theorem Zkp(h:nu y z):cO y=cO z:=by unfold cO gW;rw[h.len,WU h _ (XW _)]
theorem WZ{y z:Zon}(h:nu y z)(hs:List Str):∀k,k<=z.sets.length->iJ hs y.sets k=iJ hs z.sets k
 | 0,_=>rfl
 | k+1,X=>by unfold iJ;rw[h.nm (by omega:k<_),WZ h hs k (by omega)]
theorem WV{y z:Zon}(h:nu y z)(hs:List Str):∀k,k<=z.sets.length->mZ hs y.sets k=mZ hs z.sets k
 | 0,_=>rfl
 | k+1,X=>by unfold mZ;rw[h.nm (by omega:k<_),WV h hs k (by omega),WZ h hs (k+1) X]
theorem WW(h:nu y z):gK y=gK z:=by unfold gK;rw[Zkp h,h.len,WV h _ _ (XW _)]
theorem Zkq(h:nu y z):uo y=uo z:=by unfold uo mg;rw[WW h,h.len];refine Js λi hi=>?_;simp only[cutAt,h.nm hi,h.ty hi]
theorem Zkr(h:nu y z):uX y=uX z:=by unfold uX;rw[WW h,h.len];refine Js λi hi=>?_;simp only[yT,sI,vX,h.ty hi,h.sigs i hi,h.apex]
theorem Zkn(h:nu y z):ak y=ak z:=by rw[uy,uy];unfold jA;rw[Zkm h,Zkk h,Zkl h,Zkq h,Zkr h]
def kw(l:List Sgd)(s:Sgd):List Sgd:=l.filter (λx=>decide (sp x s<0))++s::l.filter (λx=>decide (0<sp x s))
def Nms(l:List Sgd):Prop:=∀s∈l,ai s.set.name=true
theorem NC{s:Sgd}:sp x s=0↔x.q=s.q:=Bh
def JX(x s:Sgd):sp x s<0↔0<sp s x:=by have:=mY.anti x s;omega
def Ol{l:List Sgd}(h:fe l)(s:Sgd):fe (kw l s):=by
 unfold kw;refine Zh.2 ⟨h.filter _,YJ.2 ⟨λx E=>?_,h.filter _⟩,λx E y o=>?_⟩
 . have:=(Zq.1 E).2;exact(JX s x).2 (YP this)
 have E:=YP (Zq.1 E).2;rcases Yl.1 o with e|e
 . rw[e];exact E
 have o:=YP (Zq.1 e).2;exact mY.le_lt (Int.le_of_lt E) ((JX s y).2 o)
def Dg{l:List Sgd}{s:Sgd}:x∈kw l s↔x=s\/(x∈l/\x.q≠s.q):=by
 unfold kw;rw[Yu,Yl,Zq,Zq,XY,XY];have J:x.q≠s.q↔sp x s<0\/0<sp x s:=by rw[Ne,<-NC];omega
 rw[J];grind
theorem Zid{l:List Sgd}(h:fe l)(s:Sgd)(q:Qst):fB (kw l s) q=if s.q=q then some s else fB l q:=by
 by_cases e:s.q=q
 . rw[X0 e,<-e];exact vN (Ol h s) (Dg.2 (.inl rfl))
 rw[XV e];cases K:fB l q with
 | none =>
  refine Fx.2 λx E=>?_;rcases Dg.1 E with k|k
  . rw[k];exact e
  exact Fx.1 K x k.1
 | some x =>
  let⟨J,Y⟩:=zR K;rw[<-Y];exact vN (Ol h s) (Dg.2 (.inr ⟨J,by rw[Y];exact λk=>e k.symm⟩))
def U4{s:Sgd}(E:ai x.set.name=true)(hs:ai s.set.name=true):mH x.set s.set=sp x s:=by rw[Kz];exact Bi E hs
theorem R5{s:Sgd}(hs:ai s.set.name=true):∀{l:List Sgd},Nms l->EP s true l=l.filter λx=>!decide (sp x s=0)
 | [],_=>rfl
 | x::l,f=>by have J:=U4 (f x (by simp)) hs;have Y:=R5 hs (l:=l) (λy o=>f y (List.mem_cons_of_mem _ o));simp only[EP,Bool.true_or,J,Y];by_cases e:sp x s=0<;>simp[e]
theorem JE{s:Sgd}(hs:ai s.set.name=true):∀{l:List Sgd},Nms l->fe l->EP s false l=kw l s
 | [],_,_=>rfl
 | x::l,hn,t=>by
  have h1:=U4 (hn x (by simp)) hs;have c:Nms l:=λy o=>hn y (by simp[o]);have g:=YJ.1 t;simp only[EP,Bool.false_or,h1];by_cases e:sp x s<0
  .
   rw[YY (by omega),JE hs c g.2];have O : ¬(0<=sp x s):=by omega
   have j:sp x s≠0:=by omega
   have h : ¬0<sp x s:=by omega
   simp[kw,e,O,j,h]
  have a : ∀y∈l,0<sp y s:=λy o=>by
   have Y:=g.1 y o;have A:sp s x<=0:=by have:=mY.anti x s;omega
   exact(JX s y).1 (mY.le_lt A Y)
  have k:l.filter (λx=>decide (sp x s<0))=[]:=List.filter_eq_nil_iff.2 λy o=>by have:=a y o;simp;omega
  have m:l.filter (λx=>decide (0<sp x s))=l:=Y1.2 λy o=>YB (a y o);have n:l.filter (λx=>!decide (sp x s=0))=l:=Y1.2 λy o=>by have:=a y o;simp;omega
  have O:0<=sp x s:=by omega
  rw[YB O,R5 hs c,n];unfold kw;rw[List.filter_cons,List.filter_cons,k,m];by_cases f:sp x s=0
  . simp[f]
  have h:0<sp x s:=by omega
  simp[e,f,O,h]
theorem Vh{l:List Sgd}(s:Sgd):(kw l s).length<=l.length+1:=by
 unfold kw;have J : ∀l:List Sgd,(l.filter λx=>decide (sp x s<0)).length+(l.filter λx=>decide (0<sp x s)).length<=l.length:=by
  intro l;induction l with
  | nil=>simp
  | cons x l k =>
   rw[List.filter_cons,List.filter_cons];by_cases a:sp x s<0
   .
    have b : ¬0<sp x s:=by omega
    simp[a,b];omega
   by_cases b:0<sp x s<;>simp[a,b]<;>omega
 have:=J l;simp;omega
def Vg{A B:List Sgd}{s:Sgd}(hA : ∀x∈A,sp x s<0)(a : ∀x∈B,0<sp x s):kw (A++B) s=A++s::B:=by
 unfold kw;rw[List.filter_append,List.filter_append,Y1.2 λx E=>YB (hA x E),List.filter_eq_nil_iff.2 λx E=>(by have:=a x E;simp;omega : ¬decide (sp x s<0)=true),
  List.filter_eq_nil_iff.2 λx E=>(by have:=hA x E;simp;omega : ¬decide (0<sp x s)=true),Y1.2 λx E=>YB (a x E)]
 simp
def VJ{A B:List Sgd}{o:Sgd}(h:fe (A++o::B)):(∀x∈A,sp x o<0)/\(∀x∈B,0<sp x o)/\fe (A++B):=by unfold fe j5 at h ⊢;rw[Zh,YJ]at h;let⟨J,⟨a,c⟩,Y⟩:=h;exact⟨λx E=>Y x E o (by simp),λx E=>(JX o x).1 (a x E),Zh.2 ⟨J,c,λx E y f=>Y x E y (by simp[f])⟩⟩
def Zic{A B:List Sgd}{o s:Sgd}(h:fe (A++o::B))(hq:o.q=s.q):kw (A++o::B) s=A++s::B:=by
 let⟨J,Y,_⟩:=VJ h;have N : ∀x,sp x o=sp x s:=λx=>by unfold sp;rw[hq]
 have e:=Vg (s:=s) (λx E=>by rw[<-N];exact J x E) (λx E=>by rw[<-N];exact Y x E);rw[<-e];unfold kw;have p:sp o s=0:=NC.2 hq;simp[List.filter_append,List.filter_cons,p]
def Cr(l:List Sgd)(q:Qst):List Sgd:=l.filter λx=>!decide (x.q=q)
def ZnQ{l:List Sgd}{q:Qst}:x∈Cr l q↔x∈l/\x.q≠q:=by unfold Cr;rw[Zq];simp
def ZnP{A B:List Sgd}{o:Sgd}{q:Qst}(h:fe (A++o::B))(hq:o.q=q):Cr (A++o::B) q=A++B:=by let⟨J,Y,_⟩:=VJ h;have N : ∀x,sp x o≠0->x.q≠q:=λx k e=>k (NC.2 (e.trans hq.symm));unfold Cr;rw[List.filter_append,List.filter_cons,XV (by simp[hq]),Y1.2 λx E=>(by have:=N x (by have:=J x E;omega);simp[this]),Y1.2 λx E=>(by have:=N x (by have:=Y x E;omega);simp[this])]
def cut_at{α:Type}[Inhabited α]{l:List α}(hk:k<l.length):l=l.take k++l[k]! :: l.drop (k+1):=by rw[getElem!_pos l k hk,List.getElem_cons_drop,Zj]
theorem Vi{l:List Sgd}(h:fe l)(hk:k<l.length){s:Sgd}(hq:l[k]!.q=s.q):kw l s=l.take k++s::l.drop (k+1):=by
 have e:=cut_at hk;have I:=h;rw[e]at I
 conv=>lhs;rw[e]
 exact Zic I hq
theorem Zbp{l:List Sgd}(h:fe l)(hk:k<l.length){q:Qst}(hq:l[k]!.q=q):Cr l q=l.take k++l.drop (k+1):=by
 have e:=cut_at hk;have I:=h;rw[e]at I
 conv=>lhs;rw[e]
 exact ZnP I hq
theorem Zib{l:List Sgd}(h:fe l){s:Sgd}(hs:s∈l):kw l s=l:=by
 refine ZiP (Ol h s) h λq=>?_;rw[Zid h];split
 . rename_i e;rw[<-e];exact(vN h hs).symm
 rfl
def MK(o:Option Sgd)(c:Chg):List Dat:=match o with
 | some x=>if c.set.ty≠3/\c.set.ty≠4 then qw x.set.data c.set.data else c.set.data
 | none=>c.set.data
def kT(l:List Sgd)(c:Chg):List Sgd :=
 if c.kind=4 then l.filter (λx=>!decide (x.set.name=c.set.name))else
 if c.kind=1 then kw l ⟨{ c.set with data:=MK (fB l c.q) c },[]⟩else
 match fB l c.q with
 | none=>l
 | some o=>if c.kind=2/\leftD o.set.data c.set.data≠[]then kw l ⟨{ o.set with data:=leftD o.set.data c.set.data },[]⟩else Cr l c.q
theorem WC(l:List Sgd)(n:Str):∀k,k<=l.length->Bz l n k=(l.take k).filter λx=>!decide (x.set.name=n)
 | 0,_=>by simp[Bz]
 | k+1,X=>by
  rw[nE! (by omega),List.filter_append,<-WC l n k (by omega)];have e:Bz l n (k+1)=if l[k]!.set.name=n then Bz l n k else Bz l n k++[l[k]!]:=rfl;rw[e];generalize l[k]! = x
  by_cases h:x.set.name=n<;>simp[h]
theorem Pb(h:mi z){c:Chg}(j:ai c.set.name=true):Fz z c=⟨z.apex,kT z.sets c⟩:=by
 unfold Fz kT;by_cases Y:c.kind=4
 . rw[X0 Y,X0 Y,WC _ _ _ (XW _),Yt]
 rw[XV Y,XV Y];have M:=MR z.sets c.q;by_cases J:c.kind=1
 .
  rw[X0 J,X0 J];unfold CF;have m:(if 0<=dV z.sets c.q/\c.set.ty≠3/\c.set.ty≠4 then qw z.sets[(dV z.sets c.q).toNat]!.set.data c.set.data else c.set.data)=MK (fB z.sets c.q) c:=by
   rw[M];by_cases e:dV z.sets c.q<0
   . rw[X0 e,XV (by omega)];rfl
   rw[XV e];unfold MK;by_cases O:c.set.ty≠3/\c.set.ty≠4
   . rw[X0 ⟨om,O⟩];simp only[O,ne_eq,not_false_eq_true,and_self,Zm]
   rw[XV (λk=>O k.2)];simp only[XV O]
  rw[m,JE (by exact j) h.nms h.ord]
 rw[XV J,XV J,M];by_cases e:dV z.sets c.q<0
 . rw[X0 e,X0 e]
 rw[XV e,XV e];have K:(dV z.sets c.q).toNat<z.sets.length:=by have:=Rq z.sets c.q;omega
 have f:=Zco (show 0<=dV z.sets c.q by omega);have a:=Zbp h.ord K f;simp only;generalize z.sets[(dV z.sets c.q).toNat]! = o at f;by_cases O:c.kind=2/\leftD o.set.data c.set.data≠[]
 . rw[X0 ⟨O.1,Zl.2 O.2⟩,X0 O];unfold CF;rw[JE _ h.nms h.ord];have:o.set.name=c.set.name:=congrArg Qst.name f;show ai o.set.name=true;rw[this];exact j
 rw[XV (λk=>O ⟨k.1,Zl.1 k.2⟩),XV O];unfold RZ;rw[a]
structure dX(z:Zon):Prop where
 ok:ak z=true
 sig : ∀s∈z.sets,s.sigs=[]
 ty : ∀s∈z.sets,s.set.ty≠8
def Vq(z:Zon):jQ z=true↔∀s∈z.sets,s.sigs=[]/\s.set.ty≠8:=by
 unfold jQ;rw[dG,za];refine⟨λh i hi=>?_,λh i _ hi=>?_⟩
 . have:=h i (Yh _) hi;simp only[zJ,Ya,Yg,X6]at this;exact⟨Yb om,this.2⟩
 let⟨J,Y⟩:=h i hi;simp only[zJ,Ya,Yg,X6];exact⟨by rw[J];simp,Y⟩
def dX.mk'(h:ak z=true)(p:jQ z=true):dX z:=⟨h,λs N=>((Vq z).1 p s N).1,λs N=>((Vq z).1 p s N).2⟩
def dX.zo(h:dX z):mi z:=lL h.ok
def dX.ord(h:dX z):fe z.sets:=h.zo.ord
def sq(z:Zon):Qst:=⟨z.apex,4⟩
def Tq(h:ak z=true):fB z.sets (sq z)=some (gG z):=by
 have O:jA z=true:=by rw[<-uy];exact h
 have p:=GX O;have:=MR z.sets (sq z);rw[XV (by show ¬dV z.sets ⟨z.apex,4⟩<0;omega)]at this;exact this
theorem zB(h:ak z=true):gG z∈z.sets/\(gG z).q=sq z:=zR (Tq h)
theorem JQ(h:ak z=true):(gG z).set.data=[⟨[],dF z,(gG z).set.data[0]!.m⟩]/\0<=dF z/\dF z<=65535/\ve (gG z).set/\jX (gM 4) (gG z).set.data[0]! = true:=by
 have O:jA z=true:=by rw[<-uy];exact h
 let⟨J,Y⟩:=zB h;have N:ve (gG z).set:=(lL h).ok _ J;have n:(gG z).set.ty=4:=congrArg Qst.ty Y;have o:(gG z).set.data.length=1:=by have:=N.single;rw[n]at this;exact this rfl
 obtain⟨d,m⟩:∃d,(gG z).set.data=[d]:=by
  match hm:(gG z).set.data,o with
  | [d],_=>exact⟨d,rfl⟩
 have a:=N.dat d (by rw[m];simp);rw[n]at a;have f:dF z=d.n:=by show(gG z).set.data[0]!.n=d.n;rw[m];rfl
 have c:=Ku O;simp only[iB,XU,XY]at c;have g:d.t=[]:=by
  have V:jX (gM 4) d=true:=a;simp only[jX,XU]at V;have T:=V.2;have:zm (gM 4).text d.t=(d.t==[]):=by rfl
  rw[this]at T;simpa using T
 refine⟨?_,c.1,om,N,?_⟩
 . rw[m,f];show[d]=[⟨[],d.n,d.m⟩];rw[<-g]
 rw[m];exact a
def uB(z:Zon)(n:Int):Sgd:=⟨{ (gG z).set with data:=[⟨[],n,(gG z).set.data[0]!.m⟩] },[]⟩
def uz(z:Zon)(n:Int):Zon:=⟨z.apex,kw z.sets (uB z n)⟩
theorem Tu(h:ak z=true)(n:Int):(uB z n).q=sq z:=(zB h).2
def Zc9(h:ak z=true)(n:Int):CF z (uB z n)=uz z n:=by unfold CF uz;have V:=lL h;rw[JE (by show ai (gG z).set.name=true;exact V.nms _ (zB h).1) V.nms V.ord]
theorem Zca(h:ak z=true):Rf z=uz z (yG (dF z)):=Zc9 h _
theorem Ze2(h:ak z=true){n:Int}(h0:0<=n)(h1:n<=65535):fw (uB z n).set=true:=by
 let⟨e,_,_,N,m⟩:=JQ h;have f:(gG z).set.ty=4:=congrArg Qst.ty (zB h).2;have a:=(iA _).2 N;have c:jX (gM 4) ⟨[],n,(gG z).set.data[0]!.m⟩=true:=by
  rw[e]at m;have m:jX (gM 4) ⟨[],dF z,(gG z).set.data[0]!.m⟩=true:=m;simp only[jX,XU]at m ⊢;refine⟨⟨⟨?_,m.1.1.2⟩,?_⟩,m.2⟩
  . exact kV.2 ⟨h0,h1⟩
  rfl
 unfold uB;unfold fw at a ⊢;simp only[XU]at a ⊢;let⟨⟨⟨⟨⟨⟨g,j⟩,a3⟩,a4⟩,a5⟩,k⟩,o⟩:=a;refine⟨⟨⟨⟨⟨⟨g,j⟩,a3⟩,?_⟩,?_⟩,k⟩,?_⟩
 . rfl
 . rw[f];rfl
 rw[dG];intro i _ hi;have:i=0:=by simp at hi;omega
 subst this;unfold pR;rw[f];simp only[XU];exact⟨c,rfl⟩
theorem R6(h:dX z){n:Int}(h0:0<=n)(h1:n<=65535):nu (uz z n) z:=by
 let⟨c,f⟩:=zB h.ok;let⟨k,X,e⟩:=jh.1 c;have K:z.sets[k]!.q=(uB z n).q:=by rw[e,Tu h.ok];exact f
 have F:=Vi h.ord X K;have o:(uz z n).sets.length=z.sets.length:=by show(kw z.sets (uB z n)).length=_;rw[F];simp;omega
 have a : ∀i,i<z.sets.length->(uz z n).sets[i]! = if i=k then uB z n else z.sets[i]! := by
  intro i hi;show(kw z.sets (uB z n))[i]! = _;rw[F];have g:(z.sets.take k).length=k:=by simp;omega
  by_cases y:i=k
  . subst y;rw[X0 rfl,getElem!_pos _ i (by simp;omega),List.getElem_append_right (by omega)];simp[g]
  rw[XV y,getElem!_pos _ i (by simp;omega),getElem!_pos z.sets i hi];by_cases O:i<k
  . rw[List.getElem_append_left (by omega),List.getElem_take]
  rw[List.getElem_append_right (by omega)];obtain⟨j,rfl⟩:∃j,i=k+1+j:=⟨i-(k+1),om⟩;have m:k+1+j-(z.sets.take k).length=j+1:=by omega
  simp only[m,List.getElem_cons_succ,List.getElem_drop]
 refine⟨rfl,o,λi hi=>?_,λi hi=>?_,λi hi=>?_⟩<;>rw[a i hi]
 .
  split
  . rename_i y;rw[y,<-K]
  rfl
 .
  split
  . rename_i y;rw[y,h.sig _ (eO X)];rfl
  rfl
 split
 . rename_i y;rw[y,Ze2 h.ok h0 h1,(iA _).2 (h.zo.ok _ (eO X))]
 rfl
def Zc8(h:dX z){n:Int}(h0:0<=n)(h1:n<=65535):dX (uz z n):=by
 refine⟨by rw[Zkn (R6 h h0 h1)];exact h.ok,λs N=>?_,λs N=>?_⟩
 .
  rcases Dg.1 N with e|e
  . rw[e];rfl
  exact h.sig s e.1
 rcases Dg.1 N with e|e
 . rw[e];show(gG z).set.ty≠8;have a:(gG z).set.ty=4:=congrArg Qst.ty (zB h.ok).2;omega
 exact h.ty s e.1
theorem Ze1(h:dX z):uB z (dF z)=gG z:=by
 let⟨e,_⟩:=JQ h.ok;have N:=h.sig _ (zB h.ok).1;unfold uB;rw[<-e];cases E:gG z with
 | mk a b=>rw[E]at N;simp only at N;subst N;rfl
def Zc7(h:dX z):uz z (dF z)=z:=by unfold uz;rw[Ze1 h,Zib h.ord (zB h.ok).1]
theorem EC{c:Chg}(h:gp c=true):ai c.set.name=true:=by simp only[gp,XU]at h;exact h.1
def Q7{c:Chg}(h:gp c=true)(hk:c.kind=1\/c.kind=2):ve c.set/\c.set.ty≠8:=by simp only[gp,XU,X0 hk]at h;refine⟨(iA _).1 h.2.1,?_⟩;have:=h.2.2;simpa using this
theorem ZeI{w:Zon}{c:Chg}:zz y c=some w↔w=Fz y c/\ak w=true /\ ¬(c.kind=4/\c.set.name=y.apex):=by
 unfold zz;constructor
 .
  intro h;split at h
  . cases h
  rename_i f;cases h;refine⟨rfl,?_,λk=>f (.inl k)⟩;cases V:ak (Fz y c)with
  | true=>rfl
  | false=>exact absurd (.inr V) f
 rintro⟨rfl,Y,A⟩;rw[XV];rintro (k|k)
 . exact A k
 rw[Y]at k;cases k
def WN{l:List Sgd}(h:fe l){c:Chg}(E:x∈kT l c):x∈l\/(x.sigs=[]/\((c.kind=1/\x.set.ty=c.set.ty) \/ ∃o∈l,x.set.ty=o.set.ty)):=by
 unfold kT at E;split at E
 . exact .inl (Zq.1 E).1
 split at E
 .
  rename_i J;rcases Dg.1 E with e|e
  . exact .inr ⟨by rw[e],.inl ⟨J,by rw[e]⟩⟩
  exact .inl e.1
 split at E
 . exact .inl E
 rename_i o t;split at E
 .
  rcases Dg.1 E with e|e
  . exact .inr ⟨by rw[e],.inr ⟨o,(zR t).1,by rw[e]⟩⟩
  exact .inl e.1
 exact .inl (ZnQ.1 E).1
def Nw{w:Zon}{c:Chg}(a:dX y)(j:gp c=true)(h:zz y c=some w):dX w/\w=⟨y.apex,kT y.sets c⟩:=by
 let⟨J,Y,A⟩:=ZeI.1 h;have e:=Pb a.zo (EC j);rw[e]at J;refine⟨⟨Y,λs N=>?_,λs N=>?_⟩,J⟩
 .
  rw[J]at N;rcases WN a.ord N with k|k
  . exact a.sig s k
  exact k.1
 rw[J]at N;rcases WN a.ord N with k|⟨_,⟨G,f⟩|⟨o,G,f⟩⟩
 . exact a.ty s k
 . rw[f];exact(Q7 j (.inl G)).2
 rw[f];exact a.ty o G
theorem MM{z:Zon}{l:List Chg}(hz:dX z)(a : ∀c∈l,gp c=true):∀k y,k<=l.length->u7 z l k=some y->dX y/\y.apex=z.apex
 | 0,y,_,h=>by cases h;exact⟨hz,rfl⟩
 | k+1,y,X,h=>by
  cases e:u7 z l k with
  | none=>rw[Jk e (k+1) (by omega)]at h;cases h
  | some w =>
   let⟨J,Y⟩:=MM hz a k w om e;rw[Jj e]at h;let⟨A,f⟩:=Nw J (a _ (eO om)) h;exact⟨A,by rw[f];exact Y⟩
def Ws(n:Int):0<=yG n/\yG n<=65535:=by unfold yG;omega
def ZbO(o:dX y):∃m,0<=m/\m<=65535/\xV z y=uz y m:=by
 unfold xV;split
 . exact⟨_,(Ws _).1,(Ws _).2,Zca o.ok⟩
 let⟨_,J,Y,_⟩:=JQ o.ok;exact⟨dF y,J,Y,(Zc7 o).symm⟩
structure Made(z:Zon)(u:Upd)(y y0:Zon):Prop where
 pz:dX z
 pu:j6 u=true
 cut:kY z u.needs=false/\kY z u.chgs=false
 need:yH z u.needs=true
 step:Aw z u.chgs=some y0
 py:y=xV z y0
def Gs{u:Upd}(h:fH z u=(y,0)):∃a,Made z u y a:=by
 unfold fH at h;split at h
 . cases h
 rename_i J;split at h
 . cases h
 rename_i Y;split at h
 . cases h
 rename_i A;split at h
 . cases h
 rename_i c;split at h
 . cases h
 rename_i a U;have f:ak z=true:=by cases q:ak z with|true=>rfl|false=>exact absurd (.inl q) J
 have O:j6 u=true:=by cases q:j6 u with|true=>rfl|false=>exact absurd (.inr q) J
 have g:jQ z=true:=by cases q:jQ z with|true=>rfl|false=>exact absurd q Y
 have j:yH z u.needs=true:=by cases q:yH z u.needs with|true=>rfl|false=>exact absurd q c
 refine⟨a,.mk' f g,O,⟨?_,?_⟩,j,U,by cases h;rfl⟩
 . cases q:kY z u.needs with|false=>rfl|true=>exact absurd (.inl q) A
 cases q:kY z u.chgs with|false=>rfl|true=>exact absurd (.inr q) A
def Nb{u:Upd}(h:j6 u=true):∀c∈u.chgs,gp c=true:=by simp only[j6,XU]at h;exact za.2 λi hi=>(dG _ _ _).1 h.2 i (Yh _) hi
def Zdy{u:Upd}(h:j6 u=true):∀c∈u.needs,jg c=true:=by simp only[j6,XU]at h;exact za.2 λi hi=>(dG _ _ _).1 h.1.2 i (Yh _) hi
theorem Made.p0{a:Zon}{u:Upd}(h:Made z u y a):dX a/\a.apex=z.apex:=MM h.pz (Nb h.pu) _ _ (XW _) h.step
def Made.plain{a:Zon}{u:Upd}(h:Made z u y a):dX y/\y.apex=z.apex /\ ∃m,0<=m/\m<=65535/\y=uz a m:=by let⟨J,Y⟩:=h.p0;let⟨m,c,f,e⟩:=ZbO (z:=z) J;rw[h.py,e];exact⟨Zc8 J c f,Y,m,c,f,rfl⟩
theorem ZdA{u:Upd}{e:Int}(h:fH z u=(y,e))(J:e≠0):y=dQ:=by
 unfold fH at h;split at h
 . cases h;rfl
 split at h
 . cases h;rfl
 split at h
 . cases h;rfl
 split at h
 . cases h;rfl
 split at h
 . cases h;rfl
 cases h;exact absurd rfl J
end Go.Zon
namespace Go.Jn
open Go.DL Go.Str Go.Rec Go.Cmp Go.Zon
variable{f:Bool}{l:List Upd}{o:List Zon}{z:Zon}
def rzS(n:Int):List Sgd:=[⟨⟨[120],2,0,[⟨[97,46,110,115],0,0⟩]⟩,[]⟩,⟨⟨[120],4,0,[⟨[],n,0⟩]⟩,[]⟩]
def GM(l:List Int):RSet:=⟨[119,46,120],1,0,l.map λa=>⟨[],a,0⟩⟩
def gQ(n:Int)(l:List Int):Zon:=⟨[120],if 0<l.length then rzS n++[⟨GM l,[]⟩]else rzS n⟩
def yf(o:List Zon)(u:Upd):Option (List Zon) :=
 if(fH o[o.length-1]! u).2≠0\/(fH o[o.length-1]! u).1=o[o.length-1]! then some o
 else if ak (fH o[o.length-1]! u).1=false\/gX (dF o[o.length-1]!) (dF (fH o[o.length-1]! u).1)=false\/dF (fH o[o.length-1]! u).1∈o.map dF then none
 else some (o++[(fH o[o.length-1]! u).1])
def lN(z:Zon)(l:List Upd):Nat->Option (List Zon)
 | 0=>some [z]
 | k+1=>(lN z l k).bind λo=>yf o l[k]!
def mr(z:Zon)(l:List Upd):List Zon×Bool:=match lN z l l.length with
 | none=>([],false)
 | some o=>(o,true)
theorem M9{k:Nat}(h:lN z l k=none):∀n,k<=n->lN z l n=none:=by
 intro n;induction n with
 | zero=>intro X;rw[show(0:Nat)=k from by omega];exact h
 | succ n a =>
  intro X;by_cases e:k=n+1
  . rw[<-e];exact h
  show(lN z l n).bind _=none;rw[a (by omega)];rfl
theorem CG{k:Nat}(h:lN z l k=some o):lN z l (k+1)=yf o l[k]! := by
 show(lN z l k).bind _=_;rw[h];rfl
def yU(z:Zon)(l:List Upd):Bool:=xO z&&jA z&&jQ z&&decide (l.length<=6)&&ax l.length (λi=>decide (l[i]!.needs.length<=10)&&decide (l[i]!.chgs.length<=10)) 0
def Zka(l:List Sgd)(c:Chg):(kT l c).length<=l.length+1:=by
 unfold kT;split
 . have:=List.length_filter_le (λx:Sgd=>!decide (x.set.name=c.set.name)) l;omega
 split
 . exact Vh _
 split
 . omega
 split
 . exact Vh _
 have:=List.length_filter_le (λx:Sgd=>!decide (x.q=c.q)) l;unfold Cr;omega
theorem Zb5{z:Zon}{l:List Chg}(hz:dX z)(a : ∀c∈l,gp c=true):∀k y,k<=l.length->u7 z l k=some y->y.sets.length<=z.sets.length+k
 | 0,y,_,h=>by cases h;omega
 | k+1,y,X,h=>by
  cases e:u7 z l k with
  | none=>rw[Jk e (k+1) (by omega)]at h;cases h
  | some w =>
   have J:=Zb5 hz a k w (by omega) e;let⟨Y,_⟩:=MM hz a k w om e;rw[Jj e]at h;let⟨_,f⟩:=Nw Y (a _ (eO om)) h;have U:=Zka w.sets l[k]!;rw[f];show(kT w.sets l[k]!).length<=_;omega
def Zdz{y:Zon}{u:Upd}(h:fH z u=(y,0)):y.sets.length<=z.sets.length+u.chgs.length:=by let⟨f,m⟩:=Gs h;let⟨_,_,n,a,c,e⟩:=m.plain;have J:=Zb5 m.pz (Nb m.pu) _ _ (XW _) m.step;rw[e,(R6 m.p0.1 a c).len];exact J
theorem MS{α:Type}[Inhabited α]{o:List α}{y:α}{i:Nat}(h:i<o.length):(o++[y])[i]! = o[i]! := by
 rw[getElem!_pos (o++[y]) i (by simp;omega),getElem!_pos o i h,List.getElem_append_left h]
def Zpz{α:Type}[Inhabited α]{o:List α}{y:α}:(o++[y])[o.length]! = y:=by rw[getElem!_pos (o++[y]) o.length (by simp)];simp
structure zb(z:Zon)(o:List Zon):Prop where
 ne:0<o.length
 fst:o[0]! = z
 pl : ∀i,i<o.length->dX o[i]!
 ap : ∀i,i<o.length->o[i]!.apex=z.apex
 bf : ∀i,i+1<o.length->gX (dF o[i]!) (dF o[i+1]!)=true
 ds : ∀i k,k<i->i<o.length->dF o[i]! ≠ dF o[k]!
 sz : ∀i,i<o.length->o[i]!.sets.length<=100+10*i
theorem Zdl{p:List Zon}{u:Upd}(h:zb z o)(t:u.chgs.length<=10)(hs:yf o u=some p):zb z p/\p.length<=o.length+1:=by
 unfold yf at hs;split at hs
 . cases hs;exact⟨h,om⟩
 rename_i J;split at hs
 . cases hs
 rename_i Y;rcases c:fH o[o.length-1]! u with⟨y,e⟩
 rw[c]at J Y hs;simp only at J Y hs;obtain rfl:e=0:=YW λq=>J (.inl q);cases hs;let⟨v,m⟩:=Gs c;let⟨g,r,_⟩:=m.plain;have n:=Zdz c;have a:o.length-1<o.length:=by have:=h.ne;omega
 have f:gX (dF o[o.length-1]!) (dF y)=true:=by
  cases q:gX (dF o[o.length-1]!) (dF y)with
  | true=>rfl
  | false=>exact absurd (.inr (.inl q)) Y
 have j : ∀i,i<o.length->dF y≠dF o[i]! := λi hi q=>Y (.inr (.inr (Yp.2 ⟨o[i]!,eO hi,q.symm⟩)));have w:(o++[y]).length=o.length+1:=by simp
 have K : ∀i,i<o.length+1->(i<o.length/\(o++[y])[i]! = o[i]!)\/(i=o.length/\(o++[y])[i]! = y):=λi hi=>by
  by_cases q:i<o.length
  . exact .inl ⟨q,MS q⟩
  have:i=o.length:=by omega
  subst this;exact .inr ⟨rfl,Zpz⟩
 refine⟨⟨om,by rw[MS h.ne];exact h.fst,λi hi=>?_,λi hi=>?_,λi hi=>?_,λi k X hi=>?_,λi hi=>?_⟩,om⟩
 .
  rcases K i (by omega)with⟨q,e⟩|⟨q,e⟩<;>rw[e]
  . exact h.pl i q
  exact g
 .
  rcases K i (by omega)with⟨q,e⟩|⟨q,e⟩<;>rw[e]
  . exact h.ap i q
  rw[r];exact h.ap _ a
 .
  rcases K (i+1) (by omega)with⟨q,e⟩|⟨q,e⟩<;>rw[e,MS (by omega)]
  . exact h.bf i q
  rw[show i=o.length-1 from by omega];exact f
 .
  rcases K i (by omega)with⟨q,e⟩|⟨q,e⟩<;>rw[e,MS (by omega)]
  . exact h.ds i k X q
  exact j k om
 rcases K i (by omega)with⟨q,e⟩|⟨q,e⟩<;>rw[e]
 . exact h.sz i q
 have:=h.sz _ a;omega
def Zdm(hz:dX z)(h:z.sets.length<=100):zb z [z]:=by
 have e : ∀i,i<[z].length->[z][i]! = z:=λi hi=>by
  have:i=0:=by simp at hi;omega
  subst this;rfl
 refine⟨by simp,rfl,λi hi=>by rw[e i hi];exact hz,λi hi=>by rw[e i hi],λi hi=>by simp at hi,λi k X hi=>by simp at hi;omega,λi hi=>by rw[e i hi];omega⟩
theorem M8{z:Zon}{l:List Upd}(hz:dX z)(a:z.sets.length<=100)(j : ∀i,i<l.length->l[i]!.chgs.length<=10):∀k o,k<=l.length->lN z l k=some o->zb z o/\o.length<=k+1
 | 0,o,_,h=>by cases h;exact⟨Zdm hz a,by simp⟩
 | k+1,o,X,h=>by
  cases e:lN z l k with
  | none=>rw[M9 e (k+1) (by omega)]at h;cases h
  | some w =>
   let⟨J,Y⟩:=M8 hz a j k w om e;rw[CG e]at h;let⟨A,c⟩:=Zdl J (j k om) h;exact⟨A,om⟩
def zb.vers(h:zb z o):pX o:=by
 have N : ∀i,i<o.length->aL o[i]! = dF o[i]! := λi hi=>C8 (h.pl i hi).ok;refine⟨λi hi=>(h.pl i hi).ok,λi hi=>?_,λi hi=>?_⟩
 . rw[h.ap i hi,h.ap 0 h.ne]
 rw[N i (by omega),N _ hi];exact h.bf i hi
def zb.far(h:zb z o){f:Nat}(a:f<o.length):∀i,f<i->i<o.length->aL o[i]! ≠ aL o[f]! := λi hi c=>by rw[C8 (h.pl i c).ok,C8 (h.pl f a).ok];exact h.ds i f hi c
def Zio(h:dX z):MX z:=λs N g M=>by rw[h.sig s N]at M;cases M
def bnd:Nat->Int
 | 0=>100421
 | k+1=>bnd k+116651+10650*k
structure Beg(z:Zon)(d:eQ)(o:vg):Prop where
 op:iX d=some o
 wh:o.whole=d.safe
 al:o.all=some z
 pe:d.pend.length<=1
 sz:o.size<=100421
def CJ:D->List Upd:=xC Upd.of
def getD_upd{n:Nat}(h:n<l.length):(l.map Upd.d).getD n []=[.l (l[n]!.needs.map Chg.d),.l (l[n]!.chgs.map Chg.d)]:=by simp[List.getD,h,Upd.d,getElem!_pos]
@[go_sem]theorem nrr_upd:aQ (l.map Upd.d)=true:=by
 induction l with
 | nil=>rfl
 | cons x l k=>simp only[X7,aQ,k,Upd.d,aX,D.nr,Zjj];rfl
@[go_sem]theorem wkr_upd:dB (l.map Upd.d)=l.map Upd.d:=by
 induction l with
 | nil=>rfl
 | cons x l k=>simp only[X7,dB,k,Upd.d,wk,dA,Zc5]
def zV(m:List Int):List D:=m.flatMap λn=>[.i n,.b true]
theorem Lb(n:Int)(m:List Int):zV (n::m) = .i n :: .b true::zV m:=rfl
@[go_sem]theorem kvI_one{n:Int}:zV [n]=[.i n,.b true]:=rfl
def zS(m:List Int)(n:Int):Bool:=decide (n∈m)
theorem Xq{n:Int}:∀m:List Int,(iZ (zV m) (.v (.int .i64 n))).getD (.v (.bool false)) = .v (.bool (zS m n))
 | []=>rfl
 | a::m=>by
  rw[Lb];simp only[iZ,lX,ou];by_cases e:n=a
  . subst e;simp[zS]
  have:=Xq (n:=n) m;have h2:zS (a::m) n=zS m n:=by simp[zS,e]
  rw[h2,<-this];simp[e]
attribute [go_sem] Xq
theorem Pn{n:Int}:∀m:List Int,n ∉ m->ib (zV m) (.v (.int .i64 n)) (.v (.bool true))=zV (m++[n])
 | [],_=>rfl
 | a::m,h=>by have h1:n≠a:=λe=>h (by simp[e]);rw[XX,Lb,Lb,<-Pn m (λe=>h (by simp[e]))];simp only[ib,lX,ou];simp[h1]
def IsV(b:Nat)(T:TypeId)(h:H)(x:D)(l:List Zon)(nx:Nat):Prop:=x = .list true (l.map Zon.d) \/ ∃r,x = .mrow r 0 l.length/\h r=some ⟨T,l.map Zon.d⟩/\b<r/\r<nx
theorem ZmM(h:xO z=false\/jA z=false\/jQ z=false\/6<(l.length:Int)):yU z l=false:=by
 unfold yU;rcases h with h|h|h|h
 . rw[h];rfl
 . rw[h];simp
 . rw[h];simp
 rw[show decide (l.length<=6)=false from YY (by omega)];simp
def ZmN(h:yU z l=true):dX z/\z.sets.length<=100/\l.length<=6 /\ ∀i,i<l.length->l[i]!.chgs.length<=10:=by unfold yU at h;simp only[XU,XY]at h;let⟨⟨⟨⟨J,Y⟩,A⟩,a⟩,U⟩:=h;unfold xO at J;simp only[XU,XY]at J;refine⟨.mk' (by rw[uy];exact Y) A,J.1,a,λi hi=>?_⟩;have:=(dG _ _ _).1 U i (Yh _) hi;simp only[XU,XY]at this;exact this.2
def dI(a:Int):List D:=[.v (.string (bs [])),.i a,.i 0]
attribute [go_sem] dI
@[go_sem]theorem Zji{l:List Int}:aQ (l.map dI)=true:=by
 induction l with
 | nil=>rfl
 | cons x l k=>simp only[X7,aQ,k,dI,aX,D.nr];rfl
@[go_sem]theorem wkr_dI{l:List Int}:dB (l.map dI)=l.map dI:=by
 induction l with
 | nil=>rfl
 | cons x l k=>simp only[X7,dB,k,dI,dA,wk]
def rzR(n:Int):List (List D):=[[.v (.string (bs [120])),.i 2,.i 0,.l [[.v (.string (bs [97,46,110,115])),.i 0,.i 0]],.l []],[.v (.string (bs [120])),.i 4,.i 0,.l [[.v (.string (bs [])),.i n,.i 0]],.l []]]
def rz_0{n:Int}{l:List Int}(h : ¬0<l.length):(gQ n l).d=[.v (.string (bs [120])),.l (rzR n)]:=by unfold gQ;rw[XV h];rfl
def rz_1{n:Int}{l:List Int}(h:0<l.length):(gQ n l).d=[.v (.string (bs [120])),.l (rzR n++[[.v (.string (bs [119,46,120])),.i 1,.i 0,.l (l.map dI),.l []]])]:=by
 unfold gQ;rw[X0 h];have e:(GM l).data.map Dat.d=l.map dI:=by unfold GM;rw[List.map_map];rfl
 show[D.v (.string (bs [120])),D.list false ((rzS n++[(⟨GM l,[]⟩:Sgd)]).map Sgd.d)]=_;rw[Yv,X7];show[D.v (.string (bs [120])),D.list false (rzR n++[[.v (.string (bs [119,46,120])),.i 1,.i 0,.l ((GM l).data.map Dat.d),.l []]])]=_;rw[e]
def rzC:Chg:=⟨1,⟨[119,46,120],1,0,[⟨[],7,0⟩]⟩⟩
def chgs_rz{g:Bool}:EB (.list f [[.v (.int .i64 1),.v (.string (bs [119,46,120])),.v (.int .i64 1),.v (.int .i64 0),.list g [[.v (.string (bs [])),.v (.int .i64 7),.v (.int .i64 0)]]]])=[rzC]:=rfl
def ints_nil:pG (.list f [])=[]:=rfl
def ints_7:pG (.list f [[.v (.int .i64 7)]])=[7]:=rfl
attribute[go_sem]chgs_rz ints_nil ints_7
@[go_sem]theorem ZpX{a b:Zon}:nD (.list f [[.v (.string (bs a.apex)),.l (a.sets.map Sgd.d)],[.v (.string (bs b.apex)),.l (b.sets.map Sgd.d)]])=[a,b]:=ZcL (l:=[a,b])
end Go.Jn
namespace Go.DL
variable{C:aO}{P:Program}{aD first row xs:List D}{aY:FuncId}{args:Array Operand}{b len off r:Nat}{bl:dE}{c:Code}{d:D}{e t ty:TypeId}{f x:Operand}{g:Mem}{h:H}{o:Oper}{ops:Array Oper}{ro:Option Nat}{rows:List (List D)}{s s1:S}{ts:Array TypeId}{v:Value}{w:World}{α:Type}
variable[Glob P]
section
variable [Dr]{Q:Exit->S->Prop}
theorem Za7 [Glob P]{c:Code}{s:S}{α:Type}(keep:List Nat)(A:α->Prop)(μ:α->Nat)(g:α->List (Nat×D))(hh:α->H)(j:α->Nat)(a0:α){fx:List (Nat×D)}(k:keep.map (λi=>(i,s.t i))=fx)(hA:A a0)(ht : ∀p∈g a0,Tb s.t p)(hq : ∀r,hh a0 r=s.h r\/hh a0 r=none)(hn:s.nx<=j a0)
  (round : ∀a,A a->DW P ro c (thenS (λw=>∃f,A f/\μ f<μ a/\(∀p∈g f,Tb w.t p)/\(∀p∈fx,Tb w.t p)/\(∀r,hh f r=w.h r\/hh f r=none)/\w.nx<=j f/\w.n=s.n/\w.e=s.e) Q) { n:=s.n,t:=tab (g a++fx),h:=hh a,nx:=j a,e:=s.e }):DW P ro (.loop c) Q s :=
 Za6 A μ (λa=>g a++fx) hh j a0 hA (λp F=>(Yu.1 F).elim (ht p) (O7 k p)) hq hn λa m=>(round a m).mono λe w hq=>by
  cases e with
  | normal =>
   let⟨f,J,Y,o,u,U,W,v,T⟩:=hq;exact⟨f,J,Y,λp F=>(Yu.1 F).elim (o p) (u p),U,W,v,T⟩
  | _=>exact hq
def Zm6{x y:Code}(keep:List Nat)(A:α->Prop)(c:α->List (Nat×D))(hh:α->H)(f:α->Nat){fx:List (Nat×D)}(g:keep.map (λi=>(i,s.t i))=fx)(h:DW P ro x (thenS (λw=>∃a,A a/\(∀p∈c a,Tb w.t p)/\(∀p∈fx,Tb w.t p)/\(∀r,hh a r=w.h r\/hh a r=none)/\w.nx<=f a/\w.n=s.n/\w.e=s.e) Q) s)(k : ∀a,A a->DW P ro y Q { n:=s.n,t:=tab (c a++fx),h:=hh a,nx:=f a,e:=s.e }):DW P ro (.seq x y) Q s:=by refine Zm0 _ h ?_;rintro w ⟨a,J,Y,j,m,U,W,o⟩;refine QG (c a++fx) (hh a) (f a) (λp F=>(Yu.1 F).elim (Y p) (j p)) m U ?_;rw[W,o];exact k a J
def Less(h' h:H):Prop:=∀q,h' q=h q\/h' q=none
def BD(h:H):Less h h:=λ_=>.inl rfl
def less_upd{h':H}{x:Option dE}(k : ∀q,q≠r->h' q=h q\/h' q=none):Less (upd h' r x) (upd h r x):=by
 intro q;by_cases e:q=r
 . subst e;left;rw[bI,bI]
 rw[aI _ _ _ _ e,aI _ _ _ _ e];exact k q e
def Zmu{x:dE}(hr:h r=some x):∀q,upd (upd h r none) r (some x) q=h q\/upd (upd h r none) r (some x) q=none:=by
 intro q;by_cases e:q=r
 . subst e;left;rw[bI,hr]
 left;rw[aI _ _ _ _ e,aI _ _ _ _ e]
def ZaE{r1 r2:Nat}{x:Option dE}{y:Option dE}(h1:r1=r\/h r1=none):∀q,upd (upd h r none) r2 y q=upd (upd (upd (upd h r none) r1 x) r1 none) r2 y q\/upd (upd h r none) r2 y q=none:=by
 intro q;by_cases e:q=r2
 . subst e;left;rw[bI,bI]
 rw[aI _ _ _ _ e,aI _ _ _ _ e];by_cases a:q=r1
 .
  subst a;right;rcases h1 with rfl|h1
  . rw[bI]
  by_cases O:q=r
  . subst O;rw[bI]
  rw[aI _ _ _ _ O,h1]
 left;rw[aI _ _ _ _ a,aI _ _ _ _ a]
def HM.recell2{h1:H}{g':Mem}(F:HM P h g w)(f:HM P h1 g' w)(mono:ay g g' w w){q:Nat}{rows':List (List D)}(hq:h q=some ⟨ty,rows⟩)(o:h1 q=some ⟨ty,rows⟩)(N:rows'.length=rows.length)(U : ∀(i:Nat)(a:List D),rows'[i]? = some a -> ∃row:List D,rows[i]? = some row/\a.length=row.length /\ ∀(j:Nat)(n:D),a[j]? = some n -> ∃d,row[j]? = some d /\ ∀v,ae w g d v->ae w g' n v):HM P (upd h1 q (some ⟨ty,rows'⟩)) g' w:=by
 refine⟨λx E=>f.dead x ?_,λx R E=>?_,f.inj,f.used,f.imm,f.gr⟩
 .
  by_cases e:x=q
  . subst e;rw[bI]at E;cases E
  rwa [aI _ _ _ _ e]at E
 by_cases e:x=q
 .
  subst e;rw[bI]at E;cases E;let⟨G,c,y,O,Y,Z,p⟩:=f.blk x _ o;let⟨J,I,z,f2,f3,f4,A⟩:=F.blk x _ hq;have K:g'.M x=g.M x:=by
   rcases mono.M x (F.used x (by rw[z];simp))with k|k
   . exact k
   rw[k]at y;cases y
  rw[K,z]at y;cases y;refine⟨G,c,K.trans z,O,by show rows'.length<=c;rw[N];exact Y,Z,?_⟩;rcases p with p|⟨b,L,rfl,W,h7,T,V⟩
  . exact .inl p
  refine .inr ⟨b,L,rfl,W,h7,T,λi a hi=>?_⟩;rcases A with⟨A,_⟩|⟨b2,M,k5,B,k7,k8,k9⟩
  . cases A
  cases k5;have B:=W.uniq B;subst B;let⟨row,r,t,r3⟩:=U i a hi;have X:=k9 i row r;refine⟨t.trans X.1,λj n m=>?_⟩;let⟨d,d1,d2⟩:=r3 j n m;let⟨u,u3,u4,u5⟩:=X.2 j d d1;exact⟨u,u3,u4,d2 u u5⟩
 rw[aI _ _ _ _ e]at E;exact f.blk x R E
theorem one_cell{h:Nat}{d0 k:D}(A:row[h]? = some d0){g':Mem}(m : ∀v,ae w g d0 v->ae w g' k v)(t : ∀d v,ae w g d v->ae w g' d v) :
  ∀(i:Nat)(a:List D),[row.set h k][i]? = some a -> ∃f:List D,[row][i]? = some f/\a.length=f.length /\ ∀(j:Nat)(u:D),a[j]? = some u -> ∃d,f[j]? = some d /\ ∀v,ae w g d v->ae w g' u v:=by
 intro i a hi;cases i with
 | succ i=>simp at hi
 | zero =>
  simp at hi;subst hi;refine⟨row,rfl,by simp,λj u c=>?_⟩;by_cases e:j=h
  . subst e;rw[ZX (by exact(X8.1 A).1)]at c;cases c;exact⟨d0,A,m⟩
  rw[List.getElem?_set_ne (Ne.symm e)]at c;exact⟨u,c,t u⟩
def xR(r j:Nat)(f ty:TypeId)(hr:s.h r=some ⟨f,[row]⟩)(A:row[j]? = some (.list true []))(y:0<P.cellsOf ty)(h:DW P ro c Q { n:=s.n,t:=s.t,h:=upd (upd s.h s.nx (some ⟨ty,[]⟩)) r (some ⟨f,[row.set j (.mrow s.nx 0 0)]⟩),nx:=s.nx+1,e:=s.e }):DW P ro c Q s:=by
 intro B g a w N Z;have p : ¬g.U s.nx:=λh=>Nat.lt_irrefl _ (Z _ h);let⟨L,K,W,k,M,o⟩:=N.mem.putNone (h':=upd s.h s.nx (some ⟨ty,[]⟩)) s.nx ⟨ty,[]⟩ p (bI _ _ _) (λr hr=>.inl (aI _ _ _ _ hr)) y rfl;have z:r≠s.nx:=by intro e;subst e;let⟨G,c,O,_⟩:=N.mem.blk _ _ hr;exact p (N.mem.used _ (by rw[O];simp))
 have R:=HM.recell2 (rows':=[row.set j (.mrow s.nx 0 0)]) N.mem M o hr (by rw[aI _ _ _ _ z];exact hr) rfl (one_cell A (λv E=>by obtain⟨x,rfl⟩:=ZmV E;refine .mrow _ _ _ _ ⟨x,0,rfl,XW _,λh=>absurd h om⟩ ((W _).2 (.inr rfl)) λG c V J=>?_;rw[K]at J;cases J;exact⟨⟨XW _,Yh _⟩,.inl ⟨rfl,x,rfl⟩⟩) λd v E=>E.later N.mem o)
 have F:St P B { n:=s.n,t:=s.t,h:=upd (upd s.h s.nx (some ⟨ty,[]⟩)) r (some ⟨f,[row.set j (.mrow s.nx 0 0)]⟩),nx:=s.nx+1,e:=s.e } L a w :=
  ⟨N.sz,λj=>(N.tm j).later N.mem o,R,N.df.later N.mem o,Env.later N.mem o N.en,N.bd⟩
 exact wpIn_mono (h B L a w F (λr hr=>by
  rcases(W r).1 hr with h|h
  . exact Nat.lt_succ_of_lt (Z r h)
  subst h;exact Nat.lt_succ_self _)) λe X T⟨U,I,q,r,m,u,v⟩=>⟨U,I,q,r,o.toX.trans m,u,v⟩
def Mk(i r:Nat)(hi:s.t i = .mrow r off len)(hr:s.h r=some ⟨ty,rows⟩)(o:off+len<=rows.length)(hn:aQ rows=true)(h:DW P ro c Q { n:=s.n,t:=upd s.t i (.list false ((rows.drop off).take len)),h:=upd s.h r none,nx:=s.nx,e:=s.e }):DW P ro c Q s:=by
 intro B g a w N Z;have mono:=Eo g r w;have f:St P B { n:=s.n,t:=upd s.t i (.list false ((rows.drop off).take len)),h:=upd s.h r none,nx:=s.nx,e:=s.e } (ol g r) a w:=by
  refine⟨N.sz,λj=>?_,FY N.mem r,N.df.later N.mem mono,Env.later N.mem mono N.en,N.bd⟩;by_cases e:j=i
  . subst e;simp only[bI];have A:=N.tm j;rw[hi]at A;exact Qg N.mem hr hn o A
  simp only[aI _ _ _ _ e];exact(N.tm j).later N.mem mono
 exact wpIn_mono (h B (ol g r) a w f Z) λe x T⟨p,k,q,r,m,u,v⟩=>⟨p,k,q,r,mono.toX.trans m,u,v⟩
def sP(q j r:Nat){f:TypeId}(hq:s.h q=some ⟨f,[row]⟩)(A:row[j]? = some (.mrow r off len))(hr:s.h r=some ⟨ty,rows⟩)(x:q≠r)(y:off+len<=rows.length)(hn:aQ rows=true)(h:DW P ro c Q { n:=s.n,t:=s.t,h:=upd (upd s.h r none) q (some ⟨f,[row.set j (.list false ((rows.drop off).take len))]⟩),nx:=s.nx,e:=s.e }):DW P ro c Q s:=by
 intro B g a w N Z;have mono:=Eo g r w;have z:=HM.recell2 (rows':=[row.set j (.list false ((rows.drop off).take len))]) N.mem (FY N.mem r) mono hq (by rw[aI _ _ _ _ x];exact hq) rfl (one_cell A (λv k=>Qg N.mem hr hn y k) λd v k=>k.later N.mem mono);have o:St P B { n:=s.n,t:=s.t,h:=upd (upd s.h r none) q (some ⟨f,[row.set j (.list false ((rows.drop off).take len))]⟩),nx:=s.nx,e:=s.e } (ol g r) a w :=
  ⟨N.sz,λj=>(N.tm j).later N.mem mono,z,N.df.later N.mem mono,Env.later N.mem mono N.en,N.bd⟩
 exact wpIn_mono (h B (ol g r) a w o Z) λe F T⟨E,p,q,r,m,u,v⟩=>⟨E,p,q,r,mono.toX.trans m,u,v⟩
def ZaC(c:HM P h g w)(hr:h r=some bl){a:List D}(hk:rZ bl=some a)(hn:aX a=true)(hv:ae w g (.mp r) v):ae w (ol g r) (.fmap a) v:=by obtain⟨b,f,j,rfl,J,Y,A,_⟩:=O8 c hv hr hk;exact .fmap a b f j (.inr ⟨_,_,A⟩) J Y.1 λk d x y O=>(Y.2 k d x y O).clean (uO hn (Ym y)) λb p=>.inl p
def QJ(i r:Nat){f:D}(hi:s.t i=d)(p : ∀(g:Mem)(w:World)(v:Value),HM P s.h g w->ae w g d v->ae w (ol g r) f v)(h:DW P ro c Q { n:=s.n,t:=upd s.t i f,h:=upd s.h r none,nx:=s.nx,e:=s.e }):DW P ro c Q s:=by
 intro B g a w N Z;have mono:=Eo g r w;have k:St P B { n:=s.n,t:=upd s.t i f,h:=upd s.h r none,nx:=s.nx,e:=s.e } (ol g r) a w:=by
  refine⟨N.sz,λj=>?_,FY N.mem r,N.df.later N.mem mono,Env.later N.mem mono N.en,N.bd⟩;by_cases e:j=i
  . subst e;simp only[bI];have A:=N.tm j;rw[hi]at A;exact p g w _ N.mem A
  simp only[aI _ _ _ _ e];exact(N.tm j).later N.mem mono
 exact wpIn_mono (h B (ol g r) a w k Z) λe y T⟨x,o,q,r,m,u,v⟩=>⟨x,o,q,r,mono.toX.trans m,u,v⟩
def Ml(i r:Nat){a:List D}(hi:s.t i = .mp r)(hr:s.h r=some bl)(hk:rZ bl=some a)(hn:aX a=true)(h:DW P ro c Q { n:=s.n,t:=upd s.t i (.fmap a),h:=upd s.h r none,nx:=s.nx,e:=s.e }):DW P ro c Q s :=
 QJ i r hi (λ_ _ _ v u=>ZaC v hr hk hn u) h
def Za8(q j r:Nat){f:TypeId}{k:List D}(hq:s.h q=some ⟨f,[row]⟩)(A:row[j]? = some (.mp r))(hr:s.h r=some bl)(hk:rZ bl=some k)(y:q≠r)(hn:aX k=true)(h:DW P ro c Q { n:=s.n,t:=s.t,h:=upd (upd s.h r none) q (some ⟨f,[row.set j (.fmap k)]⟩),nx:=s.nx,e:=s.e }):DW P ro c Q s:=by
 intro B g a w N Z;have mono:=Eo g r w;have z:=HM.recell2 (rows':=[row.set j (.fmap k)]) N.mem (FY N.mem r) mono hq (by rw[aI _ _ _ _ y];exact hq) rfl (one_cell A (λv o=>ZaC N.mem hr hk hn o) λd v o=>o.later N.mem mono);have p:St P B { n:=s.n,t:=s.t,h:=upd (upd s.h r none) q (some ⟨f,[row.set j (.fmap k)]⟩),nx:=s.nx,e:=s.e } (ol g r) a w :=
  ⟨N.sz,λj=>(N.tm j).later N.mem mono,z,N.df.later N.mem mono,Env.later N.mem mono N.en,N.bd⟩
 exact wpIn_mono (h B (ol g r) a w p Z) λe F T⟨E,x,q,r,m,u,v⟩=>⟨E,x,q,r,mono.toX.trans m,u,v⟩
def Qh(t:HM P h g w)(hr:h r=some ⟨ty,[row]⟩)(hn:aX row=true)(hv:ae w g (.mptr r 0 0) v):ae w (ol g r) (.eptr row) v:=by
 let J:H:=λx=>if x=r then h r else none
 have f : ∀x,J x=h x\/J x=none:=λx=>by
  by_cases e:x=r
  . subst e;exact .inl (X0 rfl)
  exact .inr (XV e)
 have k:=t.only f;have y:J r=some ⟨ty,[row]⟩:=by show(if r=r then h r else none)=_;rw[X0 rfl];exact hr
 have O:iN (.mptr r 0 0) J=row:=by simp only[iN,y];rfl
 have n : ∀d:D,d.nr=true->wI J d=d/\xS J d:=by intro d m;cases d<;>first|exact⟨rfl,trivial⟩|(simp[D.nr]at m;done)
 have:=QO k (xw hv.only) ⟨by rw[y];rfl,by rw[O];exact λc j=>(n c (uO hn j)).2⟩;rw[O]at this;have u:row.map (wI J)=row:=by
  conv=>rhs;rw[<-List.map_id row]
  exact Y3 λc j=>(n c (uO hn j)).1
 rw[u]at this;refine this.clean hn λb p=>?_;rcases p with p|⟨x,c,o,p⟩
 . exact .inl p
 have a:(if(J x).isSome then g.M x else none)=some (some b,c,o):=p;split at a
 .
  rename_i E;have:x=r:=by refine YW λe=>?_;have:J x=none:=XV e;rw[this]at E;cases E
  subst this;exact .inr ⟨c,o,a⟩
 cases a
def sO(i r:Nat)(hi:s.t i = .mptr r 0 0)(hr:s.h r=some ⟨ty,[row]⟩)(hn:aX row=true)(h:DW P ro c Q { n:=s.n,t:=upd s.t i (.eptr row),h:=upd s.h r none,nx:=s.nx,e:=s.e }):DW P ro c Q s :=
 QJ i r hi (λ_ _ _ v u=>Qh v hr hn u) h
def aA(P:Program)[Glob P](ro:Option Nat)(ops:Array Oper)(i b:Nat)(s:S)(Q:Exit->S->Prop):Prop :=
 ∀(B:dn)(f g:Mem)(a:Act)(h w:World),St P B s g a w->ay f g h w->(∀r,g.U r->r<b+i) ->
  wpOpsIn (Fw ro) 0 P ops (λe t T=>∃c L,Q e c/\St P B c L t T/\gL s.e.x f L h T/\(∀r,L.U r->r<c.nx)/\c.e.x=s.e.x) (List.range' i (ops.size-i)) a w
def eG(P:Program)[Glob P](C:aO)(ops:Array Oper)(i k:Nat)(o:Oper)(b:Nat)(s s1:S):Prop:=i<=k/\ops[k]? = some o/\o.guard=none/\bu P (words P) C ops.toList b i ((ops.toList.drop i).take (k-i)) s=s1/\s1.ok/\dN s1.n o.dst=true
def yY{id:Nat}(h:aA P ro ops 0 s.nx { n:=s.n,t:=s.t,h:=s.h,nx:=s.nx+ops.size,ok:=True,e:=s.e } Q):DW P ro (.region id ops false) Q s:=by intro B g a w N Z;refine wpIn_region ?_;rw[Zg];exact h B g g a w w ⟨N.sz,N.tm,N.mem,N.df,N.en,N.bd⟩ (ay.refl _ _) (λr O=>by have:=Z r O;omega)
theorem Qz(L:List Oper)(b:Nat):∀(l:List Oper)(i:Nat)(u:S),(bu P (words P) C L b i l u).nx=u.nx:=by
 intro l;induction l with
 | nil=>intro i u;rfl
 | cons x l k=>intro i u;simp only[bu];rw[k,Et.2]
theorem wo(L:List Oper)(b:Nat):∀(l:List Oper)(i:Nat)(u:S),(bu P (words P) C L b i l u).e=u.e:=by
 intro l;induction l with
 | nil=>intro i u;rfl
 | cons x l k =>
  intro i u;simp only[bu];rw[k];unfold dM;split<;>rfl
def yw{c:S}{i:Nat}(hi:i<=ops.size)(J:bu P (words P) C ops.toList b i (ops.toList.drop i) s=c)(hok:c.ok)(hn:s.nx=b+ops.size)(hq:Q .normal c.clear):aA P ro ops i b s Q:=by
 intro B h g a j w N v Z;have o:(ops.toList.drop i).take (ops.size-i)=ops.toList.drop i:=Ye (by simp);have:=wm (ro:=ro) (P:=P) (C:=C) (B:=B) (ops:=ops) (b:=b) (n:=0) (rest:=[]) (g0:=h) (w0:=j) (Q:=λe t T=>∃f L,Q e f/\St P B f L t T/\gL s.e.x h L j T/\(∀r,L.U r->r<f.nx)/\f.e.x=s.e.x) (ops.size-i) i s g a w N v Z om
  (by rw[o,J];exact hok) λm u x p k y=>by
   rw[o,J]at p;refine⟨_,m,hq,p.clear,k.toX,λr O=>?_,?_⟩
   . have A:=y r O;have Y:=Qz (P:=P) (C:=C) ops.toList b (ops.toList.drop i) i s;rw[J]at Y;show r<c.nx;rw[Y,hn];omega
   have U:=wo (P:=P) (C:=C) ops.toList b (ops.toList.drop i) i s;rw[J]at U;show c.e.x=s.e.x;rw[U]
 rw[YH]at this;exact this
def C9{i:Nat}(k:Nat)(R:D->H->Nat->Prop)(am:i<=k)(ho:ops[k]? = some o)(p:o.op = .call { callee:=.value f,args:=args,argTypes:=ts })(hg:o.guard=none)(J:bu P (words P) C ops.toList b i ((ops.toList.drop i).take (k-i)) s=s1)(hok:s1.ok)(m:dN s1.n o.dst=true)(hf:s1.ev f = .fn (.func aY) first aD)(G:(args.toList.map s1.ev).all sg=true)(E:((args.toList.map s1.ev).map sd).map wk=xs)(hct:bG P aY (first++xs++aD) s1.h (b+k) R)(hk : ∀res h' n',R res h' n'->aA P ro ops (k+1) n' { n:=s1.n,t:=s1.put o.dst res,h:=h',nx:=n'+ops.size,ok:=True,e:=s1.e } Q):aA P ro ops i b s Q:=by
 intro B g0 g a w0 w hs hm Z;have K:k<ops.size:=(Yo.1 ho).1;have O:List.range' i (ops.size-i)=List.range' i (k-i)++(k::List.range' (k+1) (ops.size-(k+1))):=by
  have:ops.size-i=(k-i)+((ops.size-(k+1))+1):=by omega
  rw[this,<-Zo,Zd];have y:i+(k-i)=k:=by omega
  rw[y]
 rw[O];refine wm (C:=C) (b:=b) (k-i) i s g a w hs hm Z (by omega) o3r λg1 N I F V X=>?_;rw[J]at F;have X : ∀r,g1.U r->r<b+k:=λr O=>by have:=X r O;omega
 have ab:s1.e=s.e:=by rw[<-J];exact wo _ _ _ _ _
 rw[wpOpsIn_cons];unfold wpOpIn;rw[ho];simp only;have hw:Region.wanted o (yielded ops N.tmps)=true:=by simp[Region.wanted,hg]
 rw[X0 hw];have A : ∀c,o.op ≠ .defer c:=by intro c e;rw[e]at p;cases p
 have kz:o.semAt (Fw ro).round N.eval=execOp N.eval o:=Oper.semAt_eq _ _ _ A;refine⟨λ_ _=>trivial,?_⟩;rw[kz];let⟨ac,hct⟩:=hct;have z:=bT F f;rw[hf]at z;have fK:=aF.wk (ym (xP F args.toList) G);rw[E]at fK;generalize u:N.eval f=vf at z;cases z with|fn _ _ _ fs M l1 l2 r1 r2 =>
 have U:(execOp N.eval o).run P I = .ok (.enter aY (fs++args.map N.eval++M)) I:=by simp[execOp,p,resolve,Deferred.ofValue,u,invoke,xX ac]
 rw[U,Oper.uponIn_enter];have e:fs++args.map N.eval++M=(fs.toList++args.toList.map N.eval++M.toList).toArray:=by apply Zr;simp
 rw[e];refine⟨λh=>by simp[Fw,Fence.wide]at h,AA ((hct I g1 _ F.mem X (aF.append (aF.append ⟨by simpa using l1,λi d x h1 Y=>r1 i d x h1 (by simpa using Y)⟩ fK) ⟨by simpa using l2,λi d x h1 Y=>r2 i d x h1 (by simpa using Y)⟩)).mono ?_)⟩;rintro e T ⟨v,L,res,h',n',hR,rfl,q1,W,q3,q4⟩;have j:=nL F q3 W m q1 True;have:=hk res h' n' hR B g0 L (N.put o.dst v) w0 T ⟨j.sz,j.tm,j.mem,j.df,j.en,j.bd⟩ (V.trans q3) (λr O=>by have:=q4 r O;omega);rw[ab]at this;exact this
def jP{i:Nat}(k:Nat)(A:D->H->Prop)(R:i<=k)(ho:ops[k]? = some o)(M:o.guard=none)(p : ∀c,o.op ≠ .defer c)(J:bu P (words P) C ops.toList b i ((ops.toList.drop i).take (k-i)) s=s1)(hok:s1.ok)(m:dN s1.n o.dst=true)(X : ∀(B:dn)(g:Mem)(a:Act)(w:World),St P B s1 g a w -> ¬g.U (b+k) -> ∃d I,A d I/\Does P g w (b+k) ((execOp a.eval o).run P w) d I)(hk : ∀d I,A d I->aA P ro ops (k+1) b { n:=s1.n,t:=s1.put o.dst d,h:=I,nx:=s1.nx,ok:=True,e:=s1.e } Q):aA P ro ops i b s Q:=by
 intro B g0 g a w0 w hs hm Z;have K:k<ops.size:=(Yo.1 ho).1;have O:List.range' i (ops.size-i)=List.range' i (k-i)++(k::List.range' (k+1) (ops.size-(k+1))):=by
  have:ops.size-i=(k-i)+((ops.size-(k+1))+1):=by omega
  rw[this,<-Zo,Zd];have y:i+(k-i)=k:=by omega
  rw[y]
 rw[O];refine wm (C:=C) (b:=b) (k-i) i s g a w hs hm Z (by omega) o3r λx N w1 F Y z=>?_;rw[J]at F;have z : ∀r,x.U r->r<b+k:=λr O=>by have:=z r O;omega
 have ab:s1.e=s.e:=by rw[<-J];exact wo _ _ _ _ _
 rw[wpOpsIn_cons];unfold wpOpIn;rw[ho];simp only;have hw:Region.wanted o (yielded ops N.tmps)=true:=by simp[Region.wanted,M]
 rw[X0 hw];have kz:o.semAt (Fw ro).round N.eval=execOp N.eval o:=Oper.semAt_eq _ _ _ p;refine⟨λ_ _=>trivial,?_⟩;rw[kz];let⟨d,I,hA,v,L,T,U,E,W,u,G⟩:=X B x N w1 F (λh=>Nat.lt_irrefl _ (z _ h));have j : ∀(v:Value)(L:Mem)(T:World),ae T L d v->HM P I L T->ay x L w1 T->(∀r,L.U r->x.U r\/r=b+k)->wpOpsIn (Fw ro) 0 P ops (λe a' T=>∃V L,Q e V/\St P B V L a' T/\gL s.e.x g0 L w0 T/\(∀r,L.U r->r<V.nx)/\V.e.x=s.e.x) (List.range' (k+1) (ops.size-(k+1))) (N.put o.dst v) T:=by
  intro v L T E W u G;have f:=nL F u W m E True;have:=hk d I hA B g0 L (N.put o.dst v) w0 T ⟨f.sz,f.tm,f.mem,f.df,f.en,f.bd⟩ (Y.trans u) (λr O=>by
   rcases G r O with h|h
   . have:=z r h;omega
   omega)
  rw[ab]at this;exact this
 rcases U with U|⟨U,rfl⟩
 . rw[U,Oper.uponIn_value];exact j v L T E W u G
 rw[U,Oper.uponIn_skip];exact j undef L T E W u G
theorem GJ{i:Nat}(k:Nat){L:TypeId}{f:Bool}(R:i<=k)(T:ops[k]? = some o)(M:o.guard=none)(A:o.op = .binOp .eql t x (.const (.slice none 0 0)) L)(ht:P.underlying t=some (.slice e))(J:bu P (words P) C ops.toList b i ((ops.toList.drop i).take (k-i)) s=s1)(hok:s1.ok)(m:dN s1.n o.dst=true)(E:s1.ev x = .list f rows)(hk : ∀y:Bool,(y=true->rows=[])->aA P ro ops (k+1) b { n:=s1.n,t:=s1.put o.dst (.b y),h:=s1.h,nx:=s1.nx,ok:=True,e:=s1.e } Q):aA P ro ops i b s Q:=by
 refine jP (C:=C) k (λd G=>∃y:Bool,d = .b y/\G=s1.h/\(y=true->rows=[])) R T M (λc e=>by rw[A]at e;cases e) J hok m (λB g a w N _=>?_) (λd G⟨y,V,p,O⟩=>by subst V;subst p;exact hk y O);have O:=bT N x;rw[E]at O;have F : ∃(z:Option Addr)(n c:Nat),a.eval x = .slice z n c/\(z=none->rows=[]):=by
  generalize a.eval x=v at O;cases O with
  | empty _ z I W Y=>exact⟨z,0,I,rfl,λ_=>rfl⟩
  | list _ _ z I K Z hI hl W=>exact⟨some z,_,I,rfl,λh=>by cases h⟩
 let⟨z,n,c,u,X⟩:=F;refine⟨.b z.isNone,s1.h,⟨z.isNone,rfl,rfl,λh=>X (Zi.1 h)⟩,.bool z.isNone,g,w,.inl ?_,.v _,N.mem,ay.refl _ _,λr O=>.inl O⟩;have U:=Go.Lib.run_eql_slice_nil (P:=P) w t e z n c 0 0 ht;have j:a.eval (.const (.slice none 0 0)) = .slice none 0 0:=rfl;simp[execOp,A,u,j,eqGuard,U]
end
open Go.RowKit
variable{B:dn}
variable [Dr]
variable{L:List Oper}{R:D->H->Nat->Prop}{a:Exit->S->Prop}{fn:Func}{n:Nat}{p p0 r1:Prop}
section
variable {Q:Exit->S->Prop}
attribute [go_sem] List.take_length bne_self_eq_false
@[go_sem]theorem self_ne{k:Nat}(h:0<k):(n=n+k)=False:=YS (by omega)
@[go_sem]theorem ne_self{k:Nat}(h:0<k):(n+k=n)=False:=YS (by omega)
def ok0(h:p:=by first|done|(repeat' (with_reducible apply And.intro))<;>first|omega|(with_reducible assumption)|(intros;omega)|(intros;simp only[XY,X6,Yc,XU,Yg,Ya,Yr]at *;omega)|(simp_all;done)|(simp_all;omega)):p:=h
theorem okU(h:p:=by(try simp only[go_sem,ff]);all_goals exact ok0):p:=h
theorem ev{α:Sort _}{a b:α}(h:a=b:=by first|(simp only[go_sem,ff];exact rfl)|(simp only[go_sem,ff];done)|exact rfl):a=b:=h
def iv(h:p:=by first|omega|(with_reducible assumption)|rfl|(simp_all;done)|(simp_all;omega)|(dsimp only;first|omega|(with_reducible assumption)|rfl|(simp_all;done)|(simp_all;omega))):p:=h
def rV{α:Sort _}{a b:α}(h:a=b:=by first|(simp only[XY,X6,Yc,XU,Yg,Ya,Yr,YT,YF,Ze,ZN,ZP,ne_eq];exact rfl)|exact rfl):a=b:=h
abbrev nz(P:Program)(C:aO)(ops:Array Oper)(draw:Bool):Prop:=draw=true->P.follows .mixedOrders=true/\EA C ops.toList=true/\qX ops.toList=true
def dok(h:p:=by intro a;first|(cases a;done)|exact⟨zQ,by kernel_rfl,by kernel_rfl⟩):p:=h
def iw(h:p:=by(try dsimp only);(repeat' (with_reducible apply And.intro))<;>exact iv):p:=h
section
variable [Glob P] (C : aO) {s : S} {n nx : Nat} {t : Nat -> D} {h : H} {ok : Prop} {e : Env} {id : Nat} {ops : Array Oper} {draw : Bool} {x y c : Code}
def aa(hq:DW P ro y Q ⟨n,t,h,nx,True,e⟩)(J:exec P (words P) C ops.toList s=⟨n,t,h,nx,ok,e⟩:=by simp only[go_sem,ff];exact rfl)(m:nz P C ops draw:=by exact dok)
  (hok:ok:=by(try simp only[go_sem,ff]);all_goals exact ok0):DW P ro (.seq (.region id ops draw) y) Q s:=sM J m hok hq
def ag(hq:Q .normal ⟨n,t,h,nx,True,e⟩)(J:exec P (words P) C ops.toList s=⟨n,t,h,nx,ok,e⟩:=by simp only[go_sem,ff];exact rfl)(m:nz P C ops draw:=by exact dok)
  (hok:ok:=by(try simp only[go_sem,ff]);all_goals exact ok0):DW P ro (.region id ops draw) Q s:=Za5 J m hok hq
end
section
variable [Glob P] {s : S} {x y c : Code}
def cd{o:Operand}{b:Bool}{q:Prop}(ht:p->DW P ro x Q s)(a:q->DW P ro y Q s)(j:s.ev o = .v (.bool b):=by first|(simp only[go_sem,ff];exact rfl)|exact rfl)(hp:(b=true)=p:=by exact rV)(hq:(b=false)=q:=by exact rV):DW P ro (.cond o x y) Q s :=
 Mm j (λh=>ht (Eq.mp hp h)) (λh=>a (Eq.mp hq h))
theorem ce{o:Operand}{b:Bool}{q:Prop}(ht:b=true->DW P ro x Q s)(a:q->DW P ro y Q s)(j:s.ev o = .v (.bool b):=by first|(simp only[go_sem,ff];exact rfl)|exact rfl)(hq:(b=false)=q:=by exact rV):DW P ro (.cond o x y) Q s:=Mm j ht (λh=>a (Eq.mp hq h))
variable {α : Type} {fx : List (Nat × D)}
def lph(keep:List Nat)(A:α->Prop)(μ:α->Nat)(g:α->List (Nat×D))(hh:α->H)(j:α->Nat)(a0:α)(hn:s.nx<=j a0:=by first|exact XW _|omega)(hA:A a0)
  (round : ∀a,A a->DW P ro c (thenS (λw=>∃f,A f/\μ f<μ a/\(∀p∈g f,Tb w.t p)/\(∀p∈fx,Tb w.t p)/\(∀r,hh f r=w.h r\/hh f r=none)/\w.nx<=j f/\w.n=s.n/\w.e=s.e) Q) { n:=s.n,t:=tab (g a++fx),h:=hh a,nx:=j a,e:=s.e })
  (k:keep.map (λi=>(i,s.t i))=fx:=by simp only[X7,Yy,go_sem,ff];exact rfl)
  (ht : ∀p∈g a0,Tb s.t p:=by first|(simp only[go_sem,ff];done)|(simp[go_sem,ff];done)|(simp only[go_sem,ff];(repeat' (with_reducible apply And.intro))<;>first|(left;simp;done)|(right;simp[go_sem];done)))
  (um : ∀r,hh a0 r=s.h r\/hh a0 r=none:=by exact BD _):DW P ro (.loop c) Q s:=Za7 keep A μ g hh j a0 k hA ht um hn round
def jnh(keep:List Nat)(A:α->Prop)(c:α->List (Nat×D))(hh:α->H)(f:α->Nat)
  (h:DW P ro x (thenS (λw=>∃a,A a/\(∀p∈c a,Tb w.t p)/\(∀p∈fx,Tb w.t p)/\(∀r,hh a r=w.h r\/hh a r=none)/\w.nx<=f a/\w.n=s.n/\w.e=s.e) Q) s)
  (k : ∀a,A a->DW P ro y Q { n:=s.n,t:=tab (c a++fx),h:=hh a,nx:=f a,e:=s.e })
  (g:keep.map (λi=>(i,s.t i))=fx:=by simp only[X7,Yy,go_sem,ff];exact rfl):DW P ro (.seq x y) Q s:=Zm6 keep A c hh f g h k
def lq(α:Type)(keep:List Nat)(F:α->Prop×Nat×List (Nat×D)×List (Nat×dE)×Nat)(a0:α)
  (round : ∀a,(F a).1->DW P ro c (thenS (λw=>∃f,(F f).1/\(F f).2.1<(F a).2.1/\(∀p∈(F f).2.2.1,Tb w.t p)/\(∀p∈fx,Tb w.t p)/\(∀p∈(F f).2.2.2.1,w.h p.1=some p.2)/\w.nx<=(F f).2.2.2.2/\w.n=s.n/\w.e=s.e) Q) { n:=s.n,t:=tab ((F a).2.2.1++fx),h:=htab (F a).2.2.2.1,nx:=(F a).2.2.2.2,e:=s.e })
  (hn:s.nx<=(F a0).2.2.2.2:=by first|exact Nat.le_refl _|(dsimp only;omega))(hA:(F a0).1:=by exact iw)
  (g:keep.map (λi=>(i,s.t i))=fx:=by simp only[X7,Yy,go_sem,ff];exact rfl)
  (ht : ∀p∈(F a0).2.2.1,Tb s.t p:=by first|(simp only[go_sem,ff];done)|(simp[go_sem,ff];done)|(simp only[go_sem,ff];(repeat' (with_reducible apply And.intro))<;>first|(left;simp;done)|(right;simp[go_sem];done)))
  (hh : ∀p∈(F a0).2.2.2.1,s.h p.1=some p.2:=by first|(simp only[go_sem,ff];done)|simp[go_sem,ff]):DW P ro (.loop c) Q s :=
 Zm4 keep (λa=>(F a).1) (λa=>(F a).2.1) (λa=>(F a).2.2.1) (λa=>(F a).2.2.2.1) (λa=>(F a).2.2.2.2) a0 g hA ht hh hn round
def iF(α:Type)(keep:List Nat)(F:α->Prop×Nat×List (Nat×D)×H×Nat)(a0:α)
  (round : ∀a,(F a).1->DW P ro c (thenS (λw=>∃f,(F f).1/\(F f).2.1<(F a).2.1/\(∀p∈(F f).2.2.1,Tb w.t p)/\(∀p∈fx,Tb w.t p)/\(∀r,(F f).2.2.2.1 r=w.h r\/(F f).2.2.2.1 r=none)/\w.nx<=(F f).2.2.2.2/\w.n=s.n/\w.e=s.e) Q) { n:=s.n,t:=tab ((F a).2.2.1++fx),h:=(F a).2.2.2.1,nx:=(F a).2.2.2.2,e:=s.e })
  (hn:s.nx<=(F a0).2.2.2.2:=by first|exact Nat.le_refl _|(dsimp only;omega))(hA:(F a0).1:=by exact iw)
  (g:keep.map (λi=>(i,s.t i))=fx:=by simp only[X7,Yy,go_sem,ff];exact rfl)
  (ht : ∀p∈(F a0).2.2.1,Tb s.t p:=by first|(simp only[go_sem,ff];done)|(simp[go_sem,ff];done)|(simp only[go_sem,ff];(repeat' (with_reducible apply And.intro))<;>first|(left;simp;done)|(right;simp[go_sem];done)))
  (um : ∀r,(F a0).2.2.2.1 r=s.h r\/(F a0).2.2.2.1 r=none:=by exact BD _):DW P ro (.loop c) Q s :=
 Za7 keep (λa=>(F a).1) (λa=>(F a).2.1) (λa=>(F a).2.2.1) (λa=>(F a).2.2.2.1) (λa=>(F a).2.2.2.2) a0 g hA ht um hn round
end
def ah{A M T F B N c f:α->Prop}(w:α)(W:N w:=by first|exact Nat.le_refl _|((try dsimp only);omega))(h1:A w:=by exact iw)(h2:M w:=by show(_:Nat)<_;(try dsimp only);first|omega|simp_all;omega)(h3:T w:=by(try simp only[go_sem,ff]);all_goals (first|done|(simp;done)|(simp;omega)|((repeat' (with_reducible apply And.intro))<;>first|(left;simp;done)|(right;simp[go_sem];done))))(h4:F w:=by(try simp only[go_sem,ff]);all_goals (first|done|(simp;done)|(simp;omega)|((repeat' (with_reducible apply And.intro))<;>first|(left;simp;done)|(right;simp[go_sem];done))))(h5:B w:=by first|exact BD _|((try simp only[go_sem,ff]);all_goals (first|done|(simp;done)|(simp;omega)|((repeat' (with_reducible apply And.intro))<;>first|(left;simp;done)|(right;simp[go_sem];done)))))(g:c w:=by exact rfl)(h:f w:=by exact rfl):∃a,A a/\M a/\T a/\F a/\B a/\N a/\c a/\f a:=⟨w,h1,h2,h3,h4,h5,W,g,h⟩
def Bc{A T F B N c f:α->Prop}(w:α)(W:N w:=by first|exact Nat.le_refl _|((try dsimp only);omega))(h1:A w:=by exact iw)(h3:T w:=by(try simp only[go_sem,ff]);all_goals (first|done|(simp;done)|(simp;omega)|((repeat' (with_reducible apply And.intro))<;>first|(left;simp;done)|(right;simp[go_sem];done))))(h4:F w:=by(try simp only[go_sem,ff]);all_goals (first|done|(simp;done)|(simp;omega)|((repeat' (with_reducible apply And.intro))<;>first|(left;simp;done)|(right;simp[go_sem];done))))(h5:B w:=by first|exact BD _|((try simp only[go_sem,ff]);all_goals (first|done|(simp;done)|(simp;omega)|((repeat' (with_reducible apply And.intro))<;>first|(left;simp;done)|(right;simp[go_sem];done)))))(g:c w:=by exact rfl)(h:f w:=by exact rfl):∃a,A a/\T a/\F a/\B a/\N a/\c a/\f a:=⟨w,h1,h3,h4,h5,W,g,h⟩
def fin{A B:Prop}{Ks Rs:Nat->Prop}(K:Nat)(hr:Rs K:=by(try simp only[go_sem,ff]);all_goals simp)(hk:Ks K:=by(try simp only[go_sem,ff]);all_goals simp)
  (m:A:=by first|exact .inr rfl|exact .inl rfl|trivial|simp)(p:B:=by simp only[go_sem,ff]):A/\B /\ ∃k,Ks k/\Rs k:=⟨m,p,K,hk,hr⟩
def bJ{A B:Prop}{a:H->Prop}{c:Nat->Prop}{R:H->Nat->Prop}{n':Nat}(h':H)(hn:c n':=by first|exact XW _|omega)(hr:R h' n':=by(try simp only[go_sem,ff]);all_goals simp)(hh:a h':=by exact λ_=>.inl rfl)
  (m:A:=by first|exact .inr rfl|exact .inl rfl|trivial|simp)(p:B:=by simp only[go_sem,ff]):A/\B /\ ∃h' n',a h'/\c n'/\R h' n':=⟨m,p,h',n',hh,hn,hr⟩
section
variable [Glob P] (C : aO) {s s1 : S} {id : Nat} {ops : Array Oper} {o : Oper} {f : Operand} {args : Array Operand} {ts : Array TypeId} {aY : FuncId} {first aD xs : List D} {R : D -> H -> Nat -> Prop}
def Nxt(P:Program)[Glob P](C:aO)(L:List Oper)(b i:Nat)(l:List Oper)(u:S)(Q:Exit->S->Prop):Prop:=∃a,bu P (words P) C L b i l u=a/\a.ok/\Q .normal a.clear
def bg(k:Nat)(p:ops[k]? = some o:=by exact dP rfl)(r:o.op = .call { callee:=.value f,args:=args,argTypes:=ts }:=by exact rfl)(M:o.guard=none:=by exact rfl)
  (J:bu P (words P) C ops.toList s.nx 0 (ops.toList.take k) { n:=s.n,t:=s.t,h:=s.h,nx:=s.nx+k,ok:=s.ok,e:=s.e }=s1:=by simp only[X5,Yf,go_sem,ff];exact rfl)(hok:s1.ok:=by(try simp only[go_sem,ff]);all_goals exact ok0)(m:dN s1.n o.dst=true:=by(try simp only[go_sem,ff]);all_goals (first|done|rfl|decide|simp))
  (a:s1.ev f = .fn (.func aY) first aD:=by simp only[go_sem,ff];exact rfl)(j:(args.toList.map s1.ev).all sg=true:=by simp only[go_sem,ff])(E:((args.toList.map s1.ev).map sd).map wk=xs:=by simp only[go_sem,ff];exact rfl)(hct:bG P aY (first++xs++aD) s1.h (s.nx+k) R)
  (hk : ∀c I g,R c I g->Nxt P C ops.toList g (k+1) (ops.toList.drop (k+1)) { n:=s1.n,t:=s1.put o.dst c,h:=I,nx:=g+ops.size,ok:=True,e:=s1.e } Q) :
  DW P ro (.region id ops false) Q s:=Znd k R p r M J hok m a j E hct hk
def aZ{i:Nat}{l:List Oper}{u:S}{nx:Nat}{t:Nat->D}{ok:Prop}{e:Env}(hq:Q .normal ⟨n,t,h,nx,True,e⟩)(J:bu P (words P) C L b i l u=⟨n,t,h,nx,ok,e⟩:=by simp only[X9,X4,S.put,go_sem,ff];exact rfl)(hok:ok:=by(try simp only[go_sem,ff]);all_goals exact ok0) :
  Nxt P C L b i l u Q:=⟨_,J,hok,hq⟩
end
def qA{g:Prop}(a0:p0)(N:g):p0/\g:=⟨a0,N⟩
def qB{g k:Prop}(a0:p0)(N:g)(a:k):p0/\g/\k:=⟨a0,N,a⟩
def qD{g k a:Prop}(a0:p0)(N:g)(c:k)(a3:a):p0/\g/\k/\a:=⟨a0,N,c,a3⟩
def qE{g k a c:Prop}(a0:p0)(N:g)(f:k)(a3:a)(a4:c):p0/\g/\k/\a/\c:=⟨a0,N,f,a3,a4⟩
def qF{g k a c f:Prop}(a0:p0)(N:g)(h:k)(a3:a)(a4:c)(a5:f):p0/\g/\k/\a/\c/\f:=⟨a0,N,h,a3,a4,a5⟩
def qG{g k a c f h:Prop}(a0:p0)(N:g)(j:k)(a3:a)(a4:c)(a5:f)(m:h):p0/\g/\k/\a/\c/\f/\h:=⟨a0,N,j,a3,a4,a5,m⟩
def qH{g k a c f h j:Prop}(a0:p0)(N:g)(m:k)(a3:a)(a4:c)(a5:f)(n:h)(o:j):p0/\g/\k/\a/\c/\f/\h/\j:=⟨a0,N,m,a3,a4,a5,n,o⟩
def qI{g k a c f h j m:Prop}(a0:p0)(N:g)(n:k)(a3:a)(a4:c)(a5:f)(o:h)(p:j)(r:m):p0/\g/\k/\a/\c/\f/\h/\j/\m:=⟨a0,N,n,a3,a4,a5,o,p,r⟩
def nG(a b:Nat)(h:a<b:=by omega):(∀k:Nat,(a=b+k)=False) /\ ∀k:Nat,(b+k=a)=False:=⟨λk=>YS om,λk=>YS om⟩
def nH(a b:Nat)(h:a≠b:=by omega):((a=b)=False)/\((b=a)=False):=⟨YS h,YS h.symm⟩
def oF{q:Prop}(k:q)(h:p=q:=by first|(simp only[go_sem,ff];exact rfl)|(simp only[go_sem,ff];done)|exact rfl):p:=h▸k
def oS{q:Prop}(h:p=q:=by first|(simp only[go_sem,ff];exact rfl)|(simp only[go_sem,ff];done)|exact rfl)(k:q):p:=h▸k
def oR(h:p:=by(try simp only[go_sem,ff]);all_goals (first|rfl|(simp;done))):p:=h
def oH(c:r1)(h:r1->p:=by intro w;(try simp only[go_sem,ff]);all_goals (first|done|((repeat' (with_reducible apply And.intro))<;>first|exact w|exact w _|exact w _ _|exact w _ _ _|(intros;exact w)|(intros;exact w _)|(intros;exact w _ _)|omega|(intros;omega)|(intro h;cases h)|(intro h;simp at h;done)|(intros;simp;done)|skip))):p:=h c
def oI{r2:Prop}(c:r1)(a:r2)(h:r1->r2->p:=by intro w I;(try simp only[go_sem,ff]);all_goals (first|done|((repeat' (with_reducible apply And.intro))<;>first|exact w|exact w _|exact w _ _|exact w _ _ _|(intros;exact w)|(intros;exact w _)|(intros;exact w _ _)|exact I|exact I _|exact I _ _|exact I _ _ _|(intros;exact I)|(intros;exact I _)|(intros;exact I _ _)|omega|(intros;omega)|(intro h;cases h)|(intro h;simp at h;done)|(intros;simp;done)|skip))):p:=h c a
def oJ{r2 f:Prop}(c:r1)(g:r2)(j:f)(h:r1->r2->f->p:=by intro w I a;(try simp only[go_sem,ff]);all_goals (first|done|((repeat' (with_reducible apply And.intro))<;>first|exact w|exact w _|exact w _ _|exact w _ _ _|(intros;exact w)|(intros;exact w _)|(intros;exact w _ _)|exact I|exact I _|exact I _ _|exact I _ _ _|(intros;exact I)|(intros;exact I _)|(intros;exact I _ _)|exact a|exact a _|exact a _ _|exact a _ _ _|(intros;exact a)|(intros;exact a _)|(intros;exact a _ _)|omega|(intros;omega)|(intro h;cases h)|(intro h;simp at h;done)|(intros;simp;done)|skip))):p:=h c g j
def og(h:p:=by first|omega|(intros;omega)|(intro h;cases h;done)|(intro h;simp at h;done)|(intro h;simp at h;omega)|(intro h;simp only[XU,XY]at h;omega)|(intro h;simp only[XU,XY]at h;have:=h.2;omega)|(intros;simp_all;done)|(intros;simp;done)|rfl):p:=h
def oz{r:Prop}(x:r)(h:r->p:=by intro c;(try simp only[go_sem,ff]);all_goals (first|done|((repeat' (with_reducible apply And.intro))<;>first|exact c|exact c.1|exact c.2|exact c.2.1|exact c.2.2|exact c.2.2.1|exact c.2.2.2|exact c.2.2.2.1|exact c.2.2.2.2|exact c.2.2.2.2.1|exact c.2.2.2.2.2|exact c.2.2.2.2.2.1|exact c.2.2.2.2.2.2|exact c _|exact c _ _|exact c _ _ _|exact c.1 _|exact c.1 _ _|exact c.1 _ _ _|exact c.2 _|exact c.2 _ _|exact c.2 _ _ _|exact c.2.1 _|exact c.2.1 _ _|exact c.2.1 _ _ _|exact c.2.2 _|exact c.2.2 _ _|exact c.2.2 _ _ _|exact c.2.2.1 _|exact c.2.2.1 _ _|exact c.2.2.1 _ _ _|exact c.2.2.2 _|exact c.2.2.2 _ _|exact c.2.2.2 _ _ _|exact c.2.2.2.1 _|exact c.2.2.2.1 _ _|exact c.2.2.2.1 _ _ _|exact c.2.2.2.2 _|exact c.2.2.2.2 _ _|exact c.2.2.2.2 _ _ _|exact c.2.2.2.2.1 _|exact c.2.2.2.2.1 _ _|exact c.2.2.2.2.1 _ _ _|exact c.2.2.2.2.2 _|exact c.2.2.2.2.2 _ _|exact c.2.2.2.2.2 _ _ _|exact c.2.2.2.2.2.1 _|exact c.2.2.2.2.2.1 _ _|exact c.2.2.2.2.2.1 _ _ _|exact c.2.2.2.2.2.2 _|exact c.2.2.2.2.2.2 _ _|exact c.2.2.2.2.2.2 _ _ _|(intros;first|exact c|exact c _|exact c _ _)|(intros;first|exact c.1|exact c.1 _|exact c.1 _ _)|(intros;first|exact c.2|exact c.2 _|exact c.2 _ _)|(intros;first|exact c.2.1|exact c.2.1 _|exact c.2.1 _ _)|(intros;first|exact c.2.2|exact c.2.2 _|exact c.2.2 _ _)|(intros;first|exact c.2.2.1|exact c.2.2.1 _|exact c.2.2.1 _ _)|(intros;first|exact c.2.2.2|exact c.2.2.2 _|exact c.2.2.2 _ _)|(intros;first|exact c.2.2.2.1|exact c.2.2.2.1 _|exact c.2.2.2.1 _ _)|(intros;first|exact c.2.2.2.2|exact c.2.2.2.2 _|exact c.2.2.2.2 _ _)|(intros;first|exact c.2.2.2.2.1|exact c.2.2.2.2.1 _|exact c.2.2.2.2.1 _ _)|(intros;first|exact c.2.2.2.2.2|exact c.2.2.2.2.2 _|exact c.2.2.2.2.2 _ _)|(intros;first|exact c.2.2.2.2.2.1|exact c.2.2.2.2.2.1 _|exact c.2.2.2.2.2.1 _ _)|(intros;first|exact c.2.2.2.2.2.2|exact c.2.2.2.2.2.2 _|exact c.2.2.2.2.2.2 _ _)|exact og))):p:=h x
def gI(c:r1)(h:r1->p:=by intro w;(try simp only[go_sem,ff]);all_goals (first|done|((repeat' (with_reducible apply And.intro))<;>first|(apply w<;>omega)|(intros;apply w<;>omega)|exact og))):p:=h c
def Hd{r2:Prop}(c:r1)(a:r2)(h:r1->r2->p:=by intro w I;(try simp only[go_sem,ff]);all_goals (first|done|((repeat' (with_reducible apply And.intro))<;>first|(apply w<;>omega)|(apply I<;>omega)|(intros;apply w<;>omega)|(intros;apply I<;>omega)|exact og))):p:=h c a
def oa3{r2 f:Prop}(c:r1)(g:r2)(j:f)(h:r1->r2->f->p:=by intro w I a;(try simp only[go_sem,ff]);all_goals (first|done|((repeat' (with_reducible apply And.intro))<;>first|(apply w<;>omega)|(apply I<;>omega)|(apply a<;>omega)|(intros;apply w<;>omega)|(intros;apply I<;>omega)|(intros;apply a<;>omega)|exact og))):p:=h c g j
def oa4{r2 f g:Prop}(j:r1)(k:r2)(m:f)(n:g)(h:r1->r2->f->g->p:=by intro w I a c;(try simp only[go_sem,ff]);all_goals (first|done|((repeat' (with_reducible apply And.intro))<;>first|(apply w<;>omega)|(apply I<;>omega)|(apply a<;>omega)|(apply c<;>omega)|(intros;apply w<;>omega)|(intros;apply I<;>omega)|(intros;apply a<;>omega)|(intros;apply c<;>omega)|exact og))):p:=h j k m n
def oN(h:Q .ret s):DW P ro .ret Q s:=jb h
section
variable [Glob P] (C : aO) {s : S} {n nx : Nat} {t : Nat -> D} {h : H} {ok : Prop} {e : Env} {id : Nat} {ops : Array Oper} {draw : Bool} {x y c : Code} {o : Operand} {b : Bool} {p q : Prop}
def oK(ht:p->DW P ro x (thenS (DW P ro y Q) Q) ⟨n,t,h,nx,True,e⟩)(a:q->DW P ro y Q ⟨n,t,h,nx,True,e⟩)(J:exec P (words P) C ops.toList s=⟨n,t,h,nx,ok,e⟩:=by simp only[go_sem,ff];exact rfl)(m:nz P C ops draw:=by exact dok)
  (hok:ok:=by(try simp only[go_sem,ff]);all_goals exact ok0)(j:S.ev ⟨n,t,h,nx,True,e⟩ o = .v (.bool b):=by first|(simp only[go_sem,ff];exact rfl)|exact rfl)(hp:(b=true)=p:=by exact rV)(hq:(b=false)=q:=by exact rV):DW P ro (.seq (.seq (.region id ops draw) (.cond o x .skip)) y) Q s :=
 aj (sM J m hok (cd ht (λk=>bM (a k)) j hp hq))
def oL(ht:p->DW P ro y Q ⟨n,t,h,nx,True,e⟩)(a:q->DW P ro x (thenS (DW P ro y Q) Q) ⟨n,t,h,nx,True,e⟩)(J:exec P (words P) C ops.toList s=⟨n,t,h,nx,ok,e⟩:=by simp only[go_sem,ff];exact rfl)(m:nz P C ops draw:=by exact dok)
  (hok:ok:=by(try simp only[go_sem,ff]);all_goals exact ok0)(j:S.ev ⟨n,t,h,nx,True,e⟩ o = .v (.bool b):=by first|(simp only[go_sem,ff];exact rfl)|exact rfl)(hp:(b=true)=p:=by exact rV)(hq:(b=false)=q:=by exact rV):DW P ro (.seq (.seq (.region id ops draw) (.cond o .skip x)) y) Q s :=
 aj (sM J m hok (cd (λk=>bM (ht k)) a j hp hq))
def wA{a:Nat}(hq:DW P ro x (Gf a (thenS (DW P ro y Q) Q)) ⟨n,t,h,nx,True,e⟩)(J:exec P (words P) C ops.toList s=⟨n,t,h,nx,ok,e⟩:=by simp only[go_sem,ff];exact rfl)(m:nz P C ops draw:=by exact dok)(hok:ok:=by(try simp only[go_sem,ff]);all_goals exact ok0):DW P ro (.seq (.seq (.region id ops draw) (.block a x)) y) Q s:=aj (sM J m hok (dK hq))
def wE(ht:p->DW P ro x Q ⟨n,t,h,nx,True,e⟩)(a:q->DW P ro y Q ⟨n,t,h,nx,True,e⟩)(J:exec P (words P) C ops.toList s=⟨n,t,h,nx,ok,e⟩:=by simp only[go_sem,ff];exact rfl)(m:nz P C ops draw:=by exact dok)(hok:ok:=by(try simp only[go_sem,ff]);all_goals exact ok0)(j:S.ev ⟨n,t,h,nx,True,e⟩ o = .v (.bool b):=by first|(simp only[go_sem,ff];exact rfl)|exact rfl)(hp:(b=true)=p:=by exact rV)(hq:(b=false)=q:=by exact rV):DW P ro (.seq (.region id ops draw) (.cond o x y)) Q s:=sM J m hok (cd ht a j hp hq)
def wG(ht:b=true->DW P ro x Q ⟨n,t,h,nx,True,e⟩)(a:q->DW P ro y Q ⟨n,t,h,nx,True,e⟩)(J:exec P (words P) C ops.toList s=⟨n,t,h,nx,ok,e⟩:=by simp only[go_sem,ff];exact rfl)(m:nz P C ops draw:=by exact dok)(hok:ok:=by(try simp only[go_sem,ff]);all_goals exact ok0)(j:S.ev ⟨n,t,h,nx,True,e⟩ o = .v (.bool b):=by first|(simp only[go_sem,ff];exact rfl)|exact rfl)(hq:(b=false)=q:=by exact rV):DW P ro (.seq (.region id ops draw) (.cond o x y)) Q s:=sM J m hok (Mm j ht (λh=>a (Eq.mp hq h)))
def wF(ht:p->DW P ro x (thenS (DW P ro c Q) Q) ⟨n,t,h,nx,True,e⟩)(a:q->DW P ro y (thenS (DW P ro c Q) Q) ⟨n,t,h,nx,True,e⟩)(J:exec P (words P) C ops.toList s=⟨n,t,h,nx,ok,e⟩:=by simp only[go_sem,ff];exact rfl)(m:nz P C ops draw:=by exact dok)(hok:ok:=by(try simp only[go_sem,ff]);all_goals exact ok0)(j:S.ev ⟨n,t,h,nx,True,e⟩ o = .v (.bool b):=by first|(simp only[go_sem,ff];exact rfl)|exact rfl)(hp:(b=true)=p:=by exact rV)(hq:(b=false)=q:=by exact rV):DW P ro (.seq (.region id ops draw) (.seq (.cond o x y) c)) Q s:=sM J m hok (aj (cd ht a j hp hq))
def wH(ht:b=true->DW P ro x (thenS (DW P ro c Q) Q) ⟨n,t,h,nx,True,e⟩)(a:q->DW P ro y (thenS (DW P ro c Q) Q) ⟨n,t,h,nx,True,e⟩)(J:exec P (words P) C ops.toList s=⟨n,t,h,nx,ok,e⟩:=by simp only[go_sem,ff];exact rfl)(m:nz P C ops draw:=by exact dok)(hok:ok:=by(try simp only[go_sem,ff]);all_goals exact ok0)(j:S.ev ⟨n,t,h,nx,True,e⟩ o = .v (.bool b):=by first|(simp only[go_sem,ff];exact rfl)|exact rfl)(hq:(b=false)=q:=by exact rV):DW P ro (.seq (.region id ops draw) (.seq (.cond o x y) c)) Q s:=sM J m hok (aj (Mm j ht (λh=>a (Eq.mp hq h))))
def oM(ht:b=true->DW P ro x (thenS (DW P ro y Q) Q) ⟨n,t,h,nx,True,e⟩)(a:q->DW P ro y Q ⟨n,t,h,nx,True,e⟩)(J:exec P (words P) C ops.toList s=⟨n,t,h,nx,ok,e⟩:=by simp only[go_sem,ff];exact rfl)(m:nz P C ops draw:=by exact dok)(hok:ok:=by(try simp only[go_sem,ff]);all_goals exact ok0)(j:S.ev ⟨n,t,h,nx,True,e⟩ o = .v (.bool b):=by first|(simp only[go_sem,ff];exact rfl)|exact rfl)(hq:(b=false)=q:=by exact rV):DW P ro (.seq (.seq (.region id ops draw) (.cond o x .skip)) y) Q s:=oK C ht a J m hok j rfl hq
def oT(ht:b=true->DW P ro y Q ⟨n,t,h,nx,True,e⟩)(a:q->DW P ro x (thenS (DW P ro y Q) Q) ⟨n,t,h,nx,True,e⟩)(J:exec P (words P) C ops.toList s=⟨n,t,h,nx,ok,e⟩:=by simp only[go_sem,ff];exact rfl)(m:nz P C ops draw:=by exact dok)(hok:ok:=by(try simp only[go_sem,ff]);all_goals exact ok0)(j:S.ev ⟨n,t,h,nx,True,e⟩ o = .v (.bool b):=by first|(simp only[go_sem,ff];exact rfl)|exact rfl)(hq:(b=false)=q:=by exact rV):DW P ro (.seq (.seq (.region id ops draw) (.cond o .skip x)) y) Q s:=oL C ht a J m hok j rfl hq
def wC(hq:Q .normal ⟨n,t,h,nx,True,e⟩)(h0:a .normal s=DW P ro (.region id ops draw) Q s:=by exact rfl)(J:exec P (words P) C ops.toList s=⟨n,t,h,nx,ok,e⟩:=by simp only[go_sem,ff];exact rfl)(m:nz P C ops draw:=by exact dok)(hok:ok:=by(try simp only[go_sem,ff]);all_goals exact ok0):DW P ro .skip a s:=bM (h0▸Za5 J m hok hq)
end
def wB{x y:Code}{id:Nat}(h:DW P ro x (Gf id (thenS (DW P ro y Q) Q)) s)(h0:a .normal s=DW P ro (.seq (.block id x) y) Q s:=by exact rfl):DW P ro .skip a s:=bM (h0▸aj (dK h))
def wD{x y:Code}{id:Nat}(h:DW P ro x (Gf id (thenS (DW P ro y Q) Q)) s):DW P ro (.seq (.block id x) y) Q s:=aj (dK h)
def oO{f:FuncId}{args:List D}{res:D}(a:P.funcs[f]? = some fn)(h:True->DW P none c (λe s=>(e = .normal\/e = .ret)/\rP P s fn.results.toList /\ ∃k,dU s.h k (tK P fn.results.toList s)/\wk (snap s.h k (tK P fn.results.toList s))=res) { n:=fn.ntmps,t:=λi=>args.getD i .junk,h:=λ_=>none,nx:=0,ok:=True,e:=Env.tt })(p:fn.body=some c:=by exact rfl)(g:fE P f=true:=by kernel_rfl)(j:args.all D.nr=true:=by simp[go_sem,D.nr,aX,aQ])(hn:args.length<=fn.ntmps:=by exact Nat.le_of_ble_eq_true (by kernel_rfl)):PureCt P f args res:=Zie a p g j hn (h trivial)
def oP{f:FuncId}{args:List D}(a:P.funcs[f]? = some fn)(m:(∀r,n<=r->h r=none)->True->DW P none c (λe s=>(e = .normal\/e = .ret)/\rP P s fn.results.toList /\ ∃h' g,(∀r,h' r=s.h r\/h' r=none)/\s.nx<=g/\R (tK P fn.results.toList s) h' g) { n:=fn.ntmps,t:=λi=>args.getD i .junk,h:=h,nx:=n })(p:fn.body=some c:=by exact rfl)(j:fE P f=true:=by kernel_rfl)(hn:args.length<=fn.ntmps:=by exact Nat.le_of_ble_eq_true (by kernel_rfl)):bG P f args h n R:=ZhO a p j hn (λk=>m k trivial)
def oC(C:aO){w a:Nat}{x:Nat->D}{h1:H}{c:Prop}{z:Env}{k:Nat}{m:Array Oper}{A:Bool}{f:Nat}{B:Nat->D}{h2:H}{g:Prop}{O:Env}{o:Array Oper}{E:Bool}{y:Code}(hq:DW P ro y Q ⟨r,B,h2,f,True,O⟩)(p:exec P (words P) C m.toList s=⟨w,x,h1,a,c,z⟩:=by simp only[go_sem,ff];exact rfl)(t:nz P C m A:=by exact dok)(h:c:=by(try simp only[go_sem,ff]);all_goals exact ok0)(u:exec P (words P) C o.toList ⟨w,x,h1,a,True,z⟩=⟨r,B,h2,f,g,O⟩:=by simp only[go_sem,ff];exact rfl)(v:nz P C o E:=by exact dok)(j:g:=by(try simp only[go_sem,ff]);all_goals exact ok0):DW P ro (.seq (.region k m A) (.seq (.region n o E) y)) Q s:=(sM p t h (sM u v j hq))
def oD(C:aO){I a:Nat}{J:Nat->D}{h1:H}{c:Prop}{K:Env}{p:Nat}{t:Array Oper}{L:Bool}{f:Nat}{M:Nat->D}{h2:H}{g:Prop}{O:Env}{u:Nat}{v:Array Oper}{N:Bool}{R h:Nat}{t3:Nat->D}{h3:H}{j:Prop}{T:Env}{w:Nat}{x:Array Oper}{k:Bool}{y:Code}(hq:DW P ro y Q ⟨R,t3,h3,h,True,T⟩)(z:exec P (words P) C t.toList s=⟨I,J,h1,a,c,K⟩:=by simp only[go_sem,ff];exact rfl)(A:nz P C t L:=by exact dok)(m:c:=by(try simp only[go_sem,ff]);all_goals exact ok0)(B:exec P (words P) C v.toList ⟨I,J,h1,a,True,K⟩=⟨r,M,h2,f,g,O⟩:=by simp only[go_sem,ff];exact rfl)(E:nz P C v N:=by exact dok)(n:g:=by(try simp only[go_sem,ff]);all_goals exact ok0)(F:exec P (words P) C x.toList ⟨r,M,h2,f,True,O⟩=⟨R,t3,h3,h,j,T⟩:=by simp only[go_sem,ff];exact rfl)(G:nz P C x k:=by exact dok)(o:j:=by(try simp only[go_sem,ff]);all_goals exact ok0):DW P ro (.seq (.region p t L) (.seq (.region u v N) (.seq (.region w x k) y))) Q s:=(sM z A m (sM B E n (sM F G o hq)))
def oV{r:Prop}(x:r)(h:r->p:=by intro w;(try simp only[go_sem,ff]at w);(try simp only[go_sem,ff]);exact w):p:=h x
section
variable [Glob P] {s : S} {A B q : Prop} {Ks Rs : Nat -> Prop}
theorem fo(K:Nat:=0)(e:Q .ret s=(A/\B /\ ∃k,Ks k/\Rs k):=by exact rfl)(h:Rs K=q:=by first|(simp only[go_sem,ff];exact rfl)|(simp only[go_sem,ff];done)|exact rfl)(k:q)(hk:Ks K:=by(try simp only[go_sem,ff]);all_goals simp)(m:A:=by first|exact .inr rfl|exact .inl rfl|trivial|simp)(p:B:=by simp only[go_sem,ff]):DW P ro .ret Q s:=jb (e▸⟨m,p,K,hk,h▸k⟩)
theorem fp(K:Nat:=0)(e:Q .ret s=(A/\B /\ ∃k,Ks k/\Rs k):=by exact rfl)(h:Rs K:=by(try simp only[go_sem,ff]);all_goals (first|rfl|(simp;done)))(hk:Ks K:=by(try simp only[go_sem,ff]);all_goals simp)(m:A:=by first|exact .inr rfl|exact .inl rfl|trivial|simp)(p:B:=by simp only[go_sem,ff]):DW P ro .ret Q s:=jb (e▸⟨m,p,K,hk,h⟩)
end
section
variable [Glob P] {s : S} {A B q : Prop} {Ks Rs : Nat -> Prop} (C : aO) {n nx : Nat} {t : Nat -> D} {h : H} {ok : Prop} {e : Env} {id : Nat} {ops : Array Oper} {draw : Bool}
theorem fr(J:exec P (words P) C ops.toList s=⟨n,t,h,nx,ok,e⟩:=by simp only[go_sem,ff];exact rfl)(m:nz P C ops draw:=by exact dok)(hok:ok:=by(try simp only[go_sem,ff]);all_goals exact ok0)(K:Nat:=0)(a:Q .ret ⟨n,t,h,nx,True,e⟩=(A/\B /\ ∃k,Ks k/\Rs k):=by exact rfl)(h:Rs K=q:=by first|(simp only[go_sem,ff];exact rfl)|(simp only[go_sem,ff];done)|exact rfl)(k:q)(hk:Ks K:=by(try simp only[go_sem,ff]);all_goals simp)(c:A:=by first|exact .inr rfl|exact .inl rfl|trivial|simp)(p:B:=by simp only[go_sem,ff]):DW P ro (.seq (.region id ops draw) .ret) Q s:=sM J m hok (fo K a h k hk c p)
def ft(J:exec P (words P) C ops.toList s=⟨n,t,h,nx,ok,e⟩:=by simp only[go_sem,ff];exact rfl)(m:nz P C ops draw:=by exact dok)(hok:ok:=by(try simp only[go_sem,ff]);all_goals exact ok0)(K:Nat:=0)(a:Q .ret ⟨n,t,h,nx,True,e⟩=(A/\B /\ ∃k,Ks k/\Rs k):=by exact rfl)(h:Rs K:=by(try simp only[go_sem,ff]);all_goals (first|rfl|(simp;done)))(hk:Ks K:=by(try simp only[go_sem,ff]);all_goals simp)(c:A:=by first|exact .inr rfl|exact .inl rfl|trivial|simp)(p:B:=by simp only[go_sem,ff]):DW P ro (.seq (.region id ops draw) .ret) Q s:=sM J m hok (fp K a h hk c p)
end
def pos{i k:Nat}(R:i<=k:=by omega)(t:ops[k]? = some o:=by exact dP rfl)(M:o.guard=none:=by exact rfl)(J:bu P (words P) C ops.toList b i ((ops.toList.drop i).take (k-i)) s=s1:=by simp only[X9,X4,X5,Yf,S.put,Yq,Nat.reduceSub,go_sem,ff];first|done|exact rfl)(hok:s1.ok:=by(try simp only[go_sem,ff]);all_goals exact ok0)(m:dN s1.n o.dst=true:=by(try simp only[go_sem,ff]);all_goals (first|done|rfl|decide|simp)):eG P C ops i k o b s s1:=⟨R,t,M,J,hok,m⟩
end
section
variable {P : Program} {ro : Option Nat} {Q : Exit -> S -> Prop} [Glob P] (C : aO) {s s1 : S} {n nx : Nat} {t : Nat -> D} {h : H} {ok : Prop} {e : Env} {id : Nat} {ops : Array Oper} {y : Code}
def rgnP(ps:List Pr)(hq:Q .normal ⟨n,t,h,nx,True,e⟩)(J:exec P (words P) C ops.toList s=⟨n,t,h,nx,ok,e⟩:=by simp only[go_sem,ff];exact rfl)(m:P.follows .mixedOrders=true/\xW C ops.toList none ps=true/\qX ops.toList=true:=by exact⟨zQ,by kernel_rfl,by kernel_rfl⟩)
  (a : ∀p∈ps,∀r∈kW ops.toList s.nx p.j ⟨n,t,h,nx,ok,e⟩,r ∉ kW ops.toList s.nx p.i ⟨n,t,h,nx,ok,e⟩:=by simp only[Yl,Y2,or_false,forall_eq_or_imp,forall_eq,kW,foot,aU,tX,X7,Yy,List.getD_cons_succ,List.getD_cons_zero,XX,XZ,YH,go_sem,ff];(first|done|((repeat' (with_reducible apply And.intro))<;>first|omega|(intros;omega)|(intros;simp;omega))))
  (hok:ok:=by(try simp only[go_sem,ff]);all_goals exact ok0):DW P ro (.region id ops true) Q s:=QI ps m J a hok hq
def Nv(ps:List Pr)(hq:DW P ro y Q ⟨n,t,h,nx,True,e⟩)(J:exec P (words P) C ops.toList s=⟨n,t,h,nx,ok,e⟩:=by simp only[go_sem,ff];exact rfl)(m:P.follows .mixedOrders=true/\xW C ops.toList none ps=true/\qX ops.toList=true:=by exact⟨zQ,by kernel_rfl,by kernel_rfl⟩)
  (a : ∀p∈ps,∀r∈kW ops.toList s.nx p.j ⟨n,t,h,nx,ok,e⟩,r ∉ kW ops.toList s.nx p.i ⟨n,t,h,nx,ok,e⟩:=by simp only[Yl,Y2,or_false,forall_eq_or_imp,forall_eq,kW,foot,aU,tX,X7,Yy,List.getD_cons_succ,List.getD_cons_zero,XX,XZ,YH,go_sem,ff];(first|done|((repeat' (with_reducible apply And.intro))<;>first|omega|(intros;omega)|(intros;simp;omega))))
  (hok:ok:=by(try simp only[go_sem,ff]);all_goals exact ok0):DW P ro (.seq (.region id ops true) y) Q s:=aj (QI ps m J a hok hq)
end
section
variable {Q:Exit->S->Prop}
def HM.shrink(v:HM P h g w)(hr:h r=some bl)(k:Nat):HM P (upd h r (some ⟨bl.ty,bl.rows.take k⟩)) g w:=by
 refine⟨λq K=>?_,λq a K=>?_,v.inj,v.used,v.imm,v.gr⟩
 .
  by_cases e:q=r
  . subst e;rw[bI]at K;cases K
  rw[aI _ _ _ _ e]at K;exact v.dead q K
 by_cases e:q=r
 .
  subst e;rw[bI]at K;cases K;let⟨G,c,J,Y,A,f,U⟩:=v.blk q bl hr;refine⟨G,c,J,Y,Yd (by simp;omega) A,f,U.imp id ?_⟩;rintro⟨b,L,y,O,j,m,n⟩;refine⟨b,L,y,O,j,m,λi row hi=>?_⟩;simp only[Zc]at hi;split at hi
  . exact n i row hi
  cases hi
 rw[aI _ _ _ _ e]at K;exact v.blk q a K
theorem ZoJ(hm:HM P h g w)(ht:P.underlying t=some (.slice e))(hr:h r=some ⟨e,rows⟩)(hz:eH P e=true)(ho:(zeroCells P e).all D.one=true)(hl:off+len<=rows.length)(hv:ae w g (.mrow r off len) v)(ty:TypeId) :
  ∃g' w',(Builtin.clear_ #[t] ty #[v]).run P w = .ok (.tuple #[]) w'/\HM P (upd h r (some ⟨e,rows.take off⟩)) g' w'/\ay g g' w w' /\ ∀r,g'.U r->g.U r:=by
 cases hv with|mrow _ _ _ _ E Z ac =>
 let⟨b8,c,J,Y,h3,h4,U⟩:=hm.blk r _ hr;simp only at J Y h3 U;let⟨p1,p2⟩:=ac _ _ _ J;by_cases hn:len=0
 . subst hn;obtain⟨a,c',rfl,_,_⟩:=E;refine⟨g,w,?_,hm.shrink hr off,ay.refl _ _,λ_ k=>k⟩;cases a<;>simp[Builtin.clear_,run_underlying ht]
 rcases U with⟨_,f⟩|⟨b,L,rfl,W,h7,T,V⟩
 . omega
 rcases p2 with⟨f,_⟩|⟨f,b',am,rfl⟩
 . omega
 cases am;have W:=W.cells p1.2;have h7:=h7 p1.2;let⟨i,hi,N⟩:=yL Y;have b9:=hz;unfold eH at hz;cases n:i.zero with
 | none=>simp[hi,n]at hz
 | some z =>
  simp only[hi,n,Option.bind_some,YF]at hz;have aq : ∀w,(zeroValue e).run P w = .ok z w:=λw=>by simp[zeroValue,typeInfo,hi,n]
  have o:(Builtin.zeroCells z.cells len).toList.length=len*P.cellsOf e:=by simp[size_zeroCells,hz]
  have M : ∀u∈(Builtin.zeroCells z.cells len).toList,u.oneCell'=true:=by intro u hu;have ar:=(CB hi n w g ho).2.1;unfold Builtin.zeroCells at hu;simp only[Array.toList_map,Yp]at hu;obtain⟨k,_,rfl⟩:=hu;have X:k % z.cells.size<z.cells.size:=Nat.mod_lt _ om;rw[getElem!_pos z.cells _ X];exact ar _ (by simp)
  have x:(off+len)*P.cellsOf e<=c*P.cellsOf e:=Y9 _ om;rw[Zn]at x;have O:off*P.cellsOf e+(Builtin.zeroCells z.cells len).toList.length<=L.size:=by rw[o,h7];exact x
  have B:=run_storeCells_at P b (off*P.cellsOf e) e (Builtin.zeroCells z.cells len).toList 0 L w W (by simpa using O) M;simp only[Zx]at B;generalize F:(List.take (off*P.cellsOf e) L.toList++(Builtin.zeroCells z.cells len).toList++List.drop (off*P.cellsOf e+(Builtin.zeroCells z.cells len).toList.length) L.toList)=new at B;have aw:new.length=L.size:=by have y:L.toList.length=L.size:=Array.length_toList;rw[<-F,X3,X3,YO,Yw,y];omega
  have R : ∀k,k<off*P.cellsOf e->new[k]? = L[k]? := by
   intro k X;rw[<-F,YR,Y7 (by simp only[YO,Array.length_toList];omega),Zc,X0 X];simp
  let⟨g',g1,g2,g3,g4,g5⟩:=hm.put (h':=upd h r (some ⟨e,rows.take off⟩)) (w':=w.setRow b new.toArray) r b c ⟨e,rows.take off⟩ new.toArray (.inr J) (bI _ _ _) (λr' I=>.inl (aI _ _ _ _ I)) (.inr ⟨r,c,_,J,.inl rfl⟩)
   (setRow_heap w b L _ e _ W) (by simp[aw,h7]) Y (by simp;omega) p1.2 (by
    intro i' ab p;simp only[Zc]at p;split at p
    .
     rename_i K;let⟨G,k2⟩:=V i' ab p;refine⟨G,λj d A=>?_⟩;have b7:j<P.cellsOf e:=by have:=(X8.1 A).1;simp only at G;omega
     let⟨u,u1,u2,u3⟩:=k2 j d A;refine⟨u,?_,u2,u3⟩;simp only[List.getElem?_toArray];rw[R _ (BL K b7)];exact u1
    cases p) ⟨rfl,rfl,rfl,by simp,λk _ X=>setRow_other w b k _ (λe=>X (by rw[e]))⟩
  refine⟨g',_,?_,g4,g5,λr' I=>?_⟩
  . obtain⟨m,rfl⟩:∃m,len=m+1:=⟨len-1,om⟩;simp[Builtin.clear_,run_underlying ht,aq,B]
  rcases(g2 r').1 I with k|k
  . exact k
  subst k;exact Z
def Kg{i:Nat}(k:Nat)(R:i<=k)(j:ops[k]? = some o)(M:o.guard=none)(f:o.op = .call { callee:=.builtin .clear,args:=#[x],argTypes:=#[t] })(ht:P.underlying t=some (.slice e))(hz:eH P e=true)(h1:(zeroCells P e).all D.one=true)(J:bu P (words P) C ops.toList b i ((ops.toList.drop i).take (k-i)) s=s1)(hok:s1.ok)(m:dN s1.n o.dst=true)(E:s1.ev x = .mrow r off len)(hr:s1.h r=some ⟨e,rows⟩)(v:off+len<=rows.length)(hk:aA P ro ops (k+1) b { n:=s1.n,t:=s1.put o.dst (.tuple []),h:=upd s1.h r (some ⟨e,rows.take off⟩),nx:=s1.nx,ok:=True,e:=s1.e } Q):aA P ro ops i b s Q:=by refine jP (C:=C) k (λd I=>d = .tuple []/\I=upd s1.h r (some ⟨e,rows.take off⟩)) R j M (λc e=>by rw[f]at e;cases e) J hok m (λB g a w N _=>?_) (λd I⟨y,p⟩=>by subst y;subst p;exact hk);have u:=bT N x;rw[E]at u;let⟨L,T,z,W,A,F⟩:=ZoJ N.mem ht hr hz h1 v u o.type;refine⟨.tuple [],_,⟨rfl,rfl⟩,.tuple #[],L,T,.inl ?_,.mk_tuple (vs:=#[]) .nil,W,A,λr hr=>.inl (F r hr)⟩;let⟨G,K,O,op,U,og⟩:=o;simp only at f;subst f;simp[Go.BigFrame.execOp_builtin,Go.BigFrame.builtin_clear,z]
section
variable {C : aO}
end
section
variable [Glob P] (C : aO) {s s1 : S} {id : Nat} {ops : Array Oper} {o : Oper} {f : Operand} {args : Array Operand} {ts : Array TypeId} {aY : FuncId} {first aD xs : List D} {R : D -> H -> Nat -> Prop}
end
end
variable{E:Env}{hi y:Operand}{kk:IntKind}{news:List (List D)}{u:TypeId}
section
variable {Q:Exit->S->Prop}
def JB(v:HM P h g w){c:Nat}{cs:List Value}(hr:h r=some ⟨e,rows⟩)(u:g.M r=some (some b,c,P.cellsOf e))(m:c<=maxLen)(M:RowsIn w g (P.cellsOf e) news cs)(t:off<=rows.length)(j:off+news.length<=c) :
  ∃L:Array Value,w.heap[b]? = some (.cells L e (0,0))/\off*P.cellsOf e+cs.length<=L.size /\ ∀new:Array Value,new=(L.toList.take (off*P.cellsOf e)++cs++L.toList.drop (off*P.cellsOf e+cs.length)).toArray ->
   ∃g',g'.M r=g.M r/\g'.U r/\HM P (upd h r (some ⟨e,rows.take off++news++rows.drop (off+news.length)⟩)) g' (w.setRow b new)/\ay g g' w (w.setRow b new) /\ ∀q,g'.U q->g.U q:=by
 let⟨R,c',J,Y,A,h4,U⟩:=v.blk r _ hr;rw[u]at J;simp only[Yj,YL]at J;obtain⟨rfl,rfl,_⟩:=J;rcases U with⟨U,_⟩|⟨b',L,U,G,n,_,E⟩
 . cases U
 cases U;have G:=G.cells m;have n:=n m;simp only at Y A G n E;have x:cs.length=news.length*P.cellsOf e:=M.1;have z:off*P.cellsOf e+cs.length<=L.size:=by rw[x,n,<-Zn];exact Y9 _ j
 refine⟨L,G,z,λnew a=>?_⟩;have y:L.toList.length=L.size:=Array.length_toList;have o:new.size=L.size:=by rw[a];simp;omega
 have T:=E.rowsIn 0 off (by show 0+off<=rows.length;omega) (by rw[n];exact Y9 _ A);have V:=T.append M;have B:off+news.length+(rows.length-(off+news.length))<=rows.length\/rows.length-(off+news.length)=0:=by omega
 have W:RowsIn w g (P.cellsOf e) (rows.drop (off+news.length)) ((L.toList.drop ((off+news.length)*P.cellsOf e)).take ((rows.length-(off+news.length))*P.cellsOf e)):=by
  rcases B with F|F
  . have:=E.rowsIn (off+news.length) (rows.length-(off+news.length)) F (by rw[n];exact Y9 _ A);have O:(rows.drop (off+news.length)).take (rows.length-(off+news.length))=rows.drop (off+news.length):=Ye (by simp);rw[O]at this;exact this
  have O:rows.drop (off+news.length)=[]:=Y5 om;rw[O,F];simpa using RowsIn.nil
 have f:=V.append W;simp only[X4,Nat.zero_mul]at f;have I:(rows.take off++news++rows.drop (off+news.length)).length<=c:=by simp;omega
 have p:off*P.cellsOf e+cs.length=(off+news.length)*P.cellsOf e:=by rw[x,Zn]
 let⟨g',Z,N,g3,g4,g5⟩:=v.put (h':=upd h r (some ⟨e,rows.take off++news++rows.drop (off+news.length)⟩)) (w':=w.setRow b new) r b c ⟨e,rows.take off++news++rows.drop (off+news.length)⟩ new (.inr u) (bI _ _ _) (λq K=>.inl (aI _ _ _ _ K)) (.inr ⟨r,c,_,u,.inl rfl⟩)
  (setRow_heap w b L _ e _ G) (by rw[o,n]) Y I m (f.holds (by
   rw[a];simp only[p];generalize List.take (off*P.cellsOf e) L.toList++cs=X;rw[X3,List.take_append,Ye (by omega),Nat.add_sub_cancel_left,YO];congr 1;rw[List.take_eq_take_iff];omega))
  ⟨rfl,rfl,rfl,by simp,λk _ hk=>setRow_other w b k _ (λe=>hk (by rw[e]))⟩
 refine⟨g',by rw[Z,u],(N r).2 (.inr rfl),g4,g5,λq K=>?_⟩;rcases(N q).1 K with k|k
 . exact k
 subst k;exact v.used q (by rw[u];simp)
def WG(B:HM P h g w){k:Nat}(hr:h r=some ⟨e,rows⟩)(hv:ae w g (.mrow r off len) v)(hk:k<=len)(F:off+k<=rows.length) :
  ∃M,RowsIn w g (P.cellsOf e) ((rows.drop off).take k) M/\(∀w',(Builtin.lenOf v).run P w' = .ok len w') /\ ∀w',w'.heap=w.heap->(Builtin.firstCells (P.cellsOf e) k v).run P w' = .ok M.toArray w':=by
 let⟨I,c,J,Y,u,W,U⟩:=B.blk r _ hr;cases hv with|mrow _ _ _ _ E Z f =>
 let⟨x,K⟩:=f _ _ _ J;simp only at Y u U;by_cases m:k=0
 . subst m;obtain⟨a,R,rfl,_,_⟩:=E;refine⟨[],by simpa using RowsIn.nil,λw'=>by simp[Builtin.lenOf],λw' _=>?_⟩;cases a<;>simp[Builtin.firstCells,loadCells,loadCellsFrom]
 rcases K with⟨_,a,rfl⟩|⟨N,b,rfl,rfl⟩
 . let⟨t,R,y,O,_⟩:=E;cases y;omega
 rcases U with⟨U,_⟩|⟨X,L,U,G,n,_,T⟩
 . cases U
 cases U;have G:=G.cells x.2;have n:=n x.2;have z:RowsIn w g (P.cellsOf e) ((rows.drop off).take k) ((L.toList.drop (off*P.cellsOf e)).take (k*P.cellsOf e)):=T.rowsIn off k F (by rw[n];exact Y9 _ u);refine⟨_,z,λw'=>by simp[Builtin.lenOf],λw' V=>?_⟩;have o:=z.1;have p:((rows.drop off).take k).length=k:=by rw[YO,Yw];omega
 rw[p]at o;refine run_firstCells_some (P:=P) w' (P.cellsOf e) k _ len _ _ o λj v A=>?_;rw[oQ,cell_of_row w' b _ L e (0,0) (by rw[V];exact G)];rw[Zc]at A;split at A
 . rw[Y4]at A;simpa using A
 cases A
def Zpw(p:HM P h g w){y:D}{K M:Value}(ht:P.underlying t=some (.slice e))(hr:h r=some ⟨e,rows⟩)(T:ae w g (.mrow r off n) K)(o:ae w g y M)(x:(aG y h).length=bQ y)(hs:iy P u h y=true)(hrl : ∀q∈aG y h,q.length=P.cellsOf e)(h0:off<rows.length)(N:off+n+(aG y h).length<=rows.length)(ty:TypeId) :
  ∃v g' w',(Builtin.append_ #[t,u] ty #[K,M]).run P w = .ok v w'/\ae w' g' (.mrow r off (n+(aG y h).length)) v/\HM P (upd h r (some ⟨e,rows.take (off+n)++aG y h++rows.drop (off+n+(aG y h).length)⟩)) g' w'/\ay g g' w w' /\ ∀q,g'.U q->g.U q:=by
 let⟨G,c,J,Y,A,h4,U⟩:=p.blk r _ hr;simp only at J Y A;let⟨i,hi,E⟩:=yL Y;let⟨O,R,V,X,r4⟩:=Fa p o Y x hrl hs;cases T with|mrow _ _ _ _ fI Z z =>
 let⟨p1,k⟩:=z _ _ _ J;rcases k with⟨f,_⟩|⟨f,b,rfl,rfl⟩
 . omega
 let⟨L,c1,I,a⟩:=JB p (off:=off+n) hr J p1.2 R om om;let⟨g',B,W,q3,q4,q5⟩:=a _ rfl;have j:n+(aG y h).length<=c-off:=by omega
 have m:=Zcr (P:=P) ht hi (r4 w) ty b (off*P.cellsOf e) n (c-off) (by rw[x];exact V w) j (by rw[E,x];exact X w rfl) R.one c1 (by rw[E];rw[Zn]at I;exact I);rw[E,<-Zn]at m;refine⟨_,g',_,m,.mrow r off _ _ ⟨_,_,rfl,j,λ_=>⟨_,rfl⟩⟩ W λG c' sz F=>?_,q3,q4,q5⟩;rw[B,J]at F;simp only[Yj,YL]at F;obtain⟨rfl,rfl,rfl⟩:=F;exact⟨om,.inr ⟨f,b,rfl,rfl⟩⟩
def Zot(v:HM P h g w){r2 x k:Nat}{p:List (List D)}{N R:Value}(ht:P.underlying t=some (.slice e))(hr:h r=some ⟨e,rows⟩)(z:h r2=some ⟨e,p⟩)(E:ae w g (.mrow r off len) N)(o:ae w g (.mrow r2 n x) R)(hk:k=min x len)(h0:0<k)(ho:off<=rows.length)(hl:n+k<=p.length)(ty:TypeId) :
  ∃g' w',(Builtin.copy_ #[t,u] ty #[N,R]).run P w = .ok (.int .i64 k) w'/\HM P (upd h r (some ⟨e,rows.take off++(p.drop n).take k++rows.drop (off+k)⟩)) g' w'/\ay g g' w w' /\ ∀q,g'.U q->g.U q:=by
 let⟨G,c,J,Y,A,h4,U⟩:=v.blk r _ hr;simp only at J Y A;have F:k<=len:=by omega
 let⟨M,T,l1,f1⟩:=WG v z o (k:=k) om hl;have j:((p.drop n).take k).length=k:=by rw[YO,Yw];omega
 cases E with|mrow _ _ _ _ fI Z K =>
 let⟨V,p2⟩:=K _ _ _ J;rcases p2 with⟨f,a,rfl⟩|⟨f,b,rfl,rfl⟩
 . let⟨a',c',y,O,_⟩:=fI;cases y;omega
 let⟨L,c1,I,c3⟩:=JB v (off:=off) hr J V.2 T ho (by rw[j];exact Yd (Nat.add_le_add_left F _) V.1);let⟨g',q1,W,X,q4,q5⟩:=c3 _ rfl;rw[j]at X;have B:=run_storeCells_at P b (off*P.cellsOf e) e M 0 L w c1 (by simpa using I) T.one;simp only[Zx]at B;have m:Nat.min x len=k:=hk.symm;refine⟨g',_,?_,X,q4,q5⟩;simp[Builtin.copy_,run_underlying ht,l1,rG Y,m,f1,B,goInt]
def Env.lim(E:Env)(r c:Nat):Env where
 p:=λg w=>E.p g w/\g.U r /\ ∀G a f,g.M r=some (G,a,f)->a=c
 x:=E.x
 st:=λP _ h g L w T v k⟨j,Y,A⟩=>⟨E.st P h g L w T v k j,@ay.U drF _ _ _ _ k r Y,λG a f J=>by
  rcases @ay.M drF _ _ _ _ k r Y with e|e
  . exact A G a f (e▸J)
  . rw[e]at J;cases J⟩
theorem Zpu(X:HM P h g w){m c:Nat}{vx:Value}(p : ¬g.U b)(ht:P.underlying t=some (.slice e))(hu:P.underlying u=some (.int kk))(hr:h r=some ⟨e,rows⟩)(E:ae w g (.mrow r off n) vx)(hM : ∀G W sz,g.M r=some (G,W,sz)->W=c)(hz:eH P e=true)(ab:(zeroCells P e).all D.one=true)(L:(zeroCells P e).length=P.cellsOf e)(hc:c<off+n+m)(hl:off+n<=rows.length)(hby:(n+m)*P.bytesOf e<=140737488355328)(h63:n+m<=4611686018427387904)(ty:TypeId) :
  ∃v g' w',(Builtin.append_ #[t,u] ty #[vx,.int .i64 m]).run P w = .ok v w'/\ae w' g' (.mrow b 0 (n+m)) v/\HM P (upd h b (some ⟨e,(rows.drop off).take n++List.replicate m (zeroCells P e)⟩)) g' w'/\ay g g' w w' /\ ∀q,g'.U q->g.U q\/q=b:=by
 let⟨G,W,J,Y,A,h4,U⟩:=X.blk r _ hr;simp only at J Y A;have ac:=hM _ _ _ J;subst ac;let⟨i,hi,N⟩:=yL Y;have o:=hz;unfold eH at o;cases B:i.zero with
 | none=>simp[hi,B]at o
 | some z =>
 simp only[hi,B,Option.bind_some,YF]at o;have Ir:i.bytes=P.bytesOf e:=by simp[Program.bytesOf,hi]
 let⟨x,o1,o2,o3⟩:=WG X hr E (k:=n) (XW _) hl;have hv : ∃a I,vx = .slice a n I/\n<=I/\I<=W-off:=by
  cases E with|mrow _ _ _ _ fI hU am =>
  let⟨p1,p2⟩:=am _ _ _ J;rcases p2 with⟨f,a,rfl⟩|⟨f,b0,rfl,rfl⟩
  . let⟨a',b9,y,O,_⟩:=fI;cases y;exact⟨a,0,rfl,XW _,Yh _⟩
  exact⟨_,_,rfl,om,XW _⟩
 obtain⟨a,I,rfl,v1,v2⟩:=hv;have aq:I<n+m:=by omega
 have bb:0<m:=by omega
 have M:RowsIn w g (P.cellsOf e) (List.replicate m (zeroCells P e)) (Builtin.zeroCells z.cells m).toList:=by
  refine⟨by simp[size_zeroCells,o],λj row hj=>?_⟩;let⟨R,Il⟩:=X8.1 hj;simp only[List.length_replicate]at R;simp only[List.getElem_replicate]at Il;subst Il;refine⟨L,λq d hq=>?_⟩;let⟨ar,T,be⟩:=CB (P:=P) hi B w g ab;have Ic:q<P.cellsOf e:=by have:=(X8.1 hq).1;omega
  refine⟨z.cells[q]!,?_,?_,?_⟩
  . simp only[Zf];have K:=BL R Ic;unfold Builtin.zeroCells;simp only[Array.getElem?_map,o];rw[Array.getElem?_range,X0 K];simp only[YZ];rw[ZF,Z0,ZC Ic]
  .
   have F:q<z.cells.size:=by omega
   rw[getElem!_pos z.cells q F];exact T _ (by simp)
  have F:q<z.cells.size:=by omega
  rw[getElem!_pos z.cells q F];exact ar.2 q d _ hq (by simp[F])
 have V:((rows.drop off).take n++List.replicate m (zeroCells P e)).length=n+m:=by simp;omega
 have aw:=grownCap_ge w (n+m) I e;let⟨g',k1,k2,k3,k4⟩:=LB (h':=upd h b (some ⟨e,(rows.drop off).take n++List.replicate m (zeroCells P e)⟩)) X p (o1.append M) Y o (bI _ _ _) (λr hr=>.inl (aI _ _ _ _ hr)) (grownCap w (n+m) I e) (by rw[V];exact aw) (by omega)
  (grownCap_le_maxLen _ _ _ _ o2V)
 rw[V]at k1 k2 k3;have b7:(Builtin.append_ #[t,u] ty #[.slice a n I,.int .i64 m]).run P w = .ok (.slice (some ⟨w.heap.size,0,none⟩) (n+m) (grownCap w (n+m) I e))
   (w.drew.alloc (.cells ((x++(Builtin.zeroCells z.cells m).toList).toArray++Builtin.zeroCells z.cells (grownCap w (n+m) I e-(n+m))) e)):=by
  have y : ¬(n+m<=I):=by omega
  have O:IntKind.i64.wrap (m:Int)=m:=by rw[IntKind.wrap_i64];omega
  have e3 : ¬((m:Int)<0):=by omega
  have bh:m*P.bytesOf e<=140737488355328:=Yd (Y9 _ om) hby;have e4 : ¬(281474976710656<(m:Int)*(i.bytes:Int)):=by
   rw[Ir];have e9:((m*P.bytesOf e:Nat):Int)=(m:Int)*(P.bytesOf e:Int):=by simp
   omega
  have e5 : ¬(9223372036854775807<(n:Int)+(m:Int)):=by omega
  have b8 : ¬(281474976710656<Builtin.nextslicecap (n+m) I*i.bytes):=by have:=growslice_fits (bytes:=i.bytes) aq (by rw[Ir];exact hby);omega
  have e6 : ¬(m*P.cellsOf e=0):=by intro h;rcases Nat.mul_eq_zero.1 h with h|h<;>omega
  have e7 : ¬(m*i.size=0):=by rw[N];exact e6
  have ho:=o3 w.drew rfl;rw[<-N]at ho;have eA : ∀Z:Array Value,(x++(Builtin.zeroCells z.cells m).toList).toArray++Z=x.toArray++(Builtin.zeroCells z.cells m++Z):=λZ=>by apply Zr;simp
  rw[eA];simp[Builtin.append_,run_underlying ht,run_underlying hu,sizeOf,typeInfo,zeroValue,hi,B,asInt,asIntOf,y,O,e3,e4,e5,e7,b8,Question.forced,ho,newRow,grownCap]
 exact⟨_,g',_,b7,k1,k2,k3,k4⟩
def Uv{i:Nat}(k:Nat)(A:D->H->Env->Prop)(R:i<=k)(G:ops[k]? = some o)(M:o.guard=none)(j : ∀c,o.op ≠ .defer c)(J:bu P (words P) C ops.toList b i ((ops.toList.drop i).take (k-i)) s=s1)(hok:s1.ok)(m:dN s1.n o.dst=true)(u : ∀(B:dn)(g:Mem)(a:Act)(w:World),St P B s1 g a w -> ¬g.U (b+k) -> ∃d h' E v g' w',A d h' E/\E.x=s1.e.x/\(execOp a.eval o).run P w = .ok (.value v) w'/\ae w' g' d v/\HM P h' g' w'/\ay g g' w w'/\(∀r,g'.U r->g.U r\/r=b+k)/\E.p g' w')(hk : ∀d h' E,A d h' E->aA P ro ops (k+1) b { n:=s1.n,t:=s1.put o.dst d,h:=h',nx:=s1.nx,ok:=True,e:=E } Q):aA P ro ops i b s Q:=by
 intro B T g a V w X Y Z;have K:k<ops.size:=(Yo.1 G).1;have O:List.range' i (ops.size-i)=List.range' i (k-i)++(k::List.range' (k+1) (ops.size-(k+1))):=by
  have:ops.size-i=(k-i)+((ops.size-(k+1))+1):=by omega
  rw[this,<-Zo,Zd];have y:i+(k-i)=k:=by omega
  rw[y]
 rw[O];refine wm (C:=C) (b:=b) (k-i) i s g a w X Y Z (by omega) o3r λI N w1 F x p=>?_;rw[J]at F;have p : ∀r,I.U r->r<b+k:=λr O=>by have:=p r O;omega
 have z:s1.e=s.e:=by rw[<-J];exact wo _ _ _ _ _
 rw[wpOpsIn_cons];unfold wpOpIn;rw[G];simp only;have hw:Region.wanted o (yielded ops N.tmps)=true:=by simp[Region.wanted,M]
 rw[X0 hw];have kz:o.semAt (Fw ro).round N.eval=execOp N.eval o:=Oper.semAt_eq _ _ _ j;refine⟨λ_ _=>trivial,?_⟩;rw[kz];let⟨d,h',E,v,g',w',hA,hx,U,q1,W,L,q4,q5⟩:=u B I N w1 F (λh=>Nat.lt_irrefl _ (p _ h));have f:=nL F L W m q1 True;have:=hk d h' E hA B T g' (N.put o.dst v) V w' ⟨f.sz,f.tm,f.mem,f.df,q5,f.bd⟩ (x.trans L) (λr O=>by
  rcases q4 r O with h|h
  . have:=p r h;omega
  omega)
 simp only[hx,z]at this;rw[U,Oper.uponIn_value];exact this
section
variable [Glob P] {C : aO} {s s1 : S} {ops : Array Oper} {i b : Nat} {o : Oper}
def ZgJ(k:Nat){f:D}(R:i<=k)(K:ops[k]? = some o)(M:o.guard=none)(j:o.op = .call { callee:=.builtin .append,args:=#[x,y],argTypes:=#[t,u] })(ht:P.underlying t=some (.slice e))(J:bu P (words P) C ops.toList b i ((ops.toList.drop i).take (k-i)) s=s1)(hok:s1.ok)(m:dN s1.n o.dst=true)(E:s1.ev x = .mrow r off n)(F:s1.ev y=f)(hr:s1.h r=some ⟨e,rows⟩)(N:(aG f s1.h).length=bQ f)(hs:iy P u s1.h f=true)(hrl : ∀q∈aG f s1.h,q.length=P.cellsOf e)(h0:off<rows.length)(A:off+n+(aG f s1.h).length<=rows.length)(hk:aA P ro ops (k+1) b { n:=s1.n,t:=s1.put o.dst (.mrow r off (n+(aG f s1.h).length)),h:=upd s1.h r (some ⟨e,rows.take (off+n)++aG f s1.h++rows.drop (off+n+(aG f s1.h).length)⟩),nx:=s1.nx,ok:=True,e:=s1.e } Q):aA P ro ops i b s Q:=by subst F;refine jP (C:=C) k (λd I=>d = .mrow r off (n+(aG (s1.ev y) s1.h).length)/\I=upd s1.h r (some ⟨e,rows.take (off+n)++aG (s1.ev y) s1.h++rows.drop (off+n+(aG (s1.ev y) s1.h).length)⟩)) R K M (λc e=>by rw[j]at e;cases e) J hok m (λB g a w z _=>?_) (λd I⟨F,p⟩=>by subst F;subst p;exact hk);have G:=bT z x;rw[E]at G;let⟨v,L,T,O,W,U,V,X⟩:=Zpw z.mem ht hr G (bT z y) N hs hrl h0 A o.type;refine⟨_,_,⟨rfl,rfl⟩,v,L,T,.inl ?_,W,U,V,λr hr=>.inl (X r hr)⟩;let⟨Y,Z,gT,op,oa,og⟩:=o;simp only at j;subst j;simp[Go.BigFrame.execOp_builtin,Go.BigFrame.builtin_append,O]
def Zgy(k:Nat){r2 A U:Nat}(m:Nat){F:List (List D)}(z9:eG P C ops i k o b s s1)(f:o.op = .call { callee:=.builtin .copy,args:=#[x,y],argTypes:=#[t,u] })(ht:P.underlying t=some (.slice e))(E:s1.ev x = .mrow r off len)(K:s1.ev y = .mrow r2 A U)(hr:s1.h r=some ⟨e,rows⟩)(N:s1.h r2=some ⟨e,F⟩)(v:m=min U len)(h0:0<m)(O:off<=rows.length)(X:A+m<=F.length)(hk:aA P ro ops (k+1) b { n:=s1.n,t:=s1.put o.dst (.i m),h:=upd s1.h r (some ⟨e,rows.take off++(F.drop A).take m++rows.drop (off+m)⟩),nx:=s1.nx,ok:=True,e:=s1.e } Q):aA P ro ops i b s Q:=by let⟨R,Y,M,J,G,Z⟩:=z9;refine jP (C:=C) k (λd I=>d = .i m/\I=upd s1.h r (some ⟨e,rows.take off++(F.drop A).take m++rows.drop (off+m)⟩)) R Y M (λc e=>by rw[f]at e;cases e) J G Z (λB g a w j _=>?_) (λd I⟨K,p⟩=>by subst K;subst p;exact hk);have V:=bT j x;rw[E]at V;have z:=bT j y;rw[K]at z;let⟨L,T,q1,W,q3,q4⟩:=Zot (u:=u) j.mem ht hr N V z v h0 O X o.type;refine⟨_,_,⟨rfl,rfl⟩,_,L,T,.inl ?_,.v _,W,q3,λr hr=>.inl (q4 r hr)⟩;let⟨od,oo,gT,op,oa,og⟩:=o;simp only at f;subst f;simp[Go.BigFrame.execOp_builtin,Go.BigFrame.builtin_copy,q1]
def Zgo(k:Nat){m c:Nat}(z9:eG P C ops i k o b s s1)(z:o.op = .slice t x none (some hi) none)(ht:P.underlying t=some (.slice e))(hx:s1.ev x = .mrow r off len)(hh:s1.ev hi = .i m)(hr:s1.h r=some ⟨e,rows⟩)(hE:s1.e=Env.lim E r c)(j:off+m<=c)(h0:0<m)(hl:off<rows.length)(hk:aA P ro ops (k+1) b { n:=s1.n,t:=s1.put o.dst (.mrow r off m),h:=s1.h,nx:=s1.nx,ok:=True,e:=s1.e } Q):aA P ro ops i b s Q:=by
 let⟨R,ho,M,he,G,hd⟩:=z9;refine jP (C:=C) k (λd I=>d = .mrow r off m/\I=s1.h) R ho M (λc e=>by rw[z]at e;cases e) he G hd (λB g a w p _=>?_) (λd I⟨hy,hh⟩=>by subst hy;subst hh;exact hk);have u:=bT p x;rw[hx]at u;have N:=(bT p hi);rw[hh]at N;have N:=N.v_inv;have F:=p.en;rw[hE]at F;let⟨_,Z,L⟩:=F;let⟨T,O,J,Y,A,h4,h5⟩:=p.mem.blk r _ hr;have W:=L _ _ _ J;subst W;simp only at Y A;generalize lI:a.eval x=v at u;cases u with|mrow _ _ _ _ fI _ X =>
 let⟨p1,p2⟩:=X _ _ _ J;rcases p2 with⟨f,_⟩|⟨f,b0,rfl,rfl⟩
 . omega
 have r2:=ow (P:=P) (o:=some (.i m)) (vo:=some (a.eval hi)) (d:=len) (y:=O-off) (w:=w) (g:=g) (by rw[N];exact .v _) rfl (by simp[bnd]) o3g (if true then .sliceAcap else .sliceAlen);have r1:=ow (P:=P) (o:=none) (vo:=none) (d:=0) (y:=(bnd (some (.i m)) len).toNat) (w:=w) (g:=g) trivial rfl (by simp[bnd]) (by simp[bnd]) .sliceB;have U:=CR ht Y (a:=some ⟨b0,off*P.cellsOf e,none⟩) (len:=len) (vm:=none) (Gd (P:=P) (len:=len) r2 r1);have V : ¬(O-off=0):=by omega
 simp only[bnd,Int.toNat_natCast,V,Y8,Nat.zero_mul,Nat.sub_zero,YZ,oQ,Zx]at U;have ab:m<=O-off:=by omega
 refine⟨_,_,⟨rfl,rfl⟩,.slice (some ⟨b0,off*P.cellsOf e,none⟩) m (O-off),g,w,.inl ?_,.mrow r off m _ ⟨_,_,rfl,ab,λ_=>⟨_,rfl⟩⟩ Z λT c' sz K=>?_,p.mem,ay.refl _ _,λr hr=>.inl hr⟩
 . let⟨od,oo,gT,op,oa,og⟩:=o;simp only at z;subst z;simp[execOp,lI,U]
 rw[J]at K;simp only[Yj,YL]at K;obtain⟨rfl,rfl,rfl⟩:=K;exact⟨om,.inr ⟨f,b0,rfl,rfl⟩⟩
def ZgD(k:Nat)(z9:eG P C ops i k o b s s1)(p:o.op = .call { callee:=.builtin .cap,args:=#[x],argTypes:=#[t] })(ht:P.underlying t=some (.slice e))(T:s1.ev x = .mrow r off len)(hr:s1.h r=some ⟨e,rows⟩)(hk : ∀c:Nat,len<=c->c<=maxLen->aA P ro ops (k+1) b { n:=s1.n,t:=s1.put o.dst (.i c),h:=s1.h,nx:=s1.nx,ok:=True,e:=Env.lim s1.e r (off+c) } Q):aA P ro ops i b s Q:=by
 let⟨R,V,M,W,G,m⟩:=z9;refine Uv (C:=C) k (λd I E=>∃c:Nat,d = .i c/\I=s1.h/\E=Env.lim s1.e r (off+c)/\len<=c/\c<=maxLen) R V M (λc e=>by rw[p]at e;cases e) W G m (λB g a w j _=>?_) (λd I E⟨c,J,Y,A,L,U⟩=>by subst J;subst Y;subst A;exact hk c L U);have u:=bT j x;rw[T]at u;let⟨z,X,J,Y,A,L,U⟩:=j.mem.blk r _ hr;have O : ∃(N:Option Addr)(c:Nat),a.eval x = .slice N len c/\len<=c/\c<=maxLen/\X=off+c/\g.U r:=by
  generalize a.eval x=v at u;cases u with|mrow _ _ _ _ fI Z F =>
  let⟨p1,p2⟩:=F _ _ _ J;let⟨a',c',y,e2,_⟩:=fI;rcases p2 with⟨f,a,rfl⟩|⟨f,b0,rfl,rfl⟩
  . cases y;exact⟨a',0,rfl,om,Yh _,om,Z⟩
  cases y;exact⟨_,_,rfl,e2,om,om,Z⟩
 let⟨N,c,k1,k2,k3,k4,k5⟩:=O;refine⟨_,_,_,.int .i64 c,g,w,⟨c,rfl,rfl,rfl,k2,k3⟩,rfl,?_,.v _,j.mem,ay.refl _ _,λr hr=>.inl hr,j.en,k5,λz c' sz K=>?_⟩
 . let⟨od,oo,gT,op,oa,og⟩:=o;simp only at p;subst p;simp[Go.BigFrame.execOp_builtin,Go.BigFrame.builtin_cap,k1,Builtin.cap_,run_underlying ht,goInt]
 rw[J]at K;simp only[Yj,YL]at K;obtain⟨rfl,rfl,rfl⟩:=K;exact k4
def ZgI(k:Nat){m c:Nat}(z9:eG P C ops i k o b s s1)(z:o.op = .call { callee:=.builtin .append,args:=#[x,y],argTypes:=#[t,u] })(ht:P.underlying t=some (.slice e))(X:P.underlying u=some (.int kk))(hz:eH P e=true)(N:(zeroCells P e).all D.one=true)(A:(zeroCells P e).length=P.cellsOf e)(Y:s1.ev x = .mrow r off n)(O:s1.ev y = .i m)(hr:s1.h r=some ⟨e,rows⟩)(hE:s1.e=Env.lim E r c)(j:c<off+n+m)(Z:off+n<=rows.length)(hby:(n+m)*P.bytesOf e<=140737488355328)(h63:n+m<=4611686018427387904)(hk:aA P ro ops (k+1) b { n:=s1.n,t:=s1.put o.dst (.mrow (b+k) 0 (n+m)),h:=upd s1.h (b+k) (some ⟨e,(rows.drop off).take n++List.replicate m (zeroCells P e)⟩),nx:=s1.nx,ok:=True,e:=s1.e } Q):aA P ro ops i b s Q:=by let⟨R,ho,M,J,G,hd⟩:=z9;refine jP (C:=C) k (λd I=>d = .mrow (b+k) 0 (n+m)/\I=upd s1.h (b+k) (some ⟨e,(rows.drop off).take n++List.replicate m (zeroCells P e)⟩)) R ho M (λc e=>by rw[z]at e;cases e) J G hd (λB g a w f U=>?_) (λd I⟨O,p⟩=>by subst O;subst p;exact hk);have V:=bT f x;rw[Y]at V;have K:=bT f y;rw[O]at K;have K:=K.v_inv;have F:=f.en;rw[hE]at F;let⟨v,L,T,q1,W,q3,q4,q5⟩:=Zpu f.mem U ht X hr V F.2.2 hz N A j Z hby h63 o.type;refine⟨_,_,⟨rfl,rfl⟩,v,L,T,.inl ?_,W,q3,q4,q5⟩;let⟨od,oo,gT,op,oa,og⟩:=o;simp only at z;subst z;simp[Go.BigFrame.execOp_builtin,Go.BigFrame.builtin_append,K,q1]
def Zgk(k:Nat){p z:Operand}{l m:Nat}(z9:eG P C ops i k o b s s1)(j:o.op = .slice t x (some p) (some hi) (some z))(ht:P.underlying t=some (.slice e))(E:s1.ev x = .mrow r 0 len)(L:s1.ev p = .i l)(hh:s1.ev hi = .i m)(N:s1.ev z = .i len)(hr:s1.h r=some ⟨e,rows⟩)(h1:l<=m)(h2:m<=len)(hk:aA P ro ops (k+1) b { n:=s1.n,t:=s1.put o.dst .junk,h:=s1.h,nx:=s1.nx,ok:=True,e:=s1.e } Q):aA P ro ops i b s Q:=by
 let⟨R,V,M,J,G,W⟩:=z9;refine jP (C:=C) k (λd I=>d = .junk/\I=s1.h) R V M (λc e=>by rw[j]at e;cases e) J G W (λB g a w f _=>?_) (λd I⟨X,hh⟩=>by subst X;subst hh;exact hk);have u:=bT f x;rw[E]at u;have A:=bT f p;rw[L]at A;have T:=bT f hi;rw[hh]at T;have F:=bT f z;rw[N]at F;let⟨Y,c0,p1,p2,p3,p4,p5⟩:=f.mem.blk r _ hr;have O : ∃(K:Option Addr)(c:Nat),a.eval x = .slice K len c/\len<=c:=by
  generalize a.eval x=v at u;cases u with|mrow _ _ _ _ fI Z ab =>
  let⟨a',c',e1,e2,_⟩:=fI;exact⟨a',c',e1,e2⟩
 let⟨K,c,k1,k2⟩:=O;have r3:=ow (P:=P) (o:=some (.i len)) (vo:=some (a.eval z)) (d:=0) (y:=c) (w:=w) (g:=g) F rfl (by simp[bnd]) o3g (if true then .slice3Acap else .slice3Alen);have r2:=ow (P:=P) (o:=some (.i m)) (vo:=some (a.eval hi)) (d:=0) (y:=(bnd (some (.i len)) 0).toNat) (w:=w) (g:=g) T rfl (by simp[bnd]) o3g .slice3B;have r1:=ow (P:=P) (o:=some (.i l)) (vo:=some (a.eval p)) (d:=0) (y:=(bnd (some (.i m)) 0).toNat) (w:=w) (g:=g) A rfl (by simp[bnd]) o3g .slice3C;obtain⟨v,U⟩:∃v,(Instr.sliceAt t (.slice K len c) (some (a.eval p)) (some (a.eval hi)) (some (a.eval z))).run P w = .ok v w:=⟨_,CR ht p2 (a:=K) (len:=len) (Zcc (P:=P) (len:=len) r3 r2 r1)⟩;refine⟨_,_,⟨rfl,rfl⟩,v,g,w,.inl ?_,.junk _,f.mem,ay.refl _ _,λr hr=>.inl hr⟩;let⟨od,oo,gT,op,oa,og⟩:=o;simp only at j;subst j;simp[execOp,k1,U]
end
end
variable{K:Act->World->Prop}{Q:Exit->Act->World->Prop}{X:List PanicEntry->H->Nat->Prop}{g0:Mem}{w0:World}
section
variable {Q:Exit->S->Prop}
theorem Xe{tmps:Array Value}{R:Ending->World->Prop}{B:Nat}{u:FrameMode}(E:u ≠ .run){a:List Deferred}:∀(ds:List Deferred)(w:World),Marks B g ds w ->
  (∀T,T.drawn=w.drawn->T.os=w.os->T.tape=w.tape->T.output=w.output->T.heap.size=w.heap.size->(∀k:Nat,k<B->T.heap[k]? = w.heap[k]?)->(∀k:Nat,g.I k->T.heap[k]? = w.heap[k]?)->(∀(k:Nat)o,w.heap[k]? = some o->Jt o->T.heap[k]? = w.heap[k]?)->LeavesInM Fence.wide n P fn tmps R a u T) ->
  LeavesInM Fence.wide n P fn tmps R (ds++a) u w:=by
 intro ds;induction ds with
 | nil =>
  intro w _ h;exact h w rfl rfl rfl rfl rfl (λ_ _=>rfl) (λ_ _=>rfl) (λ_ _ _ _=>rfl)
 | cons d ds F =>
  rintro w ⟨⟨D,J,Y,A,h4,U⟩,W⟩ h;refine⟨E,.inl ⟨D,w.putObj D (.deferred none),J,run_takeDeferred Y,?_⟩⟩;have N : ∀k,k≠D->(w.putObj D (.deferred none)).heap[k]? = w.heap[k]? := λk X=>World.putObj_heap_other X;have m : ∀ds:List Deferred,(∀p∈ds,p.target ≠ .collected D)->Marks B g ds w->Marks B g ds (w.putObj D (.deferred none)):=by
   intro ds;induction ds with
   | nil=>intro _ _;trivial
   | cons e ds r =>
    rintro j ⟨⟨z,G,c,I,K,L⟩,M⟩;refine⟨⟨z,G,?_,I,K,L⟩,r (λp v=>j p (by simp[v])) M⟩;rw[N z (λx=>by subst x;exact j e (by simp) G)];exact c
  refine F _ (m ds A W) λT f y O V Z e5 e6 e7=>?_;refine h T (by rw[f];rfl) (by rw[y];rfl) (by rw[O];rfl) (by rw[V];rfl) (by rw[Z];simp) (λk X=>?_) (λk X=>?_) (λk o X t=>?_)
  . rw[e5 k X,N k (by omega)]
  . rw[e6 k X,N k (λe=>by subst e;exact U X)]
  have:k≠D:=λx=>by subst x;rw[Y]at X;cases X;exact t
  rw[e7 k o (by rw[N k this];exact X) t,N k this]
def pW(P:Program)[Glob P](f:FuncId)(args:List D)(h:H)(n:Nat)(R:D->H->Nat->Prop)(X:List PanicEntry->H->Nat->Prop):Prop :=
 fE P f=true /\ ∀(w:World)(g:Mem)(j:List Value),HM P h g w->(∀r,g.U r->r<n)->aF w g args j ->
  CallsIn Fence.wide 0 P f j.toArray w λe T=>∃L I k,HM P I L T/\ay g L w T/\(∀r,L.U r->r<k)/\((∃v a,R a I k/\e = .returned v/\ae T L a v) \/ ∃c,X c I k/\e = .panicked c)
def RB(P:Program)[Glob P](fn:Func)(R:D->H->Nat->Prop)(X:List PanicEntry->H->Nat->Prop):Exit->S->Prop
 | .normal,s | .ret,s=>rP P s fn.results.toList /\ ∃h' g,(∀r,h' r=s.h r\/h' r=none)/\s.nx<=g/\R (tK P fn.results.toList s) h' g
 | .panic c,s=>∃h' g,(∀r,h' r=s.h r\/h' r=none)/\s.nx<=g/\X c h' g
 | _,_=>False
theorem EL{f:FuncId}{args:List D}(a:P.funcs[f]? = some fn)(hb:fn.body=some c)(W:fE P f=true)(hn:args.length<=fn.ntmps)(hw:(∀r,n<=r->h r=none)->DW P none c (RB P fn R X) { n:=fn.ntmps,t:=λi=>args.getD i .junk,h:=h,nx:=n }):pW P f args h n R X:=by
 refine⟨W,λw g j hm Z O=>?_⟩;have hs:=BK (P:=P) (n:=fn.ntmps) O hn hm (nx:=n);refine callsIn_of_wp_marks (n:=0) a hb trivial (wpIn_mono (F:=Fence.wide) (hw (Dz hm Z) (dn.of w.heap.size) g _ w hs Z) ?_);rintro e E T ⟨G,L,K,M,x,iP,_⟩;have x:=x.out;have U : ∀u:FrameMode,u ≠ .run->(∀z,z.drawn=T.drawn->z.os=T.os->z.tape=T.tape->z.output=T.output->z.heap.size=T.heap.size->ay g L w z->St P (dn.of w.heap.size) { G with e:=Env.tt } L { E with defers:=[] } z ->
   LeavesIn Fence.wide 0 P fn E.tmps (λe T=>∃L I m,HM P I L T/\ay g L w T/\(∀r,L.U r->r<m)/\((∃v o,R o I m/\e = .returned v/\ae T L o v) \/ ∃c,X c I m/\e = .panicked c)) [] u z) ->
   LeavesInM Fence.wide 0 P fn E.tmps (λe T=>∃L I m,HM P I L T/\ay g L w T/\(∀r,L.U r->r<m)/\((∃v o,R o I m/\e = .returned v/\ae T L o v) \/ ∃c,X c I m/\e = .panicked c)) E.defers u T:=by
  intro u hu V;let⟨ms,e,ab⟩:=M.df;rw[e];refine Xe (P:=P) hu ms T ab λz e0 y e2 e3 e4 e5 e6 e7=>?_;refine V z e0 y e2 e3 e4 ?_ (M.marks e4 e6 e7);refine⟨by rw[y,x.os],by rw[e2,x.tape],by rw[e3,x.output],by rw[e4];exact x.size,by rw[e0];exact x.drawn,x.U,x.M,x.new,x.I,x.inew,λk V N=>?_⟩;rw[e5 k V];exact x.same k V N
 have ret:(rP P G fn.results.toList /\ ∃I m,(∀r,I r=G.h r\/I r=none)/\G.nx<=m/\R (tK P fn.results.toList G) I m)->LeavesInM Fence.wide 0 P fn E.tmps (λe T=>∃L I m,HM P I L T/\ay g L w T/\(∀r,L.U r->r<m)/\((∃v o,R o I m/\e = .returned v/\ae T L o v) \/ ∃c,X c I m/\e = .panicked c)) E.defers .returning T:=by rintro⟨ho,I,m,p,B,hR⟩;refine U .returning (by simp) λz _ _ _ _ _ xz A=>?_;let⟨v,J,Y⟩:=Fg (fn:=fn) A ho;exact⟨v,J,L.only I,I,m,A.mem.only p,xz.trans xx,λr O=>YG (iP r O) B,.inl ⟨v,_,hR,rfl,Y.only⟩⟩
 cases e with
 | normal=>exact ret K
 | ret=>exact ret K
 | panic c =>
  let⟨I,m,p,B,hX⟩:=K;exact U (.panicking c) (by simp) λz _ _ _ _ _ xz A=>⟨L.only I,I,m,A.mem.only p,xz.trans xx,λr O=>YG (iP r O) B,.inr ⟨c,hX,rfl⟩⟩
 | _=>exact K.elim
section
variable [Glob P] {C : aO} {s s1 : S} {ops : Array Oper} {i b : Nat} {o : Oper}
def Zgh(k:Nat)(R:D->H->Nat->Prop)(X:List PanicEntry->H->Nat->Prop)(am:i<=k)(ho:ops[k]? = some o)(p:o.op = .call { callee:=.value f,args:=args,argTypes:=ts })(hg:o.guard=none)(J:bu P (words P) C ops.toList b i ((ops.toList.drop i).take (k-i)) s=s1)(hok:s1.ok)(m:dN s1.n o.dst=true)(hf:s1.ev f = .fn (.func aY) first aD)(ab:(args.toList.map s1.ev).all sg=true)(E:((args.toList.map s1.ev).map sd).map wk=xs)(hct:pW P aY (first++xs++aD) s1.h (b+k) R X)(hk : ∀res h' n',R res h' n'->aA P ro ops (k+1) n' { n:=s1.n,t:=s1.put o.dst res,h:=h',nx:=n'+ops.size,ok:=True,e:=s1.e } Q)(hp : ∀c h' n',X c h' n'->Q (.panic c) { n:=s1.n,t:=s1.t,h:=h',nx:=n',ok:=True,e:=s1.e }):aA P ro ops i b s Q:=by
 intro B g0 g a w0 w hs hm Z;have K:k<ops.size:=(Yo.1 ho).1;have O:List.range' i (ops.size-i)=List.range' i (k-i)++(k::List.range' (k+1) (ops.size-(k+1))):=by
  have:ops.size-i=(k-i)+((ops.size-(k+1))+1):=by omega
  rw[this,<-Zo,Zd];have y:i+(k-i)=k:=by omega
  rw[y]
 rw[O];refine wm (C:=C) (b:=b) (k-i) i s g a w hs hm Z (by omega) o3r λg1 N w1 F G eP=>?_;rw[J]at F;have eP : ∀r,g1.U r->r<b+k:=λr O=>by have:=eP r O;omega
 have z:s1.e=s.e:=by rw[<-J];exact wo _ _ _ _ _
 rw[wpOpsIn_cons];unfold wpOpIn;rw[ho];simp only;have hw:Region.wanted o (yielded ops N.tmps)=true:=by simp[Region.wanted,hg]
 rw[X0 hw];have I : ∀c,o.op ≠ .defer c:=by intro c e;rw[e]at p;cases p
 have kz:o.semAt (Fw ro).round N.eval=execOp N.eval o:=Oper.semAt_eq _ _ _ I;refine⟨λ_ _=>trivial,?_⟩;rw[kz];let⟨ac,hct⟩:=hct;have A:=bT F f;rw[hf]at A;have fK:=aF.wk (ym (xP F args.toList) ab);rw[E]at fK;generalize u:N.eval f=vf at A;cases A with|fn _ _ _ fs M l1 l2 r1 r2 =>
 have U:(execOp N.eval o).run P w1 = .ok (.enter aY (fs++args.map N.eval++M)) w1:=by simp[execOp,p,resolve,Deferred.ofValue,u,invoke,xX ac]
 rw[U,Oper.uponIn_enter];have e:fs++args.map N.eval++M=(fs.toList++args.toList.map N.eval++M.toList).toArray:=by apply Zr;simp
 rw[e];refine⟨λh=>by simp[Fw,Fence.wide]at h,AA ((hct w1 g1 _ F.mem eP (aF.append (aF.append ⟨by simpa using l1,λi d x h1 Y=>r1 i d x h1 (by simpa using Y)⟩ fK) ⟨by simpa using l2,λi d x h1 Y=>r2 i d x h1 (by simpa using Y)⟩)).mono ?_)⟩;rintro e T ⟨L,h',n',W,V,q4,⟨v,res,hR,rfl,q1⟩|⟨c,hX,rfl⟩⟩
 . have j:=nL F V W m q1 True;have:=hk res h' n' hR B g0 L (N.put o.dst v) w0 T ⟨j.sz,j.tm,j.mem,j.df,j.en,j.bd⟩ (G.trans V) (λr O=>by have:=q4 r O;omega);rw[z]at this;exact this
 have j:=nL (dst:=none) F V W rfl (.junk undef) True;exact⟨_,L,hp c h' n' hX,⟨j.sz,j.tm,j.mem,j.df,j.en,j.bd⟩,by rw[<-z];exact(G.trans V).toX,q4,by rw[<-z]⟩
def je(k:Nat){w:Array TypeId}{v:List D}(x:ops[k]? = some o:=by exact dP rfl)(r:o.op = .call { callee:=.value f,args:=args,argTypes:=w }:=by exact rfl)(M:o.guard=none:=by exact rfl)(J:bu P (words P) C ops.toList b i ((ops.toList.drop i).take (k-i)) s=s1:=by simp only[X9,X4,X5,Yf,S.put,Yq,Nat.reduceSub,go_sem,ff];first|done|exact rfl)(hok:s1.ok:=by(try simp only[go_sem,ff]);all_goals exact ok0)(m:dN s1.n o.dst=true:=by(try simp only[go_sem,ff]);all_goals (first|done|rfl|decide|simp))(a:s1.ev f = .fn (.func aY) first v:=by simp only[go_sem,ff];first|done|exact rfl)(p:(args.toList.map s1.ev).all sg=true:=by simp only[go_sem,ff])(E:((args.toList.map s1.ev).map sd).map wk=xs:=by simp only[go_sem,ff];first|done|exact rfl)(hct:pW P aY (first++xs++v) s1.h (b+k) R X)(hp : ∀c I g,X c I g->Q (.panic c) { n:=s1.n,t:=s1.t,h:=I,nx:=g,ok:=True,e:=s1.e })(hk : ∀j I g,R j I g->aA P ro ops (k+1) g { n:=s1.n,t:=s1.put o.dst j,h:=I,nx:=g+ops.size,ok:=True,e:=s1.e } Q)(u:i<=k:=by omega):aA P ro ops i b s Q :=
 Zgh k R X u x r M J hok m a p E hct hk hp
def Zgq(k:Nat)(R:i<=k)(G:ops[k]? = some o)(f:o.op = .panic x)(M:o.guard=none)(J:bu P (words P) C ops.toList b i ((ops.toList.drop i).take (k-i)) s=s1)(hok:s1.ok)(E:s1.ev x=d)(hv : ∀(w:World)(g:Mem)u,ae w g d u->u = .iface t v)(hq:Q (.panic [{ v:=.iface t v,recovered:=false }]) { n:=s1.n,t:=s1.t,h:=s1.h,nx:=b+k,ok:=True,e:=s1.e }):aA P ro ops i b s Q:=by
 intro B g0 g a w0 w V W Z;have K:k<ops.size:=(Yo.1 G).1;have O:List.range' i (ops.size-i)=List.range' i (k-i)++(k::List.range' (k+1) (ops.size-(k+1))):=by
  have:ops.size-i=(k-i)+((ops.size-(k+1))+1):=by omega
  rw[this,<-Zo,Zd];have y:i+(k-i)=k:=by omega
  rw[y]
 rw[O];refine wm (C:=C) (b:=b) (k-i) i s g a w V W Z (by omega) o3r λI N L F p z=>?_;rw[J]at F;have z : ∀r,I.U r->r<b+k:=λr O=>by have:=z r O;omega
 have j:s1.e=s.e:=by rw[<-J];exact wo _ _ _ _ _
 rw[wpOpsIn_cons];unfold wpOpIn;rw[G];simp only;have X:Region.wanted o (yielded ops N.tmps)=true:=by simp[Region.wanted,M]
 rw[X0 X];have m : ∀c,o.op ≠ .defer c:=by intro c e;rw[e]at f;cases f
 have Y:o.semAt (Fw ro).round N.eval=execOp N.eval o:=Oper.semAt_eq _ _ _ m;refine⟨λ_ _=>trivial,?_⟩;rw[Y];have T:=bT F x;rw[E]at T;have A:=hv _ _ _ T;have U:(execOp N.eval o).run P L = .halt (.panic (.iface t v)) L:=by simp[execOp,f,A,Instr.panic]
 rw[U,Oper.uponIn_panic];exact⟨_,I,hq,⟨F.sz,F.tm,F.mem,F.df,F.en,F.bd⟩,by rw[<-j];exact p.toX,z,by rw[<-j]⟩
def Zgp(k K:Nat){zs:List D}{res:D}(R:i<=k)(ho:ops[k]? = some o)(ac:o.op = .call { callee:=.value f,args:=args,argTypes:=ts })(hg:o.guard=none)(he:bu P (words P) C ops.toList b i ((ops.toList.drop i).take (k-i)) s=s1)(hok:s1.ok)(m:dN s1.n o.dst=true)(hf:s1.ev f = .fn (.func aY) first aD)(aw:(args.toList.map s1.ev).all sg=true)(E:(args.toList.map s1.ev).map sd=xs)(hso : ∀d∈first++xs++aD,dU s1.h K d)(hz:(first++xs++aD).map (λd=>wk (snap s1.h K d))=zs)(hct:PureCt P aY zs res)(b7:flat res=true)(hk:aA P ro ops (k+1) b { n:=s1.n,t:=s1.put o.dst res,h:=s1.h,nx:=s1.nx,ok:=True,e:=s1.e } Q):aA P ro ops i b s Q:=by
 have b8:bG P aY (first++xs++aD) s1.h (b+k) (λd I n'=>d=res/\I=s1.h/\n'=b+k):=by
  let⟨am,bm,hct⟩:=hct;refine⟨am,λw g vs X Z O=>?_⟩;have b9:aF w (Pf g) zs vs:=by rw[<-hz];refine⟨by simpa using O.1,λi d x J Y=>?_⟩;obtain⟨y,A,rfl⟩:=ji J;exact(J3 X K y x (xw (O.2 i y x A Y)) (hso y (Ym A))).1.wk
  refine(hct w (λb=>g.I b \/ ∃r c s,g.M r=some (some b,c,s)) _ (λb p=>?_) (X.gr.later λb p=>⟨.inl p,rfl⟩) b9).mono ?_
  .
   rcases p with p|⟨r,c,s,p⟩
   . exact X.imm b p
   exact(pY X p).1
  rintro e T ⟨v,rfl,z,hv⟩;have mono:ay g g w T:=⟨z.os,z.tape,z.output,z.size,z.drawn,λ_ h=>h,λ_ _=>.inl rfl,λr b c s h=>.inl ⟨r,c,s,h⟩,λ_ h=>h,λ_ h=>.inl h,λb p _=>z.block b p⟩;refine⟨v,g,res,s1.h,b+k,⟨rfl,rfl,rfl⟩,rfl,Qo hv b7,⟨X.dead,λr bl O=>?_,X.inj,X.used,λb p=>YG (X.imm b p) z.size,X.gr.later (X.kept mono)⟩,mono,Z⟩;let⟨G,c,J,Y,A,h4,h5⟩:=X.blk r bl O;refine⟨G,c,J,Y,A,h4,?_⟩;rcases h5 with h5|⟨b,L,rfl,W,h7,h8,V⟩
  . exact .inl h5
  refine .inr ⟨b,L,rfl,by rw[z.block b (pY X J).1];exact W,h7,h8,λi row hi=>⟨(V i row hi).1,λj d m=>?_⟩⟩;let⟨u,k3,k4,k5⟩:=(V i row hi).2 j d m;exact⟨u,k3,k4,k5.later X mono⟩
 intro B g0 g a w0 w hs X Z;have bp:k<ops.size:=(Yo.1 ho).1;have O:List.range' i (ops.size-i)=List.range' i (k-i)++(k::List.range' (k+1) (ops.size-(k+1))):=by
  have:ops.size-i=(k-i)+((ops.size-(k+1))+1):=by omega
  rw[this,<-Zo,Zd];have e1:i+(k-i)=k:=by omega
  rw[e1]
 rw[O];refine wm (C:=C) (b:=b) (k-i) i s g a w hs X Z (by omega) (by rw[he];exact hok) λg1 N w1 F bb eP=>?_;rw[he]at F;have eP : ∀r,g1.U r->r<b+k:=λr O=>by have:=eP r O;omega
 have be:s1.e=s.e:=by rw[<-he];exact wo _ _ _ _ _
 rw[wpOpsIn_cons];unfold wpOpIn;rw[ho];simp only;have hw:Region.wanted o (yielded ops N.tmps)=true:=by simp[Region.wanted,hg]
 rw[X0 hw];have ar : ∀c,o.op ≠ .defer c:=by intro c e;rw[e]at ac;cases ac
 have kz:o.semAt (Fw ro).round N.eval=execOp N.eval o:=Oper.semAt_eq _ _ _ ar;refine⟨λ_ _=>trivial,?_⟩;rw[kz];let⟨am,hct⟩:=b8;have aq:=bT F f;rw[hf]at aq;have fK:=ym (xP F args.toList) aw;rw[E]at fK;generalize hv:N.eval f=vf at aq;cases aq with|fn _ _ _ fs M l1 l2 r1 r2 =>
 have U:(execOp N.eval o).run P w1 = .ok (.enter aY (fs++args.map N.eval++M)) w1:=by simp[execOp,ac,resolve,Deferred.ofValue,hv,invoke,xX am]
 rw[U,Oper.uponIn_enter];have e:fs++args.map N.eval++M=(fs.toList++args.toList.map N.eval++M.toList).toArray:=by apply Zr;simp
 rw[e];refine⟨λh=>by simp[Fw,Fence.wide]at h,AA ((hct w1 g1 _ F.mem eP (aF.append (aF.append ⟨by simpa using l1,λi d x J Y=>r1 i d x J (by simpa using Y)⟩ fK) ⟨by simpa using l2,λi d x J Y=>r2 i d x J (by simpa using Y)⟩)).mono ?_)⟩;rintro e T ⟨v,g',d,I,n',⟨bh,rfl,rfl⟩,rfl,q1,q2,q3,q4⟩;subst bh;have ab:=nL F q3 q2 m q1 True;have:=hk B g0 g' (N.put o.dst v) w0 T ⟨ab.sz,ab.tm,ab.mem,ab.df,ab.en,ab.bd⟩ (bb.trans q3) (λr O=>by have:=q4 r O;omega);rw[be]at this;exact this
end
def AP(P:Program)[Glob P](f:FuncId)(args:List D)(h:H)(n:Nat)(u c:FrameMode)(R:H->Nat->Prop):Prop :=
 fE P f=true /\ ∀(w:World)(g:Mem)(j:List Value),HM P h g w->(∀r,g.U r->r<n)->aF w g args j ->
  CallsDIn Fence.wide 0 P f j.toArray u w λe k T=>∃v L I a,e = .returned v/\k=c/\HM P I L T/\ay g L w T/\(∀r,L.U r->r<a)/\R I a
def EH(P:Program)[Glob P](fn:Func)(aY:FuncId)(k:List D)(R:D->H->Nat->Prop)(e:Exit)(s:S):Prop :=
 ∃u a f,(match e with | .normal | .ret=>u = .returning | .panic c=>u = .panicking c|_=>False)/\settle a = .returning/\AP P aY k s.h s.nx u a f /\
  ∀J j,f J j->rP P { s with h:=J } fn.results.toList /\ ∃I g,(∀r,I r=J r\/I r=none)/\j<=g/\R (tK P fn.results.toList { s with h:=J }) I g
def ZmP{a:Act}(hs:St P B s g a w){i N:Nat}(p : ¬g.U (b+i))(h : ∀r,g.U r->r<N)(hi:ops[i]? = some o)(c:o.guard=none)(hok:(dM P (words P) C ops.toList b i o s).ok){Q:Exit->Act->World->Prop}(f : ∀g' t T,St P B (dM P (words P) C ops.toList b i o s) g' t T->ay g g' w T->(∀r,g'.U r->g.U r\/r=b+i)->t.defers=a.defers->K t T):wpOpIn (Fw ro) n P ops Q i K a w:=by
 unfold wpOpIn;rw[hi];simp only;unfold dM at hok f;rw[c]at hok f;simp only at hok f;let⟨_,Y,A⟩:=hok;have j:Region.wanted o (yielded ops a.tmps)=true:=by simp[Region.wanted,c]
 rw[X0 j];exact QF hs p h A λv g' T k U W m=>f g' _ T (nL hs W U Y k _) W m (by cases o.dst<;>rfl)
theorem Qy{Q:Exit->Act->World->Prop}{rest:List Nat}:∀(k i:Nat)(s:S)(g:Mem)(a:Act)(w:World),St P B s g a w->ay g0 g w0 w->(∀r,g.U r->r<b+i) ->
  i+k<=ops.size->(∀o∈(ops.toList.drop i).take k,o.guard=none)->(bu P (words P) C ops.toList b i ((ops.toList.drop i).take k) s).ok ->
  (∀g' t T,St P B (bu P (words P) C ops.toList b i ((ops.toList.drop i).take k) s) g' t T->ay g0 g' w0 T->(∀r,g'.U r->r<b+(i+k))->t.defers=a.defers->wpOpsIn (Fw ro) n P ops Q rest t T) ->
  wpOpsIn (Fw ro) n P ops Q (List.range' i k++rest) a w:=by
 intro k;induction k with
 | zero =>
  intro i s g a w j v Z X _ G f;exact f g a w j v Z rfl
 | succ k y =>
  intro i s g a w j v Z X c G f;have K:i<ops.size:=by omega
  have m:(ops.toList.drop i).take (k+1)=ops[i]::(ops.toList.drop (i+1)).take k:=by rw[YE (by simpa using K)];simp
  rw[m]at G f c;simp only[bu]at G f;rw[Zd,XX,wpOpsIn_cons];refine ZmP j (b:=b) (N:=b+i) (λh=>by have:=Z _ h;omega) Z (by simp[K]) (c _ (by simp)) (Mg G) λg' t T J Y A z=>?_;refine y (i+1) _ g' t T J (v.trans Y) (λr O=>by
   rcases A r O with h|h
   . have:=Z r h;omega
   omega) om (λo E=>c o (by simp[E])) G λp u x F W I L=>f p u x F W (λr O=>by have:=I r O;omega) (L.trans z)
def Zdv{F:Fence}{n:Nat}{o:Oper}{a:Act}{next next':Act->World->Prop}{Q Q':Exit->Act->World->Prop}(hn : ∀a w,next a w->next' a w)(hq : ∀e a w,Q e a w->Q' e a w)(r:Result Next)(h:o.uponIn F n P a next Q r):o.uponIn F n P a next' Q' r:=by
 have hl:LetsOut Q->LetsOut Q':=λ⟨a,w,h⟩=>⟨a,w,hq _ _ _ h⟩
 unfold Oper.uponIn at h ⊢
 split at h
 . exact hn _ _ h
 . exact hn _ _ h
 . exact hn _ _ h
 . exact⟨h.1,h.2.mono λe w h=>by cases e with|returned v=>exact hn _ _ h|panicked c=>exact hq _ _ _ h|outgrown=>exact hl h⟩
 . exact⟨h.1,h.2.mono λv w h=>hn _ _ h⟩
 . exact⟨h.1,h.2.mono λe w h=>by cases e with|returned v=>exact hn _ _ h|panicked c=>exact hq _ _ _ h|outgrown=>exact hl h⟩
 . exact hq _ _ _ h
 exact h.elim
theorem Gq{F:Fence}{n:Nat}{ops:Array Oper}{Q f:Exit->Act->World->Prop}(hq : ∀e a w,Q e a w->f e a w):∀(l:List Nat)(a:Act)(w:World),wpOpsIn F n P ops Q l a w->wpOpsIn F n P ops f l a w
 | [],a,w,h=>hq _ _ _ h
 | i::l,a,w,h=>by
  unfold wpOpsIn at h ⊢;cases hi:ops[i]? with
  | none=>rw[hi]at h;exact Gq hq l a w h
  | some o =>
   rw[hi]at h;simp only at h ⊢;split
   . rename_i c;rw[X0 c]at h;exact⟨h.1,Zdv (λa w h=>Gq hq l a w h) hq _ h.2⟩
   rename_i c;rw[XV c]at h;exact⟨h.1,Gq hq l _ w h.2⟩
theorem Zbq{id:Nat}{y:Code}(k:Nat){ac:Operand}{s0:S}{a0:Act}(ho:ops[k]? = some o)(hg:o.guard=none)(bm:o.op = .defer { callee:=.value ac,args:=#[],argTypes:=ts })(bp : ∀o∈ops.toList.take k,o.guard=none)(FT:E.x=none)(hE:E.p g0 w0)(J:bu P (words P) C ops.toList s0.nx 0 (ops.toList.take k) { n:=s0.n,t:=s0.t,h:=s0.h,nx:=s0.nx+ops.size,e:=E }=s1)(hok:s1.ok)(m:dN s1.n o.dst=true)(Ag:s1.ev ac = .fn (.func aY) [] aD)(hw:aA P none ops (k+1) s0.nx { n:=s1.n,t:=s1.put o.dst .junk,h:=s1.h,nx:=s1.nx,ok:=True,e:=s1.e } (thenS (DW P none y (EH P fn aY aD R)) (EH P fn aY aD R)))(ab:St P (dn.of w.heap.size) s0 g0 a0 w0)(br:ay g g0 w w0)(bw : ∀r,g0.U r->r<s0.nx)(b7:a0.defers=[]) :
  (Code.seq (.region id ops false) y).wpIn Fence.wide 0 P (bodyPostM Fence.wide 0 P fn (λe w'=>∃v g' res h' n',R res h' n'/\e = .returned v/\ae w' g' res v/\HM P h' g' w'/\ay g g' w w' /\ ∀r,g'.U r->r<n')) a0 w0:=by
 refine wpIn_seq (wpIn_region ?_);have hs:St P (dn.of w.heap.size) { n:=s0.n,t:=s0.t,h:=s0.h,nx:=s0.nx+ops.size,e:=E } g0 a0 w0:=⟨ab.sz,ab.tm,ab.mem,ab.df,hE,ab.bd⟩;have cD:k<ops.size:=(Yo.1 ho).1;have bx:List.range ops.size=List.range' 0 k++(k::List.range' (k+1) (ops.size-(k+1))):=by
  rw[Zg];have:ops.size=k+((ops.size-(k+1))+1):=by omega
  conv=>lhs;rw[this]
  rw[<-Zo,Zd];simp
 rw[bx];have e0:(ops.toList.drop 0).take k=ops.toList.take k:=rfl;refine Qy (ro:=none) (C:=C) (b:=s0.nx) k 0 _ g0 _ w0 hs br (λr O=>by have:=bw r O;omega) (by omega) bp (by rw[e0];exact J▸hok) λg1 N w1 j ca eP aq=>?_;rw[e0]at j;have j:St P (dn.of w.heap.size) s1 g1 N w1:=J▸j;have aq:N.defers=[]:=aq.trans b7;have cb:s1.e=E:=by rw[<-J];exact wo _ _ _ _ _
 rw[wpOpsIn_cons];unfold wpOpIn;rw[ho];simp only;have cg:Region.wanted o (yielded ops N.tmps)=true:=by simp[Region.wanted,hg]
 rw[X0 cg];refine⟨λ_ _=>trivial,?_⟩;have ar:=bT j ac;rw[Ag]at ar;generalize hv:N.eval ac=vf at ar;cases ar with|fn _ _ _ fs M l1 l2 r1 r2 =>
 have ch:fs = #[]:=by apply ZB;simpa using l1.symm
 subst ch;have U:(o.semAt (Fw none).round N.eval).run P w1 = .ok (.defer { target:=.fn (.func aY) M,args:=#[] }) w1:=by have:o.semAt (Fw none).round N.eval=execOp N.eval o:=rfl;rw[this];simp[execOp,bm,resolve,Deferred.ofValue,hv]
 rw[U,Oper.uponIn_defer];have aw:aF w1 g1 aD M.toList:=⟨by simpa using l2,λi d x h1 h2=>r2 i d x h1 (by simpa using h2)⟩;let B':dn:=⟨w.heap.size,[{ target:=.fn (.func aY) M,args:=#[] }],λd m D=>by simp at m;subst m;simp⟩;have ci:St P B' { n:=s1.n,t:=s1.put o.dst .junk,h:=s1.h,nx:=s1.nx,ok:=True,e:=s1.e } g1 ({ N with defers:={ target:=.fn (.func aY) M,args:=#[] }::N.defers }.put o.dst undef) w1:=by
  have cj:St P B' { n:=s1.n,t:=s1.t,h:=s1.h,nx:=s1.nx,ok:=True,e:=s1.e } g1 { N with defers:={ target:=.fn (.func aY) M,args:=#[] }::N.defers } w1 :=
   ⟨j.sz,j.tm,j.mem,by rw[aq];exact kJ.start (B:=B'),j.en,j.bd⟩
  exact nL cj (ay.refl _ _) j.mem m (.junk undef) True
 have b8:=hw B' g1 g1 _ w1 w1 ci (ay.refl _ _) (λr O=>by have:=eP r O;omega);have b9:s1.e.x=none:=by rw[cb];exact FT
 have fin : ∀(e:Exit)(Z:Act)(w':World)(I:S)(g':Mem),EH P fn aY aD R e I->St P B' I g' Z w'->ay g1 g' w1 w'->(∀r,g'.U r->r<I.nx)->bodyPostM Fence.wide 0 P fn (λe w'=>∃v g' res h' n',R res h' n'/\e = .returned v/\ae w' g' res v/\HM P h' g' w'/\ay g g' w w' /\ ∀r,g'.U r->r<n') e Z w':=by
  intro e Z w' I g' ⟨u,u',Rd,hu,bb,cl,X⟩ L z iP;have am:u ≠ .run:=by intro hh;subst hh;cases e<;>simp at hu
  have V:LeavesInM Fence.wide 0 P fn Z.tmps (λe w'=>∃v g' res h' n',R res h' n'/\e = .returned v/\ae w' g' res v/\HM P h' g' w'/\ay g g' w w' /\ ∀r,g'.U r->r<n') Z.defers u w':=by
   let⟨ms,cm,co⟩:=L.df;rw[cm];refine Xe (P:=P) am ms w' co λw2 e0 e1 e2 e3 e4 e5 e6 e7=>?_;have f:=L.marks e4 e6 e7;have uU:ay g g' w w':=ca.trans z;have xz:ay g g' w w2:=by refine⟨by rw[e1,uU.os],by rw[e2,uU.tape],by rw[e3,uU.output],by rw[e4];exact uU.size,by rw[e0];exact uU.drawn,uU.U,uU.M,uU.new,uU.I,uU.inew,λk hk am=>?_⟩;rw[e5 k hk];exact uU.same k hk am
   have cp:aF w2 g' aD M.toList:=(aw.later j.mem z).mono (λb p=>⟨p,e6 b p⟩) (λ_ h=>h) (λ_ _=>.inl rfl);let⟨be,T⟩:=cl;have T:=T w2 g' M.toList f.mem iP cp;refine⟨am,.inr ⟨λh=>by simp[Fence.wide]at h,.func aY,M,aY,M,rfl,by simp[invoke,xX be],λ_ _=>trivial,?_⟩⟩;have cq:M.toList.toArray=M:=by simp
   rw[cq]at T;refine T.mono ?_;rintro e3 u2 w3 ⟨v,g3,A,n3,rfl,rfl,q1,W,q3,a⟩;show LeavesInM Fence.wide 0 P fn Z.tmps _ [] (settle u2) w3;rw[bb];let⟨ro,Y,n4,G,k2,k3⟩:=X A n3 a;have cr:St P (dn.of w.heap.size) { n:=I.n,t:=I.t,h:=A,nx:=I.nx,ok:=I.ok,e:=Env.tt } g3 { Z with defers:=[] } w3 :=
    ⟨f.sz,λi=>(f.tm i).later f.mem W,q1,kJ.start (B:=dn.of w.heap.size),trivial,Yd f.bd W.size⟩
   let⟨v3,p1,p2⟩:=Fg (fn:=fn) (s:={ n:=I.n,t:=I.t,h:=A,nx:=I.nx,ok:=I.ok,e:=I.e }) cr ro;exact⟨v3,p1,v3,g3.only Y,_,Y,n4,k3,rfl,p2.only,q1.only G,(xz.trans W).trans xx,λr O=>YG (q3 r O) k2⟩
  cases e with
  | normal=>simp only at hu;subst hu;exact V
  | ret=>simp only at hu;subst hu;exact V
  | panic c=>simp only at hu;subst hu;exact V
  | _=>simp at hu
 refine Gq (F:=Fence.wide) ?_ _ _ _ b8;rintro e Z w' ⟨I,g',K,L,z,iP,cw⟩;rw[b9]at z;cases e with
 | normal =>
  refine wpIn_mono (F:=Fence.wide) (K B' g' Z w' L iP) ?_;rintro e2 a2 w2 ⟨s2,g2,cA,f,bh,BU,cE⟩;have cC:I.e.x=none:=by rw[cw];exact b9
  rw[cC]at bh;exact fin e2 a2 w2 s2 g2 cA f (z.out.trans bh.out) BU
 | exit id=>exact fin (.exit id) Z w' I g' K L z.out iP
 | goto l=>exact fin (.goto l) Z w' I g' K L z.out iP
 | ret=>exact fin .ret Z w' I g' K L z.out iP
 | panic c=>exact fin (.panic c) Z w' I g' K L z.out iP
 | outgrown=>exact fin .outgrown Z w' I g' K L z.out iP
def Ky{f:FuncId}{args:List D}{G:Nat}{c:Array Oper}{id:Nat}{y:Code}(k:Nat){z:Operand}{I:List D}{x:S}(a:P.funcs[f]? = some fn)(p:fn.body=some (.seq (.region G c false) (.seq (.region id ops false) y)))(K:fE P f=true)(hn:args.length<=fn.ntmps)(PP : ∀o∈c.toList,o.guard=none)(u:bu P (words P) C c.toList n 0 c.toList { n:=fn.ntmps,t:=λi=>args.getD i .junk,h:=h,nx:=n+c.size,e:=Env.tt }=x)(A:x.ok)(ho:ops[k]? = some o)(M:o.guard=none)(L:o.op = .defer { callee:=.value z,args:=#[],argTypes:=ts })(T : ∀o∈ops.toList.take k,o.guard=none)(J:bu P (words P) C ops.toList (n+c.size) 0 (ops.toList.take k) { n:=x.n,t:=x.t,h:=x.h,nx:=n+c.size+ops.size,e:=Env.tt }=s1)(hok:s1.ok)(m:dN s1.n o.dst=true)(Ag:s1.ev z = .fn (.func aY) [] I)(Y:(∀r,n<=r->h r=none)->aA P none ops (k+1) (n+c.size) { n:=s1.n,t:=s1.put o.dst .junk,h:=s1.h,nx:=s1.nx,ok:=True,e:=s1.e } (thenS (DW P none y (EH P fn aY I R)) (EH P fn aY I R))):bG P f args h n R:=by
 refine⟨K,λw g j v Z O=>?_⟩;refine callsIn_of_wp_marks (n:=0) a p trivial (wpIn_seq (wpIn_region ?_));have N:=BK (P:=P) (n:=fn.ntmps) O hn v (nx:=n+c.size);have U:List.range c.size=List.range' 0 c.size++[]:=by rw[YH,Zg]
 rw[U];have V:(c.toList.drop 0).take c.size=c.toList:=by rw[X4];exact Ye (by simp)
 refine Qy (ro:=none) (C:=C) (b:=n) c.size 0 _ g _ w N (ay.refl _ _) (λr O=>by have:=Z r O;omega) (by omega) (by rw[V];exact PP) (by rw[V];exact u▸A) λg1 a1 w1 F W eP X=>?_;rw[V]at F;have F:St P (dn.of w.heap.size) x g1 a1 w1:=u▸F;have B:x.nx=n+c.size:=by rw[<-u];exact Qz _ _ _ _ _
 have ab:x.e=Env.tt:=by rw[<-u];exact wo _ _ _ _ _
 rw[<-B]at J Y;exact Zbq (C:=C) (E:=Env.tt) k ho M L T rfl trivial J hok m Ag (Y (Dz v Z)) F W (λr O=>by rw[B];have:=eP r O;omega) X
end
variable{F:Array Bool}{W:cu}{k1 k2:Nat}{sq:S}
theorem yA(E:F.size=ops.size){i:Nat} :
  i∈Region.ready .any ops F↔∃h:i<ops.size,F.getD i false=false /\ ∀e∈(ops[i]).after.toList,Region.binds .any e=true->F.getD e.on false=true:=by
 unfold Region.ready;simp only[Zq,Zk,XU,Ya];constructor
 .
  rintro⟨K,J,Y⟩;have A:ops[i]? = some ops[i]:=by simp[K]
  simp only[A,YZ,YV]at Y;have a:i<F.size:=by omega
  refine⟨K,by simp[Array.getD,a]at J ⊢;exact J,λe f p=>?_⟩;rw[Array.all_eq_true]at Y;obtain⟨q,c,rfl⟩:=Array.mem_iff_getElem.1 (Array.mem_toList_iff.1 f);have:=Y q c;simp only[p,Bool.not_true,Bool.false_or]at this;exact this
 rintro⟨K,J,Y⟩;have A:ops[i]? = some ops[i]:=by simp[K]
 have a:i<F.size:=by omega
 refine⟨K,by simp[Array.getD,a]at J ⊢;exact J,?_⟩;simp only[A,YZ,YV];rw[Array.all_eq_true];intro q c;simp only[Yc,Ya];cases p:Region.binds .any (ops[i].after[q])with
 | false=>exact .inl rfl
 | true=>exact .inr (Y _ (by simp) p)
theorem Tc{F:Fence}(g : ∀(i:Nat)o,ops.toList[i]? = some o -> ∀e∈o.after.toList,Region.binds .any e=true->e.on<i)(G : ∀i,k2<=i->i<ops.size -> ∀j,j<i->((eF ops.toList []).getD i 0).testBit j=true) :
  ∀(c m x:Nat)(f:Array Bool)(a:Act)(w:World),m+c=ops.size->k2<=m->f.size=ops.size->(∀j,j<ops.size->f.getD j false=decide (j<m))->c<=x ->
   wpOpsIn F n P ops Q (List.range' m c) a w->wpAnyIn F n P .any ops Q x f a w:=by
 intro c;induction c with
 | zero =>
  intro m x f a w v z E r M h;have O:Region.ready .any ops f=[]:=by rw[List.eq_nil_iff_forall_not_mem];intro i hi;let⟨J,Y,_⟩:=(yA E).1 hi;rw[r i J]at Y;simp at Y;omega
  cases x with
  | zero=>exact⟨O,h⟩
  | succ x=>exact⟨λ_=>h,λi hi=>by rw[O]at hi;cases hi⟩
 | succ c N =>
  intro m x f a w v z E r M h;have K:m<ops.size:=by omega
  cases x with
  | zero=>omega
  | succ x =>
   rw[Zd,wpOpsIn_cons]at h;refine⟨λO=>?_,λi hi=>?_⟩
   .
    exfalso;have:m∈Region.ready .any ops f:=(yA E).2 ⟨K,by rw[r m K];simp,λe u p=>by have:=g m ops[m] (by simp[K]) e u p;rw[r e.on (by omega)];simpa using this⟩
    rw[O]at this;cases this
   let⟨J,Y,A⟩:=(yA E).1 hi;rw[r i J]at Y;have R:m<=i:=by simp at Y;omega
   have e:i=m:=by
    by_cases q:i=m
    . exact q
    exfalso;have:=AL (L:=ops.toList) (X:=λk=>k<m) (λk o t z e u p=>by have:=g k o t e u p;omega) i ops[i] (by simp[J]) (λe u p=>by have B:=A e u p;have U:=g i ops[i] (by simp[J]) e u p;rw[r e.on (by omega)]at B;simpa using B) m (G i om J m om)
    omega
   subst e;refine wpOpIn_mono (λV T I=>N (i+1) x _ V T om om (by simp[E]) (λj Z=>?_) om I) h;by_cases q:j=i
   .
    subst q;have y:j<f.size:=by omega
    simp[Array.getD,y]
   rw[getD_set_ne false (Ne.symm q),r j Z];by_cases W:j<i
   . simp[W];omega
   have : ¬j<i+1:=by omega
   simp[W,this]
def uH(C:aO)(o:Oper):Bool:=o.guard.isNone&&(match bW C o.op with | .writes=>false|_=>true) && !D6 o.op
def KC(h:uH C o=true):o.guard=none/\bW C o.op ≠ .writes/\D6 o.op=false:=by simp only[uH,XU,Zi,Ya]at h;refine⟨h.1.1,λe=>?_,h.2⟩;have:=h.1.2;rw[e]at this;cases this
theorem ZmX{op:Op}{b':Nat}(j:bW C op ≠ .writes):bz P W C op xs h b=bz P W C op xs h b':=by
 unfold bz;split<;>first
  | rfl
  | (exfalso;exact j rfl)
  | skip
 have p:C.bs=false:=by
  cases p:C.bs with
  | false=>rfl
  | true=>exact absurd (by simp[bW,p]) j
 simp only[p,Yn,Y8]
theorem ZiN{b' i:Nat}{ev:Operand->D}{t:Nat->D}(hq:uH C o=true) :
  aJ P W C L b i o n ev t h=aJ P W C L b' i o n ev t h:=by
 let⟨J,Y,_⟩:=KC hq;simp only[aJ,J,aW];split
 . rfl
 rw[ZmX (b:=b+i) (b':=b'+i) Y]
def U8{i:Nat}(hq:uH C o=true):(dM P W C L b i o s).h=s.h:=by rw[mU];exact Fp (KC hq).2.1
theorem Zh1{x y:Oper}(E:uH C x=true)(o:uH C y=true)(hs:iL L x y=true):Cy C L x y=true:=by simp only[iL,XU]at hs;simp only[Cy,XU,Ya];refine⟨hs,?_⟩;have J:=(KC E).2.1;have Y:=(KC o).2.1;revert J Y;generalize bW C x.op=a;generalize bW C y.op=c;intro J Y;cases a<;>cases c<;>first|rfl|(exact absurd rfl J)|(exact absurd rfl Y)
theorem LU [Glob P]{W:cu}{L:List Oper}{b:Nat}:∀(l:List Nat)(s:S),(∀i∈l,∀o,L[i]? = some o->uH C o=true)->(l.foldl (bF P W C L b) s).h=s.h
 | [],s,_=>rfl
 | i::l,s,h=>by
  simp only[YM];rw[LU l _ λk X=>h k (by simp[X])];unfold bF;cases hi:L[i]? with
  | none=>rfl
  | some o=>exact U8 (h i (by simp) o hi)
theorem L6 [Glob P]{W:cu}{L:List Oper}{b b' m:Nat}{d:Option Tmp}{res:D}{h':H}{sq:S}:∀(l:List Nat)(s:S),l.Pairwise (· < ·) ->
  (∀i∈l,∀o,L[i]? = some o->uH C o=true/\(∀z,d=some z->z ∉ looks L o/\o.dst≠some z)/\(∀j∈l,i<=j -> ∀y,L[j]? = some y -> ∀z∈looks L o,y.dst≠some z)
   /\ aJ P W C L b i o sq.n sq.ev sq.t h'=((aJ P W C L b i o sq.n sq.ev sq.t sq.h).1,h',(aJ P W C L b i o sq.n sq.ev sq.t sq.h).2.2)) ->
  l.foldl (bF P W C L b) s=sq->sq.ok ->
  l.foldl (bF P W C L b') { n:=s.n,t:=s.put d res,h:=h',nx:=m,ok:=True,e:=s.e }={ n:=sq.n,t:=sq.put d res,h:=h',nx:=m,ok:=True,e:=sq.e }
 | [],s,_,_,a,_=>by simp only[ZH]at a ⊢;rw[a]
 | i::l,s,F,p,a,G=>by
  simp only[YM]at a ⊢;have r:=YJ.1 F;cases hi:L[i]? with
  | none =>
   have e : ∀c u,bF P W C L c u i=u:=λc u=>by simp only[bF,hi]
   rw[e]at a ⊢;exact L6 l s r.2 (λk hk o E=>by let⟨B,v,w,I⟩:=p k (by simp[hk]) o E;exact⟨B,v,λj A=>w j (by simp[A]),I⟩) a G
  | some o =>
   have e : ∀c u,bF P W C L c u i=dM P W C L c i o u:=λc u=>by simp only[bF,hi]
   let⟨B,v,w,I⟩:=p i (by simp) o hi;have U : ∀z∈looks L o,sq.t z=s.t z:=by
    intro z V;rw[<-a];have:=keeps (P:=P) (W:=W) (C:=C) (L:=L) (b:=b) (z:=z) (i::l) s (λk hk y X=>by
     rcases Yl.1 hk with rfl|K
     . exact w k (by simp) (XW _) y X z V
     exact w k (by simp[K]) (Nat.le_of_lt (r.1 k K)) y X z V)
    simpa only[YM]using this
   have f:sq.n=s.n/\sq.h=s.h:=by
    constructor
    .
     rw[<-a];have : ∀(l:List Nat)(u:S),(l.foldl (bF P W C L b) u).n=u.n:=by
      intro l;induction l with
      | nil=>intro u;rfl
      | cons k l Y =>
       intro u;simp only[YM];rw[Y];unfold bF;split
       . exact Et.1
       rfl
     rw[this,e];exact Et.1
    rw[<-a,LU l _ λk hk o E=>(p k (by simp[hk]) o E).1,e];exact U8 B
   have Z:aJ P W C L b i o s.n s.ev s.t h'=((aJ P W C L b i o s.n s.ev s.t s.h).1,h',(aJ P W C L b i o s.n s.ev s.t s.h).2.2):=by have:=I;rw[f.1,f.2,Fq (s:=sq) (s':=s) U,Fq (s:=sq) (s':=s) U]at this;exact this
   have e2 : ∀c,aJ P W C L c i o s.n (S.ev { n:=s.n,t:=s.put d res,h:=h',nx:=m,ok:=True,e:=s.e }) (s.put d res) h'=aJ P W C L b i o s.n s.ev s.t h':=by
    intro c;rw[ZiN (b:=c) (b':=b) B];refine Fq (s:={ n:=s.n,t:=s.put d res,h:=h',nx:=m,ok:=True,e:=s.e }) (s':=s) λz V=>?_;show s.put d res z=s.t z;cases M:d with
    | none=>rfl
    | some y=>exact aI _ _ _ _ λe=>(v y M).1 (by rw[<-e];exact V)
   have g:(dM P W C L b i o s).ok:=by rw[e]at a;exact GN (by rw[a];exact G)
   have R:(aJ P W C L b i o s.n s.ev s.t s.h).2.2:=by rw[mU]at g;exact g.2
   have O:dM P W C L b' i o { n:=s.n,t:=s.put d res,h:=h',nx:=m,ok:=True,e:=s.e }={ n:=(dM P W C L b i o s).n,t:=(dM P W C L b i o s).put d res,h:=h',nx:=m,ok:=True,e:=(dM P W C L b i o s).e }:=by
    rw[mU,mU];simp only[e2,Z];congr 1
    .
     show S.put _ o.dst _=S.put _ d res;cases T:o.dst with
     | none=>rfl
     | some x =>
      cases M:d with
      | none=>rfl
      | some y =>
       have N:x≠y:=λe=>(v y M).2 (by rw[T,e]);funext z;simp only[S.put,upd];by_cases J:z=x
       . have:z≠y:=λe=>N (J▸e);simp[J,N]
       simp[J]
    exact propext ⟨λ_=>trivial,λ_=>⟨trivial,R⟩⟩
   rw[e,O];rw[e]at a;exact L6 l _ r.2 (λk hk o E=>by let⟨B,v,w,I⟩:=p k (by simp[hk]) o E;exact⟨B,v,λj A=>w j (by simp[A]),I⟩) a G
structure RJ(C:aO)(ops:Array Oper)(k1 k2:Nat):Prop where
 le:k2<=ops.size
 back : ∀(i:Nat)o,ops.toList[i]? = some o -> ∀e∈o.after.toList,Region.binds .any e=true->e.on<i
 ord : ∀i,k2<=i->i<ops.size -> ∀j,j<i->((eF ops.toList []).getD i 0).testBit j=true
 quiet : ∀(i:Nat)o,i<k2->i≠k1->((eF ops.toList []).getD k1 0).testBit i=false->ops.toList[i]? = some o->uH C o=true
 comm : ∀(i j:Nat)x y,i<k2->j<i->i≠k1->j≠k1->ops.toList[j]? = some x->ops.toList[i]? = some y->((eF ops.toList []).getD i 0).testBit j=true\/nk C ops.toList x y=true
 call : ∀(i:Nat)x y,i<k2->i≠k1->ops.toList[i]? = some x->ops.toList[k1]? = some y->((eF ops.toList []).getD k1 0).testBit i=true\/iL ops.toList x y=true
 late : ∀(i j:Nat)x y,i<=j->j<k2->i≠k1->j≠k1->ops.toList[i]? = some x->ops.toList[j]? = some y -> ∀z∈looks ops.toList x,y.dst≠some z
def dS(k1 k2:Nat)(F:Array Bool):List Nat:=(List.range k2).filter λi=>i != k1 && !F.getD i false
def mO{i:Nat}:i∈dS k1 k2 F↔i<k2/\i≠k1/\F.getD i false=false:=by simp only[dS,Zq,Zk,XU,ZN,Ya]
theorem getD_set{i:Nat}(hi:i<F.size)(k:Nat):(F.setIfInBounds i true).getD k false=(F.getD k false||k==i):=by
 by_cases e:k=i
 . subst e;simp[Array.getD,hi]
 rw[getD_set_ne false (Ne.symm e)];have:(k==i)=false:=by simpa using e
 rw[this,ZT]
def Closed(ops:Array Oper)(F:Array Bool):Prop:=∀(i:Nat)o,ops.toList[i]? = some o->F.getD i false=true -> ∀e∈o.after.toList,Region.binds .any e=true->F.getD e.on false=true
theorem Closed.set(h:Closed ops F)(E:F.size=ops.size){i:Nat}(hi:i∈Region.ready .any ops F):Closed ops (F.setIfInBounds i true):=by
 let⟨c,Y,A⟩:=(yA E).1 hi;intro k o X a e J p;rw[getD_set (by omega)]at a ⊢;simp only[Yc,YF]at a ⊢;rcases a with a|rfl
 . exact .inl (h k o X a e J p)
 have:o=ops[k]:=by simp[c]at X;exact X.symm
 subst this;exact .inl (A e J p)
theorem Oi(b8:k2<=ops.size)(ac : ∀(i j:Nat)x y,i<k2->j<i->i≠k1->j≠k1->ops.toList[j]? = some x->ops.toList[i]? = some y->((eF ops.toList []).getD i 0).testBit j=true\/nk C ops.toList x y=true){fin:S}{a:Act}(E:F.size=ops.size)(hX:Closed ops F)(hs:St P B s g a w)(Z : ∀r,g.U r->r<b \/ ∃j,F.getD j false=true/\j<k2/\r=b+j)(M:(dS k1 k2 F).foldl (bF P (words P) C ops.toList b) s=fin)(hok:fin.ok){i:Nat}(hi:i∈Region.ready .any ops F)(R:i<k2)(aw:i≠k1)(hK : ∀g' t w' s',St P B s' g' t w'->ay g g' w w'->(∀r,g'.U r->r<b \/ ∃j,(F.setIfInBounds i true).getD j false=true/\j<k2/\r=b+j) ->
   (dS k1 k2 (F.setIfInBounds i true)).foldl (bF P (words P) C ops.toList b) s'=fin->(dS k1 k2 (F.setIfInBounds i true)).length<(dS k1 k2 F).length->K t w'):wpOpIn (Fw ro) n P ops Q i K a w:=by
 let⟨I,yQ,uT⟩:=(yA E).1 hi;have vV:ops.toList[i]? = some ops[i]:=by simp[I]
 have T:i∈dS k1 k2 F:=mO.2 ⟨R,aw,yQ⟩;let⟨f,o,c⟩:=List.append_of_mem T;have sD:(dS k1 k2 F).Pairwise (· < ·):=Z6 _ ZW;rw[c]at sD;have V : ∀j∈f,j<i:=λj A=>(Zh.1 sD).2.2 j A i (by simp);have am : ∀j∈o,i<j:=λj A=>(YJ.1 (Zh.1 sD).2.1).1 j A;have b7 : ∀j∈f,j≠i /\ ∀x,ops.toList[j]? = some x->nk C ops.toList x ops[i]=true:=by
  intro j A;have b9:=V j A;refine⟨om,λx hx=>?_⟩;have aq:j∈dS k1 k2 F:=by rw[c];simp[A]
  let⟨j1,j2,j3⟩:=mO.1 aq;rcases ac i j x _ R b9 aw j2 hx vV with h|h
  . exfalso;have:=AL (L:=ops.toList) (X:=λk=>F.getD k false=true) hX i _ vV uT j h;rw[j3]at this;cases this
  exact h
 have Ik : ∀j,j∈dS k1 k2 F -> ¬g.U (b+j):=by
  intro j aq hu;have bb:=(mO.1 aq).2.2;rcases Z _ hu with h|⟨k,J,_,e⟩
  . omega
  have:k=j:=by omega
  subst this;rw[bb]at J;cases J
 have be:s.h (b+i)=none:=by
  cases hq:s.h (b+i)with
  | none=>rfl
  | some bl =>
   let⟨G,c',q1,_⟩:=hs.mem.blk _ bl hq;exact absurd (hs.mem.used _ (by rw[q1];simp)) (Ik i T)
 have ab:=hok;rw[<-M,c,Za,YM]at ab;have p:=GN ab;have PD:(f.foldl (bF P (words P) C ops.toList b) s).ok:=by unfold bF at p;rw[vV]at p;exact QA p
 have PH:reader ops[i]=true -> ∀j∈f,∀d∈(aU (ops[i]).op).map s.ev,named (b+j) (sd d)=false:=by
  intro O j A d m;have bh:sg d=true:=by
   have e:=LQ (P:=P) (W:=words P) (C:=C) (L:=ops.toList) (b:=b) (y:=ops[i]) f s λk J x hx=>Jp ((b7 k J).2 x hx);have ar : ∀u,bF P (words P) C ops.toList b u i=dM P (words P) C ops.toList b i ops[i] u:=λu=>by simp[bF,I]
   rw[ar,mU]at p;have Y:=p.2;let⟨r1,r2⟩:=GY O;simp only[aJ,r2,aW,Oe r1,Yn,Y8]at Y;have h4:=Y.2.1 trivial;rw[show(aU (ops[i]).op).map (f.foldl (bF P (words P) C ops.toList b) s).ev=(aU (ops[i]).op).map s.ev from e]at h4;exact YA.1 h4 d m
  cases hq:named (b+j) (sd d)with
  | false=>rfl
  | true =>
   exfalso;obtain⟨z,_,rfl⟩:=Yp.1 m;exact Ik j (by rw[c];simp[A]) (UR (bT hs z) bh hq)
 have U:bF P (words P) C ops.toList b s i=dM P (words P) C ops.toList b i ops[i] s:=by simp[bF,I]
 have Iq:(f++o).foldl (bF P (words P) C ops.toList b) (dM P (words P) C ops.toList b i ops[i] s)=fin:=by rw[<-U,<-M,c,Za,Za,YM,Qm vV f s b7 PH be PD]
 have v:dS k1 k2 (F.setIfInBounds i true)=f++o:=by
  have e1:dS k1 k2 (F.setIfInBounds i true)=(dS k1 k2 F).filter (· != i):=by
   unfold dS;rw[List.filter_filter];refine Z5 λk _=>?_;rw[getD_set (by omega) k];by_cases e:k=i
   . simp[e]
   have e2:(k==i)=false:=by simpa using e
   have e3:(k != i)=true:=by simpa using e
   rw[e2,e3,ZT,ZE]
  rw[e1,c,List.filter_append,List.filter_cons];have p1:f.filter (· != i)=f:=Y1.2 λj A=>by have:=V j A;simp;omega
  have p2:o.filter (· != i)=o:=Y1.2 λj A=>by have:=am j A;simp;omega
  simp[p1,p2]
 refine I1 hs (b:=b) (N:=b+ops.size) (λh=>?_) (λr O=>?_) (show ops[i]? = some ops[i]by simp[I]) (GN (by rw[Iq];exact hok)) λg' t w' q1 q2 q3=>?_
 .
  rcases Z _ h with h|⟨k,J,_,e⟩
  . omega
  have:k=i:=by omega
  subst this;rw[yQ]at J;cases J
 . have bp:=b8;rcases Z r O with h|⟨k,_,h,rfl⟩<;>omega
 refine hK g' t w' _ q1 q2 (λr O=>?_) (by rw[v];exact Iq) (by rw[v,c];simp);rcases q3 r O with h|rfl
 .
  rcases Z r h with h|⟨k,J,bm,rfl⟩
  . exact .inl h
  exact .inr ⟨k,by rw[getD_set (by omega),J];rfl,bm,rfl⟩
 exact .inr ⟨i,by rw[getD_set (by omega)];simp,R,rfl⟩
theorem Ny{fin:S}(M:k2<=ops.size)(u : ∀(i:Nat)o,ops.toList[i]? = some o -> ∀e∈o.after.toList,Region.binds .any e=true->e.on<i)(I : ∀i,k2<=i->i<ops.size -> ∀j,j<i->((eF ops.toList []).getD i 0).testBit j=true)(V : ∀(i j:Nat)x y,i<k2->j<i->i≠k1->j≠k1->ops.toList[j]? = some x->ops.toList[i]? = some y->((eF ops.toList []).getD i 0).testBit j=true\/nk C ops.toList x y=true) :
  ∀(m:Nat)(F:Array Bool)(s:S)(g:Mem)(a:Act)(w:World),F.size=ops.size->(k1<k2->F.getD k1 false=true)->(∀j,k2<=j->F.getD j false=false)->(dS k1 k2 F).length+(ops.size-k2)<=m->Closed ops F ->
   St P B s g a w->ay g0 g w0 w->(∀r,g.U r->r<b \/ ∃j,F.getD j false=true/\j<k2/\r=b+j)->(dS k1 k2 F).foldl (bF P (words P) C ops.toList b) s=fin->fin.ok ->
   (∀g' t T,St P B fin g' t T->ay g0 g' w0 T->(∀r,g'.U r->r<b+k2)->wpOpsIn (Fw ro) n P ops Q (List.range' k2 (ops.size-k2)) t T) ->
   wpAnyIn (Fw ro) n P .any ops Q m F a w:=by
 intro m;induction m with
 | zero =>
  intro F s g a w E z U ac hX hs v Z c G hQ;have f:dS k1 k2 F=[]:=Yb om;rw[f]at c;simp only[ZH]at c;subst c;have am:=M;refine Tc u I (ops.size-k2) k2 0 F a w om (XW _) E (λj A=>?_) om (hQ g a w hs v λr O=>by rcases Z r O with h|⟨j,_,h,rfl⟩<;>omega);by_cases q:j<k2
  .
   rw[YB q];by_cases e:j=k1
   . rw[e];exact z (by omega)
   cases Y:F.getD j false with
   | true=>rfl
   | false=>have:=mO.2 ⟨q,e,Y⟩;rw[f]at this;cases this
  rw[YY q];exact U j (by omega)
 | succ m ih =>
  intro F s g a w E z U ac hX hs v Z c G hQ;have am:=M;cases f:dS k1 k2 F with
  | nil =>
   rw[f]at c;simp only[ZH]at c;subst c;refine Tc u I (ops.size-k2) k2 (m+1) F a w om (XW _) E (λj A=>?_) om (hQ g a w hs v λr O=>by rcases Z r O with h|⟨j,_,h,rfl⟩<;>omega);by_cases q:j<k2
   .
    rw[YB q];by_cases e:j=k1
    . rw[e];exact z (by omega)
    cases Y:F.getD j false with
    | true=>rfl
    | false=>have:=mO.2 ⟨q,e,Y⟩;rw[f]at this;cases this
   rw[YY q];exact U j (by omega)
  | cons i0 l0 =>
   have aq:i0∈dS k1 k2 F:=by rw[f];simp
   let⟨a1,a2,a3⟩:=mO.1 aq;have sD:(dS k1 k2 F).Pairwise (· < ·):=Z6 _ ZW;rw[f]at sD;have ab:=(YJ.1 sD).1;refine⟨λO=>?_,λi hi=>?_⟩
   .
    exfalso;have:i0∈Region.ready .any ops F:=(yA E).2 ⟨om,a3,λe J p=>by
     have K:=u i0 ops[i0] (by simp) e J p;cases Y:F.getD e.on false with
     | true=>rfl
     | false =>
      have N:e.on≠k1:=λq=>by rw[q,z (by omega)]at Y;cases Y
      have:=mO.2 ⟨show e.on<k2 by omega,N,Y⟩;rw[f]at this;rcases Yl.1 this with h|h
      . omega
      have:=ab _ h;omega⟩
    rw[O]at this;cases this
   let⟨K,yQ,uT⟩:=(yA E).1 hi;have R:i<k2:=by
    by_cases q:i<k2
    . exact q
    exfalso;have:=AL (L:=ops.toList) (X:=λk=>F.getD k false=true) hX i ops[i] (by simp[K]) uT i0 (I i om K i0 om);rw[a3]at this;cases this
   have N:i≠k1:=λq=>by rw[q,z (by omega)]at yQ;cases yQ
   refine Oi M V E hX hs Z c G hi R N λg' t T s' q1 W q3 q4 q5=>?_;refine ih _ s' g' t T (by simp[E]) (λhq=>by rw[getD_set (by omega),z hq];rfl) (λj A=>?_) (by omega) (hX.set E hi) q1 (v.trans W) q3 q4 G hQ;rw[getD_set (by omega),U j A];have:(j==i)=false:=by simp;omega
   rw[this];rfl
theorem UX(E:F.size=ops.size)(a : ∀(i:Nat)o,ops.toList[i]? = some o -> ∀e∈o.after.toList,Region.binds .any e=true->e.on<i)(hr:Region.ready .any ops F=[]) :
  ∀k,k<ops.size->F.getD k false=true:=by
 intro k;induction k using Nat.strongRecOn with
 | _ k c =>
  intro X;cases h:F.getD k false with
  | true=>rfl
  | false =>
   exfalso;have:k∈Region.ready .any ops F:=(yA E).2 ⟨X,h,λe J p=>by have f:=a k ops[k] (by simp) e J p;exact c e.on f om⟩
   rw[hr]at this;cases this
theorem IQ:∀(l:List Nat)(u:S),(l.foldl (bF P W C L b) u).n=u.n/\(l.foldl (bF P W C L b) u).e=u.e:=by
 intro l;induction l with
 | nil=>intro u;exact⟨rfl,rfl⟩
 | cons k l a =>
  intro u;simp only[YM];rw[(a _).1,(a _).2];unfold bF;split
  . exact⟨Et.1,by unfold dM;split<;>rfl⟩
  exact⟨rfl,rfl⟩
def Gj(P:Program)[Glob P](f:FuncId)(args:List D)(h:H)(n:Nat)(E:Env)(R:D->H->Nat->Prop):Prop :=
 fE P f=true /\ ∀(w:World)(g:Mem)(j:List Value),HM P h g w->(∀r,g.U r->r<n)->E.p g w->aF w g args j ->
  CallsIn Fence.wide 0 P f j.toArray w λe T=>∃v L a I c,R a I c/\e = .returned v/\ae T L a v/\HM P I L T/\ay g L w T /\ ∀r,L.U r->r<c
theorem aF.wkMid{a c:List D}{vs:List Value}(h:aF w g (a++xs++c) vs):aF w g (a++xs.map DL.wk++c) vs:=by
 refine⟨by simpa using h.1,λi d x J Y=>?_⟩;rw[YR]at J;by_cases q:i<a.length
 . rw[Y7 q]at J;exact h.2 i d x (by rw[YR,Y7 q];exact J) Y
 rw[YN (by omega)]at J;by_cases W:i-a.length<xs.length
 .
  rw[Y7 (by simpa using W),YQ]at J;cases E:xs[i-a.length]? with
  | none=>rw[E]at J;cases J
  | some y =>
   rw[E]at J;simp only[YZ,Yj]at J;subst J;exact(h.2 i y x (by rw[YR,YN (by omega),Y7 W];exact E) Y).wk
 rw[YN (by simp;omega),YX]at J;exact h.2 i d x (by rw[YR,YN (by omega),YN (by omega)];exact J) Y
theorem bG.i{f:FuncId}{a c:List D}(k:bG P f (a++xs.map wk++c) h n R):Gj P f (a++xs++c) h n Env.tt R :=
 ⟨k.1,λw g j J Y _ A=>k.2 w g j J Y A.wkMid⟩
theorem Ze0(Dc:RJ C ops k1 k2)(ch:k1<k2){G:Oper}(ho:ops[k1]? = some G)(aq:G.op = .call { callee:=.value f,args:=args,argTypes:=ts })(hg:G.guard=none)(hd:dN sq.n G.dst=true)(hf:sq.ev f = .fn (.func aY) first aD)(bb:(args.toList.map sq.ev).all sg=true)(hx:(args.toList.map sq.ev).map sd=xs)(hE : ∀g w,sq.e.p g w->E.p g w)(hct:Gj P aY (first++xs++aD) sq.h (b+k2) E R)(hok:sq.ok)(bp : ∀res h' n',R res h' n' -> ∀(i:Nat)o,i<k2->i≠k1->((eF ops.toList []).getD k1 0).testBit i=false->ops.toList[i]? = some o ->
   aJ P (words P) C ops.toList b i o sq.n sq.ev sq.t h'=((aJ P (words P) C ops.toList b i o sq.n sq.ev sq.t sq.h).1,h',(aJ P (words P) C ops.toList b i o sq.n sq.ev sq.t sq.h).2.2))(hQ : ∀res h' n',R res h' n' -> ∀g' a' T,St P B { n:=sq.n,t:=sq.put G.dst res,h:=h',nx:=n'+ops.size,ok:=True,e:=sq.e } g' a' T->ay g0 g' w0 T->(∀r,g'.U r->r<n'+k2)->wpOpsIn (Fw ro) n P ops Q (List.range' k2 (ops.size-k2)) a' T) :
  ∀(p:Nat)(F:Array Bool)(s:S)(g:Mem)(a:Act)(w:World),F.size=ops.size->F.getD k1 false=false->(∀j,k2<=j->F.getD j false=false)->(dS k1 k2 F).length+1+(ops.size-k2)<=p->Closed ops F ->
   St P B s g a w->ay g0 g w0 w->(∀r,g.U r->r<b \/ ∃j,F.getD j false=true/\j<k2/\r=b+j)->(dS k1 k2 F).foldl (bF P (words P) C ops.toList b) s=sq ->
   wpAnyIn (Fw ro) n P .any ops Q p F a w:=by
 intro p;have ci:=Dc.le;induction p with
 | zero=>intro F s g a w I ar U br;omega
 | succ p ih =>
  intro F s g a w I ar U br hX hs hm Z ab;refine⟨λO=>?_,λi hi=>?_⟩
  . exfalso;have:=UX I Dc.back O k1 om;rw[ar]at this;cases this
  let⟨K,yQ,uT⟩:=(yA I).1 hi;have bw:i<k2:=by
   by_cases q:i<k2
   . exact q
   exfalso;have:=AL (L:=ops.toList) (X:=λk=>F.getD k false=true) hX i ops[i] (by simp[K]) uT k1 (Dc.ord i om K k1 om);rw[ar]at this;cases this
  by_cases N:i=k1
  .
   subst N;have bx:ops.toList[i]? = some G:=by rw[Zf];exact ho
   have cj:ops[i]=G:=by
    have:ops[i]? = some ops[i]:=by simp[K]
    rw[ho]at this;exact(Zu this).symm
   have Ad : ∀j∈dS i k2 F,∀x,ops.toList[j]? = some x->((eF ops.toList []).getD i 0).testBit j=false/\iL ops.toList x G=true:=by
    intro j A x b8;let⟨j1,j2,j3⟩:=mO.1 A;have be:((eF ops.toList []).getD i 0).testBit j=false:=by
     cases q:((eF ops.toList []).getD i 0).testBit j with
     | false=>rfl
     | true =>
      have:=AL (L:=ops.toList) (X:=λk=>F.getD k false=true) hX i ops[i] (by simp[K]) uT j q;rw[j3]at this;cases this
    rcases Dc.call j x G j1 j2 b8 bx with h|h
    . rw[be]at h;cases h
    exact⟨be,h⟩
   have aw:=LQ (P:=P) (W:=words P) (C:=C) (L:=ops.toList) (b:=b) (y:=G) (dS i k2 F) s λj A x b8=>(Ad j A x b8).2;rw[ab,aq]at aw;simp only[aU,X7,Y0]at aw;have Pz:sq.h=s.h:=by rw[<-ab];exact LU _ _ λj A o ho=>Dc.quiet j o (mO.1 A).1 (mO.1 A).2.1 (Ad j A o ho).1 ho
   have FO:sq.n=s.n/\sq.e=s.e:=by rw[<-ab];exact IQ _ _
   rw[Pz]at hct;rw[aw.2]at bb hx;have ca:s.ev f = .fn (.func aY) first aD:=by rw[<-aw.1];exact hf
   have eP : ∀r,g.U r->r<b+k2:=λr O=>by rcases Z r O with h|⟨j,_,h,rfl⟩<;>omega
   unfold wpOpIn;rw[ho];simp only;have hw:Region.wanted G (yielded ops a.tmps)=true:=by simp[Region.wanted,hg]
   rw[X0 hw];have bh : ∀c,G.op ≠ .defer c:=by intro c e;rw[e]at aq;cases aq
   have kz:G.semAt (Fw ro).round a.eval=execOp a.eval G:=Oper.semAt_eq _ _ _ bh;refine⟨λ_ _=>trivial,?_⟩;rw[kz];let⟨cb,hct⟩:=hct;have b9:=bT hs f;rw[ca]at b9;have fK:=ym (xP hs args.toList) bb;rw[hx]at fK;generalize u:a.eval f=vf at b9;cases b9 with|fn _ _ _ fs M l1 l2 r1 r2 =>
   have bm:(execOp a.eval G).run P w = .ok (.enter aY (fs++args.map a.eval++M)) w:=by simp[execOp,aq,resolve,Deferred.ofValue,u,invoke,xX cb]
   rw[bm,Oper.uponIn_enter];have e:fs++args.map a.eval++M=(fs.toList++args.toList.map a.eval++M.toList).toArray:=by apply Zr;simp
   rw[e];refine⟨λh=>by simp[Fw,Fence.wide]at h,AA ((hct w g _ hs.mem eP (hE g w (by rw[FO.2];exact hs.en)) (aF.append (aF.append ⟨by simpa using l1,λi d x J Y=>r1 i d x J (by simpa using Y)⟩ fK) ⟨by simpa using l2,λi d x J Y=>r2 i d x J (by simpa using Y)⟩)).mono ?_)⟩;rintro e T ⟨v,g',res,h',n',hR,rfl,q1,q2,q3,q4⟩;have ac:=nL hs q3 q2 (show dN s.n G.dst=true by rw[<-FO.1];exact hd) q1 True;have am:dS i k2 (F.setIfInBounds i true)=dS i k2 F:=by
    unfold dS;refine Z5 λk _=>?_;rw[getD_set (by omega) k];by_cases e:k=i
    . simp[e]
    have e2:(k==i)=false:=by simpa using e
    rw[e2,ZT]
   have sD:(dS i k2 F).Pairwise (· < ·):=Z6 _ ZW;have qM:=L6 (P:=P) (W:=words P) (C:=C) (L:=ops.toList) (b:=b) (b':=n') (m:=n'+ops.size) (d:=G.dst) (res:=res) (h':=h') (sq:=sq) (dS i k2 F) s sD (λj A o b7=>by let⟨j1,j2,j3⟩:=mO.1 A;let⟨k3,k4⟩:=Ad j A o b7;refine⟨Dc.quiet j o j1 j2 k3 b7,λz V=>?_,λm hm cg y hy=>Dc.late j m o y cg (mO.1 hm).1 j2 (mO.1 hm).2.1 b7 hy,bp res h' n' hR j o j1 j2 k3 b7⟩;simp only[iL,XU,V]at k4;refine⟨by simpa using k4.2,λe=>?_⟩;have:=k4.1;rw[e]at this;simp at this) ab hok
   refine Ny (B:=B) (g0:=g0) (w0:=w0) (b:=n') Dc.le Dc.back Dc.ord Dc.comm p (F.setIfInBounds i true) { n:=s.n,t:=s.put G.dst res,h:=h',nx:=n'+ops.size,ok:=True,e:=s.e } g' _ T (by simp[I]) (λ_=>by rw[getD_set (by omega)];simp) (λj A=>?_) (by rw[am];omega) (hX.set I hi)
    ⟨ac.sz,ac.tm,ac.mem,ac.df,ac.en,ac.bd⟩ (hm.trans q3) (λr O=>.inl (q4 r O)) (by rw[am];exact qM) trivial (hQ res h' n' hR)
   rw[getD_set (by omega),U j A];have:(j==i)=false:=by simp;omega
   rw[this];rfl
  refine Oi Dc.le Dc.comm I hX hs Z ab hok hi bw N λg' a' T s' q1 q2 q3 q4 q5=>?_;refine ih _ s' g' a' T (by simp[I]) (by rw[getD_set (by omega),ar];simp;exact λh=>N h.symm) (λj A=>?_) (by omega) (hX.set I hi) q1 (hm.trans q2) q3 q4;rw[getD_set (by omega),U j A];have:(j==i)=false:=by simp;omega
  rw[this];rfl
def F9(C:aO)(L:List Oper)(k1 k2:Nat):Bool :=
 decide (k1<k2)&&decide (k2<=L.length)&&qX L
 && ((List.range L.length).all λi=>decide (i<k2)||(List.range i).all λj=>((eF L []).getD i 0).testBit j)
 && ((List.range k2).all λi=>i==k1||((uH C (L.getD i default)||((eF L []).getD k1 0).testBit i)&&(((eF L []).getD k1 0).testBit i||iL L (L.getD i default) (L.getD k1 default))
  && (List.range i).all λj=>j==k1||((eF L []).getD i 0).testBit j||nk C L (L.getD j default) (L.getD i default)))
 && ((List.range k2).all λj=>j==k1||(List.range (j+1)).all λi=>i==k1||match(L.getD j default).dst with
  | none=>true
  | some d=>!(looks L (L.getD i default)).contains d)
def Znn(h:F9 C ops.toList k1 k2=true):k1<k2/\RJ C ops k1 k2:=by
 unfold F9 at h;simp only[XU,XY]at h;let⟨⟨⟨⟨⟨J,m⟩,f⟩,Y⟩,U⟩,W⟩:=h;have a : ∀(i:Nat)o,ops.toList[i]? = some o->ops.toList.getD i default=o:=λi o t=>by simp only[List.getD,t,YV]
 simp only[YA,Zk,Yc,XU,YF,XY]at Y U W;refine⟨J,by simpa using m,?_,?_,?_,?_,?_,?_⟩
 .
  intro i o t e n p;unfold qX at f;simp only[YA,Zk,Yc,Ya,XY]at f;have:=f i (X8.1 t).1 e (by rw[a i o t];exact n);rcases this with h|h
  . rw[p]at h;cases h
  exact h
 .
  intro i hi r j A;rcases Y i (by simpa using r)with h|h
  . omega
  exact h j A
 .
  intro i o hi N g t;rcases U i hi with h|h
  . exact absurd h N
  have:=h.1.1;rw[a i o t,g]at this;exact this.resolve_right (by simp)
 .
  intro i j x y hi A N k E c;rcases U i hi with h|h
  . exact absurd h N
  rcases h.2 j A with(h|h)|h
  . exact absurd h k
  . exact .inl h
  rw[a j x E,a i y c]at h;exact .inr h
 .
  intro i x y hi N E c;rcases U i hi with h|h
  . exact absurd h N
  have:=h.1.2;rw[a i x E,a k1 y c]at this;exact this
 intro i j x y u A N k E c z V e;rcases W j A with h|h
 . exact absurd h k
 rcases h i om with h|h
 . exact absurd h N
 rw[a i x E,a j y c,e]at h;simp at h;exact h V
def Zba{Q:Exit->S->Prop}{id:Nat}(k1 k2:Nat){v:Oper}{Y:Array TypeId}{J:List D}(R:D->H->Nat->Prop)(pK:P.follows .mixedOrders=true)(hD:F9 C ops.toList k1 k2=true)(ho:ops[k1]? = some v)(y:v.op = .call { callee:=.value f,args:=args,argTypes:=Y })(M:v.guard=none)(X:((List.range k2).filter (· != k1)).foldl (bF P (words P) C ops.toList s.nx) s=sq)(hok:sq.ok)(m:dN sq.n v.dst=true)(hf:sq.ev f = .fn (.func aY) first J)(z:(args.toList.map sq.ev).all sg=true)(hx:(args.toList.map sq.ev).map sd=xs)(hE : ∀g w,sq.e.p g w->E.p g w)(hct:Gj P aY (first++xs++J) sq.h (s.nx+k2) E R)(A : ∀res h' n',R res h' n' -> ∀(i:Nat)o,i<k2->i≠k1->((eF ops.toList []).getD k1 0).testBit i=false->ops.toList[i]? = some o ->
   aJ P (words P) C ops.toList s.nx i o sq.n sq.ev sq.t h'=((aJ P (words P) C ops.toList s.nx i o sq.n sq.ev sq.t sq.h).1,h',(aJ P (words P) C ops.toList s.nx i o sq.n sq.ev sq.t sq.h).2.2))(hk : ∀res h' n',R res h' n'->aA P ro ops k2 n' { n:=sq.n,t:=sq.put v.dst res,h:=h',nx:=n'+ops.size,ok:=True,e:=sq.e } Q):DW P ro (.region id ops true) Q s:=by
 intro B g a w N Z;refine wpIn_region_any pK ?_;let⟨F,G⟩:=Mq N;let⟨K,U⟩:=Znn hD;have ab:=U.le;have c : ∀i,(Array.replicate ops.size false).getD i false=false:=by intro i;by_cases h:i<ops.size<;>simp[Array.getD,h]
 have u:dS k1 k2 (Array.replicate ops.size false)=(List.range k2).filter (· != k1):=by unfold dS;exact Z5 λi _=>by rw[c];simp
 have V:(dS k1 k2 (Array.replicate ops.size false)).length<k2:=by rw[u];have:=(List.length_filter_lt_length_iff_exists (p:=λx=>x != k1) (l:=List.range k2)).2 ⟨k1,by simpa using K,by simp⟩;simpa using this
 have I:sq.e=s.e:=by rw[<-X];exact(IQ _ _).2
 refine Ze0 (B:=B) (C:=C) (g0:=g) (w0:=w) (b:=s.nx) (n:=0) U K ho y M m hf z hx hE hct hok A (λres h' n' hR L a' T q1 W k=>?_) ops.size _ s g a _ (by simp) (c k1) (λj _=>c j) (by omega) (λi o _ hi=>by rw[c]at hi;cases hi) F G (λr O=>.inl (Z r O)) (by rw[u];exact X);have:=hk res h' n' hR B g L a' w T q1 W k;simp only[I]at this;exact this
def Zna{Q:Exit->S->Prop}{id:Nat}(k1 k2:Nat){j:Oper}{u:Array TypeId}{p:List D}(R:D->H->Nat->Prop)(v:P.follows .mixedOrders=true)(w:F9 C ops.toList k1 k2=true)(x:ops[k1]? = some j)(r:j.op = .call { callee:=.value f,args:=args,argTypes:=u })(M:j.guard=none)(X:((List.range k2).filter (· != k1)).foldl (bF P (words P) C ops.toList s.nx) s=sq)(hok:sq.ok)(m:dN sq.n j.dst=true)(a:sq.ev f = .fn (.func aY) first p)(k:(args.toList.map sq.ev).all sg=true)(y:((args.toList.map sq.ev).map sd).map wk=xs)(hct:bG P aY (first++xs++p) sq.h (s.nx+k2) R)(B : ∀c I g,R c I g -> ∀(i:Nat)o,i<k2->i≠k1->((eF ops.toList []).getD k1 0).testBit i=false->ops.toList[i]? = some o ->
   aJ P (words P) C ops.toList s.nx i o sq.n sq.ev sq.t I=((aJ P (words P) C ops.toList s.nx i o sq.n sq.ev sq.t sq.h).1,I,(aJ P (words P) C ops.toList s.nx i o sq.n sq.ev sq.t sq.h).2.2))(hk : ∀c I g,R c I g->aA P ro ops k2 g { n:=sq.n,t:=sq.put j.dst c,h:=I,nx:=g+ops.size,ok:=True,e:=sq.e } Q):DW P ro (.region id ops true) Q s :=
 Zba (E:=Env.tt) k1 k2 R v w x r M X hok m a k rfl (λ_ _ _=>trivial) (bG.i (by rw[y];exact hct)) B hk
theorem ZlP{x K:D}{h':H}(hn : ∀r,named r x=true->h' r=h r):jH P t x K h'=jH P t x K h:=by
 unfold jH;cases bS P t with
 | none=>rfl
 | some e =>
  cases x with
  | mrow r off W =>
   have:=hn r (by simp[named]);cases K with
   | v y=>cases y<;>first|rfl|simp only[this]
   | _=>rfl
  | list f V =>
   cases K with
   | v y=>cases y<;>rfl
   | _=>rfl
  | _=>cases K<;>rfl
theorem KL{i:Nat}{ev:Operand->D}{t:Nat->D}{h':H}(M:o.guard=none)(hq:bW C o.op = .none\/(match o.op with | .load .. | .indexAddr .. => True|_=>False) /\ ∀d∈(aU o.op).map ev,∀r,named r (sd d)=true->h' r=h r) :
  aJ P W C L b i o n ev t h'=((aJ P W C L b i o n ev t h).1,h',(aJ P W C L b i o n ev t h).2.2):=by
 rcases hq with hq|⟨j,f⟩
 . exact OC hq
 cases a:o.op with
 | load ty x =>
  rw[a]at f;have:=f (ev x) (by simp[aU]);simp only[aJ,M,aW,a,fC,Yn,Y8,aU,X7,Yy,bz,still,nU,Xh this]
 | indexAddr ty x y =>
  rw[a]at f;have:=f (ev x) (by simp[aU]);simp only[aJ,M,aW,a,fC,Yn,Y8,aU,X7,Yy,bz,still,ZlP this]
 | _=>rw[a]at j;exact j.elim
theorem ZhR(h:k1<k2):(List.range k2).filter (· != k1)=List.range' 0 k1++List.range' (k1+1) (k2-(k1+1)):=by
 have e:List.range k2=List.range' 0 k1++(k1::List.range' (k1+1) (k2-(k1+1))):=by
  rw[Zg];have:k2=k1+((k2-(k1+1))+1):=by omega
  conv=>lhs;rw[this]
  rw[<-Zo,Zd];simp
 rw[e,List.filter_append,List.filter_cons];have g:(List.range' 0 k1).filter (· != k1)=List.range' 0 k1:=Y1.2 λj A=>by simp[List.mem_range']at A;simp;omega
 have k:(List.range' (k1+1) (k2-(k1+1))).filter (· != k1)=List.range' (k1+1) (k2-(k1+1)):=Y1.2 λj A=>by simp[List.mem_range']at A;simp;omega
 simp[g,k]
def KA(h1:k1<k2)(h2:k2<=ops.toList.length)(a:bu P W C ops.toList b 0 (ops.toList.take k1) s=s1)(c:bu P W C ops.toList b (k1+1) ((ops.toList.drop (k1+1)).take (k2-(k1+1))) s1=sq):((List.range k2).filter (· != k1)).foldl (bF P W C ops.toList b) s=sq:=by rw[ZhR h1,Za,<-Mf k1 0 s (by omega),<-Mf (k2-(k1+1)) (k1+1) _ (by omega)];simp only[X4,a,c]
def MB(C:aO)(L:List Oper)(k2:Nat):Bool :=
 decide (k2<=L.length)&&qX L
 && ((List.range L.length).all λi=>decide (i<k2)||(List.range i).all λj=>((eF L []).getD i 0).testBit j)
 && ((List.range k2).all λi=>uH C (L.getD i default)&&(List.range i).all λj=>((eF L []).getD i 0).testBit j||iL L (L.getD j default) (L.getD i default))
 && ((List.range k2).all λj=>(List.range (j+1)).all λi=>match(L.getD j default).dst with
  | none=>true
  | some d=>!(looks L (L.getD i default)).contains d)
def Znm(h:MB C ops.toList k2=true):RJ C ops k2 k2:=by
 unfold MB at h;simp only[XU,XY]at h;let⟨⟨⟨⟨m,f⟩,Y⟩,U⟩,W⟩:=h;have a : ∀(i:Nat)o,ops.toList[i]? = some o->ops.toList.getD i default=o:=λi o t=>by simp only[List.getD,t,YV]
 simp only[YA,Zk,Yc,XU,XY]at Y U W;have g : ∀i,k2<=i->i<ops.size -> ∀j,j<i->((eF ops.toList []).getD i 0).testBit j=true:=by
  intro i hi n j A;rcases Y i (by simpa using n)with h|h
  . omega
  exact h j A
 refine⟨by simpa using m,?_,g,?_,?_,?_,?_⟩
 .
  intro i o t e J p;unfold qX at f;simp only[YA,Zk,Yc,Ya,XY]at f;have:=f i (X8.1 t).1 e (by rw[a i o t];exact J);rcases this with h|h
  . rw[p]at h;cases h
  exact h
 . intro i o hi N _ t;have:=(U i hi).1;rw[a i o t]at this;exact this
 .
  intro i j x y hi A N r E c;rcases(U i hi).2 j A with h|h
  . exact .inl h
  have B:=(U i hi).1;have k:=(U j (by omega)).1;rw[a i y c]at B;rw[a j x E]at k;rw[a j x E,a i y c]at h;refine .inr ?_;unfold nk;rw[Zh1 k B h];rfl
 . intro i x y hi N E c;have K:=(X8.1 c).1;exact .inl (g k2 (XW _) (by simpa using K) i hi)
 intro i j x y u A N r E c z V e;have h:=W j A i (by omega);rw[a i x E,a j y c,e]at h;simp at h;exact h V
def Znb{Q:Exit->S->Prop}{id:Nat}(k2:Nat)(z:P.follows .mixedOrders=true)(A:MB C ops.toList k2=true)(X:bu P (words P) C ops.toList s.nx 0 (ops.toList.take k2) s=sq)(hok:sq.ok)(hk:aA P ro ops k2 s.nx { n:=sq.n,t:=sq.t,h:=sq.h,nx:=s.nx+ops.size,ok:=True,e:=sq.e } Q):DW P ro (.region id ops true) Q s:=by
 intro B g a w N Z;refine wpIn_region_any z ?_;let⟨F,u⟩:=Mq N;have p:=Znm A;have v:=p.le;have c : ∀i,(Array.replicate ops.size false).getD i false=false:=by intro i;by_cases h:i<ops.size<;>simp[Array.getD,h]
 have f:dS k2 k2 (Array.replicate ops.size false)=List.range' 0 k2:=by unfold dS;rw[Y1.2 (λi hi=>by have:=Zk.1 hi;rw[c];simp;omega),Zg]
 have y:(List.range' 0 k2).foldl (bF P (words P) C ops.toList s.nx) s=sq:=by rw[<-X,<-Mf k2 0 s (by simpa using v)];rfl
 have x:sq.e=s.e:=by rw[<-y];exact(IQ _ _).2
 refine Ny (B:=B) (C:=C) (g0:=g) (w0:=w) (b:=s.nx) (n:=0) p.le p.back p.ord p.comm ops.size _ s g a _ (by simp) (λh=>absurd h (Nat.lt_irrefl _)) (λj _=>c j) (by rw[f];simp;omega) (λi o _ hi=>by rw[c]at hi;cases hi) F u (λr O=>.inl (Z r O)) (by rw[f];exact y) hok (λL E T m W k=>?_);have:=hk B g L E w T ⟨m.sz,m.tm,m.mem,m.df,m.en,m.bd⟩ W k;simp only[x]at this;exact this
section
variable {Q:Exit->S->Prop}
def IR(C:aO)(L:List Oper)(k1 k2:Nat)(a:List (Nat×Nat)):Bool:=(List.range k2).all λi=>i==k1||((eF L []).getD k1 0).testBit i||((L.getD i default).guard.isNone&&(bW C (L.getD i default).op == .none||a.any λp=>p.1==i&&match(L.getD i default).op with
 | .load _ (.tmp t)=>t==p.2
 | .indexAddr _ (.tmp t) (.tmp u)=>t==p.2&&a.any λq=>q.1==i&&u==q.2
 | _=>false))
theorem Qq{g:List (Nat×Nat)}(h:IR C L k1 k2 g=true){h':H}(hk : ∀p∈g,∀r,named r (sd (sq.t p.2))=true->h' r=sq.h r)(i:Nat)(o:Oper)(hi:i<k2)(N:i≠k1)(j:((eF L []).getD k1 0).testBit i=false)(n:L[i]? = some o) :
  aJ P (words P) C L b i o sq.n sq.ev sq.t h'=((aJ P (words P) C L b i o sq.n sq.ev sq.t sq.h).1,h',(aJ P (words P) C L b i o sq.n sq.ev sq.t sq.h).2.2):=by
 have c:L.getD i default=o:=by simp only[List.getD,n,YV]
 unfold IR at h;have J:=YA.1 h i (Zk.2 hi);rw[c,j]at J;simp only[ZT,Yc,YF,XU,ZY]at J;rcases J with J|⟨M,J|⟨p,F,Y,A⟩⟩
 . exact absurd J N
 . exact KL (Zi.1 M) (.inl J)
 refine KL (Zi.1 M) (.inr ?_);cases a:o.op with
 | load ty x =>
  rw[a]at A;cases x with
  | tmp t =>
   simp only[YF]at A;subst A;refine⟨trivial,λd m r O=>?_⟩;simp only[aU,X7,Yy,Yk]at m;subst m;exact hk p F r O
  | _=>simp at A
 | indexAddr ty x y =>
  rw[a]at A;cases x with
  | tmp t =>
   cases y with
   | tmp u =>
    simp only[YF,XU,ZY]at A;let⟨A,k,f,v,U⟩:=A;subst A;subst U;refine⟨trivial,λd m r O=>?_⟩;simp only[aU,X7,Yy,Yl,Y2,or_false]at m;rcases m with rfl|rfl
    . exact hk p F r O
    exact hk k f r O
   | _=>simp at A
  | _=>simp at A
 | _=>rw[a]at A;simp at A
def Zgn{i:Nat}(k:Nat){L:Operand}{l m:Nat}(z9:eG P C ops i k o b s s1)(z:o.op = .slice t x (some L) (some hi) none)(ht:P.underlying t=some (.slice e))(E:s1.ev x = .mrow r off len)(T:s1.ev L = .i l)(hh:s1.ev hi = .i m)(hr:s1.h r=some ⟨e,rows⟩)(h0:l<=m)(h1:off+m<=rows.length)(h2:0<rows.length)(hk:aA P ro ops (k+1) b { n:=s1.n,t:=s1.put o.dst (.mrow r (off+l) (m-l)),h:=s1.h,nx:=s1.nx,ok:=True,e:=s1.e } Q):aA P ro ops i b s Q:=by
 let⟨R,ho,M,J,G,hd⟩:=z9;refine jP (C:=C) k (λd I=>d = .mrow r (off+l) (m-l)/\I=s1.h) R ho M (λc e=>by rw[z]at e;cases e) J G hd (λB g a w j _=>?_) (λd I⟨hy,hh⟩=>by subst hy;subst hh;exact hk);have u:=bT j x;rw[E]at u;have F:=bT j L;rw[T]at F;have su:=bT j hi;rw[hh]at su;let⟨am,c0,N,p2,p3,p4,p5⟩:=j.mem.blk r _ hr;simp only at p2 p3 p5;generalize lI:a.eval x=v at u;cases u with|mrow _ _ _ _ fI Z V =>
 let⟨X,W⟩:=V _ _ _ N;let⟨a',c',e1,e2,_⟩:=fI;have O : ∃(K:Option Addr)(c:Nat),v = .slice K len c/\m<=c/\ae w g (.mrow r (off+l) (m-l)) (.slice (if c=l then K else K.map (·.add (l*P.cellsOf e))) (m-l) (c-l)):=by
  rcases W with⟨f,a,rfl⟩|⟨f,b0,rfl,rfl⟩
  .
   have ab:m=0:=by omega
   subst ab;have ac:l=0:=by omega
   subst ac;cases e1;refine⟨a',0,rfl,XW _,?_⟩;simp only[Zm,Yq,Zx];refine .mrow r off 0 _ ⟨a',0,rfl,XW _,λh=>absurd h om⟩ Z λp c2 sz J=>?_;rw[N]at J;simp only[Yj,YL]at J;obtain⟨rfl,rfl,rfl⟩:=J;exact⟨⟨om,X.2⟩,.inl ⟨f,a',rfl⟩⟩
  cases e1;refine⟨some ⟨b0,off*P.cellsOf e,none⟩,c0-off,rfl,om,?_⟩;by_cases A:c0-off=l
  .
   rw[X0 A];have Eb:m-l=0:=by omega
   rw[Eb,A,Yq];refine .mrow r (off+l) 0 _ ⟨_,0,rfl,XW _,λh=>absurd h om⟩ Z λp c2 sz J=>?_;rw[N]at J;simp only[Yj,YL]at J;obtain⟨rfl,rfl,rfl⟩:=J;exact⟨⟨om,X.2⟩,.inl ⟨om,_,rfl⟩⟩
  rw[XV A,YZ,oQ,<-Zn];refine .mrow r (off+l) (m-l) _ ⟨_,_,rfl,om,λ_=>⟨_,rfl⟩⟩ Z λp c2 sz J=>?_;rw[N]at J;simp only[Yj,YL]at J;obtain⟨rfl,rfl,rfl⟩:=J;refine⟨⟨om,X.2⟩,.inr ⟨om,b0,rfl,?_⟩⟩;congr 1;omega
 obtain⟨K,c,rfl,k2,Y⟩:=O;have r2:=ow (P:=P) (o:=some (.i m)) (vo:=some (a.eval hi)) (d:=len) (y:=c) (w:=w) (g:=g) su rfl (by simp[bnd]) o3g (if true then .sliceAcap else .sliceAlen);have r1:=ow (P:=P) (o:=some (.i l)) (vo:=some (a.eval L)) (d:=0) (y:=(bnd (some (.i m)) len).toNat) (w:=w) (g:=g) F rfl (by simp[bnd]) o3g .sliceB;have U:=CR ht p2 (a:=K) (len:=len) (vm:=none) (Gd (P:=P) (len:=len) r2 r1);simp only[bnd,Int.toNat_natCast]at U;refine⟨_,_,⟨rfl,rfl⟩,_,g,w,.inl ?_,Y,j.mem,ay.refl _ _,λr hr=>.inl hr⟩;let⟨od,oo,gT,op,oa,og⟩:=o;simp only at z;subst z;simp[execOp,lI,U];try rfl
def seg_apart{i:Nat}(k:Nat){z:Func}{r2 nR qy:Nat}{lU:List (List D)}(z9:eG P C ops i k o b s s1)(T : o.op = .call { callee := .value f, args := #[x, y], argTypes := ts })(hF : P.funcs[aY]? = some z)(U : (z.name == "runtime.NumGoroutine") = false)(p : z.body.isNone = true)(hn : Extern.findNext z = none)(V : Extern.find z = some (Extern.SlicesOverlaps.overlaps #[t, t] #[u]))(ht : P.underlying t = some (.slice e))(Ag:s1.ev f = .fn (.func aY) [] [])(hx:s1.ev x = .mrow r off len)(hy:s1.ev y = .mrow r2 nR qy)(hr:s1.h r=some ⟨e,rows⟩)(ar:s1.h r2=some ⟨e,lU⟩)(N:r≠r2)(h0:0<len)(h1:0<qy)(hk:aA P ro ops (k+1) b { n:=s1.n,t:=s1.put o.dst (.b false),h:=s1.h,nx:=s1.nx,ok:=True,e:=s1.e } Q):aA P ro ops i b s Q:=by
 let⟨R,ho,M,J,aw,m⟩:=z9;refine jP (C:=C) k (λd I=>d = .b false/\I=s1.h) R ho M (λc e=>by rw[T]at e;cases e) J aw m (λB g a w j _=>?_) (λd I⟨hy,hh⟩=>by subst hy;subst hh;exact hk);have hv:=bT j x;rw[hx]at hv;have pI:=bT j y;rw[hy]at pI;have lY:=bT j f;rw[Ag]at lY;let⟨G,A,p1,p2,p3,p4,p5⟩:=j.mem.blk r _ hr;let⟨bp,c1,o1,o2,o3,o4,o5⟩:=j.mem.blk r2 _ ar;simp only at p2 p3 p5 o2 o3 o5;have O : ∀{r off len G A}{rows:List (List D)}{v:Value},g.M r=some (G,A,P.cellsOf e)->0<P.cellsOf e->0<len->ae w g (.mrow r off len) v->((G=none/\A=0) \/ ∃b L,G=some b/\wR w.heap[b]? e L A/\(A<=maxLen->L.size=A*P.cellsOf e) /\ ¬g.I b/\Holds P w g ⟨e,rows⟩ L) ->
   ∃K cc L,G=some K/\v = .slice (some ⟨K,off*P.cellsOf e,none⟩) len cc/\w.heap[K]? = some (.cells L e (0,0))/\L.size≠0:=by
  intro r off len G A rows v q1 W q3 q5 q6;cases q5 with|mrow _ _ _ _ fI Z b7 =>
  let⟨a',c',e1,e2,_⟩:=fI;let⟨z1,z2⟩:=b7 _ _ _ q1;rcases z2 with⟨e0,a,rfl⟩|⟨e0,K,rfl,rfl⟩
  . exact absurd q3 om
  rcases q6 with⟨q7,_⟩|⟨b,L,q7,q8,q9,_⟩
  . cases q7
  cases q7;have ab:A<=maxLen:=by omega
  have E:=q9 ab;refine⟨K,_,L,rfl,rfl,q8.cells ab,?_⟩;rw[E];have:0<A*P.cellsOf e:=Nat.mul_pos om W;omega
 obtain⟨K,cc,L,rfl,lI,X,br⟩:=O p1 p2 h0 hv p5;obtain⟨b1,b8,ac,rfl,am,b9,F⟩:=O o1 o2 h1 pI o5;have aq:K≠b1:=λq=>N (j.mem.inj r r2 K _ _ _ _ p1 (by rw[q];exact o1));generalize bb:a.eval f=vf at lY;cases lY with|fn _ _ _ fs cs l1 l2 r1 r2 =>
 have be:fs = #[]:=ZB (by simpa using l1.symm);have bh:cs = #[]:=ZB (by simpa using l2.symm);subst be;subst bh;have bm:=Lib.run_overlaps_apart (P:=P) w t u e ht (P.cellsOf e) (λw=>rG p2 w) ⟨K,off*P.cellsOf e,none⟩ ⟨b1,nR*P.cellsOf e,none⟩ len cc qy b8 aq e e L.size ac.size (by simp[World.shape?,X]) (by simp[World.shape?,b9]) F (by simp[World.frozen?,X]) (by simp[World.frozen?,X]);have Y:(callFunc aY #[a.eval x,a.eval y]).run P w = .ok (.value (.bool false)) w:=by rw[run_callFunc_extern hF U p hn V,lI,am,bm];rfl
 refine⟨_,_,⟨rfl,rfl⟩,_,g,w,.inl ?_,.v _,j.mem,ay.refl _ _,λr hr=>.inl hr⟩;let⟨od,oo,gT,op,oa,og⟩:=o;simp only at T;subst T;simp[execOp,resolve,Deferred.ofValue,bb,invoke,Y]
def ZgG{i:Nat}(k:Nat){A:D}(z9:eG P C ops i k o b s s1)(f:o.op = .call { callee:=.builtin .append,args:=#[x,y],argTypes:=#[t,u] })(ht:P.underlying t=some (.slice e))(E:s1.ev x = .mrow r 0 n)(F:s1.ev y=A)(hr:s1.h r=some ⟨e,rows⟩)(hn:rows.length=n)(N:r≠b+k)(K:aG A s1.h=news)(Y:news.length=bQ A)(hs:iy P u s1.h A=true)(hrl : ∀q∈news,q.length=P.cellsOf e)(hz:eH P e=true)(j:0<P.cellsOf e)(hby:(n+news.length)*P.bytesOf e<=140737488355328)(h63:n+news.length<=9223372036854775807)(hk:aA P ro ops (k+1) b { n:=s1.n,t:=s1.put o.dst (.mrow (b+k) 0 (n+news.length)),h:=upd (upd s1.h r none) (b+k) (some ⟨e,rows++news⟩),nx:=s1.nx,ok:=True,e:=s1.e } Q):aA P ro ops i b s Q:=by
 let⟨R,Z,M,he,G,m⟩:=z9;subst K;subst F;have U:bS P t=some e:=by simp[bS,ht]
 have O:jm P t u (.mrow r 0 n) (s1.ev y) s1.h (b+k)=(.mrow (b+k) 0 (n+(aG (s1.ev y) s1.h).length),upd (upd s1.h r none) (b+k) (some ⟨e,rows++aG (s1.ev y) s1.h⟩),(0<P.cellsOf e/\(n+(aG (s1.ev y) s1.h).length)*P.bytesOf e<=140737488355328/\n+(aG (s1.ev y) s1.h).length<=9223372036854775807) /\
    ((aG (s1.ev y) s1.h).length=bQ (s1.ev y)/\iy P u s1.h (s1.ev y)=true/\eH P e=true /\ ∀r∈aG (s1.ev y) s1.h,r.length=P.cellsOf e)/\e=e/\rows.length=n/\r≠b+k):=by
  rw[Zps,U];simp only[hr]
 refine jP (C:=C) k (λd I=>d = .mrow (b+k) 0 (n+(aG (s1.ev y) s1.h).length)/\I=upd (upd s1.h r none) (b+k) (some ⟨e,rows++aG (s1.ev y) s1.h⟩)) R Z M (λc e=>by rw[f]at e;cases e) he G m (λB g a w z p=>?_) (λd I⟨F,hh⟩=>by subst F;subst hh;exact hk);have V:=bT z x;rw[E]at V;have J:(jm P t u (.mrow r 0 n) (s1.ev y) s1.h (b+k)).2.2:=by rw[O];exact⟨⟨j,hby,h63⟩,⟨Y,hs,hz,hrl⟩,rfl,hn,N⟩
 let⟨v,L,T,q1,W,X,q4,q5⟩:=Zcq z.mem p V (bT z y) J o.type;rw[O]at W X;refine⟨_,_,⟨rfl,rfl⟩,v,L,T,.inl ?_,W,X,q4,q5⟩;let⟨od,oo,gT,op,oa,og⟩:=o;simp only at f;subst f;simp[Go.BigFrame.execOp_builtin,Go.BigFrame.builtin_append,q1]
section
variable [Glob P] (C : aO) {s s1 sq : S} {id : Nat} {ops : Array Oper} {o : Oper} {i b : Nat} {x y : Code}
def tF(h:aA P ro ops 0 s.nx { n:=s.n,t:=s.t,h:=s.h,nx:=s.nx+ops.size,ok:=True,e:=s.e } Q):DW P ro (.region id ops false) Q s:=yY h
def bX(h:aA P ro ops 0 s.nx { n:=s.n,t:=s.t,h:=s.h,nx:=s.nx+ops.size,ok:=True,e:=s.e } (thenS (DW P ro y Q) Q)):DW P ro (.seq (.region id ops false) y) Q s:=aj (yY h)
def Ck(k2:Nat)(hk:aA P ro ops k2 s.nx { n:=sq.n,t:=sq.t,h:=sq.h,nx:=s.nx+ops.size,ok:=True,e:=sq.e } Q)(a:P.follows .mixedOrders=true:=by exact zQ)(c:MB C ops.toList k2=true:=by kernel_rfl)
  (X:bu P (words P) C ops.toList s.nx 0 (ops.toList.take k2) s=sq:=by simp only[X5,Yf,go_sem,ff];first|done|exact rfl)(hok:sq.ok:=by(try simp only[go_sem,ff]);all_goals exact ok0):DW P ro (.region id ops true) Q s:=Znb k2 a c X hok hk
def dr1(k1 k2:Nat)(x:List (Nat×Nat)){j:Oper}{z:Array TypeId}{y:List D}(A:P.follows .mixedOrders=true:=by exact zQ)(B:F9 C ops.toList k1 k2=true:=by kernel_rfl)(k:IR C ops.toList k1 k2 x=true:=by kernel_rfl)(u:ops[k1]? = some j:=by exact dP rfl)(v:j.op = .call { callee:=.value f,args:=args,argTypes:=z }:=by exact rfl)(M:j.guard=none:=by exact rfl)(X:((List.range k2).filter (· != k1)).foldl (bF P (words P) C ops.toList s.nx) s=sq:=by exact KA (by decide) (by decide) o0X o0X)(hok:sq.ok:=by(try simp only[go_sem,ff]);all_goals exact ok0)(m:dN sq.n j.dst=true:=by(try simp only[go_sem,ff]);all_goals (first|done|rfl|decide|simp))(a:sq.ev f = .fn (.func aY) first y:=by simp only[go_sem,ff];first|done|exact rfl)(w:(args.toList.map sq.ev).all sg=true:=by simp only[go_sem,ff])(E:((args.toList.map sq.ev).map sd).map wk=xs:=by simp only[go_sem,ff];first|done|exact rfl)(hct:bG P aY (first++xs++y) sq.h (s.nx+k2) R)(hkeep : ∀c I g,R c I g -> ∀p∈x,∀r,named r (sd (sq.t p.2))=true->I r=sq.h r)(hk : ∀c I g,R c I g->aA P ro ops k2 g { n:=sq.n,t:=sq.put j.dst c,h:=I,nx:=g+ops.size,ok:=True,e:=sq.e } Q):DW P ro (.region id ops true) Q s :=
 (Zna k1 k2 R A B u v M X hok m a w E hct (λc I g O i o hi N F u=>Qq k (hkeep c I g O) i o hi N F u) hk)
def dr1E(k1 k2:Nat)(z:List (Nat×Nat)){k:Oper}{B:Array TypeId}{A:List D}(F:P.follows .mixedOrders=true:=by exact zQ)(G:F9 C ops.toList k1 k2=true:=by kernel_rfl)(u:IR C ops.toList k1 k2 z=true:=by kernel_rfl)(v:ops[k1]? = some k:=by exact dP rfl)(x:k.op = .call { callee:=.value f,args:=args,argTypes:=B }:=by exact rfl)(M:k.guard=none:=by exact rfl)(X:((List.range k2).filter (· != k1)).foldl (bF P (words P) C ops.toList s.nx) s=sq:=by exact KA (by decide) (by decide) o0X o0X)(hok:sq.ok:=by(try simp only[go_sem,ff]);all_goals exact ok0)(m:dN sq.n k.dst=true:=by(try simp only[go_sem,ff]);all_goals (first|done|rfl|decide|simp))(a:sq.ev f = .fn (.func aY) first A:=by simp only[go_sem,ff];first|done|exact rfl)(y:(args.toList.map sq.ev).all sg=true:=by simp only[go_sem,ff])(J:(args.toList.map sq.ev).map sd=xs:=by simp only[go_sem,ff];first|done|exact rfl)(hE : ∀g w,sq.e.p g w->E.p g w)(hct:Gj P aY (first++xs++A) sq.h (s.nx+k2) E R)(hkeep : ∀c I j,R c I j -> ∀p∈z,∀r,named r (sd (sq.t p.2))=true->I r=sq.h r)(hk : ∀c I j,R c I j->aA P ro ops k2 j { n:=sq.n,t:=sq.put k.dst c,h:=I,nx:=j+ops.size,ok:=True,e:=sq.e } Q):DW P ro (.region id ops true) Q s :=
 (Zba k1 k2 R F G v x M X hok m a y J hE hct (λc I j O i o hi N K v=>Qq u (hkeep c I j O) i o hi N K v) hk)
def aN{a:S}(hq:Q .normal a.clear)(hi:i<=ops.size:=by first|decide|simp)(J:bu P (words P) C ops.toList b i (ops.toList.drop i) s=a:=by simp only[X9,X4,S.put,go_sem,ff];first|done|exact rfl)(hok:a.ok:=by(try simp only[go_sem,ff]);all_goals exact ok0)(hn:s.nx=b+ops.size:=by rfl):aA P ro ops i b s Q:=yw hi J hok hn hq
end
section
variable [Glob P] (C : aO) {s s1 : S} {ops : Array Oper} {i b : Nat} {o : Oper} (k : Nat)
def FV(hq:Q (.panic [{ v:=.iface t v,recovered:=false }]) { n:=s1.n,t:=s1.t,h:=s1.h,nx:=b+k,ok:=True,e:=s1.e })(hv : ∀(w:World)(g:Mem)u,ae w g d u->u = .iface t v)(R:i<=k:=by omega)(a:ops[k]? = some o:=by exact dP rfl)(r:o.op = .panic x:=by exact rfl)(M:o.guard=none:=by exact rfl)(J:bu P (words P) C ops.toList b i ((ops.toList.drop i).take (k-i)) s=s1:=by simp only[X9,X4,X5,Yf,S.put,Yq,Nat.reduceSub,go_sem,ff];first|done|exact rfl)(hok:s1.ok:=by(try simp only[go_sem,ff]);all_goals exact ok0)(E:s1.ev x=d:=by simp only[go_sem,ff];first|done|exact rfl):aA P ro ops i b s Q:=Zgq k R a r M J hok E hv hq
def Zmr{c:D}(hk:aA P ro ops (k+1) b { n:=s1.n,t:=s1.put o.dst (.mrow r off (n+news.length)),h:=upd s1.h r (some ⟨e,rows.take (off+n)++news++rows.drop (off+n+news.length)⟩),nx:=s1.nx,ok:=True,e:=s1.e } Q)(R:i<=k:=by omega)(j:ops[k]? = some o:=by exact dP rfl)(M:o.guard=none:=by exact rfl)(f:o.op = .call { callee:=.builtin .append,args:=#[x,y],argTypes:=#[t,u] }:=by exact rfl)(ht:P.underlying t=some (.slice e):=by kernel_rfl)(J:bu P (words P) C ops.toList b i ((ops.toList.drop i).take (k-i)) s=s1:=by simp only[X9,X4,X5,Yf,S.put,Yq,Nat.reduceSub,go_sem,ff];first|done|exact rfl)(hok:s1.ok:=by(try simp only[go_sem,ff]);all_goals exact ok0)(m:dN s1.n o.dst=true:=by(try simp only[go_sem,ff]);all_goals (first|done|rfl|decide|simp))(E:s1.ev x = .mrow r off n:=by simp only[go_sem,ff];first|done|exact rfl)(p:s1.ev y=c:=by simp only[go_sem,ff];first|done|exact rfl)(hs:iy P u s1.h c=true:=by simp only[go_sem,ff])(hr:s1.h r=some ⟨e,rows⟩:=by simp only[go_sem,ff];first|done|exact rfl)(g:aG c s1.h=news:=by simp only[aG,go_sem,ff];first|done|exact rfl)(v:news.length=bQ c:=by first|(simp only[bQ,go_sem,ff];done)|(simp[bQ];omega))(hrl : ∀q∈news,q.length=P.cellsOf e:=by simp only[go_sem,ff])(h0:off<rows.length:=by first|omega|(simp;done)|(simp;omega))(a:off+n+news.length<=rows.length:=by first|omega|(simp;done)|(simp;omega)):aA P ro ops i b s Q:=by subst g;exact ZgJ k R j M f ht J hok m E p hr v hs hrl h0 a hk
def En{r2 a p:Nat}(m:Nat){c:List (List D)}(hk:aA P ro ops (k+1) b { n:=s1.n,t:=s1.put o.dst (.i m),h:=upd s1.h r (some ⟨e,rows.take off++(c.drop a).take m++rows.drop (off+m)⟩),nx:=s1.nx,ok:=True,e:=s1.e } Q)(z9:eG P C ops i k o b s s1:=by exact pos)(f:o.op = .call { callee:=.builtin .copy,args:=#[x,y],argTypes:=#[t,u] }:=by exact rfl)(ht:P.underlying t=some (.slice e):=by kernel_rfl)(E:s1.ev x = .mrow r off len:=by simp only[go_sem,ff];first|done|exact rfl)(w:s1.ev y = .mrow r2 a p:=by simp only[go_sem,ff];first|done|exact rfl)(hr:s1.h r=some ⟨e,rows⟩:=by simp only[go_sem,ff];first|done|exact rfl)(g:s1.h r2=some ⟨e,c⟩:=by simp only[go_sem,ff];first|done|exact rfl)(v:m=min p len:=by first|omega|(simp;done)|(simp;omega))(h0:0<m:=by first|omega|(simp;done)|(simp;omega))(j:off<=rows.length:=by first|omega|(simp;done)|(simp;omega))(z:a+m<=c.length:=by first|omega|(simp;done)|(simp;omega)):aA P ro ops i b s Q:=Zgy k m z9 f ht E w hr g v h0 j z hk
def Qc(hk : ∀c:Nat,len<=c->c<=maxLen->aA P ro ops (k+1) b { n:=s1.n,t:=s1.put o.dst (.i c),h:=s1.h,nx:=s1.nx,ok:=True,e:=Env.lim s1.e r (off+c) } Q)(z9:eG P C ops i k o b s s1:=by exact pos)(a:o.op = .call { callee:=.builtin .cap,args:=#[x],argTypes:=#[t] }:=by exact rfl)(ht:P.underlying t=some (.slice e):=by kernel_rfl)(E:s1.ev x = .mrow r off len:=by simp only[go_sem,ff];first|done|exact rfl)(hr:s1.h r=some ⟨e,rows⟩:=by simp only[go_sem,ff];first|done|exact rfl):aA P ro ops i b s Q:=ZgD k z9 a ht E hr hk
def PV{c:Nat}(m:Nat)(hE:s1.e=Env.lim E r c)(j:off+m<=c)(hk:aA P ro ops (k+1) b { n:=s1.n,t:=s1.put o.dst (.mrow r off m),h:=s1.h,nx:=s1.nx,ok:=True,e:=s1.e } Q)(z9:eG P C ops i k o b s s1:=by exact pos)(a:o.op = .slice t x none (some hi) none:=by exact rfl)(ht:P.underlying t=some (.slice e):=by kernel_rfl)(f:s1.ev x = .mrow r off len:=by simp only[go_sem,ff];first|done|exact rfl)(hh:s1.ev hi = .i m:=by simp only[go_sem,ff];first|done|exact rfl)(hr:s1.h r=some ⟨e,rows⟩:=by simp only[go_sem,ff];first|done|exact rfl)(h0:0<m:=by first|omega|(simp;done)|(simp;omega))(g:off<rows.length:=by first|omega|(simp;done)|(simp;omega)):aA P ro ops i b s Q:=Zgo k z9 a ht f hh hr hE j h0 g hk
def Zma(l m:Nat)(hk:aA P ro ops (k+1) b { n:=s1.n,t:=s1.put o.dst (.mrow r (off+l) (m-l)),h:=s1.h,nx:=s1.nx,ok:=True,e:=s1.e } Q)(z9:eG P C ops i k o b s s1:=by exact pos)(a:o.op = .slice t x (some f) (some hi) none:=by exact rfl)(ht:P.underlying t=some (.slice e):=by kernel_rfl)(E:s1.ev x = .mrow r off len:=by simp only[go_sem,ff];first|done|exact rfl)(c:s1.ev f = .i l:=by simp only[go_sem,ff];first|done|exact rfl)(hh:s1.ev hi = .i m:=by simp only[go_sem,ff];first|done|exact rfl)(hr:s1.h r=some ⟨e,rows⟩:=by simp only[go_sem,ff];first|done|exact rfl)(h0:l<=m:=by first|omega|(simp;done)|(simp;omega))(h1:off+m<=rows.length:=by first|omega|(simp;done)|(simp;omega))(h2:0<rows.length:=by first|omega|(simp;done)|(simp;omega)):aA P ro ops i b s Q:=Zgn k z9 a ht E c hh hr h0 h1 h2 hk
def Zmq{c:Nat}(m:Nat)(hE:s1.e=Env.lim E r c)(j:c<off+n+m)(hby:(n+m)*P.bytesOf e<=140737488355328)(h63:n+m<=4611686018427387904)(hk:aA P ro ops (k+1) b { n:=s1.n,t:=s1.put o.dst (.mrow (b+k) 0 (n+m)),h:=upd s1.h (b+k) (some ⟨e,(rows.drop off).take n++List.replicate m (zeroCells P e)⟩),nx:=s1.nx,ok:=True,e:=s1.e } Q)(z9:eG P C ops i k o b s s1:=by exact pos)(f:o.op = .call { callee:=.builtin .append,args:=#[x,y],argTypes:=#[t,u] }:=by exact rfl)(ht:P.underlying t=some (.slice e):=by kernel_rfl)(p:P.underlying u=some (.int kk):=by kernel_rfl)(hz:eH P e=true:=by kernel_rfl)(g:(zeroCells P e).all D.one=true:=by kernel_rfl)(a:(zeroCells P e).length=P.cellsOf e:=by kernel_rfl)(v:s1.ev x = .mrow r off n:=by simp only[go_sem,ff];first|done|exact rfl)(w:s1.ev y = .i m:=by simp only[go_sem,ff];first|done|exact rfl)(hr:s1.h r=some ⟨e,rows⟩:=by simp only[go_sem,ff];first|done|exact rfl)(z:off+n<=rows.length:=by first|omega|(simp;done)|(simp;omega)):aA P ro ops i b s Q:=ZgI k z9 f ht p hz g a v w hr hE j z hby h63 hk
def Zl7{g j:Operand}{l m:Nat}(hk:aA P ro ops (k+1) b { n:=s1.n,t:=s1.put o.dst .junk,h:=s1.h,nx:=s1.nx,ok:=True,e:=s1.e } Q)(z9:eG P C ops i k o b s s1:=by exact pos)(a:o.op = .slice t x (some g) (some hi) (some j):=by exact rfl)(ht:P.underlying t=some (.slice e):=by kernel_rfl)(E:s1.ev x = .mrow r 0 len:=by simp only[go_sem,ff];first|done|exact rfl)(c:s1.ev g = .i l:=by simp only[go_sem,ff];first|done|exact rfl)(hh:s1.ev hi = .i m:=by simp only[go_sem,ff];first|done|exact rfl)(f:s1.ev j = .i len:=by simp only[go_sem,ff];first|done|exact rfl)(hr:s1.h r=some ⟨e,rows⟩:=by simp only[go_sem,ff];first|done|exact rfl)(h1:l<=m:=by first|omega|(simp;done)|(simp;omega))(h2:m<=len:=by first|omega|(simp;done)|(simp;omega)):aA P ro ops i b s Q:=Zgk k z9 a ht E c hh f hr h1 h2 hk
def Zmp(hk:aA P ro ops (k+1) b { n:=s1.n,t:=s1.put o.dst (.tuple []),h:=upd s1.h r (some ⟨e,rows.take off⟩),nx:=s1.nx,ok:=True,e:=s1.e } Q)(R:i<=k:=by omega)(c:ops[k]? = some o:=by exact dP rfl)(M:o.guard=none:=by exact rfl)(a:o.op = .call { callee:=.builtin .clear,args:=#[x],argTypes:=#[t] }:=by exact rfl)(ht:P.underlying t=some (.slice e):=by kernel_rfl)(hz:eH P e=true:=by kernel_rfl)(h1:(zeroCells P e).all D.one=true:=by kernel_rfl)(J:bu P (words P) C ops.toList b i ((ops.toList.drop i).take (k-i)) s=s1:=by simp only[X9,X4,X5,Yf,S.put,Yq,Nat.reduceSub,go_sem,ff];first|done|exact rfl)(hok:s1.ok:=by(try simp only[go_sem,ff]);all_goals exact ok0)(m:dN s1.n o.dst=true:=by(try simp only[go_sem,ff]);all_goals (first|done|rfl|decide|simp))(E:s1.ev x = .mrow r off len:=by simp only[go_sem,ff];first|done|exact rfl)(hr:s1.h r=some ⟨e,rows⟩:=by simp only[go_sem,ff];first|done|exact rfl)(f:off+len<=rows.length:=by first|omega|(simp;done)|(simp;omega)):aA P ro ops i b s Q:=Kg k R c M a ht hz h1 J hok m E hr f hk
def LC(K:Nat){u:Array TypeId}{c p:List D}{res:D}(R:i<=k:=by omega)(v:ops[k]? = some o:=by exact dP rfl)(M:o.guard=none:=by exact rfl)(r:o.op = .call { callee:=.value f,args:=args,argTypes:=u }:=by exact rfl)(J:bu P (words P) C ops.toList b i ((ops.toList.drop i).take (k-i)) s=s1:=by simp only[X9,X4,X5,Yf,S.put,Yq,Nat.reduceSub,go_sem,ff];first|done|exact rfl)(hok:s1.ok:=by(try simp only[go_sem,ff]);all_goals exact ok0)(m:dN s1.n o.dst=true:=by(try simp only[go_sem,ff]);all_goals (first|done|rfl|decide|simp))(a:s1.ev f = .fn (.func aY) first c:=by simp only[go_sem,ff];first|done|exact rfl)(g:(args.toList.map s1.ev).all sg=true:=by simp only[go_sem,ff])(E:(args.toList.map s1.ev).map sd=xs:=by simp only[go_sem,ff];first|done|exact rfl)(hct:PureCt P aY p res)(hso : ∀d∈first++xs++c,dU s1.h K d)(hz:(first++xs++c).map (λd=>wk (snap s1.h K d))=p)(j:flat res=true:=by rfl)(hk:aA P ro ops (k+1) b { n:=s1.n,t:=s1.put o.dst res,h:=s1.h,nx:=s1.nx,ok:=True,e:=s1.e } Q):aA P ro ops i b s Q:=Zgp k K R v r M J hok m a g E hso hz hct j hk
def Zms{w:Array TypeId}{a:Func}{r2 z v:Nat}{A:List (List D)}(N:r≠r2)(hk:aA P ro ops (k+1) b { n:=s1.n,t:=s1.put o.dst (.b false),h:=s1.h,nx:=s1.nx,ok:=True,e:=s1.e } Q)(B : P.funcs[aY]? = some a := by exact rfl)(c : (a.name == "runtime.NumGoroutine") = false := by kernel_rfl)(p : a.body.isNone = true := by kernel_rfl)(hn : Extern.findNext a = none := by kernel_rfl)(g : Extern.find a = some (Extern.SlicesOverlaps.overlaps #[t, t] #[u]) := by kernel_rfl)(ht : P.underlying t = some (.slice e) := by kernel_rfl)(z9:eG P C ops i k o b s s1:=by exact pos)(j:o.op = .call { callee:=.value f,args:=#[x,y],argTypes:=w }:=by exact rfl)(F:s1.ev f = .fn (.func aY) [] []:=by simp only[go_sem,ff];first|done|exact rfl)(E:s1.ev x = .mrow r off len:=by simp only[go_sem,ff];first|done|exact rfl)(G:s1.ev y = .mrow r2 z v:=by simp only[go_sem,ff];first|done|exact rfl)(hr:s1.h r=some ⟨e,rows⟩:=by simp only[go_sem,ff];first|done|exact rfl)(m:s1.h r2=some ⟨e,A⟩:=by simp only[go_sem,ff];first|done|exact rfl)(h0:0<len:=by first|omega|(simp;done)|(simp;omega))(h1:0<v:=by first|omega|(simp;done)|(simp;omega)):aA P ro ops i b s Q :=
 seg_apart k z9 j B c p hn g ht F E G hr m N h0 h1 hk
def Zaw{a:D}(N:r≠b+k)(hk:aA P ro ops (k+1) b { n:=s1.n,t:=s1.put o.dst (.mrow (b+k) 0 (n+news.length)),h:=upd (upd s1.h r none) (b+k) (some ⟨e,rows++news⟩),nx:=s1.nx,ok:=True,e:=s1.e } Q)(z9:eG P C ops i k o b s s1:=by exact pos)(c:o.op = .call { callee:=.builtin .append,args:=#[x,y],argTypes:=#[t,u] }:=by exact rfl)(ht:P.underlying t=some (.slice e):=by kernel_rfl)(E:s1.ev x = .mrow r 0 n:=by simp only[go_sem,ff];first|done|exact rfl)(g:s1.ev y=a:=by simp only[go_sem,ff];first|done|exact rfl)(hr:s1.h r=some ⟨e,rows⟩:=by simp only[go_sem,ff];first|done|exact rfl)(f:aG a s1.h=news:=by simp only[aG,go_sem,ff];first|done|exact rfl)(hn:rows.length=n:=by first|omega|(simp;done)|(simp;omega))(m:news.length=bQ a:=by first|(simp only[bQ,go_sem,ff];done)|(simp[bQ];done)|(simp[bQ];omega))(hs:iy P u s1.h a=true:=by simp only[go_sem,ff])(hrl : ∀q∈news,q.length=P.cellsOf e:=by simp only[go_sem,ff])(hz:eH P e=true:=by kernel_rfl)(j:0<P.cellsOf e:=by exact YP (by kernel_rfl))(hby:(n+news.length)*P.bytesOf e<=140737488355328:=by omega)(h63:n+news.length<=9223372036854775807:=by omega):aA P ro ops i b s Q :=
 ZgG k z9 c ht E g hr hn N f m hs hrl hz j hby h63 hk
end
end
section
variable {Q:Exit->S->Prop}
def Jv(P:Program)(K:World->Prop):List Deferred->World->Prop
 | [],w=>K w
 | d::ds,w=>∃r T,d.target = .collected r/\(Instr.takeDeferred r).run P w = .ok [] T/\Jv P K ds T
theorem Zj3{K:World->Prop}{B:Nat}:∀(ds:List Deferred)(w:World),Marks B g ds w ->
  (∀T,T.drawn=w.drawn->T.os=w.os->T.tape=w.tape->T.output=w.output->T.heap.size=w.heap.size->(∀k:Nat,k<B->T.heap[k]? = w.heap[k]?)->(∀k:Nat,g.I k->T.heap[k]? = w.heap[k]?)->(∀(k:Nat)o,w.heap[k]? = some o->Jt o->T.heap[k]? = w.heap[k]?)->K T) ->
  Jv P K ds w:=by
 intro ds;induction ds with
 | nil =>
  intro w _ h;exact h w rfl rfl rfl rfl rfl (λ_ _=>rfl) (λ_ _=>rfl) (λ_ _ _ _=>rfl)
 | cons d ds v =>
  rintro w ⟨⟨D,J,Y,A,Z,U⟩,W⟩ h;refine⟨D,w.putObj D (.deferred none),J,run_takeDeferred Y,?_⟩;have N : ∀k,k≠D->(w.putObj D (.deferred none)).heap[k]? = w.heap[k]? := λk X=>World.putObj_heap_other X;have j : ∀ds:List Deferred,(∀u∈ds,u.target ≠ .collected D)->Marks B g ds w->Marks B g ds (w.putObj D (.deferred none)):=by
   intro ds;induction ds with
   | nil=>intro _ _;trivial
   | cons e ds m =>
    rintro a ⟨⟨r,G,c,x,z,E⟩,F⟩;refine⟨⟨r,G,?_,x,z,E⟩,m (λu n=>a u (by simp[n])) F⟩;rw[N r (λp=>by subst p;exact a e (by simp) G)];exact c
  refine v _ (j ds A W) λT f y O I L M R V=>?_;refine h T (by rw[f];rfl) (by rw[y];rfl) (by rw[O];rfl) (by rw[I];rfl) (by rw[L];simp) (λk X=>?_) (λk X=>?_) (λk o X t=>?_)
  . rw[M k X,N k (by omega)]
  . rw[R k X,N k (λe=>by subst e;exact U X)]
  have:k≠D:=λp=>by subst p;rw[Y]at X;cases X;exact t
  rw[V k o (by rw[N k this];exact X) t,N k this]
theorem WJ{F:Fence}{K:World->Prop}:∀(ds:List Deferred)(w:World)(fr:Frame)(cs:List Frame),fr.mode ≠ .run->fr.defers=ds->F.fn fr.fn->F.room (cs.length+1+n)->Jv P K ds w ->
  ∃T,K T/\StepsIn (Machine.fenced P F) P (lone fr cs w) (lone { fr with defers:=[] } cs T):=by
 intro ds;induction ds with
 | nil =>
  intro w fr cs v m p O h;refine⟨w,h,?_⟩;have:({ fr with defers:=[] }:Frame)=fr:=by cases fr;simp only at m;subst m;rfl
  rw[this];exact .refl _
 | cons d ds k =>
  intro w fr cs v m p O ⟨r,T,a,c,f⟩;have J:=step_collected (cs:=cs) v m a c;have j:(lone fr cs w).fenced P F:=fenced_out p O v m (λg M=>by rw[a]at M;simp[Target.leads]at M);let⟨o,X,N⟩:=k T { fr with defers:=[]++ds } cs v rfl p O f;exact⟨o,X,StepsIn.trans (.one j J) N⟩
def Zcd(P:Program)(fn:Func)(h:Frame)(cs:List Frame)(R:Ending->FrameMode->World->Prop):Exit->Act->List Frame->World->Prop
 | .normal,a,c,w | .ret,a,c,w=>∃g,c={ h with mode:=g }::cs/\Jv P (λf=>∃v,(results fn a.tmps).run P f = .ok v f/\R (.returned v) g f) a.defers w
 | _,_,_,_=>False
theorem ZoY{F:Fence}{f:FuncId}{args:Array Value}{u:FrameMode}{R:Ending->FrameMode->World->Prop}(a:P.funcs[f]? = some fn)(p:fn.body=some c)(o:F.fn f)(h : ∀(m:Frame)(cs:List Frame),m.mode=u ->
   c.wpSIn F n P (Zcd P fn m cs R) { tmps:=args++Array.replicate (fn.ntmps-args.size) undef,defers:=[] } (m::cs) w) :
  CallsDIn F n P f args u w R:=by
 refine⟨o,λm cs B g=>?_⟩;let b:Frame:={ (default:Frame)with fn:=f,kind:=.deferred,roundOf:=none };have k:Frame.enter P f args .deferred =
   b.atR { tmps:=args++Array.replicate (fn.ntmps-args.size) undef,defers:=[] } [.code c]:=by
  simp[Frame.enter,Frame.atR,a,p,b]
 let⟨e,t,E,T,G,K,j⟩:=h m cs B b [] rfl rfl o g;rw[<-k]at j;cases e with
 | normal =>
  obtain⟨r,rfl,x⟩:=K;let⟨y,⟨v,O,z⟩,N⟩:=WJ (F:=F) (n:=n) t.defers T { b.atR t []with mode:=.returning } ({ m with mode:=r }::cs) (by simp) rfl o g x;exact⟨.returned v,r,y,_,z,StepsIn.trans (StepsIn.trans j (.one (fenced_calm (fr:=b.atR t []) o g rfl) (stepR_end rfl))) N,rfl,rfl,rfl,rfl,fn,a,O⟩
 | ret =>
  obtain⟨r,rfl,x⟩:=K;let⟨todo,A⟩:=j.1 rfl;let⟨y,⟨v,O,z⟩,N⟩:=WJ (F:=F) (n:=n) t.defers T { b.atR t todo with mode:=.returning } ({ m with mode:=r }::cs) (by simp) rfl o g x;exact⟨.returned v,r,y,_,z,StepsIn.trans A N,rfl,rfl,rfl,rfl,fn,a,O⟩
 | _=>exact K.elim
def Zc2{F:Fence}{Q:Exit->Act->List Frame->World->Prop}{a:Act}{cs g:List Frame}{id:Nat}(B:F.round=none)(t:ops[0]? = some o)(M:o.guard=none)(m : ∀f,o.about P w a.eval=some f->F.fn f)(U:(execOp a.eval o).run P w = .ok .recover w)(u:g.length=cs.length)(c:recoverD cs=some (v,g)\/recoverD cs=none/\v = .nilIface/\g=cs)(h:wpOpsIn F n P ops (λe E T=>Q e E g T) (List.range' 1 (ops.size-1)) (a.put o.dst v) w):(Code.region id ops false).wpSIn F n P Q a cs w:=by
 intro b k p O G j;have K:0<ops.size:=(Yo.1 t).1;have r:List.range ops.size=0::List.range' 1 (ops.size-1):=by
  rw[Zg];have:ops.size=(ops.size-1)+1:=by omega
  conv=>lhs;rw[this]
  rw[Zd]
 have I:Region.wanted o (yielded ops a.tmps)=true:=by simp[Region.wanted,M]
 have J:(lone (b.atR a (.inRegion ops (0::List.range' 1 (ops.size-1))::k)) cs w).fenced P F:=fenced_oper G j t m;have z:=stepGR_op (P:=P) (b:=b) (k:=k) (cs:=cs) (w:=w) (a:=a) (rest:=List.range' 1 (ops.size-1)) t I;rw[O,Oper.semAt_none]at z;have X : ∀v,(b.atR a (.inRegion ops (0::List.range' 1 (ops.size-1))::k)).finish v=b.atR (a.put o.dst v) (.inRegion ops (List.range' 1 (ops.size-1))::k):=by intro v;rw[Frame.finish_atR,t];rfl
 have L:(b.atR a (.inRegion ops (0::List.range' 1 (ops.size-1))::k)).kind = .deferred:=p;have x:=tryRecover_deferred L cs;have y:step P (lone (b.atR a (.inRegion ops (0::List.range' 1 (ops.size-1))::k)) cs w) = .next (lone (b.atR (a.put o.dst v) (.inRegion ops (List.range' 1 (ops.size-1))::k)) g w):=by
  refine step_lone_go ?_;rw[z,<-X];simp only[Frame.atR,O]at x ⊢;rcases c with c|⟨c,rfl,rfl⟩
  . simp[stepG.apply,U,x,c]
  simp[stepG.apply,U,x,c]
 let⟨e,E,T,N,A⟩:=wp_opsIn _ _ w h b k g (O.trans B.symm) G (by rw[u];exact j);refine⟨e,E,g,T,u,N,.of_steps (.head (fenced_calm G j rfl) stepR_region ?_) A⟩;rw[r];exact .one J y
def RH(P:Program)[Glob P](fn:Func)(R:H->Nat->Prop)(e:Exit)(s:S):Prop:=match e with
 | .normal | .ret=>rP P s fn.results.toList /\ ∃I g,(∀r,I r=s.h r\/I r=none)/\s.nx<=g/\R I g
 | _=>False
theorem Ey{f:FuncId}{args:List D}{u z:FrameMode}{R:H->Nat->Prop}{id:Nat}{y:Code}(a:P.funcs[f]? = some fn)(p:fn.body=some (.seq (.region id ops false) y))(be:fE P f=true)(hn:args.length<=fn.ntmps)(ho:ops[0]? = some o)(hg:o.guard=none)(bh:o.op = .call { callee:=.builtin .recover,args:=#[],argTypes:=ts })(m:dN fn.ntmps o.dst=true)(hu:(u = .returning/\z = .returning/\v = .nilIface)\/(u = .panicking [{ v:=v,recovered:=false }]/\z = .panicking [{ v:=v,recovered:=true }]))(hv : ∀(w:World)(g:Mem),ae w g d v)(hw:(∀r,n<=r->h r=none)->aA P none ops 1 n { n:=fn.ntmps,t:=S.put { n:=fn.ntmps,t:=λi=>args.getD i .junk,h:=h,nx:=n+ops.size } o.dst d,h:=h,nx:=n+ops.size } (thenS (DW P none y (RH P fn R)) (RH P fn R))):AP P f args h n u z R:=by
 refine⟨be,λw g j hm Z O=>ZoY (F:=Fence.wide) a p trivial λE M W=>wpSIn_seq ?_⟩;have ar:=BK (P:=P) (n:=fn.ntmps) O hn hm (nx:=n+ops.size);have bm:St P (dn.of w.heap.size) { n:=fn.ntmps,t:=S.put { n:=fn.ntmps,t:=λi=>args.getD i .junk,h:=h,nx:=n+ops.size } o.dst d,h:=h,nx:=n+ops.size } g (Act.put { tmps:=j.toArray++Array.replicate (fn.ntmps-j.toArray.size) undef,defers:=[] } o.dst v) w :=
  nL ar (ay.refl _ _) ar.mem m (hv w g) True
 have aw:=hw (Dz hm Z) (dn.of w.heap.size) g g _ w w bm (ay.refl _ _) (λr O=>by have:=Z r O;omega);have b7:({ E with mode:=z }::M).length=(E::M).length:=rfl;have ac:recoverD (E::M)=some (v,{ E with mode:=z }::M)\/recoverD (E::M)=none/\v = .nilIface/\({ E with mode:=z }::M:List Frame)=E::M:=by
  rcases hu with⟨ab,am,bp⟩|⟨ab,am⟩
  .
   right;refine⟨by simp[recoverD,W,ab],bp,?_⟩;have:({ E with mode:=z }:Frame)=E:=by cases E;simp only at W;subst W;rw[ab,am]
   rw[this]
  left;simp[recoverD,W,ab,am]
 refine Zc2 (F:=Fence.wide) rfl ho hg (λ_ _=>trivial) (by simp[execOp,bh,resolve,invoke,builtin]) b7 ac ?_;have fin : ∀(e:Exit)(V:Act)(T:World)(J:S)(L:Mem),RH P fn R e J->St P (dn.of w.heap.size) J L V T->ay g L w T->(∀r,L.U r->r<J.nx) ->
   Zcd P fn E M (λe u2 T=>∃v L I n',e = .returned v/\u2=z/\HM P I L T/\ay g L w T/\(∀r,L.U r->r<n')/\R I n') e V ({ E with mode:=z }::M) T:=by
  intro e V T J L K U x iP;have b8:(rP P J fn.results.toList /\ ∃I n',(∀r,I r=J.h r\/I r=none)/\J.nx<=n'/\R I n')->Jv P (λw2=>∃v,(results fn V.tmps).run P w2 = .ok v w2 /\ ∃v2 L I n',Ending.returned v = .returned v2/\z=z/\HM P I L w2/\ay g L w w2/\(∀r,L.U r->r<n')/\R I n') V.defers T:=by
   rintro⟨br,Y,n4,G,c,k3⟩;let⟨ms,aq,bw⟩:=U.df;have aq:V.defers=ms:=by rw[aq];simp[dn.of]
   rw[aq];refine Zj3 (P:=P) ms T bw λw2 e0 e1 e2 e3 e4 e5 e6 e7=>?_;have A:=U.marks e4 e6 e7;have xz:ay g L w w2:=by refine⟨by rw[e1,x.os],by rw[e2,x.tape],by rw[e3,x.output],by rw[e4];exact x.size,by rw[e0];exact x.drawn,x.U,x.M,x.new,x.I,x.inew,λk X N=>?_⟩;rw[e5 k X];exact x.same k X N
   have b9:St P (dn.of w.heap.size) { J with e:=Env.tt } L { V with defers:=[] } w2:=⟨A.sz,A.tm,A.mem,kJ.start (B:=dn.of w.heap.size),trivial,A.bd⟩;let⟨v3,p1,p2⟩:=Fg (fn:=fn) b9 br;exact⟨v3,p1,v3,L.only Y,Y,n4,rfl,rfl,b9.mem.only G,xz.trans xx,λr O=>YG (iP r O) c,k3⟩
  cases e with
  | normal=>exact⟨z,rfl,b8 K⟩
  | ret=>exact⟨z,rfl,b8 K⟩
  | _=>exact K.elim
 refine Gq (F:=Fence.wide) ?_ _ _ _ aw;rintro e V T ⟨J,L,K,U,x,iP,bx⟩;have x:ay g L w T:=x.out;cases e with
 | normal =>
  refine wpSIn_of_wpIn rfl (wpIn_mono (F:=Fence.wide) (K (dn.of w.heap.size) L V T U iP) ?_);rintro e2 a2 w2 ⟨s2,g2,ca,A,bb,BU,cg⟩;have cb:J.e.x=none:=by rw[bx];rfl
  rw[cb]at bb;exact fin e2 a2 w2 s2 g2 ca A (x.trans bb.out) BU
 | ret=>exact fin .ret V T J L K U x iP
 | _=>exact K.elim
section
variable [Glob P] {C : aO} {s s1 : S} {ops : Array Oper} {i b : Nat} {o : Oper}
def Uw(k:Nat){r:D}{T:TypeId}(z:Value)(R:i<=k)(U:ops[k]? = some o)(M:o.guard=none)(f:o.op = .typeAssert x T t true)(ht:iK P t=true)(hz:(P.info? t).bind (·.zero)=some z)(J:bu P (words P) C ops.toList b i ((ops.toList.drop i).take (k-i)) s=s1)(hok:s1.ok)(m:dN s1.n o.dst=true)(E:s1.ev x=d)(hv : ∀(w:World)(g:Mem)q,ae w g d q->q=v)(hr:(v = .nilIface /\ ∀(w:World)(g:Mem),ae w g r (.tuple #[z,.bool false])) \/ ∃q,v = .iface t q /\ ∀(w:World)(g:Mem),ae w g r (.tuple #[q,.bool true]))(hk:aA P ro ops (k+1) b { n:=s1.n,t:=s1.put o.dst r,h:=s1.h,nx:=s1.nx,ok:=True,e:=s1.e } Q):aA P ro ops i b s Q:=by
 refine jP (C:=C) k (λd I=>d=r/\I=s1.h) R U M (λc e=>by rw[f]at e;cases e) J hok m (λB g a w j _=>?_) (λd I⟨V,p⟩=>by subst V;subst p;exact hk);have N:=bT j x;rw[E]at N;have A:=hv _ _ _ N;let⟨ti,K,L⟩:=Option.bind_eq_some_iff.1 hz;obtain⟨u,O,F⟩:∃u,P.underlying t=some u/\((∃G,u = .struct G) \/ ∃n e,u = .array n e):=by
  unfold iK at ht;split at ht
  . rename_i G y;exact⟨_,y,.inl ⟨_,rfl⟩⟩
  . rename_i n e y;exact⟨_,y,.inr ⟨_,_,rfl⟩⟩
  cases ht
 rcases hr with⟨rfl,hr⟩|⟨q,rfl,hr⟩
 . refine⟨_,_,⟨rfl,rfl⟩,_,g,w,.inl ?_,hr w g,j.mem,ay.refl _ _,λr hr=>.inl hr⟩;let⟨W,X,Y,op,Z,og⟩:=o;simp only at f;subst f;rcases F with⟨G,rfl⟩|⟨n,e,rfl⟩<;>simp[execOp,A,Instr.typeAssert,run_underlying O,zeroValue,typeInfo,K,L]
 refine⟨_,_,⟨rfl,rfl⟩,_,g,w,.inl ?_,hr w g,j.mem,ay.refl _ _,λr hr=>.inl hr⟩;let⟨W,X,Y,op,Z,og⟩:=o;simp only at f;subst f;rcases F with⟨G,rfl⟩|⟨n,e,rfl⟩<;>simp[execOp,A,Instr.typeAssert,run_underlying O]
def Uu(k:Nat)(R:i<=k)(F:ops[k]? = some o)(M:o.guard=none)(f:o.op = .makeInterface t x)(ht:iK P t=true)(J:bu P (words P) C ops.toList b i ((ops.toList.drop i).take (k-i)) s=s1)(hok:s1.ok)(m:dN s1.n o.dst=true)(E:s1.ev x=d)(hk:aA P ro ops (k+1) b { n:=s1.n,t:=s1.put o.dst (.iface t d),h:=s1.h,nx:=s1.nx,ok:=True,e:=s1.e } Q):aA P ro ops i b s Q:=by
 refine jP (C:=C) k (λr I=>r = .iface t d/\I=s1.h) R F M (λc e=>by rw[f]at e;cases e) J hok m (λB g a w v _=>?_) (λd I⟨G,p⟩=>by subst G;subst p;exact hk);have A:=bT v x;rw[E]at A;obtain⟨u,K,y⟩:∃u,P.underlying t=some u/\((∃z,u = .struct z) \/ ∃n e,u = .array n e):=by
  unfold iK at ht;split at ht
  . rename_i z j;exact⟨_,j,.inl ⟨_,rfl⟩⟩
  . rename_i n e j;exact⟨_,j,.inr ⟨_,_,rfl⟩⟩
  cases ht
 refine⟨_,_,⟨rfl,rfl⟩,_,g,w,.inl ?_,.iface t d _ A,v.mem,ay.refl _ _,λr O=>.inl O⟩;let⟨L,N,T,op,U,og⟩:=o;simp only at f;subst f;rcases y with⟨z,rfl⟩|⟨n,e,rfl⟩<;>simp[execOp,Instr.makeInterface,run_underlying K]
end
def Zm3(h:(∀r,s.nx<=r->s.h r=none)->DW P ro c Q s):DW P ro c Q s:=λB g a w N Z=>h (Dz N.mem Z) B g a w N Z
def Zm7(h : ∀K:H,K=s.h->DW P ro c Q { n:=s.n,t:=s.t,h:=K,nx:=s.nx,e:=s.e }):DW P ro c Q s:=by intro B g a w N Z;exact h s.h rfl B g a w ⟨N.sz,N.tm,N.mem,N.df,N.en,N.bd⟩ Z
end
end Go.DL
