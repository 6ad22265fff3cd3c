/-
  MANY TEXTS OF MINE IN ONE (a claim has a limit of files): DRn, Types, Str, Rec, Cmp, Rec2, Rec3, Rec4, Rec5, Sym, Rec6, Zon, Zon2, Zon3, Zdl, Zdm, Zdn, Zdo, Zdp, Zla, Zlb, Zlc. Conditions: none.
-/
import Derived.Maps.RangeRun
import Derived.Test.YtdcenbhgholncaaGreatDoorProg
import Derived.KernelRfl
import Derived.Lib.Bytealg
import Derived.Shelf.Small.Strs
import Derived.Test.YtdcenbhgholncaaGreatDoorMTD2
set_option linter.unusedVariables false
set_option linter.unusedSimpArgs false
set_option linter.unusedSectionVars false
set_option linter.defProp false
set_option linter.unnecessarySimpa false
namespace Go.DL
variable [Dr]
variable {P : Program}
instance{k:IntKind}{n:Int}:Decidable (jT k n):=inferInstanceAs (Decidable (_/\_))
section
variable [aa P]
instance{t:TypeId}:Decidable (P.underlying t=some .bool):=match h:P.underlying t with
 | some .bool=>isTrue rfl
 | none=>isFalse (by simp)
 | some x=>by cases x<;>first|exact isTrue rfl|exact isFalse (by simp)
instance{t:TypeId}:Decidable (P.underlying t=some .string):=match h:P.underlying t with
 | none=>isFalse (by simp)
 | some x=>by cases x<;>first|exact isTrue rfl|exact isFalse (by simp)
instance{t:TypeId}{a:D}{h:H}:Decidable (jd P t a h).2:=inferInstanceAs (Decidable (_/\_/\_))
instance{t:TypeId}{a x:D}{h:H}:Decidable (fO P t a x h).2:=by
 delta fO;split
 . split<;>infer_instance
 . infer_instance
instance{s:TypeId}{f:Nat}{a:D}:Decidable (tJ P s f a).2:=by delta tJ;split<;>infer_instance
instance{s:TypeId}{f:Nat}{a:D}:Decidable (yV P s f a).2:=by delta yV;split<;>infer_instance
instance{t:TypeId}{x ix:D}:Decidable (ql P t x ix).2:=by delta ql;split<;>infer_instance
instance decTy{e:TypeId}(o:Option ax):Decidable (match o with|some bl=>bl.ty=e|none=>False):=match o with
 | some bl=>inferInstanceAs (Decidable (bl.ty=e))
 | none=>isFalse id
instance{t:TypeId}{x ix:D}{h:H}:Decidable (eF P t x ix h).2:=by
 delta eF;split
 . infer_instance
 .
  split
  . infer_instance
  . exact @instDecidableAnd _ _ _ (@instDecidableAnd _ _ _ (@instDecidableAnd _ _ _ (decTy _)))
  . infer_instance
instance{t:TypeId}{x ix:D}:Decidable (uK P t x ix).2:=by delta uK;split<;>infer_instance
instance decFill{s:TypeId}{n:Nat}:∀(ps:List (Nat×Operand))(xs:List D),Decidable (tH P s n ps xs)
 | [],_=>isTrue trivial
 | _::_,[]=>isFalse id
 | (f,_)::ps,x::xs=>by
  have:=decFill (s:=s) (n:=n) ps xs;have h1:Decidable (match bM P s f with
   | some (off,t)=>x.cells.length=P.cellsOf t/\off+x.cells.length<=n
   | none=>match lQ P s with
    | some (_,e)=>x.cells.length=P.cellsOf e/\f*P.cellsOf e+x.cells.length<=n
    | none=>False):=by
   split
   . infer_instance
   . split<;>infer_instance
  unfold tH
  infer_instance
instance decRows{n:Nat}:∀(i:Nat)(ps:List (Nat×Operand))(xs:List D),Decidable (uu n i ps xs)
 | _,[],[]=>isTrue trivial
 | _,[],_::_=>isFalse id
 | _,_::_,[]=>isFalse id
 | i,(j,_)::ps,x::xs=>by
  have:=decRows (n:=n) (i+1) ps xs;unfold uu
  infer_instance
instance{t:TypeId}{ps:List (Nat×Operand)}{xs:List D}:Decidable (y8 P t ps xs).2:=inferInstanceAs (Decidable (_/\_/\_))
instance{t:TypeId}{n:Nat}{ps:List (Nat×Operand)}{xs:List D}:Decidable (vz P t n ps xs).2:=by delta vz;split<;>infer_instance
instance{t:TypeId}{n:Nat}{ps:List (Nat×Operand)}{xs:List D}{h:H}{b:Nat}:Decidable (lL P t n ps xs h b).2.2:=by delta lL;split<;>infer_instance
instance{t u:TypeId}{x y:D}{h:H}{b:Nat}:Decidable (dR P t u x y h b).2.2:=by
 delta dR;split
 . infer_instance
 .
  dsimp only;split
  . infer_instance
  . split<;>infer_instance
  . infer_instance
instance decNone{α:Type}(m:Option α):Decidable (m=none):=match m with
 | none=>isTrue rfl
 | some _=>isFalse (by simp)
instance{t:TypeId}{x:D}{l hh m:Option D}{h:H}:Decidable (mR P t x l hh m h).2:=by
 delta mR;dsimp only;split
 . infer_instance
 .
  split
  . infer_instance
  . split<;>infer_instance
 .
  split
  . infer_instance
  . exact @instDecidableAnd _ _ _ (@instDecidableAnd _ _ _ (@instDecidableAnd _ _ _ (decTy _)))
 . infer_instance
instance{t:TypeId}{h:H}{b:Nat}{x y:D}:Decidable (jo P t h b x y).2.2:=by
 delta jo;split
 . split<;>infer_instance
 . infer_instance
instance{t:TypeId}{xs:List D}{h:H}{b:Nat}:Decidable (wR P t xs h b).2.2:=inferInstanceAs (Decidable (_/\_/\_))
instance{t:TypeId}{m k x:D}{h:H}:Decidable (kV P t m k x h).2:=by
 delta kV;split
 .
  split
  . split<;>infer_instance
  . infer_instance
 . infer_instance
instance{t:TypeId}{ok:Bool}{m k:D}{h:H}:Decidable (lv P t ok m k h).2:=by delta lv;split<;>infer_instance
instance{t:TypeId}{op:BinOp}{x y:Value}:Decidable (dP P t op x y).2:=by
 delta dP;split<;>first|infer_instance|(split<;>infer_instance)
instance{t:TypeId}{op:BinOp}{x y:D}:Decidable (lM P t op x y).2:=by
 delta lM;split
 . infer_instance
 .
  split
  . split<;>infer_instance
  . split<;>infer_instance
  . infer_instance
 . infer_instance
instance{op:UnOp}{x:D}:Decidable (uj op x).2:=by delta uj;split<;>infer_instance
instance{src dst:TypeId}{x:D}:Decidable (vg P src dst x).2:=by
 delta vg;split
 . infer_instance
 . dsimp only;split<;>infer_instance
 . infer_instance
 . infer_instance
end
instance{xs:List D}:Decidable (zR xs).2:=by delta zR;split<;>infer_instance
instance{xs:List D}:Decidable (zS xs).2:=by delta zS;split<;>infer_instance
instance{g:Bool}{xs:List D}:Decidable (wz g xs).2:=by delta wz;split<;>infer_instance
instance{h:H}{d:D}:Decidable (pE h d):=by delta pE;split<;>infer_instance
instance{h:H}{d:D}:Decidable (uY h d):=by delta uY;split<;>infer_instance
instance{h:H}{d:D}:Decidable (jD h d):=by delta jD;split<;>infer_instance
instance decSnap{h:H}:∀(k:Nat)(d:D),Decidable (d9 h k d)
 | 0,d=>inferInstanceAs (Decidable (d.nr=true))
 | k+1,d=>by
  have:=decSnap (h:=h) k;unfold d9
  split<;>infer_instance
structure gU where
 isP:FuncId->Bool
 pf:FuncId->List D->Option D
def gU.con(T:gU)(cf:Bool)(bs:Bool:=false):aK:={ pure:=T.isP,pf:=λk xs=>(T.pf k xs).getD .junk,cf:=cf,dp:=!cf,bs:=bs }
def gU.words(T:gU):bf:={ pureCt:=λk xs _=>(T.pf k xs).isSome=true,ct:=λ_ _ _ _ _ _=>False }
def gU.Ok(T:gU)(P:Program)[aa P]:Prop:=∀f xs d,T.pf f xs=some d->PureCt P f xs d
section
variable {T : gU}
instance{f:FuncId}{xs:List D}{d:D}:Decidable (T.words.pureCt f xs d):=inferInstanceAs (Decidable (_=true))
instance decCall{cf bs:Bool}{f:Operand}{xs:List D}{h:H}{b:Nat}:Decidable (eT T.words (T.con cf bs) f xs h b).2.2:=by
 delta eT;split
 .
  split
  .
   cases cf
   . exact inferInstanceAs (Decidable (_/\_/\_))
   . exact inferInstanceAs (Decidable (_/\_))
  .
   cases cf
   . exact isFalse λq=>q 0
   . exact isFalse id
 .
  split
  .
   cases cf
   . exact inferInstanceAs (Decidable (_/\_/\_))
   . exact inferInstanceAs (Decidable (_/\_))
  . exact isFalse id
 . exact isFalse id
instance decStill{h:H}{r:D×Prop}[i:Decidable r.2]:Decidable (still h r).2.2:=i
variable [aa P]
instance decEff{cf bs:Bool}{op:Op}{xs:List D}{h:H}{b:Nat}:Decidable (aH P T.words (T.con cf bs) op xs h b).2.2:=by
 delta aH;split<;>first
  | infer_instance
  | exact inferInstanceAs (Decidable True)
  | (split<;>infer_instance)
instance decEffG{cf bs g:Bool}{op:Op}{xs:List D}{h:H}{b:Nat}:Decidable (au P T.words (T.con cf bs) g op xs h b).2.2:=by
 delta au;split<;>infer_instance
end
def eP{α:Type}(n:Nat)(k:Nat->α):α:=match n with
 | 0=>k 0
 | m+1=>k (m+1)
theorem jY{α:Type}(n:Nat)(k:Nat->α):eP n k=k n:=by cases n<;>rfl
def Cu{α:Type}(n:Int)(k:Int->α):α:=match n with
 | .ofNat m=>eP m λm=>k (.ofNat m)
 | .negSucc m=>eP m λm=>k (.negSucc m)
theorem QC{α:Type}(n:Int)(k:Int->α):Cu n k=k n:=by cases n<;>simp only[Cu,jY]
def jZ{α:Type}(n:Bool)(k:Bool->α):α:=match n with
 | true=>k true
 | false=>k false
theorem rU{α:Type}(n:Bool)(k:Bool->α):jZ n k=k n:=by cases n<;>rfl
def yT{α β:Type}:List β->(List β->α)->α
 | [],k=>k []
 | x::l,k=>yT l λl'=>k (x::l')
theorem Ai{α β:Type}:∀(l:List β)(k:List β->α),yT l k=k l
 | [],_=>rfl
 | x::l,k=>Ai l _
def Fq{α:Type}(v:Value)(k:Value->α):α:=match v with
 | .int i n=>Cu n λn=>k (.int i n)
 | .bool b=>jZ b λb=>k (.bool b)
 | .string ⟨⟨l⟩⟩=>yT l λl=>k (.string ⟨⟨l⟩⟩)
 | v=>k v
theorem QB{α:Type}(v:Value)(k:Value->α):Fq v k=k v:=by
 unfold Fq
 split
 . exact QC _ _
 . exact rU _ _
 . exact Ai _ _
 rfl
def yU{α:Type}(d:D)(k:D->α):α:=match d with
 | .v x=>Fq x λx=>k (.v x)
 | .mrow r o l=>eP r λr=>eP o λo=>eP l λl=>k (.mrow r o l)
 | .mptr r o l=>eP r λr=>eP o λo=>eP l λl=>k (.mptr r o l)
 | .mp r=>eP r λr=>k (.mp r)
 | .list f rows=>jZ f λf=>yT rows λrows=>k (.list f rows)
 | d=>k d
theorem JH{α:Type}(d:D)(k:D->α):yU d k=k d:=by
 unfold yU
 split<;>simp only[QB,jY,rU,Ai]
def rT{α:Type}:List D->(List D->α)->α
 | [],k=>k []
 | x::l,k=>yU x λx=>rT l λl=>k (x::l)
theorem Aj{α:Type}:∀(l:List D)(k:List D->α),rT l k=k l
 | [],_=>rfl
 | x::l,k=>by simp only[rT,JH,Aj l]
def Fs{α:Type}(d:D)(k:D->α):α:=match d with
 | .agg cs=>rT cs λcs=>k (.agg cs)
 | .tuple cs=>rT cs λcs=>k (.tuple cs)
 | .eptr cs=>rT cs λcs=>k (.eptr cs)
 | .fn f a b=>rT a λa=>rT b λb=>k (.fn f a b)
 | .cond g d=>jZ g λg=>yU d λd=>k (.cond g d)
 | .iface t d=>yU d λd=>k (.iface t d)
 | d=>yU d k
theorem QD{α:Type}(d:D)(k:D->α):Fs d k=k d:=by
 unfold Fs
 split<;>simp only[JH,Aj,rU]
def xe{α:Type}:List (List D)->(List (List D)->α)->α
 | [],k=>k []
 | x::l,k=>rT x λx=>xe l λl=>k (x::l)
theorem Cs{α:Type}:∀(l:List (List D))(k:List (List D)->α),xe l k=k l
 | [],_=>rfl
 | x::l,k=>by simp only[xe,Aj,Cs l]
inductive Tr where
 | nil
 | node (d:D) (l r:Tr)
def DY:Nat->Nat->List Bool
 | 0,_=>[]
 | _,0=>[]
 | k+1,i+1=>(i % 2==0)::DY k (i / 2)
def bP(i:Nat):List Bool:=DY i i
def Dl:List Bool->Nat
 | []=>0
 | b::l=>2*Dl l+(if b then 1 else 2)
theorem GD : ∀(k i:Nat),i<=k->Dl (DY k i)=i
 | 0,i,h=>by
  have:i=0:=by omega
  subst this;rfl
 | k+1,0,_=>rfl
 | k+1,i+1,h=>by
  have:=GD k (i / 2) om;simp only[DY,Dl,this]
  split
  .
   rename_i e
   have:i % 2=0:=by simpa using e
   omega
  rename_i e
  have : ¬i % 2=0:=by simpa using e
  omega
theorem DX{i j:Nat}(h:bP i=bP j):i=j:=by
 have:=congrArg Dl h
 rwa [bP,bP,GD _ _ (X4 _),GD _ _ (X4 _)]at this
noncomputable def dA(t:Tr):List Bool->D:=@Tr.rec (λ_=>List Bool->D) (λ_=>.junk) (λd _ _ il ir p=>@List.rec Bool (λ_=>D) d (λb p _=>@Bool.rec (λ_=>D) (ir p) (il p) b) p) t
def tset{α:Type}:Tr->List Bool->D->(Tr->α)->α
 | .nil,[],x,k=>k (.node x .nil .nil)
 | .node _ l r,[],x,k=>k (.node x l r)
 | .nil,true::p,x,k=>tset .nil p x λl=>k (.node .junk l .nil)
 | .nil,false::p,x,k=>tset .nil p x λr=>k (.node .junk .nil r)
 | .node d l r,true::p,x,k=>tset l p x λl=>k (.node d l r)
 | .node d l r,false::p,x,k=>tset r p x λr=>k (.node d l r)
theorem GN(p:List Bool):dA .nil p = .junk:=rfl
theorem kr : ∀(p:List Bool)(t:Tr)(x:D),∃t',(∀{α:Type}(k:Tr->α),tset t p x k=k t') /\ ∀q,dA t' q=if q=p then x else dA t q
 | [],.nil,x=>⟨_,λk=>rfl,λq=>by cases q with|nil=>rfl|cons b q=>cases b<;>rfl⟩
 | [],.node d l r,x=>⟨_,λk=>rfl,λq=>by cases q with|nil=>rfl|cons b q=>cases b<;>rfl⟩
 | true::p,.nil,x=>by
  obtain⟨t',h1,h2⟩:=kr p .nil x;refine⟨.node .junk t' .nil,λk=>by simp only[tset,h1],λq=>?_⟩
  cases q with
  | nil=>rfl
  | cons b q=>cases b with
   | true =>
    show dA t' q=_
    rw[h2]
    simp[GN]
   | false=>simp[dA]
 | false::p,.nil,x=>by
  obtain⟨t',h1,h2⟩:=kr p .nil x;refine⟨.node .junk .nil t',λk=>by simp only[tset,h1],λq=>?_⟩
  cases q with
  | nil=>rfl
  | cons b q=>cases b with
   | false =>
    show dA t' q=_
    rw[h2]
    simp[GN]
   | true=>simp[dA]
 | true::p,.node d l r,x=>by
  obtain⟨t',h1,h2⟩:=kr p l x;refine⟨.node d t' r,λk=>by simp only[tset,h1],λq=>?_⟩
  cases q with
  | nil=>rfl
  | cons b q=>cases b with
   | true =>
    show dA t' q=_
    rw[h2];simp only[Yy,true_and];rfl
   | false=>simp[dA]
 | false::p,.node d l r,x=>by
  obtain⟨t',h1,h2⟩:=kr p r x;refine⟨.node d l t',λk=>by simp only[tset,h1],λq=>?_⟩
  cases q with
  | nil=>rfl
  | cons b q=>cases b with
   | false =>
    show dA t' q=_
    rw[h2];simp only[Yy,true_and];rfl
   | true=>simp[dA]
def xM{α:Type}:List D->Nat->Tr->(Tr->α)->α
 | [],_,t,k=>k t
 | x::l,i,t,k=>yU x λx=>tset t (bP i) x λt=>xM l (i+1) t k
theorem GQ : ∀(l:List D)(i:Nat)(t:Tr),∃t',(∀{α:Type}(k:Tr->α),xM l i t k=k t') /\ ∀j,dA t' (bP j)=if i<=j/\j<i+l.length then l.getD (j-i) .junk else dA t (bP j)
 | [],i,t=>⟨t,λk=>rfl,λj=>by rw[XW (by simp)]⟩
 | x::l,i,t=>by
  obtain⟨t1,h1,h2⟩:=kr (bP i) t x;obtain⟨t2,h3,h4⟩:=GQ l (i+1) t1;refine⟨t2,λk=>by simp only[xM,JH,h1,h3],λj=>?_⟩
  rw[h4,h2]
  by_cases e:j=i
  .
   subst e;rw[XW (by omega),XY rfl,XY (by simp)]
   simp
  rw[XW (λq=>e (DX q))]
  by_cases e2:i+1<=j/\j<i+1+l.length
  .
   rw[XY e2,XY (by simp;omega)]
   have:j-i=(j-(i+1))+1:=by omega
   rw[this]
   simp
  rw[XW e2,XW (by simp;omega)]
structure X where
 n:Nat
 t:Tr
 h:List (Nat×ax)
 nx:Nat
 j:Option Code
def tok:D:=.fn (.yield 0) [] []
def uH(d:D):Bool:=match d with
 | .fn (.yield l) a b=>Nat.beq l 0&&a.isEmpty&&b.isEmpty
 | _=>false
def Dp:D:=.v (.pointer (some ⟨1000000007,0,none⟩))
def nL(d:D):Bool:=match d with
 | .v (.pointer (some ⟨r,o,none⟩))=>Nat.beq r 1000000007&&Nat.beq o 0
 | _=>false
def dC(d:D):Bool:=uH d||nL d
def Jg{d:D}(h:uH d=true):d=tok:=by
 unfold uH at h
 split at h
 .
  rename_i l a b
  simp only[XT,List.isEmpty_iff,Nat.beq_eq]at h;obtain⟨⟨rfl,rfl⟩,rfl⟩:=h;rfl
 cases h
theorem Jf{d:D}(h:nL d=true):d=Dp:=by
 unfold nL at h
 split at h
 .
  rename_i r o
  simp only[XT,Nat.beq_eq]at h;obtain⟨rfl,rfl⟩:=h;rfl
 cases h
def Zct{d:D}(h:dC d=true):d=tok\/d=Dp:=by
 simp only[dC,X8]at h
 exact h.imp Jg Jf
def Zcs{d:D}(h:dC d=false):uH d=false/\nL d=false:=by
 simpa only[dC,Ya]using h
def dQ(l:Nat×Nat)(d:D):D:=bif uH d then .fn (.yield l.1) [] []else bif nL d then .v (.pointer (some ⟨l.2,0,none⟩))else d
def L0:Nat×Nat:=(0,1000000007)
theorem wm{l:Nat×Nat}{d:D}(h:dC d=false):dQ l d=d:=by
 obtain⟨h1,h2⟩:=Zcs h
 rw[dQ,h1,h2];rfl
theorem Zae(d:D):dQ L0 d=d:=by
 unfold dQ
 cases h:uH d with
 | true=>exact(Jg h).symm
 | false =>
  cases h2:nL d with
  | true=>exact(Jf h2).symm
  | false=>rfl
noncomputable def X.SL(l:Nat×Nat)(E:Option Code->Env)(x:X):S:={ n:=x.n,t:=λi=>dQ l (dA x.t (bP i)),h:=htab x.h,nx:=x.nx,e:=E x.j }
def EO:Option Code->Env:=λ_=>Env.tt
def rC:D->List Nat
 | .mrow r _ _ | .mptr r _ _ | .mp r=>[r]
 | .cond _ d=>rC d
 | _=>[]
def BD(ds:List D):List Nat:=ds.flatMap rC
def hdrop(q:Nat):List (Nat×ax)->List (Nat×ax)
 | []=>[]
 | p::l=>if p.1=q then hdrop q l else p::hdrop q l
def hput{α:Type}(r:Nat)(o:Option ax)(acc:List (Nat×ax))(k:List (Nat×ax)->α):α:=match o with
 | some ⟨ty,rows⟩=>eP r λr=>xe rows λrows=>k ((r,⟨ty,rows⟩)::acc)
 | none=>yT (hdrop r acc) k
def ET{α:Type}(h':H):List Nat->List (Nat×ax)->(List (Nat×ax)->α)->α
 | [],acc,k=>k acc
 | r::nms,acc,k=>hput r (h' r) acc λacc=>ET h' nms acc k
def Ac(h':H):List Nat->List (Nat×ax)->List (Nat×ax)
 | [],acc=>acc
 | r::nms,acc=>Ac h' nms (match h' r with|some bl=>(r,bl)::acc|none=>hdrop r acc)
theorem ZcM{α:Type}(r:Nat)(o:Option ax)(acc:List (Nat×ax))(k:List (Nat×ax)->α):hput r o acc k=k (match o with|some bl=>(r,bl)::acc|none=>hdrop r acc):=by
 unfold hput
 split
 . simp only[jY,Cs]
 exact Ai _ _
theorem Jp{α:Type}(h':H):∀(nms:List Nat)(acc:List (Nat×ax))(k:List (Nat×ax)->α),ET h' nms acc k=k (Ac h' nms acc)
 | [],_,_=>rfl
 | r::nms,acc,k=>by rw[ET,ZcM,Jp h' nms];rfl
theorem EZ(q:Nat)(r:Nat):∀h:List (Nat×ax),htab (hdrop q h) r=if r=q then none else htab h r
 | []=>by simp[hdrop,htab]
 | p::l=>by
  have ih:=EZ q r l;obtain⟨q',bl⟩:=p;simp only[hdrop]
  split
  .
   rename_i hc
   subst hc;rw[ih]
   split
   . rfl
   rename_i hr
   rw[htab,aL _ _ _ _ hr]
  rename_i hc
  simp only[htab]
  by_cases e:r=q'
  . subst e;rw[bK,XW hc,bK]
  rw[aL _ _ _ _ e,aL _ _ _ _ e,ih]
theorem P7{h':H}{r:Nat}:∀(nms:List Nat)(acc:List (Nat×ax)),(r ∉ nms->h' r=htab acc r)->htab (Ac h' nms acc) r=h' r
 | [],acc,hk=>(hk (by simp)).symm
 | q::nms,acc,hk=>by
  unfold Ac;refine P7 nms _ λhr=>?_
  by_cases e:r=q
  .
   subst e
   cases hq:h' r with
   | some bl=>simp[htab,bK]
   | none=>simp[EZ]
  have:=hk (by simp[e,hr])
  rw[this]
  cases hq:h' q with
  | some bl=>simp only[htab,aL _ _ _ _ e]
  | none=>simp only[EZ,XW e]
def ZcK{nms:List Nat}{h':H}{h:List (Nat×ax)}(hk : ∀r,r ∉ nms->h' r=htab h r):htab (Ac h' nms h)=h':=funext λr=>P7 nms h (hk r)
section
variable [aa P]
def Ew{d:D}{ds:List D}{r:Nat}(hd:d∈ds)(hr:r∈rC d):r∈BD ds:=List.mem_flatMap.2 ⟨d,hd,hr⟩
def VD{t:TypeId}{a x:D}{h:H}{r:Nat}(hr:r ∉ rC a):(fO P t a x h).1 r=h r:=by
 unfold fO
 split
 .
  split
  . exact aL _ _ _ _ (λe=>hr (by simp[rC,e]))
  rfl
 rfl
def ZfZ{t:TypeId}{n:Nat}{ps:List (Nat×Operand)}{xs:List D}{h:H}{b r:Nat}(hb:r≠b):(lL P t n ps xs h b).2.1 r=h r:=by
 unfold lL
 split
 . exact aL _ _ _ _ hb
 rfl
def Zgl{t u:TypeId}{x y:D}{h:H}{b r:Nat}(hb:r≠b)(hr:r ∉ rC x):(dR P t u x y h b).2.1 r=h r:=by
 unfold dR
 split
 . rfl
 dsimp only
 split
 . exact aL _ _ _ _ hb
 .
  split
  . exact(aL _ _ _ _ hb).trans (aL _ _ _ _ (λe=>hr (by simp[rC,e])))
  rfl
 rfl
def ZbD{t:TypeId}{h:H}{b r:Nat}{x y:D}(hb:r≠b):(jo P t h b x y).2.1 r=h r:=by
 unfold jo
 split
 .
  split
  . exact aL _ _ _ _ hb
  rfl
 rfl
def UW{t:TypeId}{m k x:D}{h:H}{r:Nat}(hr:r ∉ rC m):(kV P t m k x h).1 r=h r:=by
 unfold kV
 split
 .
  split
  .
   split
   . exact aL _ _ _ _ (λe=>hr (by simp[rC,e]))
   rfl
  rfl
 rfl
theorem KP{W:bf}{C:aK}{f:Operand}{xs:List D}{h:H}{b:Nat}:(eT W C f xs h b).2.1=h:=by
 unfold eT
 split
 .
  split
  .
   split
   . rfl
   split<;>rfl
  split<;>rfl
 .
  split
  .
   split
   . rfl
   split<;>rfl
  rfl
 rfl
theorem Zd7{W:bf}{C:aK}{op:Op}{xs:List D}{h:H}{b r:Nat}(hb:r≠b)(hr:r ∉ BD (xs.take 1)):(aH P W C op xs h b).2.1 r=h r:=by
 unfold aH
 split<;>first
  | rfl
  | exact aL _ _ _ _ hb
  | exact VD (λq=>hr (Ew (by simp) q))
  | exact ZbD hb
  | exact UW (λq=>hr (Ew (by simp) q))
  | (rw[KP];done)
  | (split<;>first|rfl|exact ZfZ hb|exact Zgl hb (λq=>hr (Ew (by simp) q)))
end
section
variable [aa P] {T : gU}
def ZfS{W W':bf}{C:aK}{f:Operand}{xs:List D}{h:H}{b:Nat}:(eT W C f xs h b).1=(eT W' C f xs h b).1:=by
 unfold eT
 split
 .
  split
  .
   split
   . rfl
   split<;>rfl
  split<;>rfl
 .
  split
  .
   split
   . rfl
   split<;>rfl
  rfl
 rfl
theorem eff_W{W W':bf}{C:aK}{op:Op}{xs:List D}{h:H}{b:Nat}:(aH P W C op xs h b).1=(aH P W' C op xs h b).1/\(aH P W C op xs h b).2.1=(aH P W' C op xs h b).2.1:=by
 unfold aH
 split<;>first
  | exact⟨rfl,rfl⟩
  | exact⟨ZfS,by rw[KP,KP]⟩
def RD{W W':bf}{C:aK}{g:Bool}{op:Op}{xs:List D}{h:H}{b:Nat}:(au P W C g op xs h b).1=(au P W' C g op xs h b).1/\(au P W C g op xs h b).2.1=(au P W' C g op xs h b).2.1:=by
 unfold au
 split
 . exact⟨rfl,rfl⟩
 exact eff_W
def gU.ask(hT:T.Ok P){k:FuncId}{xs:List D}(h:(T.pf k xs).isSome=true):PureCt P k xs ((T.pf k xs).getD .junk):=by
 obtain⟨d,hd⟩:=Yq.1 h
 rw[hd]
 exact hT _ _ _ hd
def ZfQ(hT:T.Ok P){cf bs:Bool}{f:Operand}{xs:List D}{h:H}{b:Nat}(q:(eT T.words (T.con cf bs) f xs h b).2.2):(eT (words P) (T.con cf bs) f xs h b).2.2:=by
 unfold eT at q ⊢
 split<;>rename_i e<;>simp only at q
 .
  split at q<;>rename_i e1
  .
   rw[XY e1]
   cases cf
   . exact⟨T.ask hT q.1,q.2⟩
   exact⟨T.ask hT q.1,q.2⟩
  cases cf
  . exact(q 0).elim
  exact q.elim
 split at q<;>rename_i e1
 .
  rw[XY e1]
  cases cf
  . exact⟨T.ask hT q.1,q.2⟩
  exact⟨T.ask hT q.1,q.2⟩
 exact q.elim
theorem Zd3(hT:T.Ok P){cf bs:Bool}{op:Op}{xs:List D}{h:H}{b:Nat}(q:(aH P T.words (T.con cf bs) op xs h b).2.2):(aH P (words P) (T.con cf bs) op xs h b).2.2:=by
 revert q
 unfold aH
 split<;>first
  | exact id
  | exact ZfQ hT
def RA(hT:T.Ok P){cf bs g:Bool}{op:Op}{xs:List D}{h:H}{b:Nat}(q:(au P T.words (T.con cf bs) g op xs h b).2.2):(au P (words P) (T.con cf bs) g op xs h b).2.2:=by
 unfold au at q ⊢
 split
 .
  rename_i e
  simpa only[XY e]using q
 rename_i e
 simp only[XW e]at q
 exact⟨q.1,Zd3 hT q.2⟩
def Zbs{d:D}{r:Nat}(h:r∈rC (sd d)):r∈rC d:=by
 cases d<;>exact h
def Zd8{W:bf}{C:aK}{g:Bool}{op:Op}{xs:List D}{h:H}{b r:Nat}(hb:r≠b)(hr:r ∉ BD (xs.take 1)):(au P W C g op xs h b).2.1 r=h r:=by
 unfold au
 split
 . rfl
 refine Zd7 hb λq=>hr ?_
 obtain⟨d,h1,h2⟩:=List.mem_flatMap.1 q
 rw[<-Z7]at h1
 obtain⟨d',h3,rfl⟩:=Yi.1 h1
 exact Ew h3 (Zbs h2)
noncomputable def bu(t:Tr)(o:Operand):D:=match o with
 | .tmp i=>dA t (bP i)
 | .const v=>kI v
 | .global g=>.v (.pointer (some ⟨g,0,none⟩))
 | .func f=>.fn (.func f) [] []
variable {l : Nat × Nat} {E : Option Code -> Env}
theorem lG{x:X}{o:Operand}(h:dC (bu x.t o)=false):(x.SL l E).ev o=bu x.t o:=by
 cases o<;>first|rfl|exact wm h
def yY{x:X}{os:List Operand}(h:(os.map (bu x.t)).any dC=false):os.map (x.SL l E).ev=os.map (bu x.t):=by
 rw[List.any_eq_false]at h
 exact YK λo ho=>lG (by simpa using h _ (Yi.2 ⟨o,ho,rfl⟩))
def BR(C:aK)(op:Op):Bool:=match bA C op with
 | .writes=>true
 | _=>false
def isW_h{W:bf}{C:aK}{g:Bool}{op:Op}{xs:List D}{h:H}{b:Nat}(q:BR C op=false):(au P W C g op xs h b).2.1=h:=by
 unfold au
 split
 . rfl
 refine FE λe=>?_
 rw[BR,e]at q
 cases q
def JX(n:Nat)(t:Tr)(nx:Nat)(j:Option Code)(dst:Option Tmp)(d:D)(h:List (Nat×ax)):Option X:=match dst with
 | some i=>bif Nat.blt i n then tset t (bP i) d λt=>some ⟨n,t,h,nx,j⟩else none
 | none=>some ⟨n,t,h,nx,j⟩
def X.finF(x:X)(dst:Option Tmp)(d:D)(h:List (Nat×ax)):Option X:=match x with
 | ⟨n,t,_,nx,j⟩=>JX n t nx j dst d h
def X.finK(x:X)(dst:Option Tmp)(d:D)(h:List (Nat×ax)):Option X:=match dst with
 | some _=>Fs d λd=>bif dC d then none else x.finF dst d h
 | none=>x.finF none d h
theorem X.finF_S{x x':X}{dst:Option Tmp}{d:D}{h:List (Nat×ax)}(q:x.finF dst d h=some x'):cu x.n dst=true/\x'.SL l E={ x.SL l E with t:=(x.SL l E).put dst (dQ l d),h:=htab h }/\x'.n=x.n/\x'.nx=x.nx/\x'.j=x.j:=by
 unfold X.finF JX at q
 cases dst with
 | none =>
  simp only[XU]at q;subst q;exact⟨rfl,rfl,rfl,rfl,rfl⟩
 | some j =>
  simp only at q
  cases hj:Nat.blt j x.n with
  | false=>rw[hj]at q;cases q
  | true =>
   rw[hj,cond_true]at q;obtain⟨t',h1,h2⟩:=kr (bP j) x.t d;rw[h1,XU]at q;subst q;refine⟨by simpa[cu]using hj,?_,rfl,rfl,rfl⟩
   simp only[X.SL,S.put,S.mk.injEq,true_and,and_true]
   funext k
   rw[h2];simp only[upd]
   by_cases e:k=j
   . subst e;simp
   rw[XW (λq=>e (DX q)),XW e]
theorem X.finK_S{x x':X}{dst:Option Tmp}{d:D}{h:List (Nat×ax)}(q:x.finK dst d h=some x'):cu x.n dst=true/\x'.SL l E={ x.SL l E with t:=(x.SL l E).put dst d,h:=htab h }/\x'.n=x.n/\x'.nx=x.nx/\x'.j=x.j:=by
 unfold X.finK at q
 split at q
 .
  rw[QD]at q
  cases ht:dC d with
  | true=>rw[ht]at q;cases q
  | false =>
   rw[ht,cond_false]at q;have:=X.finF_S (l:=l) (E:=E) q;rwa [wm ht]at this
 exact X.finF_S q
noncomputable def X.run1(P:Program)[aa P](T:gU)(cf bs:Bool)(b i:Nat)(o:Oper)(x:X):Option X :=
 rT ((av o.op).map (bu x.t)) λaz =>
  if az.any dC=false/\(au P T.words (T.con cf bs) true o.op az (htab x.h) (b+i)).2.2 then
   if BR (T.con cf bs) o.op then
    ET (au P T.words (T.con cf bs) true o.op az (htab x.h) (b+i)).2.1 ((b+i)::BD (az.take 1)) x.h λh =>
     x.finK o.dst (au P T.words (T.con cf bs) true o.op az (htab x.h) (b+i)).1 h
   else x.finK o.dst (au P T.words (T.con cf bs) true o.op az (htab x.h) (b+i)).1 x.h
  else none
def C9(P:Program)[aa P](C:aK)(o:Oper)(k:Nat)(s s':S):Prop:=cu s.n o.dst=true/\(au P (words P) C true o.op ((av o.op).map s.ev) s.h k).2.2 /\
 s'={ s with t:=s.put o.dst (au P (words P) C true o.op ((av o.op).map s.ev) s.h k).1,h:=(au P (words P) C true o.op ((av o.op).map s.ev) s.h k).2.1 }
def X.run1_sound(hT:T.Ok P){cf bs:Bool}{b i:Nat}{o:Oper}{x x':X}(q:x.run1 P T cf bs b i o=some x') :
  C9 P (T.con cf bs) o (b+i) (x.SL l E) (x'.SL l E)/\x'.n=x.n/\x'.nx=x.nx/\x'.j=x.j:=by
 unfold X.run1 at q
 rw[Aj]at q
 split at q
 .
  rename_i hc
  obtain⟨ht,hok⟩:=hc;have hok':=RA hT hok;obtain⟨w1,w2⟩:=RD (P:=P) (W:=T.words) (W':=words P) (C:=T.con cf bs) (g:=true) (op:=o.op) (xs:=(av o.op).map (bu x.t)) (h:=htab x.h) (b:=b+i);have hev:=yY (l:=l) (E:=E) ht;unfold C9;rw[hev]
  show(cu x.n o.dst=true/\(au P (words P) (T.con cf bs) true o.op ((av o.op).map (bu x.t)) (htab x.h) (b+i)).2.2/\x'.SL l E={ x.SL l E with t:=(x.SL l E).put o.dst (au P (words P) (T.con cf bs) true o.op ((av o.op).map (bu x.t)) (htab x.h) (b+i)).1,h:=(au P (words P) (T.con cf bs) true o.op ((av o.op).map (bu x.t)) (htab x.h) (b+i)).2.1 })/\_
  rw[<-w1,<-w2]
  split at q
  .
   rw[Jp]at q;obtain⟨hd,this⟩:=X.finK_S (l:=l) (E:=E) q;have hm:htab (Ac (au P T.words (T.con cf bs) true o.op ((av o.op).map (bu x.t)) (htab x.h) (b+i)).2.1 ((b+i)::BD (((av o.op).map (bu x.t)).take 1)) x.h)=(au P T.words (T.con cf bs) true o.op ((av o.op).map (bu x.t)) (htab x.h) (b+i)).2.1 :=
    ZcK λr hr=>by
     simp only[Yz,not_or]at hr;exact Zd8 hr.1 hr.2
   rw[hm]at this;exact⟨⟨hd,hok',this.1⟩,this.2⟩
  rename_i hw
  obtain⟨hd,this⟩:=X.finK_S (l:=l) (E:=E) q;have hh:(au P T.words (T.con cf bs) true o.op ((av o.op).map (bu x.t)) (htab x.h) (b+i)).2.1=htab x.h:=isW_h (by simpa using hw)
  refine⟨⟨hd,hok',?_⟩,this.2⟩;rw[this.1,hh]
 cases q
def tC(L:List Oper)(s:S)(j:Nat):D:=((L[j]?).bind (·.dst)).elim .junk s.t
def sZ(L:List Oper)(o:Oper)(s:S):Option Bool:=match o.guard with
 | none=>some true
 | some (j,want)=>if jW (tC L s j)then some (gz (tC L s j) want)else none
theorem Co{B:bS}{s:S}{g:Mem}{a:Act}{w:World}(hs:St P B s g a w){ops:Array Oper}{o:Oper}{t:Bool}(hg:sZ ops.toList o s=some t):Region.wanted o (yielded ops a.tmps)=t:=by
 unfold sZ at hg
 cases hq:o.guard with
 | none =>
  rw[hq]at hg;simp only[XU]at hg;subst hg
  simp[Region.wanted,hq]
 | some jw =>
  obtain⟨j,want⟩:=jw;rw[hq]at hg;simp only at hg
  split at hg
  .
   rename_i hk
   have:=Qp hs (ops:=ops) (want:=want) hk;simp only[XU]at hg;simp only[Region.wanted,hq];rw[this];exact hg
  cases hg
variable {ro : Option Nat} {Q : Exit -> S -> Prop} {C : aK}
def jF(P:Program)[aa P](ro:Option Nat)(ops:Array Oper)(i b:Nat)(s:S)(Q:Exit->S->Prop):Prop :=
 ∀(B:bS)(g0 g:Mem)(a:Act)(w0 w:World),St P B s g a w->bQ s.e.x g0 g w0 w->(∀r,g.U r->r<b+i) ->
  wpOpsIn (Fw ro) 0 P ops (λe a' w'=>∃s' g',Q e s'/\St P B s' g' a' w'/\bQ s.e.x g0 g' w0 w'/\(∀r,g'.U r->r<s'.nx)/\s'.e.x=s.e.x) (List.range' i (ops.size-i)) a w
def Zed{s:S}{id:Nat}{ops:Array Oper}(h:jF P ro ops 0 s.nx { s with nx:=s.nx+ops.size,ok:=True } Q):DW P ro (.region id ops false) Q s:=by
 intro B g a w hs hU
 refine wpIn_region ?_
 rw[Zm]
 exact h B g g a w w ⟨hs.sz,hs.tm,hs.mem,hs.df,hs.en,hs.bd⟩ (bQ.refl _ _ _) (λr hr=>by have:=hU r hr;omega)
theorem Br{ops:Array Oper}{i:Nat}{o:Oper}(ho:ops[i]? = some o):List.range' i (ops.size-i)=i::List.range' (i+1) (ops.size-(i+1)):=by
 have hlt:i<ops.size:=(Yb.1 ho).1
 have:ops.size-i=(ops.size-(i+1))+1:=by omega
 rw[this,Zi]
def WV{s s':S}{ops:Array Oper}{i b:Nat}{o:Oper}(ho:ops[i]? = some o)(hw:sZ ops.toList o s=some true)(hd:C9 P C o (b+i) s s')(hk:jF P ro ops (i+1) b { s' with ok:=True } Q):jF P ro ops i b s Q:=by
 obtain⟨hd,hok,hs'⟩:=hd
 subst hs'
 intro B g0 g a w0 w hs hm hU
 rw[Br ho,wpOpsIn_cons]
 unfold wpOpIn
 rw[ho]
 simp only
 rw[XY (Co hs hw)]
 refine Ka hs (b:=b+i) (N:=b+i) (λh=>by have:=hU _ h;omega) hU hok λv g' w' q1 q2 q3 q4=>?_
 exact hk B g0 g' (a.put o.dst v) w0 w' (jl hs q3 q2 hd q1 True) (hm.trans q3.toX) (λr hr=>by
  rcases q4 r hr with h|h
  . have:=hU r h;omega
  omega)
def WU{s:S}{ops:Array Oper}{i b:Nat}{o:Oper}(ho:ops[i]? = some o)(hw:sZ ops.toList o s=some false)(hd:cu s.n o.dst=true)(d:D)
  (hk:jF P ro ops (i+1) b { s with t:=s.put o.dst (.cond false d),ok:=True } Q):jF P ro ops i b s Q:=by
 intro B g0 g a w0 w hs hm hU
 rw[Br ho,wpOpsIn_cons]
 unfold wpOpIn
 rw[ho]
 simp only
 rw[XW (by rw[Co hs hw];simp)]
 exact⟨λ_ _=>trivial,hk B g0 g (a.put o.dst undef) w0 w (LH hs hd d _) hm (λr hr=>by have:=hU r hr;omega)⟩
def WZ{s:S}{ops:Array Oper}{i b:Nat}(hi:i=ops.size)(hn:s.nx=b+ops.size)(hq:Q .normal s.clear):jF P ro ops i b s Q:=by
 subst hi
 intro B g0 g a w0 w hs hm hU
 rw[Zu]
 exact⟨s.clear,g,hq,hs.clear,hm,λr hr=>by rw[show s.clear.nx=s.nx from rfl,hn];exact hU r hr,rfl⟩
def Xf{s:S}{ops:Array Oper}{i b:Nat}{o:Oper}{f:Operand}{args:Array Operand}{ts:Array TypeId}{gB:FuncId}{first aP:List D}(R:D->H->Nat->Prop)
  (ho:ops[i]? = some o)(hop:o.op = .call { callee:=.value f,args:=args,argTypes:=ts })(hw:sZ ops.toList o s=some true)(hd:cu s.n o.dst=true)
  (hf:s.ev f = .fn (.func gB) first aP)(hxg:(args.toList.map s.ev).all sg=true)(hct:dS P gB (first++(args.toList.map s.ev).map sd++aP) s.h (b+i) R)
  (hk : ∀res h' n',R res h' n'->jF P ro ops (i+1) n' { s with t:=s.put o.dst res,h:=h',nx:=n'+ops.size,ok:=True } Q):jF P ro ops i b s Q:=by
 intro B g0 g a w0 w hs hm hU
 rw[Br ho,wpOpsIn_cons]
 unfold wpOpIn
 rw[ho]
 simp only
 rw[XY (Co hs hw)]
 have hdef : ∀c,o.op ≠ .defer c:=by intro c e;rw[e]at hop;cases hop
 have iq:o.semAt (Fw ro).round a.eval=execOp a.eval o:=Oper.semAt_eq _ _ _ hdef
 refine⟨λ_ _=>trivial,?_⟩
 rw[iq]
 obtain⟨hbd,hct⟩:=hct
 have hfr:=dH hs f
 rw[hf]at hfr
 have kJ:=vS (uV hs args.toList) hxg
 generalize hv:a.eval f=vf at hfr
 cases hfr with|fn _ _ _ fs cs l1 l2 r1 r2 =>
 have hrun:(execOp a.eval o).run P w = .ok (.enter gB (fs++args.map a.eval++cs)) w:=by
  simp[execOp,hop,resolve,Deferred.ofValue,hv,invoke,y7 hbd]
 rw[hrun,Oper.uponIn_enter]
 have e:fs++args.map a.eval++cs=(fs.toList++args.toList.map a.eval++cs.toList).toArray:=by apply Zh;simp
 rw[e]
 refine⟨λh=>by simp[Fw,Fence.wide]at h,AB ((hct w g _ hs.mem hU (aG.append (aG.append ⟨by simpa using l1,λi d x h1 h2=>r1 i d x h1 (by simpa using h2)⟩ kJ) ⟨by simpa using l2,λi d x h1 h2=>r2 i d x h1 (by simpa using h2)⟩)).mono ?_)⟩
 rintro e w' ⟨v,g',res,h',n',hR,rfl,q1,q2,q3,q4⟩
 have hs2:=jl hs q3 q2 hd q1 True
 exact hk res h' n' hR B g0 g' (a.put o.dst v) w0 w' ⟨hs2.sz,hs2.tm,hs2.mem,hs2.df,hs2.en,hs2.bd⟩ (hm.trans q3.toX) (λr hr=>by have:=q4 r hr;omega)
def Xa{s:S}{ops:Array Oper}{i b:Nat}{o:Oper}(A:D->H->Prop)(ho:ops[i]? = some o)(hw:sZ ops.toList o s=some true)(hd:cu s.n o.dst=true)(hdef : ∀c,o.op ≠ .defer c)
  (hdo : ∀(B:bS)(g:Mem)(a:Act)(w:World),St P B s g a w -> ¬g.U (b+i) -> ∃d h',A d h'/\Does P g w (b+i) ((execOp a.eval o).run P w) d h')
  (hk : ∀d h',A d h'->jF P ro ops (i+1) b { s with t:=s.put o.dst d,h:=h',ok:=True } Q):jF P ro ops i b s Q:=by
 intro B g0 g a w0 w hs hm hU
 rw[Br ho,wpOpsIn_cons]
 unfold wpOpIn
 rw[ho]
 simp only
 rw[XY (Co hs hw)]
 have iq:o.semAt (Fw ro).round a.eval=execOp a.eval o:=Oper.semAt_eq _ _ _ hdef
 refine⟨λ_ _=>trivial,?_⟩
 rw[iq]
 obtain⟨d,h',hA,v,g',w',hrun,q1,q2,q3,q4⟩:=hdo B g a w hs (λh=>by have:=hU _ h;omega)
 have hend : ∀v,ag w' g' d v->wpOpsIn (Fw ro) 0 P ops (λe a' w'=>∃s' g',Q e s'/\St P B s' g' a' w'/\bQ s.e.x g0 g' w0 w'/\(∀r,g'.U r->r<s'.nx)/\s'.e.x=s.e.x) (List.range' (i+1) (ops.size-(i+1))) (a.put o.dst v) w':=by
  intro v q1;have hs2:=jl hs q3 q2 hd q1 True;exact hk d h' hA B g0 g' (a.put o.dst v) w0 w' ⟨hs2.sz,hs2.tm,hs2.mem,hs2.df,hs2.en,hs2.bd⟩ (hm.trans q3.toX) (λr hr=>by
   rcases q4 r hr with h|h
   . have:=hU r h;omega
   omega)
 rcases hrun with hrun|⟨hrun,rfl⟩
 . rw[hrun,Oper.uponIn_value];exact hend v q1
 rw[hrun,Oper.uponIn_skip];exact hend undef q1
end
noncomputable def hfind(h:List (Nat×ax))(r:Nat):Option ax:=@List.rec (Nat×ax) (λ_=>Option ax) none (λp _ ih=>bif Nat.beq r p.1 then some p.2 else ih) h
theorem EY(r:Nat):∀h:List (Nat×ax),hfind h r=htab h r
 | []=>rfl
 | (q,bl)::h=>by
  show(bif Nat.beq r q then some bl else hfind h r)=_
  rw[EY r h,htab]
  by_cases e:r=q
  . subst e;simp[bK]
  have:Nat.beq r q=false:=by
   rw[Bool.eq_false_iff];exact λh=>e (Nat.eq_of_beq_eq_true h)
  rw[this,aL _ _ _ _ e];rfl
inductive FI where
 | mv (a:Operand)
 | ld (n:Nat) (agg:Bool) (a:Operand)
 | fa (off:Nat) (a:Operand)
 | st (n:Nat) (a x:Operand)
 | ix (n:Nat) (e:TypeId) (x i:Operand)
 | al (e:TypeId) (row:List D)
 | bx (e:TypeId) (n:Nat) (x:Operand)
 | bi (op:BinOp) (a b:Operand)
 | ln (sl str:Bool) (x:Operand)
 | ex (i:Nat) (x:Operand)
 | nt (x:Operand)
 | pk (c a b:Operand)
 | slow
section
variable [aa P]
def BS(P:Program)[aa P](t:TypeId):Bool:=match P.underlying t with|some .string=>true|_=>false
def FI.of(P:Program)[aa P](op:Op):FI:=match op with
 | .move a | .assign a=>.mv a
 | .load t a=>if 0<P.cellsOf t/\(P.underlying t).isSome=true/\(bY P t=true\/P.cellsOf t=1)then .ld (P.cellsOf t) (bY P t) a else .slow
 | .fieldAddr s a f=>match bM P s f with
  | some (off,t)=>if P.cellsOf t≠0 then .fa off a else .slow
  | none=>.slow
 | .store t a x=>if 0<P.cellsOf t then .st (P.cellsOf t) a x else .slow
 | .indexAddr t x i=>match aZ P t with
  | some e=>if 0<P.cellsOf e then .ix (P.cellsOf e) e x i else .slow
  | none=>.slow
 | .alloc e=>if(zeroCells P e).length=P.cellsOf e/\(zeroCells P e).all D.one=true/\0<P.cellsOf e then .al e (zeroCells P e)else .slow
 | .box e x=>if 0<P.cellsOf e then .bx e (P.cellsOf e) x else .slow
 | .binOp op _ a b _=>.bi op a b
 | .extract x i=>.ex i x
 | .unOp .not _ x=>.nt x
 | .pick c a b=>.pk c a b
 | .call { callee:=.builtin .len,args,argTypes }=>match args.toList,argTypes.toList with
  | [x],[t]=>.ln (aZ P t).isSome (BS P t) x
  | _,_=>.slow
 | _=>.slow
end
def Er(d:D):Option D:=match d with
 | .cond _ _=>none
 | d=>bif dC d then none else some d
noncomputable def mvF(t:Tr)(o:Operand):Option D:=match o with
 | .tmp i=>(match dA t (bP i)with
  | .cond _ _=>none
  | d=>bif nL d then none else some d)
 | o=>Er (bu t o)
def takeN:Nat->List D->Option (List D)
 | 0,_=>some []
 | n+1,x::l=>match takeN n l with
  | some m=>some (x::m)
  | none=>none
 | _+1,[]=>none
theorem LZ : ∀{n:Nat}{l m:List D},takeN n l=some m->m=l.take n/\n<=l.length
 | 0,l,m,h=>by
  simp only[takeN,XU]at h;subst h;exact⟨by simp,Yl _⟩
 | n+1,x::l,m,h=>by
  simp only[takeN]at h
  split at h
  .
   rename_i m' hm
   simp only[XU]at h;subst h;obtain⟨h1,h2⟩:=LZ hm;exact⟨by simp[h1],by simp;omega⟩
  cases h
 | n+1,[],m,h=>by cases h
def ldC(n:Nat)(agg:Bool)(cs:List D):Option D:=match agg with
 | true=>match takeN n cs with
  | some m=>some (.agg m)
  | none=>none
 | false=>match cs with
  | c::_=>bif dC c then none else some c
  | []=>none
def rowAt(rows:List (List D))(i:Nat):Option (List D):=match rows,i with
 | row::_,0=>some row
 | _::rows,i+1=>rowAt rows i
 | [],_=>none
theorem Ht : ∀{rows:List (List D)}{i:Nat}{row:List D},rowAt rows i=some row->rows[i]? = some row
 | r::_,0,_,h=>by simpa[rowAt]using h
 | _::rows,i+1,_,h=>by
  simp only[rowAt]at h
  simpa using Ht h
 | [],0,_,h=>by cases h
 | [],_+1,_,h=>by cases h
def CB:Nat->List D->List D
 | 0,l=>l
 | n+1,_::l=>CB n l
 | _+1,[]=>[]
theorem Ke : ∀(n:Nat)(l:List D),CB n l=l.drop n
 | 0,l=>rfl
 | n+1,x::l=>by simp[CB,Ke n l]
 | n+1,[]=>rfl
noncomputable def ldF(n:Nat)(agg:Bool)(h:List (Nat×ax))(a:D):Option D:=match a with
 | .mptr r i off=>match hfind h r with
  | some ⟨_,rows⟩=>match rowAt rows i with
   | some row=>ldC n agg (CB off row)
   | none=>none
  | none=>none
 | .eptr cs=>ldC n agg cs
 | _=>none
def faF(off:Nat)(a:D):Option D:=match a with
 | .mptr r i o=>eP (o+off) λo=>some (.mptr r i o)
 | .eptr cs=>yT (CB off cs) λcs=>some (.eptr cs)
 | _=>none
def xX:List D->Nat->List D->Option (List D)
 | row,0,[]=>some row
 | _::row,0,c::cs=>match xX row 0 cs with
  | some r=>some (c::r)
  | none=>none
 | x::row,k+1,cs=>match xX row k cs with
  | some r=>some (x::r)
  | none=>none
 | [],0,_::_=>none
 | [],_+1,_=>none
theorem H5 : ∀{row:List D}{off:Nat}{cs r:List D},xX row off cs=some r->r=splice row off cs/\off+cs.length<=row.length
 | row,0,[],r,h=>by
  have h:row=r:=by simpa[xX]using h
  subst h
  simp[splice]
 | x::row,0,c::cs,r,h=>by
  simp only[xX]at h
  split at h
  .
   rename_i r' hr
   simp only[XU]at h;subst h;obtain⟨h1,h2⟩:=H5 hr;subst h1;refine⟨by simp[splice],by simp;omega⟩
  cases h
 | x::row,k+1,cs,r,h=>by
  simp only[xX]at h
  split at h
  .
   rename_i r' hr
   simp only[XU]at h;subst h;obtain⟨h1,h2⟩:=H5 hr;subst h1;refine⟨?_,by simp;omega⟩
   have:k+1+cs.length=(k+cs.length)+1:=by omega
   simp[splice,this]
  cases h
 | [],0,_::_,r,h=>by cases h
 | [],_+1,_,r,h=>by cases h
def Bh:List (List D)->Nat->Nat->List D->Option (List (List D))
 | row::rows,0,off,cs=>match xX row off cs with
  | some r=>some (r::rows)
  | none=>none
 | row::rows,i+1,off,cs=>match Bh rows i off cs with
  | some rs=>some (row::rs)
  | none=>none
 | [],_,_,_=>none
theorem MK : ∀{rows:List (List D)}{i off:Nat}{cs:List D}{rs:List (List D)},Bh rows i off cs=some rs->rs=rows.set i (splice (rows.getD i []) off cs)/\i<rows.length/\off+cs.length<=(rows.getD i []).length
 | row::rows,0,off,cs,rs,h=>by
  simp only[Bh]at h
  split at h
  .
   rename_i r hr
   simp only[XU]at h;subst h;obtain⟨h1,h2⟩:=H5 hr;subst h1;exact⟨by simp,by simp,by simpa using h2⟩
  cases h
 | row::rows,i+1,off,cs,rs,h=>by
  simp only[Bh]at h
  split at h
  .
   rename_i r hr
   simp only[XU]at h;subst h;obtain⟨h1,h2,h3⟩:=MK hr;subst h1;exact⟨by simp,by simpa using h2,by simpa using h3⟩
  cases h
 | [],_,_,_,_,h=>by cases h
def wT:Nat->List D->Bool
 | 0,[]=>true
 | n+1,_::l=>wT n l
 | _,_=>false
theorem I4 : ∀{n:Nat}{l:List D},wT n l=true->l.length=n
 | 0,[],_=>rfl
 | n+1,_::l,h=>by simp[I4 (by simpa[wT]using h:wT n l=true)]
def Gb(d:D)(n:Nat):Option (List D):=match d with
 | .agg cs=>bif wT n cs&&cs.all D.one then some cs else none
 | d=>bif Nat.beq n 1&&D.one d && !dC d then some [d]else none
theorem Tw{d:D}{n:Nat}{cs:List D}(h:Gb d n=some cs):cs=d.cells/\d.cells.length=n/\d.cells.all D.one=true/\(∀g e,d ≠ .cond g e)/\dC d=false:=by
 unfold Gb at h
 split at h
 .
  cases hq:(wT n _&&List.all _ D.one)with
  | true =>
   rw[hq]at h;simp only[cond_true,XU]at h;subst h;simp only[XT]at hq;exact⟨rfl,I4 hq.1,hq.2,λg e=>by simp,rfl⟩
  | false=>rw[hq]at h;cases h
 rename_i hne
 cases hq:(Nat.beq n 1&&D.one d && !dC d)with
 | true =>
  rw[hq]at h;simp only[cond_true,XU]at h;subst h;simp only[XT,Nat.beq_eq,X5]at hq;have hc:d.cells=[d]:=by
   cases d<;>first|rfl|exact absurd rfl (hne _)
  rw[hc];exact⟨rfl,by rw[hq.1.1];rfl,by simp[hq.1.2],λg e q=>by rw[q]at hq;simp[D.one]at hq,hq.2⟩
 | false=>rw[hq]at h;cases h
noncomputable def stF(n:Nat)(h:List (Nat×ax))(a x:D):Option (List (Nat×ax)):=match a with
 | .mptr r i off=>match hfind h r with
  | some ⟨ty,rows⟩=>match Gb x n with
   | some cs=>match Bh rows i off cs with
    | some rs=>some ((r,⟨ty,rs⟩)::h)
    | none=>none
   | none=>none
  | none=>none
 | _=>none
noncomputable def ixF(n:Nat)(e:TypeId)(h:List (Nat×ax))(a i:D):Option D:=match a,i with
 | .list _ rows,.v (.int _ (.ofNat k))=>match rowAt rows k with
  | some row=>bif wT n row then some (.eptr row)else none
  | none=>none
 | .mrow r off len,.v (.int _ (.ofNat k))=>bif Nat.blt k len then(match hfind h r with
  | some ⟨ty,_⟩=>bif Nat.beq ty e then eP (off+k) λj=>some (.mptr r j 0)else none
  | none=>none)else none
 | _,_=>none
def zV(a b:Int):Bool:=match a,b with
 | .ofNat a,.ofNat b=>Nat.blt a b
 | a,b=>decide (a<b)
theorem ZbR(a b:Int):zV a b=decide (a<b):=by
 unfold zV
 split
 .
  rename_i a b
  rw[YS,Nat.blt_eq,XV];exact Int.ofNat_lt.symm
 rfl
def eqI(a b:Int):Bool:=match a,b with
 | .ofNat a,.ofNat b=>Nat.beq a b
 | a,b=>a==b
theorem Zdy(a b:Int):eqI a b=(a==b):=by
 unfold eqI
 split
 .
  rename_i a b
  rw[YS,Nat.beq_eq,Yx];exact⟨λh=>by rw[h],λh=>Int.ofNat.inj h⟩
 rfl
def biI(op:BinOp)(k k':IntKind)(a b:Int):Option D:=if k=k' then(match op with
 | .lss=>jZ (zV a b) λt=>some (.b t)
 | .geq=>jZ (!zV a b) λt=>some (.b t)
 | .gtr=>jZ (zV b a) λt=>some (.b t)
 | .leq=>jZ (!zV b a) λt=>some (.b t)
 | .eql=>jZ (eqI a b) λt=>some (.b t)
 | .neq=>jZ (!eqI a b) λt=>some (.b t)
 | .add=>if k.signed=true/\jT k (a+b)then Cu (a+b) λn=>some (.v (.int k n))else none
 | .sub=>if k.signed=true/\jT k (a-b)then Cu (a-b) λn=>some (.v (.int k n))else none
 | _=>none)else none
def biF(op:BinOp)(x y:D):Option D:=match x,y with
 | .v (.int k a),.v (.int k' b)=>biI op k k' a b
 | .v (.string ⟨⟨a⟩⟩),.v (.string ⟨⟨b⟩⟩)=>(match op with
  | .eql=>jZ (a==b) λt=>some (.b t)
  | .neq=>jZ (a != b) λt=>some (.b t)
  | _=>none)
 | _,_=>none
def lnF(sl str:Bool)(x:D):Option D:=match x with
 | .list _ rows=>bif sl then eP rows.length λn=>some (.i n)else none
 | .mrow _ _ len=>bif sl then some (.i len)else none
 | .v (.string ⟨⟨s⟩⟩)=>bif str then eP s.length λn=>some (.i n)else none
 | _=>none
def exF(i:Nat)(x:D):Option D:=match x with
 | .tuple ds=>if i<ds.length then Er (ds.getD i .junk)else none
 | _=>none
def ntF(x:D):Option D:=match x with
 | .v (.bool b)=>jZ (!b) λb=>some (.b b)
 | _=>none
noncomputable def pkF(x:Tr)(c a b:Operand):Option D:=match bu x c with
 | .v (.bool true)=>(match bu x a with
  | .v (.bool t)=>jZ t λt=>some (.b t)
  | _=>none)
 | .v (.bool false)=>(match bu x b with
  | .v (.bool t)=>jZ t λt=>some (.b t)
  | _=>none)
 | _=>none
noncomputable def FI.run(x:Tr)(h:List (Nat×ax))(b:Nat):FI->Option (D×List (Nat×ax))
 | .mv a=>(mvF x a).map λd=>(d,h)
 | .ld n agg a=>(ldF n agg h (bu x a)).map λd=>(d,h)
 | .fa off a=>(faF off (bu x a)).map λd=>(d,h)
 | .st n a v=>(stF n h (bu x a) (bu x v)).map λh=>(.v undef,h)
 | .ix n e a i=>(ixF n e h (bu x a) (bu x i)).map λd=>(d,h)
 | .al e row=>some (eP b λb=>(.mptr b 0 0,(b,⟨e,[row]⟩)::h))
 | .bx e n v=>(Gb (bu x v) n).map λcs=>eP b λb=>(.mptr b 0 0,(b,⟨e,[cs]⟩)::h)
 | .bi op a c=>(biF op (bu x a) (bu x c)).map λd=>(d,h)
 | .ln sl str a=>(lnF sl str (bu x a)).map λd=>(d,h)
 | .ex i a=>(exF i (bu x a)).map λd=>(d,h)
 | .nt a=>(ntF (bu x a)).map λd=>(d,h)
 | .pk c a b=>(pkF x c a b).map λd=>(d,h)
 | .slow=>none
def NC(d:D):Prop:=(sg d=true/\sd d=d)/\dC d=false
def nc0{d:D}(h : ∀g e,d ≠ .cond g e):sg d=true/\sd d=d:=by
 cases d<;>first|exact⟨rfl,rfl⟩|exact absurd rfl (h _ _)
def iQ{d:D}(h : ∀g e,d ≠ .cond g e)(k:dC d=false:=by rfl):NC d:=⟨nc0 h,k⟩
theorem OD{d e:D}(h:Er d=some e):e=d/\NC d:=by
 unfold Er at h
 split at h
 . cases h
 rename_i hne
 cases ht:dC d with
 | true=>rw[ht]at h;cases h
 | false =>
  rw[ht,cond_false,XU]at h;exact⟨h.symm,iQ (λg e q=>hne g e q) ht⟩
section
variable [aa P] {W : bf} {C : aK}
def FH{op:Op}{xs:List D}{h:H}{b:Nat}(hp:dG op=false)(hx : ∀d∈xs,sg d=true/\sd d=d){r:D×H×Prop}(hr:aH P W C op xs h b=r) :
  (au P W C true op xs h b).1=r.1/\(au P W C true op xs h b).2.1=r.2.1/\(r.2.2->(au P W C true op xs h b).2.2):=by
 have e:xs.map sd=xs:=by
  conv=>rhs;rw[<-List.map_id xs]
  exact YK λd hd=>(hx d hd).2
 unfold au
 rw[hp,e,hr]
 exact⟨rfl,rfl,λk=>⟨λ_=>Yg.2 λd hd=>(hx d hd).1,k⟩⟩
theorem Pi{t:TypeId}{cs:List D}{d:D}(h:ldC (P.cellsOf t) (bY P t) cs=some d)(hn:bY P t=true\/P.cellsOf t=1):(qd P t cs=d/\dC d=false)/\P.cellsOf t<=cs.length:=by
 unfold ldC at h
 unfold qd
 split at h
 .
  rename_i e
  rw[XY e]
  split at h
  .
   rename_i m hm
   simp only[XU]at h;subst h;obtain⟨h1,h2⟩:=LZ hm;exact⟨⟨by rw[h1],rfl⟩,h2⟩
  cases h
 rename_i e
 rw[XW (by simp[e])]
 have hn:P.cellsOf t=1:=hn.resolve_left (by simp[e])
 split at h
 .
  rename_i c cs'
  cases ht:dC c with
  | true=>rw[ht]at h;cases h
  | false =>
   rw[ht,cond_false,XU]at h;subst h;exact⟨⟨rfl,ht⟩,by rw[hn];simp⟩
 cases h
def Zb6{t:TypeId}{h:List (Nat×ax)}{a d:D}(k:ldF (P.cellsOf t) (bY P t) h a=some d)(hn:bY P t=true\/P.cellsOf t=1):NC a/\(qd P t (fU P a (htab h))=d/\dC d=false)/\P.cellsOf t<=(fU P a (htab h)).length:=by
 unfold ldF at k
 split at k
 .
  rename_i r i off
  split at k
  .
   rename_i ty rows hb
   split at k
   .
    rename_i row hr
    have hr:=Ht hr;rw[Ke]at k;rw[EY]at hb;have:fU P (.mptr r i off) (htab h)=row.drop off:=by
     simp only[fU,eD,hb,List.getD,hr,YD]
    rw[this];exact⟨iQ (λ_ _ q=>by cases q),Pi k hn⟩
   cases k
  cases k
 . exact⟨iQ (λ_ _ q=>by cases q),Pi k hn⟩
 cases k
def Zdq{off:Nat}{a d:D}(k:faF off a=some d):NC a/\(sK off a=d/\dC d=false)/\rH a=true:=by
 unfold faF at k
 split at k
 . rw[jY,XU]at k;subst k;exact⟨iQ (λ_ _ q=>by cases q),⟨rfl,rfl⟩,rfl⟩
 . rw[Ai,XU,Ke]at k;subst k;exact⟨iQ (λ_ _ q=>by cases q),⟨rfl,rfl⟩,rfl⟩
 cases k
def VE{t:TypeId}{h hh:List (Nat×ax)}{a x:D}(k:stF (P.cellsOf t) h a x=some hh)(hp:0<P.cellsOf t):NC a/\NC x/\(fO P t a x (htab h)).1=htab hh/\(fO P t a x (htab h)).2:=by
 unfold stF at k
 split at k
 .
  rename_i r i off
  split at k
  .
   rename_i ty rows hb
   split at k
   .
    rename_i cs hc
    split at k
    .
     rename_i rs hs
     simp only[XU]at k;subst k;rw[EY]at hb;obtain⟨c1,c2,c3,c4,c5⟩:=Tw hc;obtain⟨s1,s2,s3⟩:=MK hs;subst c1;subst s1;refine⟨iQ (λ_ _ q=>by cases q),iQ c4 c5,?_,?_⟩
     . simp only[fO,hb,htab]
     simp only[fO,hb];exact⟨c2,hp,s2,s3,c3⟩
    cases k
   cases k
  cases k
 cases k
theorem Zcq{t e:TypeId}(he:aZ P t=some e)(hp:0<P.cellsOf e){h:List (Nat×ax)}{a i d:D}(k:ixF (P.cellsOf e) e h a i=some d):NC a/\NC i/\((eF P t a i (htab h)).1=d/\dC d=false)/\(eF P t a i (htab h)).2:=by
 unfold ixF at k
 split at k
 .
  rename_i f rows kk n
  split at k
  .
   rename_i row hr
   have hr:=Ht hr
   cases hq:wT (P.cellsOf e) row with
   | false=>rw[hq]at k;cases k
   | true =>
    rw[hq]at k;simp only[cond_true,XU]at k;subst k;have hg:rows.getD n []=row:=by simp[List.getD,hr]
    refine⟨iQ (λ_ _ q=>by cases q),iQ (λ_ _ q=>by cases q),?_,?_⟩
    . exact⟨by simp only[eF,he,Int.toNat_natCast,Int.ofNat_eq_natCast,hg],rfl⟩
    simp only[eF,he,Int.toNat_natCast,Int.ofNat_eq_natCast,hg];have:=(X0.1 hr).1;exact⟨om,om,hp,I4 hq⟩
  cases k
 .
  rename_i r off len kk n
  cases hq:Nat.blt n len with
  | false=>rw[hq]at k;cases k
  | true =>
   rw[hq]at k;simp only[cond_true]at k
   split at k
   .
    rename_i ty rows hb
    cases hq2:Nat.beq ty e with
    | false=>rw[hq2]at k;cases k
    | true =>
     rw[hq2]at k;simp only[cond_true,jY,XU]at k;subst k;rw[EY]at hb;refine⟨iQ (λ_ _ q=>by cases q),iQ (λ_ _ q=>by cases q),?_,?_⟩
     . exact⟨by simp only[eF,he,Int.toNat_natCast,Int.ofNat_eq_natCast],rfl⟩
     simp only[eF,he,Int.ofNat_eq_natCast,hb];have:n<len:=by simpa using hq
     exact⟨om,om,hp,Nat.eq_of_beq_eq_true hq2⟩
   cases k
 cases k
theorem Zf6{t:TypeId}{op:BinOp}{x y d:D}(k:biF op x y=some d):NC x/\NC y/\((lM P t op x y).1=d/\dC d=false)/\(lM P t op x y).2:=by
 unfold biF at k
 split at k
 .
  rename_i kk a kk' b
  refine⟨iQ (λ_ _ q=>by cases q),iQ (λ_ _ q=>by cases q),?_⟩
  unfold biI at k
  split at k
  .
   rename_i e
   subst e
   split at k<;>first
    | (cases k;done)
    | (
      simp only[rU,XU,ZbR,Zdy]at k;subst k
      first
       | exact⟨⟨rfl,rfl⟩,rfl⟩
       | (
        refine⟨⟨?_,rfl⟩,rfl⟩;simp only[lM,dP,D.b]
        congr 2
        rw[YS]
        simp))
    | (
      split at k
      .
       rename_i hs
       rw[QC,XU]at k;subst k;exact⟨⟨by simp[lM,dP,hs.1],rfl⟩,by simp[lM,dP,hs.1,hs.2]⟩
      cases k)
  cases k
 .
  rename_i a b
  refine⟨iQ (λ_ _ q=>by cases q),iQ (λ_ _ q=>by cases q),?_⟩
  split at k<;>first
   | (cases k;done)
   | (
     rw[rU,XU]at k;subst k;exact⟨⟨rfl,rfl⟩,trivial⟩)
 cases k
theorem Zcu{t:TypeId}(h:BS P t=true):P.underlying t=some .string:=by
 unfold BS at h
 split at h
 . assumption
 cases h
theorem ZbZ{t:TypeId}{x d:D}(k:lnF (aZ P t).isSome (BS P t) x=some d):NC x/\((.v (.int .i64 (bq x)):D)=d/\dC d=false)/\sQ P t x=true:=by
 unfold lnF at k
 split at k
 .
  cases hq:(aZ P t).isSome with
  | false=>rw[hq]at k;cases k
  | true =>
   rw[hq]at k;simp only[cond_true,jY,XU]at k;subst k;exact⟨iQ (λ_ _ q=>by cases q),⟨rfl,rfl⟩,hq⟩
 .
  cases hq:(aZ P t).isSome with
  | false=>rw[hq]at k;cases k
  | true =>
   rw[hq]at k;simp only[cond_true,XU]at k;subst k;exact⟨iQ (λ_ _ q=>by cases q),⟨rfl,rfl⟩,hq⟩
 .
  cases hq:BS P t with
  | false=>rw[hq]at k;cases k
  | true =>
   rw[hq]at k;simp only[cond_true,jY,XU]at k;subst k;exact⟨iQ (λ_ _ q=>by cases q),⟨rfl,rfl⟩,by simp only[sQ,Zcu hq]⟩
 cases k
def ZaR{l:Nat×Nat}{E:Option Code->Env}{x:X}{c a b:Operand}{d:D}(k:pkF x.t c a b=some d):((wz true [(x.SL l E).ev c,(x.SL l E).ev a,(x.SL l E).ev b]).1=d/\dC d=false)/\(wz true [(x.SL l E).ev c,(x.SL l E).ev a,(x.SL l E).ev b]).2:=by
 unfold pkF at k
 split at k
 .
  rename_i e
  have e':(x.SL l E).ev c=_:=lG (by rw[e];rfl)
  split at k
  .
   rename_i t e1
   have e1':(x.SL l E).ev a=_:=lG (by rw[e1];rfl)
   rw[rU,XU]at k;subst k;rw[e',e1',e,e1];exact⟨⟨rfl,rfl⟩,λ_=>⟨⟨rfl,rfl⟩,λ_=>⟨rfl,rfl⟩,λh=>by cases h⟩⟩
  cases k
 .
  rename_i e
  have e':(x.SL l E).ev c=_:=lG (by rw[e];rfl)
  split at k
  .
   rename_i t e1
   have e1':(x.SL l E).ev b=_:=lG (by rw[e1];rfl)
   rw[rU,XU]at k;subst k;rw[e',e1',e,e1];exact⟨⟨rfl,rfl⟩,λ_=>⟨⟨rfl,rfl⟩,(λh=>by cases h),λ_=>⟨rfl,rfl⟩⟩⟩
  cases k
 cases k
end
section
variable [aa P] {W : bf} {C : aK} {l : Nat × Nat} {E : Option Code -> Env}
theorem FI.sound{op:Op}{x:X}{b:Nat}{d:D}{hh:List (Nat×ax)}(k:FI.run x.t x.h b (FI.of P op)=some (d,hh)) :
  (au P W C true op ((av op).map (x.SL l E).ev) (htab x.h) b).1=dQ l d/\(au P W C true op ((av op).map (x.SL l E).ev) (htab x.h) b).2.1=htab hh/\(au P W C true op ((av op).map (x.SL l E).ev) (htab x.h) b).2.2:=by
 have one : ∀{a:Operand},dG op=false->av op=[a]->NC (bu x.t a) -> ∀{r:D×H×Prop},aH P W C op [bu x.t a] (htab x.h) b=r->(r.1=d/\dC d=false)->r.2.1=htab hh->r.2.2 ->
   (au P W C true op ((av op).map (x.SL l E).ev) (htab x.h) b).1=dQ l d/\(au P W C true op ((av op).map (x.SL l E).ev) (htab x.h) b).2.1=htab hh/\(au P W C true op ((av op).map (x.SL l E).ev) (htab x.h) b).2.2:=by
  intro a hp ha hn r hr h1 h2 h3;rw[ha,wm h1.2];obtain⟨q1,q2,q3⟩:=FH (P:=P) (W:=W) (C:=C) (h:=htab x.h) (b:=b) hp (xs:=[a].map (x.SL l E).ev) (by simpa[lG hn.2]using hn.1) (by simpa[lG hn.2]using hr)
  exact⟨q1.trans h1.1,q2.trans h2,q3 h3⟩
 have two : ∀{a c:Operand},dG op=false->av op=[a,c]->NC (bu x.t a)->NC (bu x.t c) -> ∀{r:D×H×Prop},aH P W C op [bu x.t a,bu x.t c] (htab x.h) b=r->(r.1=d/\dC d=false)->r.2.1=htab hh->r.2.2 ->
   (au P W C true op ((av op).map (x.SL l E).ev) (htab x.h) b).1=dQ l d/\(au P W C true op ((av op).map (x.SL l E).ev) (htab x.h) b).2.1=htab hh/\(au P W C true op ((av op).map (x.SL l E).ev) (htab x.h) b).2.2:=by
  intro a c hp ha hn hm r hr h1 h2 h3;rw[ha,wm h1.2];obtain⟨q1,q2,q3⟩:=FH (P:=P) (W:=W) (C:=C) (h:=htab x.h) (b:=b) hp (xs:=[a,c].map (x.SL l E).ev) (by simpa[lG hn.2,lG hm.2]using⟨hn.1,hm.1⟩) (by simpa[lG hn.2,lG hm.2]using hr)
  exact⟨q1.trans h1.1,q2.trans h2,q3 h3⟩
 have mv : ∀{a:Operand},dG op=false->av op=[a]->(∀y,aH P W C op [y] (htab x.h) b=(y,htab x.h,True))->((mvF x.t a).map λd=>(d,x.h))=some (d,hh) ->
   (au P W C true op ((av op).map (x.SL l E).ev) (htab x.h) b).1=dQ l d/\(au P W C true op ((av op).map (x.SL l E).ev) (htab x.h) b).2.1=htab hh/\(au P W C true op ((av op).map (x.SL l E).ev) (htab x.h) b).2.2:=by
  intro a hp ha hy k;simp only[Option.map_eq_some_iff,Yu]at k;obtain⟨e,k1,rfl,rfl⟩:=k;unfold mvF at k1
  split at k1
  .
   rename_i i
   split at k1
   . cases k1
   rename_i hne
   cases ht2:nL (dA x.t (bP i))with
   | true=>rw[ht2]at k1;cases k1
   | false =>
   rw[ht2,cond_false,XU]at k1;have hv:(x.SL l E).ev (.tmp i)=dQ l e:=by rw[<-k1];rfl
   have hn0:sg e=true/\sd e=e:=by rw[<-k1];exact nc0 λg d q=>hne g d q
   have hn:sg (dQ l e)=true/\sd (dQ l e)=dQ l e:=by
    unfold dQ
    cases uH e with
    | true=>exact⟨rfl,rfl⟩
    | false=>cases nL e with
     | true=>exact⟨rfl,rfl⟩
     | false=>exact hn0
   rw[ha];obtain⟨q1,q2,q3⟩:=FH (P:=P) (W:=W) (C:=C) (h:=htab x.h) (b:=b) hp (xs:=[Operand.tmp i].map (x.SL l E).ev) (by simpa[hv]using hn) (by simpa[hv]using hy (dQ l e))
   exact⟨q1,q2,q3 trivial⟩
  obtain⟨rfl,hn⟩:=OD k1;exact one hp ha hn (hy _) ⟨rfl,hn.2⟩ rfl trivial
 unfold FI.of at k
 split at k
 . exact mv rfl rfl (λ_=>rfl) k
 . exact mv rfl rfl (λ_=>rfl) k
 .
  rename_i t a
  split at k
  .
   rename_i hc
   simp only[FI.run,Option.map_eq_some_iff,Yu]at k;obtain⟨e,k1,rfl,rfl⟩:=k;obtain⟨q1,q2,q3⟩:=Zb6 k1 hc.2.2;exact one rfl rfl q1 rfl q2 rfl ⟨q3,hc.1,hc.2.1⟩
  cases k
 .
  rename_i s a f
  split at k
  .
   rename_i off t hf
   split at k
   .
    rename_i hc
    simp only[FI.run,Option.map_eq_some_iff,Yu]at k;obtain⟨e,k1,rfl,rfl⟩:=k;obtain⟨q1,q2,q3⟩:=Zdq k1;refine one rfl rfl q1 (r:=(sK off (bu x.t a),htab x.h,rH (bu x.t a)=true/\P.cellsOf t≠0)) ?_ q2 rfl ⟨q3,hc⟩;simp only[aH,still,tJ,hf]
   cases k
  cases k
 .
  rename_i t a v
  split at k
  .
   rename_i hc
   simp only[FI.run,Option.map_eq_some_iff,Yu]at k;obtain⟨e,k1,rfl,rfl⟩:=k;obtain⟨q1,q2,q3,q4⟩:=VE k1 hc;exact two rfl rfl q1 q2 rfl ⟨rfl,rfl⟩ q3 q4
  cases k
 .
  rename_i t a i
  split at k
  .
   rename_i e he
   split at k
   .
    rename_i hc
    simp only[FI.run,Option.map_eq_some_iff,Yu]at k;obtain⟨e',k1,rfl,rfl⟩:=k;obtain⟨q1,q2,q3,q4⟩:=Zcq he hc k1;exact two rfl rfl q1 q2 rfl q3 rfl q4
   cases k
  cases k
 .
  rename_i e
  split at k
  .
   rename_i hc
   simp only[FI.run,jY,XU,Yu]at k;obtain⟨rfl,rfl⟩:=k;obtain⟨q1,q2,q3⟩:=FH (P:=P) (W:=W) (C:=C) (h:=htab x.h) (b:=b) (op:=.alloc e) rfl (xs:=[]) (by simp) rfl
   exact⟨q1,q2,q3 hc⟩
  cases k
 .
  rename_i e v
  split at k
  .
   rename_i hc
   simp only[FI.run,Option.map_eq_some_iff,jY,Yu]at k;obtain⟨cs,k1,rfl,rfl⟩:=k;obtain⟨c1,c2,c3,c4,c5⟩:=Tw k1;subst c1;exact one rfl rfl (iQ c4 c5) rfl ⟨rfl,rfl⟩ rfl ⟨c2,c3,hc⟩
  cases k
 .
  rename_i op t a c t'
  simp only[FI.run,Option.map_eq_some_iff,Yu]at k;obtain⟨e,k1,rfl,rfl⟩:=k;obtain⟨q1,q2,q3,q4⟩:=Zf6 (P:=P) (t:=t) k1;exact two rfl rfl q1 q2 rfl q3 rfl q4
 .
  rename_i a i
  simp only[FI.run,Option.map_eq_some_iff,Yu]at k;obtain⟨e,k1,rfl,rfl⟩:=k;unfold exF at k1
  split at k1
  .
   rename_i ds hd
   split at k1
   .
    rename_i hl
    obtain⟨rfl,hn⟩:=OD k1;refine one rfl rfl (by rw[hd];exact iQ (λ_ _ q=>by cases q)) (r:=(ds.getD i .junk,htab x.h,i<ds.length)) ?_ ⟨rfl,hn.2⟩ rfl hl
    rw[hd];rfl
   cases k1
  cases k1
 .
  rename_i t a
  simp only[FI.run,Option.map_eq_some_iff,Yu]at k;obtain⟨e,k1,rfl,rfl⟩:=k;unfold ntF at k1
  split at k1
  .
   rename_i y hd
   rw[rU,XU]at k1;subst k1;refine one rfl rfl (by rw[hd];exact iQ (λ_ _ q=>by cases q)) (r:=(.b !y,htab x.h,True)) ?_ ⟨rfl,rfl⟩ rfl trivial
   rw[hd];rfl
  cases k1
 .
  rename_i c a e
  simp only[FI.run,Option.map_eq_some_iff,Yu]at k;obtain⟨e',k1,rfl,rfl⟩:=k;obtain⟨q1,q2⟩:=ZaR (l:=l) (E:=E) k1;rw[wm q1.2];exact⟨q1.1,rfl,q2⟩
 .
  rename_i args ts
  split at k
  .
   rename_i a t ha ht
   simp only[FI.run,Option.map_eq_some_iff,Yu]at k;obtain⟨e,k1,rfl,rfl⟩:=k;obtain⟨q1,q2,q3⟩:=ZbZ k1;refine one rfl ha q1 (r:=(.v (.int .i64 (bq (bu x.t a))),htab x.h,sQ P t (bu x.t a)=true)) ?_ q2 rfl q3;simp only[aH,ht]
  cases k
 cases k
noncomputable def X.run2(P:Program)[aa P](b i:Nat)(o:Oper)(x:X):Option X:=match x with
 | ⟨n,t,h,nx,j⟩=>match FI.run t h (b+i) (FI.of P o.op)with
  | some (d,h)=>JX n t nx j o.dst d h
  | none=>none
def X.run2_sound{b i:Nat}{o:Oper}{x x':X}(q:x.run2 P b i o=some x'):C9 P C o (b+i) (x.SL l E) (x'.SL l E)/\x'.n=x.n/\x'.nx=x.nx/\x'.j=x.j:=by
 obtain⟨n,t,h0,nx,j⟩:=x
 unfold X.run2 at q
 simp only at q
 split at q
 .
  rename_i d h hk
  obtain⟨k1,k2,k3⟩:=FI.sound (l:=l) (E:=E) (x:=X.mk n t h0 nx j) (P:=P) (W:=words P) (C:=C) hk;obtain⟨hd,q1,q2⟩:=X.finF_S (l:=l) (E:=E) (x:=X.mk n t h0 nx j) q;refine⟨⟨hd,k3,?_⟩,q2⟩;rw[q1];have k1':(au P (words P) C true o.op ((av o.op).map ((X.mk n t h0 nx j).SL l E).ev) ((X.mk n t h0 nx j).SL l E).h (b+i)).1=dQ l d:=k1;have k2':(au P (words P) C true o.op ((av o.op).map ((X.mk n t h0 nx j).SL l E).ev) ((X.mk n t h0 nx j).SL l E).h (b+i)).2.1=htab h:=k2;rw[k1',k2']
 cases q
noncomputable def Jw(L:List Oper)(o:Oper)(t:Tr):Option Bool:=match o.guard with
 | none=>some true
 | some (j,want)=>match(L[j]?).bind (·.dst)with
  | none=>none
  | some i=>match dA t (bP i)with
   | .v (.bool b)=>jZ (b==want) λt=>some t
   | .cond g (.v (.bool b))=>jZ (g&&(b==want)) λt=>some t
   | _=>none
def Qq{L:List Oper}{o:Oper}{x:X}{t:Bool}(h:Jw L o x.t=some t):sZ L o (x.SL l E)=some t:=by
 unfold Jw at h
 unfold sZ
 split at h
 . exact h
 rename_i j want e
 split at h
 . cases h
 rename_i i hi
 have hg:tC L (x.SL l E) j=dQ l (dA x.t (bP i)):=by rw[tC,hi];rfl
 rw[hg]
 split at h
 .
  rename_i b hb
  rw[rU]at h;rw[hb];exact h
 .
  rename_i g b hb
  rw[rU]at h;rw[hb];exact h
 cases h
end
section
variable [aa P] {Q : Exit -> S -> Prop}
theorem WQ{s:S}{ops:Array Oper}{i b:Nat}{o:Oper}{f:Operand}{args:Array Operand}{ts:Array TypeId}{l:Nat}{r:Loop}{t:Nat->D}{xs:List D}(R:Bool->Option Code->H->Nat->Prop)
  (ho:ops[i]? = some o)(hop:o.op = .call { callee:=.value f,args:=args,argTypes:=ts })(hw:sZ ops.toList o s=some true)(hse:s.e=Env.loop l (recAt r none) t)(hd:cu s.n o.dst=true)
  (hf:s.ev f = .fn (.yield l) [] [])(hxg:(args.toList.map s.ev).all sg=true)(hx:(args.toList.map s.ev).map sd=xs)(hps:xs.length=r.params.size)(hpn : ∀p∈r.params.toList,p<r.tmps.size)
  (hbody:DW P (some l) r.assign (thenS (λs2=>s2.e=Env.tt/\DW P (some l) r.body (λe s'=>s'.e=Env.tt /\ ∃b j,(match e with | .normal=>b=true/\j=none | .ret=>b=false/\j=some .ret | .exit i=>b=false/\j=some (.exit i)|_=>False)/\R b j s'.h s'.nx) s2) (λ_ _=>False))
   { n:=r.tmps.size,t:=lZ t r.params.toList xs,h:=s.h,nx:=b+i })
  (hk : ∀bb j h' n',R bb j h' n'->jF P none ops (i+1) n' { n:=s.n,t:=s.put o.dst (.v (.bool bb)),h:=h',nx:=n'+ops.size,ok:=True,e:=Env.loop l (recAt r j) t } Q):jF P none ops i b s Q:=by
 obtain⟨n,t0,h0,nx,ok0,e0⟩:=s
 simp only at hse
 subst hse
 intro B g0 g1 a1 w0 w1 hs1 hm1 eU
 have hm1:bQ (some l) g0 g1 w0 w1:=hm1
 obtain⟨hl1,hI1,ht1⟩:(Env.loop l (recAt r none) t).p g1 w1:=hs1.en
 rw[Br ho,wpOpsIn_cons]
 unfold wpOpIn
 rw[ho]
 simp only
 rw[XY (Co hs1 hw)]
 have hdef : ∀c,o.op ≠ .defer c:=by intro c e;rw[e]at hop;cases hop
 have iq:o.semAt (Fw none).round a1.eval=execOp a1.eval o:=Oper.semAt_eq _ _ _ hdef
 refine⟨λ_ _=>trivial,?_⟩
 rw[iq]
 have hfr:=dH hs1 f
 rw[hf]at hfr
 have kJ:=vS (uV hs1 args.toList) hxg
 rw[hx]at kJ
 generalize hv:a1.eval f=vf at hfr
 cases hfr with|fn _ _ _ fs cs l1 l2 r1 r2 =>
 have hfs:fs = #[]:=by apply Zc;simpa using l1.symm
 have hcs:cs = #[]:=by apply Zc;simpa using l2.symm
 subst hfs;subst hcs
 have hsz:(args.map a1.eval).size=(recAt r none).params.size:=by
  have h1:=kJ.1
  show(args.map a1.eval).size=r.params.size
  rw[<-hps,h1];simp
 have hrun:(execOp a1.eval o).run P w1 = .ok (.round l r.fn ((r.params.zip (args.map a1.eval)).foldl (λtmps(t,a)=>tmps.setIfInBounds t a) r.tmps) r.assign r.body) w1:=by
  have:=run_yield (P:=P) (w:=w1) (l:=l) (r:=recAt r none) (args:=args.map a1.eval) hl1 hsz;have e1:(execOp a1.eval o).run P w1=(Instr.yield l (args.map a1.eval)).run P w1:=by simp[execOp,hop,resolve,Deferred.ofValue,hv,invoke]
  rw[e1];exact this
 rw[hrun,Oper.uponIn_round]
 refine⟨λh=>by simp[Fw,Fence.wide]at h,?_⟩
 obtain⟨hz1,hz2⟩:=Hg r.params.toList xs _ t r.tmps kJ hpn ht1
 have Ji:(r.params.zip (args.map a1.eval)).foldl (λtmps(t,a)=>tmps.setIfInBounds t a) r.tmps=(r.params.toList.zip (args.toList.map a1.eval)).foldl (λtmps(p:Nat×Value)=>tmps.setIfInBounds p.1 p.2) r.tmps:=by
  rw[<-Array.foldl_toList];simp
 rw[Ji]
 generalize (r.params.toList.zip (args.toList.map a1.eval)).foldl (λtmps(p:Nat×Value)=>tmps.setIfInBounds p.1 p.2) r.tmps=tm at hz1 hz2
 have hsb:St P (bS.of 0) { n:=r.tmps.size,t:=lZ t r.params.toList xs,h:=h0,nx:=b+i } g1 { tmps:=tm,defers:=[] } w1:=⟨hz1,hz2,hs1.mem,iY.start,trivial,Yl _⟩
 refine roundIn_of_wpIn trivial (wpIn_mono (hbody (bS.of 0) g1 _ w1 hsb (λr hr=>by have:=eU r hr;show r<b+i;omega)) ?_)
 rintro e a2 w2 ⟨s2,g2,hq,hs2,hm2,uQ,hx2⟩
 cases e with
 | normal =>
  have yM:aB g1 g2 w1 w2:=hm2.out;have hl2:=yt hs1.mem yM hl1 (λc e f=>by simp)
  have hI2 : ¬g2.I l:=λhI=>by
   rcases yM.inew l hI with e|e|⟨r,c,s,e⟩
   . exact hI1 e
   . have:=(Yb.1 hl1).1;omega
   exact rA hs1.mem hl1 (λc e f=>by simp) (λc e=>by simp) r c s e
  refine⟨_,run_beginRound hl2 rfl,?_⟩;have hlt2:l<w2.heap.size:=(Yb.1 hl2).1;obtain⟨he2,hbd⟩:=hq;have hb2:St P (bS.of 0) s2 g2 a2 (w2.putObj l (.loop { recAt r none with state:=.busy })):=by
   refine⟨hs2.sz,λi=>(hs2.tm i).mono (λb hb=>⟨hb,World.putObj_heap_other (λe=>hI2 (by rw[<-e];exact hb))⟩) (λ_ h=>h) (λ_ _=>.inl rfl),hs2.mem.putLoop hl2 hI2 _,hs2.df.laterX hs2.mem (zQ _) hl2,?_,Yl _⟩
   rw[he2];trivial
  refine wpIn_mono (hbd (bS.of 0) g2 a2 _ hb2 uQ) ?_;rintro e a3 w3 ⟨s3,g3,⟨_,bb,j,hcase,hR⟩,hs3,yL,hU3,_⟩;rw[he2]at yL;have yK:=yL.out;have Ci:(w2.putObj l (.loop { recAt r none with state:=.busy })).heap[l]? = some (.loop { recAt r none with state:=.busy }):=World.putObj_heap_same hlt2
  have hl3:=yt hb2.mem yK Ci (λc e f=>by simp)
  have wY : ¬g3.I l:=λhI=>by
   rcases yK.inew l hI with e|e|⟨r,c,s,e⟩
   . exact hI2 e
   . simp at e;omega
   exact rA hb2.mem Ci (λc e f=>by simp) (λc e=>by simp) r c s e
  have hlt3:l<w3.heap.size:=(Yb.1 hl3).1;have fin:bb=j.isNone -> ∃v w',(Instr.endRound l j).run P w3 = .ok v w'/\(λe w''=>match e with
    | Ending.returned v=>wpOpsIn (Fw none) 0 P ops (λe a' w'=>∃s' g',Q e s'/\St P B s' g' a' w'/\bQ (some l) g0 g' w0 w'/\(∀r,g'.U r->r<s'.nx)/\s'.e.x=some l) (List.range' (i+1) (ops.size-(i+1))) (a1.put o.dst v) w''
    | Ending.panicked chain=>∃s' g',Q (.panic chain) s'/\St P B s' g' a1 w''/\bQ (some l) g0 g' w0 w''/\(∀r,g'.U r->r<s'.nx)/\s'.e.x=some l
    | Ending.outgrown=>LetsOut (λe a' w'=>∃s' g',Q e s'/\St P B s' g' a' w'/\bQ (some l) g0 g' w0 w'/\(∀r,g'.U r->r<s'.nx)/\s'.e.x=some l)) (.returned v) w':=by
   rintro rfl;refine⟨_,_,run_endRound j hl3,?_⟩;have mX:bQ (some l) g1 g3 w1 (w3.putObj l (.loop (recAt r j))):=yM.toX.trans ((zQ _).trans (yK.toX.trans (zQ _)));have kept:=hs1.mem.keptX mX hI1;have hbase:St P B { n:=n,t:=t0,h:=s3.h,nx:=s3.nx+ops.size,ok:=True,e:=Env.loop l (recAt r j) t } g3 a1 (w3.putObj l (.loop (recAt r j))) :=
    ⟨hs1.sz,λi=>(hs1.tm i).mono kept mX.U mX.M,hs3.mem.putLoop hl3 wY _,hs1.df.laterX hs1.mem mX hl1,⟨World.putObj_heap_same hlt3,wY,λi=>(ht1 i).mono kept mX.U mX.M⟩,Yt hs1.bd mX.size⟩
   have hput:=jl hbase (aB.refl _ _) hbase.mem hd (.v (.bool j.isNone)) True;exact hk _ _ _ _ hR B g0 g3 _ w0 _ hput (hm1.trans mX) (λr hr=>by have:=hU3 r hr;omega)
  cases e with
  | normal=>obtain⟨rfl,rfl⟩:=hcase;exact fin rfl
  | ret=>obtain⟨rfl,rfl⟩:=hcase;exact fin rfl
  | exit i=>obtain⟨rfl,rfl⟩:=hcase;exact fin rfl
  | _=>exact hcase.elim
 | _=>exact hq.elim
end
section
variable {C : aK} {B : bS}
theorem VC [aa P]{ops:Array Oper}{k1 k2 b n:Nat}{ro:Option Nat}{Q:Exit->Act->World->Prop}{w0:World}{g0:Mem}{sq:S}(Dc:Lb C ops k1 k2)(hlt1:k1<k2)
  {o1:Oper}{R:D->H->Nat->Prop}
  (ho:ops[k1]? = some o1)(hg:o1.guard=none)(hd:cu sq.n o1.dst=true)
  (hrunA : ∀(s:S)(g:Mem)(a:Act)(w:World),St P B s g a w->s.h=sq.h->s.n=sq.n->s.e=sq.e->(av o1.op).map s.ev=(av o1.op).map sq.ev->(∀r,g.U r->r<b+k2) -> ∀K:Act->World->Prop,
   (∀res h' n',R res h' n' -> ∀v g' w',ag w' g' res v->HM P h' g' w'->aB g g' w w'->(∀r,g'.U r->r<n')->K (a.put o1.dst v) w')->o1.wpIn (Fw ro) n P a w K Q)(hok:sq.ok)
  (hst : ∀res h' n',R res h' n' -> ∀(i:Nat)o,i<k2->i≠k1->((dX ops.toList []).getD k1 0).testBit i=false->ops.toList[i]? = some o ->
   aJ P (words P) C ops.toList b i o sq.n sq.ev sq.t h'=((aJ P (words P) C ops.toList b i o sq.n sq.ev sq.t sq.h).1,h',(aJ P (words P) C ops.toList b i o sq.n sq.ev sq.t sq.h).2.2))
  (hQ : ∀res h' n',R res h' n' -> ∀g' a' w',St P B { n:=sq.n,t:=sq.put o1.dst res,h:=h',nx:=n'+ops.size,ok:=True,e:=sq.e } g' a' w'->aB g0 g' w0 w'->(∀r,g'.U r->r<n'+k2)->wpOpsIn (Fw ro) n P ops Q (List.range' k2 (ops.size-k2)) a' w') :
  ∀(fuel:Nat)(listed:Array Bool)(s:S)(g:Mem)(a:Act)(w:World),listed.size=ops.size->listed.getD k1 false=false->(∀j,k2<=j->listed.getD j false=false)->(dZ k1 k2 listed).length+1+(ops.size-k2)<=fuel->Closed ops listed ->
   St P B s g a w->aB g0 g w0 w->(∀r,g.U r->r<b \/ ∃j,listed.getD j false=true/\j<k2/\r=b+j)->(dZ k1 k2 listed).foldl (run1 P (words P) C ops.toList b) s=sq ->
   wpAnyIn (Fw ro) n P .any ops Q fuel listed a w:=by
 intro fuel
 have hle:=Dc.le
 induction fuel with
 | zero=>intro listed s g a w hsz hk1 hk2 hfu;omega
 | succ fuel ih =>
  intro listed s g a w hsz hk1 hk2 hfu hX hs hm hU hfin;refine⟨λhr=>?_,λi hi=>?_⟩
  .
   exfalso
   have:=Zak hsz Dc.back hr k1 om;rw[hk1]at this;cases this
  obtain⟨hlt,uR,uM⟩:=(uy hsz).1 hi;have hik:i<k2:=by
   by_cases q:i<k2
   . exact q
   exfalso
   have:=AP (L:=ops.toList) (X:=λk=>listed.getD k false=true) hX i ops[i] (by simp[hlt]) uM k1 (Dc.ord i om hlt k1 om)
   rw[hk1]at this;cases this
  by_cases hne:i=k1
  .
   subst hne;have ho':ops.toList[i]? = some o1:=by rw[YL];exact ho
   have hoi:ops[i]=o1:=by
    have:ops[i]? = some ops[i]:=by simp[hlt]
    rw[ho]at this;exact(ZX this).symm
   have Cc : ∀j∈dZ i k2 listed,∀x,ops.toList[j]? = some x->((dX ops.toList []).getD i 0).testBit j=false/\gK ops.toList x o1=true:=by
    intro j hj x hxj;obtain⟨j1,j2,j3⟩:=o8.1 hj;have hnb:((dX ops.toList []).getD i 0).testBit j=false:=by
     cases q:((dX ops.toList []).getD i 0).testBit j with
     | false=>rfl
     | true =>
      have:=AP (L:=ops.toList) (X:=λk=>listed.getD k false=true) hX i ops[i] (by simp[hlt]) uM j q
      rw[j3]at this;cases this
    rcases Dc.call j x o1 j1 j2 hxj ho' with h|h
    . rw[hnb]at h;cases h
    exact⟨hnb,h⟩
   have hlk:=JK (P:=P) (W:=words P) (C:=C) (L:=ops.toList) (b:=b) (y:=o1) (dZ i k2 listed) s λj hj x hxj=>(Cc j hj x hxj).2
   rw[hfin]at hlk;have hsqh:sq.h=s.h:=by
    rw[<-hfin];exact JL _ _ λj hj o ho=>Dc.quiet j o (o8.1 hj).1 (o8.1 hj).2.1 (Cc j hj o ho).1 ho
   have Jj:sq.n=s.n/\sq.e=s.e:=by rw[<-hfin];exact JJ _ _
   have eU : ∀r,g.U r->r<b+k2:=λr hr=>by rcases hU r hr with h|⟨j,_,h,rfl⟩<;>omega
   unfold wpOpIn;rw[ho];simp only;have hw:Region.wanted o1 (yielded ops a.tmps)=true:=by simp[Region.wanted,hg]
   rw[XY hw];refine hrunA s g a w hs hsqh.symm Jj.1.symm Jj.2.symm hlk.symm eU _ λres h' n' hR v g' w' q1 q2 q3 q4=>?_
   have hs2:=jl hs q3 q2 (show cu s.n o1.dst=true by rw[<-Jj.1];exact hd) q1 True
   have htodo:dZ i k2 (listed.setIfInBounds i true)=dZ i k2 listed:=by
    unfold dZ;refine Z0 λk _=>?_
    rw[getD_set (by omega) k]
    by_cases e:k=i
    . simp[e]
    have e2:(k==i)=false:=by simpa using e
    rw[e2,ZA]
   have o9:(dZ i k2 listed).Pairwise (· < ·):=ZU _ ZM;have nO:=JS (P:=P) (W:=words P) (C:=C) (L:=ops.toList) (b:=b) (b':=n') (m:=n'+ops.size) (d:=o1.dst) (res:=res) (h':=h') (sq:=sq) (dZ i k2 listed) s o9 (λj hj o hoj=>by
    obtain⟨j1,j2,j3⟩:=o8.1 hj;obtain⟨k3,k4⟩:=Cc j hj o hoj;refine⟨Dc.quiet j o j1 j2 k3 hoj,λz hz=>?_,λm hm hjm y hy=>Dc.late j m o y hjm (o8.1 hm).1 j2 (o8.1 hm).2.1 hoj hy,hst res h' n' hR j o j1 j2 k3 hoj⟩
    simp only[gK,XT,hz]at k4;refine⟨by simpa using k4.2,λe=>?_⟩
    have:=k4.1;rw[e]at this
    simp at this) hfin hok
   refine Mi (B:=B) (g0:=g0) (w0:=w0) (b:=n') Dc.le Dc.back Dc.ord Dc.comm fuel (listed.setIfInBounds i true) { n:=s.n,t:=s.put o1.dst res,h:=h',nx:=n'+ops.size,ok:=True,e:=s.e } g' _ w' (by simp[hsz]) (λ_=>by rw[getD_set (by omega)];simp) (λj hj=>?_) (by rw[htodo];omega) (hX.set hsz hi)
    ⟨hs2.sz,hs2.tm,hs2.mem,hs2.df,hs2.en,hs2.bd⟩ (hm.trans q3) (λr hr=>.inl (q4 r hr)) (by rw[htodo];exact nO) trivial (hQ res h' n' hR)
   rw[getD_set (by omega),hk2 j hj]
   have:(j==i)=false:=by simp;omega
   rw[this];rfl
  refine Nj Dc.le Dc.comm hsz hX hs hU hfin hok hi hik hne λg' a' w' s' q1 q2 q3 q4 q5=>?_
  refine ih _ s' g' a' w' (by simp[hsz]) (by rw[getD_set (by omega),hk1];simp;exact λh=>hne h.symm) (λj hj=>?_) (by omega) (hX.set hsz hi) q1 (hm.trans q2) q3 q4
  rw[getD_set (by omega),hk2 j hj]
  have:(j==i)=false:=by simp;omega
  rw[this];rfl
def Zep [aa P]{ro:Option Nat}{Q:Exit->S->Prop}{s sq:S}{id:Nat}{ops:Array Oper}(k1 k2:Nat){o1:Oper}(R:D->H->Nat->Prop)
  (yJ:P.follows .mixedOrders=true)(hD:CJ C ops.toList k1 k2=true)(ho:ops[k1]? = some o1)(hg:o1.guard=none)
  (hfin:((List.range k2).filter (· != k1)).foldl (run1 P (words P) C ops.toList s.nx) s=sq)(hok:sq.ok)(hd:cu sq.n o1.dst=true)
  (hrunA : ∀(B:bS)(Q':Exit->Act->World->Prop)(s':S)(g:Mem)(a:Act)(w:World),St P B s' g a w->s'.h=sq.h->s'.n=sq.n->s'.e=sq.e->(av o1.op).map s'.ev=(av o1.op).map sq.ev->(∀r,g.U r->r<s.nx+k2) -> ∀K:Act->World->Prop,
   (∀res h' n',R res h' n' -> ∀v g' w',ag w' g' res v->HM P h' g' w'->aB g g' w w'->(∀r,g'.U r->r<n')->K (a.put o1.dst v) w')->o1.wpIn (Fw ro) 0 P a w K Q')
  (hst : ∀res h' n',R res h' n' -> ∀(i:Nat)o,i<k2->i≠k1->((dX ops.toList []).getD k1 0).testBit i=false->ops.toList[i]? = some o ->
   aJ P (words P) C ops.toList s.nx i o sq.n sq.ev sq.t h'=((aJ P (words P) C ops.toList s.nx i o sq.n sq.ev sq.t sq.h).1,h',(aJ P (words P) C ops.toList s.nx i o sq.n sq.ev sq.t sq.h).2.2))
  (hk : ∀res h' n',R res h' n'->jF P ro ops k2 n' { n:=sq.n,t:=sq.put o1.dst res,h:=h',nx:=n'+ops.size,ok:=True,e:=sq.e } Q):DW P ro (.region id ops true) Q s:=by
 intro B g a w hs hU
 refine wpIn_region_any yJ ?_
 obtain⟨hs1,hm1⟩:=FK hs
 obtain⟨hlt,Dc⟩:=ZeE hD
 have hle:=Dc.le
 have hrep : ∀i,(Array.replicate ops.size false).getD i false=false:=by
  intro i
  by_cases h:i<ops.size<;>simp[Array.getD,h]
 have htodo:dZ k1 k2 (Array.replicate ops.size false)=(List.range k2).filter (· != k1):=by
  unfold dZ;exact Z0 λi _=>by rw[hrep];simp
 have hlen:(dZ k1 k2 (Array.replicate ops.size false)).length<k2:=by
  rw[htodo];have:=(List.length_filter_lt_length_iff_exists (p:=λx=>x != k1) (l:=List.range k2)).2 ⟨k1,by simpa using hlt,by simp⟩
  simpa using this
 have hse:sq.e=s.e:=by rw[<-hfin];exact(JJ _ _).2
 refine VC (B:=B) (C:=C) (g0:=g) (w0:=w) (b:=s.nx) (n:=0) Dc hlt ho hg hd (λs' g a w h1 h2 h3 h4 h5 h6=>hrunA B _ s' g a w h1 h2 h3 h4 h5 h6) hok hst (λres h' n' hR g' a' w' q1 q2 q3=>?_) ops.size _ s g a _ (by simp) (hrep k1) (λj _=>hrep j) (by omega) (λi o _ hi=>by rw[hrep]at hi;cases hi) hs1 hm1 (λr hr=>.inl (hU r hr)) (by rw[htodo];exact hfin)
 have:=hk res h' n' hR B g g' a' w w' q1 q2.toX q3
 simp only[hse]at this
 exact this
end
section
variable [aa P]
theorem Zgi{h:H}{g:Mem}{w:World}(hm:HM P h g w){b:Nat}(hb : ¬g.U b){t u e:TypeId}{r off n:Nat}{rows:List (List D)}{y:D}{vx vy:Value}(he:aZ P t=some e)(hr:h r=some ⟨e,rows⟩)(hx:ag w g (.mrow r off n) vx)(hy:ag w g y vy)
  (hln:off+n=rows.length)(h0:0<rows.length)(hne:aj y h≠[])(hl:(aj y h).length=bq y)(hs:fG P u h y=true)(hz:dJ P e=true)(hrl : ∀q∈aj y h,q.length=P.cellsOf e)
  (hby:(n+(aj y h).length)*P.bytesOf e<=140737488355328)(h63:n+(aj y h).length<=9223372036854775807)(ty:TypeId) :
  ∃v g' w',(Builtin.append_ #[t,u] ty #[vx,vy]).run P w = .ok v w'/\((ag w' g' (.mrow r off (n+(aj y h).length)) v/\HM P (upd h r (some ⟨e,rows++aj y h⟩)) g' w')\/(ag w' g' (.mrow b 0 (n+(aj y h).length)) v/\HM P (upd h b (some ⟨e,rows.drop off++aj y h⟩)) g' w'))/\aB g g' w w' /\ ∀q,g'.U q->g.U q\/q=b:=by
 have ht:=nS he
 obtain⟨blk,c,h1,h2,h3,h4,h5⟩:=hm.blk r _ hr
 simp only at h1 h2 h3
 obtain⟨i,hi,hsz⟩:=wW h2
 have hbi:i.bytes=P.bytesOf e:=by simp[Program.bytesOf,hi]
 obtain⟨news,r1,r2,r3,r4⟩:=vZ hm hy h2 hl hrl hs
 have hx0:=hx
 cases hx with|mrow _ _ _ _ fV hU hvv =>
 obtain⟨p1,p2⟩:=hvv _ _ _ h1
 have hrx:aj (.mrow r off n) h=rows.drop off:=by
  simp only[aj,hr];exact Yh (by simp;omega)
 have hrl2 : ∀q∈aj (.mrow r off n) h,q.length=P.cellsOf e:=by
  rw[hrx];intro row hrow;have hrow:=List.mem_of_mem_drop hrow;obtain⟨k,hk,rfl⟩:=YN hrow
  rcases h5 with⟨_,h5⟩|⟨b',cur,_,_,_,_,k9⟩
  . have h3:rows.length<=c:=h3;omega
  exact(k9 k _ (X6 hk)).1
 have grow : ∀a cap,vx = .slice a n cap->cap<n+(aj y h).length -> ∃v g' w',(Builtin.append_ #[t,u] ty #[vx,vy]).run P w = .ok v w'/\((ag w' g' (.mrow r off (n+(aj y h).length)) v/\HM P (upd h r (some ⟨e,rows++aj y h⟩)) g' w')\/(ag w' g' (.mrow b 0 (n+(aj y h).length)) v/\HM P (upd h b (some ⟨e,rows.drop off++aj y h⟩)) g' w'))/\aB g g' w w' /\ ∀q,g'.U q->g.U q\/q=b:=by
  rintro a cap rfl hcap;obtain⟨olds,o1,o2,o3,_⟩:=vZ hm hx0 (u:=t) h2 (by rw[hrx];simp[bq];omega) hrl2 (by simp[fG,he,hr])
  rw[hrx]at o1;simp only[bq]at o2 o3;unfold dJ at hz
  cases hzz:i.zero with
  | none=>simp[hi,hzz]at hz
  | some z =>
   simp only[hi,hzz,Option.bind_some,Yx]at hz;have hpos:0<(aj y h).length:=YV.2 hne;have hap:=KY (P:=P) ht hi hzz (r4 w) ty a n cap (by rw[hl];exact r2 w) hcap (by rw[hsz];exact o3 w.drew rfl) (by rw[hsz,hl];exact r3 w.drew rfl) h63 (by rw[hbi];exact hby)
   have hge:=grownCap_ge w (n+(aj y h).length) cap e;have hdl:(rows.drop off).length=n:=by simp;omega
   obtain⟨g',k1,k2,k3,k4⟩:=Fa (h':=upd h b (some ⟨e,rows.drop off++aj y h⟩)) hm hb (o1.append r1) h2 hz (bK _ _ _) (λr hr=>.inl (aL _ _ _ _ hr)) (grownCap w (n+(aj y h).length) cap e) (by rw[Yr,hdl];exact hge) (by omega)
    (grownCap_le_maxLen _ _ _ _ (by simp only[maxLen];exact h63))
   simp only[Yr,hdl]at k1 k2 k3;exact⟨_,g',_,hap,.inr ⟨k1,k2⟩,k3,k4⟩
 have hpos:0<(aj y h).length:=YV.2 hne
 rcases p2 with⟨e0,a,rfl⟩|⟨e0,b0,rfl,rfl⟩
 .
  have h3:rows.length<=c:=h3;have hn0:n=0:=by omega
  exact grow a 0 (by rw[hn0]) (by omega)
 by_cases hroom:n+(aj y h).length<=c-off
 .
  obtain⟨cur,c1,c2,c3⟩:=Dh hm (off:=off+n) hr h1 p1.2 r1 om om;obtain⟨g',q1,q2,q3,q4,q5⟩:=c3 _ rfl;have hap:=TS (P:=P) ht hi (r4 w) ty b0 (off*P.cellsOf e) n (c-off) (by rw[hl];exact r2 w) hroom (by rw[hsz,hl];exact r3 w rfl) r1.one c1 (by rw[hsz];rw[Ze]at c2;exact c2)
  rw[hsz,<-Ze]at hap;have e1:rows.take (off+n)++aj y h++rows.drop (off+n+(aj y h).length)=rows++aj y h:=by
   rw[Yh (by omega),List.drop_of_length_le (by omega),YZ]
  rw[e1]at q3;refine⟨_,g',_,hap,.inl ⟨.mrow r off _ _ ⟨_,_,rfl,hroom,λ_=>⟨_,rfl⟩⟩ q2 λblk c' sz he=>?_,q3⟩,q4,λq hq=>.inl (q5 q hq)⟩
  rw[q1,h1]at he;simp only[XU,Yu]at he;obtain⟨rfl,rfl,rfl⟩:=he;exact⟨om,.inr ⟨e0,b0,rfl,rfl⟩⟩
 exact grow _ (c-off) rfl om
def Zfk{h:H}{g:Mem}{w:World}(hm:HM P h g w){t u e:TypeId}{r off len:Nat}{rows:List (List D)}{y:D}{vx vy:Value}(he:aZ P t=some e)(hr:h r=some ⟨e,rows⟩)(hx:ag w g (.mrow r off len) vx)(hy:ag w g y vy)
  (hk:(aj y h).length=len)(h0:0<len)(hln:off+len<=rows.length)(hl:(aj y h).length=bq y)(hs:fG P u h y=true)(hrl : ∀q∈aj y h,q.length=P.cellsOf e)(ty:TypeId) :
  ∃g' w',(Builtin.copy_ #[t,u] ty #[vx,vy]).run P w = .ok (.int .i64 len) w'/\HM P (upd h r (some ⟨e,rows.take off++aj y h++rows.drop (off+len)⟩)) g' w'/\aB g g' w w' /\ ∀q,g'.U q->g.U q:=by
 have ht:=nS he
 obtain⟨blk,c,h1,h2,h3,h4,h5⟩:=hm.blk r _ hr
 simp only at h1 h2 h3
 obtain⟨cs,r1,l1,f1,_⟩:=vZ hm hy h2 hl hrl hs
 cases hx with|mrow _ _ _ _ fV hU hvv =>
 obtain⟨p1,p2⟩:=hvv _ _ _ h1
 rcases p2 with⟨e0,_⟩|⟨e0,b,rfl,rfl⟩
 . have h3:rows.length<=c:=h3;omega
 obtain⟨cur,c1,c2,c3⟩:=Dh hm (off:=off) hr h1 p1.2 r1 (by omega) (by rw[hk];omega)
 obtain⟨g',q1,q2,q3,q4,q5⟩:=c3 _ rfl
 rw[hk]at q3
 have hst:=run_storeCells_at P b (off*P.cellsOf e) e cs 0 cur w c1 (by simpa using c2) r1.one
 simp only[ZB]at hst
 have hll:bq y=len:=by omega
 rw[hll]at l1 f1
 have hmin:Nat.min len len=len:=Nat.min_self _
 refine⟨g',_,?_,q3,q4,q5⟩
 simp[Builtin.copy_,run_underlying ht,l1,mU h2,f1 w rfl,hst,goInt]
end
section
variable (P : Program) [aa P]
def Dv(u e:TypeId)(y:D)(h:H):Bool:=decide ((aj y h).length=bq y)&&fG P u h y&&dJ P e&&(aj y h).all λq=>decide (q.length=P.cellsOf e)
def V9:D->Bool
 | .list _ _ | .mrow _ _ _=>true
 | _=>false
def J6(t u:TypeId)(x y:D)(h:List (Nat×ax))(b:Nat):Option (List (D×List (Nat×ax))):=match aZ P t with
 | none=>none
 | some e=>if Dv P u e y (htab h)=true/\0<P.cellsOf e then
   if(aj y (htab h)).isEmpty=true then(if V9 x=true then some [(x,h)]else none)
   else match x with
    | .mrow r off n=>match htab h r with
     | some ⟨ty,rows⟩=>if ty=e/\off+n=rows.length/\0<rows.length/\(n+(aj y (htab h)).length)*P.bytesOf e<=140737488355328/\n+(aj y (htab h)).length<=9223372036854775807 then
       xe (rows++aj y (htab h)) λrs=>xe (rows.drop off++aj y (htab h)) λrs2=>eP (n+(aj y (htab h)).length) λm=>eP b λb =>
        some [(.mrow r off m,(r,⟨e,rs⟩)::h),(.mrow b 0 m,(b,⟨e,rs2⟩)::h)]
      else none
     | none=>none
    | .list true rows=>if(rows.length+(aj y (htab h)).length)*P.bytesOf e<=140737488355328/\rows.length+(aj y (htab h)).length<=9223372036854775807/\(rows.all λr=>decide (r.length=P.cellsOf e))=true then
       xe (rows++aj y (htab h)) λrs=>eP (rows.length+(aj y (htab h)).length) λm=>eP b λb =>
        some [(.mrow b 0 m,(b,⟨e,rs⟩)::h)]
      else none
    | _=>none
  else none
def QY(t u:TypeId)(x y:D)(h:List (Nat×ax)):Option (List (D×List (Nat×ax))):=match aZ P t with
 | none=>none
 | some e=>match x with
  | .mrow r off len=>match htab h r with
   | some ⟨ty,rows⟩=>if Dv P u e y (htab h)=true/\ty=e/\(aj y (htab h)).length=len/\0<len/\off+len<=rows.length then
     xe (rows.take off++aj y (htab h)++rows.drop (off+len)) λrs=>some [(.i len,(r,⟨e,rs⟩)::h)]
    else none
   | none=>none
  | _=>none
def QX(t:TypeId)(m:D)(h:List (Nat×ax)):Option (List (D×List (Nat×ax))):=match lu P t,qj (htab h) m with
 | some _,some kv=>eP (kv.length / 2) λn=>some [(.i n,h)]
 | _,_=>none
def QW(t:TypeId)(x:D)(h:List (Nat×ax)):Option (List (D×List (Nat×ax))):=match aZ P t,x with
 | some _,.list _ rows=>(match rows with
  | []=>some [(.b true,h),(.b false,h)]
  | _=>some [(.b false,h)])
 | _,_=>none
def Fz(o:Oper)(az:List D)(h:List (Nat×ax))(b:Nat):Option (List (D×List (Nat×ax))):=match o.op,az with
 | .call { callee:=.builtin .append,args:=⟨[_,_]⟩,argTypes:=⟨[t,u]⟩ },[x,y]=>J6 P t u x y h b
 | .call { callee:=.builtin .copy,args:=⟨[_,_]⟩,argTypes:=⟨[t,u]⟩ },[x,y]=>QY P t u x y h
 | .call { callee:=.builtin .len,args:=⟨[_]⟩,argTypes:=⟨[t]⟩ },[m]=>QX P t m h
 | .binOp .eql t _ (.const (.slice none 0 0)) _,[x,_]=>QW P t x h
 | _,_=>none
end
section
variable [aa P]
def Mk{u e:TypeId}{y:D}{h:H}(k:Dv P u e y h=true):(aj y h).length=bq y/\fG P u h y=true/\dJ P e=true /\ ∀q∈aj y h,q.length=P.cellsOf e:=by
 simp only[Dv,XT,XV,Yg]at k
 exact⟨k.1.1.1,k.1.1.2,k.1.2,λq hq=>k.2 q hq⟩
theorem Zdv{t u:TypeId}{x y:D}{h:List (Nat×ax)}{b:Nat}{outs:List (D×List (Nat×ax))}(k:J6 P t u x y h b=some outs){g:Mem}{w:World}(hm:HM P (htab h) g w)(hb : ¬g.U b){vx vy:Value}(hx:ag w g x vx)(hy:ag w g y vy)(ty:TypeId) :
  ∃r∈outs,∃v g' w',(Builtin.append_ #[t,u] ty #[vx,vy]).run P w = .ok v w'/\ag w' g' r.1 v/\HM P (htab r.2) g' w'/\aB g g' w w' /\ ∀q,g'.U q->g.U q\/q=b:=by
 unfold J6 at k
 split at k
 . cases k
 rename_i e he
 have ht:=nS he
 split at k
 .
  rename_i hc
  obtain⟨hs,hp⟩:=hc;obtain⟨s1,s2,s3,s4⟩:=Mk hs
  split at k
  .
   rename_i hn
   have hn:aj y (htab h)=[]:=List.isEmpty_iff.1 hn
   split at k
   .
    rename_i hll
    simp only[XU]at k;subst k;obtain⟨i,hi,hsz⟩:=wW hp;obtain⟨news,r1,r2,r3,r4⟩:=vZ hm hy hp s1 s4 s2;rw[hn]at r1;have h0:bq y=0:=by rw[<-s1,hn];rfl
    have hv : ∃a n c,vx = .slice a n c/\n<=c:=by
     cases hx with
     | empty full a cap hf hmx=>exact⟨a,0,cap,rfl,Yl _⟩
     | list full rows ad cap size cv hI hl hf hmx hs' hc' hr'=>exact⟨some ad,rows.length,cap,rfl,hl⟩
     | mrow r off len x fV hU hv =>
      obtain⟨a,c,q1,q2,_⟩:=fV;exact⟨a,len,c,q1,q2⟩
     | _=>cases hll
    obtain⟨a,n,c,rfl,hle⟩:=hv;have hc0:news=[]:=Yf (by simpa using r1.1)
    subst hc0;rw[h0]at r2 r3;refine⟨_,.head _,_,g,w,KX ht hi (r4 w) ty a n c hle (r2 w) (by rw[hsz];exact r3 w rfl),hx,hm,aB.refl _ _,λq hq=>.inl hq⟩
   cases k
  rename_i hn
  have hn:aj y (htab h)≠[]:=λq=>hn (by rw[q];rfl)
  split at k
  .
   rename_i r off n
   split at k
   .
    rename_i ty' rows hr
    split at k
    .
     rename_i hq
     obtain⟨rfl,q1,q2,q3,q4⟩:=hq;simp only[Cs,jY,XU]at k;subst k;obtain⟨v,g',w',p1,p2,p3,p4⟩:=Zgi (u:=u) hm hb he hr hx hy q1 q2 hn s1 s2 s3 s4 q3 q4 ty
     rcases p2 with⟨p5,p6⟩|⟨p5,p6⟩
     . exact⟨_,.head _,v,g',w',p1,p5,p6,p3,p4⟩
     exact⟨_,.tail _ (.head _),v,g',w',p1,p5,p6,p3,p4⟩
    cases k
   cases k
  .
   rename_i rows
   split at k
   .
    rename_i hq
    obtain⟨q3,q4,q5⟩:=hq;simp only[Cs,jY,XU]at k;subst k;have hA1:(dR P t u (.list true rows) y (htab h) b).1 = .mrow b 0 (rows.length+(aj y (htab h)).length):=by
     unfold dR;rw[he]
    have hA2:(dR P t u (.list true rows) y (htab h) b).2.1=upd (htab h) b (some ⟨e,rows++aj y (htab h)⟩):=by
     unfold dR;rw[he]
    have hc:(dR P t u (.list true rows) y (htab h) b).2.2:=by
     unfold dR;rw[he];exact⟨⟨hp,q3,q4⟩,⟨s1,s2,s3,s4⟩,λq=>absurd q hn,λr hr=>Y3 (Yg.1 q5 r hr)⟩
    obtain⟨v,g',w',p1,p2,p3,p4,p5⟩:=KW hm hb hx hy hc ty;rw[hA1]at p2;rw[hA2]at p3;exact⟨_,.head _,v,g',w',p1,p2,p3,p4,p5⟩
   cases k
  cases k
 cases k
theorem QS{o:Oper}{h:List (Nat×ax)}{b:Nat}{outs:List (D×List (Nat×ax))}{s:S}(k:Fz P o ((av o.op).map s.ev) h b=some outs)(hh:s.h=htab h) :
  (∀c,o.op ≠ .defer c) /\ ∀(B:bS)(g:Mem)(a:Act)(w:World),St P B s g a w -> ¬g.U b -> ∃d h',(∃r∈outs,d=r.1/\h'=htab r.2)/\Does P g w b ((execOp a.eval o).run P w) d h':=by
 unfold Fz at k
 split at k
 .
  rename_i x1 y1 t u x y hop hargs
  refine⟨λc e=>(by rw[hop]at e;cases e),λB g a w hs hb=>?_⟩
  rw[hop]at hargs;simp only[av,X9,Yw,Yy,and_true]at hargs;obtain⟨rfl,rfl⟩:=hargs;obtain⟨r,hr,v,g',w',q1,q2,q3,q4,q5⟩:=Zdv k (hh▸hs.mem) hb (dH hs x1) (dH hs y1) o.type;refine⟨r.1,_,⟨r,hr,rfl,rfl⟩,v,g',w',.inl ?_,q2,q3,q4,q5⟩;obtain⟨od,oo,nu,op,oa,og⟩:=o;simp only at hop;subst hop
  simp[Go.BigFrame.execOp_builtin,Go.BigFrame.builtin_append,q1]
 .
  rename_i x1 y1 t u x y hop hargs
  refine⟨λc e=>(by rw[hop]at e;cases e),λB g a w hs hb=>?_⟩
  rw[hop]at hargs;simp only[av,X9,Yw,Yy,and_true]at hargs;obtain⟨h1,rfl⟩:=hargs;unfold QY at k
  split at k
  . cases k
  rename_i e he
  split at k
  .
   rename_i r off len
   split at k
   .
    rename_i ty' rows hr
    split at k
    .
     rename_i hq
     obtain⟨p1,rfl,p2,p3,p4⟩:=hq;simp only[Cs,XU]at k;subst k;obtain⟨s1,s2,s3,s4⟩:=Mk p1;have hx:=dH hs x1;rw[h1]at hx;obtain⟨g',w',q1,q2,q3,q4⟩:=Zfk (u:=u) (hh▸hs.mem) he hr hx (dH hs y1) p2 p3 p4 s1 s2 s4 o.type;refine⟨_,_,⟨_,.head _,rfl,rfl⟩,_,g',w',.inl ?_,.v _,q2,q3,λq hq=>.inl (q4 q hq)⟩
     obtain⟨od,oo,nu,op,oa,og⟩:=o;simp only at hop;subst hop
     simp[Go.BigFrame.execOp_builtin,Go.BigFrame.builtin_copy,q1]
    cases k
   cases k
  cases k
 .
  rename_i x1 t m hop hargs
  refine⟨λc e=>(by rw[hop]at e;cases e),λB g a w hs hb=>?_⟩
  rw[hop]at hargs;simp only[av,X9,Yw,Yy,and_true]at hargs;subst hargs;unfold QX at k
  split at k
  .
   rename_i kt kv hmt jV
   rw[jY,XU]at k;subst k;have key : ∃b es aV,a.eval x1 = .map (some b)/\w.heap[b]? = some (.map es aV)/\kv.length=(ik es).length:=by
    have hr:=dH hs x1;have hm:=hs.mem;rw[hh]at hm;generalize s.ev x1=d at hr jV
    cases d with
    | mp r =>
     simp only[qj]at jV
     cases hb':htab h r with
     | none=>rw[hb']at jV;cases jV
     | some bl =>
      rw[hb']at jV;obtain⟨b,es,aV,q1,q2,q3,_⟩:=zT hm hr hb' jV;exact⟨b,es,aV,q1,q2,q3.1⟩
    | fmap kv' =>
     simp only[qj,XU]at jV;subst jV;obtain⟨b,es,aV,q1,q2,q3⟩:=O5 hr;exact⟨b,es,aV,q1,q2,q3.1⟩
    | _=>cases jV
   obtain⟨b',es,aV,q1,q2,q3⟩:=key;have hl:kv.length / 2=es.size:=by
    rw[q3];have h2 : ∀l:List MapEntry,(l.flatMap λe=>[e.key,e.val]).length=2*l.length:=by
     intro l
     induction l with
     | nil=>rfl
     | cons e l ih=>rw[yB];simp only[YA,ih];omega
    have h3:(ik es).length=2*es.size:=(h2 es.toList).trans (by rw[Array.length_toList])
    rw[h3];exact Nat.mul_div_cancel_left _ (by decide)
   obtain⟨kt1,kt2⟩:=kt;refine⟨_,_,⟨_,.head _,rfl,rfl⟩,.int .i64 es.size,g,w,.inl ?_,by rw[hl];exact .v _,hh▸hs.mem,aB.refl _ _,λq hq=>.inl hq⟩
   obtain⟨od,oo,nu,op,oa,og⟩:=o;simp only at hop;subst hop
   simp[Go.BigFrame.execOp_builtin,Go.BigFrame.builtin_len,Builtin.len_,run_underlying (BJ hmt),q1,MapKept.run_getObj_map q2,goInt]
  cases k
 .
  rename_i t x1 t' x c hop hargs
  refine⟨λc e=>(by rw[hop]at e;cases e),λB g a w hs hb=>?_⟩
  rw[hop]at hargs;simp only[av,X9,Yw,Yy,and_true]at hargs;obtain⟨h1,_⟩:=hargs;unfold QW at k
  split at k
  .
   rename_i e f rows he
   have ht:=nS he;have hr:=dH hs x1;rw[h1]at hr;have key : ∃(ad:Option Addr)(n c:Nat),a.eval x1 = .slice ad n c/\(ad=none->rows=[]):=by
    generalize a.eval x1=v at hr
    cases hr with
    | empty _ ad cap hf hm=>exact⟨ad,0,cap,rfl,λ_=>rfl⟩
    | list _ _ ad cap size cv hI hl hf=>exact⟨some ad,_,cap,rfl,λh=>by cases h⟩
   obtain⟨ad,n,c,hv,hn⟩:=key;have hrun:(execOp a.eval o).run P w = .ok (.value (.bool ad.isNone)) w:=by
    have hrun:=Go.Lib.run_eql_slice_nil (P:=P) w t e ad n c 0 0 ht;have hc:a.eval (.const (.slice none 0 0)) = .slice none 0 0:=rfl
    simp[execOp,hop,hv,hc,eqGuard,hrun]
   have hmem : ∃r∈outs,r=((.b ad.isNone:D),h):=by
    split at k
    .
     simp only[XU]at k;subst k
     cases ad with
     | none=>exact⟨_,.head _,rfl⟩
     | some p=>exact⟨_,.tail _ (.head _),rfl⟩
    rename_i hne
    simp only[XU]at k;subst k
    cases ad with
    | none=>exact absurd (hn rfl) hne
    | some p=>exact⟨_,.head _,rfl⟩
   obtain⟨r,hr1,hr2⟩:=hmem;refine⟨_,_,⟨r,hr1,rfl,rfl⟩,.bool ad.isNone,g,w,.inl hrun,by rw[hr2];exact .v _,by rw[hr2];exact hh▸hs.mem,aB.refl _ _,λq hq=>.inl hq⟩
  cases k
 cases k
end
section
def iP(h:H):Nat->D->D
 | 0,d=>d
 | k+1,d=>match d with
  | .mrow r off len=>.list false ((aj (.mrow r off len) h).map λrow=>row.map (iP h k))
  | .agg cs=>.agg (cs.map (iP h k))
  | .tuple cs=>.tuple (cs.map (iP h k))
  | .iface t d=>.iface t (iP h k d)
  | .mptr r i off=>.eptr ((eD (.mptr r i off) h).map (iP h k))
  | .fn f a b=>.fn f (a.map (iP h k)) (b.map (iP h k))
  | .mp r=>(match(h r).bind iF with
   | some kv=>.fmap (kv.map (iP h k))
   | none=>.mp r)
  | d=>d
def kw(h:H):Nat->D->Prop
 | 0,d=>d.nr=true
 | k+1,d=>match d with
  | .mrow r off len=>jD h (.mrow r off len) /\ ∀row∈aj (.mrow r off len) h,∀c∈row,kw h k c
  | .agg cs=>∀c∈cs,kw h k c
  | .tuple cs=>∀c∈cs,kw h k c
  | .iface _ d=>kw h k d
  | .mptr r i off=>(h r).isSome=true /\ ∀c∈eD (.mptr r i off) h,kw h k c
  | .fn _ a b=>(∀c∈a,kw h k c) /\ ∀c∈b,kw h k c
  | .mp r=>(match(h r).bind iF with
   | some kv=>∀c∈kv,kw h k c
   | none=>False)
  | d=>d.nr=true
instance decSnapM{h:H}:∀(k:Nat)(d:D),Decidable (kw h k d)
 | 0,d=>inferInstanceAs (Decidable (d.nr=true))
 | k+1,d=>by
  have:=decSnapM (h:=h) k;unfold kw
  split<;>first|infer_instance|(split<;>infer_instance)
theorem V7 [aa P]{h:H}{g:Mem}{w:World}(hm:HM P h g w):∀(k:Nat)(d:D)(v:Value),ag w (ll g) d v->kw h k d->ag w (IX g) (iP h k d) v/\(iP h k d).nr=true:=by
 intro k
 induction k with
 | zero=>exact λd v hr ho=>⟨hr.clean ho λb hb=>hb,ho⟩
 | succ k ih =>
  intro d v hr ho
  cases d with
  | mrow r off len =>
   obtain⟨o1,o2⟩:=ho;have hd:=Kh hm hr o1;simp only[deref]at hd;simp only[iP];generalize aj (.mrow r off len) h=rows at hd o2 ⊢;refine⟨?_,?_⟩
   .
    cases hd with
    | empty _ a cap hf hmx=>exact .empty false a cap hf hmx
    | list _ _ ad cap size cv hI hl hf hmx hs hc hrr =>
     have e:rows.length=(rows.map λrow=>row.map (iP h k)).length:=by simp
     rw[e];refine .list false _ ad cap size cv hI (by simpa using hl) (λh=>by cases h) hmx (λrow hrow=>?_) (λi j row d h1 h2=>?_) (λi j row d h1 h2=>?_)
     .
      simp only[Yi]at hrow;obtain⟨row',h1,rfl⟩:=hrow
      simpa using hs row' h1
     .
      rw[Ym]at h1
      cases fI:rows[i]? with
      | none=>rw[fI]at h1;cases h1
      | some row' =>
       rw[fI]at h1;simp at h1;subst h1;rw[Ym]at h2
       cases mo:row'[j]? with
       | none=>rw[mo]at h2;cases h2
       | some d'=>exact hc i j row' d' fI mo
     rw[Ym]at h1
     cases fI:rows[i]? with
     | none=>rw[fI]at h1;cases h1
     | some row' =>
      rw[fI]at h1;simp at h1;subst h1;rw[Ym]at h2
      cases mo:row'[j]? with
      | none=>rw[mo]at h2;cases h2
      | some d' =>
       rw[mo]at h2;simp at h2;subst h2;exact(ih d' _ (hrr i j row' d' fI mo) (o2 row' (X7 fI) d' (X7 mo))).1
   refine Ep λrow hrow=>nC λd hd'=>?_
   simp only[Yi]at hrow;obtain⟨row',h1,rfl⟩:=hrow;simp only[Yi]at hd';obtain⟨d',h2,rfl⟩:=hd'
   cases hd with
   | empty=>cases h1
   | list _ _ ad cap size cv hI hl hf hmx hs hc hrr =>
    obtain⟨i,hi⟩:=YG h1;obtain⟨j,hj⟩:=YG h2;exact(ih d' _ (hrr i j row' d' hi hj) (o2 row' h1 d' h2)).2
  | agg cs =>
   obtain⟨vs,rfl,hv⟩:=hr.agg_inv;simp only[iP];refine⟨.mk_agg ⟨by simpa using hv.1,λi d x h1 h2=>?_⟩,nC λd hd=>?_⟩
   .
    rw[Ym]at h1
    cases hci:cs[i]? with
    | none=>rw[hci]at h1;cases h1
    | some c =>
     rw[hci]at h1;simp at h1;subst h1;exact(ih c x (hv.2 i c x hci h2) (ho c (X7 hci))).1
   simp only[Yi]at hd;obtain⟨c,h1,rfl⟩:=hd;obtain⟨i,hi⟩:=YG h1;have hlt:i<vs.toList.length:=by rw[<-hv.1];exact(X0.1 hi).1
   exact(ih c _ (hv.2 i c _ hi (X6 hlt)) (ho c h1)).2
  | tuple cs =>
   obtain⟨vs,rfl,hv⟩:=hr.tuple_inv;simp only[iP];refine⟨.mk_tuple ⟨by simpa using hv.1,λi d x h1 h2=>?_⟩,nC λd hd=>?_⟩
   .
    rw[Ym]at h1
    cases hci:cs[i]? with
    | none=>rw[hci]at h1;cases h1
    | some c =>
     rw[hci]at h1;simp at h1;subst h1;exact(ih c x (hv.2 i c x hci h2) (ho c (X7 hci))).1
   simp only[Yi]at hd;obtain⟨c,h1,rfl⟩:=hd;obtain⟨i,hi⟩:=YG h1;have hlt:i<vs.toList.length:=by rw[<-hv.1];exact(X0.1 hi).1
   exact(ih c _ (hv.2 i c _ hi (X6 hlt)) (ho c h1)).2
  | iface t d =>
   cases hr with
   | iface _ _ x h1 =>
    obtain⟨q1,q2⟩:=ih d x h1 ho;exact⟨.iface t _ x q1,q2⟩
  | mptr r i off =>
   obtain⟨o1,o2⟩:=ho;obtain⟨bl,hbl⟩:=Yq.1 o1;simp only[iP];have ecs:eD (.mptr r i off) h=(bl.rows.getD i []).drop off:=by simp only[eD,hbl]
   rw[ecs]at o2 ⊢
   cases hr with|mptr _ _ _ x hx hU hv =>
   obtain⟨blk,c,h1,h2,h3,h4,h5⟩:=hm.blk r bl hbl;obtain⟨hcm,b,rfl,rfl⟩:=hv _ _ _ h1
   rcases h5 with⟨h5,_⟩|⟨b',cur,h5,k1,k2,k3,k4⟩
   . cases h5
   cases h5
   have key : ∀j d,((bl.rows.getD i []).drop off)[j]? = some d -> ∃u,cur[i*P.cellsOf bl.ty+off+j]? = some u/\ag w g d u:=by
    intro j d hd;rw[YO]at hd
    cases fI:bl.rows[i]? with
    | none=>rw[List.getD,fI]at hd;simp at hd
    | some row =>
     rw[List.getD,fI,YD]at hd;obtain⟨u,p1,_,p3⟩:=(k4 i row fI).2 (off+j) d hd;exact⟨u,by rw[Nat.add_assoc];exact p1,p3⟩
   refine⟨.eptr _ _ (λj=>cur.getD (i*P.cellsOf bl.ty+off+j) undef) (.inr ⟨r,_,_,h1⟩) (λj d hd=>?_) (λj d hd=>?_),nC λd hd=>?_⟩
   .
    obtain⟨d',e1,rfl⟩:=fA hd;obtain⟨u,p1,p2⟩:=key j d' e1;rw[kT,cell_of_row w b _ cur bl.ty (0,0) (k1.cells hcm),p1]
    simp[Y4,p1]
   .
    obtain⟨d',e1,rfl⟩:=fA hd;obtain⟨u,p1,p2⟩:=key j d' e1;have e2:cur.getD (i*P.cellsOf bl.ty+off+j) undef=u:=by simp[Y4,p1]
    rw[e2];exact(ih d' u (nz p2) (o2 d' (X7 e1))).1
   obtain⟨d',e1,rfl⟩:=Yi.1 hd;obtain⟨j,hj⟩:=YG e1;obtain⟨u,p1,p2⟩:=key j d' hj;exact(ih d' u (nz p2) (o2 d' e1)).2
  | mp r =>
   cases hb:h r with
   | none=>simp[kw,hb]at ho
   | some bl =>
    cases hk:iF bl with
    | none=>simp[kw,hb,hk]at ho
    | some kv =>
     have ho' : ∀c∈kv,kw h k c:=by simpa[kw,hb,hk]using ho
     have hr':ag w g (.mp r) v:=by cases hr with|mp _ _ hx hU hv=>exact .mp r _ hx hU hv
     obtain⟨b,es,aV,rfl,h1,h2,h3,h4,_⟩:=zT hm hr' hb hk;have hs:iP h (k+1) (.mp r) = .fmap (kv.map (iP h k)):=by simp[iP,hb,hk]
     rw[hs];refine⟨.fmap _ b es aV (.inr ⟨r,_,_,h3⟩) h1 (by simpa using h2.1) λi d x e1 e2=>?_,nC λd hd=>?_⟩
     . obtain⟨d',e3,rfl⟩:=fA e1;exact(ih d' x (nz (h2.2 i d' x e3 e2)) (ho' d' (X7 e3))).1
     obtain⟨d',e1,rfl⟩:=Yi.1 hd;obtain⟨j,hj⟩:=YG e1;have hlt:j<(ik es).length:=by rw[<-h2.1];exact(X0.1 hj).1
     exact(ih d' _ (nz (h2.2 j d' _ hj (X6 hlt))) (ho' d' e1)).2
  | fn f a b =>
   cases hr with
   | fn _ _ _ fs cs hf hc h1 h2 =>
    simp only[iP];refine⟨.fn f _ _ fs cs (by simpa using hf) (by simpa using hc) (λi d x e1 e2=>?_) (λi d x e1 e2=>?_),?_⟩
    . obtain⟨d',e3,rfl⟩:=fA e1;exact(ih d' x (h1 i d' x e3 e2) (ho.1 d' (X7 e3))).1
    . obtain⟨d',e3,rfl⟩:=fA e1;exact(ih d' x (h2 i d' x e3 e2) (ho.2 d' (X7 e3))).1
    simp only[D.nr,XT];refine⟨nC λd hd=>?_,nC λd hd=>?_⟩
    .
     obtain⟨d',e1,rfl⟩:=Yi.1 hd;obtain⟨i,hi⟩:=YG e1;have hlt:i<fs.size:=by rw[<-hf];exact(X0.1 hi).1
     exact(ih d' _ (h1 i d' _ hi (Zg hlt)) (ho.1 d' e1)).2
    obtain⟨d',e1,rfl⟩:=Yi.1 hd;obtain⟨i,hi⟩:=YG e1;have hlt:i<cs.size:=by rw[<-hc];exact(X0.1 hi).1
    exact(ih d' _ (h2 i d' _ hi (Zg hlt)) (ho.2 d' e1)).2
  | _=>exact⟨hr.clean ho λb hb=>hb,ho⟩
def ZaF [aa P]{f:FuncId}{fn:Func}{c:Code}{args:List D}{res:D}(hf:P.funcs[f]? = some fn)(hb:fn.body=some c)(hbd:jy P f=true)(hnr:args.all D.nr=true)(hn:args.length<=fn.ntmps)
  (h:DW P none c (λe s=>(e = .normal\/e = .ret)/\sJ P s fn.results.toList /\ ∃k,kw s.h k (ng P fn.results.toList s)/\wk (iP s.h k (ng P fn.results.toList s))=res) (S.init fn.ntmps args)):PureCt P f args res:=by
 refine⟨hbd,hnr,λw I vs hI hgr hr=>?_⟩
 have hm:HM P (λ_=>none) (gq I) w:=by
  refine⟨λ_ _=>rfl,?_,?_,?_,hI,hgr⟩
  . intro r bl h;cases h
  . intro r r' b c c' s s' h;cases h
  intro r h;exact absurd rfl h
 have hs:St P (bS.of w.heap.size) (S.init fn.ntmps args) (gq I) { tmps:=vs.toArray++Array.replicate (fn.ntmps-vs.toArray.size) undef,defers:=[] } w:=EM hr hn hm
 refine callsIn_of_wp_marks (n:=0) hf hb trivial (wpIn_mono (F:=Fence.wide) (h (bS.of w.heap.size) (gq I) _ w hs (λr h=>False.elim h)) ?_)
 rintro e a' w' ⟨s',g',⟨he,ho,k,hk,hres⟩,hs',hm',_⟩
 have hm':=hm'.out
 have hlast:LeavesInM Fence.wide 0 P fn a'.tmps (λe w'=>∃v,e = .returned v/\xI w w'/\ag w' (gq λb=>I b\/(w.heap.size<=b/\b<w'.heap.size)) res v) a'.defers .returning w':=by
  refine EG (P:=P) a'.defers w' hs'.df.marks λw2 e0 e1 e2 e3 e4 e5 e6 e7=>?_
  have hs2:=hs'.marks e4 e6 e7;obtain⟨v,h1,h2⟩:=Hw (fn:=fn) hs2 ho;refine⟨v,h1,v,rfl,⟨by rw[e1,hm'.os],by rw[e2,hm'.tape],by rw[e3,hm'.output],by rw[e4];exact hm'.size,by rw[e0];exact hm'.drawn,λb hb=>?_⟩,?_⟩
  . rw[e5 b hb,hm'.same b hb (λr c s h=>by cases h)]
  obtain⟨q1,q2⟩:=V7 hs2.mem k _ v (nz h2) hk;have q1:=q1.wk;have q2:=Di _ q2;rw[hres]at q1 q2;refine q1.clean q2 λb hb=>?_
  rcases hb with hb|⟨r,c,s,hb⟩
  .
   rcases hm'.inew b hb with h|h|⟨r,c,s,h⟩
   . exact .inl h
   . exact .inr ⟨h,hs2.mem.imm b hb⟩
   cases h
  rcases hm'.new r b c s hb with⟨r',c',s',h⟩|h
  . cases h
  exact .inr ⟨h,(lT hs2.mem hb).1⟩
 rcases he with rfl|rfl<;>exact hlast
end
def eqV:Value->Value->Bool
 | .int k a,.int k' b=>decide (k=k')&&decide (a=b)
 | .bool a,.bool b=>decide (a=b)
 | .string ⟨⟨a⟩⟩,.string ⟨⟨b⟩⟩=>decide (a=b)
 | .pointer none,.pointer none=>true
 | _,_=>false
theorem Zdx{a b:Value}(h:eqV a b=true):a=b:=by
 unfold eqV at h
 split at h
 . simp only[XT,XV]at h;rw[h.1,h.2]
 . rw[Y3 h]
 . rw[Y3 h]
 . rfl
 cases h
mutual
def pu:D->D->Bool
 | .v a,.v b=>eqV a b
 | .agg a,.agg b=>qy a b
 | .list f a,.list g b=>decide (f=g)&&Cy a b
 | .eptr a,.eptr b=>qy a b
 | .tuple a,.tuple b=>qy a b
 | .fmap a,.fmap b=>qy a b
 | .fn (.func f) a b,.fn (.func g) c d=>decide (f=g)&&qy a c&&qy b d
 | _,_=>false
def qy:List D->List D->Bool
 | [],[]=>true
 | a::l,b::m=>pu a b&&qy l m
 | _,_=>false
def Cy:List (List D)->List (List D)->Bool
 | [],[]=>true
 | a::l,b::m=>qy a b&&Cy l m
 | _,_=>false
end
mutual
theorem tN : ∀{a b:D},pu a b=true->a=b
 | .v a,.v b,h=>by rw[Zdx h]
 | .agg a,.agg b,h=>by rw[tL h]
 | .list f a,.list g b,h=>by
  simp only[pu,XT,XV]at h;rw[h.1,J7 h.2]
 | .eptr a,.eptr b,h=>by rw[tL h]
 | .tuple a,.tuple b,h=>by rw[tL h]
 | .fmap a,.fmap b,h=>by rw[tL h]
 | .fn (.func f) a b,.fn (.func g) c d,h=>by
  simp only[pu,XT,XV]at h;rw[h.1.1,tL h.1.2,tL h.2]
theorem tL : ∀{a b:List D},qy a b=true->a=b
 | [],[],_=>rfl
 | a::l,b::m,h=>by
  simp only[qy,XT]at h;rw[tN h.1,tL h.2]
theorem J7 : ∀{a b:List (List D)},Cy a b=true->a=b
 | [],[],_=>rfl
 | a::l,b::m,h=>by
  simp only[Cy,XT]at h;rw[tL h.1,J7 h.2]
end
mutual
def kL{α:Type}:D->(D->α)->α
 | .v x,k=>Fq x λx=>k (.v x)
 | .agg cs,k=>ve cs λcs=>k (.agg cs)
 | .tuple cs,k=>ve cs λcs=>k (.tuple cs)
 | .eptr cs,k=>ve cs λcs=>k (.eptr cs)
 | .fmap cs,k=>ve cs λcs=>k (.fmap cs)
 | .list f rows,k=>jZ f λf=>CG rows λrows=>k (.list f rows)
 | .mrow r o l,k=>k (.mrow r o l)
 | .mptr r o l,k=>k (.mptr r o l)
 | .fn f a b,k=>k (.fn f a b)
 | .iface t d,k=>k (.iface t d)
 | .mp r,k=>k (.mp r)
 | .cond g d,k=>k (.cond g d)
 | .junk,k=>k .junk
def ve{α:Type}:List D->(List D->α)->α
 | [],k=>k []
 | x::l,k=>kL x λx=>ve l λl=>k (x::l)
def CG{α:Type}:List (List D)->(List (List D)->α)->α
 | [],k=>k []
 | x::l,k=>ve x λx=>CG l λl=>k (x::l)
end
mutual
theorem Kj{α:Type}:∀(d:D)(k:D->α),kL d k=k d
 | .v x,k=>by simp only[kL,QB]
 | .agg cs,k=>by simp only[kL,Av cs]
 | .tuple cs,k=>by simp only[kL,Av cs]
 | .eptr cs,k=>by simp only[kL,Av cs]
 | .fmap cs,k=>by simp only[kL,Av cs]
 | .list f rows,k=>by simp only[kL,rU,Sd rows]
 | .mrow r o l,k=>by simp only[kL]
 | .mptr r o l,k=>by simp only[kL]
 | .fn f a b,k=>by simp only[kL]
 | .iface t d,k=>by simp only[kL]
 | .mp r,k=>by simp only[kL]
 | .cond g d,k=>by simp only[kL]
 | .junk,k=>by simp only[kL]
theorem Av{α:Type}:∀(l:List D)(k:List D->α),ve l k=k l
 | [],k=>by simp only[ve]
 | x::l,k=>by simp only[ve,Kj x,Av l]
theorem Sd{α:Type}:∀(l:List (List D))(k:List (List D)->α),CG l k=k l
 | [],k=>by simp only[CG]
 | x::l,k=>by simp only[CG,Av x,Sd l]
end
def iW{α β:Type}(f:α->Option (List β)):List α->Option (List β)
 | []=>some []
 | a::az=>match f a with
  | none=>none
  | some x=>match az with
   | []=>some x
   | _::_=>match iW f az with
    | none=>none
    | some y=>some (x++y)
theorem mJ{α β:Type}{f:α->Option (List β)}:∀{l:List α}{outs:List β},iW f l=some outs -> ∀a∈l,∃o1,f a=some o1 /\ ∀o∈o1,o∈outs
 | [],_,_,_,ha=>by cases ha
 | a::az,outs,h,c,hc=>by
  unfold iW at h
  split at h
  . cases h
  rename_i x hx
  cases az with
  | nil =>
   simp only[XU]at h;subst h
   rcases Yz.1 hc with rfl|hc
   . exact⟨x,hx,λ_ h=>h⟩
   cases hc
  | cons b az =>
   simp only at h
   split at h
   . cases h
   rename_i y hy
   simp only[XU]at h;subst h
   rcases Yz.1 hc with rfl|hc
   . exact⟨x,hx,λo ho=>Yo.2 (.inl ho)⟩
   obtain⟨o1,h1,h2⟩:=mJ hy c hc;exact⟨o1,h1,λo ho=>Yo.2 (.inr (h2 o ho))⟩
theorem pI{α β:Type}{f:α->Option (List β)}:∀{l:List α}{outs:List β},iW f l=some outs -> ∀o∈outs,∃a∈l,∃o1,f a=some o1/\o∈o1
 | [],_,h,o,ho=>by
  simp only[iW,XU]at h;subst h;cases ho
 | a::az,outs,h,o,ho=>by
  unfold iW at h
  split at h
  . cases h
  rename_i x hx
  cases az with
  | nil =>
   simp only[XU]at h;subst h;exact⟨a,by simp,x,hx,ho⟩
  | cons b az =>
   simp only at h
   split at h
   . cases h
   rename_i y hy
   simp only[XU]at h;subst h
   rcases Yo.1 ho with ho|ho
   . exact⟨a,by simp,x,hx,ho⟩
   obtain⟨c,h1,o1,h2,h3⟩:=pI hy o ho;exact⟨c,List.mem_cons_of_mem _ h1,o1,h2,h3⟩
abbrev vK:=FuncId->List D->List (Nat×ax)->Nat->Option (List (D×List (Nat×ax)×Nat))
abbrev YF:=List D->List (Nat×ax)->Nat->Option (List (Bool×Option Code×List (Nat×ax)×Nat))
inductive Yc where
 | top
 | round
 | iter (y:YF)
structure Rn where
 code:Yc->Code->X->Option (List (Exit×X))
 call:vK
 pure:FuncId->List D->Option D
structure Ev where
 T:gU
 nf:FuncId->Bool
 ext:vK
 dk:Nat->Nat->Option (Nat×Nat)
def lW(T:gU)(pure:FuncId->List D->Option D):gU:=⟨λ_=>true,λf az=>match T.pf f az with
 | some d=>some d
 | none=>pure f az⟩
noncomputable def Gc(o:Oper)(t:Tr):Option (FuncId×List D):=match o.op with
 | .call { callee:=.value f,args,.. }=>match bu t f with
  | .fn (.func k) first aP=>if(args.toList.map (bu t)).all sg=true/\(args.toList.map (bu t)).any dC=false then some (k,first++(args.toList.map (bu t)).map sd++aP)else none
  | _=>none
 | _=>none
def Ty{o:Oper}{t:Tr}{k:FuncId}{az:List D}(h:Gc o t=some (k,az)):∃f args ts first aP,o.op = .call { callee:=.value f,args:=args,argTypes:=ts }/\bu t f = .fn (.func k) first aP/\(args.toList.map (bu t)).all sg=true/\(args.toList.map (bu t)).any dC=false/\az=first++(args.toList.map (bu t)).map sd++aP:=by
 unfold Gc at h
 split at h
 .
  rename_i f args ts e
  split at h
  .
   rename_i k' first aP e1
   split at h
   .
    rename_i e2
    simp only[XU,Yu]at h;obtain⟨rfl,rfl⟩:=h;exact⟨f,args,ts,first,aP,e,e1,e2.1,e2.2,rfl⟩
   cases h
  cases h
 cases h
def isTmp:Operand->Bool
 | .tmp _=>true
 | _=>false
noncomputable def Gw(o:Oper)(t:Tr):Option (List D):=match o.op with
 | .call { callee:=.value f,args,.. }=>if uH (bu t f)=true/\isTmp f=true/\(args.toList.map (bu t)).all sg=true/\(args.toList.map (bu t)).any dC=false then some ((args.toList.map (bu t)).map sd)else none
 | _=>none
theorem Uu{o:Oper}{t:Tr}{xs:List D}(h:Gw o t=some xs):∃i args ts,o.op = .call { callee:=.value (.tmp i),args:=args,argTypes:=ts }/\dA t (bP i)=tok/\(args.toList.map (bu t)).all sg=true/\(args.toList.map (bu t)).any dC=false/\xs=(args.toList.map (bu t)).map sd:=by
 unfold Gw at h
 split at h
 .
  rename_i f args ts e
  split at h
  .
   rename_i q
   obtain⟨q1,q2,q3,q4⟩:=q;simp only[XU]at h;subst h
   cases f with
   | tmp i=>exact⟨i,args,ts,e,Jg q1,q3,q4,rfl⟩
   | _=>cases q2
  cases h
 cases h
noncomputable def Bb(P:Program)[aa P](V:Ev)(call:vK)(yf:Yc)(L:List Oper)(sz:Nat)(o:Oper)(next:Nat->Nat->X->Option (List X))(i b:Nat)(x:X):Option (List X):=match Jw L o x.t with
 | none=>none
 | some false=>(match x.finF o.dst (.cond false (.b false)) x.h with
   | some x'=>next (i+1) b x'
   | none=>none)
 | some true=>match x.run2 P b i o with
  | some x'=>next (i+1) b x'
  | none=>match x.run1 P V.T true false b i o with
   | some x'=>next (i+1) b x'
   | none=>match x.run1 P V.T false false b i o with
    | some x'=>next (i+1) b x'
    | none=>if cu x.n o.dst=true then(match Gc o x.t with
     | some (k,az)=>(match call k az x.h (b+i)with
      | none=>none
      | some outs=>iW (λr=>match(X.mk x.n x.t x.h (r.2.2+sz) x.j).finK o.dst r.1 r.2.1 with
       | some x'=>next (i+1) r.2.2 x'
       | none=>none) outs)
     | none=>if((av o.op).map (bu x.t)).any dC=false then(match Fz P o ((av o.op).map (bu x.t)) x.h (b+i)with
      | none=>none
      | some outs=>iW (λr=>match x.finK o.dst r.1 r.2 with
       | some x'=>next (i+1) b x'
       | none=>none) outs)
      else(match yf,Gw o x.t,x.j with
      | .iter y,some xs,none=>(match y xs x.h (b+i)with
       | none=>none
       | some outs=>iW (λr=>match(X.mk x.n x.t x.h (r.2.2.2+sz) r.2.1).finK o.dst (.b r.1) r.2.2.1 with
        | some x'=>next (i+1) r.2.2.2 x'
        | none=>none) outs)
      | _,_,_=>none))else none
noncomputable def rf(P:Program)[aa P](V:Ev)(call:vK)(yf:Yc)(L:List Oper)(sz:Nat)(os:List Oper):Nat->Nat->X->Option (List X) :=
 @List.rec Oper (λ_=>Nat->Nat->X->Option (List X)) (λ_ _ x=>some [x]) (λo _ ih=>Bb P V call yf L sz o ih) os
noncomputable def X.runG(P:Program)[aa P](T:gU)(cf bs g:Bool)(b i:Nat)(o:Oper)(x:X):Option X :=
 rT ((av o.op).map (bu x.t)) λaz =>
  if az.any dC=false/\BR (T.con cf bs) o.op=false/\(g=true->(au P T.words (T.con cf bs) g o.op az (htab x.h) (b+i)).2.2)then
   x.finK o.dst (.cond g (au P T.words (T.con cf bs) g o.op az (htab x.h) (b+i)).1) x.h
  else none
noncomputable def Cq(L:List Oper)(t:Tr)(j:Nat):D:=((L[j]?).bind (·.dst)).elim .junk λi=>dA t (bP i)
noncomputable def Eh(P:Program)[aa P](T:gU)(cf bs:Bool)(L:List Oper)(b i:Nat)(o:Oper)(x:X):Option X:=match o.guard with
 | some (j,want)=>if jW (Cq L x.t j)=true then x.runG P T cf bs (gz (Cq L x.t j) want) b i o else none
 | none=>x.run1 P T cf bs b i o
noncomputable def uB(P:Program)[aa P](T:gU)(cf bs:Bool)(L:List Oper)(b:Nat):List Oper->Nat->X->Option X
 | [],_,x=>some x
 | o::os,i,x=>match Eh P T cf bs L b i o x with
   | some x'=>uB P T cf bs L b os (i+1) x'
   | none=>none
def FM(P:Program)[aa P](T:gU)(cf:Bool)(L:List Oper):Bool:=P.follows .mixedOrders&&xm (T.con cf) L&&nW L
def isN:D->Bool
 | .mrow .. | .mptr .. | .mp _ | .fn .. | .iface .. => true
 | _=>false
def yu:Nat->D->List Nat
 | _,.mrow r _ _|_,.mptr r _ _|_,.mp r=>[r]
 | k+1,.agg cs|k+1,.tuple cs|k+1,.eptr cs=>cs.flatMap (yu k)
 | k+1,.fn _ a b=>a.flatMap (yu k)++b.flatMap (yu k)
 | k+1,.iface _ d=>yu k d
 | k+1,.list _ rows=>match rows with
  | row::_=>if row.any isN=true then rows.flatMap λr=>r.flatMap (yu k)else[]
  | []=>[]
 | _,_=>[]
def nmB(bl:ax):List Nat:=bl.rows.flatMap λr=>r.flatMap (yu 6)
def reach(h:H):Nat->List Nat->List Nat->List Nat
 | 0,_,seen=>seen
 | _,[],seen=>seen
 | k+1,r::todo,seen=>if seen.contains r=true then reach h k todo seen else match h r with
  | none=>reach h k todo seen
  | some bl=>reach h k (nmB bl++todo) (r::seen)
def hkeep(h:H)(l:List Nat):List (Nat×ax):=l.filterMap λr=>(h r).map λbl=>(r,bl)
theorem Qc{h:H}:∀(l:List Nat)(r:Nat),htab (hkeep h l) r=h r\/htab (hkeep h l) r=none
 | [],_=>.inr rfl
 | q::l,r=>by
  have ih:=Qc (h:=h) l r;unfold hkeep at ih ⊢;rw[List.filterMap_cons]
  cases hq:h q with
  | none=>exact ih
  | some bl =>
   simp only[YP,htab]
   by_cases e:r=q
   . subst e;left;rw[bK,hq]
   rw[aL _ _ _ _ e];exact ih
def DZ(n m:Nat)(d:D)(h:List (Nat×ax)):List (Nat×ax) :=
 if h.length<=2*m+40 then h else hkeep (htab h) (reach (htab h) 5000 (yu 6 d++(h.filter λp=>decide (p.1<n)).map (·.1)) [])
def ZaG{n m:Nat}{d:D}{h:List (Nat×ax)}(r:Nat):htab (DZ n m d h) r=htab h r\/htab (DZ n m d h) r=none:=by
 unfold DZ
 split
 . exact .inl rfl
 exact Qc _ r
noncomputable def Bu(P:Program)[aa P](T:gU)(L:List Oper)(b:Nat):List Nat->X->Option X
 | [],x=>some x
 | i::is,x=>match L[i]? with
  | none=>none
  | some o=>match Eh P T true true L b i o x with
   | some x'=>Bu P T L b is x'
   | none=>none
def flc(C:aK)(L:List Oper)(k1 k2:Nat):List (Nat×Nat):=(List.range k2).flatMap λi=>if i==k1||((dX L []).getD k1 0).testBit i||bA C (L.getD i default).op == .none then[]else match(L.getD i default).op with
 | .load _ (.tmp t)=>[(i,t)]
 | .indexAddr _ (.tmp t) (.tmp u)=>[(i,t),(i,u)]
 | _=>[]
def KR(a b:Option ax):Bool:=match a,b with
 | some ⟨t,r⟩,some ⟨t',r'⟩=>Nat.beq t t'&&Cy r r'
 | none,none=>true
 | _,_=>false
def BP(h' h:List (Nat×ax))(d:D):Bool:=match sd d with
 | .mrow r _ _ | .mptr r _ _ | .mp r=>KR (htab h' r) (htab h r)
 | _=>true
section
variable (P : Program) [aa P] (V : Ev) (R : Rn)
noncomputable def NW(o:Oper)(x:X)(b:Nat):Option (List (D×List (Nat×ax)×Nat)):=match Gc o x.t with
 | some (k,az)=>R.call k az x.h b
 | none=>if((av o.op).map (bu x.t)).any dC=false then(match Fz P o ((av o.op).map (bu x.t)) x.h b with
  | none=>none
  | some outs=>some (outs.map λr=>(r.1,r.2,b+1)))else none
noncomputable def drX(ops:Array Oper)(k1 k2:Nat)(x:X):Option (List (Exit×X)) :=
 if P.follows .mixedOrders=true/\CJ ((lW V.T R.pure).con true true) ops.toList k1 k2=true/\JV ((lW V.T R.pure).con true true) ops.toList k1 k2 (flc ((lW V.T R.pure).con true true) ops.toList k1 k2)=true then
  match ops.toList[k1]?,Bu P (lW V.T R.pure) ops.toList x.nx ((List.range k2).filter (· != k1)) x with
  | some o,some xq=>if o.guard.isNone=true/\cu xq.n o.dst=true then(match NW P R o xq (x.nx+k2)with
   | none=>none
   | some outs=>match iW (λr=>if(flc ((lW V.T R.pure).con true true) ops.toList k1 k2).all (λp=>BP r.2.1 xq.h (dA xq.t (bP p.2)))=true then
     (match(X.mk xq.n xq.t xq.h (r.2.2+ops.size) xq.j).finK o.dst r.1 r.2.1 with
     | some x'=>rf P V R.call .round ops.toList ops.size (ops.toList.drop k2) k2 r.2.2 x'
     | none=>none)else none) outs with
    | none=>none
    | some outs=>some (outs.map λx=>(.normal,x)))else none
  | _,_=>none
 else none
noncomputable def FY(outs:Option (List (Exit×X)))(k:X->Option (List (Exit×X))):Option (List (Exit×X)):=match outs with
 | none=>none
 | some outs=>iW (λo=>match o.1 with | .normal=>k o.2|e=>some [(e,o.2)]) outs
noncomputable def Te(yf:Yc)(id:Nat)(ops:Array Oper)(x:X):Option (List (Exit×X)):=match V.dk x.n id with
 | some (k1,k2)=>(match yf with
  | .iter _=>none
  | _=>drX P V R ops k1 k2 x)
 | none=>if FM P (lW V.T R.pure) true ops.toList=true then(match uB P (lW V.T R.pure) true false ops.toList x.nx ops.toList 0 ⟨x.n,x.t,x.h,x.nx+ops.size,x.j⟩with
  | some x'=>some [(.normal,x')]
  | none=>if FM P (lW V.T R.pure) false ops.toList=true then(match uB P (lW V.T R.pure) false false ops.toList x.nx ops.toList 0 ⟨x.n,x.t,x.h,x.nx+ops.size,x.j⟩with
   | some x'=>some [(.normal,x')]
   | none=>none)else none)else none
noncomputable def Td(yf:Yc)(ops:Array Oper)(x:X):Option (List (Exit×X)):=match x with
 | ⟨n,t,h,nx,j⟩=>eP (nx+ops.size) λnx'=>match rf P V R.call yf ops.toList ops.size ops.toList 0 nx ⟨n,t,h,nx',j⟩with
  | none=>none
  | some outs=>some (outs.map λx=>(.normal,x))
def Dz{α:Type}:Tr->List Nat->List D->(Tr->α)->α
 | t,p::ps,d::ds,k=>tset t (bP p) d λt=>Dz t ps ds k
 | t,_,_,k=>k t
def Jd:Exit->Option (Bool×Option Code)
 | .normal=>some (true,none)
 | .ret=>some (false,some .ret)
 | .exit i=>some (false,some (.exit i))
 | _=>none
noncomputable def Bo(x:X)(ps:Array Tmp)(assign body:Code):YF:=λxs h nx =>
 if xs.length=ps.size/\xs.any dC=false/\ps.toList.all (λp=>decide (p<x.n))=true then
  Dz x.t ps.toList xs λt=>match R.code .round assign ⟨x.n,t,h,nx,none⟩with
   | none=>none
   | some o1=>iW (λo=>match o.1 with
    | .normal=>(match R.code .round body o.2 with
     | none=>none
     | some o2=>iW (λq=>match Jd q.1 with
      | some (b,j)=>some [(b,j,q.2.h,q.2.nx)]
      | none=>none) o2)
    | _=>none) o1
 else none
def zY:Exit->Bool
 | .normal | .ret=>true
 | _=>false
def FB:Option Code->Option Exit
 | none=>some .normal
 | some .ret=>some .ret
 | some (.exit i)=>some (.exit i)
 | _=>none
noncomputable def KF(gf:Operand)(ps:Array Tmp)(assign body:Code)(x:X):Option (List (Exit×X)):=match bu x.t gf with
 | .fn (.func k) first aP=>(match P.funcs[k]? with
  | none=>none
  | some fn=>match fn.body with
   | none=>none
   | some c=>if jy P k=true/\(first++[tok]++aP).length<=fn.ntmps/\fn.results.isEmpty=true/\(first++aP).any dC=false then
     xM (first++[tok]++aP) 0 .nil λt=>match R.code (.iter (Bo R x ps assign body)) c ⟨fn.ntmps,t,x.h,x.nx,none⟩with
      | none=>none
      | some outs=>iW (λo=>if zY o.1=true then(match FB o.2.j with
       | some e=>some [(e,⟨x.n,x.t,o.2.h,o.2.nx,x.j⟩)]
       | none=>none)else none) outs
    else none)
 | _=>none
noncomputable def zU(yf:Yc)(r n tr dn tq de bid b1:Nat)(eops:Array Oper)(body:Code):Nat->List Nat->X->Option (List (Exit×X))
 | 0,_,_=>none
 | m+1,seen,x=>if nL (dA x.t (bP tr))=true/\(dn<x.n/\tq<x.n/\de<x.n)/\(tr≠dn/\tr≠tq)then(match htab x.h r with
  | none=>none
  | some bl=>match iF bl with
   | none=>none
   | some kv=>if kv.length=2*n then(match(List.range n).filter (λi=>!seen.contains i)with
    | []=>tset x.t (bP dn) (.tuple [.b false]) λt=>tset t (bP tq) (.b false) λt=>some [(.normal,⟨x.n,t,x.h,x.nx,x.j⟩)]
    | c::cs=>iW (λi=>match kv[2*i]?,kv[2*i+1]? with
     | some k,some v=>if dC k=false/\dC v=false then
       tset x.t (bP dn) (.tuple [.b true,k,v]) λt=>tset t (bP tq) (.b true) λt=>tset t (bP de) (.tuple [k,v]) λt=>eP (x.nx+eops.size) λnx =>
        match uB P V.T true false eops.toList x.nx (eops.toList.drop 1) 1 ⟨x.n,t,x.h,nx,x.j⟩with
        | none=>none
        | some x2=>match R.code yf body x2 with
         | none=>none
         | some outs=>iW (λo=>match o.1 with
          | .normal=>zU yf r n tr dn tq de bid b1 eops body m (seen++[i]) o.2
          | .exit j=>if j=b1 then zU yf r n tr dn tq de bid b1 eops body m (seen++[i]) o.2 else if j=bid then some [(.normal,o.2)]else some [(.exit j,o.2)]
          | e=>some [(e,o.2)]) outs
      else none
     | _,_=>none) (c::cs))
    else none)else none
def yo:Tr->Bool
 | .nil=>true
 | .node d l r=>!nL d&&yo l&&yo r
structure MS where
 (id nid eid bid b1 tr dn tq de m0:Nat)
 (ops nops eops:Array Oper)
 body:Code
 ty:TypeId
def EC(a b:Code):Option MS:=match a,b with
 | .region id ops false,.block bid (.loop (.seq (.region nid nops false) (.seq (.cond (.tmp tq) .skip (.exit bid')) (.block b1 (.seq (.region eid eops false) body))))) =>
  (match ops.toList.getLast?,nops.toList,eops.toList with
  | some ⟨some tr,.range ty (.tmp m0),_,_,_,none⟩,[⟨some dn,.next (.tmp tr1) false,_,_,_,none⟩,⟨some tq1,.extract (.tmp dn1) 0,_,_,_,none⟩],⟨some de,.entry (.tmp tr2),_,_,_,none⟩::_ =>
   if bid'=bid/\tr1=tr/\tr2=tr/\tq1=tq/\dn1=dn then some ⟨id,nid,eid,bid,b1,tr,dn,tq,de,m0,ops,nops,eops,body,ty⟩else none
  | _,_,_=>none)
 | _,_=>none
noncomputable def KG(yf:Yc)(ms:MS)(x:X):Option (List (Exit×X)) :=
 if(lu P ms.ty).isSome=true/\ms.tr<x.n then(match uB P V.T true false ms.ops.toList x.nx ms.ops.toList.dropLast 0 ⟨x.n,x.t,x.h,x.nx+ms.ops.size,x.j⟩with
  | none=>none
  | some x1=>if yo x1.t=true then(match dA x1.t (bP ms.m0)with
   | .mp r=>(match htab x1.h r with
    | none=>none
    | some bl=>match iF bl with
     | none=>none
     | some kv=>if kv.length=2*(kv.length / 2)then
       eP (kv.length / 2) λn=>tset x1.t (bP ms.tr) Dp λt=>match zU P V R yf r n ms.tr ms.dn ms.tq ms.de ms.bid ms.b1 ms.eops ms.body (n+2) [] ⟨x1.n,t,x1.h,x1.nx,x1.j⟩with
        | none=>none
        | some outs=>iW (λo=>tset o.2.t (bP ms.tr) .junk λt=>if yo t=true then some [(o.1,(⟨o.2.n,t,o.2.h,o.2.nx,o.2.j⟩:X))]else none) outs
      else none)
   | _=>none)else none)else none
noncomputable def qN(yf:Yc)(c:Code)(x:X):Option (List (Exit×X)):=match c with
 | .skip=>some [(.normal,x)]
 | .exit id=>some [(.exit id,x)]
 | .ret=>some [(.ret,x)]
 | .seq a b=>(match EC a b with
  | some ms=>KG P V R yf ms x
  | none=>FY (R.code yf a x) (R.code yf b))
 | .cond c a b=>(match bu x.t c with
  | .v (.bool true)=>R.code yf a x
  | .v (.bool false)=>R.code yf b x
  | _=>none)
 | .block id c=>(match R.code yf c x with
  | none=>none
  | some outs=>some (outs.map λo=>match o.1 with | .exit j=>if j=id then(.normal,o.2)else(.exit j,o.2)|e=>(e,o.2)))
 | .loop c=>FY (R.code yf c x) (R.code yf (.loop c))
 | .region id ops draw=>if draw=true then Te P V R yf id ops x else Td P V R yf ops x
 | .rangeFunc gf ps assign body=>(match yf with
  | .top=>KF P R gf ps assign body x
  | _=>none)
 | _=>none
def zG(s:S):List ResultVar->Bool
 | []=>true
 | .tmp _::rs=>zG s rs
 | .cell a t::rs=>decide ((jd P t (s.t a) s.h).2)&&zG s rs
theorem DR{s:S}:∀{rs:List ResultVar},zG P s rs=true->sJ P s rs
 | [],_=>trivial
 | .tmp _::rs,h=>⟨trivial,DR h⟩
 | .cell a t::rs,h=>by
  simp only[zG,XT,XV]at h;exact⟨h.1,DR h.2⟩
noncomputable def X.S(x:X):S:={ n:=x.n,t:=λi=>dA x.t (bP i),h:=htab x.h,nx:=x.nx }
noncomputable def Oa(fn:Func)(n m:Nat)(o:Exit×X):Option (List (D×List (Nat×ax)×Nat)) :=
 if zY o.1=true/\zG P o.2.S fn.results.toList=true then
  Fs (ng P fn.results.toList o.2.S) λd=>eP o.2.nx λnx=>some [(d,DZ n m d o.2.h,nx)]
 else none
noncomputable def N7(fn:Func)(o:Exit×X):Option (List D) :=
 if zY o.1=true/\zG P o.2.S fn.results.toList=true/\kw o.2.S.h 8 (ng P fn.results.toList o.2.S)then
  kL (wk (iP o.2.S.h 8 (ng P fn.results.toList o.2.S))) λd=>some [d]else none
def allEq:List D->Option D
 | d::l=>if l.all (pu d)=true then some d else none
 | []=>none
noncomputable def GX(f:FuncId)(args:List D):Option D:=match P.funcs[f]? with
 | none=>none
 | some fn=>match fn.body with
  | none=>none
  | some c=>if V.nf f=false/\jy P f=true/\args.all D.nr=true/\args.length<=fn.ntmps then
    xM args 0 .nil λt=>match R.code .top c ⟨fn.ntmps,t,[],0,none⟩with
    | none=>none
    | some outs=>match iW (N7 P fn) outs with
     | none=>none
     | some ds=>allEq ds
   else none
noncomputable def GY:vK:=λf args h n=>match V.ext f args h n with
 | some outs=>some outs
 | none=>match R.pure f args with
  | some d=>some [(d,h,n)]
  | none=>match P.funcs[f]? with
   | none=>none
   | some fn=>match fn.body with
    | none=>none
    | some c=>if jy P f=true/\args.length<=fn.ntmps then
      xM args 0 .nil λt=>match R.code .top c ⟨fn.ntmps,t,h,n,none⟩with
      | none=>none
      | some outs=>iW (Oa P fn n h.length) outs
     else none
noncomputable def vY:Nat->Rn
 | 0=>⟨λ_ _ _=>none,λ_ _ _ _=>none,λ_ _=>none⟩
 | k+1=>⟨qN P V (vY k),GY P V (vY k),GX P V (vY k)⟩
end
section
variable [aa P] {V : Ev} {R : Rn} {ro : Option Nat} {Q : Exit -> S -> Prop} {l : Nat × Nat} {E : Option Code -> Env}
def zf(P:Program)[aa P](call:vK):Prop:=∀k az h n outs,call k az h n=some outs->dS P k az (htab h) n λd h' n'=>∃o∈outs,d=o.1/\h'=htab o.2.1/\n'=o.2.2
def AR(P:Program)[aa P](pure:FuncId->List D->Option D):Prop:=∀f az d,pure f az=some d->PureCt P f az d
structure vH(P:Program)[aa P](V:Ev):Prop where
 T:V.T.Ok P
 ext:zf P V.ext
def LX{T:gU}(hT:T.Ok P){pure:FuncId->List D->Option D}(hp:AR P pure):(lW T pure).Ok P:=by
 intro f az d h
 unfold lW at h
 simp only at h
 split at h
 .
  rename_i d' hd
  simp only[XU]at h;subst h;exact hT _ _ _ hd
 exact hp _ _ _ h
def K9(P:Program)[aa P](y:YF)(ps:List Nat)(n:Nat)(assign body:Code)(t:Nat->D)(l:Nat):Prop:=∀xs h nx outs,y xs h nx=some outs->xs.length=ps.length/\(∀p∈ps,p<n) /\
 DW P (some l) assign (thenS (λs2=>s2.e=Env.tt/\DW P (some l) body (λe s'=>s'.e=Env.tt /\ ∃b j,(match e with | .normal=>b=true/\j=none | .ret=>b=false/\j=some .ret | .exit i=>b=false/\j=some (.exit i)|_=>False) /\ ∃o∈outs,b=o.1/\j=o.2.1/\s'.h=htab o.2.2.1/\s'.nx=o.2.2.2) s2) (λ_ _=>False)) { n:=n,t:=lZ t ps xs,h:=htab h,nx:=nx }
def vF(P:Program)[aa P](yf:Yc)(ro:Option Nat)(l:Nat×Nat)(E:Option Code->Env):Prop:=match yf with
 | .top=>ro=none/\l.1=0/\E=EO
 | .round=>l.1=0/\E=EO
 | .iter y=>ro=none /\ ∃(r:Loop)(t:Nat->D),E=(λj=>Env.loop l.1 (recAt r j) t)/\K9 P y r.params.toList r.tmps.size r.assign r.body t l.1
theorem Oh(hV:vH P V){call:vK}(hc:zf P call){yf:Yc}(hy:vF P yf ro l E){ops:Array Oper}:∀(os:List Oper)(i b:Nat)(x:X)(outs:List X),os=ops.toList.drop i->i<=ops.size->x.nx=b+ops.size ->
  rf P V call yf ops.toList ops.size os i b x=some outs->(∀x'∈outs,x'.n=x.n) /\ ∀Q:Exit->S->Prop,(∀x'∈outs,Q .normal (x'.SL l E))->jF P ro ops i b (x.SL l E) Q:=by
 intro os
 induction os with
 | nil =>
  intro i b x outs ho hi hn h;have h:some [x]=some outs:=h;simp only[XU]at h;subst h;have hi':i=ops.size:=by
   have:=congrArg List.length ho
   simp at this
   omega
  exact⟨by simp,λQ hQ=>WZ hi' hn (hQ x (by simp))⟩
 | cons o os ih =>
  intro i b x outs ho hi hn h;have hlt:i<ops.size:=by
   have:=congrArg List.length ho
   simp at this
   omega
  have hd:ops.toList.drop i=ops[i]::ops.toList.drop (i+1):=by rw[Yn (by simpa using hlt)];simp
  rw[hd]at ho;simp only[Yy]at ho;obtain⟨ho1,ho2⟩:=ho;have hoi:ops[i]? = some o:=by rw[ho1];simp[hlt]
  have plain : ∀{C:aK}{x':X},sZ ops.toList o (x.SL l E)=some true->(C9 P C o (b+i) (x.SL l E) (x'.SL l E)/\x'.n=x.n/\x'.nx=x.nx/\x'.j=x.j)->rf P V call yf ops.toList ops.size os (i+1) b x'=some outs ->
    (∀x'∈outs,x'.n=x.n) /\ ∀Q:Exit->S->Prop,(∀x'∈outs,Q .normal (x'.SL l E))->jF P ro ops i b (x.SL l E) Q:=by
   intro C x' hg ⟨q1,q4,q5,q6⟩ h;obtain⟨r1,r2⟩:=ih (i+1) b x' outs ho2 hlt (by rw[q5,hn]) h
   exact⟨λy hy=>(r1 y hy).trans q4,λQ hQ=>WV hoi hg q1 (r2 Q hQ)⟩
  have h:Bb P V call yf ops.toList ops.size o (rf P V call yf ops.toList ops.size os) i b x=some outs:=h;unfold Bb at h
  split at h
  . cases h
  .
   rename_i hg
   have hg:=Qq (l:=l) (E:=E) hg
   split at h
   .
    rename_i x' hx'
    obtain⟨hdo,q1,q2,q3,q4⟩:=X.finF_S (l:=l) (E:=E) hx';obtain⟨r1,r2⟩:=ih (i+1) b x' outs ho2 hlt (by rw[q3,hn]) h
    refine⟨λy hy=>(r1 y hy).trans q2,λQ hQ=>WU hoi hg hdo (.b false) ?_⟩
    have r2:=r2 Q hQ;rw[q1]at r2;exact r2
   cases h
  rename_i hg
  have hg:=Qq (l:=l) (E:=E) hg
  split at h
  .
   rename_i x' hx'
   exact plain hg (X.run2_sound (C:=V.T.con true) hx') h
  split at h
  .
   rename_i x' hx'
   exact plain hg (X.run1_sound hV.T hx') h
  split at h
  .
   rename_i x' hx'
   exact plain hg (X.run1_sound hV.T hx') h
  split at h
  .
   rename_i hdo
   split at h
   .
    rename_i k az hk
    obtain⟨f,args,ts,first,aP,e1,e2,e3,e4,rfl⟩:=Ty hk
    split at h
    . cases h
    rename_i outs1 ho1
    have one : ∀(r:D×List (Nat×ax)×Nat)(o1:List X),(match(X.mk x.n x.t x.h (r.2.2+ops.size) x.j).finK o.dst r.1 r.2.1 with
      | some x'=>rf P V call yf ops.toList ops.size os (i+1) r.2.2 x'
      | none=>none)=some o1->(∀x'∈o1,x'.n=x.n) /\ ∀Q:Exit->S->Prop,(∀x'∈o1,Q .normal (x'.SL l E))->jF P ro ops (i+1) r.2.2 { x.SL l E with t:=(x.SL l E).put o.dst r.1,h:=htab r.2.1,nx:=r.2.2+ops.size,ok:=True } Q:=by
     intro r o1 h1
     split at h1
     .
      rename_i x' hx'
      obtain⟨_,q1,q2,q3,q4⟩:=X.finK_S (l:=l) (E:=E) (x:=X.mk x.n x.t x.h (r.2.2+ops.size) x.j) hx';obtain⟨r1,r2⟩:=ih (i+1) r.2.2 x' o1 ho2 hlt q3 h1;refine⟨λy hy=>(r1 y hy).trans q2,λQ hQ=>?_⟩
      have r2:=r2 Q hQ;rw[q1]at r2;exact r2
     cases h1
    have hev:args.toList.map (x.SL l E).ev=args.toList.map (bu x.t):=yY e4;refine⟨λy hy=>?_,λQ hQ=>?_⟩
    . obtain⟨r,h1,o1,h2,h3⟩:=pI h y hy;exact(one r o1 h2).1 y h3
    refine Xf _ hoi e1 hg hdo (by rw[lG (by rw[e2];rfl)];exact e2) (by rw[hev];exact e3) (by rw[hev];exact hc _ _ _ _ _ ho1) ?_
    rintro res h' n' ⟨r,hr,rfl,rfl,rfl⟩;obtain⟨o1,h2,h3⟩:=mJ h r hr;exact(one r o1 h2).2 Q λy hy=>hQ y (h3 y hy)
   split at h
   .
    rename_i ht
    split at h
    . cases h
    rename_i outs1 ho1
    have one : ∀(r:D×List (Nat×ax))(o1:List X),(match x.finK o.dst r.1 r.2 with
      | some x'=>rf P V call yf ops.toList ops.size os (i+1) b x'
      | none=>none)=some o1->(∀x'∈o1,x'.n=x.n) /\ ∀Q:Exit->S->Prop,(∀x'∈o1,Q .normal (x'.SL l E))->jF P ro ops (i+1) b { x.SL l E with t:=(x.SL l E).put o.dst r.1,h:=htab r.2,ok:=True } Q:=by
     intro r o1 h1
     split at h1
     .
      rename_i x' hx'
      obtain⟨_,q1,q2,q3,q4⟩:=X.finK_S (l:=l) (E:=E) hx';obtain⟨r1,r2⟩:=ih (i+1) b x' o1 ho2 hlt (q3.trans hn) h1;refine⟨λy hy=>(r1 y hy).trans q2,λQ hQ=>?_⟩
      have r2:=r2 Q hQ;rw[q1]at r2;exact r2
     cases h1
    have hev:=yY (l:=l) (E:=E) ht;obtain⟨d1,d2⟩:=QS (s:=x.SL l E) (by rw[hev];exact ho1) rfl
    refine⟨λy hy=>?_,λQ hQ=>?_⟩
    . obtain⟨r,h1,o1,h2,h3⟩:=pI h y hy;exact(one r o1 h2).1 y h3
    refine Xa _ hoi hg hdo d1 d2 ?_;rintro d h' ⟨r,hr,rfl,rfl⟩;obtain⟨o1,h2,h3⟩:=mJ h r hr;exact(one r o1 h2).2 Q λy hy=>hQ y (h3 y hy)
   split at h
   .
    rename_i y xs hyx hj h00
    split at h
    . cases h
    rename_i outs1 ho1
    obtain⟨i',args,ts,e1,e2,e3,e4,rfl⟩:=Uu hyx;obtain⟨rfl,r,t,rfl,hR⟩:=hy;obtain⟨p1,p2,p3⟩:=hR _ _ _ _ ho1;have one : ∀(r':Bool×Option Code×List (Nat×ax)×Nat)(o1:List X),(match(X.mk x.n x.t x.h (r'.2.2.2+ops.size) r'.2.1).finK o.dst (.b r'.1) r'.2.2.1 with
      | some x'=>rf P V call (.iter y) ops.toList ops.size os (i+1) r'.2.2.2 x'
      | none=>none)=some o1->(∀x'∈o1,x'.n=x.n) /\ ∀Q:Exit->S->Prop,(∀x'∈o1,Q .normal (x'.SL l λj=>Env.loop l.1 (recAt r j) t)) ->
      jF P none ops (i+1) r'.2.2.2 { n:=(x.SL l λj=>Env.loop l.1 (recAt r j) t).n,t:=(x.SL l λj=>Env.loop l.1 (recAt r j) t).put o.dst (.v (.bool r'.1)),h:=htab r'.2.2.1,nx:=r'.2.2.2+ops.size,ok:=True,e:=Env.loop l.1 (recAt r r'.2.1) t } Q:=by
     intro r' o1 h1
     split at h1
     .
      rename_i x' hx'
      obtain⟨_,q1,q2,q3,q4⟩:=X.finK_S (l:=l) (E:=λj=>Env.loop l.1 (recAt r j) t) (x:=X.mk x.n x.t x.h (r'.2.2.2+ops.size) r'.2.1) hx'
      obtain⟨r1,r2⟩:=ih (i+1) r'.2.2.2 x' o1 ho2 hlt q3 h1;refine⟨λy hy=>(r1 y hy).trans q2,λQ hQ=>?_⟩
      have r2:=r2 Q hQ;rw[q1]at r2;exact r2
     cases h1
    have hev:args.toList.map (x.SL l λj=>Env.loop l.1 (recAt r j) t).ev=args.toList.map (bu x.t):=yY e4
    refine⟨λy hy=>?_,λQ hQ=>?_⟩
    . obtain⟨r',h1,o1,h2,h3⟩:=pI h y hy;exact(one r' o1 h2).1 y h3
    refine WQ (r:=r) (t:=t) (l:=l.1) (λbb j h' n'=>∃o∈outs1,bb=o.1/\j=o.2.1/\h'=htab o.2.2.1/\n'=o.2.2.2) hoi e1 hg (by simp only[X.SL,hj]) hdo ?_ (by rw[hev];exact e3) (by rw[hev]) (by rw[p1,Array.length_toList]) p2 p3 ?_
    .
     show dQ l (dA x.t (bP i'))=_
     rw[e2];rfl
    rintro bb j h' n' ⟨r',hr,rfl,rfl,rfl,rfl⟩;obtain⟨o1,h2,h3⟩:=mJ h r' hr;exact(one r' o1 h2).2 Q λy hy=>hQ y (h3 y hy)
   cases h
  cases h
theorem uA{call:vK}{yf:Yc}{L:List Oper}{sz:Nat}:∀{os:List Oper}{i b:Nat}{x:X}{outs:List X},rf P V call yf L sz os i b x=some outs -> ∀x'∈outs,x'.n=x.n
 | [],i,b,x,outs,h=>by
  have h:some [x]=some outs:=h;simp only[XU]at h;subst h
  simp
 | o::os,i,b,x,outs,h=>by
  have h:Bb P V call yf L sz o (rf P V call yf L sz os) i b x=some outs:=h;have viaF : ∀{y:X}{dst:Option Tmp}{d:D}{h:List (Nat×ax)}{x1:X},y.finF dst d h=some x1->x1.n=y.n:=λq=>(X.finF_S (l:=L0) (E:=EO) q).2.2.1
  have viaK : ∀{y:X}{dst:Option Tmp}{d:D}{h:List (Nat×ax)}{x1:X},y.finK dst d h=some x1->x1.n=y.n:=λq=>(X.finK_S (l:=L0) (E:=EO) q).2.2.1
  have via1 : ∀{cf bs:Bool}{x1:X},x.run1 P V.T cf bs b i o=some x1->x1.n=x.n:=by
   intro cf bs x1 q;unfold X.run1 at q;rw[Aj]at q
   split at q
   .
    split at q
    . rw[Jp]at q;exact viaK q
    exact viaK q
   cases q
  unfold Bb at h
  split at h
  . cases h
  .
   split at h
   .
    rename_i x' hx'
    exact λy hy=>(uA h y hy).trans (viaF hx')
   cases h
  split at h
  .
   rename_i x' hx'
   exact λy hy=>(uA h y hy).trans (X.run2_sound (P:=P) (C:=V.T.con true) (l:=L0) (E:=EO) hx').2.1
  split at h
  .
   rename_i x' hx'
   exact λy hy=>(uA h y hy).trans (via1 hx')
  split at h
  .
   rename_i x' hx'
   exact λy hy=>(uA h y hy).trans (via1 hx')
  split at h
  .
   split at h
   .
    split at h
    . cases h
    intro y hy;obtain⟨r,h1,o1,h2,h3⟩:=pI h y hy
    split at h2
    .
     rename_i x' hx'
     exact(uA h2 y h3).trans (viaK (y:=X.mk x.n x.t x.h (r.2.2+sz) x.j) hx')
    cases h2
   split at h
   .
    split at h
    . cases h
    intro y hy;obtain⟨r,h1,o1,h2,h3⟩:=pI h y hy
    split at h2
    .
     rename_i x' hx'
     exact(uA h2 y h3).trans (viaK hx')
    cases h2
   split at h
   .
    split at h
    . cases h
    intro y hy;obtain⟨r,h1,o1,h2,h3⟩:=pI h y hy
    split at h2
    .
     rename_i x' hx'
     exact(uA h2 y h3).trans (viaK (y:=X.mk x.n x.t x.h (r.2.2.2+sz) r.2.1) hx')
    cases h2
   cases h
  cases h
theorem MX{c:Code}:∀{m m':Nat}{s:S},m<=m'->l7 P ro c Q m s->l7 P ro c Q m' s
 | 0,_,_,_,h=>h.elim
 | m+1,0,_,hm,_=>by omega
 | m+1,m'+1,s,hm,h=>DW.mono h λe s' hq=>by
  cases e with
  | normal=>exact⟨MX om hq.1,hq.2⟩
  | _=>exact hq
theorem MZ{c:Code}{Q':Exit->S->Prop}(hq : ∀e s,Q e s->Q' e s):∀{m:Nat}{s:S},l7 P ro c Q m s->l7 P ro c Q' m s
 | 0,_,h=>h.elim
 | m+1,s,h=>DW.mono h λe s' h=>by
  cases e with
  | normal=>exact⟨MZ hq h.1,h.2⟩
  | _=>exact hq _ _ h
theorem gd_ok{L:List Oper}{x:X}{j:Nat}{want:Bool}(h:jW (Cq L x.t j)=true):jW (tC L (x.SL l E) j)=true/\gz (tC L (x.SL l E) j) want=gz (Cq L x.t j) want:=by
 unfold tC Cq at *
 cases hi:(L[j]?).bind (·.dst)with
 | none=>rw[hi]at h;cases h
 | some i =>
  rw[hi]at h;simp only[Option.elim]at h ⊢;have:dC (dA x.t (bP i))=false:=by
   cases ht:dC (dA x.t (bP i))with
   | false=>rfl
   | true=>rcases Zct ht with q|q<;>(rw[q]at h;cases h)
  show jW (dQ l (dA x.t (bP i)))=true/\gz (dQ l (dA x.t (bP i))) want=_
  rw[wm this];exact⟨h,rfl⟩
def X.runG_sound{T:gU}(hT:T.Ok P){cf bs g:Bool}{b i:Nat}{o:Oper}{x x':X}(q:x.runG P T cf bs g b i o=some x') :
  cu x.n o.dst=true/\bA (T.con cf bs) o.op ≠ .writes/\(g=true->(au P (words P) (T.con cf bs) g o.op ((av o.op).map (x.SL l E).ev) (x.SL l E).h (b+i)).2.2) /\
  x'.SL l E={ x.SL l E with t:=(x.SL l E).put o.dst (.cond g (au P (words P) (T.con cf bs) g o.op ((av o.op).map (x.SL l E).ev) (x.SL l E).h (b+i)).1) }/\x'.n=x.n/\x'.nx=x.nx/\x'.j=x.j:=by
 unfold X.runG at q
 rw[Aj]at q
 split at q
 .
  rename_i hc
  obtain⟨ht,hw,hok⟩:=hc;obtain⟨w1,w2⟩:=RD (P:=P) (W:=T.words) (W':=words P) (C:=T.con cf bs) (g:=g) (op:=o.op) (xs:=(av o.op).map (bu x.t)) (h:=htab x.h) (b:=b+i);obtain⟨hd,q1,q2,q3,q4⟩:=X.finK_S (l:=l) (E:=E) q;have hev:=yY (l:=l) (E:=E) ht;rw[hev];refine⟨hd,λe=>?_,λhg=>RA hT (hok hg),?_,q2,q3,q4⟩
  .
   rw[BR,e]at hw
   cases hw
  rw[q1]
  show _={ x.SL l E with t:=(x.SL l E).put o.dst (.cond g (au P (words P) (T.con cf bs) g o.op ((av o.op).map (bu x.t)) (htab x.h) (b+i)).1) }
  rw[w1];rfl
 cases q
def Oj{T:gU}(hT:T.Ok P){cf bs:Bool}{L:List Oper}{b i:Nat}{o:Oper}{x x':X}(q:Prop)(h:Eh P T cf bs L b i o x=some x'):∃q':Prop,(q->q')/\bT P (words P) (T.con cf bs) L b i o { x.SL l E with ok:=q }={ x'.SL l E with ok:=q' }/\x'.n=x.n/\x'.nx=x.nx/\x'.j=x.j:=by
 unfold Eh at h
 split at h
 .
  rename_i j want hg
  split at h
  .
   rename_i hgk
   obtain⟨k1,k2⟩:=gd_ok (l:=l) (E:=E) (want:=want) hgk;rw[<-k2]at h;obtain⟨q1,q2,q3,q4,q5⟩:=X.runG_sound (l:=l) (E:=E) hT h;refine⟨q/\cu x.n o.dst=true/\jW (tC L (x.SL l E) j)=true/\bA (T.con cf bs) o.op ≠ .writes/\(gz (tC L (x.SL l E) j) want=true->(au P (words P) (T.con cf bs) (gz (tC L (x.SL l E) j) want) o.op ((av o.op).map (x.SL l E).ev) (x.SL l E).h (b+i)).2.2),λhq=>⟨hq,q1,k1,q2,q3⟩,?_,q5⟩
   rw[q4];unfold bT;rw[hg];rfl
  cases h
 rename_i hg
 obtain⟨⟨q1,q2,q3⟩,q4⟩:=X.run1_sound (l:=l) (E:=E) hT h
 refine⟨q/\cu x.n o.dst=true/\(au P (words P) (T.con cf bs) true o.op ((av o.op).map (x.SL l E).ev) (x.SL l E).h (b+i)).2.2,λhq=>⟨hq,q1,q2⟩,?_,q4⟩
 rw[q3]
 unfold bT
 rw[hg]
 rfl
theorem zL{T:gU}(hT:T.Ok P){cf bs:Bool}{L:List Oper}{b:Nat}:∀(os:List Oper)(i:Nat)(x x':X)(q:Prop),uB P T cf bs L b os i x=some x' -> ∃q':Prop,(q->q')/\bN P (words P) (T.con cf bs) L b i os { x.SL l E with ok:=q }={ x'.SL l E with ok:=q' }/\x'.n=x.n/\x'.nx=x.nx/\x'.j=x.j
 | [],i,x,x',q,h=>by
  simp only[uB,XU]at h;subst h;exact⟨q,id,rfl,rfl,rfl,rfl⟩
 | o::os,i,x,x',q,h=>by
  unfold uB at h
  split at h
  .
   rename_i x1 h1
   obtain⟨q1,r1,r2,r3,r4,r5⟩:=Oj (l:=l) (E:=E) hT q h1;obtain⟨q2,s1,s2,s3,s4,s5⟩:=zL hT (L:=L) os (i+1) x1 x' q1 h;refine⟨q2,λhq=>s1 (r1 hq),?_,s3.trans r3,s4.trans r4,s5.trans r5⟩
   rw[<-s2,<-r2];rfl
  cases h
def FL{T:gU}(hT:T.Ok P){cf:Bool}{id:Nat}{ops:Array Oper}{x x':X}(hd:FM P T cf ops.toList=true)(h:uB P T cf false ops.toList x.nx ops.toList 0 ⟨x.n,x.t,x.h,x.nx+ops.size,x.j⟩=some x'):x'.n=x.n/\DW P ro (.region id ops true) (λe s=>∃o∈[((.normal,x'):Exit×X)],e=o.1/\s=o.2.SL l E) (x.SL l E):=by
 obtain⟨q',r1,r2,r3,r4,r5⟩:=zL (l:=l) (E:=E) hT (L:=ops.toList) (b:=x.nx) ops.toList 0 ⟨x.n,x.t,x.h,x.nx+ops.size,x.j⟩ x' True h
 simp only[FM,XT]at hd
 have he:exec P (words P) (T.con cf) ops.toList (x.SL l E)={ x'.SL l E with ok:=q' }:=r2
 refine⟨r3,RH (C:=T.con cf) (λ_=>⟨hd.1.1,hd.1.2,hd.2⟩) (by rw[he];exact r1 trivial) ?_⟩
 rw[he]
 exact⟨_,.head _,rfl,rfl⟩
def vJ(P:Program)[aa P](code:Yc->Code->X->Option (List (Exit×X))):Prop:=∀yf c x outs,code yf c x=some outs->(∀o∈outs,o.2.n=x.n) /\
 ∀ro l E,vF P yf ro l E->DW P ro c (λe s=>∃o∈outs,e=o.1/\s=o.2.SL l E) (x.SL l E) /\ ∀c',c = .loop c' -> ∃m,l7 P ro c' (λe s=>∃o∈outs,e=o.1/\s=o.2.SL l E) m (x.SL l E)
theorem upTo{α:Type}{p:Nat->α->Prop}(hp : ∀m m' a,m<=m'->p m a->p m' a):∀l:List α,(∀a∈l,∃m,p m a) -> ∃m,∀a∈l,p m a
 | [],_=>⟨0,by simp⟩
 | a::l,h=>by
  obtain⟨m1,h1⟩:=h a (by simp)
  obtain⟨m2,h2⟩:=upTo hp l λb hb=>h b (by simp[hb])
  refine⟨m1+m2,λb hb=>?_⟩
  rcases Yz.1 hb with rfl|hb
  . exact hp _ _ _ om h1
  exact hp _ _ _ om (h2 b hb)
theorem XO{c:Code}{outs:List (Exit×X)}{n:Nat}(h : ∀o∈outs,o.1 = .normal->(∃m,l7 P ro c Q m (o.2.SL l E))/\o.2.n=n)(hx : ∀o∈outs,o.1 ≠ .normal->Q o.1 (o.2.SL l E)){x:X}(hn:x.n=n)
  (hb:DW P ro c (λe s=>∃o∈outs,e=o.1/\s=o.2.SL l E) (x.SL l E)):∃m,l7 P ro c Q m (x.SL l E):=by
 obtain⟨m,hm⟩:=upTo (p:=λm(o:Exit×X)=>o.1 = .normal->l7 P ro c Q m (o.2.SL l E)) (λm m' o hm k e=>MX hm (k e)) outs λo ho=>by
  by_cases e:o.1 = .normal
  . obtain⟨m,k⟩:=(h o ho e).1;exact⟨m,λ_=>k⟩
  exact⟨0,λe'=>absurd e' e⟩
 refine⟨m+1,DW.mono hb ?_⟩
 rintro e s ⟨o,ho,rfl,rfl⟩
 obtain⟨e,y⟩:=o
 cases e with
 | normal=>exact⟨hm _ ho rfl,((h _ ho rfl).2).trans hn.symm⟩
 | _=>exact hx _ ho (by simp)
end
section
variable [aa P] {V : Ev} {R : Rn} {ro : Option Nat} {Q : Exit -> S -> Prop} {l : Nat × Nat} {E : Option Code -> Env}
def Uy{s:S}{B:bS}{g:Mem}{a:Act}{w:World}{N:Nat}{o:Oper}{f:Operand}{args:Array Operand}{ts:Array TypeId}{gB:FuncId}{first aP:List D}{R:D->H->Nat->Prop}(hs:St P B s g a w)
  (hop:o.op = .call { callee:=.value f,args:=args,argTypes:=ts })(hf:s.ev f = .fn (.func gB) first aP)(hxg:(args.toList.map s.ev).all sg=true)(hct:dS P gB (first++(args.toList.map s.ev).map sd++aP) s.h N R)(hU : ∀r,g.U r->r<N)
  {Q':Exit->Act->World->Prop}{K:Act->World->Prop}(hK : ∀res h' n',R res h' n' -> ∀v g' w',ag w' g' res v->HM P h' g' w'->aB g g' w w'->(∀r,g'.U r->r<n')->K (a.put o.dst v) w'):o.wpIn (Fw ro) 0 P a w K Q':=by
 have hdef : ∀c,o.op ≠ .defer c:=by intro c e;rw[e]at hop;cases hop
 have iq:o.semAt (Fw ro).round a.eval=execOp a.eval o:=Oper.semAt_eq _ _ _ hdef
 refine⟨λ_ _=>trivial,?_⟩
 rw[iq]
 obtain⟨hbd,hct⟩:=hct
 have hfr:=dH hs f
 rw[hf]at hfr
 have kJ:=vS (uV hs args.toList) hxg
 generalize hv:a.eval f=vf at hfr
 cases hfr with|fn _ _ _ fs cs l1 l2 r1 r2 =>
 have hrun:(execOp a.eval o).run P w = .ok (.enter gB (fs++args.map a.eval++cs)) w:=by
  simp[execOp,hop,resolve,Deferred.ofValue,hv,invoke,y7 hbd]
 rw[hrun,Oper.uponIn_enter]
 have e:fs++args.map a.eval++cs=(fs.toList++args.toList.map a.eval++cs.toList).toArray:=by apply Zh;simp
 rw[e]
 refine⟨λh=>by simp[Fw,Fence.wide]at h,AB ((hct w g _ hs.mem hU (aG.append (aG.append ⟨by simpa using l1,λi d x h1 h2=>r1 i d x h1 (by simpa using h2)⟩ kJ) ⟨by simpa using l2,λi d x h1 h2=>r2 i d x h1 (by simpa using h2)⟩)).mono ?_)⟩
 rintro e w' ⟨v,g',res,h',n',hR,rfl,q1,q2,q3,q4⟩
 exact hK res h' n' hR v g' w' q1 q2 q3 q4
def Ux{g:Mem}{a:Act}{w:World}{o:Oper}{b:Nat}{A:D->H->Prop}(hdef : ∀c,o.op ≠ .defer c)(hd : ∃d h',A d h'/\Does P g w b ((execOp a.eval o).run P w) d h')(hU : ∀r,g.U r->r<b)
  {Q':Exit->Act->World->Prop}{K:Act->World->Prop}(hK : ∀d h',A d h' -> ∀v g' w',ag w' g' d v->HM P h' g' w'->aB g g' w w'->(∀r,g'.U r->r<b+1)->K (a.put o.dst v) w'):o.wpIn (Fw ro) 0 P a w K Q':=by
 have iq:o.semAt (Fw ro).round a.eval=execOp a.eval o:=Oper.semAt_eq _ _ _ hdef
 refine⟨λ_ _=>trivial,?_⟩
 rw[iq]
 obtain⟨d,h',hA,v,g',w',hrun,q1,q2,q3,q4⟩:=hd
 have qo : ∀r,g'.U r->r<b+1:=λr hr=>by
  rcases q4 r hr with h|h
  . have:=hU r h;omega
  omega
 rcases hrun with hrun|⟨hrun,rfl⟩
 . rw[hrun,Oper.uponIn_value];exact hK d h' hA v g' w' q1 q2 q3 qo
 rw[hrun,Oper.uponIn_skip];exact hK d h' hA undef g' w' q1 q2 q3 qo
theorem Ip{T:gU}(hT:T.Ok P){L:List Oper}{b:Nat}:∀(is:List Nat)(x x':X)(q:Prop),Bu P T L b is x=some x' -> ∃q':Prop,(q->q')/\is.foldl (run1 P (words P) (T.con true true) L b) { x.SL l E with ok:=q }={ x'.SL l E with ok:=q' }/\x'.n=x.n/\x'.nx=x.nx/\x'.j=x.j
 | [],x,x',q,h=>by
  simp only[Bu,XU]at h;subst h;exact⟨q,id,rfl,rfl,rfl,rfl⟩
 | i::is,x,x',q,h=>by
  unfold Bu at h
  split at h
  . cases h
  rename_i o ho
  split at h
  .
   rename_i x1 h1
   obtain⟨q1,r1,r2,r3,r4,r5⟩:=Oj (l:=l) (E:=E) hT q h1;obtain⟨q2,s1,s2,s3,s4,s5⟩:=Ip hT (L:=L) is x1 x' q1 h;refine⟨q2,λhq=>s1 (r1 hq),?_,s3.trans r3,s4.trans r4,s5.trans r5⟩
   rw[<-s2,<-r2];simp only[YB,run1,ho]
  cases h
def KQ{a b:Option ax}(h:KR a b=true):a=b:=by
 unfold KR at h
 split at h
 . simp only[XT,Nat.beq_eq]at h;rw[h.1,J7 h.2]
 . rfl
 cases h
def Zcl{h' h:List (Nat×ax)}{d:D}(k:BP h' h d=true):∀r,named r (sd d)=true->htab h' r=htab h r:=by
 intro r hr
 unfold BP at k
 split at k
 .
  rename_i e
  rw[e]at hr;simp only[named,Yx]at hr;subst hr;exact KQ k
 .
  rename_i e
  rw[e]at hr;simp only[named,Yx]at hr;subst hr;exact KQ k
 .
  rename_i e
  rw[e]at hr;simp only[named,Yx]at hr;subst hr;exact KQ k
 rename_i h1 h2 h3
 exfalso
 generalize sd d=d' at *
 cases d'<;>first|(cases hr;done)|exact h1 _ _ _ rfl|exact h2 _ _ _ rfl|exact h3 _ rfl
theorem Zac{d:D}{r:Nat}(h:named r (sd (dQ l d))=true):named r (sd d)=true:=by
 unfold dQ at h
 cases ht:uH d with
 | true=>rw[ht]at h;cases h
 | false =>
  rw[ht]at h
  cases ht2:nL d with
  | true=>rw[ht2]at h;cases h
  | false=>rw[ht2]at h;exact h
theorem ZeF(hV:vH P V)(hc:zf P R.call)(hp:AR P R.pure){id:Nat}{ops:Array Oper}{k1 k2:Nat}{x:X}{outs:List (Exit×X)}(h:drX P V R ops k1 k2 x=some outs) :
  (∀o∈outs,o.2.n=x.n) /\ ∀ro(l:Nat×Nat),l.1=0->DW P ro (.region id ops true) (λe s=>∃o∈outs,e=o.1/\s=o.2.SL l EO) (x.SL l EO):=by
 have hT:=LX hV.T hp
 unfold drX at h
 split at h
 .
  rename_i hq
  obtain⟨yJ,hD,hfl⟩:=hq
  split at h
  .
   rename_i o xq ho BV
   split at h
   .
    rename_i hg
    obtain⟨hg,hdo⟩:=hg;have hg:o.guard=none:=Zf.1 hg
    split at h
    . cases h
    rename_i o1 h1
    split at h
    . cases h
    rename_i o2 h2
    simp only[XU]at h;subst h;have hk2:k2<=ops.size:=by
     unfold CJ at hD;simp only[XT,XV]at hD;have:=hD.1.1.1.1.2
     simpa using this
    have one : ∀(r:D×List (Nat×ax)×Nat)(o3:List X),(if(flc ((lW V.T R.pure).con true true) ops.toList k1 k2).all (λp=>BP r.2.1 xq.h (dA xq.t (bP p.2)))=true then
      (match(X.mk xq.n xq.t xq.h (r.2.2+ops.size) xq.j).finK o.dst r.1 r.2.1 with
      | some x'=>rf P V R.call .round ops.toList ops.size (ops.toList.drop k2) k2 r.2.2 x'
      | none=>none)else none)=some o3->(∀p∈flc ((lW V.T R.pure).con true true) ops.toList k1 k2,BP r.2.1 xq.h (dA xq.t (bP p.2))=true)/\(∀x'∈o3,x'.n=x.n) /\ ∀ro(l:Nat×Nat)(_:l.1=0)(Q:Exit->S->Prop),(∀x'∈o3,Q .normal (x'.SL l EO))->jF P ro ops k2 r.2.2 { xq.SL l EO with t:=(xq.SL l EO).put o.dst r.1,h:=htab r.2.1,nx:=r.2.2+ops.size,ok:=True } Q:=by
     intro r o3 h3
     split at h3
     .
      rename_i hkp
      split at h3
      .
       rename_i x' hx'
       have q2:=(X.finK_S (l:=L0) (E:=EO) (x:=X.mk xq.n xq.t xq.h (r.2.2+ops.size) xq.j) hx').2.2.1;obtain⟨_,_,_,r3,_⟩:=Ip (l:=L0) (E:=EO) hT _ x xq True BV;refine⟨Yg.1 hkp,λy hy=>((uA h3 y hy).trans q2).trans r3,λro l hl0 Q hQ=>?_⟩
       obtain⟨_,q1,_,q3,q4⟩:=X.finK_S (l:=l) (E:=EO) (x:=X.mk xq.n xq.t xq.h (r.2.2+ops.size) xq.j) hx';have:=(Oh (ro:=ro) (l:=l) (E:=EO) hV hc (yf:=.round) ⟨hl0,rfl⟩ (ops.toList.drop k2) k2 r.2.2 x' o3 rfl hk2 q3 h3).2 Q hQ;rw[q1]at this;exact this
      cases h3
     cases h3
    refine⟨λy hy=>?_,λro l hl0=>?_⟩
    . obtain⟨z,hz,rfl⟩:=Yi.1 hy;obtain⟨r,k1,o3,k2,k3⟩:=pI h2 z hz;exact(one r o3 k2).2.1 z k3
    obtain⟨q',r1,r2,r3,r4,r5⟩:=Ip (l:=l) (E:=EO) hT _ x xq True BV;have hoi:ops[k1]? = some o:=by rwa [YL]at ho
    refine Zep (C:=(lW V.T R.pure).con true true) (sq:={ xq.SL l EO with ok:=q' }) k1 k2 (λd h' n'=>∃r∈o1,d=r.1/\h'=htab r.2.1/\n'=r.2.2) yJ hD hoi hg r2 (r1 trivial) hdo ?_ ?_ ?_
    .
     intro B Q' s' g a w hs e1 e2 e3 e4 hU K hK;unfold NW at h1
     split at h1
     .
      rename_i k az hk
      obtain⟨f,args,ts,first,aP,p1,p2,p3,p4,rfl⟩:=Ty hk
      have hev:args.toList.map s'.ev=args.toList.map (bu xq.t)/\s'.ev f=bu xq.t f:=by
       rw[p1]at e4;simp only[av,X9,Yy]at e4;have a1:args.toList.map (xq.SL l EO).ev=args.toList.map (bu xq.t):=yY p4;have a2:(xq.SL l EO).ev f=bu xq.t f:=lG (by rw[p2];rfl)
       exact⟨e4.2.trans a1,e4.1.trans a2⟩
      refine Uy (N:=x.nx+k2) hs p1 (hev.2.trans p2) (by rw[hev.1];exact p3) (R:=λd h' n'=>∃r∈o1,d=r.1/\h'=htab r.2.1/\n'=r.2.2) ?_ hU λres h' n' hR v g' w' q1 q2 q3 q4=>hK res h' n' hR v g' w' q1 q2 q3 q4
      rw[hev.1,e1];exact hc _ _ _ _ _ h1
     split at h1
     .
      rename_i ht
      split at h1
      . cases h1
      rename_i o4 h4
      simp only[XU]at h1;subst h1;have hev:(av o.op).map s'.ev=(av o.op).map (bu xq.t):=e4.trans (yY (l:=l) (E:=EO) ht);obtain⟨d1,d2⟩:=QS (s:=s') (by rw[hev];exact h4) e1
      refine Ux d1 (d2 B g a w hs (λh=>Nat.lt_irrefl _ (hU _ h))) hU λd h' hA v g' w' q1 q2 q3 q4=>?_
      obtain⟨r,hr,rfl,rfl⟩:=hA;exact hK _ _ _ ⟨_,Yi.2 ⟨r,hr,rfl⟩,rfl,rfl,rfl⟩ v g' w' q1 q2 q3 q4
     cases h1
    .
     rintro res h' n' ⟨r,hr,rfl,rfl,rfl⟩ i oi hi hne hb hoi';obtain⟨o3,k3,_⟩:=mJ h2 r hr;refine Zdl (C:=(lW V.T R.pure).con true true) (sq:={ xq.SL l EO with ok:=q' }) hfl (λp hp r' hr'=>?_) i oi hi hne hb hoi'
     exact Zcl ((one r o3 k3).1 p hp) r' (Zac (l:=l) hr')
    rintro res h' n' ⟨r,hr,rfl,rfl,rfl⟩;obtain⟨o3,k3,k4⟩:=mJ h2 r hr;exact(one r o3 k3).2.2 ro l hl0 _ λz hz=>⟨_,Yi.2 ⟨z,k4 z hz,rfl⟩,rfl,rfl⟩
   cases h
  cases h
 cases h
end
section
open Go.ChangeMaps (setBlock)
variable [aa P] {ro : Option Nat} {Q : Exit -> S -> Prop} {C : aK}
theorem uo{w:World}{l k:Nat}{o:Obj}(h:k≠l):(setBlock w l o).heap[k]? = w.heap[k]? := by
 simp only[setBlock]
 exact Array.getElem?_setIfInBounds_ne (Ne.symm h)
def WO{w:World}{l:Nat}{o:Obj}(h:l<w.heap.size):(setBlock w l o).heap[l]? = some o:=by
 simp only[setBlock]
 exact Array.getElem?_setIfInBounds_self_of_lt h
theorem Hl{w:World}{l:Nat}{o:Obj}:(setBlock w l o).heap.size=w.heap.size:=by simp[setBlock]
structure AV(E:Env):Prop where
 lt : ∀g w,E.p g w -> ∀k,E.x=some k->k<w.heap.size
 put : ∀g w l o,E.p g w -> ¬g.I l->E.x≠some l->E.p g (setBlock w l o)
def Q4:AV Env.tt:=⟨λ_ _ _ k h=>(by cases h),λ_ _ _ _ _ _ _=>trivial⟩
def Zdz{l:Nat}{r:Loop}{t:Nat->D}:AV (Env.loop l r t) :=
 ⟨λg w h k e=>(by cases e;exact(Yb.1 h.1).1),λg w l' o⟨h1,h2,h3⟩hI hx=>⟨by rw[uo (λe=>hx (by rw[<-e];rfl))];exact h1,h2,λi=>(h3 i).mono (λb hb=>⟨hb,uo (λe=>hI (by rw[<-e];exact hb))⟩) (λ_ h=>h) (λ_ _=>.inl rfl)⟩⟩
theorem Marks.iter{B:Nat}{g:Mem}{w:World}{l:Nat}{o o':Obj}(hl:w.heap[l]? = some o)(ho : ∀x,o ≠ .deferred x):∀{ds:List Deferred},Marks B g ds w->Marks B g ds (setBlock w l o')
 | [],_=>trivial
 | d::ds,⟨⟨D,h1,h2,h3,h4,h5⟩,h6⟩=>⟨⟨D,h1,by rw[uo (λe=>by subst e;rw[hl]at h2;exact ho _ (ZX h2))];exact h2,h3,h4,h5⟩,Marks.iter hl ho h6⟩
def St.iter{B:bS}{s:S}{g:Mem}{a:Act}{w:World}{l:Nat}{m:Option Nat}{sn c0:Nat}{seen:Array Nat}(o:Obj)(hs:St P B s g a w)(hE:AV s.e)(hl:w.heap[l]? = some (.mapIter m sn seen c0))(hI : ¬g.I l)(hx:s.e.x≠some l):St P B s g a (setBlock w l o) :=
 ⟨hs.sz,λi=>(hs.tm i).mono (λb hb=>⟨hb,uo (λe=>hI (by rw[<-e];exact hb))⟩) (λ_ h=>h) (λ_ _=>.inl rfl),
  hs.mem.marks Hl (λk hk=>uo (λe=>hI (by rw[<-e];exact hk))) (λk o' hk ho=>uo (λe=>by subst e;rw[hl]at hk;cases hk;exact ho)),
  hs.df.map λms hm=>Marks.iter hl (λx e=>by cases e) hm,hE.put _ _ _ _ hs.en hI hx,by rw[Hl];exact hs.bd⟩
def bQ.iter{x:Option Nat}{g0 g:Mem}{w0 w:World}{l:Nat}{o:Obj}(h:bQ x g0 g w0 w)(hl:w0.heap.size<=l):bQ x g0 g w0 (setBlock w l o) :=
 ⟨h.os,h.tape,h.output,by rw[Hl];exact h.size,h.drawn,h.U,h.M,h.new,h.I,h.inew,λb h1 h2 h3=>by rw[uo (by omega)];exact h.same b h1 h2 h3⟩
def zK{ops:Array Oper}{i:Nat}{rest:List Nat}{a:Act}{w w':World}{v:Value}{o:Oper}{Q':Exit->Act->World->Prop}(ho:ops[i]? = some o)(hg:o.guard=none)(hdef : ∀c,o.op ≠ .defer c)(hrun:(execOp a.eval o).run P w = .ok (.value v) w')(hk:wpOpsIn (Fw ro) 0 P ops Q' rest (a.put o.dst v) w'):wpOpsIn (Fw ro) 0 P ops Q' (i::rest) a w:=by
 rw[wpOpsIn_cons]
 unfold wpOpIn
 rw[ho]
 simp only
 have hw:Region.wanted o (yielded ops a.tmps)=true:=by simp[Region.wanted,hg]
 rw[XY hw]
 have iq:o.semAt (Fw ro).round a.eval=execOp a.eval o:=Oper.semAt_eq _ _ _ hdef
 refine⟨λ_ _=>trivial,?_⟩
 rw[iq,hrun,Oper.uponIn_value]
 exact hk
def MW(P:Program)[aa P](ro:Option Nat)(C:aK)(r n tr dn tq de bid b1 l:Nat)(eops:Array Oper)(body:Code)(Q:Exit->S->Prop):Nat->List Nat->S->Prop
 | 0,_,_=>False
 | m+1,seen,s=>s.t tr = .v (.pointer (some ⟨l,0,none⟩))/\(dn<s.n/\tq<s.n/\de<s.n)/\(tr≠dn/\tr≠tq)/\AV s.e /\ ∃bl kv,s.h r=some bl/\iF bl=some kv/\kv.length=2*n /\
  ((∀i,i<n->i∈seen)->Q .normal { s with t:=upd (upd s.t dn (.tuple [.b false])) tq (.b false),ok:=True }) /\
  ∀i,i<n->i ∉ seen -> ∀k v,kv[2*i]? = some k->kv[2*i+1]? = some v ->
   ∃s1,bN P (words P) C eops.toList s.nx 1 (eops.toList.drop 1) { n:=s.n,t:=upd (upd (upd s.t dn (.tuple [.b true,k,v])) tq (.b true)) de (.tuple [k,v]),h:=s.h,nx:=s.nx+eops.size,ok:=True,e:=s.e }=s1/\s1.ok /\
    DW P ro body (λe s'=>match e with
     | .normal=>MW P ro C r n tr dn tq de bid b1 l eops body Q m (seen++[i]) s'/\s'.n=s.n
     | .exit j=>if j=b1 then MW P ro C r n tr dn tq de bid b1 l eops body Q m (seen++[i]) s'/\s'.n=s.n else if j=bid then Q .normal s' else Q (.exit j) s'
     | e=>Q e s') s1.clear
structure MI(P:Program)[aa P](B:bS)(ro:Option Nat)(C:aK)(r n tr dn tq de bid b1 l bm:Nat)(eops:Array Oper)(body:Code)(Q:Exit->S->Prop)(x0:Option Nat)(N0:Nat)(g0:Mem)(w0:World)(m:Nat)(s:S)(g:Mem)(a:Act)(w:World):Prop where
 st:St P B s g a w
 mono:bQ x0 g0 g w0 w
 U : ∀r,g.U r->r<s.nx
 xx:s.e.x=x0
 nn:s.n=N0
 it : ∃(seen:Array Nat)(c0 sz:Nat),w.heap[l]? = some (.mapIter (some bm) n seen c0)/\n<=c0/\g.M r=some (some bm,maxLen+1,sz)/\MW P ro C r n tr dn tq de bid b1 l eops body Q m seen.toList s
 nI : ¬g.I l
 nM : ∀r c s,g.M r≠some (some l,c,s)
def Zcf{es:Array MapEntry}{i:Nat}{e:MapEntry}(h:es.toList[i]? = some e):(ik es)[2*i]? = some e.key/\(ik es)[2*i+1]? = some e.val:=I7 es.toList i e h
theorem Pq(es:Array MapEntry):(ik es).length=2*es.size:=by
 have h2 : ∀l:List MapEntry,(l.flatMap λe=>[e.key,e.val]).length=2*l.length:=by
  intro l
  induction l with
  | nil=>rfl
  | cons e l ih=>rw[yB];simp only[YA,ih];omega
 exact(h2 es.toList).trans (by rw[Array.length_toList])
theorem ZbM{B:bS}{r n tr dn tq de bid b1 l bm:Nat}{nops eops:Array Oper}{nid eid:Nat}{body:Code}{x0:Option Nat}{N0:Nat}{g0:Mem}{w0:World}{ty1 ty2 ty3:TypeId}{p1 p2 p3:String}{af1 af2 af3:Array Edge}
  (hn0:nops[0]? = some ⟨some dn,.next (.tmp tr) false,ty1,p1,af1,none⟩)(hn1:nops[1]? = some ⟨some tq,.extract (.tmp dn) 0,ty2,p2,af2,none⟩)(hn2:nops.size=2)
  (he0:eops[0]? = some ⟨some de,.entry (.tmp tr),ty3,p3,af3,none⟩)(hl0:w0.heap.size<=l)(hx0:x0≠some l){m:Nat}{s:S}{g:Mem}{a:Act}{w:World}(h:MI P B ro C r n tr dn tq de bid b1 l bm eops body Q x0 N0 g0 w0 m s g a w) :
  (Code.block bid (.loop (.seq (.region nid nops false) (.seq (.cond (.tmp tq) .skip (.exit bid)) (.block b1 (.seq (.region eid eops false) body)))))).wpIn (Fw ro) 0 P
   (λe a' w'=>∃s' g',Q e s'/\St P B s' g' a' w'/\bQ x0 g0 g' w0 w'/\(∀r,g'.U r->r<s'.nx)/\s'.e.x=x0) a w:=by
 refine wpIn_block (wpIn_loop_ghost (λk a' w'=>∃s' g',MI P B ro C r n tr dn tq de bid b1 l bm eops body Q x0 N0 g0 w0 k s' g' a' w') m ⟨s,g,h⟩ ?_)
 rintro k a1 w1 ⟨s1,g1,hi⟩
 obtain⟨seen,c0,sz,hheap,hc0,hM,Af⟩:=hi.it
 cases k with
 | zero=>exact Af.elim
 | succ k =>
 obtain⟨ht,⟨hdn,htq,hde⟩,⟨hne1,hne2⟩,hE,bl,kv,hbl,jV,hlen,hover,hnext⟩:=Af
 have hs:=hi.st
 have hlt:l<w1.heap.size:=(Yb.1 hheap).1
 have hxl:s1.e.x≠some l:=by rw[hi.xx];exact hx0
 have hmap : ∃es aV,w1.heap[bm]? = some (.map es aV)/\aG w1 g1 kv (ik es)/\C8 es aV:=by
  obtain⟨blk,c',h1,h2,h3,h4,h5⟩:=hs.mem.blk r bl hbl;rw[hM]at h1;simp only[XU,Yu]at h1;obtain⟨rfl,rfl,rfl⟩:=h1
  rcases h5 with⟨h5,_⟩|⟨b',cur,h5,k1,k2,k3,k4⟩
  . cases h5
  cases h5
  obtain⟨es,aV,e1,rfl⟩:=k1.map rfl;refine⟨es,aV,e1,?_,k1.stamps e1⟩;rw[Holds,Ps jV]at k4;obtain⟨q0,q⟩:=k4 0 _ rfl;obtain⟨u,u1,_,u3⟩:=q 0 _ rfl
  simp at u1
  subst u1
  cases u3 with|iface _ _ _ u3 =>
  obtain⟨vs,e2,e3⟩:=u3.tuple_inv
  simp at e2
  rw[<-e2]at e3
  simpa using e3
 obtain⟨es,aV,hbm,hrep,Ca,EP⟩:=hmap
 have hsize:es.size=n:=by
  have h1:=hrep.1;rw[hlen,Pq]at h1;omega
 have Ql : ∀e∈es.toList,e.born<n/\es.toList[e.born]? = some e:=by
  intro e he;obtain⟨i,hi⟩:=YG he;have hb:=EP i e hi;have hlt:i<es.toList.length:=(X0.1 hi).1;rw[Array.length_toList,hsize]at hlt;rw[hb];exact⟨hlt,hi⟩
 have hbne:bm≠l:=λe=>by rw[e,hheap]at hbm;cases hbm
 have Jk:a1.eval (.tmp tr) = .pointer (some ⟨l,0,none⟩):=by
  have:=dH hs (.tmp tr);rw[show s1.ev (.tmp tr)=_ from ht]at this
  exact this.v_inv
 have hr2:List.range nops.size=[0,1]:=by rw[hn2];rfl
 have Qg : ∀(d:Nat)(v:Value)(ac:Act),ac.tmps.size=s1.n->d<s1.n->(ac.put (some d) v).eval (.tmp d)=v:=by
  intro d v ac h1 h2;have:d<ac.tmps.size:=by omega
  simp[Act.put,Act.eval,this]
 have Qf : ∀(d e:Nat)(v:Value)(ac:Act),e≠d->(ac.put (some d) v).eval (.tmp e)=ac.eval (.tmp e):=by
  intro d e v ac h1
  simp[Act.put,Act.eval,Ne.symm h1]
 refine wpIn_seq (wpIn_region ?_)
 rw[hr2]
 rcases run_next_at (P:=P) w1 ty1 l bm n c0 seen es aV hheap hbm (λx hx=>(Ql x hx).1) hc0 with⟨hz,hrun⟩|⟨e,hel,w2,hw2,hrun⟩
 .
  refine zK hn0 rfl (λc e=>by cases e) (v:=.tuple #[.bool false]) (w':=w1) (by simp[execOp,Jk,hrun]) ?_
  have hd1:=jl hs (aB.refl g1 w1) hs.mem (dst:=some dn) (by simpa[cu]using hdn) (d:=.tuple [.b false]) (v:=.tuple #[.bool false]) (.mk_tuple (vs:=#[.bool false]) (.cons (.v _) .nil)) True
  refine zK hn1 rfl (λc e=>by cases e) (v:=.bool false) (w':=w1) (by simp[execOp,Qg dn _ a1 hs.sz hdn,Instr.extract]) ?_
  have hd2:=jl hd1 (aB.refl g1 w1) hd1.mem (dst:=some tq) (by simpa[cu]using htq) (d:=.b false) (v:=.bool false) (.v _) True
  have hcv:((a1.put (some dn) (.tuple #[.bool false])).put (some tq) (.bool false)).eval (.tmp tq) = .bool false:=by
   have:tq<a1.tmps.size:=by rw[hs.sz];exact htq
   simp[Act.put,Act.eval,this]
  refine wpIn_seq (wpIn_cond_split hcv (λe=>by cases e) λ_=>wpIn_exit ?_)
  simp only[Exit.then,Exit.inBlock];rw[XY trivial];refine⟨_,g1,hover λi hi=>?_,hd2,hi.mono,hi.U,hi.xx⟩
  have hi':i<es.toList.length:=by rw[Array.length_toList,hsize];exact hi
  have hmem:es.toList[i]∈es.toList:=Yp hi';have hb:=EP i _ (X6 hi');refine YR λhno=>?_
  have:es.toList[i]∈(leftOf es seen).toList:=by
   unfold leftOf;simp only[Array.toList_filter,YJ];refine⟨hmem,?_⟩;rw[hb]
   simpa using hno
  have h0:(leftOf es seen).toList.length=0:=by rw[Array.length_toList];exact hz
  rw[Yf h0]at this
  cases this
 have hel':e∈es.toList/\e.born ∉ seen.toList:=by
  unfold leftOf at hel;simp only[Array.toList_filter,YJ]at hel;refine⟨hel.1,λhm=>?_⟩
  have:=hel.2
  simp at this
  exact this (by simpa using hm)
 obtain⟨he1,he2⟩:=hel'
 obtain⟨hbn,hbe⟩:=Ql e he1
 obtain⟨hk1,hk2⟩:=Zcf hbe
 have hkl:2*e.born+1<kv.length:=by rw[hlen];omega
 obtain⟨s2,hs2,hok2,hbody⟩:=hnext e.born hbn he2 _ _ (X6 om) (X6 hkl)
 have hrk:=hrep.2 (2*e.born) _ _ (X6 (by omega)) hk1
 have hrv:=hrep.2 (2*e.born+1) _ _ (X6 hkl) hk2
 have hsw:St P B s1 g1 a1 w2/\bQ x0 g0 g1 w0 w2/\w2.heap=w1.heap:=by
  rcases hw2 with rfl|rfl
  . exact⟨hs,hi.mono,rfl⟩
  obtain⟨q1,q2⟩:=FK hs;exact⟨q1,hi.mono.trans q2.toX,rfl⟩
 obtain⟨hsw,hmw,hhw⟩:=hsw
 have ZcQ:w2.heap[l]? = some (.mapIter (some bm) n seen c0):=by rw[hhw];exact hheap
 have hlt2:l<w2.heap.size:=by rw[hhw];exact hlt
 generalize hw3:setBlock w2 l (.mapIter (some bm) n (seen.push e.born) aV)=w3 at hrun
 have hs3:St P B s1 g1 a1 w3:=by rw[<-hw3];exact St.iter _ hsw hE ZcQ hi.nI hxl
 have yL:bQ x0 g0 g1 w0 w3:=by rw[<-hw3];exact hmw.iter hl0
 have hb3:w3.heap[bm]? = some (.map es aV):=by rw[<-hw3,uo hbne,hhw];exact hbm
 have hl3:w3.heap[l]? = some (.mapIter (some bm) n (seen.push e.born) aV):=by rw[<-hw3];exact WO hlt2
 have wY : ∀b,g1.I b->g1.I b/\w3.heap[b]? = w1.heap[b]? := λb hb=>⟨hb,by rw[<-hw3,uo (λe=>hi.nI (by rw[<-e];exact hb)),hhw]⟩
 have P5:=hrk.mono wY (λ_ h=>h) (λ_ _=>.inl rfl)
 have PY:=hrv.mono wY (λ_ h=>h) (λ_ _=>.inl rfl)
 refine zK hn0 rfl (λc e=>by cases e) (v:=.tuple #[.bool true,e.key,e.val]) (w':=w3) (by simp[execOp,Jk,hrun]) ?_
 have hd1:=jl hs3 (aB.refl g1 w3) hs3.mem (dst:=some dn) (by simpa[cu]using hdn) (v:=.tuple #[.bool true,e.key,e.val]) (.mk_tuple (vs:=#[.bool true,e.key,e.val]) (.cons (.v (.bool true)) (.cons P5 (.cons PY .nil)))) True
 refine zK hn1 rfl (λc e=>by cases e) (v:=.bool true) (w':=w3) (by simp[execOp,Qg dn _ a1 hs.sz hdn,Instr.extract]) ?_
 have hd2:=jl hd1 (aB.refl g1 w3) hd1.mem (dst:=some tq) (by simpa[cu]using htq) (d:=.b true) (v:=.bool true) (.v _) True
 generalize ha2:((a1.put (some dn) (.tuple #[.bool true,e.key,e.val])).put (some tq) (.bool true))=a2 at hd2
 have hcv:a2.eval (.tmp tq) = .bool true:=by
  have:tq<a1.tmps.size:=by rw[hs.sz];exact htq
  rw[<-ha2]
  simp[Act.put,Act.eval,this]
 have hptr2:a2.eval (.tmp tr) = .pointer (some ⟨l,0,none⟩):=by
  rw[<-ha2,Qf _ _ _ _ hne2,Qf _ _ _ _ hne1];exact Jk
 refine wpIn_seq (wpIn_cond_split hcv (λ_=>wpIn_skip ?_) λe=>by cases e)
 have hnod:(es.toList.map (·.born)).Nodup:=by
  have:es.toList.map (·.born)=List.range es.toList.length:=by
   apply List.ext_getElem
   . simp
   intro i h1 h2;simp only[List.getElem_map,List.getElem_range];exact EP i _ (X6 (by simpa using h1))
  rw[this];exact List.nodup_range
 have hent:=run_entry_at (P:=P) w3 l bm n seen es aV e hl3 hb3 he1 hnod
 refine wpIn_block (wpIn_seq (wpIn_region ?_))
 have hesz:0<eops.size:=(Yb.1 he0).1
 have hre:List.range eops.size=0::List.range' 1 (eops.size-1):=by
  rw[Zm];have:eops.size=(eops.size-1)+1:=by omega
  conv=>lhs;rw[this,Zi]
 rw[hre]
 refine zK he0 rfl (λc e=>by cases e) (v:=.tuple #[e.key,e.val]) (w':=w3) (by simp[execOp,hptr2,hent]) ?_
 have hd3:=jl hd2 (aB.refl g1 w3) hd2.mem (dst:=some de) (by simpa[cu]using hde) (v:=.tuple #[e.key,e.val]) (.mk_tuple (vs:=#[e.key,e.val]) (.cons P5 (.cons PY .nil))) True
 have hd4:St P B { n:=s1.n,t:=upd (upd (upd s1.t dn (.tuple [.b true,kv[2*e.born],kv[2*e.born+1]])) tq (.b true)) de (.tuple [kv[2*e.born],kv[2*e.born+1]]),h:=s1.h,nx:=s1.nx+eops.size,ok:=True,e:=s1.e } g1 (a2.put (some de) (.tuple #[e.key,e.val])) w3:=⟨hd3.sz,hd3.tm,hd3.mem,hd3.df,hd3.en,hd3.bd⟩
 have e3:(eops.toList.drop 1).take (eops.size-1)=eops.toList.drop 1:=Yh (by simp)
 have:=tK (ro:=ro) (P:=P) (C:=C) (B:=B) (ops:=eops) (b:=s1.nx) (n:=0) (rest:=[]) (g0:=g1) (w0:=w3)
  (Q:=Exit.then (λa' w'=>body.wpIn (Fw ro) 0 P (Exit.inBlock b1 (Exit.then (λa' w'=>∃k',k'<k+1 /\ ∃s' g',MI P B ro C r n tr dn tq de bid b1 l bm eops body Q x0 N0 g0 w0 k' s' g' a' w') (Exit.inBlock bid λe a' w'=>∃s' g',Q e s'/\St P B s' g' a' w'/\bQ x0 g0 g' w0 w'/\(∀r,g'.U r->r<s'.nx)/\s'.e.x=x0))) a' w') (Exit.inBlock b1 (Exit.then (λa' w'=>∃k',k'<k+1 /\ ∃s' g',MI P B ro C r n tr dn tq de bid b1 l bm eops body Q x0 N0 g0 w0 k' s' g' a' w') (Exit.inBlock bid λe a' w'=>∃s' g',Q e s'/\St P B s' g' a' w'/\bQ x0 g0 g' w0 w'/\(∀r,g'.U r->r<s'.nx)/\s'.e.x=x0))))
  (eops.size-1) 1 _ g1 _ _ hd4 (aB.refl _ _) (λr hr=>by have:=hi.U r hr;omega) (by omega) (by rw[e3,hs2];exact hok2) λg4 a4 w4 q1 q2 q3=>?_
 . rw[YZ]at this;exact this
 rw[e3,hs2]at q1
 have hnx:s2.nx=s1.nx+eops.size:=by
  have:=J3 (P:=P) (C:=C) eops.toList s1.nx (eops.toList.drop 1) 1 { n:=s1.n,t:=upd (upd (upd s1.t dn (.tuple [.b true,kv[2*e.born],kv[2*e.born+1]])) tq (.b true)) de (.tuple [kv[2*e.born],kv[2*e.born+1]]),h:=s1.h,nx:=s1.nx+eops.size,ok:=True,e:=s1.e };rw[hs2]at this;exact this
 have hse:s2.e=s1.e:=by
  have:=Al (P:=P) (C:=C) eops.toList s1.nx (eops.toList.drop 1) 1 { n:=s1.n,t:=upd (upd (upd s1.t dn (.tuple [.b true,kv[2*e.born],kv[2*e.born+1]])) tq (.b true)) de (.tuple [kv[2*e.born],kv[2*e.born+1]]),h:=s1.h,nx:=s1.nx+eops.size,ok:=True,e:=s1.e };rw[hs2]at this;exact this
 have hsn:s2.n=s1.n:=by
  have : ∀(os:List Oper)(i:Nat)(u:S),(bN P (words P) C eops.toList s1.nx i os u).n=u.n:=by
   intro os
   induction os with
   | nil=>intro i u;rfl
   | cons x os ih=>intro i u;simp only[bN];rw[ih,xh.1]
  have:=this (eops.toList.drop 1) 1 { n:=s1.n,t:=upd (upd (upd s1.t dn (.tuple [.b true,kv[2*e.born],kv[2*e.born+1]])) tq (.b true)) de (.tuple [kv[2*e.born],kv[2*e.born+1]]),h:=s1.h,nx:=s1.nx+eops.size,ok:=True,e:=s1.e };rw[hs2]at this;exact this
 have hnl : ∀{g g':Mem}{x:Option Nat}{w w':World},bQ x g g' w w'->l<w.heap.size -> ¬g.I l->(∀r c s,g.M r≠some (some l,c,s)) -> ¬g'.I l /\ ∀r c s,g'.M r≠some (some l,c,s):=by
  intro g g' x w w' hm hlt hI hM;refine⟨λh=>?_,λr c s h=>?_⟩
  .
   rcases hm.inew l h with h|h|⟨r,c,s,h⟩
   . exact hI h
   . omega
   exact hM r c s h
  rcases hm.new r l c s h with⟨r',c',s',h⟩|h
  . exact hM _ _ _ h
  omega
 have hlt3:l<w3.heap.size:=(Yb.1 hl3).1
 obtain⟨hI4,hM4⟩:=hnl (x:=none) q2.toX hlt3 hi.nI hi.nM
 have hl4:w4.heap[l]? = some (.mapIter (some bm) n (seen.push e.born) aV):=by rw[q2.same l hlt3 hi.nM];exact hl3
 have Qa:l<w4.heap.size:=(Yb.1 hl4).1
 have hU4 : ∀r,g4.U r->r<s2.clear.nx:=λr hr=>by
  have:=q3 r hr
  show r<s2.nx
  rw[hnx];omega
 refine wpIn_mono (hbody B g4 a4 w4 q1.clear hU4) ?_
 rintro e5 a5 w5 ⟨s5,g5,sS,hs5,Ad,hU5,hx5⟩
 have hx2:s2.clear.e.x=x0:=by show s2.e.x=x0;rw[hse,hi.xx]
 rw[hx2]at Ad hx5
 obtain⟨hI5,hM5⟩:=hnl Ad Qa hI4 hM4
 have hl5:w5.heap[l]? = some (.mapIter (some bm) n (seen.push e.born) aV):=by rw[Ad.same l Qa hM4 hx0];exact hl4
 have ES:bQ x0 g0 g5 w0 w5:=(yL.trans q2.toX).trans Ad
 have again:MW P ro C r n tr dn tq de bid b1 l eops body Q k (seen.toList++[e.born]) s5/\s5.n=s1.n -> ∃k',k'<k+1 /\ ∃s' g',MI P B ro C r n tr dn tq de bid b1 l bm eops body Q x0 N0 g0 w0 k' s' g' a5 w5:=by
  rintro⟨h1,h2⟩;refine⟨k,om,s5,g5,⟨hs5,ES,hU5,hx5,?_,⟨seen.push e.born,aV,sz,hl5,by rw[Ca];omega,?_,by rw[Array.toList_push];exact h1⟩,hI5,hM5⟩⟩
  . rw[h2,hi.nn]
  have hne:g5.M r≠none:=by
   cases k with
   | zero=>exact h1.elim
   | succ k =>
    obtain⟨_,_,_,_,bl5,kv5,hb5,_⟩:=h1;obtain⟨blk,c',h3,_⟩:=hs5.mem.blk r bl5 hb5;rw[h3];simp
  have eU:g1.U r:=hs.mem.used r (by rw[hM];simp)
  rcases q2.M r eU with h4|h4
  .
   rcases Ad.M r (q2.U r eU)with h5|h5
   . rw[h5,h4];exact hM
   exact absurd h5 hne
  rcases Ad.M r (q2.U r eU)with h5|h5
  . rw[h5,h4]at hne;exact absurd rfl hne
  exact absurd h5 hne
 cases e5 with
 | normal=>exact again sS
 | exit j =>
  simp only at sS;simp only[Exit.inBlock]
  by_cases hj:j=b1
  . rw[XY hj]at sS ⊢;exact again sS
  rw[XW hj]at sS ⊢
  by_cases hj2:j=bid
  . rw[XY hj2]at sS;simp only[Exit.then,Exit.inBlock];rw[XY hj2];exact⟨s5,g5,sS,hs5,ES,hU5,hx5⟩
  rw[XW hj2]at sS;simp only[Exit.then,Exit.inBlock];rw[XW hj2];exact⟨s5,g5,sS,hs5,ES,hU5,hx5⟩
 | _=>exact⟨s5,g5,sS,hs5,ES,hU5,hx5⟩
end
section
variable [aa P] {ro : Option Nat} {Q : Exit -> S -> Prop} {C : aK}
theorem Gq{r n tr dn tq de bid b1 l:Nat}{eops:Array Oper}{body:Code}{Q':Exit->S->Prop}(hq : ∀e s,Q e s->Q' e s):∀{m:Nat}{seen:List Nat}{s:S},MW P ro C r n tr dn tq de bid b1 l eops body Q m seen s->MW P ro C r n tr dn tq de bid b1 l eops body Q' m seen s
 | 0,_,_,h=>h.elim
 | m+1,seen,s,h=>by
  obtain⟨h1,h2,h3,h4,bl,kv,h5,h6,h7,h8,h9⟩:=h;refine⟨h1,h2,h3,h4,bl,kv,h5,h6,h7,λk=>hq _ _ (h8 k),λi hi hs k v hk hv=>?_⟩
  obtain⟨s1,q1,q2,q3⟩:=h9 i hi hs k v hk hv;refine⟨s1,q1,q2,DW.mono q3 λe s' h=>?_⟩
  cases e with
  | normal=>exact⟨Gq hq h.1,h.2⟩
  | exit j =>
   simp only at h ⊢
   split
   . rename_i e;rw[XY e]at h;exact⟨Gq hq h.1,h.2⟩
   rename_i e
   rw[XW e]at h
   split
   . rename_i e;rw[XY e]at h;exact hq _ _ h
   rename_i e;rw[XW e]at h;exact hq _ _ h
  | _=>exact hq _ _ h
def St.junk{B:bS}{s:S}{g:Mem}{a:Act}{w:World}(hs:St P B s g a w)(tr:Nat):St P B { s with t:=upd s.t tr .junk,ok:=True } g a w:=by
 refine⟨hs.sz,λi=>?_,hs.mem,hs.df,hs.en,hs.bd⟩
 by_cases e:i=tr
 . subst e;simp only[bK];exact .junk _
 simp only[aL _ _ _ _ e]
 exact hs.tm i
def Zeh{s s1:S}{id nid eid bid b1 i r n tr dn tq de m0:Nat}{ops nops eops:Array Oper}{body:Code}{ty ty0 ty1 ty2 ty3:TypeId}{p0 p1 p2 p3:String}{af0 af1 af2 af3:Array Edge}{bl:ax}{kv:List D}
  (hE:AV s.e)(hr0:ops[i]? = some ⟨some tr,.range ty (.tmp m0),ty0,p0,af0,none⟩)(hi:ops.size=i+1)(hn0:nops[0]? = some ⟨some dn,.next (.tmp tr) false,ty1,p1,af1,none⟩)(hn1:nops[1]? = some ⟨some tq,.extract (.tmp dn) 0,ty2,p2,af2,none⟩)(hn2:nops.size=2)
  (he0:eops[0]? = some ⟨some de,.entry (.tmp tr),ty3,p3,af3,none⟩)(hpre:bN P (words P) C ops.toList s.nx 0 (ops.toList.take i) { s with nx:=s.nx+ops.size,ok:=True }=s1)(hok:s1.ok)
  (hm:s1.t m0 = .mp r)(hbl:s1.h r=some bl)(jV:iF bl=some kv)(hlen:kv.length=2*n)(hty:(lu P ty).isSome=true)(htr:tr<s1.n)
  (Af : ∀l,∃m,MW P ro C r n tr dn tq de bid b1 l eops body (λe s'=>Q e { s' with t:=upd s'.t tr .junk,ok:=True }) m [] { s1 with t:=upd s1.t tr (.v (.pointer (some ⟨l,0,none⟩))),ok:=True }) :
  DW P ro (.seq (.region id ops false) (.block bid (.loop (.seq (.region nid nops false) (.seq (.cond (.tmp tq) .skip (.exit bid)) (.block b1 (.seq (.region eid eops false) body))))))) Q s:=by
 intro B g a w hs hU
 have hs0:St P B { s with nx:=s.nx+ops.size,ok:=True } g a w:=⟨hs.sz,hs.tm,hs.mem,hs.df,hs.en,hs.bd⟩
 refine wpIn_seq (wpIn_region ?_)
 have hrr:List.range ops.size=List.range' 0 i++[i]:=by rw[hi,List.range_succ,Zm]
 rw[hrr]
 have e0:(ops.toList.drop 0).take i=ops.toList.take i:=rfl
 refine tK (C:=C) (b:=s.nx) i 0 _ g a w hs0 (aB.refl _ _) (λr hr=>by have:=hU r hr;omega) (by omega) (by rw[e0,hpre];exact hok) λg1 a1 w1 hs1 hm1 eU=>?_
 rw[e0,hpre]at hs1
 have hnx:s1.nx=s.nx+ops.size:=by
  have:=J3 (P:=P) (C:=C) ops.toList s.nx (ops.toList.take i) 0 { s with nx:=s.nx+ops.size,ok:=True }
  rw[hpre]at this;exact this
 have hse:s1.e=s.e:=by
  have:=Al (P:=P) (C:=C) ops.toList s.nx (ops.toList.take i) 0 { s with nx:=s.nx+ops.size,ok:=True }
  rw[hpre]at this;exact this
 have hrep:=dH hs1 (.tmp m0)
 rw[show s1.ev (.tmp m0)=_ from hm]at hrep
 obtain⟨bm,es,aV,hv,hb,hkr,hM,hnI,_⟩:=zT hs1.mem hrep hbl jV
 obtain⟨Ca,EP⟩:=O4 hs1.mem hbl hM hb
 have hsize:es.size=n:=by
  have h1:=hkr.1;rw[hlen,Pq]at h1;omega
 obtain⟨⟨kt,et⟩,hmt⟩:=Yq.1 hty
 have hu:=BJ hmt
 have hrun:(execOp a1.eval (⟨some tr,.range ty (.tmp m0),ty0,p0,af0,none⟩:Oper)).run P w1 = .ok (.value (.pointer (some ⟨w1.heap.size,0,none⟩))) (w1.alloc (.mapIter (some bm) aV #[] aV)):=by
  simp[execOp,Instr.range,run_underlying hu,hv,MapKept.run_getObj_map hb]
 refine zK hr0 rfl (λc e=>by cases e) hrun ?_
 obtain⟨Ch,hmo⟩:=hs1.mem.lay (.mapIter (some bm) aV #[] aV)
 obtain⟨m,Af⟩:=Af w1.heap.size
 have hd:=jl hs1 hmo Ch (dst:=some tr) (by simpa[cu]using htr) (d:=.v (.pointer (some ⟨w1.heap.size,0,none⟩))) (v:=.pointer (some ⟨w1.heap.size,0,none⟩)) (.v _) True
 have hlt1 : ∀k,s.e.x=some k->k<w.heap.size:=λk hk=>hE.lt g w hs.en k hk
 have hsz1:w.heap.size<=w1.heap.size:=hm1.size
 refine wpIn_mono (ZbM (B:=B) (ro:=ro) (C:=C) (r:=r) (n:=n) (bm:=bm) (l:=w1.heap.size) (nid:=nid) (eid:=eid) (x0:=s.e.x) (N0:=s1.n) (g0:=g) (w0:=w) (Q:=λe s'=>Q e { s' with t:=upd s'.t tr .junk,ok:=True }) hn0 hn1 hn2 he0 hsz1 (λe=>by have:=hlt1 _ e;omega) (m:=m) (s:={ s1 with t:=upd s1.t tr (.v (.pointer (some ⟨w1.heap.size,0,none⟩))),ok:=True }) (g:=g1) ?_) ?_
 .
  refine⟨hd,(hm1.trans hmo).toX,λr hr=>?_,by rw[<-hse],rfl,⟨#[],aV,P.cellsOf bl.ty,?_,om,hM,Af⟩,λh=>?_,λr c s h=>?_⟩
  .
   have:=eU r hr
   show r<s1.nx
   rw[hnx];omega
  . have:=World.alloc_heap_new w1 (.mapIter (some bm) aV #[] aV);rw[this,Ca,hsize]
  . have:=hs1.mem.imm _ h;omega
  have:=(lT hs1.mem h).1;omega
 rintro e a' w' ⟨s',g',q,r1,r2,r3,r4⟩
 exact⟨_,g',q,r1.junk tr,r2,r3,r4⟩
end
section
variable [aa P] {V : Ev} {R : Rn} {ro : Option Nat} {Q : Exit -> S -> Prop} {l : Nat × Nat} {E : Option Code -> Env}
theorem KE{o1 outs:List (Exit×X)}{k:X->Option (List (Exit×X))}(h:FY (some o1) k=some outs):∀o∈o1,(o.1 = .normal /\ ∃o2,k o.2=some o2 /\ ∀q∈o2,q∈outs)\/(o.1 ≠ .normal/\o∈outs):=by
 intro o ho
 obtain⟨e,y⟩:=o
 obtain⟨o2,k2,k3⟩:=mJ (show iW _ o1=some outs from h) _ ho
 cases e with
 | normal=>exact .inl ⟨rfl,o2,k2,k3⟩
 | _ =>
  simp only[XU]at k2;subst k2;exact .inr ⟨by simp,k3 _ (.head _)⟩
theorem Tc{o1 outs:List (Exit×X)}{k:X->Option (List (Exit×X))}(h:FY (some o1) k=some outs):∀o∈outs,(∃a∈o1,∃o2,k a.2=some o2/\o∈o2)\/o∈o1:=by
 intro o ho
 obtain⟨⟨e,y⟩,k1,o2,k2,k3⟩:=pI (show iW _ o1=some outs from h) o ho
 cases e with
 | normal=>exact .inl ⟨_,k1,o2,k2,k3⟩
 | _ =>
  simp only[XU]at k2;subst k2;rw[Yd.1 k3];exact .inr k1
theorem ML(l:Nat×Nat):∀(ps:List Nat)(xs:List D)(t:Tr),xs.any dC=false -> ∃t',(∀{α:Type}(k:Tr->α),Dz t ps xs k=k t')/\(λi=>dQ l (dA t' (bP i)))=lZ (λi=>dQ l (dA t (bP i))) ps xs
 | [],xs,t,_=>⟨t,λk=>by cases xs<;>rfl,by rw[zw]⟩
 | p::ps,[],t,_=>⟨t,λk=>rfl,rfl⟩
 | p::ps,d::ds,t,h=>by
  obtain⟨t1,h1,h2⟩:=kr (bP p) t d;simp only[List.any_cons,Ya]at h;obtain⟨t2,h3,h4⟩:=ML l ps ds t1 h.2;refine⟨t2,λk=>by simp only[Dz,h1,h3],?_⟩
  rw[h4,zz]
  congr 1
  funext i
  rw[h2];simp only[upd]
  by_cases e:i=p
  . subst e;simp[wm h.1]
  rw[XW (λq=>e (DX q)),XW e]
theorem SL0(x:X):x.SL L0 EO={ n:=x.n,t:=λi=>dA x.t (bP i),h:=htab x.h,nx:=x.nx }:=by
 simp only[X.SL,S.mk.injEq,true_and,and_true]
 exact⟨funext λi=>Zae _,rfl⟩
def Zcn{b:Bool}{j:Option Code}:∀(e:Exit),Jd e=some (b,j)->(match e with | .normal=>b=true/\j=none | .ret=>b=false/\j=some .ret | .exit i=>b=false/\j=some (.exit i)|_=>False):=by
 intro e h
 cases e<;>simp only[Jd,XU,Yu]at h<;>first|exact⟨h.1.symm,h.2.symm⟩|cases h
theorem XP(hk:vJ P R.code){x:X}{ps:Array Tmp}{assign body:Code}{l:Nat×Nat}(hl:l.1=0)(l':Nat):K9 P (Bo R x ps assign body) ps.toList x.n assign body (λi=>dQ l (dA x.t (bP i))) l':=by
 intro xs h nx outs ho
 unfold Bo at ho
 split at ho
 .
  rename_i hc
  obtain⟨c1,c2,c3⟩:=hc;simp only[Yg,XV]at c3;refine⟨by rw[Array.length_toList];exact c1,c3,?_⟩
  obtain⟨t',t1,t2⟩:=ML l ps.toList xs x.t c2;rw[t1]at ho
  split at ho
  . cases ho
  rename_i o1 h1
  have d1:=((hk .round assign _ o1 h1).2 (some l') l EO ⟨hl,rfl⟩).1;simp only[X.SL,t2]at d1;refine DW.mono d1 ?_;rintro e s ⟨⟨e',y⟩,k1,he,hs⟩;rw[he,hs];obtain⟨o2,k2,k3⟩:=mJ ho _ k1
  cases e' with
  | normal =>
   simp only at k2
   split at k2
   . cases k2
   rename_i o3 h3
   refine⟨rfl,DW.mono ((hk .round body y o3 h3).2 (some l') l EO ⟨hl,rfl⟩).1 ?_⟩;rintro e s ⟨q,hq,rfl,rfl⟩;obtain⟨o4,k4,k5⟩:=mJ k2 q hq
   split at k4
   .
    rename_i b j hj
    simp only[XU]at k4;subst k4;exact⟨rfl,b,j,Zcn _ hj,_,k3 _ (k5 _ (.head _)),rfl,rfl,rfl,rfl⟩
   cases k4
  | _=>cases k2
 cases ho
theorem Zfr(hk:vJ P R.code){gf:Operand}{ps:Array Tmp}{assign body:Code}{x:X}{outs:List (Exit×X)}(h:KF P R gf ps assign body x=some outs):(∀o∈outs,o.2.n=x.n) /\ ∀l0:Nat×Nat,l0.1=0->DW P none (.rangeFunc gf ps assign body) (λe s=>∃o∈outs,e=o.1/\s=o.2.SL l0 EO) (x.SL l0 EO):=by
 unfold KF at h
 split at h
 .
  rename_i k first aP hev
  split at h
  . cases h
  rename_i fn hf
  split at h
  . cases h
  rename_i c hb
  split at h
  .
   rename_i hq
   obtain⟨hbd,hn,hres,htk⟩:=hq;obtain⟨t,t1,t2⟩:=GQ (first++[tok]++aP) 0 .nil
   rw[t1]at h
   split at h
   . cases h
   rename_i o1 h1
   have each : ∀o∈o1,∀o2,(if zY o.1=true then(match FB o.2.j with
     | some e=>some [(e,(⟨x.n,x.t,o.2.h,o.2.nx,x.j⟩:X))]
     | none=>none)else none)=some o2->zY o.1=true /\ ∃e,FB o.2.j=some e/\o2=[(e,⟨x.n,x.t,o.2.h,o.2.nx,x.j⟩)]:=by
    intro o _ o2 h2
    split at h2
    .
     rename_i hl
     split at h2
     .
      rename_i e he
      simp only[XU]at h2;exact⟨hl,e,he,h2.symm⟩
     cases h2
    cases h2
   refine⟨λo ho=>?_,λl0 hl0=>?_⟩
   . obtain⟨a,ha,o2,h2,h3⟩:=pI h o ho;obtain⟨_,e,_,rfl⟩:=each a ha o2 h2;rw[Yd.1 h3]
   refine Am (s:=x.SL l0 EO) (f:=k) (fn:=fn) (c:=c) (first:=first) (aP:=aP) rfl (by rw[lG (by rw[hev];rfl)];exact hev) hf hb hbd hn (by simpa using hres) λl r e1 e2 e3 e4=>?_
   have e4:r.tmps.size=x.n:=e4;have hR:K9 P (Bo R x ps assign body) r.params.toList r.tmps.size r.assign r.body (x.SL l0 EO).t l:=by
    rw[e1,e2,e3,e4];exact XP hk hl0 l
   have d1:=((hk (.iter (Bo R x ps assign body)) c _ o1 h1).2 none (l,l0.2) (λj=>Env.loop l (recAt r j) (x.SL l0 EO).t) ⟨rfl,r,_,rfl,hR⟩).1
   have hinit:(X.mk fn.ntmps t x.h x.nx none).SL (l,l0.2) (λj=>Env.loop l (recAt r j) (x.SL l0 EO).t)={ n:=fn.ntmps,t:=λi=>(first++[D.fn (.yield l) [] []]++aP).getD i .junk,h:=(x.SL l0 EO).h,nx:=(x.SL l0 EO).nx,e:=Env.loop l (recAt r none) (x.SL l0 EO).t }:=by
    simp only[X.SL,S.mk.injEq,true_and,and_true]
    funext i
    rw[t2];have P6 : ∀d∈first++aP,dQ (l,l0.2) d=d:=λd hd=>wm (by
     rw[List.any_eq_false]at htk
     simpa using htk d hd)
    have hmap:(first++[D.fn (.yield l) [] []]++aP)=(first++[tok]++aP).map (dQ (l,l0.2)):=by
     rw[YQ,YQ];have a1:first.map (dQ (l,l0.2))=first:=by
      conv=>rhs;rw[<-List.map_id first]
      exact YK λd hd=>P6 d (Yo.2 (.inl hd))
     have a2:aP.map (dQ (l,l0.2))=aP:=by
      conv=>rhs;rw[<-List.map_id aP]
      exact YK λd hd=>P6 d (Yo.2 (.inr hd))
     rw[a1,a2];rfl
    rw[hmap]
    by_cases hi:i<(first++[tok]++aP).length
    . rw[XY ⟨Yl _,om⟩];simp only[List.getD,Nat.sub_zero,Ym];rw[X6 hi];rfl
    rw[XW (λq=>hi (by omega))]
    simp only[List.getD,Ym];rw[Zt (by omega)]
    rfl
   rw[hinit]at d1;refine DW.mono d1 ?_;rintro e s ⟨o,ho,rfl,rfl⟩;obtain⟨o2,k2,k3⟩:=mJ h o ho;obtain⟨hl,e,he,rfl⟩:=each o ho o2 k2;refine⟨?_,o.2.j,rfl,?_⟩
   .
    generalize o.1=e' at hl
    cases e'<;>first|exact .inl rfl|exact .inr rfl|cases hl
   have hmem:=k3 _ (.head _);generalize hj:o.2.j=j at he;unfold FB at he
   split at he
   . simp only[XU]at he;subst he;exact⟨_,hmem,rfl,rfl⟩
   . simp only[XU]at he;subst he;exact⟨_,hmem,rfl,rfl⟩
   . simp only[XU]at he;subst he;exact⟨_,hmem,rfl,rfl⟩
   cases he
  cases h
 cases h
end
section
variable [aa P] {V : Ev} {R : Rn} {ro : Option Nat} {Q : Exit -> S -> Prop} {l : Nat × Nat} {E : Option Code -> Env}
theorem IB : ∀{t:Tr},yo t=true -> ∀p,nL (dA t p)=false
 | .nil,_,p=>by rw[GN];rfl
 | .node d l r,h,p=>by
  simp only[yo,XT,X5]at h
  cases p with
  | nil=>exact h.1.1
  | cons b p=>cases b with
   | true=>exact IB h.1.2 p
   | false=>exact IB h.2 p
def Zad{l2:Nat}{d:D}(h:nL d=false):dQ (l.1,l2) d=dQ l d:=by
 unfold dQ
 rw[h]
 rfl
theorem Uf{l2:Nat}{x:X}(h:yo x.t=true):x.SL (l.1,l2) E=x.SL l E:=by
 simp only[X.SL,S.mk.injEq,true_and,and_true]
 funext i
 exact Zad (IB h _)
def Uv{yf:Yc}{l2:Nat}(h:vF P yf ro l E):vF P yf ro (l.1,l2) E:=by
 cases yf<;>exact h
theorem Gx{yf:Yc}(h:vF P yf ro l E)(j:Option Code):AV (E j):=by
 cases yf with
 | top=>obtain⟨_,_,rfl⟩:=h;exact Q4
 | round=>obtain⟨_,rfl⟩:=h;exact Q4
 | iter y=>obtain⟨_,r,t,rfl,_⟩:=h;exact Zdz
theorem ze{x:X}{i:Nat}{d:D}{t':Tr}(ht : ∀q,dA t' q=if q=bP i then d else dA x.t q){h:List (Nat×ax)}{nx:Nat}:(X.mk x.n t' h nx x.j).SL l E={ n:=x.n,t:=upd (x.SL l E).t i (dQ l d),h:=htab h,nx:=nx,e:=E x.j }:=by
 simp only[X.SL,S.mk.injEq,true_and,and_true]
 funext k
 rw[ht]
 simp only[upd]
 by_cases e:k=i
 . subst e;simp
 rw[XW (λq=>e (DX q)),XW e]
theorem BK(hV:vH P V)(hk:vJ P R.code){yf:Yc}{r n tr dn tq de bid b1:Nat}{eops:Array Oper}{body:Code}:∀(m:Nat)(seen:List Nat)(x:X)(outs:List (Exit×X)),zU P V R yf r n tr dn tq de bid b1 eops body m seen x=some outs ->
  (∀o∈outs,o.2.n=x.n) /\ ∀ro l E,vF P yf ro l E->MW P ro (V.T.con true false) r n tr dn tq de bid b1 l.2 eops body (λe s=>∃o∈outs,e=o.1/\s=o.2.SL l E) m seen (x.SL l E)
 | 0,_,_,_,h=>by cases h
 | m+1,seen,x,outs,h=>by
  unfold zU at h
  split at h
  .
   rename_i hc
   obtain⟨c1,c2,c3⟩:=hc;have htr : ∀l E,(x.SL l E).t tr = .v (.pointer (some ⟨l.2,0,none⟩)):=by
    intro l E
    show dQ l (dA x.t (bP tr))=_
    rw[Jf c1];rfl
   split at h
   . cases h
   rename_i bl hbl
   split at h
   . cases h
   rename_i kv jV
   split at h
   .
    rename_i hlen
    split at h
    .
     rename_i hf
     obtain⟨t1,u1,u2⟩:=kr (bP dn) x.t (.tuple [.b false]);obtain⟨t2,u3,u4⟩:=kr (bP tq) t1 (.b false);rw[u1,u3,XU]at h;subst h;refine⟨by simp,λro l E hy=>⟨htr l E,c2,c3,Gx hy _,bl,kv,hbl,jV,hlen,λ_=>⟨_,.head _,rfl,?_⟩,λi hi hs=>?_⟩⟩
     .
      have e1:=ze (l:=l) (E:=E) (x:=X.mk x.n t1 x.h x.nx x.j) u4 (h:=x.h) (nx:=x.nx);have e2:=ze (l:=l) (E:=E) (x:=x) u2 (h:=x.h) (nx:=x.nx)
      show _=(X.mk x.n t2 x.h x.nx x.j).SL l E
      rw[e1,e2];rfl
     have:i∈(List.range n).filter (λi=>!seen.contains i):=by
      simp only[YJ,Y2];exact⟨hi,by simpa using hs⟩
     rw[hf]at this
     cases this
    rename_i c cs hf
    have hcand : ∀i,i<n->i ∉ seen->i∈c::cs:=by
     intro i hi hs;rw[<-hf];simp only[YJ,Y2];exact⟨hi,by simpa using hs⟩
    have hc0:c<n/\c ∉ seen:=by
     have:c∈(List.range n).filter (λi=>!seen.contains i):=by rw[hf];exact .head _
     simp only[YJ,Y2]at this;exact⟨this.1,by simpa using this.2⟩
    refine⟨λo ho=>?_,λro l E hy=>⟨htr l E,c2,c3,Gx hy _,bl,kv,hbl,jV,hlen,λhall=>absurd (hall c hc0.1) hc0.2,λi hi hs k v hk1 hv1=>?_⟩⟩
    .
     obtain⟨i,hi,o1,h1,h2⟩:=pI h o ho
     split at h1
     .
      rename_i k v hk1 hv1
      split at h1
      .
       obtain⟨t1,u1,u2⟩:=kr (bP dn) x.t (.tuple [.b true,k,v]);obtain⟨t2,u3,u4⟩:=kr (bP tq) t1 (.b true);obtain⟨t3,u5,u6⟩:=kr (bP de) t2 (.tuple [k,v]);rw[u1,u3,u5,jY]at h1
       split at h1
       . cases h1
       rename_i x2 hx2
       obtain⟨_,_,_,r3,_⟩:=zL (l:=L0) (E:=EO) hV.T _ _ _ _ True hx2
       split at h1
       . cases h1
       rename_i o2 h3
       obtain⟨q,hq,o3,h4,h5⟩:=pI h1 o h2;have rM:q.2.n=x.n:=((hk yf body x2 o2 h3).1 q hq).trans r3;obtain⟨e',y⟩:=q
       cases e' with
       | normal=>exact((BK hV hk m _ _ _ h4).1 o h5).trans rM
       | exit j =>
        simp only at h4
        split at h4
        . exact((BK hV hk m _ _ _ h4).1 o h5).trans rM
        split at h4
        . simp only[XU]at h4;subst h4;rw[Yd.1 h5];exact rM
        simp only[XU]at h4;subst h4;rw[Yd.1 h5];exact rM
       | _ =>
        simp only[XU]at h4;subst h4;rw[Yd.1 h5];exact rM
      cases h1
     cases h1
    obtain⟨o1,h1,h2⟩:=mJ h i (hcand i hi hs);rw[hk1,hv1]at h1;simp only at h1
    split at h1
    .
     rename_i htk
     obtain⟨t1,u1,u2⟩:=kr (bP dn) x.t (.tuple [.b true,k,v]);obtain⟨t2,u3,u4⟩:=kr (bP tq) t1 (.b true);obtain⟨t3,u5,u6⟩:=kr (bP de) t2 (.tuple [k,v]);rw[u1,u3,u5,jY]at h1
     split at h1
     . cases h1
     rename_i x2 hx2
     obtain⟨q',r1,r2,r3,r4,r5⟩:=zL (l:=l) (E:=E) hV.T _ _ _ _ True hx2
     split at h1
     . cases h1
     rename_i o2 h3
     have e1:=ze (l:=l) (E:=E) (x:=X.mk x.n t2 x.h x.nx x.j) u6 (h:=x.h) (nx:=x.nx+eops.size);have e2:=ze (l:=l) (E:=E) (x:=X.mk x.n t1 x.h x.nx x.j) u4 (h:=x.h) (nx:=x.nx);have e3:=ze (l:=l) (E:=E) (x:=x) u2 (h:=x.h) (nx:=x.nx);have e4:(X.mk x.n t3 x.h (x.nx+eops.size) x.j).SL l E={ n:=x.n,t:=upd (upd (upd (x.SL l E).t dn (.tuple [.b true,k,v])) tq (.b true)) de (.tuple [k,v]),h:=htab x.h,nx:=x.nx+eops.size,e:=E x.j }:=by
      rw[e1,e2,e3];rfl
     rw[e4]at r2;refine⟨_,r2,r1 trivial,DW.mono ((hk yf body x2 o2 h3).2 ro l E hy).1 ?_⟩;rintro e s ⟨q,hq,rfl,rfl⟩;obtain⟨o3,h4,h5⟩:=mJ h1 q hq;have rM:(q.2.SL l E).n=(x.SL l E).n:=((hk yf body x2 o2 h3).1 q hq).trans r3;have again:zU P V R yf r n tr dn tq de bid b1 eops body m (seen++[i]) q.2=some o3->MW P ro (V.T.con true false) r n tr dn tq de bid b1 l.2 eops body (λe s=>∃o∈outs,e=o.1/\s=o.2.SL l E) m (seen++[i]) (q.2.SL l E):=λh4 =>
      Gq (λe s⟨o,z1,z2⟩=>⟨o,h2 o (h5 o z1),z2⟩) ((BK hV hk m _ _ _ h4).2 ro l E hy)
     obtain⟨e',y⟩:=q
     cases e' with
     | normal=>exact⟨again h4,rM⟩
     | exit j =>
      simp only at h4 ⊢
      split
      .
       rename_i hj
       rw[XY hj]at h4;exact⟨again h4,rM⟩
      rename_i hj
      rw[XW hj]at h4
      split
      .
       rename_i hj2
       rw[XY hj2,XU]at h4;subst h4;exact⟨_,h2 _ (h5 _ (.head _)),rfl,rfl⟩
      rename_i hj2
      rw[XW hj2,XU]at h4;subst h4;exact⟨_,h2 _ (h5 _ (.head _)),rfl,rfl⟩
     | _ =>
      simp only[XU]at h4;subst h4;exact⟨_,h2 _ (h5 _ (.head _)),rfl,rfl⟩
    cases h1
   cases h
  cases h
theorem ZbL{a b:Code}{ms:MS}(h:EC a b=some ms):∃(i ty0 ty1 ty2 ty3:Nat)(p0 p1 p2 p3:String)(af0 af1 af2 af3:Array Edge),a = .region ms.id ms.ops false/\b = .block ms.bid (.loop (.seq (.region ms.nid ms.nops false) (.seq (.cond (.tmp ms.tq) .skip (.exit ms.bid)) (.block ms.b1 (.seq (.region ms.eid ms.eops false) ms.body))))) /\
  ms.ops[i]? = some ⟨some ms.tr,.range ms.ty (.tmp ms.m0),ty0,p0,af0,none⟩/\ms.ops.size=i+1/\ms.nops[0]? = some ⟨some ms.dn,.next (.tmp ms.tr) false,ty1,p1,af1,none⟩/\ms.nops[1]? = some ⟨some ms.tq,.extract (.tmp ms.dn) 0,ty2,p2,af2,none⟩/\ms.nops.size=2/\ms.eops[0]? = some ⟨some ms.de,.entry (.tmp ms.tr),ty3,p3,af3,none⟩:=by
 unfold EC at h
 split at h
 .
  rename_i id ops bid nid nops tq bid' b1 eid eops body
  split at h
  .
   rename_i tr ty m0 ty0 p0 af0 dn tr1 ty1 p1 af1 tq1 dn1 ty2 p2 af2 de tr2 ty3 p3 af3 rest h1 h2 h3
   split at h
   .
    rename_i hq
    obtain⟨rfl,rfl,rfl,rfl,rfl⟩:=hq;simp only[XU]at h;subst h;have hpos:0<ops.size:=by
     cases hz:ops.size with
     | zero =>
      have:ops.toList=[]:=Yf (by rw[Array.length_toList,hz])
      rw[this]at h1
      cases h1
     | succ k=>omega
    refine⟨ops.size-1,ty0,ty1,ty2,ty3,p0,p1,p2,p3,af0,af1,af2,af3,rfl,rfl,?_,by show ops.size=_;omega,?_,?_,?_,?_⟩
    .
     show ops[ops.size-1]? = _
     rw[List.getLast?_eq_getElem?,Array.length_toList]at h1;rw[<-h1,YL]
    .
     show nops[0]? = _
     rw[<-YL,h2];rfl
    .
     show nops[1]? = _
     rw[<-YL,h2];rfl
    .
     show nops.size=2
     rw[<-Array.length_toList,h2];rfl
    show eops[0]? = _
    rw[<-YL,h3];rfl
   cases h
  cases h
 cases h
def Zfs(hV:vH P V)(hk:vJ P R.code){yf:Yc}{a b:Code}{ms:MS}(hms:EC a b=some ms){x:X}{outs:List (Exit×X)}(h:KG P V R yf ms x=some outs) :
  (∀o∈outs,o.2.n=x.n) /\ ∀ro l E,vF P yf ro l E->DW P ro (.seq a b) (λe s=>∃o∈outs,e=o.1/\s=o.2.SL l E) (x.SL l E):=by
 obtain⟨i,ty0,ty1,ty2,ty3,p0,p1,p2,p3,af0,af1,af2,af3,rfl,rfl,m1,m2,m3,m4,m5,m6⟩:=ZbL hms
 unfold KG at h
 split at h
 .
  rename_i hc
  obtain⟨hty,htr⟩:=hc
  split at h
  . cases h
  rename_i x1 hx1
  split at h
  .
   rename_i hno
   split at h
   .
    rename_i r hm0
    split at h
    . cases h
    rename_i bl hbl
    split at h
    . cases h
    rename_i kv jV
    split at h
    .
     rename_i hlen
     rw[jY]at h;obtain⟨t1,u1,u2⟩:=kr (bP ms.tr) x1.t Dp;rw[u1]at h
     split at h
     . cases h
     rename_i o1 h1
     have PX:x1.n=x.n:=by
      obtain⟨_,_,_,r3,_⟩:=zL (l:=L0) (E:=EO) hV.T _ _ _ _ True hx1;exact r3
     have each : ∀o:Exit×X,∃t',(∀{α:Type}(k:Tr->α),tset o.2.t (bP ms.tr) .junk k=k t') /\ ∀q,dA t' q=if q=bP ms.tr then .junk else dA o.2.t q:=λo=>kr (bP ms.tr) o.2.t .junk
     refine⟨λo ho=>?_,λro l E hy=>?_⟩
     .
      obtain⟨q,hq,o2,h2,h3⟩:=pI h o ho;obtain⟨t',v1,v2⟩:=each q;rw[v1]at h2
      split at h2
      . simp only[XU]at h2;subst h2;rw[Yd.1 h3];exact((BK hV hk _ _ _ _ h1).1 q hq).trans PX
      cases h2
     obtain⟨q',r1,r2,r3,r4,r5⟩:=zL (l:=l) (E:=E) hV.T _ _ _ _ True hx1;have hdl:ms.ops.toList.dropLast=ms.ops.toList.take i:=by
      rw[List.dropLast_eq_take,Array.length_toList,m2];rfl
     rw[hdl]at r2;have r2:bN P (words P) (V.T.con true false) ms.ops.toList (x.SL l E).nx 0 (ms.ops.toList.take i) { x.SL l E with nx:=(x.SL l E).nx+ms.ops.size,ok:=True }={ x1.SL l E with ok:=q' }:=r2
     refine Zeh (C:=V.T.con true false) (i:=i) (r:=r) (n:=kv.length / 2) (m0:=ms.m0) (bl:=bl) (kv:=kv) (Gx hy _) m1 m2 m3 m4 m5 m6 r2 (r1 trivial) ?_ hbl jV hlen hty (by show ms.tr<x1.n;rw[PX];exact htr) λl2=>⟨kv.length / 2+2,?_⟩
     .
      show dQ l (dA x1.t (bP ms.m0))=_
      rw[hm0];rfl
     have hmr:=(BK hV hk _ _ _ _ h1).2 ro (l.1,l2) E (Uv hy);have e1:(X.mk x1.n t1 x1.h x1.nx x1.j).SL (l.1,l2) E={ x1.SL l E with t:=upd (x1.SL l E).t ms.tr (.v (.pointer (some ⟨l2,0,none⟩))),ok:=True }:=by
      rw[ze (l:=(l.1,l2)) (E:=E) (x:=x1) u2,Uf hno];rfl
     rw[e1]at hmr;refine Gq (λe s hs=>?_) hmr
     obtain⟨o,ho,rfl,rfl⟩:=hs;obtain⟨o2,h2,h3⟩:=mJ h o ho;obtain⟨t',v1,v2⟩:=each o;rw[v1]at h2
     split at h2
     .
      rename_i yI
      simp only[XU]at h2;subst h2;refine⟨_,h3 _ (.head _),rfl,?_⟩;have e2:=ze (l:=(l.1,l2)) (E:=E) (x:=o.2) v2 (h:=o.2.h) (nx:=o.2.nx);rw[Uf (by exact yI)]at e2
      show _=(X.mk o.2.n t' o.2.h o.2.nx o.2.j).SL l E
      rw[e2];rfl
     cases h2
    cases h
   cases h
  cases h
 cases h
end
section
variable [aa P] {V : Ev} {R : Rn} {ro : Option Nat} {Q : Exit -> S -> Prop} {l : Nat × Nat} {E : Option Code -> Env}
theorem Vs(hV:vH P V)(hk:vJ P R.code)(hc:zf P R.call)(hp:AR P R.pure):vJ P (qN P V R):=by
 intro yf c x outs h
 have hT:=LX hV.T hp
 cases c with
 | skip =>
  simp only[qN,XU]at h;subst h;exact⟨by simp,λro l E _=>⟨fB ⟨_,.head _,rfl,rfl⟩,λc' e=>by cases e⟩⟩
 | exit id =>
  simp only[qN,XU]at h;subst h;exact⟨by simp,λro l E _=>⟨aR ⟨_,.head _,rfl,rfl⟩,λc' e=>by cases e⟩⟩
 | ret =>
  simp only[qN,XU]at h;subst h;exact⟨by simp,λro l E _=>⟨iA ⟨_,.head _,rfl,rfl⟩,λc' e=>by cases e⟩⟩
 | seq a b =>
  simp only[qN]at h
  split at h
  .
   rename_i ms hms
   obtain⟨q1,q2⟩:=Zfs hV hk hms h;exact⟨q1,λro l E hy=>⟨q2 ro l E hy,λc' e=>by cases e⟩⟩
  cases h1:R.code yf a x with
  | none=>rw[h1]at h;cases h
  | some o1 =>
   rw[h1]at h;obtain⟨p1,p2⟩:=hk yf a x o1 h1;refine⟨λo ho=>?_,λro l E hy=>⟨aU (DW.mono (p2 ro l E hy).1 ?_),λc' e=>by cases e⟩⟩
   .
    rcases Tc h o ho with⟨q,q1,o2,q2,q3⟩|q
    . exact((hk yf b q.2 o2 q2).1 o q3).trans (p1 _ q1)
    exact p1 _ q
   rintro e s ⟨o,k1,rfl,rfl⟩
   rcases KE h o k1 with⟨q1,o2,q2,q3⟩|⟨q1,q2⟩
   . rw[q1];exact DW.mono ((hk yf b o.2 o2 q2).2 ro l E hy).1 λe s⟨q,hq,r⟩=>⟨q,q3 q hq,r⟩
   generalize he:o.1=e at q1
   cases e with
   | normal=>exact absurd rfl q1
   | _=>exact⟨o,q2,he.symm,rfl⟩
 | cond c a b =>
  simp only[qN]at h
  split at h
  .
   rename_i hv
   obtain⟨p1,p2⟩:=hk yf a x outs h;exact⟨p1,λro l E hy=>⟨Aq (by rw[lG (by rw[hv];rfl)];exact hv) (λ_=>(p2 ro l E hy).1) (λe=>by cases e),λc' e=>by cases e⟩⟩
  .
   rename_i hv
   obtain⟨p1,p2⟩:=hk yf b x outs h;exact⟨p1,λro l E hy=>⟨Aq (by rw[lG (by rw[hv];rfl)];exact hv) (λe=>by cases e) (λ_=>(p2 ro l E hy).1),λc' e=>by cases e⟩⟩
  cases h
 | block id c =>
  simp only[qN]at h
  split at h
  . cases h
  rename_i o1 h1
  obtain⟨p1,p2⟩:=hk yf c x o1 h1;simp only[XU]at h;subst h;refine⟨λo ho=>?_,λro l E hy=>⟨dO (DW.mono (p2 ro l E hy).1 ?_),λc' e=>by cases e⟩⟩
  .
   obtain⟨⟨e,y⟩,k1,rfl⟩:=Yi.1 ho
   cases e with
   | exit j =>
    simp only
    split
    . exact p1 (.exit j,y) k1
    exact p1 (.exit j,y) k1
   | _=>exact p1 _ k1
  rintro _ _ ⟨⟨e',y⟩,k1,he,hs⟩;rw[he,hs];clear he hs
  cases e' with
  | exit j =>
   simp only[AO]
   split
   .
    rename_i e
    exact⟨_,Yi.2 ⟨_,k1,rfl⟩,by simp[e],by simp[e]⟩
   rename_i e
   exact⟨_,Yi.2 ⟨_,k1,rfl⟩,by simp[e],by simp[e]⟩
  | _=>exact⟨_,Yi.2 ⟨_,k1,rfl⟩,rfl,rfl⟩
 | loop c =>
  simp only[qN]at h
  cases h1:R.code yf c x with
  | none=>rw[h1]at h;cases h
  | some o1 =>
   rw[h1]at h;obtain⟨p1,p2⟩:=hk yf c x o1 h1;have hr : ∀ro l E,vF P yf ro l E -> ∃m,l7 P ro c (λe s=>∃o∈outs,e=o.1/\s=o.2.SL l E) m (x.SL l E):=λro l E hy=>XO (outs:=o1) (n:=x.n) (λo ho e1=>by
    rcases KE h o ho with⟨_,o2,q2,q3⟩|⟨q1,_⟩
    . obtain⟨m,hm⟩:=((hk yf (.loop c) o.2 o2 q2).2 ro l E hy).2 c rfl;exact⟨⟨m,MZ (λe s⟨q,r1,r2⟩=>⟨q,q3 q r1,r2⟩) hm⟩,p1 _ ho⟩
    . exact absurd e1 q1) (λo ho e1=>by
    rcases KE h o ho with⟨q1,_⟩|⟨_,q2⟩
    . exact absurd q1 e1
    exact⟨o,q2,rfl,rfl⟩) rfl (p2 ro l E hy).1
   refine⟨λo ho=>?_,λro l E hy=>⟨?_,λc' e=>?_⟩⟩
   .
    rcases Tc h o ho with⟨q,q1,o2,q2,q3⟩|q
    . exact((hk yf (.loop c) q.2 o2 q2).1 o q3).trans (p1 _ q1)
    exact p1 _ q
   . obtain⟨m,hm⟩:=hr ro l E hy;exact Zef m hm
   cases e
   exact hr ro l E hy
 | region id ops draw =>
  simp only[qN]at h
  split at h
  .
   rename_i hdr
   subst hdr;unfold Te at h
   split at h
   .
    split at h
    . cases h
    rename_i hne
    obtain⟨q1,q2⟩:=ZeF (id:=id) hV hc hp h;refine⟨q1,λro l E hy=>⟨?_,λc' e=>by cases e⟩⟩
    cases yf with
    | top=>obtain⟨rfl,hl,rfl⟩:=hy;exact q2 _ _ hl
    | round=>obtain⟨hl,rfl⟩:=hy;exact q2 _ _ hl
    | iter y=>exact absurd rfl (hne y)
   split at h
   .
    rename_i hb
    split at h
    .
     rename_i x' hx'
     simp only[XU]at h;subst h;exact⟨by simpa using(FL (ro:=none) (l:=L0) (E:=EO) (id:=id) hT hb hx').1,λro l E _=>⟨(FL hT hb hx').2,λc' e=>by cases e⟩⟩
    split at h
    .
     rename_i hb
     split at h
     .
      rename_i x' hx'
      simp only[XU]at h;subst h;exact⟨by simpa using(FL (ro:=none) (l:=L0) (E:=EO) (id:=id) hT hb hx').1,λro l E _=>⟨(FL hT hb hx').2,λc' e=>by cases e⟩⟩
     cases h
    cases h
   cases h
  rename_i hdr
  have hdr:draw=false:=by simpa using hdr
  subst hdr;obtain⟨n,t,h0,nx,j⟩:=x;unfold Td at h;simp only[jY]at h
  split at h
  . cases h
  rename_i o1 h1
  simp only[XU]at h;subst h;have key : ∀ro l E,vF P yf ro l E->_:=λro l E hy=>Oh (ro:=ro) (l:=l) (E:=E) hV hc hy ops.toList 0 nx ⟨n,t,h0,nx+ops.size,j⟩ o1 rfl (Yl _) rfl h1
  refine⟨λo ho=>?_,λro l E hy=>⟨Zed ((key ro l E hy).2 _ λx' hx'=>?_),λc' e=>by cases e⟩⟩
  . obtain⟨y,k1,rfl⟩:=Yi.1 ho;exact uA h1 y k1
  exact⟨_,Yi.2 ⟨x',hx',rfl⟩,rfl,rfl⟩
 | rangeFunc gf ps assign body =>
  simp only[qN]at h
  split at h
  .
   obtain⟨q1,q2⟩:=Zfr hk h;refine⟨q1,λro l E hy=>⟨?_,λc' e=>by cases e⟩⟩
   obtain⟨rfl,hl,rfl⟩:=hy;exact q2 l hl
  cases h
 | _=>cases h
theorem X_S(x:X):x.SL L0 EO=x.S:=SL0 x
def PU{l:List D}{n:Nat}{h:List (Nat×ax)}{nx:Nat}:∃t,(∀{α:Type}(k:Tr->α),xM l 0 .nil k=k t)/\(X.mk n t h nx none).SL L0 EO={ n:=n,t:=λi=>l.getD i .junk,h:=htab h,nx:=nx }:=by
 obtain⟨t,h1,h2⟩:=GQ l 0 .nil
 refine⟨t,h1,?_⟩
 rw[SL0]
 simp only[S.mk.injEq,true_and,and_true]
 funext i
 rw[h2]
 split
 . rfl
 rename_i hi
 simp only[List.getD]
 rw[Zt (by omega)]
 rfl
def Pf{e:Exit}(h:zY e=true):e = .normal\/e = .ret:=by
 cases e<;>first|exact .inl rfl|exact .inr rfl|cases h
def ZgC{ds:List D}{d:D}(h:allEq ds=some d):∀e∈ds,e=d:=by
 unfold allEq at h
 split at h
 .
  rename_i d' l
  split at h
  .
   rename_i hc
   simp only[XU]at h;subst h;intro e he
   rcases Yz.1 he with rfl|he
   . rfl
   exact(tN (Yg.1 hc e he)).symm
  cases h
 cases h
def Vm(hk:vJ P R.code):AR P (GX P V R):=by
 intro f args res h
 unfold GX at h
 split at h
 . cases h
 rename_i fn hf
 split at h
 . cases h
 rename_i c hb
 split at h
 .
  rename_i hq
  obtain⟨_,hbd,hnr,hn⟩:=hq;obtain⟨t,t1,t2⟩:=PU (l:=args) (n:=fn.ntmps) (h:=[]) (nx:=0);rw[t1]at h
  split at h
  . cases h
  rename_i outs h1
  split at h
  . cases h
  rename_i ds h2
  refine ZaF hf hb hbd hnr hn ?_;have:=((hk .top c _ outs h1).2 none L0 EO ⟨rfl,rfl,rfl⟩).1;rw[t2]at this;refine DW.mono this ?_;rintro e s ⟨o,ho,rfl,rfl⟩;obtain⟨o2,k2,k3⟩:=mJ h2 o ho;unfold N7 at k2
  split at k2
  .
   rename_i hq
   rw[Kj,XU]at k2;subst k2;rw[X_S];exact⟨Pf hq.1,DR P hq.2.1,8,hq.2.2,ZgC h _ (k3 _ (.head _))⟩
  cases k2
 cases h
def Vu(hV:vH P V)(hk:vJ P R.code)(hp:AR P R.pure):zf P (GY P V R):=by
 intro f az h n outs hs
 unfold GY at hs
 split at hs
 .
  rename_i o1 h1
  simp only[XU]at hs;subst hs;exact hV.ext _ _ _ _ _ h1
 split at hs
 .
  rename_i d hd
  simp only[XU]at hs;subst hs;refine dS.mono ((hp _ _ _ hd).rct (htab h) n) ?_;rintro d' h' n' ⟨rfl,rfl,rfl⟩;exact⟨_,.head _,rfl,rfl,rfl⟩
 split at hs
 . cases hs
 rename_i fn hf
 split at hs
 . cases hs
 rename_i c hb
 split at hs
 .
  rename_i hq
  obtain⟨hbd,hn⟩:=hq;obtain⟨t,t1,t2⟩:=PU (l:=az) (n:=fn.ntmps) (h:=h) (nx:=n);rw[t1]at hs
  split at hs
  . cases hs
  rename_i o1 h1
  refine Nf hf hb hbd hn λ_=>?_
  have:=((hk .top c _ o1 h1).2 none L0 EO ⟨rfl,rfl,rfl⟩).1;rw[t2]at this;refine DW.mono this ?_;rintro e s ⟨o,ho,rfl,rfl⟩;obtain⟨o2,k2,k3⟩:=mJ hs o ho;unfold Oa at k2
  split at k2
  .
   rename_i hq
   rw[QD,jY]at k2;simp only[XU]at k2;subst k2;rw[X_S];exact⟨Pf hq.1,DR P hq.2,_,_,λr=>ZaG r,X4 _,_,k3 _ (.head _),rfl,rfl,rfl⟩
  cases k2
 cases hs
theorem xU(hV:vH P V):∀k,vJ P (vY P V k).code/\zf P (vY P V k).call/\AR P (vY P V k).pure
 | 0=>⟨λyf c x outs h=>(by cases h),λf az h n outs hs=>(by cases hs),λf az d h=>by cases h⟩
 | k+1=>⟨Vs hV (xU hV k).1 (xU hV k).2.1 (xU hV k).2.2,Vu hV (xU hV k).1 (xU hV k).2.2,Vm (xU hV k).1⟩
def run_pure(hV:vH P V)(k:Nat){f:FuncId}{args:List D}{d:D}(h:(vY P V k).pure f args=some d):PureCt P f args d:=(xU hV k).2.2 _ _ _ h
end
end Go.DL
namespace Go.Proofs.YtdcenbhgholncaaGreatDoor
open Go.Proofs.Tryz
open Go.DL
def rulesTab:List Value:=[.int .i64 0,.int .i64 0,.int .i64 0,.int .i64 0,.int .i64 0,.bool false,.bool false,.bool false,.int .i64 0,.int .i64 1,.int .i64 1000000,.int .i64 0,.int .i64 0,.bool false,.bool false,.bool true,.int .i64 1,.int .i64 0,.int .i64 0,.int .i64 0,.int .i64 0,.bool false,.bool false,.bool false,.int .i64 1,.int .i64 0,.int .i64 0,.int .i64 0,.int .i64 0,.bool false,.bool true,.bool false,.int .i64 0,.int .i64 0,.int .i64 65535,.int .i64 0,.int .i64 100000,.bool false,.bool true,.bool false,.int .i64 3,.int .i64 0,.int .i64 0,.int .i64 0,.int .i64 0,.bool false,.bool false,.bool true,.int .i64 0,.int .i64 1,.int .i64 1000000,.int .i64 1,.int .i64 3,.bool false,.bool false,.bool false,.int .i64 0,.int .i64 1,.int .i64 1000000,.int .i64 1,.int .i64 3,.bool false,.bool false,.bool false,.int .i64 2,.int .i64 2,.int .i64 510,.int .i64 0,.int .i64 0,.bool true,.bool false,.bool true]
instance:aa prog:=⟨λx=>match x with|0=>some rulesTab|_=>none⟩
theorem glob0:aa.tab prog 0=some rulesTab:=rfl
def mix:prog.follows .mixedOrders=true:=by kernel_rfl
@[go_sem]theorem ty_1:bY prog 3=false/\prog.cellsOf 3=1/\prog.bytesOf 3=8/\zeroCells prog 3=[.v (.int .i64 0)]/\dJ prog 3=true/\prog.underlying 3=some (.int .i64)/\vM prog 3 = .v (.int .i64 0)/\E9 prog 3=true/\nJ prog 3=true/\bY prog 4=false/\prog.cellsOf 4=1/\prog.bytesOf 4=1/\zeroCells prog 4=[.v (.bool false)]/\dJ prog 4=true/\prog.underlying 4=some .bool/\vM prog 4 = .v (.bool false)/\E9 prog 4=true/\bY prog 5=false/\prog.cellsOf 5=1/\prog.bytesOf 5=1/\zeroCells prog 5=[.v (.int .u8 0)]/\dJ prog 5=true/\prog.underlying 5=some (.int .u8)/\bY prog 9=false/\prog.cellsOf 9=1/\prog.bytesOf 9=16/\zeroCells prog 9=[.v (.string ⟨⟨[]⟩⟩)]/\dJ prog 9=true/\prog.underlying 9=some .string/\nJ prog 9=true/\bY prog 22=false/\prog.cellsOf 22=1/\(prog.underlying 22).isSome=true/\aZ prog 22=some 44/\bY prog 24=true/\prog.cellsOf 24=2/\prog.bytesOf 24=40/\zeroCells prog 24=[.v (.string ⟨⟨[]⟩⟩),.list true []]/\dJ prog 24=true/\(prog.underlying 24).isSome=true:=by and_intros<;>kernel_rfl
@[go_sem]theorem ty_2:bM prog 24 0=some (0,9)/\bM prog 24 1=some (1,22)/\ol prog 24=true/\bY prog 25=false/\prog.cellsOf 25=1/\(prog.underlying 25).isSome=true/\aZ prog 25=some 48/\bY prog 27=true/\prog.cellsOf 27=2/\zeroCells prog 27=[.v (.string ⟨⟨[]⟩⟩),.v (.int .i64 0)]/\(prog.underlying 27).isSome=true/\bM prog 27 0=some (0,9)/\bM prog 27 1=some (1,3)/\ol prog 27=true/\nJ prog 27=true/\bY prog 31=false/\prog.cellsOf 31=1/\prog.bytesOf 31=8/\zeroCells prog 31=[.v (.int .i64 0)]/\dJ prog 31=true/\prog.underlying 31=some (.int .i64)/\bY prog 36=true/\prog.cellsOf 36=3/\zeroCells prog 36=[.v (.int .i64 0),.list true [],.v (.string ⟨⟨[]⟩⟩)]/\(prog.underlying 36).isSome=true/\bM prog 36 0=some (0,3)/\bM prog 36 1=some (1,22)/\bM prog 36 2=some (2,9)/\ol prog 36=true/\bY prog 39=false/\prog.cellsOf 39=1/\zeroCells prog 39=[.list true []]/\(prog.underlying 39).isSome=true/\aZ prog 39=some 91/\bY prog 41=true/\prog.cellsOf 41=4/\prog.bytesOf 41=56/\zeroCells prog 41=[.v (.string ⟨⟨[]⟩⟩),.v (.int .i64 0),.v (.int .i64 0),.list true []]/\dJ prog 41=true/\(prog.underlying 41).isSome=true:=by and_intros<;>kernel_rfl
@[go_sem]theorem ty_3:bM prog 41 0=some (0,9)/\bM prog 41 1=some (1,3)/\bM prog 41 2=some (2,3)/\bM prog 41 3=some (3,39)/\ol prog 41=true/\bY prog 42=false/\prog.cellsOf 42=1/\(prog.underlying 42).isSome=true/\aZ prog 42=some 94/\bY prog 44=true/\prog.cellsOf 44=5/\prog.bytesOf 44=80/\zeroCells prog 44=[.v (.string ⟨⟨[]⟩⟩),.v (.int .i64 0),.v (.int .i64 0),.list true [],.list true []]/\dJ prog 44=true/\(prog.underlying 44).isSome=true/\bM prog 44 0=some (0,41)/\bM prog 44 1=some (4,42)/\ol prog 44=true/\bY prog 48=true/\prog.cellsOf 48=2/\prog.bytesOf 48=16/\zeroCells prog 48=[.v (.int .i64 0),.v (.int .i64 0)]/\dJ prog 48=true/\(prog.underlying 48).isSome=true/\bM prog 48 0=some (0,3)/\bM prog 48 1=some (1,3)/\bY prog 51=false/\prog.cellsOf 51=1/\(prog.underlying 51).isSome=true/\aZ prog 51=some 41/\bY prog 56=false/\prog.cellsOf 56=1/\prog.bytesOf 56=24/\zeroCells prog 56=[.list true []]/\dJ prog 56=true/\(prog.underlying 56).isSome=true/\bY prog 57=false/\prog.cellsOf 57=1/\(prog.underlying 57).isSome=true/\bY prog 59=true:=by and_intros<;>kernel_rfl
@[go_sem]theorem ty_4:prog.cellsOf 59=8/\prog.bytesOf 59=152/\zeroCells prog 59=[.list true [],.list true [],.list true [],.v (.string ⟨⟨[]⟩⟩),.v (.int .i64 0),.v (.int .i64 0),.list true [],.list true []]/\dJ prog 59=true/\(prog.underlying 59).isSome=true/\bM prog 59 0=some (0,55)/\bM prog 59 1=some (1,56)/\bM prog 59 2=some (2,57)/\bM prog 59 3=some (3,44)/\ol prog 59=true/\bY prog 62=false/\prog.cellsOf 62=1/\prog.bytesOf 62=24/\zeroCells prog 62=[.list true []]/\dJ prog 62=true/\(prog.underlying 62).isSome=true/\aZ prog 62=some 9/\aZ prog 63=some 5/\bY prog 64=false/\prog.cellsOf 64=1/\zeroCells prog 64=[.list true []]/\(prog.underlying 64).isSome=true/\aZ prog 64=some 3/\bY prog 72=false/\prog.cellsOf 72=1/\zeroCells prog 72=[.v .nilFunc]/\dJ prog 72=true/\(prog.underlying 72).isSome=true/\bY prog 75=true/\prog.cellsOf 75=3/\(prog.underlying 75).isSome=true/\bY prog 80=false/\prog.cellsOf 80=1/\prog.bytesOf 80=8/\dJ prog 80=true/\(prog.underlying 80).isSome=true/\aZ prog 87=some 4/\bY prog 91=true/\prog.cellsOf 91=3/\prog.bytesOf 91=32:=by and_intros<;>kernel_rfl
@[go_sem]theorem ty_5:zeroCells prog 91=[.v (.string ⟨⟨[]⟩⟩),.v (.int .i64 0),.v (.int .i64 0)]/\dJ prog 91=true/\(prog.underlying 91).isSome=true/\bM prog 91 0=some (0,9)/\bM prog 91 1=some (1,3)/\bM prog 91 2=some (2,3)/\ol prog 91=true/\rV prog 91=some [.s,.i,.i]/\prog.cellsOf 92=1/\prog.underlying 92=some (.int .u64)/\bY prog 94=true/\prog.cellsOf 94=6/\prog.bytesOf 94=56/\zeroCells prog 94=[.v (.string ⟨⟨[]⟩⟩),.v (.int .i64 0),.v (.int .i64 0),.v (.int .i64 0),.v (.int .i64 0),.v (.int .u64 0)]/\dJ prog 94=true/\(prog.underlying 94).isSome=true/\bM prog 94 0=some (0,9)/\bM prog 94 1=some (1,3)/\bM prog 94 2=some (2,3)/\bM prog 94 3=some (3,3)/\bM prog 94 4=some (4,3)/\bM prog 94 5=some (5,92)/\ol prog 94=true/\rV prog 94=some [.s,.i,.i,.i,.i,.i]/\bY prog 97=false/\prog.cellsOf 97=1/\zeroCells prog 97=[.v (.pointer none)]/\(prog.underlying 97).isSome=true/\bY prog 99=false/\prog.cellsOf 99=1/\(prog.underlying 99).isSome=true/\lu prog 99=some (27,3):=by and_intros<;>kernel_rfl
@[go_sem]theorem ko27(x0:ByteArray)(x1:Int):jv prog 27 (.agg [.v (.string x0),.v (.int .i64 x1)])=true:=by kernel_rfl
@[go_sem]theorem ty_6:prog.cellsOf 101=8/\zeroCells prog 101=[.v (.string ⟨⟨[]⟩⟩),.list true [],.v (.map none),.v (.string ⟨⟨[]⟩⟩),.v (.int .i64 0),.v (.string ⟨⟨[]⟩⟩),.v (.bool false),.v (.string ⟨⟨[]⟩⟩)]/\bM prog 101 0=some (0,9)/\bM prog 101 1=some (1,22)/\bM prog 101 2=some (2,99)/\bM prog 101 3=some (3,27)/\bM prog 101 4=some (5,9)/\bM prog 101 5=some (6,4)/\bM prog 101 6=some (7,9)/\ol prog 101=true/\bY prog 102=false/\prog.cellsOf 102=1/\dJ prog 102=true/\(prog.underlying 102).isSome=true/\aZ prog 103=some 102/\bY prog 110=true/\prog.cellsOf 110=2/\zeroCells prog 110=[.v (.string ⟨⟨[]⟩⟩),.list true []]/\(prog.underlying 110).isSome=true/\bM prog 110 0=some (0,24)/\ol prog 110=true/\bY prog 143=false/\prog.cellsOf 143=1/\(prog.underlying 143).isSome=true:=by and_intros<;>kernel_rfl
@[go_sem]theorem ko9(x0:ByteArray):jv prog 9 (.v (.string x0))=true:=by kernel_rfl
@[go_sem]theorem ty_7:bY prog 152=false/\prog.cellsOf 152=1/\zeroCells prog 152=[.v .nilFunc]/\(prog.underlying 152).isSome=true/\bY prog 168=false/\prog.cellsOf 168=1/\zeroCells prog 168=[.v (.map none)]/\(prog.underlying 168).isSome=true/\lu prog 168=some (9,4)/\(prog.underlying 174).isSome=true/\prog.cellsOf 175=1/\lu prog 175=some (9,3)/\bY prog 187=true/\prog.cellsOf 187=3/\zeroCells prog 187=[.v (.string ⟨⟨[]⟩⟩),.list true [],.list true []]/\(prog.underlying 187).isSome=true/\bM prog 187 0=some (0,110)/\bM prog 187 1=some (2,62)/\ol prog 187=true/\prog.underlying 192=some (.int .u64)/\prog.underlying 201=some .string/\bY prog 208=true/\prog.cellsOf 208=8/\zeroCells prog 208=[.v (.int .i64 0),.v (.int .i64 0),.v (.int .i64 0),.v (.int .i64 0),.v (.int .i64 0),.v (.bool false),.v (.bool false),.v (.bool false)]/\(prog.underlying 208).isSome=true/\bM prog 208 0=some (0,3)/\bM prog 208 1=some (1,3)/\bM prog 208 2=some (2,3)/\bM prog 208 3=some (3,3)/\bM prog 208 4=some (4,3)/\bM prog 208 5=some (5,4)/\bM prog 208 6=some (6,4)/\bM prog 208 7=some (7,4)/\bY prog 209=true/\prog.cellsOf 209=72/\(prog.underlying 209).isSome=true/\aZ prog 209=none/\lQ prog 209=some (9,208)/\bY prog 256=false/\prog.cellsOf 256=1:=by and_intros<;>kernel_rfl
@[go_sem]theorem ty_8:zeroCells prog 256=[.v (.int .u64 0)]/\prog.underlying 256=some (.int .u64)/\prog.cellsOf 257=8/\zeroCells prog 257=[.v (.int .u8 0),.v (.int .u8 0),.v (.int .u8 0),.v (.int .u8 0),.v (.int .u8 0),.v (.int .u8 0),.v (.int .u8 0),.v (.int .u8 0)]/\aZ prog 257=none/\lQ prog 257=some (8,5):=by and_intros<;>kernel_rfl
@[go_sem]theorem ko3(x0:Int):jv prog 3 (.v (.int .i64 x0))=true:=by kernel_rfl
@[go_sem]theorem ty_9:bY prog 281=false/\prog.cellsOf 281=1/\zeroCells prog 281=[.v .nilFunc]/\(prog.underlying 281).isSome=true:=by and_intros<;>kernel_rfl
end Go.Proofs.YtdcenbhgholncaaGreatDoor
namespace Go.Str
open Go.DL
abbrev Str:=List UInt8
def bs(l:Str):ByteArray:=⟨l.toArray⟩
abbrev _root_.Go.DL.D.s(x:Str):D:=.v (.string (bs x))
@[go_sem]theorem bs_mk(l:Str):(ByteArray.mk l.toArray)=bs l:=rfl
@[go_sem]theorem kR(l:Str):(bs l).data.toList=l:=by simp[bs]
@[go_sem]theorem ZfX(l:Str):(bs l).size=l.length:=by simp[bs,ByteArray.size]
def KV{a b:ByteArray}(h:a.data.toList=b.data.toList):a=b:=by
 cases a;cases b;congr 1;exact Zh h
@[go_sem]theorem ZiR(l:Str)(i j:Nat):(bs l).extract i j=bs ((l.take j).drop i):=by
 apply KV
 rw[ByteArray.data_extract]
 simp[bs,List.drop_take]
@[go_sem]theorem ZiS(a b:Str):bs a++bs b=bs (a++b):=by
 apply KV
 rw[ByteArray.data_append]
 simp[bs]
theorem bs_of(a:ByteArray):a=bs a.data.toList:=by apply KV;simp[bs]
def bD(b:UInt8):List D:=[.v (.int .u8 b.toNat)]
def sR(s:Str):List D:=[.v (.string (bs s))]
def ai:D->Str
 | .v (.string s)=>s.data.toList
 | _=>[]
def aQ:D->Int
 | .v (.int _ n)=>n
 | _=>0
def AL:D->Bool
 | .v (.bool b)=>b
 | _=>false
def Iw:List D->Str
 | [d]=>ai d
 | _=>[]
def sG:D->List Str
 | .list _ rows=>rows.map Iw
 | _=>[]
def AJ:D->Str
 | .list _ rows=>rows.map Go.DL.byteOf
 | _=>[]
def str1_v{s:ByteArray}:ai (.v (.string s))=s.data.toList:=rfl
def int1_v{k:IntKind}{n:Int}:aQ (.v (.int k n))=n:=rfl
def bool1_v{b:Bool}:AL (.v (.bool b))=b:=rfl
attribute[go_sem]str1_v int1_v bool1_v
theorem qg{α β:Type}{f:α->β}{g:β->α}(h : ∀x,g (f x)=x)(l:List α):(l.map f).map g=l:=by
 rw[List.map_map]
 exact(YK λx _=>h x).trans (List.map_id l)
@[go_sem]theorem ZgO{f:Bool}{l:List Str}:sG (.list f (l.map sR))=l:=qg (f:=sR) (g:=Iw) (λx=>kR x) l
@[go_sem]theorem ZiQ{f:Bool}{l:Str}:AJ (.list f (l.map bD))=l:=qg (f:=bD) (g:=Go.DL.byteOf) (λx=>by simp[Go.DL.byteOf,bD]) l
@[go_sem]theorem ZiP{f:Bool}:AJ (.list f [])=[]:=rfl
attribute [go_sem] sR bD
def iy{l:List Str}{n:Nat}(h:n<l.length):(l.map sR).getD n []=[.v (.string (bs l[n]!))]:=by
 simp[List.getD,h,getElem!_pos,sR]
@[go_sem]theorem wkr_sR{l:List Str}:dK (l.map sR)=l.map sR:=by
 induction l with
 | nil=>rfl
 | cons x l ih=>simp only[X9,dK,ih];rfl
@[go_sem]theorem OB{l:List Str}:bg (l.map sR)=true:=by
 induction l with
 | nil=>rfl
 | cons x l ih=>simp only[X9,bg,ih];rfl
@[go_sem]theorem wkr_bD{l:Str}:dK (l.map bD)=l.map bD:=by
 induction l with
 | nil=>rfl
 | cons x l ih=>simp only[X9,dK,ih];rfl
@[go_sem]theorem nrr_bD{l:Str}:bg (l.map bD)=true:=by
 induction l with
 | nil=>rfl
 | cons x l ih=>simp only[X9,bg,ih];rfl
def aF(n:Nat)(p:Nat->Bool)(k:Nat):Bool:=if k<n then p k&&aF n p (k+1)else true
termination_by n-k
theorem fM(n:Nat)(p:Nat->Bool)(k:Nat):aF n p k=if k<n then p k&&aF n p (k+1)else true:=by rw[aF]
theorem fe(n:Nat)(p:Nat->Bool)(k:Nat):aF n p k=true↔∀i,k<=i->i<n->p i=true:=by
 rw[fM]
 split
 .
  rename_i h
  rw[XT,fe n p (k+1)];refine⟨λ⟨h1,h2⟩i hi hn=>?_,λh1=>⟨h1 k (X4 _) h,λi hi hn=>h1 i om hn⟩⟩
  by_cases e:i=k
  . subst e;exact h1
  exact h2 i om hn
 rename_i h
 exact⟨λ_ i hi hn=>by omega,λ_=>rfl⟩
termination_by n-k
def nX(c:UInt8):Bool:=(decide (97<=c.toNat)&&decide (c.toNat<=122))||(decide (48<=c.toNat)&&decide (c.toNat<=57))
def mf(l:Str)(i:Nat):Bool:=nX (l.getD i 0)||(decide ((l.getD i 0).toNat=45)&&decide (0<i)&&decide (i+1<l.length))
def dN(l:Str):Bool:=aF l.length (mf l) 0&&decide (1<=l.length)&&decide (l.length<=12)
def uC(l:Str)(i:Nat):Bool:=nX (l.getD i 0)||decide ((l.getD i 0).toNat=45)
theorem Zcb(l:Str):dN l=if l.length<1 then false else if 12<l.length then false else if(l.getD 0 0).toNat=45 then false else if(l.getD (l.length-1) 0).toNat=45 then false else aF l.length (uC l) 0:=by
 by_cases h1:l.length<1
 . rw[XY h1];unfold dN;rw[YI (by omega : ¬1<=l.length)];simp
 rw[XW h1]
 by_cases h2:12<l.length
 . rw[XY h2];unfold dN;rw[YI (by omega : ¬l.length<=12)];simp
 rw[XW h2]
 have e:dN l=aF l.length (mf l) 0:=by
  unfold dN;rw[YE (by omega:1<=l.length),YE (by omega:l.length<=12)];simp
 rw[e]
 have not45 : ∀c:UInt8,c.toNat=45->nX c=false:=by
  intro c hc;simp[nX,hc]
 by_cases h3:(l.getD 0 0).toNat=45
 .
  rw[XY h3]
  cases h:aF l.length (mf l) 0 with
  | false=>rfl
  | true =>
   have:=(fe _ _ _).1 h 0 (X4 _) om;simp only[mf,not45 _ h3,Nat.lt_irrefl,decide_false,Bool.and_false,Bool.false_and,ZA]at this;exact this.symm
 rw[XW h3]
 by_cases h4:(l.getD (l.length-1) 0).toNat=45
 .
  rw[XY h4]
  cases h:aF l.length (mf l) 0 with
  | false=>rfl
  | true =>
   have:=(fe _ _ _).1 h (l.length-1) (Yl _) om;simp only[mf,not45 _ h4,Bool.false_or,XT,XV]at this;omega
 rw[XW h4,YS,fe,fe]
 refine⟨λh i hi hn=>?_,λh i hi hn=>?_⟩
 . have:=h i hi hn;simp only[mf,uC,X8,XT,XV]at this ⊢;exact this.imp id λh=>h.1.1
 have:=h i hi hn
 simp only[mf,uC,X8,XT,XV]at this ⊢
 rcases this with h5|h5
 . exact .inl h5
 refine .inr ⟨⟨h5,?_⟩,?_⟩
 .
  rcases Nat.eq_zero_or_pos i with e|e
  . subst e;exact absurd h5 h3
  exact e
 rcases Zv (i+1) l.length with e|e
 . exact e
 have:i=l.length-1:=by omega
 subst this;exact absurd h5 h4
def split(l:Str):List Str:=match l with
 | []=>[[]]
 | c::r=>if c=46 then[]::split r else match split r with
  | []=>[[c]]
  | p::ps=>(c::p)::ps
def kY(out:List Str)(c:UInt8):List Str:=if c=46 then out++[[]]else out.set (out.length-1) (out[out.length-1]! ++ [c])
def VN{out:List Str}{c:UInt8}(h:(c.toNat:Int)=46):kY out c=out++[[]]:=by
 have:c=46:=by apply ZO.1;simpa using Int.ofNat.inj h
 unfold kY;rw[XY this]
def VP{out:List Str}{c:UInt8}(h : ¬(c.toNat:Int)=46):kY out c=out.set (out.length-1) (out[out.length-1]! ++ [c]):=by
 unfold kY;rw[XW];intro e;subst e;exact h rfl
def Za4{l:Str}{k:Nat}(h:k<l.length):(l.take (k+1)).drop k=[l.getD k 0]:=by
 rw[ZK,List.drop_append_of_le_length (by simp;omega),YU (by simp;omega)]
 simp[List.getD,h]
def sH(l:Str)(k:Nat)(out:List Str):List Str:=if k<l.length then sH l (k+1) (kY out (l.getD k 0))else out
termination_by l.length-k
theorem Bg(l:Str)(k:Nat)(out:List Str):sH l k out=if k<l.length then sH l (k+1) (kY out (l.getD k 0))else out:=by rw[sH]
def gV(l:Str):List Str:=sH l 0 [[]]
def jR(l:Str)(c:Int):Nat->Int
 | 0=>-1
 | k+1=>if((l.getD k 0).toNat:Int)=c then k else jR l c k
theorem Pk{l:Str}{c:Int}{k:Nat}(h:0<k):jR l c k=if((l.getD (k-1) 0).toNat:Int)=c then((k-1:Nat):Int)else jR l c (k-1):=by
 obtain⟨j,rfl⟩:∃j,k=j+1:=⟨k-1,om⟩
 rw[jR];rfl
def bz(l:Str)(c:Int):Int:=jR l c l.length
theorem I5(l:Str)(c:Int):∀k,jR l c k<k /\ -1<=jR l c k
 | 0=>by simp[jR]
 | k+1=>by
  have:=I5 l c k;unfold jR
  split<;>omega
def zZ(l:Str)(c:Int):bz l c<l.length /\ -1<=bz l c:=I5 l c l.length
def VO{out:List Str}{c:UInt8}{k:Nat}(h : ∀x∈out,x.length<=k):(∀x∈kY out c,x.length<=k+1)/\(kY out c).length<=out.length+1:=by
 unfold kY
 split
 .
  refine⟨λx hx=>?_,by simp⟩
  rcases Yo.1 hx with hx|hx
  . exact Nat.le_succ_of_le (h x hx)
  simp at hx;subst hx;exact Yl _
 refine⟨λx hx=>?_,by simp⟩
 rcases List.mem_or_eq_of_mem_set hx with hx|hx
 . exact Nat.le_succ_of_le (h x hx)
 subst hx
 rw[Yr]
 refine Nat.succ_le_succ ?_
 by_cases ho:out.length-1<out.length
 . exact h _ (by rw[getElem!_pos out _ ho];exact Yp _)
 rw[getElem!_neg out _ ho];exact Yl _
theorem Mo(l:Str)(k:Nat)(out:List Str)(hk:k<=l.length)(h : ∀x∈out,x.length<=k):(∀x∈sH l k out,x.length<=l.length)/\(sH l k out).length<=out.length+(l.length-k):=by
 rw[Bg]
 split
 .
  rename_i hlt
  obtain⟨h1,h2⟩:=VO (c:=l.getD k 0) h;obtain⟨h3,h4⟩:=Mo l (k+1) _ om h1;exact⟨h3,om⟩
 exact⟨λx hx=>Yt (h x hx) hk,om⟩
termination_by l.length-k
def Dw(l:Str):(∀x∈gV l,x.length<=l.length)/\(gV l).length<=l.length+1:=by
 obtain⟨h1,h2⟩:=Mo l 0 [[]] (Yl _) (by simp)
 exact⟨h1,by unfold gV;simp only[YA,ZJ]at h2;omega⟩
def VQ(l:Str)(i:Nat):(gV l)[i]!.length<=l.length:=by
 by_cases h:i<(gV l).length
 . exact(Dw l).1 _ (by rw[getElem!_pos (gV l) i h];exact Yp _)
 rw[getElem!_neg (gV l) i h];exact Yl _
def gX(l:Str):List Str:=l.drop (bz l 46+1).toNat::(if _h:bz l 46<0 then[]else gX (l.take (bz l 46).toNat))
termination_by l.length
decreasing_by
 have:=I5 l 46 l.length
 unfold bz at *
 simp
 omega
theorem ky(l:Str):gX l=l.drop (bz l 46+1).toNat::(if bz l 46<0 then[]else gX (l.take (bz l 46).toNat)):=by
 rw[gX];split<;>rfl
def fP(ps:List Str)(i:Nat):Bool:=dN ps[i]! || (decide (i=0)&&ps[i]! == [42])
def ah(l:Str):Bool:=if l=[46]then true else if 60<l.length then false else aF (gV l).length (fP (gV l)) 0&&decide ((gV l).length<=8)
def aM(l:Str):List Str:=if l=[46]then[]else gV l
def mM:List Str->Nat->Bool->Bool
 | [],_,_=>true
 | x::r,n,wild=>if wild||decide (8<n+1)then false else if !(x==[42]) && !dN x then false else mM r (n+1) (x==[42])
theorem qP(l:Str):split l≠[]:=by
 cases l with
 | nil=>simp[split]
 | cons c r =>
  unfold split
  split
  . simp
  split<;>simp
theorem GZ{x:Str}{xs:List Str}(c:UInt8)(h:xs≠[]):kY (x::xs) c=x::kY xs c:=by
 unfold kY
 split
 . rfl
 have hl:0<xs.length:=YV.2 h
 obtain⟨n,hn⟩:∃n,xs.length=n+1:=⟨xs.length-1,om⟩
 simp[hn]
theorem Ml(c:UInt8):∀p:Str,split (p++[c])=kY (split p) c
 | []=>by
  by_cases h:c=46
  . subst h;rfl
  simp[split,kY,h]
 | a::p=>by
  have ih:=Ml c p
  show split (a::(p++[c]))=_
  rw[split,split.eq_2 a p]
  by_cases h:a=46
  . rw[XY h,XY h,ih,GZ c (qP p)]
  rw[XW h,XW h,ih]
  cases hq:split p with
  | nil=>exact absurd hq (qP p)
  | cons q qs =>
   by_cases hc:c=46
   . simp[kY,hc]
   cases qs with
   | nil=>simp[kY,hc]
   | cons r rs =>
    rw[GZ (x:=q) (xs:=r::rs) c (by simp),GZ (x:=a::q) (xs:=r::rs) c (by simp)]
theorem Mm(l:Str)(k:Nat)(hk:k<=l.length):sH l k (split (l.take k))=split l:=by
 rw[Bg]
 split
 .
  rename_i h
  rw[<-Ml,<-Mm l (k+1) (by omega)]
  congr 2
  rw[ZK]
  simp[List.getD,h]
 rw[Yh (by omega)]
termination_by l.length-k
theorem qQ(l:Str):gV l=split l:=Mm l 0 (Yl _)
theorem Be : ∀l:Str,(∀x∈l,x≠46)->split l=[l]
 | [],_=>rfl
 | c::r,h=>by
  rw[split,XW (h c (by simp)),Be r (λx hx=>h x (by simp[hx]))]
theorem Bf(b:Str):∀a:Str,split (a++46::b)=split a++split b
 | []=>by rfl
 | x::a=>by
  show split (x::(a++46::b))=_
  rw[split,split.eq_2 x a,Bf b a]
  by_cases h:x=46
  . rw[XY h,XY h];rfl
  rw[XW h,XW h]
  cases hq:split a with
  | nil=>exact absurd hq (qP a)
  | cons q qs=>rfl
theorem Pm(l:Str)(c:Int):∀k,(jR l c k<0 -> ∀j,j<k -> ¬((l.getD j 0).toNat:Int)=c)/\(0<=jR l c k->((l.getD (jR l c k).toNat 0).toNat:Int)=c /\ ∀j,(jR l c k).toNat<j->j<k -> ¬((l.getD j 0).toNat:Int)=c)
 | 0=>by simp[jR]
 | k+1=>by
  obtain⟨h1,h2⟩:=Pm l c k;unfold jR
  by_cases h:((l.getD k 0).toNat:Int)=c
  . rw[XY h];exact⟨λh3=>by omega,λ_=>⟨by simpa using h,λj h4 h5=>by simp at h4;omega⟩⟩
  rw[XW h];refine⟨λh3 j hj=>?_,λh3=>⟨(h2 h3).1,λj h4 h5=>?_⟩⟩
  .
   by_cases e:j=k
   . subst e;exact h
   exact h1 h3 j om
  by_cases e:j=k
  . subst e;exact h
  exact(h2 h3).2 j h4 om
def OE{l:Str}{n:Nat}(h : ∀j,n<=j->j<l.length -> ¬((l.getD j 0).toNat:Int)=46):∀x∈l.drop n,x≠46:=by
 intro x hx e
 subst e
 obtain⟨i,hi,he⟩:=YN hx
 rw[List.getElem_drop]at he
 have hi':n+i<l.length:=by simp at hi;omega
 refine h (n+i) om hi' ?_
 have:l.getD (n+i) 0=46:=by simp only[List.getD,X6 hi',YD];exact he
 rw[this];rfl
theorem jK(l:Str):gX l=(split l).reverse:=by
 rw[ky]
 obtain⟨h1,h2⟩:=Pm l 46 l.length
 obtain⟨h3,h4⟩:=zZ l 46
 by_cases h:bz l 46<0
 .
  rw[XY h];have e:(bz l 46+1).toNat=0:=by omega
  have hs:=Be l (λx hx=>by have:=OE (l:=l) (n:=0) (λj _ hj=>h1 h j hj) x;exact this (by simpa using hx))
  rw[e,hs];rfl
 rw[XW h]
 obtain⟨h5,h6⟩:=h2 (by unfold bz at h;omega)
 generalize hi:(bz l 46).toNat=i at *
 have hi':(jR l 46 l.length).toNat=i:=hi
 have e:(bz l 46+1).toNat=i+1:=by omega
 have hlt:i<l.length:=by omega
 rw[hi']at h5 h6
 have hl:l=l.take i++46::l.drop (i+1):=by
  have hc:l[i]=46:=by
   have:l.getD i 0=l[i]:=by simp[List.getD,hlt]
   rw[this]at h5
   apply ZO.1;simpa using Int.ofNat.inj h5
  conv=>lhs;rw[<-ZR i l]
  rw[Yn hlt,hc]
 have hs:=Be (l.drop (i+1)) (OE λj hj hn=>h6 j (by omega) hn)
 have ih:=jK (l.take i)
 rw[e,ih]
 conv=>rhs;rw[hl]
 rw[Bf,hs]
 simp
termination_by l.length
decreasing_by
 simp;omega
theorem LB{x:Str}{r:List Str}{n:Nat}{w:Bool}(h:(w||decide (8<(n:Int)+1))=true):mM (x::r) n w=false:=by
 unfold mM
 rw[XY]
 rw[<-h,ZV.2 (by omega:8<n+1↔8<(n:Int)+1)]
def Zft{n:Nat}{w:Bool}(h:(w||decide (8<(n:Int)+1))=false):n+1<=8:=by
 rw[Ya,X3]at h
 omega
theorem LA{x:Str}{r:List Str}{n:Nat}{w:Bool}(h:(w||decide (8<(n:Int)+1))=false)(k:(!(x==[42]) && !dN x)=true):mM (x::r) n w=false:=by
 unfold mM
 rw[XW,XY k]
 rw[ZV.2 (by omega:8<n+1↔8<(n:Int)+1),h]
 simp
theorem Lx{x:Str}{r:List Str}{n:Nat}{w:Bool}(h:(w||decide (8<(n:Int)+1))=false)(k:(!(x==[42]) && !dN x)=false):mM (x::r) n w=mM r (n+1) (x==[42]):=by
 conv=>lhs;unfold mM
 rw[XW,XW]
 . rw[k];simp
 rw[ZV.2 (by omega:8<n+1↔8<(n:Int)+1),h]
 simp
theorem Vy:dN [42]=false:=by
 unfold dN
 rw[fM]
 rfl
theorem Lv(h:Str):∀(ys:List Str)(n:Nat)(w:Bool),mM (ys++[h]) n w=(!w&&ys.all dN&&(dN h||h==[42])&&decide (n+ys.length+1<=8))
 | [],n,w=>by
  simp only[XZ,mM,List.all_nil,ZJ,ZB]
  cases w<;>cases h1:dN h<;>cases h2:(h==[42])<;>by_cases h3:n+1<=8<;>simp[h3,show ¬8<n+1↔n+1<=8 by omega]<;>omega
 | y::ys,n,w=>by
  have ih:=Lv h ys (n+1) (y==[42]);simp only[XX,mM,List.all_cons,YA];rw[ih];have e:n+1+ys.length+1=n+(ys.length+1)+1:=by omega
  rw[e]
  by_cases hs:y=[42]
  .
   subst hs;rw[Vy]
   cases w<;>simp
  have hs':(y==[42])=false:=by simpa using hs
  rw[hs']
  by_cases h3:8<n+1
  .
   have h4 : ¬n+(ys.length+1)+1<=8:=by omega
   simp[h3,h4]
  cases w<;>cases dN y<;>simp[h3]
theorem ZgA(h:Str)(t:List Str):aF (h::t).length (fP (h::t)) 0=(t.all dN&&(dN h||h==[42])):=by
 rw[YS,fe]
 simp only[fP,XT,X8,Yg,XV,Yx]
 refine⟨λq=>⟨λx hx=>?_,?_⟩,λ⟨q1,q2⟩i _ hi=>?_⟩
 .
  obtain⟨i,hi,rfl⟩:=YN hx;have:=q (i+1) (Yl _) (by simp;omega)
  rcases this with h1|h1
  . simpa[hi]using h1
  omega
 .
  have:=q 0 (X4 _) (by simp)
  simpa using this
 cases i with
 | zero=>simpa using q2
 | succ i =>
  have hi':i<t.length:=by simpa using hi
  exact .inl (by simpa[hi']using q1 t[i] (Yp hi'))
theorem OZ(l:Str):ah l=if l=[46]then true else if 60<l.length then false else mM (gX l) 0 false:=by
 unfold ah
 rw[jK,<-qQ]
 cases hq:gV l with
 | nil=>exact absurd (by rw[<-qQ];exact hq) (qP l)
 | cons h t =>
  rw[ZgA,List.reverse_cons,Lv]
  simp
theorem ZaW{ps:List Str}{k:Nat}(h1:dN ps[k]! = false)(h2:0<k \/ ¬ps[k]! = [42]):fP ps k=false:=by
 unfold fP
 rw[h1,Bool.false_or,YH,X3,YM]
 rcases h2 with h|h
 . exact .inl om
 exact .inr h
theorem ZaV{ps:List Str}{k:Nat}(h:dN ps[k]! = true\/(¬0<k/\ps[k]! = [42])):fP ps k=true:=by
 unfold fP
 rw[X8,XT,XV,Yx]
 rcases h with h|⟨h1,h2⟩
 . exact .inl h
 exact .inr ⟨om,h2⟩
def ay(l:Str):List Str:=if l=[46]then[]else gX l
def pl(more:Bool)(rest:Str):List Str:=if more then gX rest else[]
def lg(more:Bool)(rest:Str):Str:=if more then rest.drop (bz rest 46+1).toNat else[]
def kE(more:Bool)(rest:Str):Bool:=more&&decide (0<=bz rest 46)
def kD(more:Bool)(rest:Str):Str:=if kE more rest then rest.take (bz rest 46).toNat else rest
theorem D8{rest:Str}:pl true rest=lg true rest::pl (kE true rest) (kD true rest):=by
 unfold pl lg kE kD kE
 rw[XY rfl,XY rfl,ky]
 by_cases h:bz rest 46<0
 .
  have : ¬0<=bz rest 46:=by omega
  simp[h,this]
 have:0<=bz rest 46:=by omega
 simp[h,this]
def Ia(more:Bool)(rest:Str):(kD more rest).length<=rest.length:=by
 unfold kD
 split
 . simp;omega
 exact X4 _
def qK:List Str->List Str->Int
 | [],_=>-1
 | _::_,[]=>1
 | x::xs,y::ys=>if Go.Lib.compareBytes x y != 0 then Go.Lib.compareBytes x y else qK xs ys
def ig(a b:Str):Int:=if a=b then 0 else qK (ay a) (ay b)
def fT{l:Str}(h:ah l=true):l.length<=60:=by
 unfold ah at h
 split at h
 . rename_i e;subst e;decide
 split at h
 . cases h
 omega
theorem M0(l:Str):ay l=pl (l != [46]) l:=by
 unfold ay pl
 by_cases h:l=[46]
 . subst h;rfl
 have:(l != [46])=true:=by simpa using h
 rw[XW h,this];rfl
theorem F3{more:Bool}{rest r2:Str}(h:(!more)=true):qK (gX rest) (pl more r2)=1:=by
 cases more with
 | true=>cases h
 | false=>rw[ky];rfl
theorem Tg{more:Bool}{rest r2:Str}(h:(!more)=false)(k:(Go.Lib.compareBytes (rest.drop (bz rest 46+1).toNat) (lg more r2) != 0)=true):qK (gX rest) (pl more r2)=Go.Lib.compareBytes (rest.drop (bz rest 46+1).toNat) (lg more r2):=by
 cases more with
 | false=>cases h
 | true=>rw[ky,D8,qK,XY k]
theorem KH{more:Bool}{rest r2:Str}(h:(!more)=false)(k:(Go.Lib.compareBytes (rest.drop (bz rest 46+1).toNat) (lg more r2) != 0)=false):qK (gX rest) (pl more r2)=qK (if bz rest 46<0 then[]else gX (rest.take (bz rest 46).toNat)) (pl (kE more r2) (kD more r2)):=by
 cases more with
 | false=>cases h
 | true=>rw[ky,D8,qK,XW (by rw[k];simp)]
def sM:List Str->List Str->Int
 | [],[]=>0
 | [],_::_=>-1
 | _::_,[]=>1
 | x::xs,y::ys=>if Go.Op.bytesLess x y then -1 else if !(Go.Op.bytesLess x y||x==y)then 1 else sM xs ys
def bH(a b:Str):Int:=sM (ay a) (ay b)
def wK(l m:List Str)(i:Nat):Int:=if i<=l.length/\i<=m.length then(if Go.Op.bytesLess l[l.length-i]! m[m.length-i]! then -1 else if !(Go.Op.bytesLess l[l.length-i]! m[m.length-i]! || l[l.length-i]! == m[m.length-i]!)then 1 else wK l m (i+1))else if l.length<m.length then -1 else if m.length<l.length then 1 else 0
termination_by l.length+1-i
theorem yg(l m:List Str)(i:Nat):wK l m i=if i<=l.length/\i<=m.length then(if Go.Op.bytesLess l[l.length-i]! m[m.length-i]! then -1 else if !(Go.Op.bytesLess l[l.length-i]! m[m.length-i]! || l[l.length-i]! == m[m.length-i]!)then 1 else wK l m (i+1))else if l.length<m.length then -1 else if m.length<l.length then 1 else 0:=by rw[wK]
theorem DK{l:List Str}{k:Nat}(h:k<l.length):l.reverse.drop k=l[l.length-(k+1)]! :: l.reverse.drop (k+1):=by
 rw[Yn (by simpa using h),List.getElem_reverse]
 congr 1
 have h2:l.length-1-k<l.length:=by omega
 have e:l.length-(k+1)=l.length-1-k:=by omega
 rw[e,getElem!_pos l _ h2]
theorem Og(l m:List Str)(k:Nat)(h1:k<=l.length)(h2:k<=m.length):wK l m (k+1)=sM (l.reverse.drop k) (m.reverse.drop k):=by
 rw[yg]
 by_cases h:k+1<=l.length/\k+1<=m.length
 . rw[XY h,DK (by omega:k<l.length),DK (by omega:k<m.length),sM,Og l m (k+1) h.1 h.2]
 rw[XW h]
 by_cases e1:k=l.length
 .
  rw[YU (by simp;omega)]
  by_cases e2:k=m.length
  . rw[YU (by simp;omega),XW (by omega),XW (by omega)];rfl
  rw[DK (by omega:k<m.length),XY (by omega)];rfl
 have e2:k=m.length:=by omega
 have hm:m.reverse.drop k=[]:=YU (by simp;omega)
 rw[hm,DK (by omega:k<l.length),XW (by omega),XY (by omega)];rfl
termination_by l.length-k
theorem D9(l:Str):(aM l).reverse=ay l:=by
 unfold aM ay
 split
 . rfl
 rw[jK,qQ]
theorem Zbr(a b:Str):bH a b=wK (aM a) (aM b) 1:=by
 rw[Og _ _ 0 (Yl _) (Yl _),Yj,Yj,D9,D9];rfl
theorem CU : ∀a:Str,Go.Op.bytesLess a a=false
 | []=>rfl
 | c::r=>by simp[Go.Op.bytesLess,CU r]
theorem CP : ∀a b:Str,Go.Lib.compareBytes a b=if Go.Op.bytesLess a b then -1 else if a==b then 0 else 1
 | [],[]=>rfl
 | [],_::_=>rfl
 | _::_,[]=>by simp[Go.Lib.compareBytes,Go.Op.bytesLess]
 | x::a,y::b=>by
  unfold Go.Lib.compareBytes Go.Op.bytesLess
  by_cases h1:x<y
  . simp[h1]
  by_cases h2:y<x
  .
   have h3 : ¬x=y:=λe=>by subst e;exact h1 h2
   simp[h1,h2,h3]
  have h3:x=y:=by
   apply ZO.1
   have h4 : ¬x.toNat<y.toNat:=h1;have h5 : ¬y.toNat<x.toNat:=h2;omega
  subst h3
  simp[h1,CP a b]
theorem Ti : ∀xs ys:List Str,xs≠ys->qK xs ys=sM xs ys
 | [],[],h=>absurd rfl h
 | [],_::_,_=>rfl
 | _::_,[],_=>rfl
 | x::xs,y::ys,h=>by
  unfold qK sM;rw[CP]
  by_cases h1:Go.Op.bytesLess x y=true
  . simp[h1]
  by_cases h2:x=y
  .
   subst h2
   simp[CU]
   exact Ti xs ys λe=>h (by rw[e])
  have h3:(x==y)=false:=by simpa using h2
  simp[h1,h3]
theorem Oe : ∀xs:List Str,sM xs xs=0
 | []=>rfl
 | x::xs=>by simp[sM,CU,Oe xs]
def dB:List Str->Str
 | []=>[]
 | [p]=>p
 | p::q::r=>p++46::dB (q::r)
theorem rG : ∀l:Str,dB (split l)=l
 | []=>rfl
 | c::r=>by
  have ih:=rG r;unfold split
  by_cases h:c=46
  .
   rw[XY h]
   cases hs:split r with
   | nil=>exact absurd hs (qP r)
   | cons q qs=>rw[hs]at ih;rw[dB,ih,h];rfl
  rw[XW h]
  cases hs:split r with
  | nil=>exact absurd hs (qP r)
  | cons q qs =>
   rw[hs]at ih
   cases qs with
   | nil=>simp only[dB]at ih ⊢;rw[ih]
   | cons q2 qs2=>simp only[dB]at ih ⊢;rw[<-ih];rfl
theorem qV{a b:Str}(h:ay a=ay b):a=b:=by
 unfold ay at h
 have ne : ∀l:Str,gX l≠[]:=λl e=>by rw[ky]at e;cases e
 by_cases ha:a=[46]<;>by_cases hb:b=[46]
 . rw[ha,hb]
 . rw[XY ha,XW hb]at h;exact absurd h.symm (ne b)
 . rw[XW ha,XY hb]at h;exact absurd h (ne a)
 rw[XW ha,XW hb,jK,jK]at h
 rw[<-rG a,<-rG b,List.reverse_inj.1 h]
theorem Eu(a b:Str):ig a b=bH a b:=by
 unfold ig bH
 by_cases h:a=b
 . subst h;rw[XY rfl,Oe]
 rw[XW h,Ti _ _ λe=>h (qV e)]
def Ea(l:Str):(∀x∈aM l,x.length<=l.length)/\(aM l).length<=l.length+1:=by
 unfold aM
 split
 . exact⟨by simp,Yl _⟩
 exact Dw l
end Go.Str
namespace Go.Rec
open Go.DL Go.Str
structure Dat where
 t:Str
 n:Int
 m:Int
 deriving Inhabited,DecidableEq
structure RSet where
 name:Str
 ty:Int
 life:Int
 data:List Dat
 deriving Inhabited,DecidableEq
structure su where
 text:Int
 n0:Int
 n1:Int
 m0:Int
 m1:Int
 even:Bool
 single:Bool
 wild:Bool
 deriving Inhabited,DecidableEq
def Dat.d(x:Dat):List D:=[.v (.string (bs x.t)),.i x.n,.i x.m]
def Dat.of:List D->Dat
 | [.v (.string s),.v (.int _ n),.v (.int _ m)]=>⟨s.data.toList,n,m⟩
 | _=>default
def RSet.d(x:RSet):List D:=[.v (.string (bs x.name)),.i x.ty,.i x.life,.l (x.data.map Dat.d)]
def RSet.of:List D->RSet
 | [.v (.string s),.v (.int _ t),.v (.int _ l),.list _ rows]=>⟨s.data.toList,t,l,rows.map Dat.of⟩
 | _=>default
def su.d(r:su):List D:=[.i r.text,.i r.n0,.i r.n1,.i r.m0,.i r.m1,.b r.even,.b r.single,.b r.wild]
def su.of:List D->su
 | [.v (.int _ a),.v (.int _ b),.v (.int _ c),.v (.int _ d),.v (.int _ e),.v (.bool f),.v (.bool g),.v (.bool h)]=>⟨a,b,c,d,e,f,g,h⟩
 | _=>default
def vE{α:Type}(f:List D->α)(z:α):D->α
 | .agg cs=>f cs
 | _=>z
def zX{α:Type}(f:List D->α):D->List α
 | .list _ rows=>rows.map f
 | _=>[]
def iR(n:Int):List D:=[.i n]
def ofI:List D->Int
 | [.v (.int _ n)]=>n
 | _=>0
def nN:D->List Int:=zX ofI
def pF:D->Dat:=vE Dat.of default
def Aw:D->List Dat:=zX Dat.of
def set1:D->RSet:=vE RSet.of default
def lY:D->List RSet:=zX RSet.of
def Hm:D->su:=vE su.of default
attribute [go_sem] Dat.d RSet.d su.d iR
theorem Iu(x:Dat):Dat.of x.d=x:=by simp[Dat.of,Dat.d,kR]
def Za7(x:RSet):RSet.of x.d=x:=by simp[RSet.of,RSet.d,kR,qg Iu]
@[go_sem]theorem ZiH{f:Bool}{l:List Dat}:Aw (.list f (l.map Dat.d))=l:=qg Iu l
@[go_sem]theorem ZiG{f:Bool}:Aw (.list f [])=[]:=rfl
@[go_sem]theorem Zhd{f:Bool}{l:List RSet}:lY (.list f (l.map RSet.d))=l:=qg Za7 l
@[go_sem]theorem Zcx{f:Bool}{l:List Int}:nN (.list f (l.map iR))=l:=qg (f:=iR) (g:=ofI) (λ_=>rfl) l
def dat1_agg{s:ByteArray}{n m:Int}{k k':IntKind}:pF (.agg [.v (.string s),.v (.int k n),.v (.int k' m)])=⟨s.data.toList,n,m⟩:=rfl
def set1_agg{s:ByteArray}{n m:Int}{k k':IntKind}{f:Bool}{rows:List (List D)}:set1 (.agg [.v (.string s),.v (.int k n),.v (.int k' m),.list f rows])=⟨s.data.toList,n,m,Aw (.list f rows)⟩:=rfl
def Zhe{r:su}:Hm (.agg [.i r.text,.i r.n0,.i r.n1,.i r.m0,.i r.m1,.b r.even,.b r.single,.b r.wild])=r:=rfl
attribute[go_sem]dat1_agg set1_agg Zhe
def aW(x lo hi:Int):Bool:=decide (lo<=x)&&decide (x<=hi)
def cmpI(x y:Int):Int:=if x<y then -1 else if y<x then 1 else 0
def rD(a b:Str):Bool:=Go.Op.bytesLess a b
def qJ(a b:Str):Int:=if rD a b then -1 else if !(rD a b||a==b)then 1 else 0
def uP(s p:Str):Bool:=decide (p.length<=s.length)&&s.take p.length==p
def dD(s:Str):Bool:=decide (0<s.length)&&decide ((s.getD 0 0).toNat=42)
theorem vO(s:Str):uP s [42]=dD s:=by
 cases s with
 | nil=>rfl
 | cons c r =>
  simp only[uP,dD,YA,ZJ,YC,Y1,List.getD_cons_zero];have h1:decide (0+1<=r.length+1)=true:=by simp
  have h2:decide (0<r.length+1)=true:=by simp
  rw[h1,h2,Zl,Zl,YS,Yx,XV]
  constructor
  . intro h;have:=(List.cons.inj h).1;subst this;rfl
  intro h;have:c=42:=ZO.1 h;subst this;rfl
def qb(l:List Int)(k:Nat):Int:=if k<l.length then if l[k]! != 0 then l[k]! else qb l (k+1)else 0
termination_by l.length-k
theorem yh(l:List Int)(k:Nat):qb l k=if k<l.length then if l[k]! != 0 then l[k]! else qb l (k+1)else 0:=by rw[qb]
def pq(l:Str)(i:Nat):Bool:=nX (l.getD i 0)||decide ((l.getD i 0).toNat=32)
def rP(l:Str):Bool:=if l.length<1 then false else if 40<l.length then false else if(l.getD 0 0).toNat=32 then false else if(l.getD (l.length-1) 0).toNat=32 then false else aF l.length (pq l) 0
def less(a b:Dat):Bool:=if a.t != b.t then rD a.t b.t else if a.n != b.n then decide (a.n<b.n)else decide (a.m<b.m)
end Go.Rec
namespace Go.Cmp
open Go.Str
structure Cm{α:Type}(c:α->α->Int):Prop where
 anti : ∀x y,c y x = - c x y
 tr : ∀x y z,c x y<=0->c y z<=0->c x z<=0
 lo : ∀x y, -1<=c x y
namespace Cm
variable {α : Type} {c : α -> α -> Int} (h : Cm c)
include h
theorem hi(x y:α):c x y<=1:=by have:=h.lo y x;have:=h.anti x y;omega
def self(x:α):c x x=0:=by have:=h.anti x x;omega
def lt_le{x y z:α}(a:c x y<0)(b:c y z<=0):c x z<0:=by
 have h1:=h.tr x y z (by omega) b
 by_cases e:c x z=0
 .
  have h2:=h.tr y z x b (by have:=h.anti x z;omega)
  have:=h.anti x y;omega
 omega
def le_lt{x y z:α}(a:c x y<=0)(b:c y z<0):c x z<0:=by
 have h1:=h.tr x y z a (by omega)
 by_cases e:c x z=0
 .
  have h2:=h.tr z x y (by have:=h.anti x z;omega) a
  have:=h.anti y z;omega
 omega
def eq_eq{x y z:α}(a:c x y=0)(b:c y z=0):c x z=0:=by
 have h1:=h.tr x y z (by omega) (by omega)
 have h2:=h.tr z y x (by have:=h.anti y z;omega) (by have:=h.anti x y;omega)
 have:=h.anti x z;omega
end Cm
def lV(a b:Int):Int:=if a != 0 then a else b
def KJ{α:Type}{c d:α->α->Int}(h:Cm c)(k:Cm d):Cm λx y=>lV (c x y) (d x y):=by
 have e : ∀x y,lV (c x y) (d x y)=if c x y=0 then d x y else c x y:=by
  intro x y;unfold lV;by_cases q:c x y=0<;>simp[q]
 refine⟨λx y=>?_,λx y z=>?_,λx y=>?_⟩
 .
  simp only[e];have:=h.anti x y;have:=k.anti x y
  split<;>split<;>omega
 .
  simp only[e];intro a b
  by_cases e1:c x y=0<;>by_cases e2:c y z=0
  . rw[if_pos e1]at a;rw[if_pos e2]at b;rw[if_pos (h.eq_eq e1 e2)];exact k.tr _ _ _ a b
  .
   rw[if_neg e2]at b;have:=h.le_lt (x:=x) (by omega:c x y<=0) (by omega:c y z<0)
   rw[if_neg (by omega)];omega
  .
   rw[if_neg e1]at a;have:=h.lt_le (by omega:c x y<0) (by omega:c y z<=0)
   rw[if_neg (by omega)];omega
  rw[if_neg e1]at a;rw[if_neg e2]at b;have:=h.lt_le (by omega:c x y<0) (by omega:c y z<=0)
  rw[if_neg (by omega)];omega
 simp only[e]
 have:=h.lo x y;have:=k.lo x y
 split<;>omega
def vv{α β:Type}{c:β->β->Int}(h:Cm c)(f:α->β):Cm λx y=>c (f x) (f y) :=
 ⟨λx y=>h.anti _ _,λx y z=>h.tr _ _ _,λx y=>h.lo _ _⟩
def cmpI(x y:Int):Int:=if x<y then -1 else if y<x then 1 else 0
def F4:Cm cmpI:=by
 refine⟨λx y=>?_,λx y z=>?_,λx y=>?_⟩<;>unfold cmpI<;>(repeat' split)<;>omega
def KI{x y:Int}:cmpI x y=0↔x=y:=by
 unfold cmpI;(repeat' split)<;>omega
def lex{α:Type}(c:α->α->Int):List α->List α->Int
 | [],[]=>0
 | [],_::_=>-1
 | _::_,[]=>1
 | x::xs,y::ys=>lV (c x y) (lex c xs ys)
theorem ku{a b:Int}:lV a b=if a=0 then b else a:=by
 unfold lV;by_cases q:a=0<;>simp[q]
theorem Tm{α:Type}{c:α->α->Int}(h:Cm c):Cm (lex c):=by
 refine⟨?_,?_,?_⟩
 .
  intro x
  induction x with
  | nil=>intro y;cases y<;>rfl
  | cons x xs ih =>
   intro y
   cases y with
   | nil=>rfl
   | cons y ys =>
    simp only[lex,ku];have:=h.anti x y;have:=ih ys
    split<;>split<;>omega
 .
  intro x
  induction x with
  | nil =>
   intro y z _ _
   cases z
   . simp[lex]
   simp[lex]
  | cons x xs ih =>
   intro y z a b
   cases y with
   | nil=>simp[lex]at a
   | cons y ys =>
    cases z with
    | nil=>simp[lex]at b
    | cons z zs =>
     simp only[lex,ku]at a b ⊢
     by_cases e1:c x y=0<;>by_cases e2:c y z=0
     . rw[if_pos e1]at a;rw[if_pos e2]at b;rw[if_pos (h.eq_eq e1 e2)];exact ih _ _ a b
     .
      rw[if_neg e2]at b;have:=h.le_lt (x:=x) (by omega:c x y<=0) (by omega:c y z<0)
      rw[if_neg (by omega)];omega
     .
      rw[if_neg e1]at a;have:=h.lt_le (by omega:c x y<0) (by omega:c y z<=0)
      rw[if_neg (by omega)];omega
     rw[if_neg e1]at a;rw[if_neg e2]at b;have:=h.lt_le (by omega:c x y<0) (by omega:c y z<=0)
     rw[if_neg (by omega)];omega
 intro x
 induction x with
 | nil=>intro y;cases y<;>simp[lex]
 | cons x xs ih =>
  intro y
  cases y with
  | nil=>simp[lex]
  | cons y ys =>
   simp only[lex,ku];have:=h.lo x y;have:=ih ys
   split<;>omega
theorem IZ{α:Type}{c:α->α->Int}(h : ∀x y,c x y=0->x=y):∀xs ys:List α,lex c xs ys=0->xs=ys
 | [],[],_=>rfl
 | [],_::_,e=>by simp[lex]at e
 | _::_,[],e=>by simp[lex]at e
 | x::xs,y::ys,e=>by
  simp only[lex,ku]at e
  split at e
  . rename_i q;rw[h _ _ q,IZ h xs ys e]
  rename_i q;exact absurd e q
def CO(x y:UInt8):Int:=cmpI x.toNat y.toNat
def cm_u:Cm CO:=vv F4 λx:UInt8=>(x.toNat:Int)
def Zfw{x y:UInt8}(h:CO x y=0):x=y:=UInt8.toNat_inj.1 (by have:=KI.1 h;omega)
theorem Ky : ∀a b:Str,Go.Lib.compareBytes a b=lex CO a b
 | [],[]=>rfl
 | [],_::_=>rfl
 | _::_,[]=>rfl
 | x::a,y::b=>by
  unfold Go.Lib.compareBytes lex;have ih:=Ky a b;simp only[ku,CO,cmpI]
  by_cases h1:x<y
  .
   have:(x.toNat:Int)<y.toNat:=by have:x.toNat<y.toNat:=h1;omega
   simp[h1,this]
  have h1' : ¬(x.toNat:Int)<y.toNat:=by have : ¬x.toNat<y.toNat:=h1;omega
  by_cases h2:y<x
  .
   have:(y.toNat:Int)<x.toNat:=by have:y.toNat<x.toNat:=h2;omega
   simp[h1,h2,h1',this]
  have h2' : ¬(y.toNat:Int)<x.toNat:=by have : ¬y.toNat<x.toNat:=h2;omega
  simp[h1,h2,h1',h2',ih]
def F5:Cm (Go.Lib.compareBytes):=by
 have:Go.Lib.compareBytes=lex CO:=by funext a b;exact Ky a b
 rw[this];exact Tm cm_u
def TB{a b:Str}(h:Go.Lib.compareBytes a b=0):a=b:=by
 rw[Ky]at h;exact IZ (λ_ _=>Zfw) a b h
theorem Ee : ∀xs ys:List Str,sM xs ys=lex Go.Lib.compareBytes xs ys
 | [],[]=>rfl
 | [],_::_=>rfl
 | _::_,[]=>rfl
 | x::xs,y::ys=>by
  unfold sM lex;have ih:=Ee xs ys;rw[CP,ku,ih]
  by_cases h1:Go.Op.bytesLess x y=true
  . simp[h1]
  by_cases h2:x=y
  . subst h2;simp[CU]
  have h3:(x==y)=false:=by simpa using h2
  simp[h1,h3]
def gD:Cm bH:=by
 have:bH=λa b=>lex Go.Lib.compareBytes (ay a) (ay b):=by funext a b;exact Ee _ _
 rw[this];exact vv (Tm F5) ay
theorem zP{a b:Str}(h:bH a b=0):a=b:=by
 unfold bH at h
 rw[Ee]at h
 exact qV (IZ (λ_ _=>TB) _ _ h)
section
variable {α : Type} (c : α -> α -> Int) (m : α -> α -> α)
structure Un:Prop where
 left : ∀x y,c x y=0->c (m x y) x=0
 comm : ∀x y,c x y=0->m x y=m y x
 swap : ∀x y z,c x y=0->c x z=0->m (m x y) z=m (m x z) y
variable {c m}
def sj(c:α->α->Int)(l:List α):Prop:=l.Pairwise λx y=>c x y<0
end
end Go.Cmp
namespace Go.Rec
open Go.DL Go.Str Go.Cmp
def gp(k:Nat):su:=match k with
 | 1=>⟨0,1,1000000,0,0,false,false,true⟩
 | 2=>⟨1,0,0,0,0,false,false,false⟩
 | 3=>⟨1,0,0,0,0,false,true,false⟩
 | 4=>⟨0,0,65535,0,100000,false,true,false⟩
 | 5=>⟨3,0,0,0,0,false,false,true⟩
 | 6=>⟨0,1,1000000,1,3,false,false,false⟩
 | 7=>⟨0,1,1000000,1,3,false,false,false⟩
 | 8=>⟨2,2,510,0,0,true,false,true⟩
 | _=>⟨0,0,0,0,0,false,false,false⟩
def vR(k:Int)(t:Str):Bool:=if k=1 then ah t && !dD t else if k=2 then ah t else if k=3 then rP t else t==[]
def kM(r:su)(d:Dat):Bool:=aW d.n r.n0 r.n1&&aW d.m r.m0 r.m1 && !(r.even&&d.n % 2 != 0)&&vR r.text d.t
def lc(k:Int)(d:Dat):Bool :=
 if k=1 then d.t==[]&&aW d.n 1 1000000&&d.m==0
 else if k=2\/k=3 then ah d.t && !dD d.t&&d.n==0&&d.m==0
 else if k=4 then d.t==[]&&aW d.n 0 65535&&aW d.m 0 100000
 else if k=5 then rP d.t&&d.n==0&&d.m==0
 else if k=6\/k=7 then d.t==[]&&aW d.n 1 1000000&&aW d.m 1 3
 else if k=8 then ah d.t&&aW d.n 2 510&&d.n % 2==0&&d.m==0
 else false
theorem ZcA(n:Int):aW n 0 0=(n==0):=by
 unfold aW
 rw[YS,XT,XV,XV,Yx]
 omega
theorem je{n a b:Int}:aW n a b=true↔a<=n/\n<=b:=by
 unfold aW
 rw[XT,XV,XV]
def kinds{k:Int}(h:aW k 1 8=true):k=1\/k=2\/k=3\/k=4\/k=5\/k=6\/k=7\/k=8:=by
 have:=je.1 h
 omega
theorem Sl{k:Int}(h:aW k 1 8=true)(d:Dat):lc k d=kM (gp k.toNat) d:=by
 rw[YS]
 rcases kinds h with h|h|h|h|h|h|h|h<;>subst h<;>simp[lc,kM,gp,vR,ZcA]<;>constructor<;>intro q<;>simp_all
def xP(k:Int):Bool:=decide (k=3)||decide (k=4)
theorem Mx{k:Int}(h:aW k 1 8=true):xP k=(gp k.toNat).single:=by
 rcases kinds h with h|h|h|h|h|h|h|h<;>subst h<;>rfl
theorem UG{k:Int}(h:aW k 1 8=true):(k != 1&&k != 5&&k != 8) = !(gp k.toNat).wild:=by
 rcases kinds h with h|h|h|h|h|h|h|h<;>subst h<;>rfl
def kN(a b:Dat):Int:=lV (Go.Lib.compareBytes a.t b.t) (lV (Go.Cmp.cmpI a.n b.n) (Go.Cmp.cmpI a.m b.m))
def ZfC:Cm kN:=KJ (vv F5 Dat.t) (KJ (vv F4 Dat.n) (vv F4 Dat.m))
theorem Pd(a b:Dat):less a b=decide (kN a b<0):=by
 unfold less kN rD
 rw[ku,ku,CP]
 by_cases h1:a.t=b.t
 .
  rw[h1]
  simp[CU]
  by_cases h2:a.n=b.n
  .
   rw[h2];simp[Go.Cmp.cmpI]
   by_cases h3:a.m<b.m
   . simp[h3]
   simp[h3];split<;>omega
  simp[h2,Go.Cmp.cmpI]
  by_cases h3:a.n<b.n
  . simp[h3]
  have:b.n<a.n:=by omega
  simp[h3,this]
 have h2:(a.t==b.t)=false:=by simpa using h1
 simp[h1,h2]
 cases h3:Go.Op.bytesLess a.t b.t<;>simp
theorem Zfx(a b:Str):qJ a b=Go.Lib.compareBytes a b:=by
 rw[CP]
 unfold qJ rD
 by_cases h:Go.Op.bytesLess a b=true
 . simp[h]
 cases h2:(a==b)<;>simp[h]
theorem Za2(a b c:Int):qb [a,b,c] 0=if a != 0 then a else if b != 0 then b else if c != 0 then c else 0:=by
 rw[yh,yh _ (0+1),yh _ (0+1+1),yh _ (0+1+1+1)]
 simp
theorem Za1(a b:Dat):qb [qJ a.t b.t,cmpI a.n b.n,cmpI a.m b.m] 0=kN a b:=by
 rw[Za2,Zfx]
 unfold kN lV
 show(if _ then _ else if _ then _ else if Go.Cmp.cmpI a.m b.m != 0 then Go.Cmp.cmpI a.m b.m else 0)=_
 by_cases h:Go.Cmp.cmpI a.m b.m=0
 . simp[h];rfl
 simp[h];rfl
def lJ(k:Nat)(l:List Dat)(i:Nat):Bool:=kM (gp k) l[i]! && (decide (i=0)||decide (kN l[i-1]! l[i]! < 0))
def di(s:RSet):Bool:=ah s.name&&aW s.ty 1 8&&aW s.life 0 100000&&aW s.data.length 1 8 && !((gp s.ty.toNat).single&&(s.data.length:Int) != 1) && !(dD s.name && !(gp s.ty.toNat).wild)&&aF s.data.length (lJ s.ty.toNat s.data) 0
structure xE(s:RSet):Prop where
 name:ah s.name=true
 ty:aW s.ty 1 8=true
 life:aW s.life 0 100000=true
 len:1<=s.data.length/\s.data.length<=8
 single:(gp s.ty.toNat).single=true->s.data.length=1
 wild:dD s.name=true->(gp s.ty.toNat).wild=true
 dat : ∀d∈s.data,kM (gp s.ty.toNat) d=true
 sorted:sj kN s.data
theorem Vl{l:List Dat}(h : ∀i,0<i->i<l.length->kN l[i-1]! l[i]! < 0):sj kN l:=by
 induction l with
 | nil=>exact .nil
 | cons x r ih =>
  have ih:=ih λi h1 h2=>by
   have:=h (i+1) om (by simp;omega)
   obtain⟨j,rfl⟩:∃j,i=j+1:=⟨i-1,om⟩
   simpa using this
  refine Zo.2 ⟨λy hy=>?_,ih⟩
  cases r with
  | nil=>cases hy
  | cons z r =>
   have hxz:kN x z<0:=by simpa using h 1 om (by simp)
   rcases Yz.1 hy with e|e
   . subst e;exact hxz
   have:=(Zo.1 ih).1 y e;exact ZfC.lt_le hxz om
def Zgg{l:List Dat}(h:sj kN l){i j:Nat}(h1:i<j)(h2:j<l.length):kN l[i]! l[j]! < 0:=by
 rw[getElem!_pos l i (by omega),getElem!_pos l j h2]
 exact Za.1 h i j om h2 h1
theorem iB(s:RSet):di s=true↔xE s:=by
 unfold di
 simp only[XT,X5,YH,ZW,Yk,fe]
 constructor
 .
  rintro⟨⟨⟨⟨⟨⟨h1,h2⟩,h3⟩,h4⟩,h5⟩,h6⟩,h7⟩;have h4:=je.1 h4;have hd : ∀i,i<s.data.length->kM (gp s.ty.toNat) s.data[i]! = true:=λi hi=>by
   have:=h7 i (Yl _) hi;unfold lJ at this;exact(XT _ _▸this).1
  refine⟨h1,h2,h3,om,λq=>?_,λq=>?_,λd hd'=>?_,Vl λi hi hl=>?_⟩
  .
   rcases h5 with h|h
   . rw[q]at h;cases h
   omega
  .
   rcases h6 with h|h
   . rw[q]at h;cases h
   exact h
  . obtain⟨i,hi,rfl⟩:=YN hd';have:=hd i hi;rwa [getElem!_pos s.data i hi]at this
  have:=h7 i (Yl _) hl;unfold lJ at this;rw[XT,X8,XV,XV]at this;exact this.2.resolve_left om
 intro ⟨h1,h2,h3,h4,h5,h6,h7,h8⟩
 refine⟨⟨⟨⟨⟨⟨h1,h2⟩,h3⟩,je.2 om⟩,?_⟩,?_⟩,λi _ hi=>?_⟩
 .
  by_cases q:(gp s.ty.toNat).single=true
  . right;have:=h5 q;omega
  left;simpa using q
 .
  by_cases q:dD s.name=true
  . right;exact h6 q
  left;simpa using q
 unfold lJ
 rw[XT,X8,XV,XV]
 refine⟨by rw[getElem!_pos s.data i hi];exact h7 _ (Yp _),?_⟩
 by_cases e:i=0
 . exact .inl e
 exact .inr (Zgg h8 om hi)
instance(s:RSet):Decidable (xE s):=decidable_of_iff _ (iB s)
def wQ(a b:Str):Int:=if ah a&&ah b then ig a b else 0
def plC(a b:RSet):Int:=if a.name=b.name then cmpI a.ty b.ty else wQ a.name b.name
def oG(a b:RSet):Int:=lV (wQ a.name b.name) (cmpI a.ty b.ty)
def uz(a b:RSet):Int:=lV (bH a.name b.name) (cmpI a.ty b.ty)
def cm_pl:Cm uz:=KJ (vv gD RSet.name) (vv F4 RSet.ty)
theorem ZaL{a b:RSet}:uz a b=0↔a.name=b.name/\a.ty=b.ty:=by
 unfold uz
 rw[ku]
 constructor
 .
  intro h
  split at h
  . exact⟨zP ‹_›,KI.1 h⟩
  exact absurd h ‹_›
 rintro⟨h1,h2⟩
 rw[h1,h2,XY (gD.self _)]
 exact KI.2 rfl
theorem plC_c{a b:RSet}(ha:ah a.name=true)(hb:ah b.name=true):plC a b=uz a b:=by
 unfold plC uz wQ
 rw[ha,hb,ku]
 by_cases h:a.name=b.name
 . rw[XY h,h,XY (gD.self _)]
 rw[XW h,XW (λe=>h (zP e)),Eu];rfl
theorem Nh{a b:RSet}(ha:ah a.name=true)(hb:ah b.name=true):oG a b=uz a b:=by
 unfold oG uz wQ
 rw[ha,hb,Eu];rfl
def uN(n:Int):Nat:=(n % 18446744073709551616).toNat
def mI(u sh:Nat):UInt8:=UInt8.ofNat (u / 2^sh)
def dI(n:Int):Str:=[mI (uN n) 56,mI (uN n) 48,mI (uN n) 40,mI (uN n) 32,mI (uN n) 24,mI (uN n) 16,mI (uN n) 8,mI (uN n) 0]
theorem pJ(n:Int):(dI n).length=8:=rfl
def Vn(n:Nat)(c:UInt8):Nat:=(n*256+c.toNat) % 18446744073709551616
def Oz(l:Str):Nat:=l.foldl Vn 0
def sN(n:Nat):Int:=IntKind.i64.wrap (n:Int)
def numOf(l:Str):Int:=sN (Oz l)
theorem ZfU(u sh:Nat):(mI u sh).toNat=u / 2^sh % 256:=by simp[mI]
def nE(n:Nat):UInt8:=UInt8.ofNat n
def gI(t:Str):Str:=nE t.length::t
def Ay(d:Dat):Str:=gI d.t++dI d.n++dI d.m
def zA(s:RSet):Str:=gI s.name++dI s.ty++dI s.life++nE s.data.length::s.data.flatMap Ay
abbrev RS:=Str×Bool
def qY(n:Int)(st:RS):Str×RS:=if st.2||decide ((st.1.length:Int)<n)then([],(st.1,true))else(st.1.take n.toNat,(st.1.drop n.toNat,false))
def Ij(st:RS):Nat×RS:=(if(qY 1 st).1.length=1 then((qY 1 st).1.getD 0 0).toNat else 0,(qY 1 st).2)
def Bt(st:RS):Str×RS:=qY (Ij st).1 (Ij st).2
def x9(st:RS):Int×RS:=(numOf (qY 8 st).1,(qY 8 st).2)
def Ed(st:RS):Dat×RS:=(⟨(Bt st).1,(x9 (Bt st).2).1,(x9 (x9 (Bt st).2).2).1⟩,(x9 (x9 (Bt st).2).2).2)
def NS:Nat->List Dat->RS->List Dat×RS
 | 0,out,st=>(out,st)
 | k+1,out,st=>if(Ed st).2.2 then(out,(Ed st).2)else NS k (out++[(Ed st).1]) (Ed st).2
def Eb(st:RS):RSet×RS :=
 let a:=Bt st
 let b:=x9 a.2
 let c:=x9 b.2
 let n:=Ij c.2
 let d:=NS n.1 [] n.2
 (⟨a.1,b.1,c.1,d.1⟩,d.2)
def noSet:RSet:=⟨[],0,0,[]⟩
def Nc(x:Str):RSet×Int:=if(Eb (x,false)).2.2||decide (0<(Eb (x,false)).2.1.length) || !di (Eb (x,false)).1 then(noSet,10)else((Eb (x,false)).1,0)
def i64(n:Int):Prop:=-9223372036854775808<=n/\n<=9223372036854775807
structure Lc(d:Dat):Prop where
 t:d.t.length<=255
 n:i64 d.n
 m:i64 d.m
structure SetSz(s:RSet):Prop where
 name:s.name.length<=255
 ty:i64 s.ty
 life:i64 s.life
 len:s.data.length<=255
 dat : ∀d∈s.data,Lc d
def U4{k:Int}{t:Str}(h:vR k t=true):t.length<=60:=by
 unfold vR at h
 split at h
 . rw[XT]at h;exact fT h.1
 split at h
 . exact fT h
 split at h
 .
  unfold rP at h
  split at h
  . cases h
  split at h
  . cases h
  omega
 rw[Yx]at h;subst h;simp
def Sk{k:Int}(hk:aW k 1 8=true){d:Dat}(h:kM (gp k.toNat) d=true):Lc d/\d.t.length<=60/\0<=d.n/\0<=d.m:=by
 unfold kM at h
 simp only[XT,je]at h
 have ht:=U4 h.2
 have hn:=h.1.1.1
 have hm:=h.1.1.2
 refine⟨⟨om,?_,?_⟩,ht,?_,?_⟩<;>(try unfold i64)<;>rcases kinds hk with e|e|e|e|e|e|e|e<;>subst e<;>simp[gp]at hn hm<;>omega
def nV(s:RSet):Str×Int:=if di s then(zA s,0)else([],1)
def qR(a b:RSet):Bool:=decide (a=b)
def Fe{l:List Int}{n:Nat}(h:n<l.length):(l.map iR).getD n []=[.i l[n]!]:=by
 simp[List.getD,h,getElem!_pos,iR]
def mq{l:List Dat}{n:Nat}(h:n<l.length):(l.map Dat.d).getD n []=l[n]!.d:=by
 simp[List.getD,h,getElem!_pos]
theorem getD_set{l:List RSet}{n:Nat}(h:n<l.length):(l.map RSet.d).getD n []=l[n]!.d:=by
 simp[List.getD,h,getElem!_pos]
@[go_sem]theorem Zbl{l:List Int}:bg (l.map iR)=true:=by
 induction l with
 | nil=>rfl
 | cons x l ih=>simp only[X9,bg,ih];rfl
@[go_sem]theorem BC{l:List Dat}:bg (l.map Dat.d)=true:=by
 induction l with
 | nil=>rfl
 | cons x l ih=>simp only[X9,bg,ih];rfl
@[go_sem]theorem A8{l:List Dat}:dK (l.map Dat.d)=l.map Dat.d:=by
 induction l with
 | nil=>rfl
 | cons x l ih=>simp only[X9,dK,ih];rfl
@[go_sem]theorem nrr_set{l:List RSet}:bg (l.map RSet.d)=true:=by
 induction l with
 | nil=>rfl
 | cons x l ih=>simp only[X9,bg,ih,RSet.d,bV,D.nr,BC];rfl
@[go_sem]theorem wkr_set{l:List RSet}:dK (l.map RSet.d)=l.map RSet.d:=by
 induction l with
 | nil=>rfl
 | cons x l ih=>simp only[X9,dK,ih,RSet.d,wk,dV,A8]
theorem Hf{s:RSet}(c1:(ah s.name=true/\aW s.ty 1 8=true)/\aW s.life 0 100000=true)(c2:aW s.data.length 1 8=true)(c3:((gp s.ty.toNat).single=false\/(s.data.length:Int)=1)/\(dD s.name=false\/(gp s.ty.toNat).wild=true)):di s=aF s.data.length (lJ s.ty.toNat s.data) 0:=by
 obtain⟨h1,h2⟩:=c3
 unfold di
 rw[c2,c1.1.1,c1.1.2,c1.2]
 rcases h1 with h1|h1<;>rcases h2 with h2|h2<;>simp[h1,h2]
theorem Si{l:List Dat}{t k:Nat}(h:kM (gp t) l[k]! = true/\(¬(0:Int)<k \/ ¬0<=kN l[k-1]! l[k]!)):lJ t l k=true:=by
 unfold lJ
 rw[XT,X8,XV,XV]
 exact⟨h.1,h.2.imp (λq=>by omega) λq=>by omega⟩
theorem Sj{l:List Dat}{t k:Nat}(h:kM (gp t) l[k]! = false\/((0:Int)<k/\0<=kN l[k-1]! l[k]!)):lJ t l k=false:=by
 unfold lJ
 rw[YH,Ya,X3,X3]
 exact h.imp id λq=>⟨om,om⟩
theorem Lt{k:Int}(w:Bool)(h:aW k 1 8=true):(((w&&(k != 1))&&(k != 5))&&(k != 8))=(w && !(gp k.toNat).wild):=by
 rw[<-UG h,Zp,Zp,Zp]
theorem MJ{s:RSet}(c1:(((ah s.name=true/\aW s.ty 1 8=true)/\aW s.life 0 100000=true)/\aW s.data.length 1 8=true)/\(xP s.ty=false \/ ¬(1:Int)<s.data.length))(c2:dD s.name=false\/(gp s.ty.toNat).wild=true):di s=aF s.data.length (lJ s.ty.toNat s.data) 0:=by
 obtain⟨⟨⟨⟨h1,h2⟩,h3⟩,h4⟩,h5⟩:=c1
 refine Hf ⟨⟨h1,h2⟩,h3⟩ h4 ⟨?_,c2⟩
 rw[Mx h2]at h5
 have:=je.1 h4
 exact h5.imp id λq=>by omega
theorem WM{s:RSet}(c1:(((ah s.name=false\/aW s.ty 1 8=false)\/aW s.life 0 100000=false)\/aW s.data.length 1 8=false)\/(xP s.ty=true/\(1:Int)<s.data.length)):di s=false:=by
 cases q:di s with
 | false=>rfl
 | true =>
  have h:=(iB s).1 q
  rcases c1 with(((c1|c1)|c1)|c1)|⟨c1,c2⟩
  . rw[h.name]at c1;cases c1
  . rw[h.ty]at c1;cases c1
  . rw[h.life]at c1;cases c1
  .
   have:=je.2 (show(1:Int)<=s.data.length/\(s.data.length:Int)<=8 by have:=h.len;omega)
   rw[this]at c1;cases c1
  rw[Mx h.ty]at c1;have:=h.single c1;omega
theorem WL{s:RSet}(c:dD s.name=true/\(gp s.ty.toNat).wild=false):di s=false:=by
 cases q:di s with
 | false=>rfl
 | true =>
  have h:=((iB s).1 q).wild c.1;rw[c.2]at h;cases h
theorem ZeY{l:List Dat}{t:Int}{k:Nat}(ht:aW t 1 8=true)(h:lc t l[k]! = true/\(¬(0:Int)<k\/less l[k-1]! l[k]! = true)):lJ t.toNat l k=true:=by
 rw[Sl ht,Pd]at h
 exact Si ⟨h.1,h.2.imp id λq=>by have:=Y3 q;omega⟩
theorem Ze0{l:List Dat}{t:Int}{k:Nat}(ht:aW t 1 8=true)(h:lc t l[k]! = false\/((0:Int)<k/\less l[k-1]! l[k]! = false)):lJ t.toNat l k=false:=by
 rw[Sl ht,Pd]at h
 exact Sj (h.imp id λq=>⟨q.1,by have:=of_decide_eq_false q.2;omega⟩)
theorem Xj{a b:RSet}(h1:((a.name=b.name/\a.ty=b.ty)/\a.life=b.life)/\(a.data.length:Int)=b.data.length)(h2 : ∀i,i<a.data.length->a.data[i]! = b.data[i]!):qR a b=true:=by
 unfold qR
 rw[XV]
 obtain⟨an,at',al,ad⟩:=a
 obtain⟨bn,bt,bl,bd⟩:=b
 simp only at h1 h2
 obtain⟨⟨⟨rfl,rfl⟩,rfl⟩,h3⟩:=h1
 congr 1
 refine List.ext_getElem om λi hi hj=>?_
 have:=h2 i hi
 rwa [getElem!_pos ad i hi,getElem!_pos bd i hj]at this
theorem Xk{a b:RSet}(h:((a.name≠b.name\/a.ty≠b.ty)\/a.life≠b.life)\/(a.data.length:Int)≠b.data.length):qR a b=false:=by
 unfold qR
 rw[X3]
 rintro rfl
 simp at h
theorem Xl{a b:RSet}{k:Nat}(h:a.data[k]! ≠ b.data[k]!):qR a b=false:=by
 unfold qR
 rw[X3]
 rintro rfl
 exact h rfl
def ZeZ{x y:Dat}(h:(!(x.t==y.t&&(x.n==y.n&&x.m==y.m)))=false):x=y:=by
 obtain⟨a,b,c⟩:=x
 obtain⟨d,e,f⟩:=y
 simp at h
 simp[h]
theorem Ze1{x y:Dat}(h:(!(x.t==y.t&&(x.n==y.n&&x.m==y.m)))=true):x≠y:=by
 rintro rfl
 simp at h
@[go_sem]theorem Zhf{t:Str}{h:H}:aj (.v (.string (bs t))) h=t.map bD:=by
 simp only[aj,kR];rfl
@[go_sem]theorem ZgJ(n:Nat):IntKind.u8.wrap (n:Int)=((nE n).toNat:Int):=by
 rw[IntKind.wrap_u8]
 simp[nE]
def Xr(k:Nat):(gp k).even=true->0<=(gp k).n0:=by
 unfold gp
 split<;>simp
end Go.Rec
namespace Go.Cmp
variable {α : Type} [Inhabited α] {c : α -> α -> Int}

end Go.Cmp
namespace Go.Rec
open Go.DL Go.Str Go.Cmp

end Go.Rec
namespace Go.Zon
open Go.DL Go.Str Go.Rec
structure RSig where
 zone:Str
 key:Int
 alg:Int
 frm:Int
 unt:Int
 sum:Int
 deriving Inhabited,DecidableEq
structure Sgd where
 set:RSet
 sigs:List RSig
 deriving Inhabited,DecidableEq
structure Qst where
 name:Str
 ty:Int
 deriving Inhabited,DecidableEq
structure Zon where
 apex:Str
 sets:List Sgd
 deriving Inhabited,DecidableEq
def Sgd.q(s:Sgd):Qst:=⟨s.set.name,s.set.ty⟩
def RSig.d(x:RSig):List D:=[.v (.string (bs x.zone)),.i x.key,.i x.alg,.i x.frm,.i x.unt,.v (.int .u64 x.sum)]
def RSig.of:List D->RSig
 | [.v (.string s),.v (.int _ a),.v (.int _ b),.v (.int _ c),.v (.int _ d),.v (.int _ e)]=>⟨s.data.toList,a,b,c,d,e⟩
 | _=>default
def Sgd.d(x:Sgd):List D:=[.v (.string (bs x.set.name)),.i x.set.ty,.i x.set.life,.l (x.set.data.map Dat.d),.l (x.sigs.map RSig.d)]
def Sgd.of:List D->Sgd
 | [.v (.string s),.v (.int _ t),.v (.int _ l),.list _ rows,.list _ sigs]=>⟨⟨s.data.toList,t,l,rows.map Dat.of⟩,sigs.map RSig.of⟩
 | _=>default
def Qst.d(x:Qst):List D:=[.v (.string (bs x.name)),.i x.ty]
def Qst.of:List D->Qst
 | [.v (.string s),.v (.int _ t)]=>⟨s.data.toList,t⟩
 | _=>default
def Zon.d(x:Zon):List D:=[.v (.string (bs x.apex)),.l (x.sets.map Sgd.d)]
def Zon.of:List D->Zon
 | [.v (.string s),.list _ rows]=>⟨s.data.toList,rows.map Sgd.of⟩
 | _=>default
structure Lay where
 z:Zon
 b:List Str
 deriving Inhabited,DecidableEq
def Lay.d(x:Lay):List D:=[.v (.string (bs x.z.apex)),.l (x.z.sets.map Sgd.d),.l (x.b.map sR)]
def Lay.of:List D->Lay
 | [.v (.string s),.list _ rows,.list _ b]=>⟨⟨s.data.toList,rows.map Sgd.of⟩,b.map Iw⟩
 | _=>default
def mY:D->Sgd:=vE Sgd.of default
def lX:D->List Sgd:=zX Sgd.of
def sI:D->List RSig:=zX RSig.of
def dM:D->Qst:=vE Qst.of default
def aS:D->Zon:=vE Zon.of default
def qh:D->Lay:=vE Lay.of default
attribute [go_sem] RSig.d Sgd.d Qst.d Zon.d Lay.d
theorem Om(x:RSig):RSig.of x.d=x:=by simp[RSig.of,RSig.d,kR]
def Za6(x:Sgd):Sgd.of x.d=x:=by simp[Sgd.of,Sgd.d,kR,qg Iu,qg Om]
@[go_sem]theorem Zhc{f:Bool}{l:List Sgd}:lX (.list f (l.map Sgd.d))=l:=qg Za6 l
@[go_sem]theorem Zg9{f:Bool}{l:List RSig}:sI (.list f (l.map RSig.d))=l:=qg Om l
def Zg8{f:Bool}:sI (.list f [])=[]:=rfl
def sgd1_agg{s:ByteArray}{t l:Int}{k k':IntKind}{f f':Bool}{rows sigs:List (List D)}:mY (.agg [.v (.string s),.v (.int k t),.v (.int k' l),.list f rows,.list f' sigs])=⟨⟨s.data.toList,t,l,Aw (.list f rows)⟩,sI (.list f' sigs)⟩:=rfl
def qst1_agg{s:ByteArray}{t:Int}{k:IntKind}:dM (.agg [.v (.string s),.v (.int k t)])=⟨s.data.toList,t⟩:=rfl
def zon1_agg{s:ByteArray}{f:Bool}{rows:List (List D)}:aS (.agg [.v (.string s),.list f rows])=⟨s.data.toList,lX (.list f rows)⟩:=rfl
def lay1_agg{s:ByteArray}{f f':Bool}{rows b:List (List D)}:qh (.agg [.v (.string s),.list f rows,.list f' b])=⟨⟨s.data.toList,lX (.list f rows)⟩,sG (.list f' b)⟩:=rfl
def qst_eta{x:Qst}:(⟨x.name,x.ty⟩:Qst)=x:=rfl
def set_eta{x:RSet}:(⟨x.name,x.ty,x.life,x.data⟩:RSet)=x:=rfl
def dat_eta{x:Dat}:(⟨x.t,x.n,x.m⟩:Dat)=x:=rfl
def sgd_eta{x:Sgd}:(⟨x.set,x.sigs⟩:Sgd)=x:=rfl
def zon_eta{x:Zon}:(⟨x.apex,x.sets⟩:Zon)=x:=rfl
def lay_eta{x:Lay}:(⟨x.z,x.b⟩:Lay)=x:=rfl
attribute[go_sem]Zg8 sgd1_agg qst1_agg zon1_agg lay1_agg qst_eta set_eta dat_eta sgd_eta zon_eta lay_eta
def Qt{α:Type}{f:α->List D}{l:List α}{n:Nat}(h:l.length<=n):(l.map f).getD n []=[]:=by
 simp[List.getD,h]
def cZ{l:List Sgd}{n:Nat}(h:n<l.length):(l.map Sgd.d).getD n []=[.v (.string (bs l[n]!.set.name)),.i l[n]!.set.ty,.i l[n]!.set.life,.l (l[n]!.set.data.map Dat.d),.l (l[n]!.sigs.map RSig.d)]:=by
 simp[List.getD,h,Sgd.d,getElem!_pos]
def w9{l:List RSig}{n:Nat}(h:n<l.length):(l.map RSig.d).getD n []=[.v (.string (bs l[n]!.zone)),.i l[n]!.key,.i l[n]!.alg,.i l[n]!.frm,.i l[n]!.unt,.v (.int .u64 l[n]!.sum)]:=by
 simp[List.getD,h,RSig.d,getElem!_pos]
@[go_sem]theorem Eo{l:List RSig}:bg (l.map RSig.d)=true:=by
 induction l with
 | nil=>rfl
 | cons x l ih=>simp only[X9,bg,ih,RSig.d,bV,D.nr];rfl
@[go_sem]theorem Gz{l:List RSig}:dK (l.map RSig.d)=l.map RSig.d:=by
 induction l with
 | nil=>rfl
 | cons x l ih=>simp only[X9,dK,ih,RSig.d,wk,dV]
@[go_sem]theorem Zbk{l:List Sgd}:bg (l.map Sgd.d)=true:=by
 induction l with
 | nil=>rfl
 | cons x l ih=>simp only[X9,bg,ih,Sgd.d,bV,D.nr,BC,Eo];rfl
@[go_sem]theorem wkr_sgd{l:List Sgd}:dK (l.map Sgd.d)=l.map Sgd.d:=by
 induction l with
 | nil=>rfl
 | cons x l ih=>simp only[X9,dK,ih,Sgd.d,wk,dV,A8,Gz]
@[go_sem]theorem nrr_qst{l:List Qst}:bg (l.map Qst.d)=true:=by
 induction l with
 | nil=>rfl
 | cons x l ih=>simp only[X9,bg,ih,Qst.d,bV,D.nr];rfl
@[go_sem]theorem wkr_qst{l:List Qst}:dK (l.map Qst.d)=l.map Qst.d:=by
 induction l with
 | nil=>rfl
 | cons x l ih=>simp only[X9,dK,ih,Qst.d,wk,dV]
@[go_sem]theorem all_sgd{l:List Sgd}:(∀r∈l.map Sgd.d,r.length=5)=True:=by
 apply eq_true
 intro r hr
 obtain⟨x,_,rfl⟩:=Yi.1 hr
 rfl
@[go_sem]theorem all_sig{l:List RSig}:(∀r∈l.map RSig.d,r.length=6)=True:=by
 apply eq_true
 intro r hr
 obtain⟨x,_,rfl⟩:=Yi.1 hr
 rfl
@[go_sem]theorem all_qst{l:List Qst}:(∀r∈l.map Qst.d,r.length=2)=True:=by
 apply eq_true
 intro r hr
 obtain⟨x,_,rfl⟩:=Yi.1 hr
 rfl
def sW(s p:Str):Bool:=decide (p.length<=s.length)&&s.drop (s.length-p.length)==p
def under(s z:Str):Bool:=s==z||z==[46]||(decide (z.length<s.length)&&sW s z&&decide ((s.getD (s.length-z.length-1) 0).toNat=46))
def bC(s z:Str):Bool:=ah s&&ah z&&under s z
def uJ(l m:List Str)(i:Nat):Bool:=l[l.length-m.length+i]! == m[i]!
def jU(s z:Str):Bool:=decide ((aM z).length<=(aM s).length)&&aF (aM z).length (uJ (aM s) (aM z)) 0
def vP(s:Str):Bool:=decide (0<(aM s).length)&&(aM s)[0]! == [42]
def NF(s:Str):(aM s).length<=s.length+1:=by
 unfold aM
 split
 . exact Yl _
 exact(Dw s).2
def qC(a b:Qst):Int:=if a.name=b.name then cmpI a.ty b.ty else(if ah a.name&&ah b.name then ig a.name b.name else 0)
def eO(q:Qst):Bool:=ah q.name&&aW q.ty 1 8
def fits(t:Int)(apex:Bool):Bool:=if t=3\/t=6 then !apex else if t=4\/t=7 then apex else true
def jk(apex:Str)(l:List RSig)(i:Nat):Bool :=
 l[i]!.zone==apex&&aW l[i]!.key 1 1000000&&aW l[i]!.alg 1 3&&decide (0<=l[i]!.frm)&&decide (l[i]!.frm<=l[i]!.unt)&&decide (l[i]!.unt<=20000000) &&
 (decide (i=0)||(decide (l[i]!.frm=l[0]!.frm)&&decide (l[i]!.unt=l[0]!.unt)&&decide (l[i-1]!.key<l[i]!.key)))
def jJ(l:List RSig)(apex:Str):Bool:=decide (l.length<=6)&&aF l.length (jk apex l) 0
def ut(a b:Sgd):Bool:=decide (a=b)
def xS(a b:List Sgd):Bool:=decide (a=b)
def WI{a b:Sgd}(h1:a.set=b.set)(h2:a.sigs=b.sigs):a=b:=by cases a;cases b;simp_all
def IY!{α:Type}[Inhabited α]{a b:List α}(hl:a.length=b.length)(h : ∀i,i<a.length->a[i]! = b[i]!):a=b:=by
 refine List.ext_getElem hl λi h1 h2=>?_
 have:=h i h1
 rwa [getElem!_pos a i h1,getElem!_pos b i h2]at this
theorem jE{n k:Nat}{p:Nat->Bool}(h:n<=k):aF n p k=true:=by rw[fM,XW (by omega)]
theorem dY{n k:Nat}{p:Nat->Bool}(h:k<n)(hF:p k=false):aF n p k=false:=by rw[fM,XY h,hF];rfl
theorem bO{n k:Nat}{p:Nat->Bool}(h:k<n)(hF:p k=true):aF n p k=aF n p (k+1):=by rw[fM,XY h,hF];rfl
def iJ(c:Nat->Int)(i j:Nat):Nat:=if i<j then(if c ((i+j) / 2)<0 then iJ c ((i+j) / 2+1) j else iJ c i ((i+j) / 2))else i
termination_by j-i
theorem rZ(c:Nat->Int)(i j:Nat):iJ c i j=if i<j then(if c ((i+j) / 2)<0 then iJ c ((i+j) / 2+1) j else iJ c i ((i+j) / 2))else i:=by rw[iJ]
theorem Zf0(c:Nat->Int):∀(n i j:Nat),j-i<=n->i<=j->iJ c i j<=j/\i<=iJ c i j:=by
 intro n
 induction n with
 | zero=>intro i j h1 h2;rw[rZ,XW (by omega)];omega
 | succ n ih =>
  intro i j h1 h2;rw[rZ]
  split
  .
   split
   . have:=ih ((i+j) / 2+1) j om om;omega
   have:=ih i ((i+j) / 2) om om;omega
  omega
def eY(l:List Sgd)(q:Qst):Nat:=iJ (λk=>qC l[k]!.q q) 0 l.length
def eX(l:List Sgd)(q:Qst):Bool:=decide (eY l q<l.length)&&qC l[eY l q]!.q q==0
def IQ{i j:Nat}(h:i+j<=9223372036854775807):IntKind.i64.wrap ((IntKind.u64.wrap ((i:Int)+j)).fdiv (2^(min 1 64)))=(((i+j) / 2:Nat):Int):=by
 have e:IntKind.u64.wrap ((i:Int)+j)=(i:Int)+j:=by rw[IntKind.wrap_u64];omega
 have e2:((2:Int)^(min 1 64))=2:=rfl
 rw[e,e2,Int.fdiv_eq_ediv_of_nonneg _ (by omega),IntKind.wrap_i64]
 omega
def qi(m:List Str):List D:=m.flatMap λs=>[.v (.string (bs s)),.b true]
def jQ(m:List Str)(n:Str):Bool:=decide (n∈m)
def tset(m:List Str)(n:Str):List Str:=if jQ m n then m else m++[n]
theorem yA(s:Str)(m:List Str):qi (s::m) = .v (.string (bs s)) :: .b true::qi m:=rfl
theorem Px{a b:Str}:jS (.v (.string (bs a))) (.v (.string (bs b)))=(a==b):=by simp[jS,lI,kR]
@[go_sem]theorem kvT_nil:qi []=[]:=rfl
@[go_sem]theorem OA{m:List Str}:bV (qi m)=true:=by
 induction m with
 | nil=>rfl
 | cons s m ih=>rw[yA];simp only[bV,ih];rfl
@[go_sem]theorem wks_kvT{m:List Str}:dV (qi m)=qi m:=by
 induction m with
 | nil=>rfl
 | cons s m ih=>rw[yA];simp only[dV,ih];rfl
@[go_sem]theorem kvGetD_T{m:List Str}{n:Str}:(jr (qi m) (.v (.string (bs n)))).getD (.v (.bool false)) = .v (.bool (jQ m n)):=by
 induction m with
 | nil=>rfl
 | cons s m ih =>
  rw[yA];simp only[jr,Px]
  by_cases h:n=s
  . subst h;simp[jQ]
  .
   have:(n==s)=false:=by simp[h]
   rw[this];simp only[Ye,Y0,ih,jQ,Yz,h,false_or]
@[go_sem]theorem kvSet_T{m:List Str}{n:Str}:jq (qi m) (.v (.string (bs n))) (.v (.bool true))=qi (tset m n):=by
 induction m with
 | nil=>rfl
 | cons s m ih =>
  rw[yA];simp only[jq,Px]
  by_cases h:n=s
  .
   subst h;have:tset (n::m) n=n::m:=by simp[tset,jQ]
   rw[this,yA]
   simp
  .
   have h1:(n==s)=false:=by simp[h]
   rw[h1,ih];have h2:tset (s::m) n=s::tset m n:=by
    unfold tset jQ
    by_cases q:n∈m<;>simp[h,q]
   rw[h2,yA];rfl
def kH(apex:Str)(l:List Sgd)(i:Nat):Bool:=di l[i]!.set&&bC l[i]!.set.name apex&&(decide (i=0)||decide (qC l[i-1]!.q l[i]!.q<0))
def ordered(z:Zon):Bool:=ah z.apex && !dD z.apex&&decide (z.sets.length<=20000)&&aF z.sets.length (kH z.apex z.sets) 0
def mr(apex:Str)(l:List Sgd)(i:Nat):Bool:=fits l[i]!.set.ty (l[i]!.set.name==apex)
def lS(z:Zon)(i:Nat):Bool:=eX z.sets ⟨z.apex,if i=0 then 4 else 2⟩
def mK(z:Zon):Bool:=aF 2 (lS z) 0&&aF z.sets.length (mr z.apex z.sets) 0
def bX(z:Zon):Nat->List Str
 | 0=>[]
 | k+1=>if z.sets[k]!.set.ty=2/\z.sets[k]!.set.name≠z.apex then tset (bX z k) z.sets[k]!.set.name else bX z k
def stepC(m:List Str)(cut n:Str):Str :=
 let c:=if cut≠[]/\bC n cut=false then[]else cut
 if c=[]/\jQ m n=true then n else c
def bU(m:List Str)(l:List Sgd):Nat->List Str×Str
 | 0=>([],[])
 | k+1=>let c:=stepC m (bU m l k).2 l[k]!.set.name;((bU m l k).1++[c],c)
def iK(z:Zon):List Str:=(bU (bX z z.sets.length) z.sets z.sets.length).1
theorem Kl{z:Zon}{k:Nat}(h:z.sets[k]!.set.ty=2 /\ ¬z.sets[k]!.set.name=z.apex):bX z (k+1)=tset (bX z k) z.sets[k]!.set.name:=XY h
theorem Km{z:Zon}{k:Nat}(h : ¬(z.sets[k]!.set.ty=2 /\ ¬z.sets[k]!.set.name=z.apex)):bX z (k+1)=bX z k:=XW h
theorem xz(m:List Str)(l:List Sgd):∀k,(bU m l k).1.length=k
 | 0=>rfl
 | k+1=>by simp[bU,xz m l k]
def mZ(m:List Str)(l:List Sgd)(n k:Nat):List Str:=(bU m l k).1++List.replicate (n-k) []
theorem Hq{m:List Str}{l:List Sgd}{n k:Nat}(h:k<=n):(mZ m l n k).length=n:=by simp[mZ,xz];omega
theorem XH{m:List Str}{l:List Sgd}{n k:Nat}{c:Str}(h:k<n)(hc:c=(bU m l (k+1)).2):(mZ m l n k).set k c=mZ m l n (k+1):=by
 have e:n-k=(n-(k+1))+1:=by omega
 unfold mZ
 rw[e,List.replicate_succ,List.set_append_right _ _ (by rw[xz];exact X4 _),xz,Zu,Y9]
 have:(bU m l (k+1)).1=(bU m l k).1++[c]:=by rw[hc];rfl
 rw[this,YW]
 rfl
@[go_sem]theorem rowsB_0{m:List Str}{l:List Sgd}{n:Nat}:(mZ m l n 0).map sR=List.replicate n [.v (.string (bs []))]:=by simp[mZ,bU,sR]
def zF{m:List Str}{l:List Sgd}{n k:Nat}{c:Str}(h:k<n)(hc:(bU m l (k+1)).2=c):((mZ m l n k).map sR).set k [.v (.string (bs c))]=(mZ m l n (k+1)).map sR:=by
 rw[<-XH h hc.symm,List.map_set];rfl
@[go_sem]theorem cutsTo_0{z:Zon}:bX z 0=[]:=rfl
theorem XI(m:List Str)(l:List Sgd)(n:Nat):mZ m l n n=(bU m l n).1:=by simp[mZ]
def aO(z:Zon):Lay:=⟨z,iK z⟩
def kS(l:List Sgd)(i:Nat):Bool:=!decide (l[i]!.set.ty=3)||(!(decide (0<i)&&l[i-1]!.set.name==l[i]!.set.name) && !(decide (i+1<l.length)&&l[i+1]!.set.name==l[i]!.set.name && !decide (l[i+1]!.set.ty=8)))
def pM(x:Lay):Bool:=aF x.z.sets.length (kS x.z.sets) 0
def cutAt(x:Lay)(i:Nat):Bool:=let t:=x.z.sets[i]!.set.ty
 if x.b[i]! = []then !decide (t=6)else if x.b[i]! = x.z.sets[i]!.set.name then decide (t=2)||decide (t=6)||decide (t=8)||decide (t=1)else decide (t=1)
def kQ(x:Lay):Bool:=aF x.z.sets.length (cutAt x) 0
def tu(x:Lay)(i:Nat):Bool:=!(!(x.b[i]! == [])&&(decide (x.z.sets[i]!.set.ty=2)||decide (x.z.sets[i]!.set.ty=1))&&decide (0<x.z.sets[i]!.sigs.length))
def uS(x:Lay):Bool:=aF x.z.sets.length (tu x) 0
def rR(z:Zon)(i:Nat):Bool:=jJ z.sets[i]!.sigs z.apex
def xc(x:Lay):Bool:=aF x.z.sets.length (rR x.z) 0
def aN(z:Zon):Bool:=ordered z&&mK z&&pM (aO z)&&kQ (aO z)&&uS (aO z)&&xc (aO z)
def Gj(z:Zon):(aO z).b.length=(aO z).z.sets.length:=xz _ _ _
def Im{z:Zon}(h:ordered z=true):z.sets.length<=1000000:=by
 simp only[ordered,XT,XV]at h
 omega
def wN{z:Zon}(h:aN z=true):z.sets.length<=1000000:=by
 simp only[aN,XT]at h
 exact Im h.1.1.1.1.1
def Vv{z:Zon}(h:aN z=true):eY z.sets ⟨z.apex,4⟩<z.sets.length/\0<z.sets[eY z.sets ⟨z.apex,4⟩]!.set.data.length:=by
 simp only[aN,XT]at h
 obtain⟨⟨⟨⟨⟨h1,h2⟩,_⟩,_⟩,_⟩,_⟩:=h
 simp only[mK,XT]at h2
 have h3:=(fe _ _ _).1 h2.1 0 (X4 _) (by omega)
 simp only[lS,Zw,eX,XT,XV]at h3
 refine⟨h3.1,?_⟩
 simp only[ordered,XT]at h1
 have h4:=(fe _ _ _).1 h1.2 _ (Yl _) h3.1
 simp only[kH,XT]at h4
 have:=((iB _).1 h4.1.1).len
 omega
def uq(z:Zon):Int:=z.sets[eY z.sets ⟨z.apex,4⟩]!.set.data[0]!.n
open Go.Cmp

def Ak(x:Sgd):Prop:=x.set.data.length<=100000/\x.sigs.length<=100000
def jf(l:List Sgd):Prop:=l.length<=1000000 /\ ∀k,k<l.length->Ak l[k]!
def qc(z:Zon):Prop:=z.sets.length<=1000000 /\ ∀k,k<z.sets.length->z.sets[k]!.set.name.length<=1000
theorem WE{a b:Sgd}(h1:a.set=b.set)(hl:a.sigs.length=b.sigs.length)(h : ∀i,i<a.sigs.length->a.sigs[i]! = b.sigs[i]!):ut a b=true :=
 YE (WI h1 (IY! hl h))
theorem WH{a b:Sgd}(h : ¬(a.set=b.set/\a.sigs.length=b.sigs.length)):ut a b=false :=
 YI λe=>h ⟨by rw[e],by rw[e]⟩
theorem WG{a b:Sgd}{k:Nat}(h:a.sigs[k]! ≠ b.sigs[k]!):ut a b=false :=
 YI λe=>h (by rw[e])
theorem WF{a b:List Sgd}{k:Nat}(h:ut a[k]! b[k]! = false):xS a b=false :=
 YI λe=>(of_decide_eq_false h) (by rw[e])
theorem WB{a b:List Sgd}(hl:a.length=b.length)(h : ∀i,i<a.length->ut a[i]! b[i]! = true):xS a b=true :=
 YE (IY! hl λi hi=>Y3 (h i hi))
theorem WC{a b:List Sgd}(h:a.length≠b.length):xS a b=false:=YI λe=>h (by rw[e])
def ru(apex:Str)(l:List Sgd)(i:Nat):Bool:=di l[i]!.set&&jU l[i]!.set.name apex&&(decide (i=0)||decide (oG l[i-1]!.set l[i]!.set<0))
def ma(z:Zon):Bool:=ah z.apex && !vP z.apex&&decide (z.sets.length<=20000)&&aF z.sets.length (ru z.apex z.sets) 0
def Eg{z:Zon}(h:ma z=true):qc z:=by
 simp only[ma,XT,XV]at h
 refine⟨om,λk hk=>?_⟩
 have:=(fe _ _ _).1 h.2 k (Yl _) hk
 simp only[ru,XT]at this
 have:=fT ((iB _).1 this.1.1).name
 omega
def WN{s:RSet}(h:di s=true):s.name.length<=1000:=by
 have:=fT ((iB _).1 h).name
 omega
def uG(l:List Sgd)(q:Qst)(k:Nat):Int:=if k<l.length then(if l[k]!.q=q then(k:Int)else uG l q (k+1))else -1
termination_by l.length-k
theorem BQ(l:List Sgd)(q:Qst)(k:Nat):uG l q k=if k<l.length then(if l[k]!.q=q then(k:Int)else uG l q (k+1))else -1:=by rw[uG]
def vC(l:List Sgd)(q:Qst):Int:=uG l q 0
def sD(z:Zon):Bool:=decide (0<=vC z.sets ⟨z.apex,4⟩)&&decide (0<=vC z.sets ⟨z.apex,2⟩)&&aF z.sets.length (mr z.apex z.sets) 0
def gT(l:List Sgd):Nat->Str
 | 0=>[]
 | k+1=>if l[k]!.set.ty=3 then l[k]!.set.name else gT l k
def jM(l:List Sgd)(i:Nat):Str:=if 0<i/\l[i-1]!.set.name=l[i]!.set.name then l[i]!.set.name else[]
def iO(l:List Sgd)(i:Nat):Bool:=!((!(jM l i==[])&&decide (l[i]!.set.ty=3))||(!(jM l i==[])&&(jM l i==gT l (i+1)) && !decide (l[i]!.set.ty=3) && !decide (l[i]!.set.ty=8)))
def mP(z:Zon):Bool:=aF z.sets.length (iO z.sets) 0
def kP(z:Zon):Nat->List Str
 | 0=>[]
 | k+1=>if z.sets[k]!.set.ty=2/\z.sets[k]!.set.name≠z.apex then kP z k++[z.sets[k]!.set.name]else kP z k
def fC(z:Zon):List Str:=kP z z.sets.length
def cK(cs:List Str):Nat->List Str
 | 0=>[]
 | k+1=>if cK cs k=[]\/jU cs[k]! (cK cs k)[(cK cs k).length-1]! = false then cK cs k++[cs[k]!]else cK cs k
def bL(z:Zon):List Str:=cK (fC z) (fC z).length
def nY(hs:List Str)(n:Str)(i:Nat):Nat:=if i<hs.length then(if bH hs[i]! n<=0 then nY hs n (i+1)else i)else i
termination_by hs.length-i
theorem xC(hs:List Str)(n:Str)(i:Nat):nY hs n i=if i<hs.length then(if bH hs[i]! n<=0 then nY hs n (i+1)else i)else i:=by rw[nY]
theorem ZgG(hs:List Str)(n:Str):∀m i,hs.length-i<=m->i<=hs.length->i<=nY hs n i/\nY hs n i<=hs.length:=by
 intro m
 induction m with
 | zero=>intro i h h2;rw[xC,XW (by omega)];omega
 | succ m ih =>
  intro i h h2;rw[xC]
  split
  .
   split
   . have:=ih (i+1) om om;omega
   omega
  omega
def gQ(hs:List Str)(n:Str)(j:Nat):Str:=if 0<j/\jU n hs[j-1]! = true then hs[j-1]! else[]
def gH(hs:List Str)(l:List Sgd):Nat->Nat
 | 0=>0
 | k+1=>nY hs l[k]!.set.name (gH hs l k)
def lN(hs:List Str)(l:List Sgd):Nat->List Str
 | 0=>[]
 | k+1=>lN hs l k++[gQ hs l[k]!.set.name (gH hs l (k+1))]
def fE(z:Zon):List Str:=lN (bL z) z.sets z.sets.length
theorem vB(hs:List Str)(l:List Sgd):∀k,(lN hs l k).length=k
 | 0=>rfl
 | k+1=>by simp[lN,vB hs l k]
def jL(hs:List Str)(l:List Sgd)(n k:Nat):List Str:=lN hs l k++List.replicate (n-k) []
theorem Ho{hs:List Str}{l:List Sgd}{n k:Nat}(h:k<=n):(jL hs l n k).length=n:=by simp[jL,vB];omega
theorem XE{hs:List Str}{l:List Sgd}{n k:Nat}{c:Str}(h:k<n)(hc:gQ hs l[k]!.set.name (gH hs l (k+1))=c):(jL hs l n k).set k c=jL hs l n (k+1):=by
 have e:n-k=(n-(k+1))+1:=by omega
 unfold jL
 rw[e,List.replicate_succ,List.set_append_right _ _ (by rw[vB];exact X4 _),vB,Zu,Y9,<-hc]
 have:lN hs l (k+1)=lN hs l k++[gQ hs l[k]!.set.name (gH hs l (k+1))]:=rfl
 rw[this,YW]
 rfl
def DI{hs:List Str}{l:List Sgd}{n k:Nat}{c:Str}(h:k<n)(hc:gQ hs l[k]!.set.name (gH hs l (k+1))=c):((jL hs l n k).map sR).set k [.v (.string (bs c))]=(jL hs l n (k+1)).map sR:=by
 rw[<-XE h hc,List.map_set];rfl
def DJ{hs:List Str}{l:List Sgd}{n k:Nat}(h:k<n)(hc:gQ hs l[k]!.set.name (gH hs l (k+1))=[]):jL hs l n (k+1)=jL hs l n k:=by
 have e:n-k=(n-(k+1))+1:=by omega
 have:lN hs l (k+1)=lN hs l k++[gQ hs l[k]!.set.name (gH hs l (k+1))]:=rfl
 unfold jL
 rw[e,List.replicate_succ,this,hc,YW]
 rfl
@[go_sem]theorem rowsR_0{hs:List Str}{l:List Sgd}{n:Nat}:(jL hs l n 0).map sR=List.replicate n [.v (.string (bs []))]:=by simp[jL,lN,sR]
theorem XF(hs:List Str)(l:List Sgd)(n:Nat):jL hs l n n=lN hs l n:=by simp[jL]
def rQ(z:Zon):Bool:=kQ ⟨z,fE z⟩
def jO(x:Lay)(i:Nat):Bool:=x.b[i]! == []||(!decide (x.z.sets[i]!.set.ty=2) && !decide (x.z.sets[i]!.set.ty=1))
def kG(x:Lay):Nat->List Bool
 | 0=>[]
 | k+1=>kG x k++[jO x k]
def yc(z:Zon):List Bool:=kG ⟨z,fE z⟩ z.sets.length
theorem qZ(x:Lay):∀k,(kG x k).length=k
 | 0=>rfl
 | k+1=>by simp[kG,qZ x k]
theorem NU(x:Lay):∀n k,k<n->(kG x n)[k]! = jO x k:=by
 intro n
 induction n with
 | zero=>intro k h;omega
 | succ n ih =>
  intro k h;have hl:=qZ x n
  by_cases e:k=n
  . subst e;simp[kG,hl]
  have hk:k<n:=by omega
  rw[<-ih k hk];simp only[kG];rw[getElem!_pos _ _ (by simp[hl];omega),getElem!_pos _ _ (by omega),List.getElem_append_left]
def bR(b:Bool):List D:=[.b b]
def kz(x:Lay)(n k:Nat):List Bool:=kG x k++List.replicate (n-k) false
theorem zD{x:Lay}{n k:Nat}(h:k<=n):(kz x n k).length=n:=by simp[kz,qZ];omega
def l6{x:Lay}{n k:Nat}{c:Bool}(h:k<n)(hc:jO x k=c):((kz x n k).map bR).set k [.b c]=(kz x n (k+1)).map bR:=by
 have e:n-k=(n-(k+1))+1:=by omega
 have:kG x (k+1)=kG x k++[c]:=by rw[<-hc];rfl
 have e2:(kz x n k).set k c=kz x n (k+1):=by
  unfold kz;rw[e,List.replicate_succ,List.set_append_right _ _ (by rw[qZ];exact X4 _),qZ,Zu,Y9,this,YW]
  rfl
 rw[<-e2,List.map_set];rfl
@[go_sem]theorem rowsO_0{x:Lay}{n:Nat}:(kz x n 0).map bR=List.replicate n [.b false]:=by simp[kz,kG,bR]
theorem MU(x:Lay)(n:Nat):kz x n n=kG x n:=by simp[kz]
@[go_sem]theorem nrr_bR{l:List Bool}:bg (l.map bR)=true:=by
 induction l with
 | nil=>rfl
 | cons x l ih=>simp only[X9,bg,ih,bR,bV];rfl
@[go_sem]theorem wkr_bR{l:List Bool}:dK (l.map bR)=l.map bR:=by
 induction l with
 | nil=>rfl
 | cons x l ih=>simp only[X9,dK,ih,bR,dV];rfl
@[go_sem]theorem all_bR{l:List Bool}:(∀r∈l.map bR,r.length=1)=True:=by
 apply eq_true
 intro r hr
 obtain⟨x,_,rfl⟩:=Yi.1 hr
 rfl
def Ff{l:List Bool}{n:Nat}(h:n<l.length):(l.map bR).getD n []=[.b l[n]!]:=by
 simp[List.getD,h,bR,getElem!_pos]
def uT(x:Lay)(i:Nat):Bool:=rR x.z i&&tu x i
def tF(z:Zon):Bool:=aF z.sets.length (uT ⟨z,fE z⟩) 0
def pW(z:Zon):Bool:=ma z&&sD z&&mP z&&rQ z&&tF z
def Cw(z:Zon):Bool:=decide (z.sets.length<=100)&&aF z.sets.length (λi=>decide (z.sets[i]!.set.data.length<=20)&&decide (z.sets[i]!.sigs.length<=20)) 0
structure kU where
 apex:Str
 frm:Int
 too:Int
 drop:List Qst
 put:List Sgd
 deriving Inhabited,DecidableEq
def kU.d(x:kU):List D:=[.v (.string (bs x.apex)),.i x.frm,.i x.too,.l (x.drop.map Qst.d),.l (x.put.map Sgd.d)]
def kU.of:List D->kU
 | [.v (.string s),.v (.int _ a),.v (.int _ b),.list _ q,.list _ r]=>⟨s.data.toList,a,b,q.map Qst.of,r.map Sgd.of⟩
 | _=>default
attribute [go_sem] kU.d
@[go_sem]theorem dlt_eta{x:kU}:(⟨x.apex,x.frm,x.too,x.drop,x.put⟩:kU)=x:=rfl
def DC(x:Int):Bool:=decide (0<=x)&&decide (x<65536)
def TN(a b:Int):Bool:=decide (1<=(b-a+65536) % 65536)&&decide ((b-a+65536) % 65536<=32767)
def qO(a b:Qst):Int:=oG ⟨a.name,a.ty,0,[]⟩ ⟨b.name,b.ty,0,[]⟩
def askB(l:List Qst)(q:Qst):Bool:=decide (q∈l)
def ZeB(l:List Qst)(i:Nat):Bool:=eO l[i]! && (decide (i=0)||decide (qO l[i-1]! l[i]! < 0))
def putAt(d:kU)(i:Nat):Bool:=di d.put[i]!.set&&(decide (i=0)||decide (qO d.put[i-1]!.q d.put[i]!.q<0)) && !askB d.drop d.put[i]!.q
def R4(d:kU):Bool:=ah d.apex && !dD d.apex&&DC d.frm&&DC d.too&&TN d.frm d.too&&decide (d.drop.length<=20000)&&decide (d.put.length<=20000)&&aF d.drop.length (ZeB d.drop) 0&&aF d.put.length (putAt d) 0
def Hy{z:Zon}(h:pW z=true):ma z=true/\sD z=true/\mP z=true/\rQ z=true/\tF z=true:=by
 simp only[pW,XT]at h
 exact⟨h.1.1.1.1,h.1.1.1.2,h.1.1.2,h.1.2,h.2⟩
def Zah{z:Zon}(h:pW z=true){k:Nat}(hk:k<z.sets.length):xE z.sets[k]!.set:=by
 have h1:=(Hy h).1
 simp only[ma,XT]at h1
 have:=(fe _ _ _).1 h1.2 k (Yl _) hk
 simp only[ru,XT]at this
 exact(iB _).1 this.1.1
def Zai{z:Zon}(h:pW z=true):z.sets.length<=20000:=by
 have h1:=(Hy h).1
 simp only[ma,XT,XV]at h1
 exact h1.1.2
def Zag{z:Zon}(h:pW z=true){k:Nat}(hk:k<z.sets.length):z.sets[k]!.sigs.length<=6:=by
 have h1:=(Hy h).2.2.2.2
 simp only[tF]at h1
 have:=(fe _ _ _).1 h1 k (Yl _) hk
 simp only[uT,rR,jJ,XT,XV]at this
 exact this.1.1
def Zaj{z:Zon}(h:pW z=true):jf z.sets:=by
 have hl:=Zai h
 refine⟨om,λk hk=>⟨?_,?_⟩⟩
 . have:=(Zah h hk).len;omega
 have:=Zag h hk;omega
def xK:Zon:=⟨[],[]⟩

def MG:Sgd:=⟨⟨[],0,0,[]⟩,[]⟩
def mD(z:Zon)(q:Qst):Sgd×Bool×Int :=
 if(eO q&&aN z)=true then(if eX z.sets q=true then(z.sets[eY z.sets q]!,true,0)else(MG,false,0))else(MG,false,1)
theorem Py{a b:Qst}:jS (.agg a.d) (.agg b.d)=decide (a=b):=by
 cases a;cases b
 rw[YS]
 simp[jS,lH,lI,Qst.d,kR]
def qf:List Sgd->Qst->Option Sgd
 | s::m,q=>if s.q=q then some s else qf m q
 | [],_=>none
def O0:List Sgd->Sgd->List Sgd
 | x::m,s=>if x.q=s.q then s::m else x::O0 m s
 | [],s=>[s]
def IV(l:List Sgd):Nat->List Sgd
 | 0=>[]
 | k+1=>O0 (IV l k) l[k]!
def mapF(l:List Sgd):List Sgd:=IV l l.length
def qS(a:Qst):RSet:=⟨a.name,a.ty,0,[]⟩
theorem ZaD(a b:Qst):qC a b=plC (qS a) (qS b):=rfl
theorem Nn(a b:Qst):qO a b=oG (qS a) (qS b):=rfl
theorem qC_qO{a b:Qst}(ha:ah a.name=true)(hb:ah b.name=true):qC a b=qO a b:=by
 rw[ZaD,Nn,plC_c (a:=qS a) (b:=qS b) ha hb,Nh (a:=qS a) (b:=qS b) ha hb]
def ZaC{a b:Qst}(ha:ah a.name=true)(hb:ah b.name=true):qO a b=uz (qS a) (qS b):=by
 rw[Nn,Nh (a:=qS a) (b:=qS b) ha hb]
theorem TD(c:Nat->Int)(n:Nat)(mono : ∀i j,i<=j->j<n->c j<0->c i<0):∀m i j,j-i<=m->i<=j->j<=n->(∀k,k<i->c k<0)->(∀k,j<=k->k<n -> ¬c k<0) ->
  (∀k,k<iJ c i j->c k<0)/\(∀k,iJ c i j<=k->k<n -> ¬c k<0):=by
 intro m
 induction m with
 | zero =>
  intro i j h1 h2 h3 ha hb;rw[rZ,XW (by omega)]
  exact⟨ha,λk hk hn=>hb k om hn⟩
 | succ m ih =>
  intro i j h1 h2 h3 ha hb;rw[rZ]
  by_cases hij:i<j
  .
   rw[XY hij]
   by_cases hc:c ((i+j) / 2)<0
   . rw[XY hc];exact ih _ _ om om h3 (λk hk=>mono k ((i+j) / 2) om om hc) hb
   rw[XW hc];exact ih _ _ om om om ha (λk hk hn hk2=>hc (mono _ k hk hn hk2))
  rw[XW hij];exact⟨ha,λk hk hn=>hb k om hn⟩
theorem O9{α:Type}{c:α->α->Int}(h:Cm c):∀p r:List α,lex c p (p++r)<=0
 | [],[]=>by simp[lex]
 | [],_::_=>by simp[lex]
 | x::p,r=>by
  show lV (c x x) (lex c p (p++r))<=0
  rw[ku,XY (h.self x)];exact O9 h p r
theorem Pb{α:Type}{c:α->α->Int}(h:Cm c)(he : ∀x y,c x y=0->x=y):∀p r x:List α,lex c p x<=0->lex c x (p++r)<=0->p <+: x
 | [],r,x,_,_=>List.nil_prefix
 | a::p,r,[],h1,_=>by simp[lex]at h1
 | a::p,r,b::x,h1,h2=>by
  have h1':lV (c a b) (lex c p x)<=0:=h1;have h2':lV (c b a) (lex c x (p++r))<=0:=h2;rw[ku]at h1' h2';have ha:=h.anti a b
  by_cases e:c a b=0
  .
   have e2:c b a=0:=by omega
   rw[XY e]at h1';rw[XY e2]at h2';obtain rfl:=he _ _ e;obtain⟨t,rfl⟩:=Pb h he p r x h1' h2';exact⟨t,rfl⟩
  rw[XW e]at h1';rw[XW (by omega)]at h2'
  omega
def aI(n c:Str):Prop:=ay c <+: ay n
theorem ko(n:Str):aI n n:=List.prefix_rfl
def sw{a b c:Str}(h:aI a b)(k:aI b c):aI a c:=List.IsPrefix.trans k h
def xL{a b:Str}(h:aI a b)(k:aI b a):a=b :=
 qV (List.IsPrefix.eq_of_length k (Nat.le_antisymm (List.IsPrefix.length_le k) (List.IsPrefix.length_le h)))
def A9{n a b:Str}(h:aI n a)(k:aI n b):aI a b\/aI b a:=List.prefix_or_prefix_of_prefix k h
theorem OM(a b:Str):bH a b=lex Go.Lib.compareBytes (ay a) (ay b):=Ee _ _
def ui{n c:Str}(h:aI n c):bH c n<=0:=by
 obtain⟨r,hr⟩:=h
 rw[OM,<-hr]
 exact O9 F5 _ _
def zk{n c x:Str}(h:aI n c)(h1:bH c x<=0)(h2:bH x n<=0):aI x c:=by
 obtain⟨r,hr⟩:=h
 rw[OM]at h1 h2
 rw[<-hr]at h2
 exact Pb F5 (λ_ _=>TB) _ _ _ h1 h2
def Aa{s z:Str}:jU s z=true↔aI s z:=by
 unfold aI
 rw[<-D9,<-D9,List.reverse_prefix]
 unfold jU
 rw[XT,XV,fe]
 constructor
 .
  rintro⟨h1,h2⟩;refine⟨(aM s).take ((aM s).length-(aM z).length),?_⟩
  conv=>rhs;rw[<-ZR ((aM s).length-(aM z).length) (aM s)]
  congr 1
  refine List.ext_getElem (by simp;omega) λi hi hj=>?_
  have:=h2 i (Yl _) hi;unfold uJ at this;rw[Yx,getElem!_pos (aM s) _ (by omega),getElem!_pos (aM z) _ hi]at this
  rw[List.getElem_drop,this]
 rintro⟨a,ha⟩
 have hl:(aM s).length=a.length+(aM z).length:=by rw[<-ha,Yr]
 refine⟨om,λi _ hi=>?_⟩
 unfold uJ
 have e:(aM s).length-(aM z).length+i=a.length+i:=by omega
 rw[Yx,e,getElem!_pos (aM s) _ (by omega),getElem!_pos (aM z) _ hi]
 have:(aM s)[a.length+i]? = some (aM z)[i]:=by
  rw[<-ha,YX (by omega)]
  simp[hi]
 exact(X0.1 this).2
theorem I6:dN []=false:=by
 unfold dN
 simp
theorem BI:ah []=false:=by
 rw[OZ,XW (by simp),XW (by simp),jK]
 simp[split,mM,I6]
theorem EK : ∀(a b:List Str),a≠[]->b≠[]->dB (a++b)=dB a++46::dB b
 | [],_,h,_=>absurd rfl h
 | [p],[],_,h=>absurd rfl h
 | [p],q::r,_,_=>rfl
 | p::q::r,b,_,hb=>by
  have ih:=EK (q::r) b (by simp) hb
  show p++46::dB ((q::r)++b)=_
  rw[ih]
  simp[dB]
theorem Vj{s z:Str}:split z <:+ split s↔s=z \/ ∃a,s=a++46::z:=by
 constructor
 .
  rintro⟨a,ha⟩
  by_cases h:a=[]
  .
   subst h
   left
   rw[<-rG s,<-rG z,<-ha];rfl
  right
  refine⟨dB a,?_⟩;rw[<-rG s,<-ha,EK a _ h (qP z),rG]
 rintro (h|⟨a,h⟩)
 . rw[h];exact List.suffix_rfl
 rw[h,Bf];exact List.suffix_append _ _
theorem UX{s z:Str}:(decide (z.length<s.length)&&sW s z&&decide ((s.getD (s.length-z.length-1) 0).toNat=46))=true↔∃a,s=a++46::z:=by
 rw[XT,XT,XV,XV]
 unfold sW
 rw[XT,XV,Yx]
 constructor
 .
  rintro⟨⟨h1,h2,h3⟩,h4⟩;refine⟨s.take (s.length-z.length-1),?_⟩;have hlt:s.length-z.length-1<s.length:=by omega
  have hc:s[s.length-z.length-1]=46:=by
   apply ZO.1
   show _=46
   rw[<-h4]
   simp[List.getD,hlt]
  conv=>lhs;rw[<-ZR (s.length-z.length-1) s]
  rw[Yn hlt,hc,show s.length-z.length-1+1=s.length-z.length by omega,h3]
 rintro⟨a,rfl⟩
 have hl:(a++46::z).length=a.length+1+z.length:=by simp;omega
 refine⟨⟨om,om,?_⟩,?_⟩
 .
  rw[hl,show a.length+1+z.length-z.length=a.length+1 by omega]
  simp
 rw[hl,show a.length+1+z.length-z.length-1=a.length by omega]
 simp
theorem zi{s z:Str}(hs:ah s=true)(hz:ah z=true):under s z=true↔aI s z:=by
 unfold under aI
 rw[X8,X8,Yx,Yx,UX]
 by_cases ez:z=[46]
 .
  subst ez;have:ay [46]=[]:=by simp[ay]
  rw[this]
  simp
 by_cases es:s=[46]
 .
  subst es;have h1:ay [46]=[]:=by simp[ay]
  rw[h1]
  constructor
  .
   rintro ((h|h)|⟨a,h⟩)
   . exact absurd h.symm ez
   . exact absurd h ez
   cases a with
   | nil =>
    have:z=[]:=by simpa using h
    subst this;rw[BI]at hz;cases hz
   | cons x a=>simp at h
  intro h;have:=List.prefix_nil.1 h;unfold ay at this;rw[XW ez,ky]at this
  cases this
 have e1:ay s=(split s).reverse:=by unfold ay;rw[XW es,jK]
 have e2:ay z=(split z).reverse:=by unfold ay;rw[XW ez,jK]
 rw[e1,e2,List.reverse_prefix,Vj]
 constructor
 .
  rintro ((h|h)|h)
  . exact .inl h
  . exact absurd h ez
  exact .inr h
 rintro (h|h)
 . exact .inl (.inl h)
 exact .inr h
theorem kW{s z:Str}(hs:ah s=true)(hz:ah z=true):bC s z=true↔aI s z:=by
 unfold bC
 rw[hs,hz,Zl,Zl,zi hs hz]
theorem Ls{s:Str}(h:ah s=true):dD s=vP s:=by
 by_cases e:s=[46]
 . subst e;rfl
 have hp:aM s=split s:=by unfold aM;rw[XW e,qQ]
 have h0:fP (split s) 0=true:=by
  unfold ah at h;rw[XW e]at h
  split at h
  . cases h
  rw[XT,qQ]at h;have:=YV.2 (qP s);exact(fe _ _ _).1 h.1 0 (X4 _) this
 unfold vP
 rw[hp]
 have hpos:=YV.2 (qP s)
 rw[YE hpos,Zl]
 cases s with
 | nil=>rw[BI]at h;cases h
 | cons c r =>
  obtain⟨p,ps,hq⟩:∃p ps,split r=p::ps:=by
   cases hq:split r with
   | nil=>exact absurd hq (qP r)
   | cons p ps=>exact⟨p,ps,rfl⟩
  by_cases hc:c=46
  .
   subst hc;have hs:split (46::r)=[]::split r:=by rw[split,XY rfl]
   rw[hs]at h0
   simp[fP,I6]at h0
  have hs:split (c::r)=(c::p)::ps:=by rw[split,XW hc,hq]
  rw[hs]at h0 ⊢;simp only[fP,List.getElem!_cons_zero,decide_true,Zl]at h0 ⊢;rw[YS];unfold dD;simp only[YA,List.getD_cons_zero,XT,XV,Yx]
  constructor
  .
   rintro⟨_,h1⟩;rw[X8]at h0
   rcases h0 with h2|h2
   .
    exfalso
    unfold dN at h2;rw[XT,XT]at h2;have:=(fe _ _ _).1 h2.1.1 0 (X4 _) (by simp)
    simp[mf,nX,h1]at this
   exact Yx.1 h2
  intro h1;have:=(List.cons.inj h1).1;subst this;exact⟨om,rfl⟩
def qp(a b:Qst):Int:=uz (qS a) (qS b)
def Tk:Cm qp:=vv cm_pl qS
theorem HV{a b:Qst}:qp a b=0↔a=b:=by
 unfold qp
 rw[ZaL]
 cases a;cases b
 simp[qS]
theorem HY{a b:Qst}(ha:ah a.name=true)(hb:ah b.name=true):qO a b=qp a b:=ZaC ha hb
theorem HZ{a b:Qst}(ha:ah a.name=true)(hb:ah b.name=true):qC a b=qp a b:=by rw[qC_qO ha hb,HY ha hb]
def Nl{a b:Qst}(h:qp a b<0):bH a.name b.name<=0/\(a.name=b.name->a.ty<b.ty):=by
 have h1:lV (bH a.name b.name) (Go.Cmp.cmpI a.ty b.ty)<0:=h
 rw[ku]at h1
 split at h1
 .
  rename_i e
  refine⟨om,λ_=>?_⟩
  unfold Go.Cmp.cmpI at h1
  split at h1
  . assumption
  split at h1<;>omega
 rename_i e
 refine⟨om,λe2=>?_⟩
 rw[e2,gD.self]at e
 exact absurd rfl e
def sp(a b:Sgd):Int:=qp a.q b.q
def Tj:Cm sp:=vv Tk Sgd.q
def Ord(l:List Sgd):Prop:=sj sp l
theorem Mc{α:Type}[Inhabited α]{c:α->α->Int}(h:Cm c){l:List α}(k : ∀i,0<i->i<l.length->c l[i-1]! l[i]! < 0):sj c l:=by
 induction l with
 | nil=>exact .nil
 | cons x r ih =>
  have ih:=ih λi h1 h2=>by
   have:=k (i+1) om (by simp;omega)
   obtain⟨j,rfl⟩:∃j,i=j+1:=⟨i-1,om⟩
   simpa using this
  refine Zo.2 ⟨?_,ih⟩
  cases r with
  | nil=>simp
  | cons y r =>
   have h1:=k 1 (by omega) (by simp)
   have h1':c x y<0:=by simpa using h1
   intro z hz
   rcases Yz.1 hz with e|e
   . subst e;exact h1'
   have:=(Zo.1 ih).1 z e;exact h.lt_le h1' om
def vT{α:Type}[Inhabited α]{c:α->α->Int}{l:List α}(h:sj c l){i j:Nat}(hij:i<j)(hj:j<l.length):c l[i]! l[j]! < 0:=by
 rw[getElem!_pos l i (by omega),getElem!_pos l j hj]
 exact Za.1 h i j om hj hij
theorem fw{α:Type}[Inhabited α]{l:List α}{x:α}:x∈l↔∃i,i<l.length/\l[i]! = x:=by
 constructor
 . intro h;obtain⟨i,hi,e⟩:=YN h;exact⟨i,hi,by rw[getElem!_pos l i hi,e]⟩
 rintro⟨i,hi,e⟩
 rw[getElem!_pos l i hi]at e
 exact e▸Yp hi
theorem dw{α:Type}[Inhabited α]{l:List α}{i:Nat}(h:i<l.length):l[i]! ∈ l:=fw.2 ⟨i,h,rfl⟩
def Gp{α:Type}[Inhabited α]{l:List α}{p:α->Prop}:(∀x∈l,p x)↔∀i,i<l.length->p l[i]! :=
 ⟨λh i hi=>h _ (dw hi),λh x hx=>by obtain⟨i,hi,rfl⟩:=fw.1 hx;exact h i hi⟩
theorem IR{l:List Sgd}{q:Qst}{s:Sgd}(h:qf l q=some s):s∈l/\s.q=q:=by
 induction l with
 | nil=>cases h
 | cons x l ih =>
  unfold qf at h
  split at h
  . rename_i e;cases h;exact⟨by simp,e⟩
  exact⟨by simp[(ih h).1],(ih h).2⟩
theorem ZbF{l:List Sgd}{q:Qst}:qf l q=none↔∀s∈l,s.q≠q:=by
 induction l with
 | nil=>simp[qf]
 | cons x l ih =>
  unfold qf
  split
  . rename_i e;simp[e]
  rename_i e;rw[ih];simp[e]
theorem O3{l:List Sgd}(h:Ord l){s:Sgd}(hs:s∈l):qf l s.q=some s:=by
 induction l with
 | nil=>cases hs
 | cons x l ih =>
  have h':=Zo.1 h;unfold qf
  rcases Yz.1 hs with e|e
  . subst e;rw[XY rfl]
  have:=h'.1 s e;rw[XW,ih h'.2 e];intro e2;unfold sp at this;rw[HV.2 e2]at this;omega
theorem Zcp(l:List Sgd)(q:Qst):∀n k,l.length-k<=n->qf (l.drop k) q=if uG l q k<0 then none else some l[(uG l q k).toNat]! := by
 intro n
 induction n with
 | zero =>
  intro k h;have e:uG l q k = -1:=by rw[BQ,XW (by omega)]
  rw[e,YU (by omega),XY (by omega)]
  rfl
 | succ n ih =>
  intro k h;rw[BQ]
  by_cases hk:k<l.length
  .
   rw[XY hk,Yn hk];unfold qf;rw[getElem!_pos l k hk]
   by_cases e:l[k].q=q
   . rw[XY e,XY e,XW (by omega),show((k:Int)).toNat=k by omega,getElem!_pos l k hk]
   rw[XW e,XW e,ih (k+1) (by omega)]
  rw[XW hk,YU (by omega),XY (by omega)]
  rfl
def Zgh(l:List Sgd)(q:Qst):qf l q=if vC l q<0 then none else some l[(vC l q).toNat]! := Zcp l q _ 0 (X4 _)
def Cv{l:List Sgd}{q:Qst}(ho:Ord l)(hn : ∀s∈l,ah s.set.name=true)(hq:ah q.name=true):qf l q=if eX l q=true then some l[eY l q]! else none:=by
 have hc : ∀k,k<l.length->qC l[k]!.q q=qp l[k]!.q q:=λk hk=>HZ (hn _ (dw hk)) hq
 obtain⟨h1,h2⟩:=TD (λk=>qC l[k]!.q q) l.length (λi j hij hj h=>by
   rw[hc _ (by omega)]
   rw[hc _ hj]at h
   by_cases e:i=j
   . subst e;exact h
   exact Tk.lt_le (vT ho (by omega:i<j) hj) om) _ 0 l.length (X4 _) (Yl _) (X4 _) (λk hk=>by omega) (λk h1 h2=>by omega)
 have h1 : ∀k,k<eY l q->qC l[k]!.q q<0:=h1
 have h2 : ∀k,eY l q<=k->k<l.length -> ¬qC l[k]!.q q<0:=h2
 have hle:eY l q<=l.length:=(Zf0 _ _ 0 l.length (X4 _) (Yl _)).1
 by_cases h:eX l q=true
 . rw[XY h];unfold eX at h;rw[XT,XV,Yx]at h;obtain⟨h3,h4⟩:=h;rw[hc _ h3,HV]at h4;have h5:=O3 ho (dw h3);rw[h4]at h5;exact h5
 rw[XW h,ZbF]
 intro s hs e
 apply h
 obtain⟨k,hk,rfl⟩:=fw.1 hs
 have hz:qC l[k]!.q q=0:=by rw[hc _ hk,HV,e]
 have hk2:eY l q<=k:=by
  rcases Zv k (eY l q)with h5|h5
  . have:=h1 k h5;omega
  exact h5
 have hk3:eY l q=k:=by
  rcases Zv (eY l q) k with h5|h5
  .
   have h6:=h2 (eY l q) (X4 _) (by omega)
   rw[hc _ (by omega)]at h6
   have h7:=vT ho h5 hk;have h8:qp l[eY l q]!.q l[k]!.q<0:=h7;rw[e]at h8;omega
  omega
 unfold eX
 rw[hk3,YE hk,hz]
 rfl
structure j6(z:Zon):Prop where
 apex:ah z.apex=true
 wild:dD z.apex=false
 len:z.sets.length<=20000
 ok : ∀s∈z.sets,xE s.set
 und : ∀s∈z.sets,aI s.set.name z.apex
 ord:Ord z.sets
theorem j6.nms{z:Zon}(h:j6 z):∀s∈z.sets,ah s.set.name=true:=λs hs=>(h.ok s hs).name
theorem zJ{z:Zon}:ordered z=true↔j6 z:=by
 unfold ordered
 rw[XT,XT,XT,XV,X5,fe]
 have hO : ∀i,kH z.apex z.sets i=true↔(di z.sets[i]!.set=true/\bC z.sets[i]!.set.name z.apex=true)/\(i=0\/qC z.sets[i-1]!.q z.sets[i]!.q<0):=by
  intro i;simp[kH]
 constructor
 .
  rintro⟨⟨⟨h1,h2⟩,h3⟩,h4⟩;have h4 : ∀i,i<z.sets.length->_:=λi hi=>(hO i).1 (h4 i (Yl _) hi)
  refine⟨h1,h2,h3,Gp.2 λi hi=>(iB _).1 (h4 i hi).1.1,Gp.2 λi hi=>?_,Mc Tj λi h0 hi=>?_⟩
  . exact(kW ((iB _).1 (h4 i hi).1.1).name h1).1 (h4 i hi).1.2
  have h5:=(h4 i hi).2;rw[HZ ((iB _).1 (h4 (i-1) (by omega)).1.1).name ((iB _).1 (h4 i hi).1.1).name]at h5
  exact h5.resolve_left om
 intro h
 refine⟨⟨⟨h.apex,h.wild⟩,h.len⟩,λi _ hi=>(hO i).2 ⟨⟨(iB _).2 (h.ok _ (dw hi)),(kW (h.nms _ (dw hi)) h.apex).2 (h.und _ (dw hi))⟩,?_⟩⟩
 by_cases e:i=0
 . exact .inl e
 right
 have hi1:i-1<z.sets.length:=by omega
 have n1:ah z.sets[i-1]!.q.name=true:=h.nms _ (dw hi1)
 have n2:ah z.sets[i]!.q.name=true:=h.nms _ (dw hi)
 rw[HZ n1 n2]
 exact vT h.ord (by omega:i-1<i) hi
theorem Zap(a b:Sgd):oG a.set b.set=qO a.q b.q:=rfl
theorem Za3{z:Zon}:ma z=true↔j6 z:=by
 unfold ma
 rw[XT,XT,XT,XV,X5,fe]
 have hO : ∀i,ru z.apex z.sets i=true↔(di z.sets[i]!.set=true/\jU z.sets[i]!.set.name z.apex=true)/\(i=0\/qO z.sets[i-1]!.q z.sets[i]!.q<0):=by
  intro i;simp[ru,Zap]
 constructor
 .
  rintro⟨⟨⟨h1,h2⟩,h3⟩,h4⟩;have h4 : ∀i,i<z.sets.length->_:=λi hi=>(hO i).1 (h4 i (Yl _) hi)
  refine⟨h1,by rw[Ls h1];exact h2,h3,Gp.2 λi hi=>(iB _).1 (h4 i hi).1.1,Gp.2 λi hi=>?_,Mc Tj λi h0 hi=>?_⟩
  . exact Aa.1 (h4 i hi).1.2
  have h5:=(h4 i hi).2;rw[HY ((iB _).1 (h4 (i-1) (by omega)).1.1).name ((iB _).1 (h4 i hi).1.1).name]at h5
  exact h5.resolve_left om
 intro h
 refine⟨⟨⟨h.apex,by rw[<-Ls h.apex];exact h.wild⟩,h.len⟩,λi _ hi=>(hO i).2 ⟨⟨(iB _).2 (h.ok _ (dw hi)),Aa.2 (h.und _ (dw hi))⟩,?_⟩⟩
 by_cases e:i=0
 . exact .inl e
 right
 have hi1:i-1<z.sets.length:=by omega
 have n1:ah z.sets[i-1]!.q.name=true:=h.nms _ (dw hi1)
 have n2:ah z.sets[i]!.q.name=true:=h.nms _ (dw hi)
 rw[HY n1 n2]
 exact vT h.ord (by omega:i-1<i) hi
theorem Ob(z:Zon):ordered z=ma z:=by rw[YS,zJ,Za3]
theorem QQ{z:Zon}(h:j6 z){q:Qst}(hq:ah q.name=true):eX z.sets q=decide (0<=vC z.sets q):=by
 have h1:=Cv h.ord h.nms hq
 have h2:=Zgh z.sets q
 rw[h1]at h2
 rw[YS,XV]
 by_cases e:eX z.sets q=true
 .
  rw[XY e]at h2
  split at h2
  . cases h2
  exact⟨λ_=>by omega,λ_=>e⟩
 rw[XW e]at h2
 split at h2
 . exact⟨λh=>absurd h e,λh=>by omega⟩
 cases h2
theorem Zgo{z:Zon}(h:j6 z):mK z=sD z:=by
 unfold mK sD
 congr 1
 have e:aF 2 (lS z) 0=(lS z 0&&lS z 1):=by
  rw[fM,XY (by omega),fM,XY (by omega),fM,XW (by omega),Bool.and_true]
 rw[e]
 unfold lS
 rw[QQ h h.apex,QQ h h.apex]
 rfl
end Go.Zon
