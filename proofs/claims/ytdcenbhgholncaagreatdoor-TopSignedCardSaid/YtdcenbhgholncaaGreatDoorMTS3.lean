/-
  MANY TEXTS OF MINE IN ONE (a claim has a limit of files): DRn, Types, Str, Rec, Cmp, Rec2, Rec3, Rec4, Rec5, Sym, Rec6, Zon, Zon2, Zon3, Zdl, Zdm, Zdn, Zdo, Zdp, Zla, Zlb, Zlc. Conditions: none.
-/
import Derived.Maps.RangeRun
import Derived.Test.YtdcenbhgholncaaGreatDoorProg
import Derived.KernelRfl
import Derived.Lib.Bytealg
import Derived.Shelf.Small.Strs
import Derived.Test.YtdcenbhgholncaaGreatDoorMTS2
set_option linter.unusedVariables false
set_option linter.unusedSimpArgs false
set_option linter.unusedSectionVars false
set_option linter.defProp false
set_option linter.unnecessarySimpa false
namespace Go.DL
variable [Dr]
variable {P : Program}
instance{k:IntKind}{n:Int}:Decidable (jh k n):=inferInstanceAs (Decidable (_/\_))
section
variable [aa P]
instance{t:TypeId}:Decidable (P.underlying t=some .bool):=match h:P.underlying t with
 | some .bool=>isTrue rfl
 | none=>isFalse (by simp)
 | some x=>by cases x<;>first|exact isTrue rfl|exact isFalse (by simp)
instance{t:TypeId}:Decidable (P.underlying t=some .string):=match h:P.underlying t with
 | none=>isFalse (by simp)
 | some x=>by cases x<;>first|exact isTrue rfl|exact isFalse (by simp)
instance{t:TypeId}{a:D}{h:H}:Decidable (iq P t a h).2:=inferInstanceAs (Decidable (_/\_/\_))
instance{t:TypeId}{a x:D}{h:H}:Decidable (eF P t a x h).2:=by
 delta eF;split
 . split<;>infer_instance
 . infer_instance
instance{s:TypeId}{f:Nat}{a:D}:Decidable (qY P s f a).2:=by delta qY;split<;>infer_instance
instance{s:TypeId}{f:Nat}{a:D}:Decidable (xJ P s f a).2:=by delta xJ;split<;>infer_instance
instance{t:TypeId}{x ix:D}:Decidable (nW P t x ix).2:=by delta nW;split<;>infer_instance
instance decTy{e:TypeId}(o:Option av):Decidable (match o with|some bl=>bl.ty=e|none=>False):=match o with
 | some bl=>inferInstanceAs (Decidable (bl.ty=e))
 | none=>isFalse id
instance{t:TypeId}{x ix:D}{h:H}:Decidable (dM P t x ix h).2:=by
 delta dM;split
 . infer_instance
 .
  split
  . infer_instance
  . exact @instDecidableAnd _ _ _ (@instDecidableAnd _ _ _ (@instDecidableAnd _ _ _ (decTy _)))
  . infer_instance
instance{t:TypeId}{x ix:D}:Decidable (sU P t x ix).2:=by delta sU;split<;>infer_instance
instance decFill{s:TypeId}{n:Nat}:∀(ps:List (Nat×Operand))(xs:List D),Decidable (qX P s n ps xs)
 | [],_=>isTrue trivial
 | _::_,[]=>isFalse id
 | (f,_)::ps,x::xs=>by
  have:=decFill (s:=s) (n:=n) ps xs;have h1:Decidable (match bA P s f with
   | some (off,t)=>x.cells.length=P.cellsOf t/\off+x.cells.length<=n
   | none=>match kF P s with
    | some (_,e)=>x.cells.length=P.cellsOf e/\f*P.cellsOf e+x.cells.length<=n
    | none=>False):=by
   split
   . infer_instance
   . split<;>infer_instance
  unfold qX
  infer_instance
instance decRows{n:Nat}:∀(i:Nat)(ps:List (Nat×Operand))(xs:List D),Decidable (si n i ps xs)
 | _,[],[]=>isTrue trivial
 | _,[],_::_=>isFalse id
 | _,_::_,[]=>isFalse id
 | i,(j,_)::ps,x::xs=>by
  have:=decRows (n:=n) (i+1) ps xs;unfold si
  infer_instance
instance{t:TypeId}{ps:List (Nat×Operand)}{xs:List D}:Decidable (xN P t ps xs).2:=inferInstanceAs (Decidable (_/\_/\_))
instance{t:TypeId}{n:Nat}{ps:List (Nat×Operand)}{xs:List D}:Decidable (uf P t n ps xs).2:=by delta uf;split<;>infer_instance
instance{t:TypeId}{n:Nat}{ps:List (Nat×Operand)}{xs:List D}{h:H}{b:Nat}:Decidable (kC P t n ps xs h b).2.2:=by delta kC;split<;>infer_instance
instance{t u:TypeId}{x y:D}{h:H}{b:Nat}:Decidable (dw P t u x y h b).2.2:=by
 delta dw;split
 . infer_instance
 .
  dsimp only;split
  . infer_instance
  . split<;>infer_instance
  . infer_instance
instance decNone{α:Type}(m:Option α):Decidable (m=none):=match m with
 | none=>isTrue rfl
 | some _=>isFalse (by simp)
instance{t:TypeId}{x:D}{l hh m:Option D}{h:H}:Decidable (lw P t x l hh m h).2:=by
 delta lw;dsimp only;split
 . infer_instance
 .
  split
  . infer_instance
  . split<;>infer_instance
 .
  split
  . infer_instance
  . exact @instDecidableAnd _ _ _ (@instDecidableAnd _ _ _ (@instDecidableAnd _ _ _ (decTy _)))
 . infer_instance
instance{t:TypeId}{h:H}{b:Nat}{x y:D}:Decidable (iJ P t h b x y).2.2:=by
 delta iJ;split
 . split<;>infer_instance
 . infer_instance
instance{t:TypeId}{xs:List D}{h:H}{b:Nat}:Decidable (uX P t xs h b).2.2:=inferInstanceAs (Decidable (_/\_/\_))
instance{t:TypeId}{m k x:D}{h:H}:Decidable (jT P t m k x h).2:=by
 delta jT;split
 .
  split
  . split<;>infer_instance
  . infer_instance
 . infer_instance
instance{t:TypeId}{ok:Bool}{m k:D}{h:H}:Decidable (j5 P t ok m k h).2:=by delta j5;split<;>infer_instance
instance{t:TypeId}{op:BinOp}{x y:Value}:Decidable (cO P t op x y).2:=by
 delta cO;split<;>first|infer_instance|(split<;>infer_instance)
instance{t:TypeId}{op:BinOp}{x y:D}:Decidable (kD P t op x y).2:=by
 delta kD;split
 . infer_instance
 .
  split
  . split<;>infer_instance
  . split<;>infer_instance
  . infer_instance
 . infer_instance
instance{op:UnOp}{x:D}:Decidable (rP op x).2:=by delta rP;split<;>infer_instance
instance{src dst:TypeId}{x:D}:Decidable (tX P src dst x).2:=by
 delta tX;split
 . infer_instance
 . dsimp only;split<;>infer_instance
 . infer_instance
 . infer_instance
end
instance{xs:List D}:Decidable (yC xs).2:=by delta yC;split<;>infer_instance
instance{xs:List D}:Decidable (yD xs).2:=by delta yD;split<;>infer_instance
instance{g:Bool}{xs:List D}:Decidable (uP g xs).2:=by delta uP;split<;>infer_instance
instance{h:H}{d:D}:Decidable (mR h d):=by delta mR;split<;>infer_instance
instance{h:H}{d:D}:Decidable (tQ h d):=by delta tQ;split<;>infer_instance
instance{h:H}{d:D}:Decidable (iT h d):=by delta iT;split<;>infer_instance
instance decSnap{h:H}:∀(k:Nat)(d:D),Decidable (dE h k d)
 | 0,d=>inferInstanceAs (Decidable (d.nr=true))
 | k+1,d=>by
  have:=decSnap (h:=h) k;unfold dE
  split<;>infer_instance
structure fO where
 isP:FuncId->Bool
 pf:FuncId->List D->Option D
def fO.con(T:fO)(cf:Bool)(bs:Bool:=false):aH:={ pure:=T.isP,pf:=λk xs=>(T.pf k xs).getD .junk,cf:=cf,dp:=!cf,bs:=bs }
def fO.words(T:fO):aU:={ pureCt:=λk xs _=>(T.pf k xs).isSome=true,ct:=λ_ _ _ _ _ _=>False }
def fO.Ok(T:fO)(P:Program)[aa P]:Prop:=∀f xs d,T.pf f xs=some d->PureCt P f xs d
section
variable {T : fO}
instance{f:FuncId}{xs:List D}{d:D}:Decidable (T.words.pureCt f xs d):=inferInstanceAs (Decidable (_=true))
instance decCall{cf bs:Bool}{f:Operand}{xs:List D}{h:H}{b:Nat}:Decidable (dQ T.words (T.con cf bs) f xs h b).2.2:=by
 delta dQ;split
 .
  split
  .
   cases cf
   . exact inferInstanceAs (Decidable (_/\_/\_))
   . exact inferInstanceAs (Decidable (_/\_))
  .
   cases cf
   . exact isFalse λq=>q 0
   . exact isFalse id
 .
  split
  .
   cases cf
   . exact inferInstanceAs (Decidable (_/\_/\_))
   . exact inferInstanceAs (Decidable (_/\_))
  . exact isFalse id
 . exact isFalse id
instance decStill{h:H}{r:D×Prop}[i:Decidable r.2]:Decidable (still h r).2.2:=i
variable [aa P]
instance decEff{cf bs:Bool}{op:Op}{xs:List D}{h:H}{b:Nat}:Decidable (aD P T.words (T.con cf bs) op xs h b).2.2:=by
 delta aD;split<;>first
  | infer_instance
  | exact inferInstanceAs (Decidable True)
  | (split<;>infer_instance)
instance decEffG{cf bs g:Bool}{op:Op}{xs:List D}{h:H}{b:Nat}:Decidable (ak P T.words (T.con cf bs) g op xs h b).2.2:=by
 delta ak;split<;>infer_instance
end
def dP{α:Type}(n:Nat)(k:Nat->α):α:=match n with
 | 0=>k 0
 | m+1=>k (m+1)
theorem jq{α:Type}(n:Nat)(k:Nat->α):dP n k=k n:=by cases n<;>rfl
def AX{α:Type}(n:Int)(k:Int->α):α:=match n with
 | .ofNat m=>dP m λm=>k (.ofNat m)
 | .negSucc m=>dP m λm=>k (.negSucc m)
theorem Oa{α:Type}(n:Int)(k:Int->α):AX n k=k n:=by cases n<;>simp only[AX,jq]
def jr{α:Type}(n:Bool)(k:Bool->α):α:=match n with
 | true=>k true
 | false=>k false
theorem qa{α:Type}(n:Bool)(k:Bool->α):jr n k=k n:=by cases n<;>rfl
def xH{α β:Type}:List β->(List β->α)->α
 | [],k=>k []
 | x::l,k=>xH l λl'=>k (x::l')
theorem yU{α β:Type}:∀(l:List β)(k:List β->α),xH l k=k l
 | [],_=>rfl
 | x::l,k=>yU l _
def Dv{α:Type}(v:Value)(k:Value->α):α:=match v with
 | .int i n=>AX n λn=>k (.int i n)
 | .bool b=>jr b λb=>k (.bool b)
 | .string ⟨⟨l⟩⟩=>xH l λl=>k (.string ⟨⟨l⟩⟩)
 | v=>k v
theorem N9{α:Type}(v:Value)(k:Value->α):Dv v k=k v:=by
 unfold Dv
 split
 . exact Oa _ _
 . exact qa _ _
 . exact yU _ _
 rfl
def xI{α:Type}(d:D)(k:D->α):α:=match d with
 | .v x=>Dv x λx=>k (.v x)
 | .mrow r o l=>dP r λr=>dP o λo=>dP l λl=>k (.mrow r o l)
 | .mptr r o l=>dP r λr=>dP o λo=>dP l λl=>k (.mptr r o l)
 | .mp r=>dP r λr=>k (.mp r)
 | .list f rows=>jr f λf=>xH rows λrows=>k (.list f rows)
 | d=>k d
theorem G7{α:Type}(d:D)(k:D->α):xI d k=k d:=by
 unfold xI
 split<;>simp only[N9,jq,qa,yU]
def p9{α:Type}:List D->(List D->α)->α
 | [],k=>k []
 | x::l,k=>xI x λx=>p9 l λl=>k (x::l)
theorem yV{α:Type}:∀(l:List D)(k:List D->α),p9 l k=k l
 | [],_=>rfl
 | x::l,k=>by simp only[p9,G7,yV l]
def Dw{α:Type}(d:D)(k:D->α):α:=match d with
 | .agg cs=>p9 cs λcs=>k (.agg cs)
 | .tuple cs=>p9 cs λcs=>k (.tuple cs)
 | .eptr cs=>p9 cs λcs=>k (.eptr cs)
 | .fn f a b=>p9 a λa=>p9 b λb=>k (.fn f a b)
 | .cond g d=>jr g λg=>xI d λd=>k (.cond g d)
 | .iface t d=>xI d λd=>k (.iface t d)
 | d=>xI d k
theorem Ob{α:Type}(d:D)(k:D->α):Dw d k=k d:=by
 unfold Dw
 split<;>simp only[G7,yV,qa]
def vC{α:Type}:List (List D)->(List (List D)->α)->α
 | [],k=>k []
 | x::l,k=>p9 x λx=>vC l λl=>k (x::l)
theorem AV{α:Type}:∀(l:List (List D))(k:List (List D)->α),vC l k=k l
 | [],_=>rfl
 | x::l,k=>by simp only[vC,yV,AV l]
inductive Tr where
 | nil
 | node (d:D) (l r:Tr)
def Cn:Nat->Nat->List Bool
 | 0,_=>[]
 | _,0=>[]
 | k+1,i+1=>(i % 2==0)::Cn k (i / 2)
def bE(i:Nat):List Bool:=Cn i i
def BF:List Bool->Nat
 | []=>0
 | b::l=>2*BF l+(if b then 1 else 2)
theorem EI : ∀(k i:Nat),i<=k->BF (Cn k i)=i
 | 0,i,h=>by
  have:i=0:=by omega
  subst this;rfl
 | k+1,0,_=>rfl
 | k+1,i+1,h=>by
  have:=EI k (i / 2) om;simp only[Cn,BF,this]
  split
  .
   rename_i e
   have:i % 2=0:=by simpa using e
   omega
  rename_i e
  have : ¬i % 2=0:=by simpa using e
  omega
theorem Ck{i j:Nat}(h:bE i=bE j):i=j:=by
 have:=congrArg BF h
 rwa [bE,bE,EI _ _ (X3 _),EI _ _ (X3 _)]at this
noncomputable def bV(t:Tr):List Bool->D:=@Tr.rec (λ_=>List Bool->D) (λ_=>.junk) (λd _ _ il ir p=>@List.rec Bool (λ_=>D) d (λb p _=>@Bool.rec (λ_=>D) (ir p) (il p) b) p) t
def tset{α:Type}:Tr->List Bool->D->(Tr->α)->α
 | .nil,[],x,k=>k (.node x .nil .nil)
 | .node _ l r,[],x,k=>k (.node x l r)
 | .nil,true::p,x,k=>tset .nil p x λl=>k (.node .junk l .nil)
 | .nil,false::p,x,k=>tset .nil p x λr=>k (.node .junk .nil r)
 | .node d l r,true::p,x,k=>tset l p x λl=>k (.node d l r)
 | .node d l r,false::p,x,k=>tset r p x λr=>k (.node d l r)
theorem EN(p:List Bool):bV .nil p = .junk:=rfl
theorem jA : ∀(p:List Bool)(t:Tr)(x:D),∃t',(∀{α:Type}(k:Tr->α),tset t p x k=k t') /\ ∀q,bV t' q=if q=p then x else bV t q
 | [],.nil,x=>⟨_,λk=>rfl,λq=>by cases q with|nil=>rfl|cons b q=>cases b<;>rfl⟩
 | [],.node d l r,x=>⟨_,λk=>rfl,λq=>by cases q with|nil=>rfl|cons b q=>cases b<;>rfl⟩
 | true::p,.nil,x=>by
  obtain⟨t',h1,h2⟩:=jA p .nil x;refine⟨.node .junk t' .nil,λk=>by simp only[tset,h1],λq=>?_⟩
  cases q with
  | nil=>rfl
  | cons b q=>cases b with
   | true =>
    show bV t' q=_
    rw[h2]
    simp[EN]
   | false=>simp[bV]
 | false::p,.nil,x=>by
  obtain⟨t',h1,h2⟩:=jA p .nil x;refine⟨.node .junk .nil t',λk=>by simp only[tset,h1],λq=>?_⟩
  cases q with
  | nil=>rfl
  | cons b q=>cases b with
   | false =>
    show bV t' q=_
    rw[h2]
    simp[EN]
   | true=>simp[bV]
 | true::p,.node d l r,x=>by
  obtain⟨t',h1,h2⟩:=jA p l x;refine⟨.node d t' r,λk=>by simp only[tset,h1],λq=>?_⟩
  cases q with
  | nil=>rfl
  | cons b q=>cases b with
   | true =>
    show bV t' q=_
    rw[h2];simp only[Yt,true_and];rfl
   | false=>simp[bV]
 | false::p,.node d l r,x=>by
  obtain⟨t',h1,h2⟩:=jA p r x;refine⟨.node d l t',λk=>by simp only[tset,h1],λq=>?_⟩
  cases q with
  | nil=>rfl
  | cons b q=>cases b with
   | false =>
    show bV t' q=_
    rw[h2];simp only[Yt,true_and];rfl
   | true=>simp[bV]
def vV{α:Type}:List D->Nat->Tr->(Tr->α)->α
 | [],_,t,k=>k t
 | x::l,i,t,k=>xI x λx=>tset t (bE i) x λt=>vV l (i+1) t k
theorem EP : ∀(l:List D)(i:Nat)(t:Tr),∃t',(∀{α:Type}(k:Tr->α),vV l i t k=k t') /\ ∀j,bV t' (bE j)=if i<=j/\j<i+l.length then l.getD (j-i) .junk else bV t (bE j)
 | [],i,t=>⟨t,λk=>rfl,λj=>by rw[XW (by simp)]⟩
 | x::l,i,t=>by
  obtain⟨t1,h1,h2⟩:=jA (bE i) t x;obtain⟨t2,h3,h4⟩:=EP l (i+1) t1;refine⟨t2,λk=>by simp only[vV,G7,h1,h3],λj=>?_⟩
  rw[h4,h2]
  by_cases e:j=i
  .
   subst e;rw[XW (by omega),X0 rfl,X0 (by simp)]
   simp
  rw[XW (λq=>e (Ck q))]
  by_cases e2:i+1<=j/\j<i+1+l.length
  .
   rw[X0 e2,X0 (by simp;omega)]
   have:j-i=(j-(i+1))+1:=by omega
   rw[this]
   simp
  rw[XW e2,XW (by simp;omega)]
structure X where
 n:Nat
 t:Tr
 h:List (Nat×av)
 nx:Nat
 j:Option Code
def tok:D:=.fn (.yield 0) [] []
def sO(d:D):Bool:=match d with
 | .fn (.yield l) a b=>Nat.beq l 0&&a.isEmpty&&b.isEmpty
 | _=>false
def BJ:D:=.v (.pointer (some ⟨1000000007,0,none⟩))
def lX(d:D):Bool:=match d with
 | .v (.pointer (some ⟨r,o,none⟩))=>Nat.beq r 1000000007&&Nat.beq o 0
 | _=>false
def bX(d:D):Bool:=sO d||lX d
def Gz{d:D}(h:sO d=true):d=tok:=by
 unfold sO at h
 split at h
 .
  rename_i l a b
  simp only[XT,List.isEmpty_iff,Nat.beq_eq]at h;obtain⟨⟨rfl,rfl⟩,rfl⟩:=h;rfl
 cases h
theorem Gy{d:D}(h:lX d=true):d=BJ:=by
 unfold lX at h
 split at h
 .
  rename_i r o
  simp only[XT,Nat.beq_eq]at h;obtain⟨rfl,rfl⟩:=h;rfl
 cases h
def Zab{d:D}(h:bX d=true):d=tok\/d=BJ:=by
 simp only[bX,Ya]at h
 exact h.imp Gz Gy
def Zaa{d:D}(h:bX d=false):sO d=false/\lX d=false:=by
 simpa only[bX,Yb]using h
def cZ(l:Nat×Nat)(d:D):D:=bif sO d then .fn (.yield l.1) [] []else bif lX d then .v (.pointer (some ⟨l.2,0,none⟩))else d
def L0:Nat×Nat:=(0,1000000007)
theorem uK{l:Nat×Nat}{d:D}(h:bX d=false):cZ l d=d:=by
 obtain⟨h1,h2⟩:=Zaa h
 rw[cZ,h1,h2];rfl
theorem U7(d:D):cZ L0 d=d:=by
 unfold cZ
 cases h:sO d with
 | true=>exact(Gz h).symm
 | false =>
  cases h2:lX d with
  | true=>exact(Gy h2).symm
  | false=>rfl
noncomputable def X.SL(l:Nat×Nat)(E:Option Code->Env)(x:X):S:={ n:=x.n,t:=λi=>cZ l (bV x.t (bE i)),h:=htab x.h,nx:=x.nx,e:=E x.j }
def EO:Option Code->Env:=λ_=>Env.tt
def pK:D->List Nat
 | .mrow r _ _ | .mptr r _ _ | .mp r=>[r]
 | .cond _ d=>pK d
 | _=>[]
def Ac(ds:List D):List Nat:=ds.flatMap pK
def hdrop(q:Nat):List (Nat×av)->List (Nat×av)
 | []=>[]
 | p::l=>if p.1=q then hdrop q l else p::hdrop q l
def hput{α:Type}(r:Nat)(o:Option av)(acc:List (Nat×av))(k:List (Nat×av)->α):α:=match o with
 | some ⟨ty,rows⟩=>dP r λr=>vC rows λrows=>k ((r,⟨ty,rows⟩)::acc)
 | none=>xH (hdrop r acc) k
def Db{α:Type}(h':H):List Nat->List (Nat×av)->(List (Nat×av)->α)->α
 | [],acc,k=>k acc
 | r::nms,acc,k=>hput r (h' r) acc λacc=>Db h' nms acc k
def yN(h':H):List Nat->List (Nat×av)->List (Nat×av)
 | [],acc=>acc
 | r::nms,acc=>yN h' nms (match h' r with|some bl=>(r,bl)::acc|none=>hdrop r acc)
theorem Zat{α:Type}(r:Nat)(o:Option av)(acc:List (Nat×av))(k:List (Nat×av)->α):hput r o acc k=k (match o with|some bl=>(r,bl)::acc|none=>hdrop r acc):=by
 unfold hput
 split
 . simp only[jq,AV]
 exact yU _ _
theorem GK{α:Type}(h':H):∀(nms:List Nat)(acc:List (Nat×av))(k:List (Nat×av)->α),Db h' nms acc k=k (yN h' nms acc)
 | [],_,_=>rfl
 | r::nms,acc,k=>by rw[Db,Zat,GK h' nms];rfl
theorem Di(q:Nat)(r:Nat):∀h:List (Nat×av),htab (hdrop q h) r=if r=q then none else htab h r
 | []=>by simp[hdrop,htab]
 | p::l=>by
  have ih:=Di q r l;obtain⟨q',bl⟩:=p;simp only[hdrop]
  split
  .
   rename_i hc
   subst hc;rw[ih]
   split
   . rfl
   rename_i hr
   rw[htab,aI _ _ _ _ hr]
  rename_i hc
  simp only[htab]
  by_cases e:r=q'
  . subst e;rw[bu,XW hc,bu]
  rw[aI _ _ _ _ e,aI _ _ _ _ e,ih]
theorem Nt{h':H}{r:Nat}:∀(nms:List Nat)(acc:List (Nat×av)),(r ∉ nms->h' r=htab acc r)->htab (yN h' nms acc) r=h' r
 | [],acc,hk=>(hk (by simp)).symm
 | q::nms,acc,hk=>by
  unfold yN;refine Nt nms _ λhr=>?_
  by_cases e:r=q
  .
   subst e
   cases hq:h' r with
   | some bl=>simp[htab,bu]
   | none=>simp[Di]
  have:=hk (by simp[e,hr])
  rw[this]
  cases hq:h' q with
  | some bl=>simp only[htab,aI _ _ _ _ e]
  | none=>simp only[Di,XW e]
def Zar{nms:List Nat}{h':H}{h:List (Nat×av)}(hk : ∀r,r ∉ nms->h' r=htab h r):htab (yN h' nms h)=h':=funext λr=>Nt nms h (hk r)
section
variable [aa P]
def CF{d:D}{ds:List D}{r:Nat}(hd:d∈ds)(hr:r∈pK d):r∈Ac ds:=List.mem_flatMap.2 ⟨d,hd,hr⟩
def Si{t:TypeId}{a x:D}{h:H}{r:Nat}(hr:r ∉ pK a):(eF P t a x h).1 r=h r:=by
 unfold eF
 split
 .
  split
  . exact aI _ _ _ _ (λe=>hr (by simp[pK,e]))
  rfl
 rfl
def Zc6{t:TypeId}{n:Nat}{ps:List (Nat×Operand)}{xs:List D}{h:H}{b r:Nat}(hb:r≠b):(kC P t n ps xs h b).2.1 r=h r:=by
 unfold kC
 split
 . exact aI _ _ _ _ hb
 rfl
def Zdo{t u:TypeId}{x y:D}{h:H}{b r:Nat}(hb:r≠b)(hr:r ∉ pK x):(dw P t u x y h b).2.1 r=h r:=by
 unfold dw
 split
 . rfl
 dsimp only
 split
 . exact aI _ _ _ _ hb
 .
  split
  . exact(aI _ _ _ _ hb).trans (aI _ _ _ _ (λe=>hr (by simp[pK,e])))
  rfl
 rfl
def WO{t:TypeId}{h:H}{b r:Nat}{x y:D}(hb:r≠b):(iJ P t h b x y).2.1 r=h r:=by
 unfold iJ
 split
 .
  split
  . exact aI _ _ _ _ hb
  rfl
 rfl
def Rm{t:TypeId}{m k x:D}{h:H}{r:Nat}(hr:r ∉ pK m):(jT P t m k x h).1 r=h r:=by
 unfold jT
 split
 .
  split
  .
   split
   . exact aI _ _ _ _ (λe=>hr (by simp[pK,e]))
   rfl
  rfl
 rfl
theorem IA{W:aU}{C:aH}{f:Operand}{xs:List D}{h:H}{b:Nat}:(dQ W C f xs h b).2.1=h:=by
 unfold dQ
 split
 .
  split
  .
   split
   . rfl
   split<;>rfl
  split<;>rfl
 .
  split
  .
   split
   . rfl
   split<;>rfl
  rfl
 rfl
theorem ZbG{W:aU}{C:aH}{op:Op}{xs:List D}{h:H}{b r:Nat}(hb:r≠b)(hr:r ∉ Ac (xs.take 1)):(aD P W C op xs h b).2.1 r=h r:=by
 unfold aD
 split<;>first
  | rfl
  | exact aI _ _ _ _ hb
  | exact Si (λq=>hr (CF (by simp) q))
  | exact WO hb
  | exact Rm (λq=>hr (CF (by simp) q))
  | (rw[IA];done)
  | (split<;>first|rfl|exact Zc6 hb|exact Zdo hb (λq=>hr (CF (by simp) q)))
end
section
variable [aa P] {T : fO}
def ZcZ{W W':aU}{C:aH}{f:Operand}{xs:List D}{h:H}{b:Nat}:(dQ W C f xs h b).1=(dQ W' C f xs h b).1:=by
 unfold dQ
 split
 .
  split
  .
   split
   . rfl
   split<;>rfl
  split<;>rfl
 .
  split
  .
   split
   . rfl
   split<;>rfl
  rfl
 rfl
theorem eff_W{W W':aU}{C:aH}{op:Op}{xs:List D}{h:H}{b:Nat}:(aD P W C op xs h b).1=(aD P W' C op xs h b).1/\(aD P W C op xs h b).2.1=(aD P W' C op xs h b).2.1:=by
 unfold aD
 split<;>first
  | exact⟨rfl,rfl⟩
  | exact⟨ZcZ,by rw[IA,IA]⟩
def Pe{W W':aU}{C:aH}{g:Bool}{op:Op}{xs:List D}{h:H}{b:Nat}:(ak P W C g op xs h b).1=(ak P W' C g op xs h b).1/\(ak P W C g op xs h b).2.1=(ak P W' C g op xs h b).2.1:=by
 unfold ak
 split
 . exact⟨rfl,rfl⟩
 exact eff_W
def fO.ask(hT:T.Ok P){k:FuncId}{xs:List D}(h:(T.pf k xs).isSome=true):PureCt P k xs ((T.pf k xs).getD .junk):=by
 obtain⟨d,hd⟩:=Yn.1 h
 rw[hd]
 exact hT _ _ _ hd
def ZcX(hT:T.Ok P){cf bs:Bool}{f:Operand}{xs:List D}{h:H}{b:Nat}(q:(dQ T.words (T.con cf bs) f xs h b).2.2):(dQ (words P) (T.con cf bs) f xs h b).2.2:=by
 unfold dQ at q ⊢
 split<;>rename_i e<;>simp only at q
 .
  split at q<;>rename_i e1
  .
   rw[X0 e1]
   cases cf
   . exact⟨T.ask hT q.1,q.2⟩
   exact⟨T.ask hT q.1,q.2⟩
  cases cf
  . exact(q 0).elim
  exact q.elim
 split at q<;>rename_i e1
 .
  rw[X0 e1]
  cases cf
  . exact⟨T.ask hT q.1,q.2⟩
  exact⟨T.ask hT q.1,q.2⟩
 exact q.elim
theorem ZbC(hT:T.Ok P){cf bs:Bool}{op:Op}{xs:List D}{h:H}{b:Nat}(q:(aD P T.words (T.con cf bs) op xs h b).2.2):(aD P (words P) (T.con cf bs) op xs h b).2.2:=by
 revert q
 unfold aD
 split<;>first
  | exact id
  | exact ZcX hT
def Pb(hT:T.Ok P){cf bs g:Bool}{op:Op}{xs:List D}{h:H}{b:Nat}(q:(ak P T.words (T.con cf bs) g op xs h b).2.2):(ak P (words P) (T.con cf bs) g op xs h b).2.2:=by
 unfold ak at q ⊢
 split
 .
  rename_i e
  simpa only[X0 e]using q
 rename_i e
 simp only[XW e]at q
 exact⟨q.1,ZbC hT q.2⟩
def WE{d:D}{r:Nat}(h:r∈pK (sd d)):r∈pK d:=by
 cases d<;>exact h
def ZbH{W:aU}{C:aH}{g:Bool}{op:Op}{xs:List D}{h:H}{b r:Nat}(hb:r≠b)(hr:r ∉ Ac (xs.take 1)):(ak P W C g op xs h b).2.1 r=h r:=by
 unfold ak
 split
 . rfl
 refine ZbG hb λq=>hr ?_
 obtain⟨d,h1,h2⟩:=List.mem_flatMap.1 q
 rw[<-Z6]at h1
 obtain⟨d',h3,rfl⟩:=Yh.1 h1
 exact CF h3 (WE h2)
noncomputable def aW(t:Tr)(o:Operand):D:=match o with
 | .tmp i=>bV t (bE i)
 | .const v=>jI v
 | .global g=>.v (.pointer (some ⟨g,0,none⟩))
 | .func f=>.fn (.func f) [] []
variable {l : Nat × Nat} {E : Option Code -> Env}
theorem kr{x:X}{o:Operand}(h:bX (aW x.t o)=false):(x.SL l E).ev o=aW x.t o:=by
 cases o<;>first|rfl|exact uK h
def xK{x:X}{os:List Operand}(h:(os.map (aW x.t)).any bX=false):os.map (x.SL l E).ev=os.map (aW x.t):=by
 rw[List.any_eq_false]at h
 exact YG λo ho=>kr (by simpa using h _ (Yh.2 ⟨o,ho,rfl⟩))
def Ao(C:aH)(op:Op):Bool:=match aX C op with
 | .writes=>true
 | _=>false
def isW_h{W:aU}{C:aH}{g:Bool}{op:Op}{xs:List D}{h:H}{b:Nat}(q:Ao C op=false):(ak P W C g op xs h b).2.1=h:=by
 unfold ak
 split
 . rfl
 refine DK λe=>?_
 rw[Ao,e]at q
 cases q
def Hq(n:Nat)(t:Tr)(nx:Nat)(j:Option Code)(dst:Option Tmp)(d:D)(h:List (Nat×av)):Option X:=match dst with
 | some i=>bif Nat.blt i n then tset t (bE i) d λt=>some ⟨n,t,h,nx,j⟩else none
 | none=>some ⟨n,t,h,nx,j⟩
def X.finF(x:X)(dst:Option Tmp)(d:D)(h:List (Nat×av)):Option X:=match x with
 | ⟨n,t,_,nx,j⟩=>Hq n t nx j dst d h
def X.finK(x:X)(dst:Option Tmp)(d:D)(h:List (Nat×av)):Option X:=match dst with
 | some _=>Dw d λd=>bif bX d then none else x.finF dst d h
 | none=>x.finF none d h
theorem X.finF_S{x x':X}{dst:Option Tmp}{d:D}{h:List (Nat×av)}(q:x.finF dst d h=some x'):bS x.n dst=true/\x'.SL l E={ x.SL l E with t:=(x.SL l E).put dst (cZ l d),h:=htab h }/\x'.n=x.n/\x'.nx=x.nx/\x'.j=x.j:=by
 unfold X.finF Hq at q
 cases dst with
 | none =>
  simp only[XU]at q;subst q;exact⟨rfl,rfl,rfl,rfl,rfl⟩
 | some j =>
  simp only at q
  cases hj:Nat.blt j x.n with
  | false=>rw[hj]at q;cases q
  | true =>
   rw[hj,cond_true]at q;obtain⟨t',h1,h2⟩:=jA (bE j) x.t d;rw[h1,XU]at q;subst q;refine⟨by simpa[bS]using hj,?_,rfl,rfl,rfl⟩
   simp only[X.SL,S.put,S.mk.injEq,true_and,and_true]
   funext k
   rw[h2];simp only[upd]
   by_cases e:k=j
   . subst e;simp
   rw[XW (λq=>e (Ck q)),XW e]
theorem X.finK_S{x x':X}{dst:Option Tmp}{d:D}{h:List (Nat×av)}(q:x.finK dst d h=some x'):bS x.n dst=true/\x'.SL l E={ x.SL l E with t:=(x.SL l E).put dst d,h:=htab h }/\x'.n=x.n/\x'.nx=x.nx/\x'.j=x.j:=by
 unfold X.finK at q
 split at q
 .
  rw[Ob]at q
  cases ht:bX d with
  | true=>rw[ht]at q;cases q
  | false =>
   rw[ht,cond_false]at q;have:=X.finF_S (l:=l) (E:=E) q;rwa [uK ht]at this
 exact X.finF_S q
noncomputable def X.run1(P:Program)[aa P](T:fO)(cf bs:Bool)(b i:Nat)(o:Oper)(x:X):Option X :=
 p9 ((au o.op).map (aW x.t)) λaz =>
  if az.any bX=false/\(ak P T.words (T.con cf bs) true o.op az (htab x.h) (b+i)).2.2 then
   if Ao (T.con cf bs) o.op then
    Db (ak P T.words (T.con cf bs) true o.op az (htab x.h) (b+i)).2.1 ((b+i)::Ac (az.take 1)) x.h λh =>
     x.finK o.dst (ak P T.words (T.con cf bs) true o.op az (htab x.h) (b+i)).1 h
   else x.finK o.dst (ak P T.words (T.con cf bs) true o.op az (htab x.h) (b+i)).1 x.h
  else none
def Bu(P:Program)[aa P](C:aH)(o:Oper)(k:Nat)(s s':S):Prop:=bS s.n o.dst=true/\(ak P (words P) C true o.op ((au o.op).map s.ev) s.h k).2.2 /\
 s'={ s with t:=s.put o.dst (ak P (words P) C true o.op ((au o.op).map s.ev) s.h k).1,h:=(ak P (words P) C true o.op ((au o.op).map s.ev) s.h k).2.1 }
def X.run1_sound(hT:T.Ok P){cf bs:Bool}{b i:Nat}{o:Oper}{x x':X}(q:x.run1 P T cf bs b i o=some x') :
  Bu P (T.con cf bs) o (b+i) (x.SL l E) (x'.SL l E)/\x'.n=x.n/\x'.nx=x.nx/\x'.j=x.j:=by
 unfold X.run1 at q
 rw[yV]at q
 split at q
 .
  rename_i hc
  obtain⟨ht,hok⟩:=hc;have hok':=Pb hT hok;obtain⟨w1,w2⟩:=Pe (P:=P) (W:=T.words) (W':=words P) (C:=T.con cf bs) (g:=true) (op:=o.op) (xs:=(au o.op).map (aW x.t)) (h:=htab x.h) (b:=b+i);have hev:=xK (l:=l) (E:=E) ht;unfold Bu;rw[hev]
  show(bS x.n o.dst=true/\(ak P (words P) (T.con cf bs) true o.op ((au o.op).map (aW x.t)) (htab x.h) (b+i)).2.2/\x'.SL l E={ x.SL l E with t:=(x.SL l E).put o.dst (ak P (words P) (T.con cf bs) true o.op ((au o.op).map (aW x.t)) (htab x.h) (b+i)).1,h:=(ak P (words P) (T.con cf bs) true o.op ((au o.op).map (aW x.t)) (htab x.h) (b+i)).2.1 })/\_
  rw[<-w1,<-w2]
  split at q
  .
   rw[GK]at q;obtain⟨hd,this⟩:=X.finK_S (l:=l) (E:=E) q;have hm:htab (yN (ak P T.words (T.con cf bs) true o.op ((au o.op).map (aW x.t)) (htab x.h) (b+i)).2.1 ((b+i)::Ac (((au o.op).map (aW x.t)).take 1)) x.h)=(ak P T.words (T.con cf bs) true o.op ((au o.op).map (aW x.t)) (htab x.h) (b+i)).2.1 :=
    Zar λr hr=>by
     simp only[Yv,not_or]at hr;exact ZbH hr.1 hr.2
   rw[hm]at this;exact⟨⟨hd,hok',this.1⟩,this.2⟩
  rename_i hw
  obtain⟨hd,this⟩:=X.finK_S (l:=l) (E:=E) q;have hh:(ak P T.words (T.con cf bs) true o.op ((au o.op).map (aW x.t)) (htab x.h) (b+i)).2.1=htab x.h:=isW_h (by simpa using hw)
  refine⟨⟨hd,hok',?_⟩,this.2⟩;rw[this.1,hh]
 cases q
def qV(L:List Oper)(s:S)(j:Nat):D:=((L[j]?).bind (·.dst)).elim .junk s.t
def qR(L:List Oper)(o:Oper)(s:S):Option Bool:=match o.guard with
 | none=>some true
 | some (j,want)=>if jm (qV L s j)then some (fq (qV L s j) want)else none
theorem AQ{B:bH}{s:S}{g:Mem}{a:Act}{w:World}(hs:St P B s g a w){ops:Array Oper}{o:Oper}{t:Bool}(hg:qR ops.toList o s=some t):Region.wanted o (yielded ops a.tmps)=t:=by
 unfold qR at hg
 cases hq:o.guard with
 | none =>
  rw[hq]at hg;simp only[XU]at hg;subst hg
  simp[Region.wanted,hq]
 | some jw =>
  obtain⟨j,want⟩:=jw;rw[hq]at hg;simp only at hg
  split at hg
  .
   rename_i hk
   have:=NM hs (ops:=ops) (want:=want) hk;simp only[XU]at hg;simp only[Region.wanted,hq];rw[this];exact hg
  cases hg
variable {ro : Option Nat} {Q : Exit -> S -> Prop} {C : aH}
def iX(P:Program)[aa P](ro:Option Nat)(ops:Array Oper)(i b:Nat)(s:S)(Q:Exit->S->Prop):Prop :=
 ∀(B:bH)(g0 g:Mem)(a:Act)(w0 w:World),St P B s g a w->bJ s.e.x g0 g w0 w->(∀r,g.U r->r<b+i) ->
  wpOpsIn (Fw ro) 0 P ops (λe a' w'=>∃s' g',Q e s'/\St P B s' g' a' w'/\bJ s.e.x g0 g' w0 w'/\(∀r,g'.U r->r<s'.nx)/\s'.e.x=s.e.x) (List.range' i (ops.size-i)) a w
def ZbJ{s:S}{id:Nat}{ops:Array Oper}(h:iX P ro ops 0 s.nx { s with nx:=s.nx+ops.size,ok:=True } Q):DW P ro (.region id ops false) Q s:=by
 intro B g a w hs hU
 refine wpIn_region ?_
 rw[Zk]
 exact h B g g a w w ⟨hs.sz,hs.tm,hs.mem,hs.df,hs.en,hs.bd⟩ (bJ.refl _ _ _) (λr hr=>by have:=hU r hr;omega)
theorem zV{ops:Array Oper}{i:Nat}{o:Oper}(ho:ops[i]? = some o):List.range' i (ops.size-i)=i::List.range' (i+1) (ops.size-(i+1)):=by
 have hlt:i<ops.size:=(X9.1 ho).1
 have:ops.size-i=(ops.size-(i+1))+1:=by omega
 rw[this,Ze]
def TZ{s s':S}{ops:Array Oper}{i b:Nat}{o:Oper}(ho:ops[i]? = some o)(hw:qR ops.toList o s=some true)(hd:Bu P C o (b+i) s s')(hk:iX P ro ops (i+1) b { s' with ok:=True } Q):iX P ro ops i b s Q:=by
 obtain⟨hd,hok,hs'⟩:=hd
 subst hs'
 intro B g0 g a w0 w hs hm hU
 rw[zV ho,wpOpsIn_cons]
 unfold wpOpIn
 rw[ho]
 simp only
 rw[X0 (AQ hs hw)]
 refine H6 hs (b:=b+i) (N:=b+i) (λh=>by have:=hU _ h;omega) hU hok λv g' w' q1 q2 q3 q4=>?_
 exact hk B g0 g' (a.put o.dst v) w0 w' (iF hs q3 q2 hd q1 True) (hm.trans q3.toX) (λr hr=>by
  rcases q4 r hr with h|h
  . have:=hU r h;omega
  omega)
def TY{s:S}{ops:Array Oper}{i b:Nat}{o:Oper}(ho:ops[i]? = some o)(hw:qR ops.toList o s=some false)(hd:bS s.n o.dst=true)(d:D)
  (hk:iX P ro ops (i+1) b { s with t:=s.put o.dst (.cond false d),ok:=True } Q):iX P ro ops i b s Q:=by
 intro B g0 g a w0 w hs hm hU
 rw[zV ho,wpOpsIn_cons]
 unfold wpOpIn
 rw[ho]
 simp only
 rw[XW (by rw[AQ hs hw];simp)]
 exact⟨λ_ _=>trivial,hk B g0 g (a.put o.dst undef) w0 w (Jq hs hd d _) hm (λr hr=>by have:=hU r hr;omega)⟩
def Uc{s:S}{ops:Array Oper}{i b:Nat}(hi:i=ops.size)(hn:s.nx=b+ops.size)(hq:Q .normal s.clear):iX P ro ops i b s Q:=by
 subst hi
 intro B g0 g a w0 w hs hm hU
 rw[Zn]
 exact⟨s.clear,g,hq,hs.clear,hm,λr hr=>by rw[show s.clear.nx=s.nx from rfl,hn];exact hU r hr,rfl⟩
def Uj{s:S}{ops:Array Oper}{i b:Nat}{o:Oper}{f:Operand}{args:Array Operand}{ts:Array TypeId}{fw:FuncId}{first aK:List D}(R:D->H->Nat->Prop)
  (ho:ops[i]? = some o)(hop:o.op = .call { callee:=.value f,args:=args,argTypes:=ts })(hw:qR ops.toList o s=some true)(hd:bS s.n o.dst=true)
  (hf:s.ev f = .fn (.func fw) first aK)(hxg:(args.toList.map s.ev).all sg=true)(hct:dz P fw (first++(args.toList.map s.ev).map sd++aK) s.h (b+i) R)
  (hk : ∀res h' n',R res h' n'->iX P ro ops (i+1) n' { s with t:=s.put o.dst res,h:=h',nx:=n'+ops.size,ok:=True } Q):iX P ro ops i b s Q:=by
 intro B g0 g a w0 w hs hm hU
 rw[zV ho,wpOpsIn_cons]
 unfold wpOpIn
 rw[ho]
 simp only
 rw[X0 (AQ hs hw)]
 have hdef : ∀c,o.op ≠ .defer c:=by intro c e;rw[e]at hop;cases hop
 have gq:o.semAt (Fw ro).round a.eval=execOp a.eval o:=Oper.semAt_eq _ _ _ hdef
 refine⟨λ_ _=>trivial,?_⟩
 rw[gq]
 obtain⟨hbd,hct⟩:=hct
 have hfr:=cu hs f
 rw[hf]at hfr
 have jJ:=uA (tN hs args.toList) hxg
 generalize hv:a.eval f=vf at hfr
 cases hfr with|fn _ _ _ fs cs l1 l2 r1 r2 =>
 have hrun:(execOp a.eval o).run P w = .ok (.enter fw (fs++args.map a.eval++cs)) w:=by
  simp[execOp,hop,resolve,Deferred.ofValue,hv,invoke,xM hbd]
 rw[hrun,Oper.uponIn_enter]
 have e:fs++args.map a.eval++cs=(fs.toList++args.toList.map a.eval++cs.toList).toArray:=by apply Zd;simp
 rw[e]
 refine⟨λh=>by simp[Fw,Fence.wide]at h,zg ((hct w g _ hs.mem hU (aC.append (aC.append ⟨by simpa using l1,λi d x h1 h2=>r1 i d x h1 (by simpa using h2)⟩ jJ) ⟨by simpa using l2,λi d x h1 h2=>r2 i d x h1 (by simpa using h2)⟩)).mono ?_)⟩
 rintro e w' ⟨v,g',res,h',n',hR,rfl,q1,q2,q3,q4⟩
 have hs2:=iF hs q3 q2 hd q1 True
 exact hk res h' n' hR B g0 g' (a.put o.dst v) w0 w' ⟨hs2.sz,hs2.tm,hs2.mem,hs2.df,hs2.en,hs2.bd⟩ (hm.trans q3.toX) (λr hr=>by have:=q4 r hr;omega)
def Ue{s:S}{ops:Array Oper}{i b:Nat}{o:Oper}(A:D->H->Prop)(ho:ops[i]? = some o)(hw:qR ops.toList o s=some true)(hd:bS s.n o.dst=true)(hdef : ∀c,o.op ≠ .defer c)
  (hdo : ∀(B:bH)(g:Mem)(a:Act)(w:World),St P B s g a w -> ¬g.U (b+i) -> ∃d h',A d h'/\Does P g w (b+i) ((execOp a.eval o).run P w) d h')
  (hk : ∀d h',A d h'->iX P ro ops (i+1) b { s with t:=s.put o.dst d,h:=h',ok:=True } Q):iX P ro ops i b s Q:=by
 intro B g0 g a w0 w hs hm hU
 rw[zV ho,wpOpsIn_cons]
 unfold wpOpIn
 rw[ho]
 simp only
 rw[X0 (AQ hs hw)]
 have gq:o.semAt (Fw ro).round a.eval=execOp a.eval o:=Oper.semAt_eq _ _ _ hdef
 refine⟨λ_ _=>trivial,?_⟩
 rw[gq]
 obtain⟨d,h',hA,v,g',w',hrun,q1,q2,q3,q4⟩:=hdo B g a w hs (λh=>by have:=hU _ h;omega)
 have hend : ∀v,ag w' g' d v->wpOpsIn (Fw ro) 0 P ops (λe a' w'=>∃s' g',Q e s'/\St P B s' g' a' w'/\bJ s.e.x g0 g' w0 w'/\(∀r,g'.U r->r<s'.nx)/\s'.e.x=s.e.x) (List.range' (i+1) (ops.size-(i+1))) (a.put o.dst v) w':=by
  intro v q1;have hs2:=iF hs q3 q2 hd q1 True;exact hk d h' hA B g0 g' (a.put o.dst v) w0 w' ⟨hs2.sz,hs2.tm,hs2.mem,hs2.df,hs2.en,hs2.bd⟩ (hm.trans q3.toX) (λr hr=>by
   rcases q4 r hr with h|h
   . have:=hU r h;omega
   omega)
 rcases hrun with hrun|⟨hrun,rfl⟩
 . rw[hrun,Oper.uponIn_value];exact hend v q1
 rw[hrun,Oper.uponIn_skip];exact hend undef q1
end
noncomputable def hfind(h:List (Nat×av))(r:Nat):Option av:=@List.rec (Nat×av) (λ_=>Option av) none (λp _ ih=>bif Nat.beq r p.1 then some p.2 else ih) h
theorem Dh(r:Nat):∀h:List (Nat×av),hfind h r=htab h r
 | []=>rfl
 | (q,bl)::h=>by
  show(bif Nat.beq r q then some bl else hfind h r)=_
  rw[Dh r h,htab]
  by_cases e:r=q
  . subst e;simp[bu]
  have:Nat.beq r q=false:=by
   rw[Bool.eq_false_iff];exact λh=>e (Nat.eq_of_beq_eq_true h)
  rw[this,aI _ _ _ _ e];rfl
inductive FI where
 | mv (a:Operand)
 | ld (n:Nat) (agg:Bool) (a:Operand)
 | fa (off:Nat) (a:Operand)
 | st (n:Nat) (a x:Operand)
 | ix (n:Nat) (e:TypeId) (x i:Operand)
 | al (e:TypeId) (row:List D)
 | bx (e:TypeId) (n:Nat) (x:Operand)
 | bi (op:BinOp) (a b:Operand)
 | ln (sl str:Bool) (x:Operand)
 | ex (i:Nat) (x:Operand)
 | nt (x:Operand)
 | pk (c a b:Operand)
 | slow
section
variable [aa P]
def Ap(P:Program)[aa P](t:TypeId):Bool:=match P.underlying t with|some .string=>true|_=>false
def FI.of(P:Program)[aa P](op:Op):FI:=match op with
 | .move a | .assign a=>.mv a
 | .load t a=>if 0<P.cellsOf t/\(P.underlying t).isSome=true/\(bP P t=true\/P.cellsOf t=1)then .ld (P.cellsOf t) (bP P t) a else .slow
 | .fieldAddr s a f=>match bA P s f with
  | some (off,t)=>if P.cellsOf t≠0 then .fa off a else .slow
  | none=>.slow
 | .store t a x=>if 0<P.cellsOf t then .st (P.cellsOf t) a x else .slow
 | .indexAddr t x i=>match aT P t with
  | some e=>if 0<P.cellsOf e then .ix (P.cellsOf e) e x i else .slow
  | none=>.slow
 | .alloc e=>if(zeroCells P e).length=P.cellsOf e/\(zeroCells P e).all D.one=true/\0<P.cellsOf e then .al e (zeroCells P e)else .slow
 | .box e x=>if 0<P.cellsOf e then .bx e (P.cellsOf e) x else .slow
 | .binOp op _ a b _=>.bi op a b
 | .extract x i=>.ex i x
 | .unOp .not _ x=>.nt x
 | .pick c a b=>.pk c a b
 | .call { callee:=.builtin .len,args,argTypes }=>match args.toList,argTypes.toList with
  | [x],[t]=>.ln (aT P t).isSome (Ap P t) x
  | _,_=>.slow
 | _=>.slow
end
def CE(d:D):Option D:=match d with
 | .cond _ _=>none
 | d=>bif bX d then none else some d
noncomputable def mvF(t:Tr)(o:Operand):Option D:=match o with
 | .tmp i=>(match bV t (bE i)with
  | .cond _ _=>none
  | d=>bif lX d then none else some d)
 | o=>CE (aW t o)
def takeN:Nat->List D->Option (List D)
 | 0,_=>some []
 | n+1,x::l=>match takeN n l with
  | some m=>some (x::m)
  | none=>none
 | _+1,[]=>none
theorem JC : ∀{n:Nat}{l m:List D},takeN n l=some m->m=l.take n/\n<=l.length
 | 0,l,m,h=>by
  simp only[takeN,XU]at h;subst h;exact⟨by simp,Yk _⟩
 | n+1,x::l,m,h=>by
  simp only[takeN]at h
  split at h
  .
   rename_i m' hm
   simp only[XU]at h;subst h;obtain⟨h1,h2⟩:=JC hm;exact⟨by simp[h1],by simp;omega⟩
  cases h
 | n+1,[],m,h=>by cases h
def ldC(n:Nat)(agg:Bool)(cs:List D):Option D:=match agg with
 | true=>match takeN n cs with
  | some m=>some (.agg m)
  | none=>none
 | false=>match cs with
  | c::_=>bif bX c then none else some c
  | []=>none
def rowAt(rows:List (List D))(i:Nat):Option (List D):=match rows,i with
 | row::_,0=>some row
 | _::rows,i+1=>rowAt rows i
 | [],_=>none
theorem Fq : ∀{rows:List (List D)}{i:Nat}{row:List D},rowAt rows i=some row->rows[i]? = some row
 | r::_,0,_,h=>by simpa[rowAt]using h
 | _::rows,i+1,_,h=>by
  simp only[rowAt]at h
  simpa using Fq h
 | [],0,_,h=>by cases h
 | [],_+1,_,h=>by cases h
def Bb:Nat->List D->List D
 | 0,l=>l
 | n+1,_::l=>Bb n l
 | _+1,[]=>[]
theorem H9 : ∀(n:Nat)(l:List D),Bb n l=l.drop n
 | 0,l=>rfl
 | n+1,x::l=>by simp[Bb,H9 n l]
 | n+1,[]=>rfl
noncomputable def ldF(n:Nat)(agg:Bool)(h:List (Nat×av))(a:D):Option D:=match a with
 | .mptr r i off=>match hfind h r with
  | some ⟨_,rows⟩=>match rowAt rows i with
   | some row=>ldC n agg (Bb off row)
   | none=>none
  | none=>none
 | .eptr cs=>ldC n agg cs
 | _=>none
def faF(off:Nat)(a:D):Option D:=match a with
 | .mptr r i o=>dP (o+off) λo=>some (.mptr r i o)
 | .eptr cs=>xH (Bb off cs) λcs=>some (.eptr cs)
 | _=>none
def wI:List D->Nat->List D->Option (List D)
 | row,0,[]=>some row
 | _::row,0,c::cs=>match wI row 0 cs with
  | some r=>some (c::r)
  | none=>none
 | x::row,k+1,cs=>match wI row k cs with
  | some r=>some (x::r)
  | none=>none
 | [],0,_::_=>none
 | [],_+1,_=>none
theorem FC : ∀{row:List D}{off:Nat}{cs r:List D},wI row off cs=some r->r=splice row off cs/\off+cs.length<=row.length
 | row,0,[],r,h=>by
  have h:row=r:=by simpa[wI]using h
  subst h
  simp[splice]
 | x::row,0,c::cs,r,h=>by
  simp only[wI]at h
  split at h
  .
   rename_i r' hr
   simp only[XU]at h;subst h;obtain⟨h1,h2⟩:=FC hr;subst h1;refine⟨by simp[splice],by simp;omega⟩
  cases h
 | x::row,k+1,cs,r,h=>by
  simp only[wI]at h
  split at h
  .
   rename_i r' hr
   simp only[XU]at h;subst h;obtain⟨h1,h2⟩:=FC hr;subst h1;refine⟨?_,by simp;omega⟩
   have:k+1+cs.length=(k+cs.length)+1:=by omega
   simp[splice,this]
  cases h
 | [],0,_::_,r,h=>by cases h
 | [],_+1,_,r,h=>by cases h
def zL:List (List D)->Nat->Nat->List D->Option (List (List D))
 | row::rows,0,off,cs=>match wI row off cs with
  | some r=>some (r::rows)
  | none=>none
 | row::rows,i+1,off,cs=>match zL rows i off cs with
  | some rs=>some (row::rs)
  | none=>none
 | [],_,_,_=>none
theorem Kb : ∀{rows:List (List D)}{i off:Nat}{cs:List D}{rs:List (List D)},zL rows i off cs=some rs->rs=rows.set i (splice (rows.getD i []) off cs)/\i<rows.length/\off+cs.length<=(rows.getD i []).length
 | row::rows,0,off,cs,rs,h=>by
  simp only[zL]at h
  split at h
  .
   rename_i r hr
   simp only[XU]at h;subst h;obtain⟨h1,h2⟩:=FC hr;subst h1;exact⟨by simp,by simp,by simpa using h2⟩
  cases h
 | row::rows,i+1,off,cs,rs,h=>by
  simp only[zL]at h
  split at h
  .
   rename_i r hr
   simp only[XU]at h;subst h;obtain⟨h1,h2,h3⟩:=Kb hr;subst h1;exact⟨by simp,by simpa using h2,by simpa using h3⟩
  cases h
 | [],_,_,_,_,h=>by cases h
def uZ:Nat->List D->Bool
 | 0,[]=>true
 | n+1,_::l=>uZ n l
 | _,_=>false
theorem Gm : ∀{n:Nat}{l:List D},uZ n l=true->l.length=n
 | 0,[],_=>rfl
 | n+1,_::l,h=>by simp[Gm (by simpa[uZ]using h:uZ n l=true)]
def Ei(d:D)(n:Nat):Option (List D):=match d with
 | .agg cs=>bif uZ n cs&&cs.all D.one then some cs else none
 | d=>bif Nat.beq n 1&&D.one d && !bX d then some [d]else none
theorem Qm{d:D}{n:Nat}{cs:List D}(h:Ei d n=some cs):cs=d.cells/\d.cells.length=n/\d.cells.all D.one=true/\(∀g e,d ≠ .cond g e)/\bX d=false:=by
 unfold Ei at h
 split at h
 .
  cases hq:(uZ n _&&List.all _ D.one)with
  | true =>
   rw[hq]at h;simp only[cond_true,XU]at h;subst h;simp only[XT]at hq;exact⟨rfl,Gm hq.1,hq.2,λg e=>by simp,rfl⟩
  | false=>rw[hq]at h;cases h
 rename_i hne
 cases hq:(Nat.beq n 1&&D.one d && !bX d)with
 | true =>
  rw[hq]at h;simp only[cond_true,XU]at h;subst h;simp only[XT,Nat.beq_eq,X7]at hq;have hc:d.cells=[d]:=by
   cases d<;>first|rfl|exact absurd rfl (hne _)
  rw[hc];exact⟨rfl,by rw[hq.1.1];rfl,by simp[hq.1.2],λg e q=>by rw[q]at hq;simp[D.one]at hq,hq.2⟩
 | false=>rw[hq]at h;cases h
noncomputable def stF(n:Nat)(h:List (Nat×av))(a x:D):Option (List (Nat×av)):=match a with
 | .mptr r i off=>match hfind h r with
  | some ⟨ty,rows⟩=>match Ei x n with
   | some cs=>match zL rows i off cs with
    | some rs=>some ((r,⟨ty,rs⟩)::h)
    | none=>none
   | none=>none
  | none=>none
 | _=>none
noncomputable def ixF(n:Nat)(e:TypeId)(h:List (Nat×av))(a i:D):Option D:=match a,i with
 | .list _ rows,.v (.int _ (.ofNat k))=>match rowAt rows k with
  | some row=>bif uZ n row then some (.eptr row)else none
  | none=>none
 | .mrow r off len,.v (.int _ (.ofNat k))=>bif Nat.blt k len then(match hfind h r with
  | some ⟨ty,_⟩=>bif Nat.beq ty e then dP (off+k) λj=>some (.mptr r j 0)else none
  | none=>none)else none
 | _,_=>none
def yH(a b:Int):Bool:=match a,b with
 | .ofNat a,.ofNat b=>Nat.blt a b
 | a,b=>decide (a<b)
theorem Xb(a b:Int):yH a b=decide (a<b):=by
 unfold yH
 split
 .
  rename_i a b
  rw[YN,Nat.blt_eq,XV];exact Int.ofNat_lt.symm
 rfl
def eqI(a b:Int):Bool:=match a,b with
 | .ofNat a,.ofNat b=>Nat.beq a b
 | a,b=>a==b
theorem Za8(a b:Int):eqI a b=(a==b):=by
 unfold eqI
 split
 .
  rename_i a b
  rw[YN,Nat.beq_eq,Yy];exact⟨λh=>by rw[h],λh=>Int.ofNat.inj h⟩
 rfl
def biI(op:BinOp)(k k':IntKind)(a b:Int):Option D:=if k=k' then(match op with
 | .lss=>jr (yH a b) λt=>some (.b t)
 | .geq=>jr (!yH a b) λt=>some (.b t)
 | .gtr=>jr (yH b a) λt=>some (.b t)
 | .leq=>jr (!yH b a) λt=>some (.b t)
 | .eql=>jr (eqI a b) λt=>some (.b t)
 | .neq=>jr (!eqI a b) λt=>some (.b t)
 | .add=>if k.signed=true/\jh k (a+b)then AX (a+b) λn=>some (.v (.int k n))else none
 | .sub=>if k.signed=true/\jh k (a-b)then AX (a-b) λn=>some (.v (.int k n))else none
 | _=>none)else none
def biF(op:BinOp)(x y:D):Option D:=match x,y with
 | .v (.int k a),.v (.int k' b)=>biI op k k' a b
 | .v (.string ⟨⟨a⟩⟩),.v (.string ⟨⟨b⟩⟩)=>(match op with
  | .eql=>jr (a==b) λt=>some (.b t)
  | .neq=>jr (a != b) λt=>some (.b t)
  | _=>none)
 | _,_=>none
def lnF(sl str:Bool)(x:D):Option D:=match x with
 | .list _ rows=>bif sl then dP rows.length λn=>some (.i n)else none
 | .mrow _ _ len=>bif sl then some (.i len)else none
 | .v (.string ⟨⟨s⟩⟩)=>bif str then dP s.length λn=>some (.i n)else none
 | _=>none
def exF(i:Nat)(x:D):Option D:=match x with
 | .tuple ds=>if i<ds.length then CE (ds.getD i .junk)else none
 | _=>none
def ntF(x:D):Option D:=match x with
 | .v (.bool b)=>jr (!b) λb=>some (.b b)
 | _=>none
noncomputable def pkF(x:Tr)(c a b:Operand):Option D:=match aW x c with
 | .v (.bool true)=>(match aW x a with
  | .v (.bool t)=>jr t λt=>some (.b t)
  | _=>none)
 | .v (.bool false)=>(match aW x b with
  | .v (.bool t)=>jr t λt=>some (.b t)
  | _=>none)
 | _=>none
noncomputable def FI.run(x:Tr)(h:List (Nat×av))(b:Nat):FI->Option (D×List (Nat×av))
 | .mv a=>(mvF x a).map λd=>(d,h)
 | .ld n agg a=>(ldF n agg h (aW x a)).map λd=>(d,h)
 | .fa off a=>(faF off (aW x a)).map λd=>(d,h)
 | .st n a v=>(stF n h (aW x a) (aW x v)).map λh=>(.v undef,h)
 | .ix n e a i=>(ixF n e h (aW x a) (aW x i)).map λd=>(d,h)
 | .al e row=>some (dP b λb=>(.mptr b 0 0,(b,⟨e,[row]⟩)::h))
 | .bx e n v=>(Ei (aW x v) n).map λcs=>dP b λb=>(.mptr b 0 0,(b,⟨e,[cs]⟩)::h)
 | .bi op a c=>(biF op (aW x a) (aW x c)).map λd=>(d,h)
 | .ln sl str a=>(lnF sl str (aW x a)).map λd=>(d,h)
 | .ex i a=>(exF i (aW x a)).map λd=>(d,h)
 | .nt a=>(ntF (aW x a)).map λd=>(d,h)
 | .pk c a b=>(pkF x c a b).map λd=>(d,h)
 | .slow=>none
def NC(d:D):Prop:=(sg d=true/\sd d=d)/\bX d=false
def nc0{d:D}(h : ∀g e,d ≠ .cond g e):sg d=true/\sd d=d:=by
 cases d<;>first|exact⟨rfl,rfl⟩|exact absurd rfl (h _ _)
def gQ{d:D}(h : ∀g e,d ≠ .cond g e)(k:bX d=false:=by rfl):NC d:=⟨nc0 h,k⟩
theorem LW{d e:D}(h:CE d=some e):e=d/\NC d:=by
 unfold CE at h
 split at h
 . cases h
 rename_i hne
 cases ht:bX d with
 | true=>rw[ht]at h;cases h
 | false =>
  rw[ht,cond_false,XU]at h;exact⟨h.symm,gQ (λg e q=>hne g e q) ht⟩
section
variable [aa P] {W : aU} {C : aH}
def DN{op:Op}{xs:List D}{h:H}{b:Nat}(hp:bZ op=false)(hx : ∀d∈xs,sg d=true/\sd d=d){r:D×H×Prop}(hr:aD P W C op xs h b=r) :
  (ak P W C true op xs h b).1=r.1/\(ak P W C true op xs h b).2.1=r.2.1/\(r.2.2->(ak P W C true op xs h b).2.2):=by
 have e:xs.map sd=xs:=by
  conv=>rhs;rw[<-List.map_id xs]
  exact YG λd hd=>(hx d hd).2
 unfold ak
 rw[hp,e,hr]
 exact⟨rfl,rfl,λk=>⟨λ_=>Yf.2 λd hd=>(hx d hd).1,k⟩⟩
theorem MG{t:TypeId}{cs:List D}{d:D}(h:ldC (P.cellsOf t) (bP P t) cs=some d)(hn:bP P t=true\/P.cellsOf t=1):(nQ P t cs=d/\bX d=false)/\P.cellsOf t<=cs.length:=by
 unfold ldC at h
 unfold nQ
 split at h
 .
  rename_i e
  rw[X0 e]
  split at h
  .
   rename_i m hm
   simp only[XU]at h;subst h;obtain⟨h1,h2⟩:=JC hm;exact⟨⟨by rw[h1],rfl⟩,h2⟩
  cases h
 rename_i e
 rw[XW (by simp[e])]
 have hn:P.cellsOf t=1:=hn.resolve_left (by simp[e])
 split at h
 .
  rename_i c cs'
  cases ht:bX c with
  | true=>rw[ht]at h;cases h
  | false =>
   rw[ht,cond_false,XU]at h;subst h;exact⟨⟨rfl,ht⟩,by rw[hn];simp⟩
 cases h
def Xu{t:TypeId}{h:List (Nat×av)}{a d:D}(k:ldF (P.cellsOf t) (bP P t) h a=some d)(hn:bP P t=true\/P.cellsOf t=1):NC a/\(nQ P t (eP P a (htab h))=d/\bX d=false)/\P.cellsOf t<=(eP P a (htab h)).length:=by
 unfold ldF at k
 split at k
 .
  rename_i r i off
  split at k
  .
   rename_i ty rows hb
   split at k
   .
    rename_i row hr
    have hr:=Fq hr;rw[H9]at k;rw[Dh]at hb;have:eP P (.mptr r i off) (htab h)=row.drop off:=by
     simp only[eP,dL,hb,List.getD,hr,YA]
    rw[this];exact⟨gQ (λ_ _ q=>by cases q),MG k hn⟩
   cases k
  cases k
 . exact⟨gQ (λ_ _ q=>by cases q),MG k hn⟩
 cases k
def Za0{off:Nat}{a d:D}(k:faF off a=some d):NC a/\(qy off a=d/\bX d=false)/\pR a=true:=by
 unfold faF at k
 split at k
 . rw[jq,XU]at k;subst k;exact⟨gQ (λ_ _ q=>by cases q),⟨rfl,rfl⟩,rfl⟩
 . rw[yU,XU,H9]at k;subst k;exact⟨gQ (λ_ _ q=>by cases q),⟨rfl,rfl⟩,rfl⟩
 cases k
def Sj{t:TypeId}{h hh:List (Nat×av)}{a x:D}(k:stF (P.cellsOf t) h a x=some hh)(hp:0<P.cellsOf t):NC a/\NC x/\(eF P t a x (htab h)).1=htab hh/\(eF P t a x (htab h)).2:=by
 unfold stF at k
 split at k
 .
  rename_i r i off
  split at k
  .
   rename_i ty rows hb
   split at k
   .
    rename_i cs hc
    split at k
    .
     rename_i rs hs
     simp only[XU]at k;subst k;rw[Dh]at hb;obtain⟨c1,c2,c3,c4,c5⟩:=Qm hc;obtain⟨s1,s2,s3⟩:=Kb hs;subst c1;subst s1;refine⟨gQ (λ_ _ q=>by cases q),gQ c4 c5,?_,?_⟩
     . simp only[eF,hb,htab]
     simp only[eF,hb];exact⟨c2,hp,s2,s3,c3⟩
    cases k
   cases k
  cases k
 cases k
theorem XQ{t e:TypeId}(he:aT P t=some e)(hp:0<P.cellsOf e){h:List (Nat×av)}{a i d:D}(k:ixF (P.cellsOf e) e h a i=some d):NC a/\NC i/\((dM P t a i (htab h)).1=d/\bX d=false)/\(dM P t a i (htab h)).2:=by
 unfold ixF at k
 split at k
 .
  rename_i f rows kk n
  split at k
  .
   rename_i row hr
   have hr:=Fq hr
   cases hq:uZ (P.cellsOf e) row with
   | false=>rw[hq]at k;cases k
   | true =>
    rw[hq]at k;simp only[cond_true,XU]at k;subst k;have hg:rows.getD n []=row:=by simp[List.getD,hr]
    refine⟨gQ (λ_ _ q=>by cases q),gQ (λ_ _ q=>by cases q),?_,?_⟩
    . exact⟨by simp only[dM,he,Int.toNat_natCast,Int.ofNat_eq_natCast,hg],rfl⟩
    simp only[dM,he,Int.toNat_natCast,Int.ofNat_eq_natCast,hg];have:=(XY.1 hr).1;exact⟨om,om,hp,Gm hq⟩
  cases k
 .
  rename_i r off len kk n
  cases hq:Nat.blt n len with
  | false=>rw[hq]at k;cases k
  | true =>
   rw[hq]at k;simp only[cond_true]at k
   split at k
   .
    rename_i ty rows hb
    cases hq2:Nat.beq ty e with
    | false=>rw[hq2]at k;cases k
    | true =>
     rw[hq2]at k;simp only[cond_true,jq,XU]at k;subst k;rw[Dh]at hb;refine⟨gQ (λ_ _ q=>by cases q),gQ (λ_ _ q=>by cases q),?_,?_⟩
     . exact⟨by simp only[dM,he,Int.toNat_natCast,Int.ofNat_eq_natCast],rfl⟩
     simp only[dM,he,Int.ofNat_eq_natCast,hb];have:n<len:=by simpa using hq
     exact⟨om,om,hp,Nat.eq_of_beq_eq_true hq2⟩
   cases k
 cases k
theorem Zdd{t:TypeId}{op:BinOp}{x y d:D}(k:biF op x y=some d):NC x/\NC y/\((kD P t op x y).1=d/\bX d=false)/\(kD P t op x y).2:=by
 unfold biF at k
 split at k
 .
  rename_i kk a kk' b
  refine⟨gQ (λ_ _ q=>by cases q),gQ (λ_ _ q=>by cases q),?_⟩
  unfold biI at k
  split at k
  .
   rename_i e
   subst e
   split at k<;>first
    | (cases k;done)
    | (
      simp only[qa,XU,Xb,Za8]at k;subst k
      first
       | exact⟨⟨rfl,rfl⟩,rfl⟩
       | (
        refine⟨⟨?_,rfl⟩,rfl⟩;simp only[kD,cO,D.b]
        congr 2
        rw[YN]
        simp))
    | (
      split at k
      .
       rename_i hs
       rw[Oa,XU]at k;subst k;exact⟨⟨by simp[kD,cO,hs.1],rfl⟩,by simp[kD,cO,hs.1,hs.2]⟩
      cases k)
  cases k
 .
  rename_i a b
  refine⟨gQ (λ_ _ q=>by cases q),gQ (λ_ _ q=>by cases q),?_⟩
  split at k<;>first
   | (cases k;done)
   | (
     rw[qa,XU]at k;subst k;exact⟨⟨rfl,rfl⟩,trivial⟩)
 cases k
theorem Zac{t:TypeId}(h:Ap P t=true):P.underlying t=some .string:=by
 unfold Ap at h
 split at h
 . assumption
 cases h
theorem Xj{t:TypeId}{x d:D}(k:lnF (aT P t).isSome (Ap P t) x=some d):NC x/\((.v (.int .i64 (aV x)):D)=d/\bX d=false)/\qL P t x=true:=by
 unfold lnF at k
 split at k
 .
  cases hq:(aT P t).isSome with
  | false=>rw[hq]at k;cases k
  | true =>
   rw[hq]at k;simp only[cond_true,jq,XU]at k;subst k;exact⟨gQ (λ_ _ q=>by cases q),⟨rfl,rfl⟩,hq⟩
 .
  cases hq:(aT P t).isSome with
  | false=>rw[hq]at k;cases k
  | true =>
   rw[hq]at k;simp only[cond_true,XU]at k;subst k;exact⟨gQ (λ_ _ q=>by cases q),⟨rfl,rfl⟩,hq⟩
 .
  cases hq:Ap P t with
  | false=>rw[hq]at k;cases k
  | true =>
   rw[hq]at k;simp only[cond_true,jq,XU]at k;subst k;exact⟨gQ (λ_ _ q=>by cases q),⟨rfl,rfl⟩,by simp only[qL,Zac hq]⟩
 cases k
def VU{l:Nat×Nat}{E:Option Code->Env}{x:X}{c a b:Operand}{d:D}(k:pkF x.t c a b=some d):((uP true [(x.SL l E).ev c,(x.SL l E).ev a,(x.SL l E).ev b]).1=d/\bX d=false)/\(uP true [(x.SL l E).ev c,(x.SL l E).ev a,(x.SL l E).ev b]).2:=by
 unfold pkF at k
 split at k
 .
  rename_i e
  have e':(x.SL l E).ev c=_:=kr (by rw[e];rfl)
  split at k
  .
   rename_i t e1
   have e1':(x.SL l E).ev a=_:=kr (by rw[e1];rfl)
   rw[qa,XU]at k;subst k;rw[e',e1',e,e1];exact⟨⟨rfl,rfl⟩,λ_=>⟨⟨rfl,rfl⟩,λ_=>⟨rfl,rfl⟩,λh=>by cases h⟩⟩
  cases k
 .
  rename_i e
  have e':(x.SL l E).ev c=_:=kr (by rw[e];rfl)
  split at k
  .
   rename_i t e1
   have e1':(x.SL l E).ev b=_:=kr (by rw[e1];rfl)
   rw[qa,XU]at k;subst k;rw[e',e1',e,e1];exact⟨⟨rfl,rfl⟩,λ_=>⟨⟨rfl,rfl⟩,(λh=>by cases h),λ_=>⟨rfl,rfl⟩⟩⟩
  cases k
 cases k
end
section
variable [aa P] {W : aU} {C : aH} {l : Nat × Nat} {E : Option Code -> Env}
theorem FI.sound{op:Op}{x:X}{b:Nat}{d:D}{hh:List (Nat×av)}(k:FI.run x.t x.h b (FI.of P op)=some (d,hh)) :
  (ak P W C true op ((au op).map (x.SL l E).ev) (htab x.h) b).1=cZ l d/\(ak P W C true op ((au op).map (x.SL l E).ev) (htab x.h) b).2.1=htab hh/\(ak P W C true op ((au op).map (x.SL l E).ev) (htab x.h) b).2.2:=by
 have one : ∀{a:Operand},bZ op=false->au op=[a]->NC (aW x.t a) -> ∀{r:D×H×Prop},aD P W C op [aW x.t a] (htab x.h) b=r->(r.1=d/\bX d=false)->r.2.1=htab hh->r.2.2 ->
   (ak P W C true op ((au op).map (x.SL l E).ev) (htab x.h) b).1=cZ l d/\(ak P W C true op ((au op).map (x.SL l E).ev) (htab x.h) b).2.1=htab hh/\(ak P W C true op ((au op).map (x.SL l E).ev) (htab x.h) b).2.2:=by
  intro a hp ha hn r hr h1 h2 h3;rw[ha,uK h1.2];obtain⟨q1,q2,q3⟩:=DN (P:=P) (W:=W) (C:=C) (h:=htab x.h) (b:=b) hp (xs:=[a].map (x.SL l E).ev) (by simpa[kr hn.2]using hn.1) (by simpa[kr hn.2]using hr)
  exact⟨q1.trans h1.1,q2.trans h2,q3 h3⟩
 have two : ∀{a c:Operand},bZ op=false->au op=[a,c]->NC (aW x.t a)->NC (aW x.t c) -> ∀{r:D×H×Prop},aD P W C op [aW x.t a,aW x.t c] (htab x.h) b=r->(r.1=d/\bX d=false)->r.2.1=htab hh->r.2.2 ->
   (ak P W C true op ((au op).map (x.SL l E).ev) (htab x.h) b).1=cZ l d/\(ak P W C true op ((au op).map (x.SL l E).ev) (htab x.h) b).2.1=htab hh/\(ak P W C true op ((au op).map (x.SL l E).ev) (htab x.h) b).2.2:=by
  intro a c hp ha hn hm r hr h1 h2 h3;rw[ha,uK h1.2];obtain⟨q1,q2,q3⟩:=DN (P:=P) (W:=W) (C:=C) (h:=htab x.h) (b:=b) hp (xs:=[a,c].map (x.SL l E).ev) (by simpa[kr hn.2,kr hm.2]using⟨hn.1,hm.1⟩) (by simpa[kr hn.2,kr hm.2]using hr)
  exact⟨q1.trans h1.1,q2.trans h2,q3 h3⟩
 have mv : ∀{a:Operand},bZ op=false->au op=[a]->(∀y,aD P W C op [y] (htab x.h) b=(y,htab x.h,True))->((mvF x.t a).map λd=>(d,x.h))=some (d,hh) ->
   (ak P W C true op ((au op).map (x.SL l E).ev) (htab x.h) b).1=cZ l d/\(ak P W C true op ((au op).map (x.SL l E).ev) (htab x.h) b).2.1=htab hh/\(ak P W C true op ((au op).map (x.SL l E).ev) (htab x.h) b).2.2:=by
  intro a hp ha hy k;simp only[Option.map_eq_some_iff,Yo]at k;obtain⟨e,k1,rfl,rfl⟩:=k;unfold mvF at k1
  split at k1
  .
   rename_i i
   split at k1
   . cases k1
   rename_i hne
   cases ht2:lX (bV x.t (bE i))with
   | true=>rw[ht2]at k1;cases k1
   | false =>
   rw[ht2,cond_false,XU]at k1;have hv:(x.SL l E).ev (.tmp i)=cZ l e:=by rw[<-k1];rfl
   have hn0:sg e=true/\sd e=e:=by rw[<-k1];exact nc0 λg d q=>hne g d q
   have hn:sg (cZ l e)=true/\sd (cZ l e)=cZ l e:=by
    unfold cZ
    cases sO e with
    | true=>exact⟨rfl,rfl⟩
    | false=>cases lX e with
     | true=>exact⟨rfl,rfl⟩
     | false=>exact hn0
   rw[ha];obtain⟨q1,q2,q3⟩:=DN (P:=P) (W:=W) (C:=C) (h:=htab x.h) (b:=b) hp (xs:=[Operand.tmp i].map (x.SL l E).ev) (by simpa[hv]using hn) (by simpa[hv]using hy (cZ l e))
   exact⟨q1,q2,q3 trivial⟩
  obtain⟨rfl,hn⟩:=LW k1;exact one hp ha hn (hy _) ⟨rfl,hn.2⟩ rfl trivial
 unfold FI.of at k
 split at k
 . exact mv rfl rfl (λ_=>rfl) k
 . exact mv rfl rfl (λ_=>rfl) k
 .
  rename_i t a
  split at k
  .
   rename_i hc
   simp only[FI.run,Option.map_eq_some_iff,Yo]at k;obtain⟨e,k1,rfl,rfl⟩:=k;obtain⟨q1,q2,q3⟩:=Xu k1 hc.2.2;exact one rfl rfl q1 rfl q2 rfl ⟨q3,hc.1,hc.2.1⟩
  cases k
 .
  rename_i s a f
  split at k
  .
   rename_i off t hf
   split at k
   .
    rename_i hc
    simp only[FI.run,Option.map_eq_some_iff,Yo]at k;obtain⟨e,k1,rfl,rfl⟩:=k;obtain⟨q1,q2,q3⟩:=Za0 k1;refine one rfl rfl q1 (r:=(qy off (aW x.t a),htab x.h,pR (aW x.t a)=true/\P.cellsOf t≠0)) ?_ q2 rfl ⟨q3,hc⟩;simp only[aD,still,qY,hf]
   cases k
  cases k
 .
  rename_i t a v
  split at k
  .
   rename_i hc
   simp only[FI.run,Option.map_eq_some_iff,Yo]at k;obtain⟨e,k1,rfl,rfl⟩:=k;obtain⟨q1,q2,q3,q4⟩:=Sj k1 hc;exact two rfl rfl q1 q2 rfl ⟨rfl,rfl⟩ q3 q4
  cases k
 .
  rename_i t a i
  split at k
  .
   rename_i e he
   split at k
   .
    rename_i hc
    simp only[FI.run,Option.map_eq_some_iff,Yo]at k;obtain⟨e',k1,rfl,rfl⟩:=k;obtain⟨q1,q2,q3,q4⟩:=XQ he hc k1;exact two rfl rfl q1 q2 rfl q3 rfl q4
   cases k
  cases k
 .
  rename_i e
  split at k
  .
   rename_i hc
   simp only[FI.run,jq,XU,Yo]at k;obtain⟨rfl,rfl⟩:=k;obtain⟨q1,q2,q3⟩:=DN (P:=P) (W:=W) (C:=C) (h:=htab x.h) (b:=b) (op:=.alloc e) rfl (xs:=[]) (by simp) rfl
   exact⟨q1,q2,q3 hc⟩
  cases k
 .
  rename_i e v
  split at k
  .
   rename_i hc
   simp only[FI.run,Option.map_eq_some_iff,jq,Yo]at k;obtain⟨cs,k1,rfl,rfl⟩:=k;obtain⟨c1,c2,c3,c4,c5⟩:=Qm k1;subst c1;exact one rfl rfl (gQ c4 c5) rfl ⟨rfl,rfl⟩ rfl ⟨c2,c3,hc⟩
  cases k
 .
  rename_i op t a c t'
  simp only[FI.run,Option.map_eq_some_iff,Yo]at k;obtain⟨e,k1,rfl,rfl⟩:=k;obtain⟨q1,q2,q3,q4⟩:=Zdd (P:=P) (t:=t) k1;exact two rfl rfl q1 q2 rfl q3 rfl q4
 .
  rename_i a i
  simp only[FI.run,Option.map_eq_some_iff,Yo]at k;obtain⟨e,k1,rfl,rfl⟩:=k;unfold exF at k1
  split at k1
  .
   rename_i ds hd
   split at k1
   .
    rename_i hl
    obtain⟨rfl,hn⟩:=LW k1;refine one rfl rfl (by rw[hd];exact gQ (λ_ _ q=>by cases q)) (r:=(ds.getD i .junk,htab x.h,i<ds.length)) ?_ ⟨rfl,hn.2⟩ rfl hl
    rw[hd];rfl
   cases k1
  cases k1
 .
  rename_i t a
  simp only[FI.run,Option.map_eq_some_iff,Yo]at k;obtain⟨e,k1,rfl,rfl⟩:=k;unfold ntF at k1
  split at k1
  .
   rename_i y hd
   rw[qa,XU]at k1;subst k1;refine one rfl rfl (by rw[hd];exact gQ (λ_ _ q=>by cases q)) (r:=(.b !y,htab x.h,True)) ?_ ⟨rfl,rfl⟩ rfl trivial
   rw[hd];rfl
  cases k1
 .
  rename_i c a e
  simp only[FI.run,Option.map_eq_some_iff,Yo]at k;obtain⟨e',k1,rfl,rfl⟩:=k;obtain⟨q1,q2⟩:=VU (l:=l) (E:=E) k1;rw[uK q1.2];exact⟨q1.1,rfl,q2⟩
 .
  rename_i args ts
  split at k
  .
   rename_i a t ha ht
   simp only[FI.run,Option.map_eq_some_iff,Yo]at k;obtain⟨e,k1,rfl,rfl⟩:=k;obtain⟨q1,q2,q3⟩:=Xj k1;refine one rfl ha q1 (r:=(.v (.int .i64 (aV (aW x.t a))),htab x.h,qL P t (aW x.t a)=true)) ?_ q2 rfl q3;simp only[aD,ht]
  cases k
 cases k
noncomputable def X.run2(P:Program)[aa P](b i:Nat)(o:Oper)(x:X):Option X:=match x with
 | ⟨n,t,h,nx,j⟩=>match FI.run t h (b+i) (FI.of P o.op)with
  | some (d,h)=>Hq n t nx j o.dst d h
  | none=>none
def X.run2_sound{b i:Nat}{o:Oper}{x x':X}(q:x.run2 P b i o=some x'):Bu P C o (b+i) (x.SL l E) (x'.SL l E)/\x'.n=x.n/\x'.nx=x.nx/\x'.j=x.j:=by
 obtain⟨n,t,h0,nx,j⟩:=x
 unfold X.run2 at q
 simp only at q
 split at q
 .
  rename_i d h hk
  obtain⟨k1,k2,k3⟩:=FI.sound (l:=l) (E:=E) (x:=X.mk n t h0 nx j) (P:=P) (W:=words P) (C:=C) hk;obtain⟨hd,q1,q2⟩:=X.finF_S (l:=l) (E:=E) (x:=X.mk n t h0 nx j) q;refine⟨⟨hd,k3,?_⟩,q2⟩;rw[q1];have k1':(ak P (words P) C true o.op ((au o.op).map ((X.mk n t h0 nx j).SL l E).ev) ((X.mk n t h0 nx j).SL l E).h (b+i)).1=cZ l d:=k1;have k2':(ak P (words P) C true o.op ((au o.op).map ((X.mk n t h0 nx j).SL l E).ev) ((X.mk n t h0 nx j).SL l E).h (b+i)).2.1=htab h:=k2;rw[k1',k2']
 cases q
noncomputable def GV(L:List Oper)(o:Oper)(t:Tr):Option Bool:=match o.guard with
 | none=>some true
 | some (j,want)=>match(L[j]?).bind (·.dst)with
  | none=>none
  | some i=>match bV t (bE i)with
   | .v (.bool b)=>jr (b==want) λt=>some t
   | .cond g (.v (.bool b))=>jr (g&&(b==want)) λt=>some t
   | _=>none
def NN{L:List Oper}{o:Oper}{x:X}{t:Bool}(h:GV L o x.t=some t):qR L o (x.SL l E)=some t:=by
 unfold GV at h
 unfold qR
 split at h
 . exact h
 rename_i j want e
 split at h
 . cases h
 rename_i i hi
 have hg:qV L (x.SL l E) j=cZ l (bV x.t (bE i)):=by rw[qV,hi];rfl
 rw[hg]
 split at h
 .
  rename_i b hb
  rw[qa]at h;rw[hb];exact h
 .
  rename_i g b hb
  rw[qa]at h;rw[hb];exact h
 cases h
end
section
variable [aa P] {Q : Exit -> S -> Prop}
theorem TT{s:S}{ops:Array Oper}{i b:Nat}{o:Oper}{f:Operand}{args:Array Operand}{ts:Array TypeId}{l:Nat}{r:Loop}{t:Nat->D}{xs:List D}(R:Bool->Option Code->H->Nat->Prop)
  (ho:ops[i]? = some o)(hop:o.op = .call { callee:=.value f,args:=args,argTypes:=ts })(hw:qR ops.toList o s=some true)(hse:s.e=Env.loop l (recAt r none) t)(hd:bS s.n o.dst=true)
  (hf:s.ev f = .fn (.yield l) [] [])(hxg:(args.toList.map s.ev).all sg=true)(hx:(args.toList.map s.ev).map sd=xs)(hps:xs.length=r.params.size)(hpn : ∀p∈r.params.toList,p<r.tmps.size)
  (hbody:DW P (some l) r.assign (thenS (λs2=>s2.e=Env.tt/\DW P (some l) r.body (λe s'=>s'.e=Env.tt /\ ∃b j,(match e with | .normal=>b=true/\j=none | .ret=>b=false/\j=some .ret | .exit i=>b=false/\j=some (.exit i)|_=>False)/\R b j s'.h s'.nx) s2) (λ_ _=>False))
   { n:=r.tmps.size,t:=lH t r.params.toList xs,h:=s.h,nx:=b+i })
  (hk : ∀bb j h' n',R bb j h' n'->iX P none ops (i+1) n' { n:=s.n,t:=s.put o.dst (.v (.bool bb)),h:=h',nx:=n'+ops.size,ok:=True,e:=Env.loop l (recAt r j) t } Q):iX P none ops i b s Q:=by
 obtain⟨n,t0,h0,nx,ok0,e0⟩:=s
 simp only at hse
 subst hse
 intro B g0 g1 a1 w0 w1 hs1 hm1 dR
 have hm1:bJ (some l) g0 g1 w0 w1:=hm1
 obtain⟨hl1,hI1,ht1⟩:(Env.loop l (recAt r none) t).p g1 w1:=hs1.en
 rw[zV ho,wpOpsIn_cons]
 unfold wpOpIn
 rw[ho]
 simp only
 rw[X0 (AQ hs1 hw)]
 have hdef : ∀c,o.op ≠ .defer c:=by intro c e;rw[e]at hop;cases hop
 have gq:o.semAt (Fw none).round a1.eval=execOp a1.eval o:=Oper.semAt_eq _ _ _ hdef
 refine⟨λ_ _=>trivial,?_⟩
 rw[gq]
 have hfr:=cu hs1 f
 rw[hf]at hfr
 have jJ:=uA (tN hs1 args.toList) hxg
 rw[hx]at jJ
 generalize hv:a1.eval f=vf at hfr
 cases hfr with|fn _ _ _ fs cs l1 l2 r1 r2 =>
 have hfs:fs = #[]:=by apply Y7;simpa using l1.symm
 have hcs:cs = #[]:=by apply Y7;simpa using l2.symm
 subst hfs;subst hcs
 have hsz:(args.map a1.eval).size=(recAt r none).params.size:=by
  have h1:=jJ.1
  show(args.map a1.eval).size=r.params.size
  rw[<-hps,h1];simp
 have hrun:(execOp a1.eval o).run P w1 = .ok (.round l r.fn ((r.params.zip (args.map a1.eval)).foldl (λtmps(t,a)=>tmps.setIfInBounds t a) r.tmps) r.assign r.body) w1:=by
  have:=run_yield (P:=P) (w:=w1) (l:=l) (r:=recAt r none) (args:=args.map a1.eval) hl1 hsz;have e1:(execOp a1.eval o).run P w1=(Instr.yield l (args.map a1.eval)).run P w1:=by simp[execOp,hop,resolve,Deferred.ofValue,hv,invoke]
  rw[e1];exact this
 rw[hrun,Oper.uponIn_round]
 refine⟨λh=>by simp[Fw,Fence.wide]at h,?_⟩
 obtain⟨hz1,hz2⟩:=Fb r.params.toList xs _ t r.tmps jJ hpn ht1
 have GA:(r.params.zip (args.map a1.eval)).foldl (λtmps(t,a)=>tmps.setIfInBounds t a) r.tmps=(r.params.toList.zip (args.toList.map a1.eval)).foldl (λtmps(p:Nat×Value)=>tmps.setIfInBounds p.1 p.2) r.tmps:=by
  rw[<-Array.foldl_toList];simp
 rw[GA]
 generalize (r.params.toList.zip (args.toList.map a1.eval)).foldl (λtmps(p:Nat×Value)=>tmps.setIfInBounds p.1 p.2) r.tmps=tm at hz1 hz2
 have hsb:St P (bH.of 0) { n:=r.tmps.size,t:=lH t r.params.toList xs,h:=h0,nx:=b+i } g1 { tmps:=tm,defers:=[] } w1:=⟨hz1,hz2,hs1.mem,gY.start,trivial,Yk _⟩
 refine roundIn_of_wpIn trivial (wpIn_mono (hbody (bH.of 0) g1 _ w1 hsb (λr hr=>by have:=dR r hr;show r<b+i;omega)) ?_)
 rintro e a2 w2 ⟨s2,g2,hq,hs2,hm2,tu,hx2⟩
 cases e with
 | normal =>
  have xA:ay g1 g2 w1 w2:=hm2.out;have hl2:=wW hs1.mem xA hl1 (λc e f=>by simp)
  have hI2 : ¬g2.I l:=λhI=>by
   rcases xA.inew l hI with e|e|⟨r,c,s,e⟩
   . exact hI1 e
   . have:=(X9.1 hl1).1;omega
   exact pJ hs1.mem hl1 (λc e f=>by simp) (λc e=>by simp) r c s e
  refine⟨_,run_beginRound hl2 rfl,?_⟩;have hlt2:l<w2.heap.size:=(X9.1 hl2).1;obtain⟨he2,hbd⟩:=hq;have hb2:St P (bH.of 0) s2 g2 a2 (w2.putObj l (.loop { recAt r none with state:=.busy })):=by
   refine⟨hs2.sz,λi=>(hs2.tm i).mono (λb hb=>⟨hb,World.putObj_heap_other (λe=>hI2 (by rw[<-e];exact hb))⟩) (λ_ h=>h) (λ_ _=>.inl rfl),hs2.mem.putLoop hl2 hI2 _,hs2.df.laterX hs2.mem (yB _) hl2,?_,Yk _⟩
   rw[he2];trivial
  refine wpIn_mono (hbd (bH.of 0) g2 a2 _ hb2 tu) ?_;rintro e a3 w3 ⟨s3,g3,⟨_,bb,j,hcase,hR⟩,hs3,xz,hU3,_⟩;rw[he2]at xz;have xy:=xz.out;have AC:(w2.putObj l (.loop { recAt r none with state:=.busy })).heap[l]? = some (.loop { recAt r none with state:=.busy }):=World.putObj_heap_same hlt2
  have hl3:=wW hb2.mem xy AC (λc e f=>by simp)
  have vw : ¬g3.I l:=λhI=>by
   rcases xy.inew l hI with e|e|⟨r,c,s,e⟩
   . exact hI2 e
   . simp at e;omega
   exact pJ hb2.mem AC (λc e f=>by simp) (λc e=>by simp) r c s e
  have hlt3:l<w3.heap.size:=(X9.1 hl3).1;have fin:bb=j.isNone -> ∃v w',(Instr.endRound l j).run P w3 = .ok v w'/\(λe w''=>match e with
    | Ending.returned v=>wpOpsIn (Fw none) 0 P ops (λe a' w'=>∃s' g',Q e s'/\St P B s' g' a' w'/\bJ (some l) g0 g' w0 w'/\(∀r,g'.U r->r<s'.nx)/\s'.e.x=some l) (List.range' (i+1) (ops.size-(i+1))) (a1.put o.dst v) w''
    | Ending.panicked chain=>∃s' g',Q (.panic chain) s'/\St P B s' g' a1 w''/\bJ (some l) g0 g' w0 w''/\(∀r,g'.U r->r<s'.nx)/\s'.e.x=some l
    | Ending.outgrown=>LetsOut (λe a' w'=>∃s' g',Q e s'/\St P B s' g' a' w'/\bJ (some l) g0 g' w0 w'/\(∀r,g'.U r->r<s'.nx)/\s'.e.x=some l)) (.returned v) w':=by
   rintro rfl;refine⟨_,_,run_endRound j hl3,?_⟩;have mX:bJ (some l) g1 g3 w1 (w3.putObj l (.loop (recAt r j))):=xA.toX.trans ((yB _).trans (xy.toX.trans (yB _)));have kept:=hs1.mem.keptX mX hI1;have hbase:St P B { n:=n,t:=t0,h:=s3.h,nx:=s3.nx+ops.size,ok:=True,e:=Env.loop l (recAt r j) t } g3 a1 (w3.putObj l (.loop (recAt r j))) :=
    ⟨hs1.sz,λi=>(hs1.tm i).mono kept mX.U mX.M,hs3.mem.putLoop hl3 vw _,hs1.df.laterX hs1.mem mX hl1,⟨World.putObj_heap_same hlt3,vw,λi=>(ht1 i).mono kept mX.U mX.M⟩,Yx hs1.bd mX.size⟩
   have hput:=iF hbase (ay.refl _ _) hbase.mem hd (.v (.bool j.isNone)) True;exact hk _ _ _ _ hR B g0 g3 _ w0 _ hput (hm1.trans mX) (λr hr=>by have:=hU3 r hr;omega)
  cases e with
  | normal=>obtain⟨rfl,rfl⟩:=hcase;exact fin rfl
  | ret=>obtain⟨rfl,rfl⟩:=hcase;exact fin rfl
  | exit i=>obtain⟨rfl,rfl⟩:=hcase;exact fin rfl
  | _=>exact hcase.elim
 | _=>exact hq.elim
end
section
variable {C : aH} {B : bH}
theorem Sg [aa P]{ops:Array Oper}{k1 k2 b n:Nat}{ro:Option Nat}{Q:Exit->Act->World->Prop}{w0:World}{g0:Mem}{sq:S}(Dc:IY C ops k1 k2)(hlt1:k1<k2)
  {o1:Oper}{R:D->H->Nat->Prop}
  (ho:ops[k1]? = some o1)(hg:o1.guard=none)(hd:bS sq.n o1.dst=true)
  (hrunA : ∀(s:S)(g:Mem)(a:Act)(w:World),St P B s g a w->s.h=sq.h->s.n=sq.n->s.e=sq.e->(au o1.op).map s.ev=(au o1.op).map sq.ev->(∀r,g.U r->r<b+k2) -> ∀K:Act->World->Prop,
   (∀res h' n',R res h' n' -> ∀v g' w',ag w' g' res v->HM P h' g' w'->ay g g' w w'->(∀r,g'.U r->r<n')->K (a.put o1.dst v) w')->o1.wpIn (Fw ro) n P a w K Q)(hok:sq.ok)
  (hst : ∀res h' n',R res h' n' -> ∀(i:Nat)o,i<k2->i≠k1->((dC ops.toList []).getD k1 0).testBit i=false->ops.toList[i]? = some o ->
   aF P (words P) C ops.toList b i o sq.n sq.ev sq.t h'=((aF P (words P) C ops.toList b i o sq.n sq.ev sq.t sq.h).1,h',(aF P (words P) C ops.toList b i o sq.n sq.ev sq.t sq.h).2.2))
  (hQ : ∀res h' n',R res h' n' -> ∀g' a' w',St P B { n:=sq.n,t:=sq.put o1.dst res,h:=h',nx:=n'+ops.size,ok:=True,e:=sq.e } g' a' w'->ay g0 g' w0 w'->(∀r,g'.U r->r<n'+k2)->wpOpsIn (Fw ro) n P ops Q (List.range' k2 (ops.size-k2)) a' w') :
  ∀(fuel:Nat)(listed:Array Bool)(s:S)(g:Mem)(a:Act)(w:World),listed.size=ops.size->listed.getD k1 false=false->(∀j,k2<=j->listed.getD j false=false)->(dD k1 k2 listed).length+1+(ops.size-k2)<=fuel->Closed ops listed ->
   St P B s g a w->ay g0 g w0 w->(∀r,g.U r->r<b \/ ∃j,listed.getD j false=true/\j<k2/\r=b+j)->(dD k1 k2 listed).foldl (run1 P (words P) C ops.toList b) s=sq ->
   wpAnyIn (Fw ro) n P .any ops Q fuel listed a w:=by
 intro fuel
 have hle:=Dc.le
 induction fuel with
 | zero=>intro listed s g a w hsz hk1 hk2 hfu;omega
 | succ fuel ih =>
  intro listed s g a w hsz hk1 hk2 hfu hX hs hm hU hfin;refine⟨λhr=>?_,λi hi=>?_⟩
  .
   exfalso
   have:=Vd hsz Dc.back hr k1 om;rw[hk1]at this;cases this
  obtain⟨hlt,tC,sW⟩:=(su hsz).1 hi;have hik:i<k2:=by
   by_cases q:i<k2
   . exact q
   exfalso
   have:=zl (L:=ops.toList) (X:=λk=>listed.getD k false=true) hX i ops[i] (by simp[hlt]) sW k1 (Dc.ord i om hlt k1 om)
   rw[hk1]at this;cases this
  by_cases hne:i=k1
  .
   subst hne;have ho':ops.toList[i]? = some o1:=by rw[YH];exact ho
   have hoi:ops[i]=o1:=by
    have:ops[i]? = some ops[i]:=by simp[hlt]
    rw[ho]at this;exact(ZX this).symm
   have Aw : ∀j∈dD i k2 listed,∀x,ops.toList[j]? = some x->((dC ops.toList []).getD i 0).testBit j=false/\fI ops.toList x o1=true:=by
    intro j hj x hxj;obtain⟨j1,j2,j3⟩:=mM.1 hj;have hnb:((dC ops.toList []).getD i 0).testBit j=false:=by
     cases q:((dC ops.toList []).getD i 0).testBit j with
     | false=>rfl
     | true =>
      have:=zl (L:=ops.toList) (X:=λk=>listed.getD k false=true) hX i ops[i] (by simp[hlt]) sW j q
      rw[j3]at this;cases this
    rcases Dc.call j x o1 j1 j2 hxj ho' with h|h
    . rw[hnb]at h;cases h
    exact⟨hnb,h⟩
   have hlk:=Ha (P:=P) (W:=words P) (C:=C) (L:=ops.toList) (b:=b) (y:=o1) (dD i k2 listed) s λj hj x hxj=>(Aw j hj x hxj).2
   rw[hfin]at hlk;have hsqh:sq.h=s.h:=by
    rw[<-hfin];exact Hd _ _ λj hj o ho=>Dc.quiet j o (mM.1 hj).1 (mM.1 hj).2.1 (Aw j hj o ho).1 ho
   have GD:sq.n=s.n/\sq.e=s.e:=by rw[<-hfin];exact G9 _ _
   have dR : ∀r,g.U r->r<b+k2:=λr hr=>by rcases hU r hr with h|⟨j,_,h,rfl⟩<;>omega
   unfold wpOpIn;rw[ho];simp only;have hw:Region.wanted o1 (yielded ops a.tmps)=true:=by simp[Region.wanted,hg]
   rw[X0 hw];refine hrunA s g a w hs hsqh.symm GD.1.symm GD.2.symm hlk.symm dR _ λres h' n' hR v g' w' q1 q2 q3 q4=>?_
   have hs2:=iF hs q3 q2 (show bS s.n o1.dst=true by rw[<-GD.1];exact hd) q1 True
   have htodo:dD i k2 (listed.setIfInBounds i true)=dD i k2 listed:=by
    unfold dD;refine ZY λk _=>?_
    rw[getD_set (by omega) k]
    by_cases e:k=i
    . simp[e]
    have e2:(k==i)=false:=by simpa using e
    rw[e2,ZB]
   have mO:(dD i k2 listed).Pairwise (· < ·):=ZT _ ZM;have l5:=Hg (P:=P) (W:=words P) (C:=C) (L:=ops.toList) (b:=b) (b':=n') (m:=n'+ops.size) (d:=o1.dst) (res:=res) (h':=h') (sq:=sq) (dD i k2 listed) s mO (λj hj o hoj=>by
    obtain⟨j1,j2,j3⟩:=mM.1 hj;obtain⟨k3,k4⟩:=Aw j hj o hoj;refine⟨Dc.quiet j o j1 j2 k3 hoj,λz hz=>?_,λm hm hjm y hy=>Dc.late j m o y hjm (mM.1 hm).1 j2 (mM.1 hm).2.1 hoj hy,hst res h' n' hR j o j1 j2 k3 hoj⟩
    simp only[fI,XT,hz]at k4;refine⟨by simpa using k4.2,λe=>?_⟩
    have:=k4.1;rw[e]at this
    simp at this) hfin hok
   refine JM (B:=B) (g0:=g0) (w0:=w0) (b:=n') Dc.le Dc.back Dc.ord Dc.comm fuel (listed.setIfInBounds i true) { n:=s.n,t:=s.put o1.dst res,h:=h',nx:=n'+ops.size,ok:=True,e:=s.e } g' _ w' (by simp[hsz]) (λ_=>by rw[getD_set (by omega)];simp) (λj hj=>?_) (by rw[htodo];omega) (hX.set hsz hi)
    ⟨hs2.sz,hs2.tm,hs2.mem,hs2.df,hs2.en,hs2.bd⟩ (hm.trans q3) (λr hr=>.inl (q4 r hr)) (by rw[htodo];exact l5) trivial (hQ res h' n' hR)
   rw[getD_set (by omega),hk2 j hj]
   have:(j==i)=false:=by simp;omega
   rw[this];rfl
  refine KJ Dc.le Dc.comm hsz hX hs hU hfin hok hi hik hne λg' a' w' s' q1 q2 q3 q4 q5=>?_
  refine ih _ s' g' a' w' (by simp[hsz]) (by rw[getD_set (by omega),hk1];simp;exact λh=>hne h.symm) (λj hj=>?_) (by omega) (hX.set hsz hi) q1 (hm.trans q2) q3 q4
  rw[getD_set (by omega),hk2 j hj]
  have:(j==i)=false:=by simp;omega
  rw[this];rfl
def ZbT [aa P]{ro:Option Nat}{Q:Exit->S->Prop}{s sq:S}{id:Nat}{ops:Array Oper}(k1 k2:Nat){o1:Oper}(R:D->H->Nat->Prop)
  (xw:P.follows .mixedOrders=true)(hD:Bf C ops.toList k1 k2=true)(ho:ops[k1]? = some o1)(hg:o1.guard=none)
  (hfin:((List.range k2).filter (· != k1)).foldl (run1 P (words P) C ops.toList s.nx) s=sq)(hok:sq.ok)(hd:bS sq.n o1.dst=true)
  (hrunA : ∀(B:bH)(Q':Exit->Act->World->Prop)(s':S)(g:Mem)(a:Act)(w:World),St P B s' g a w->s'.h=sq.h->s'.n=sq.n->s'.e=sq.e->(au o1.op).map s'.ev=(au o1.op).map sq.ev->(∀r,g.U r->r<s.nx+k2) -> ∀K:Act->World->Prop,
   (∀res h' n',R res h' n' -> ∀v g' w',ag w' g' res v->HM P h' g' w'->ay g g' w w'->(∀r,g'.U r->r<n')->K (a.put o1.dst v) w')->o1.wpIn (Fw ro) 0 P a w K Q')
  (hst : ∀res h' n',R res h' n' -> ∀(i:Nat)o,i<k2->i≠k1->((dC ops.toList []).getD k1 0).testBit i=false->ops.toList[i]? = some o ->
   aF P (words P) C ops.toList s.nx i o sq.n sq.ev sq.t h'=((aF P (words P) C ops.toList s.nx i o sq.n sq.ev sq.t sq.h).1,h',(aF P (words P) C ops.toList s.nx i o sq.n sq.ev sq.t sq.h).2.2))
  (hk : ∀res h' n',R res h' n'->iX P ro ops k2 n' { n:=sq.n,t:=sq.put o1.dst res,h:=h',nx:=n'+ops.size,ok:=True,e:=sq.e } Q):DW P ro (.region id ops true) Q s:=by
 intro B g a w hs hU
 refine wpIn_region_any xw ?_
 obtain⟨hs1,hm1⟩:=DU hs
 obtain⟨hlt,Dc⟩:=Zb3 hD
 have hle:=Dc.le
 have hrep : ∀i,(Array.replicate ops.size false).getD i false=false:=by
  intro i
  by_cases h:i<ops.size<;>simp[Array.getD,h]
 have htodo:dD k1 k2 (Array.replicate ops.size false)=(List.range k2).filter (· != k1):=by
  unfold dD;exact ZY λi _=>by rw[hrep];simp
 have hlen:(dD k1 k2 (Array.replicate ops.size false)).length<k2:=by
  rw[htodo];have:=(List.length_filter_lt_length_iff_exists (p:=λx=>x != k1) (l:=List.range k2)).2 ⟨k1,by simpa using hlt,by simp⟩
  simpa using this
 have hse:sq.e=s.e:=by rw[<-hfin];exact(G9 _ _).2
 refine Sg (B:=B) (C:=C) (g0:=g) (w0:=w) (b:=s.nx) (n:=0) Dc hlt ho hg hd (λs' g a w h1 h2 h3 h4 h5 h6=>hrunA B _ s' g a w h1 h2 h3 h4 h5 h6) hok hst (λres h' n' hR g' a' w' q1 q2 q3=>?_) ops.size _ s g a _ (by simp) (hrep k1) (λj _=>hrep j) (by omega) (λi o _ hi=>by rw[hrep]at hi;cases hi) hs1 hm1 (λr hr=>.inl (hU r hr)) (by rw[htodo];exact hfin)
 have:=hk res h' n' hR B g g' a' w w' q1 q2.toX q3
 simp only[hse]at this
 exact this
end
section
variable [aa P]
theorem Zdl{h:H}{g:Mem}{w:World}(hm:HM P h g w){b:Nat}(hb : ¬g.U b){t u e:TypeId}{r off n:Nat}{rows:List (List D)}{y:D}{vx vy:Value}(he:aT P t=some e)(hr:h r=some ⟨e,rows⟩)(hx:ag w g (.mrow r off n) vx)(hy:ag w g y vy)
  (hln:off+n=rows.length)(h0:0<rows.length)(hne:aj y h≠[])(hl:(aj y h).length=aV y)(hs:ek P u h y=true)(hz:cB P e=true)(hrl : ∀q∈aj y h,q.length=P.cellsOf e)
  (hby:(n+(aj y h).length)*P.bytesOf e<=140737488355328)(h63:n+(aj y h).length<=9223372036854775807)(ty:TypeId) :
  ∃v g' w',(Builtin.append_ #[t,u] ty #[vx,vy]).run P w = .ok v w'/\((ag w' g' (.mrow r off (n+(aj y h).length)) v/\HM P (upd h r (some ⟨e,rows++aj y h⟩)) g' w')\/(ag w' g' (.mrow b 0 (n+(aj y h).length)) v/\HM P (upd h b (some ⟨e,rows.drop off++aj y h⟩)) g' w'))/\ay g g' w w' /\ ∀q,g'.U q->g.U q\/q=b:=by
 have ht:=l7 he
 obtain⟨blk,c,h1,h2,h3,h4,h5⟩:=hm.blk r _ hr
 simp only at h1 h2 h3
 obtain⟨i,hi,hsz⟩:=vg h2
 have hbi:i.bytes=P.bytesOf e:=by simp[Program.bytesOf,hi]
 obtain⟨news,r1,r2,r3,r4⟩:=uH hm hy h2 hl hrl hs
 have hx0:=hx
 cases hx with|mrow _ _ _ _ eQ hU hvv =>
 obtain⟨p1,p2⟩:=hvv _ _ _ h1
 have hrx:aj (.mrow r off n) h=rows.drop off:=by
  simp only[aj,hr];exact Yg (by simp;omega)
 have hrl2 : ∀q∈aj (.mrow r off n) h,q.length=P.cellsOf e:=by
  rw[hrx];intro row hrow;have hrow:=List.mem_of_mem_drop hrow;obtain⟨k,hk,rfl⟩:=YZ hrow
  rcases h5 with⟨_,h5⟩|⟨b',cur,_,_,_,_,k9⟩
  . have h3:rows.length<=c:=h3;omega
  exact(k9 k _ (X5 hk)).1
 have grow : ∀a cap,vx = .slice a n cap->cap<n+(aj y h).length -> ∃v g' w',(Builtin.append_ #[t,u] ty #[vx,vy]).run P w = .ok v w'/\((ag w' g' (.mrow r off (n+(aj y h).length)) v/\HM P (upd h r (some ⟨e,rows++aj y h⟩)) g' w')\/(ag w' g' (.mrow b 0 (n+(aj y h).length)) v/\HM P (upd h b (some ⟨e,rows.drop off++aj y h⟩)) g' w'))/\ay g g' w w' /\ ∀q,g'.U q->g.U q\/q=b:=by
  rintro a cap rfl hcap;obtain⟨olds,o1,o2,o3,_⟩:=uH hm hx0 (u:=t) h2 (by rw[hrx];simp[aV];omega) hrl2 (by simp[ek,he,hr])
  rw[hrx]at o1;simp only[aV]at o2 o3;unfold cB at hz
  cases hzz:i.zero with
  | none=>simp[hi,hzz]at hz
  | some z =>
   simp only[hi,hzz,Option.bind_some,Yy]at hz;have hpos:0<(aj y h).length:=Y6.2 hne;have hap:=IQ (P:=P) ht hi hzz (r4 w) ty a n cap (by rw[hl];exact r2 w) hcap (by rw[hsz];exact o3 w.drew rfl) (by rw[hsz,hl];exact r3 w.drew rfl) h63 (by rw[hbi];exact hby)
   have hge:=grownCap_ge w (n+(aj y h).length) cap e;have hdl:(rows.drop off).length=n:=by simp;omega
   obtain⟨g',k1,k2,k3,k4⟩:=Dl (h':=upd h b (some ⟨e,rows.drop off++aj y h⟩)) hm hb (o1.append r1) h2 hz (bu _ _ _) (λr hr=>.inl (aI _ _ _ _ hr)) (grownCap w (n+(aj y h).length) cap e) (by rw[YE,hdl];exact hge) (by omega)
    (grownCap_le_maxLen _ _ _ _ (by simp only[maxLen];exact h63))
   simp only[YE,hdl]at k1 k2 k3;exact⟨_,g',_,hap,.inr ⟨k1,k2⟩,k3,k4⟩
 have hpos:0<(aj y h).length:=Y6.2 hne
 rcases p2 with⟨e0,a,rfl⟩|⟨e0,b0,rfl,rfl⟩
 .
  have h3:rows.length<=c:=h3;have hn0:n=0:=by omega
  exact grow a 0 (by rw[hn0]) (by omega)
 by_cases hroom:n+(aj y h).length<=c-off
 .
  obtain⟨cur,c1,c2,c3⟩:=BA hm (off:=off+n) hr h1 p1.2 r1 om om;obtain⟨g',q1,q2,q3,q4,q5⟩:=c3 _ rfl;have hap:=QD (P:=P) ht hi (r4 w) ty b0 (off*P.cellsOf e) n (c-off) (by rw[hl];exact r2 w) hroom (by rw[hsz,hl];exact r3 w rfl) r1.one c1 (by rw[hsz];rw[Za]at c2;exact c2)
  rw[hsz,<-Za]at hap;have e1:rows.take (off+n)++aj y h++rows.drop (off+n+(aj y h).length)=rows++aj y h:=by
   rw[Yg (by omega),List.drop_of_length_le (by omega),Zg]
  rw[e1]at q3;refine⟨_,g',_,hap,.inl ⟨.mrow r off _ _ ⟨_,_,rfl,hroom,λ_=>⟨_,rfl⟩⟩ q2 λblk c' sz he=>?_,q3⟩,q4,λq hq=>.inl (q5 q hq)⟩
  rw[q1,h1]at he;simp only[XU,Yo]at he;obtain⟨rfl,rfl,rfl⟩:=he;exact⟨om,.inr ⟨e0,b0,rfl,rfl⟩⟩
 exact grow _ (c-off) rfl om
def Zcu{h:H}{g:Mem}{w:World}(hm:HM P h g w){t u e:TypeId}{r off len:Nat}{rows:List (List D)}{y:D}{vx vy:Value}(he:aT P t=some e)(hr:h r=some ⟨e,rows⟩)(hx:ag w g (.mrow r off len) vx)(hy:ag w g y vy)
  (hk:(aj y h).length=len)(h0:0<len)(hln:off+len<=rows.length)(hl:(aj y h).length=aV y)(hs:ek P u h y=true)(hrl : ∀q∈aj y h,q.length=P.cellsOf e)(ty:TypeId) :
  ∃g' w',(Builtin.copy_ #[t,u] ty #[vx,vy]).run P w = .ok (.int .i64 len) w'/\HM P (upd h r (some ⟨e,rows.take off++aj y h++rows.drop (off+len)⟩)) g' w'/\ay g g' w w' /\ ∀q,g'.U q->g.U q:=by
 have ht:=l7 he
 obtain⟨blk,c,h1,h2,h3,h4,h5⟩:=hm.blk r _ hr
 simp only at h1 h2 h3
 obtain⟨cs,r1,l1,f1,_⟩:=uH hm hy h2 hl hrl hs
 cases hx with|mrow _ _ _ _ eQ hU hvv =>
 obtain⟨p1,p2⟩:=hvv _ _ _ h1
 rcases p2 with⟨e0,_⟩|⟨e0,b,rfl,rfl⟩
 . have h3:rows.length<=c:=h3;omega
 obtain⟨cur,c1,c2,c3⟩:=BA hm (off:=off) hr h1 p1.2 r1 (by omega) (by rw[hk];omega)
 obtain⟨g',q1,q2,q3,q4,q5⟩:=c3 _ rfl
 rw[hk]at q3
 have hst:=run_storeCells_at P b (off*P.cellsOf e) e cs 0 cur w c1 (by simpa using c2) r1.one
 simp only[Zy]at hst
 have hll:aV y=len:=by omega
 rw[hll]at l1 f1
 have hmin:Nat.min len len=len:=Nat.min_self _
 refine⟨g',_,?_,q3,q4,q5⟩
 simp[Builtin.copy_,run_underlying ht,l1,lD h2,f1 w rfl,hst,goInt]
end
section
variable (P : Program) [aa P]
def BP(u e:TypeId)(y:D)(h:H):Bool:=decide ((aj y h).length=aV y)&&ek P u h y&&cB P e&&(aj y h).all λq=>decide (q.length=P.cellsOf e)
def Te:D->Bool
 | .list _ _ | .mrow _ _ _=>true
 | _=>false
def HV(t u:TypeId)(x y:D)(h:List (Nat×av))(b:Nat):Option (List (D×List (Nat×av))):=match aT P t with
 | none=>none
 | some e=>if BP P u e y (htab h)=true/\0<P.cellsOf e then
   if(aj y (htab h)).isEmpty=true then(if Te x=true then some [(x,h)]else none)
   else match x with
    | .mrow r off n=>match htab h r with
     | some ⟨ty,rows⟩=>if ty=e/\off+n=rows.length/\0<rows.length/\(n+(aj y (htab h)).length)*P.bytesOf e<=140737488355328/\n+(aj y (htab h)).length<=9223372036854775807 then
       vC (rows++aj y (htab h)) λrs=>vC (rows.drop off++aj y (htab h)) λrs2=>dP (n+(aj y (htab h)).length) λm=>dP b λb =>
        some [(.mrow r off m,(r,⟨e,rs⟩)::h),(.mrow b 0 m,(b,⟨e,rs2⟩)::h)]
      else none
     | none=>none
    | .list true rows=>if(rows.length+(aj y (htab h)).length)*P.bytesOf e<=140737488355328/\rows.length+(aj y (htab h)).length<=9223372036854775807/\(rows.all λr=>decide (r.length=P.cellsOf e))=true then
       vC (rows++aj y (htab h)) λrs=>dP (rows.length+(aj y (htab h)).length) λm=>dP b λb =>
        some [(.mrow b 0 m,(b,⟨e,rs⟩)::h)]
      else none
    | _=>none
  else none
def OB(t u:TypeId)(x y:D)(h:List (Nat×av)):Option (List (D×List (Nat×av))):=match aT P t with
 | none=>none
 | some e=>match x with
  | .mrow r off len=>match htab h r with
   | some ⟨ty,rows⟩=>if BP P u e y (htab h)=true/\ty=e/\(aj y (htab h)).length=len/\0<len/\off+len<=rows.length then
     vC (rows.take off++aj y (htab h)++rows.drop (off+len)) λrs=>some [(.i len,(r,⟨e,rs⟩)::h)]
    else none
   | none=>none
  | _=>none
def OA(t:TypeId)(m:D)(h:List (Nat×av)):Option (List (D×List (Nat×av))):=match j4 P t,nV (htab h) m with
 | some _,some kv=>dP (kv.length / 2) λn=>some [(.i n,h)]
 | _,_=>none
def Oz(t:TypeId)(x:D)(h:List (Nat×av)):Option (List (D×List (Nat×av))):=match aT P t,x with
 | some _,.list _ rows=>(match rows with
  | []=>some [(.b true,h),(.b false,h)]
  | _=>some [(.b false,h)])
 | _,_=>none
def DF(o:Oper)(az:List D)(h:List (Nat×av))(b:Nat):Option (List (D×List (Nat×av))):=match o.op,az with
 | .call { callee:=.builtin .append,args:=⟨[_,_]⟩,argTypes:=⟨[t,u]⟩ },[x,y]=>HV P t u x y h b
 | .call { callee:=.builtin .copy,args:=⟨[_,_]⟩,argTypes:=⟨[t,u]⟩ },[x,y]=>OB P t u x y h
 | .call { callee:=.builtin .len,args:=⟨[_]⟩,argTypes:=⟨[t]⟩ },[m]=>OA P t m h
 | .binOp .eql t _ (.const (.slice none 0 0)) _,[x,_]=>Oz P t x h
 | _,_=>none
end
section
variable [aa P]
def JO{u e:TypeId}{y:D}{h:H}(k:BP P u e y h=true):(aj y h).length=aV y/\ek P u h y=true/\cB P e=true /\ ∀q∈aj y h,q.length=P.cellsOf e:=by
 simp only[BP,XT,XV,Yf]at k
 exact⟨k.1.1.1,k.1.1.2,k.1.2,λq hq=>k.2 q hq⟩
theorem Za5{t u:TypeId}{x y:D}{h:List (Nat×av)}{b:Nat}{outs:List (D×List (Nat×av))}(k:HV P t u x y h b=some outs){g:Mem}{w:World}(hm:HM P (htab h) g w)(hb : ¬g.U b){vx vy:Value}(hx:ag w g x vx)(hy:ag w g y vy)(ty:TypeId) :
  ∃r∈outs,∃v g' w',(Builtin.append_ #[t,u] ty #[vx,vy]).run P w = .ok v w'/\ag w' g' r.1 v/\HM P (htab r.2) g' w'/\ay g g' w w' /\ ∀q,g'.U q->g.U q\/q=b:=by
 unfold HV at k
 split at k
 . cases k
 rename_i e he
 have ht:=l7 he
 split at k
 .
  rename_i hc
  obtain⟨hs,hp⟩:=hc;obtain⟨s1,s2,s3,s4⟩:=JO hs
  split at k
  .
   rename_i hn
   have hn:aj y (htab h)=[]:=List.isEmpty_iff.1 hn
   split at k
   .
    rename_i hll
    simp only[XU]at k;subst k;obtain⟨i,hi,hsz⟩:=vg hp;obtain⟨news,r1,r2,r3,r4⟩:=uH hm hy hp s1 s4 s2;rw[hn]at r1;have h0:aV y=0:=by rw[<-s1,hn];rfl
    have hv : ∃a n c,vx = .slice a n c/\n<=c:=by
     cases hx with
     | empty full a cap hf hmx=>exact⟨a,0,cap,rfl,Yk _⟩
     | list full rows ad cap size cv hI hl hf hmx hs' hc' hr'=>exact⟨some ad,rows.length,cap,rfl,hl⟩
     | mrow r off len x eQ hU hv =>
      obtain⟨a,c,q1,q2,_⟩:=eQ;exact⟨a,len,c,q1,q2⟩
     | _=>cases hll
    obtain⟨a,n,c,rfl,hle⟩:=hv;have hc0:news=[]:=Ye (by simpa using r1.1)
    subst hc0;rw[h0]at r2 r3;refine⟨_,.head _,_,g,w,IP ht hi (r4 w) ty a n c hle (r2 w) (by rw[hsz];exact r3 w rfl),hx,hm,ay.refl _ _,λq hq=>.inl hq⟩
   cases k
  rename_i hn
  have hn:aj y (htab h)≠[]:=λq=>hn (by rw[q];rfl)
  split at k
  .
   rename_i r off n
   split at k
   .
    rename_i ty' rows hr
    split at k
    .
     rename_i hq
     obtain⟨rfl,q1,q2,q3,q4⟩:=hq;simp only[AV,jq,XU]at k;subst k;obtain⟨v,g',w',p1,p2,p3,p4⟩:=Zdl (u:=u) hm hb he hr hx hy q1 q2 hn s1 s2 s3 s4 q3 q4 ty
     rcases p2 with⟨p5,p6⟩|⟨p5,p6⟩
     . exact⟨_,.head _,v,g',w',p1,p5,p6,p3,p4⟩
     exact⟨_,.tail _ (.head _),v,g',w',p1,p5,p6,p3,p4⟩
    cases k
   cases k
  .
   rename_i rows
   split at k
   .
    rename_i hq
    obtain⟨q3,q4,q5⟩:=hq;simp only[AV,jq,XU]at k;subst k;have hA1:(dw P t u (.list true rows) y (htab h) b).1 = .mrow b 0 (rows.length+(aj y (htab h)).length):=by
     unfold dw;rw[he]
    have hA2:(dw P t u (.list true rows) y (htab h) b).2.1=upd (htab h) b (some ⟨e,rows++aj y (htab h)⟩):=by
     unfold dw;rw[he]
    have hc:(dw P t u (.list true rows) y (htab h) b).2.2:=by
     unfold dw;rw[he];exact⟨⟨hp,q3,q4⟩,⟨s1,s2,s3,s4⟩,λq=>absurd q hn,λr hr=>Y1 (Yf.1 q5 r hr)⟩
    obtain⟨v,g',w',p1,p2,p3,p4,p5⟩:=IL hm hb hx hy hc ty;rw[hA1]at p2;rw[hA2]at p3;exact⟨_,.head _,v,g',w',p1,p2,p3,p4,p5⟩
   cases k
  cases k
 cases k
theorem Ov{o:Oper}{h:List (Nat×av)}{b:Nat}{outs:List (D×List (Nat×av))}{s:S}(k:DF P o ((au o.op).map s.ev) h b=some outs)(hh:s.h=htab h) :
  (∀c,o.op ≠ .defer c) /\ ∀(B:bH)(g:Mem)(a:Act)(w:World),St P B s g a w -> ¬g.U b -> ∃d h',(∃r∈outs,d=r.1/\h'=htab r.2)/\Does P g w b ((execOp a.eval o).run P w) d h':=by
 unfold DF at k
 split at k
 .
  rename_i x1 y1 t u x y hop hargs
  refine⟨λc e=>(by rw[hop]at e;cases e),λB g a w hs hb=>?_⟩
  rw[hop]at hargs;simp only[au,X8,Yp,Yt,and_true]at hargs;obtain⟨rfl,rfl⟩:=hargs;obtain⟨r,hr,v,g',w',q1,q2,q3,q4,q5⟩:=Za5 k (hh▸hs.mem) hb (cu hs x1) (cu hs y1) o.type;refine⟨r.1,_,⟨r,hr,rfl,rfl⟩,v,g',w',.inl ?_,q2,q3,q4,q5⟩;obtain⟨od,oo,lM,op,oa,og⟩:=o;simp only at hop;subst hop
  simp[Go.BigFrame.execOp_builtin,Go.BigFrame.builtin_append,q1]
 .
  rename_i x1 y1 t u x y hop hargs
  refine⟨λc e=>(by rw[hop]at e;cases e),λB g a w hs hb=>?_⟩
  rw[hop]at hargs;simp only[au,X8,Yp,Yt,and_true]at hargs;obtain⟨h1,rfl⟩:=hargs;unfold OB at k
  split at k
  . cases k
  rename_i e he
  split at k
  .
   rename_i r off len
   split at k
   .
    rename_i ty' rows hr
    split at k
    .
     rename_i hq
     obtain⟨p1,rfl,p2,p3,p4⟩:=hq;simp only[AV,XU]at k;subst k;obtain⟨s1,s2,s3,s4⟩:=JO p1;have hx:=cu hs x1;rw[h1]at hx;obtain⟨g',w',q1,q2,q3,q4⟩:=Zcu (u:=u) (hh▸hs.mem) he hr hx (cu hs y1) p2 p3 p4 s1 s2 s4 o.type;refine⟨_,_,⟨_,.head _,rfl,rfl⟩,_,g',w',.inl ?_,.v _,q2,q3,λq hq=>.inl (q4 q hq)⟩
     obtain⟨od,oo,lM,op,oa,og⟩:=o;simp only at hop;subst hop
     simp[Go.BigFrame.execOp_builtin,Go.BigFrame.builtin_copy,q1]
    cases k
   cases k
  cases k
 .
  rename_i x1 t m hop hargs
  refine⟨λc e=>(by rw[hop]at e;cases e),λB g a w hs hb=>?_⟩
  rw[hop]at hargs;simp only[au,X8,Yp,Yt,and_true]at hargs;subst hargs;unfold OA at k
  split at k
  .
   rename_i kt kv hmt jk
   rw[jq,XU]at k;subst k;have key : ∃b es aQ,a.eval x1 = .map (some b)/\w.heap[b]? = some (.map es aQ)/\kv.length=(gp es).length:=by
    have hr:=cu hs x1;have hm:=hs.mem;rw[hh]at hm;generalize s.ev x1=d at hr jk
    cases d with
    | mp r =>
     simp only[nV]at jk
     cases hb':htab h r with
     | none=>rw[hb']at jk;cases jk
     | some bl =>
      rw[hb']at jk;obtain⟨b,es,aQ,q1,q2,q3,_⟩:=yE hm hr hb' jk;exact⟨b,es,aQ,q1,q2,q3.1⟩
    | fmap kv' =>
     simp only[nV,XU]at jk;subst jk;obtain⟨b,es,aQ,q1,q2,q3⟩:=Mq hr;exact⟨b,es,aQ,q1,q2,q3.1⟩
    | _=>cases jk
   obtain⟨b',es,aQ,q1,q2,q3⟩:=key;have hl:kv.length / 2=es.size:=by
    rw[q3];have h2 : ∀l:List MapEntry,(l.flatMap λe=>[e.key,e.val]).length=2*l.length:=by
     intro l
     induction l with
     | nil=>rfl
     | cons e l ih=>rw[xc];simp only[YI,ih];omega
    have h3:(gp es).length=2*es.size:=(h2 es.toList).trans (by rw[Array.length_toList])
    rw[h3];exact Nat.mul_div_cancel_left _ (by decide)
   obtain⟨kt1,kt2⟩:=kt;refine⟨_,_,⟨_,.head _,rfl,rfl⟩,.int .i64 es.size,g,w,.inl ?_,by rw[hl];exact .v _,hh▸hs.mem,ay.refl _ _,λq hq=>.inl hq⟩
   obtain⟨od,oo,lM,op,oa,og⟩:=o;simp only at hop;subst hop
   simp[Go.BigFrame.execOp_builtin,Go.BigFrame.builtin_len,Builtin.len_,run_underlying (Ae hmt),q1,MapKept.run_getObj_map q2,goInt]
  cases k
 .
  rename_i t x1 t' x c hop hargs
  refine⟨λc e=>(by rw[hop]at e;cases e),λB g a w hs hb=>?_⟩
  rw[hop]at hargs;simp only[au,X8,Yp,Yt,and_true]at hargs;obtain⟨h1,_⟩:=hargs;unfold Oz at k
  split at k
  .
   rename_i e f rows he
   have ht:=l7 he;have hr:=cu hs x1;rw[h1]at hr;have key : ∃(ad:Option Addr)(n c:Nat),a.eval x1 = .slice ad n c/\(ad=none->rows=[]):=by
    generalize a.eval x1=v at hr
    cases hr with
    | empty _ ad cap hf hm=>exact⟨ad,0,cap,rfl,λ_=>rfl⟩
    | list _ _ ad cap size cv hI hl hf=>exact⟨some ad,_,cap,rfl,λh=>by cases h⟩
   obtain⟨ad,n,c,hv,hn⟩:=key;have hrun:(execOp a.eval o).run P w = .ok (.value (.bool ad.isNone)) w:=by
    have hrun:=Go.Lib.run_eql_slice_nil (P:=P) w t e ad n c 0 0 ht;have hc:a.eval (.const (.slice none 0 0)) = .slice none 0 0:=rfl
    simp[execOp,hop,hv,hc,eqGuard,hrun]
   have hmem : ∃r∈outs,r=((.b ad.isNone:D),h):=by
    split at k
    .
     simp only[XU]at k;subst k
     cases ad with
     | none=>exact⟨_,.head _,rfl⟩
     | some p=>exact⟨_,.tail _ (.head _),rfl⟩
    rename_i hne
    simp only[XU]at k;subst k
    cases ad with
    | none=>exact absurd (hn rfl) hne
    | some p=>exact⟨_,.head _,rfl⟩
   obtain⟨r,hr1,hr2⟩:=hmem;refine⟨_,_,⟨r,hr1,rfl,rfl⟩,.bool ad.isNone,g,w,.inl hrun,by rw[hr2];exact .v _,by rw[hr2];exact hh▸hs.mem,ay.refl _ _,λq hq=>.inl hq⟩
  cases k
 cases k
end
section
def gP(h:H):Nat->D->D
 | 0,d=>d
 | k+1,d=>match d with
  | .mrow r off len=>.list false ((aj (.mrow r off len) h).map λrow=>row.map (gP h k))
  | .agg cs=>.agg (cs.map (gP h k))
  | .tuple cs=>.tuple (cs.map (gP h k))
  | .iface t d=>.iface t (gP h k d)
  | .mptr r i off=>.eptr ((dL (.mptr r i off) h).map (gP h k))
  | .fn f a b=>.fn f (a.map (gP h k)) (b.map (gP h k))
  | .mp r=>(match(h r).bind gD with
   | some kv=>.fmap (kv.map (gP h k))
   | none=>.mp r)
  | d=>d
def jC(h:H):Nat->D->Prop
 | 0,d=>d.nr=true
 | k+1,d=>match d with
  | .mrow r off len=>iT h (.mrow r off len) /\ ∀row∈aj (.mrow r off len) h,∀c∈row,jC h k c
  | .agg cs=>∀c∈cs,jC h k c
  | .tuple cs=>∀c∈cs,jC h k c
  | .iface _ d=>jC h k d
  | .mptr r i off=>(h r).isSome=true /\ ∀c∈dL (.mptr r i off) h,jC h k c
  | .fn _ a b=>(∀c∈a,jC h k c) /\ ∀c∈b,jC h k c
  | .mp r=>(match(h r).bind gD with
   | some kv=>∀c∈kv,jC h k c
   | none=>False)
  | d=>d.nr=true
instance decSnapM{h:H}:∀(k:Nat)(d:D),Decidable (jC h k d)
 | 0,d=>inferInstanceAs (Decidable (d.nr=true))
 | k+1,d=>by
  have:=decSnapM (h:=h) k;unfold jC
  split<;>first|infer_instance|(split<;>infer_instance)
theorem SV [aa P]{h:H}{g:Mem}{w:World}(hm:HM P h g w):∀(k:Nat)(d:D)(v:Value),ag w (jY g) d v->jC h k d->ag w (Gh g) (gP h k d) v/\(gP h k d).nr=true:=by
 intro k
 induction k with
 | zero=>exact λd v hr ho=>⟨hr.clean ho λb hb=>hb,ho⟩
 | succ k ih =>
  intro d v hr ho
  cases d with
  | mrow r off len =>
   obtain⟨o1,o2⟩:=ho;have hd:=Ia hm hr o1;simp only[deref]at hd;simp only[gP];generalize aj (.mrow r off len) h=rows at hd o2 ⊢;refine⟨?_,?_⟩
   .
    cases hd with
    | empty _ a cap hf hmx=>exact .empty false a cap hf hmx
    | list _ _ ad cap size cv hI hl hf hmx hs hc hrr =>
     have e:rows.length=(rows.map λrow=>row.map (gP h k)).length:=by simp
     rw[e];refine .list false _ ad cap size cv hI (by simpa using hl) (λh=>by cases h) hmx (λrow hrow=>?_) (λi j row d h1 h2=>?_) (λi j row d h1 h2=>?_)
     .
      simp only[Yh]at hrow;obtain⟨row',h1,rfl⟩:=hrow
      simpa using hs row' h1
     .
      rw[Yj]at h1
      cases eB:rows[i]? with
      | none=>rw[eB]at h1;cases h1
      | some row' =>
       rw[eB]at h1;simp at h1;subst h1;rw[Yj]at h2
       cases kY:row'[j]? with
       | none=>rw[kY]at h2;cases h2
       | some d'=>exact hc i j row' d' eB kY
     rw[Yj]at h1
     cases eB:rows[i]? with
     | none=>rw[eB]at h1;cases h1
     | some row' =>
      rw[eB]at h1;simp at h1;subst h1;rw[Yj]at h2
      cases kY:row'[j]? with
      | none=>rw[kY]at h2;cases h2
      | some d' =>
       rw[kY]at h2;simp at h2;subst h2;exact(ih d' _ (hrr i j row' d' eB kY) (o2 row' (X6 eB) d' (X6 kY))).1
   refine CB λrow hrow=>lQ λd hd'=>?_
   simp only[Yh]at hrow;obtain⟨row',h1,rfl⟩:=hrow;simp only[Yh]at hd';obtain⟨d',h2,rfl⟩:=hd'
   cases hd with
   | empty=>cases h1
   | list _ _ ad cap size cv hI hl hf hmx hs hc hrr =>
    obtain⟨i,hi⟩:=YB h1;obtain⟨j,hj⟩:=YB h2;exact(ih d' _ (hrr i j row' d' hi hj) (o2 row' h1 d' h2)).2
  | agg cs =>
   obtain⟨vs,rfl,hv⟩:=hr.agg_inv;simp only[gP];refine⟨.mk_agg ⟨by simpa using hv.1,λi d x h1 h2=>?_⟩,lQ λd hd=>?_⟩
   .
    rw[Yj]at h1
    cases hci:cs[i]? with
    | none=>rw[hci]at h1;cases h1
    | some c =>
     rw[hci]at h1;simp at h1;subst h1;exact(ih c x (hv.2 i c x hci h2) (ho c (X6 hci))).1
   simp only[Yh]at hd;obtain⟨c,h1,rfl⟩:=hd;obtain⟨i,hi⟩:=YB h1;have hlt:i<vs.toList.length:=by rw[<-hv.1];exact(XY.1 hi).1
   exact(ih c _ (hv.2 i c _ hi (X5 hlt)) (ho c h1)).2
  | tuple cs =>
   obtain⟨vs,rfl,hv⟩:=hr.tuple_inv;simp only[gP];refine⟨.mk_tuple ⟨by simpa using hv.1,λi d x h1 h2=>?_⟩,lQ λd hd=>?_⟩
   .
    rw[Yj]at h1
    cases hci:cs[i]? with
    | none=>rw[hci]at h1;cases h1
    | some c =>
     rw[hci]at h1;simp at h1;subst h1;exact(ih c x (hv.2 i c x hci h2) (ho c (X6 hci))).1
   simp only[Yh]at hd;obtain⟨c,h1,rfl⟩:=hd;obtain⟨i,hi⟩:=YB h1;have hlt:i<vs.toList.length:=by rw[<-hv.1];exact(XY.1 hi).1
   exact(ih c _ (hv.2 i c _ hi (X5 hlt)) (ho c h1)).2
  | iface t d =>
   cases hr with
   | iface _ _ x h1 =>
    obtain⟨q1,q2⟩:=ih d x h1 ho;exact⟨.iface t _ x q1,q2⟩
  | mptr r i off =>
   obtain⟨o1,o2⟩:=ho;obtain⟨bl,hbl⟩:=Yn.1 o1;simp only[gP];have ecs:dL (.mptr r i off) h=(bl.rows.getD i []).drop off:=by simp only[dL,hbl]
   rw[ecs]at o2 ⊢
   cases hr with|mptr _ _ _ x hx hU hv =>
   obtain⟨blk,c,h1,h2,h3,h4,h5⟩:=hm.blk r bl hbl;obtain⟨hcm,b,rfl,rfl⟩:=hv _ _ _ h1
   rcases h5 with⟨h5,_⟩|⟨b',cur,h5,k1,k2,k3,k4⟩
   . cases h5
   cases h5
   have key : ∀j d,((bl.rows.getD i []).drop off)[j]? = some d -> ∃u,cur[i*P.cellsOf bl.ty+off+j]? = some u/\ag w g d u:=by
    intro j d hd;rw[YJ]at hd
    cases eB:bl.rows[i]? with
    | none=>rw[List.getD,eB]at hd;simp at hd
    | some row =>
     rw[List.getD,eB,YA]at hd;obtain⟨u,p1,_,p3⟩:=(k4 i row eB).2 (off+j) d hd;exact⟨u,by rw[Nat.add_assoc];exact p1,p3⟩
   refine⟨.eptr _ _ (λj=>cur.getD (i*P.cellsOf bl.ty+off+j) undef) (.inr ⟨r,_,_,h1⟩) (λj d hd=>?_) (λj d hd=>?_),lQ λd hd=>?_⟩
   .
    obtain⟨d',e1,rfl⟩:=dY hd;obtain⟨u,p1,p2⟩:=key j d' e1;rw[jR,cell_of_row w b _ cur bl.ty (0,0) (k1.cells hcm),p1]
    simp[YV,p1]
   .
    obtain⟨d',e1,rfl⟩:=dY hd;obtain⟨u,p1,p2⟩:=key j d' e1;have e2:cur.getD (i*P.cellsOf bl.ty+off+j) undef=u:=by simp[YV,p1]
    rw[e2];exact(ih d' u (lN p2) (o2 d' (X6 e1))).1
   obtain⟨d',e1,rfl⟩:=Yh.1 hd;obtain⟨j,hj⟩:=YB e1;obtain⟨u,p1,p2⟩:=key j d' hj;exact(ih d' u (lN p2) (o2 d' e1)).2
  | mp r =>
   cases hb:h r with
   | none=>simp[jC,hb]at ho
   | some bl =>
    cases hk:gD bl with
    | none=>simp[jC,hb,hk]at ho
    | some kv =>
     have ho' : ∀c∈kv,jC h k c:=by simpa[jC,hb,hk]using ho
     have hr':ag w g (.mp r) v:=by cases hr with|mp _ _ hx hU hv=>exact .mp r _ hx hU hv
     obtain⟨b,es,aQ,rfl,h1,h2,h3,h4,_⟩:=yE hm hr' hb hk;have hs:gP h (k+1) (.mp r) = .fmap (kv.map (gP h k)):=by simp[gP,hb,hk]
     rw[hs];refine⟨.fmap _ b es aQ (.inr ⟨r,_,_,h3⟩) h1 (by simpa using h2.1) λi d x e1 e2=>?_,lQ λd hd=>?_⟩
     . obtain⟨d',e3,rfl⟩:=dY e1;exact(ih d' x (lN (h2.2 i d' x e3 e2)) (ho' d' (X6 e3))).1
     obtain⟨d',e1,rfl⟩:=Yh.1 hd;obtain⟨j,hj⟩:=YB e1;have hlt:j<(gp es).length:=by rw[<-h2.1];exact(XY.1 hj).1
     exact(ih d' _ (lN (h2.2 j d' _ hj (X5 hlt))) (ho' d' e1)).2
  | fn f a b =>
   cases hr with
   | fn _ _ _ fs cs hf hc h1 h2 =>
    simp only[gP];refine⟨.fn f _ _ fs cs (by simpa using hf) (by simpa using hc) (λi d x e1 e2=>?_) (λi d x e1 e2=>?_),?_⟩
    . obtain⟨d',e3,rfl⟩:=dY e1;exact(ih d' x (h1 i d' x e3 e2) (ho.1 d' (X6 e3))).1
    . obtain⟨d',e3,rfl⟩:=dY e1;exact(ih d' x (h2 i d' x e3 e2) (ho.2 d' (X6 e3))).1
    simp only[D.nr,XT];refine⟨lQ λd hd=>?_,lQ λd hd=>?_⟩
    .
     obtain⟨d',e1,rfl⟩:=Yh.1 hd;obtain⟨i,hi⟩:=YB e1;have hlt:i<fs.size:=by rw[<-hf];exact(XY.1 hi).1
     exact(ih d' _ (h1 i d' _ hi (Zc hlt)) (ho.1 d' e1)).2
    obtain⟨d',e1,rfl⟩:=Yh.1 hd;obtain⟨i,hi⟩:=YB e1;have hlt:i<cs.size:=by rw[<-hc];exact(XY.1 hi).1
    exact(ih d' _ (h2 i d' _ hi (Zc hlt)) (ho.2 d' e1)).2
  | _=>exact⟨hr.clean ho λb hb=>hb,ho⟩
def VD [aa P]{f:FuncId}{fn:Func}{c:Code}{args:List D}{res:D}(hf:P.funcs[f]? = some fn)(hb:fn.body=some c)(hbd:jl P f=true)(hnr:args.all D.nr=true)(hn:args.length<=fn.ntmps)
  (h:DW P none c (λe s=>(e = .normal\/e = .ret)/\qx P s fn.results.toList /\ ∃k,jC s.h k (lK P fn.results.toList s)/\wk (gP s.h k (lK P fn.results.toList s))=res) (S.init fn.ntmps args)):PureCt P f args res:=by
 refine⟨hbd,hnr,λw I vs hI hgr hr=>?_⟩
 have hm:HM P (λ_=>none) (eY I) w:=by
  refine⟨λ_ _=>rfl,?_,?_,?_,hI,hgr⟩
  . intro r bl h;cases h
  . intro r r' b c c' s s' h;cases h
  intro r h;exact absurd rfl h
 have hs:St P (bH.of w.heap.size) (S.init fn.ntmps args) (eY I) { tmps:=vs.toArray++Array.replicate (fn.ntmps-vs.toArray.size) undef,defers:=[] } w:=CX hr hn hm
 refine callsIn_of_wp_marks (n:=0) hf hb trivial (wpIn_mono (F:=Fence.wide) (h (bH.of w.heap.size) (eY I) _ w hs (λr h=>False.elim h)) ?_)
 rintro e a' w' ⟨s',g',⟨he,ho,k,hk,hres⟩,hs',hm',_⟩
 have hm':=hm'.out
 have hlast:LeavesInM Fence.wide 0 P fn a'.tmps (λe w'=>∃v,e = .returned v/\vP w w'/\ag w' (eY λb=>I b\/(w.heap.size<=b/\b<w'.heap.size)) res v) a'.defers .returning w':=by
  refine CQ (P:=P) a'.defers w' hs'.df.marks λw2 e0 e1 e2 e3 e4 e5 e6 e7=>?_
  have hs2:=hs'.marks e4 e6 e7;obtain⟨v,h1,h2⟩:=Fu (fn:=fn) hs2 ho;refine⟨v,h1,v,rfl,⟨by rw[e1,hm'.os],by rw[e2,hm'.tape],by rw[e3,hm'.output],by rw[e4];exact hm'.size,by rw[e0];exact hm'.drawn,λb hb=>?_⟩,?_⟩
  . rw[e5 b hb,hm'.same b hb (λr c s h=>by cases h)]
  obtain⟨q1,q2⟩:=SV hs2.mem k _ v (lN h2) hk;have q1:=q1.wk;have q2:=BC _ q2;rw[hres]at q1 q2;refine q1.clean q2 λb hb=>?_
  rcases hb with hb|⟨r,c,s,hb⟩
  .
   rcases hm'.inew b hb with h|h|⟨r,c,s,h⟩
   . exact .inl h
   . exact .inr ⟨h,hs2.mem.imm b hb⟩
   cases h
  rcases hm'.new r b c s hb with⟨r',c',s',h⟩|h
  . cases h
  exact .inr ⟨h,(kH hs2.mem hb).1⟩
 rcases he with rfl|rfl<;>exact hlast
end
def eqV:Value->Value->Bool
 | .int k a,.int k' b=>decide (k=k')&&decide (a=b)
 | .bool a,.bool b=>decide (a=b)
 | .string ⟨⟨a⟩⟩,.string ⟨⟨b⟩⟩=>decide (a=b)
 | .pointer none,.pointer none=>true
 | _,_=>false
theorem Za7{a b:Value}(h:eqV a b=true):a=b:=by
 unfold eqV at h
 split at h
 . simp only[XT,XV]at h;rw[h.1,h.2]
 . rw[Y1 h]
 . rw[Y1 h]
 . rfl
 cases h
mutual
def mQ:D->D->Bool
 | .v a,.v b=>eqV a b
 | .agg a,.agg b=>oq a b
 | .list f a,.list g b=>decide (f=g)&&A8 a b
 | .eptr a,.eptr b=>oq a b
 | .tuple a,.tuple b=>oq a b
 | .fmap a,.fmap b=>oq a b
 | .fn (.func f) a b,.fn (.func g) c d=>decide (f=g)&&oq a c&&oq b d
 | _,_=>false
def oq:List D->List D->Bool
 | [],[]=>true
 | a::l,b::m=>mQ a b&&oq l m
 | _,_=>false
def A8:List (List D)->List (List D)->Bool
 | [],[]=>true
 | a::l,b::m=>oq a b&&A8 l m
 | _,_=>false
end
mutual
theorem ru : ∀{a b:D},mQ a b=true->a=b
 | .v a,.v b,h=>by rw[Za7 h]
 | .agg a,.agg b,h=>by rw[rf h]
 | .list f a,.list g b,h=>by
  simp only[mQ,XT,XV]at h;rw[h.1,HY h.2]
 | .eptr a,.eptr b,h=>by rw[rf h]
 | .tuple a,.tuple b,h=>by rw[rf h]
 | .fmap a,.fmap b,h=>by rw[rf h]
 | .fn (.func f) a b,.fn (.func g) c d,h=>by
  simp only[mQ,XT,XV]at h;rw[h.1.1,rf h.1.2,rf h.2]
theorem rf : ∀{a b:List D},oq a b=true->a=b
 | [],[],_=>rfl
 | a::l,b::m,h=>by
  simp only[oq,XT]at h;rw[ru h.1,rf h.2]
theorem HY : ∀{a b:List (List D)},A8 a b=true->a=b
 | [],[],_=>rfl
 | a::l,b::m,h=>by
  simp only[A8,XT]at h;rw[rf h.1,HY h.2]
end
mutual
def jN{α:Type}:D->(D->α)->α
 | .v x,k=>Dv x λx=>k (.v x)
 | .agg cs,k=>tV cs λcs=>k (.agg cs)
 | .tuple cs,k=>tV cs λcs=>k (.tuple cs)
 | .eptr cs,k=>tV cs λcs=>k (.eptr cs)
 | .fmap cs,k=>tV cs λcs=>k (.fmap cs)
 | .list f rows,k=>jr f λf=>Be rows λrows=>k (.list f rows)
 | .mrow r o l,k=>k (.mrow r o l)
 | .mptr r o l,k=>k (.mptr r o l)
 | .fn f a b,k=>k (.fn f a b)
 | .iface t d,k=>k (.iface t d)
 | .mp r,k=>k (.mp r)
 | .cond g d,k=>k (.cond g d)
 | .junk,k=>k .junk
def tV{α:Type}:List D->(List D->α)->α
 | [],k=>k []
 | x::l,k=>jN x λx=>tV l λl=>k (x::l)
def Be{α:Type}:List (List D)->(List (List D)->α)->α
 | [],k=>k []
 | x::l,k=>tV x λx=>Be l λl=>k (x::l)
end
mutual
theorem Ic{α:Type}:∀(d:D)(k:D->α),jN d k=k d
 | .v x,k=>by simp only[jN,N9]
 | .agg cs,k=>by simp only[jN,za cs]
 | .tuple cs,k=>by simp only[jN,za cs]
 | .eptr cs,k=>by simp only[jN,za cs]
 | .fmap cs,k=>by simp only[jN,za cs]
 | .list f rows,k=>by simp only[jN,qa,Pw rows]
 | .mrow r o l,k=>by simp only[jN]
 | .mptr r o l,k=>by simp only[jN]
 | .fn f a b,k=>by simp only[jN]
 | .iface t d,k=>by simp only[jN]
 | .mp r,k=>by simp only[jN]
 | .cond g d,k=>by simp only[jN]
 | .junk,k=>by simp only[jN]
theorem za{α:Type}:∀(l:List D)(k:List D->α),tV l k=k l
 | [],k=>by simp only[tV]
 | x::l,k=>by simp only[tV,Ic x,za l]
theorem Pw{α:Type}:∀(l:List (List D))(k:List (List D)->α),Be l k=k l
 | [],k=>by simp only[Be]
 | x::l,k=>by simp only[Be,za x,Pw l]
end
def gW{α β:Type}(f:α->Option (List β)):List α->Option (List β)
 | []=>some []
 | a::az=>match f a with
  | none=>none
  | some x=>match az with
   | []=>some x
   | _::_=>match gW f az with
    | none=>none
    | some y=>some (x++y)
theorem ll{α β:Type}{f:α->Option (List β)}:∀{l:List α}{outs:List β},gW f l=some outs -> ∀a∈l,∃o1,f a=some o1 /\ ∀o∈o1,o∈outs
 | [],_,_,_,ha=>by cases ha
 | a::az,outs,h,c,hc=>by
  unfold gW at h
  split at h
  . cases h
  rename_i x hx
  cases az with
  | nil =>
   simp only[XU]at h;subst h
   rcases Yv.1 hc with rfl|hc
   . exact⟨x,hx,λ_ h=>h⟩
   cases hc
  | cons b az =>
   simp only at h
   split at h
   . cases h
   rename_i y hy
   simp only[XU]at h;subst h
   rcases Yv.1 hc with rfl|hc
   . exact⟨x,hx,λo ho=>Yu.2 (.inl ho)⟩
   obtain⟨o1,h1,h2⟩:=ll hy c hc;exact⟨o1,h1,λo ho=>Yu.2 (.inr (h2 o ho))⟩
theorem mY{α β:Type}{f:α->Option (List β)}:∀{l:List α}{outs:List β},gW f l=some outs -> ∀o∈outs,∃a∈l,∃o1,f a=some o1/\o∈o1
 | [],_,h,o,ho=>by
  simp only[gW,XU]at h;subst h;cases ho
 | a::az,outs,h,o,ho=>by
  unfold gW at h
  split at h
  . cases h
  rename_i x hx
  cases az with
  | nil =>
   simp only[XU]at h;subst h;exact⟨a,by simp,x,hx,ho⟩
  | cons b az =>
   simp only at h
   split at h
   . cases h
   rename_i y hy
   simp only[XU]at h;subst h
   rcases Yu.1 ho with ho|ho
   . exact⟨a,by simp,x,hx,ho⟩
   obtain⟨c,h1,o1,h2,h3⟩:=mY hy o ho;exact⟨c,List.mem_cons_of_mem _ h1,o1,h2,h3⟩
abbrev uo:=FuncId->List D->List (Nat×av)->Nat->Option (List (D×List (Nat×av)×Nat))
abbrev YF:=List D->List (Nat×av)->Nat->Option (List (Bool×Option Code×List (Nat×av)×Nat))
inductive Yc where
 | top
 | round
 | iter (y:YF)
structure Rn where
 code:Yc->Code->X->Option (List (Exit×X))
 call:uo
 pure:FuncId->List D->Option D
structure Ev where
 T:fO
 nf:FuncId->Bool
 ext:uo
 dk:Nat->Nat->Option (Nat×Nat)
def kK(T:fO)(pure:FuncId->List D->Option D):fO:=⟨λ_=>true,λf az=>match T.pf f az with
 | some d=>some d
 | none=>pure f az⟩
noncomputable def Ej(o:Oper)(t:Tr):Option (FuncId×List D):=match o.op with
 | .call { callee:=.value f,args,.. }=>match aW t f with
  | .fn (.func k) first aK=>if(args.toList.map (aW t)).all sg=true/\(args.toList.map (aW t)).any bX=false then some (k,first++(args.toList.map (aW t)).map sd++aK)else none
  | _=>none
 | _=>none
def Qo{o:Oper}{t:Tr}{k:FuncId}{az:List D}(h:Ej o t=some (k,az)):∃f args ts first aK,o.op = .call { callee:=.value f,args:=args,argTypes:=ts }/\aW t f = .fn (.func k) first aK/\(args.toList.map (aW t)).all sg=true/\(args.toList.map (aW t)).any bX=false/\az=first++(args.toList.map (aW t)).map sd++aK:=by
 unfold Ej at h
 split at h
 .
  rename_i f args ts e
  split at h
  .
   rename_i k' first aK e1
   split at h
   .
    rename_i e2
    simp only[XU,Yo]at h;obtain⟨rfl,rfl⟩:=h;exact⟨f,args,ts,first,aK,e,e1,e2.1,e2.2,rfl⟩
   cases h
  cases h
 cases h
def isTmp:Operand->Bool
 | .tmp _=>true
 | _=>false
noncomputable def ED(o:Oper)(t:Tr):Option (List D):=match o.op with
 | .call { callee:=.value f,args,.. }=>if sO (aW t f)=true/\isTmp f=true/\(args.toList.map (aW t)).all sg=true/\(args.toList.map (aW t)).any bX=false then some ((args.toList.map (aW t)).map sd)else none
 | _=>none
theorem QZ{o:Oper}{t:Tr}{xs:List D}(h:ED o t=some xs):∃i args ts,o.op = .call { callee:=.value (.tmp i),args:=args,argTypes:=ts }/\bV t (bE i)=tok/\(args.toList.map (aW t)).all sg=true/\(args.toList.map (aW t)).any bX=false/\xs=(args.toList.map (aW t)).map sd:=by
 unfold ED at h
 split at h
 .
  rename_i f args ts e
  split at h
  .
   rename_i q
   obtain⟨q1,q2,q3,q4⟩:=q;simp only[XU]at h;subst h
   cases f with
   | tmp i=>exact⟨i,args,ts,e,Gz q1,q3,q4,rfl⟩
   | _=>cases q2
  cases h
 cases h
noncomputable def zH(P:Program)[aa P](V:Ev)(call:uo)(yf:Yc)(L:List Oper)(sz:Nat)(o:Oper)(next:Nat->Nat->X->Option (List X))(i b:Nat)(x:X):Option (List X):=match GV L o x.t with
 | none=>none
 | some false=>(match x.finF o.dst (.cond false (.b false)) x.h with
   | some x'=>next (i+1) b x'
   | none=>none)
 | some true=>match x.run2 P b i o with
  | some x'=>next (i+1) b x'
  | none=>match x.run1 P V.T true false b i o with
   | some x'=>next (i+1) b x'
   | none=>match x.run1 P V.T false false b i o with
    | some x'=>next (i+1) b x'
    | none=>if bS x.n o.dst=true then(match Ej o x.t with
     | some (k,az)=>(match call k az x.h (b+i)with
      | none=>none
      | some outs=>gW (λr=>match(X.mk x.n x.t x.h (r.2.2+sz) x.j).finK o.dst r.1 r.2.1 with
       | some x'=>next (i+1) r.2.2 x'
       | none=>none) outs)
     | none=>if((au o.op).map (aW x.t)).any bX=false then(match DF P o ((au o.op).map (aW x.t)) x.h (b+i)with
      | none=>none
      | some outs=>gW (λr=>match x.finK o.dst r.1 r.2 with
       | some x'=>next (i+1) b x'
       | none=>none) outs)
      else(match yf,ED o x.t,x.j with
      | .iter y,some xs,none=>(match y xs x.h (b+i)with
       | none=>none
       | some outs=>gW (λr=>match(X.mk x.n x.t x.h (r.2.2.2+sz) r.2.1).finK o.dst (.b r.1) r.2.2.1 with
        | some x'=>next (i+1) r.2.2.2 x'
        | none=>none) outs)
      | _,_,_=>none))else none
noncomputable def pG(P:Program)[aa P](V:Ev)(call:uo)(yf:Yc)(L:List Oper)(sz:Nat)(os:List Oper):Nat->Nat->X->Option (List X) :=
 @List.rec Oper (λ_=>Nat->Nat->X->Option (List X)) (λ_ _ x=>some [x]) (λo _ ih=>zH P V call yf L sz o ih) os
noncomputable def X.runG(P:Program)[aa P](T:fO)(cf bs g:Bool)(b i:Nat)(o:Oper)(x:X):Option X :=
 p9 ((au o.op).map (aW x.t)) λaz =>
  if az.any bX=false/\Ao (T.con cf bs) o.op=false/\(g=true->(ak P T.words (T.con cf bs) g o.op az (htab x.h) (b+i)).2.2)then
   x.finK o.dst (.cond g (ak P T.words (T.con cf bs) g o.op az (htab x.h) (b+i)).1) x.h
  else none
noncomputable def AR(L:List Oper)(t:Tr)(j:Nat):D:=((L[j]?).bind (·.dst)).elim .junk λi=>bV t (bE i)
noncomputable def Cy(P:Program)[aa P](T:fO)(cf bs:Bool)(L:List Oper)(b i:Nat)(o:Oper)(x:X):Option X:=match o.guard with
 | some (j,want)=>if jm (AR L x.t j)=true then x.runG P T cf bs (fq (AR L x.t j) want) b i o else none
 | none=>x.run1 P T cf bs b i o
noncomputable def sG(P:Program)[aa P](T:fO)(cf bs:Bool)(L:List Oper)(b:Nat):List Oper->Nat->X->Option X
 | [],_,x=>some x
 | o::os,i,x=>match Cy P T cf bs L b i o x with
   | some x'=>sG P T cf bs L b os (i+1) x'
   | none=>none
def DX(P:Program)[aa P](T:fO)(cf:Bool)(L:List Oper):Bool:=P.follows .mixedOrders&&vG (T.con cf) L&&mf L
def isN:D->Bool
 | .mrow .. | .mptr .. | .mp _ | .fn .. | .iface .. => true
 | _=>false
def wY:Nat->D->List Nat
 | _,.mrow r _ _|_,.mptr r _ _|_,.mp r=>[r]
 | k+1,.agg cs|k+1,.tuple cs|k+1,.eptr cs=>cs.flatMap (wY k)
 | k+1,.fn _ a b=>a.flatMap (wY k)++b.flatMap (wY k)
 | k+1,.iface _ d=>wY k d
 | k+1,.list _ rows=>match rows with
  | row::_=>if row.any isN=true then rows.flatMap λr=>r.flatMap (wY k)else[]
  | []=>[]
 | _,_=>[]
def nmB(bl:av):List Nat:=bl.rows.flatMap λr=>r.flatMap (wY 6)
def reach(h:H):Nat->List Nat->List Nat->List Nat
 | 0,_,seen=>seen
 | _,[],seen=>seen
 | k+1,r::todo,seen=>if seen.contains r=true then reach h k todo seen else match h r with
  | none=>reach h k todo seen
  | some bl=>reach h k (nmB bl++todo) (r::seen)
def hkeep(h:H)(l:List Nat):List (Nat×av):=l.filterMap λr=>(h r).map λbl=>(r,bl)
theorem Nz{h:H}:∀(l:List Nat)(r:Nat),htab (hkeep h l) r=h r\/htab (hkeep h l) r=none
 | [],_=>.inr rfl
 | q::l,r=>by
  have ih:=Nz (h:=h) l r;unfold hkeep at ih ⊢;rw[List.filterMap_cons]
  cases hq:h q with
  | none=>exact ih
  | some bl =>
   simp only[YK,htab]
   by_cases e:r=q
   . subst e;left;rw[bu,hq]
   rw[aI _ _ _ _ e];exact ih
def Co(n m:Nat)(d:D)(h:List (Nat×av)):List (Nat×av) :=
 if h.length<=2*m+40 then h else hkeep (htab h) (reach (htab h) 5000 (wY 6 d++(h.filter λp=>decide (p.1<n)).map (·.1)) [])
def VG{n m:Nat}{d:D}{h:List (Nat×av)}(r:Nat):htab (Co n m d h) r=htab h r\/htab (Co n m d h) r=none:=by
 unfold Co
 split
 . exact .inl rfl
 exact Nz _ r
noncomputable def zX(P:Program)[aa P](T:fO)(L:List Oper)(b:Nat):List Nat->X->Option X
 | [],x=>some x
 | i::is,x=>match L[i]? with
  | none=>none
  | some o=>match Cy P T true true L b i o x with
   | some x'=>zX P T L b is x'
   | none=>none
def flc(C:aH)(L:List Oper)(k1 k2:Nat):List (Nat×Nat):=(List.range k2).flatMap λi=>if i==k1||((dC L []).getD k1 0).testBit i||aX C (L.getD i default).op == .none then[]else match(L.getD i default).op with
 | .load _ (.tmp t)=>[(i,t)]
 | .indexAddr _ (.tmp t) (.tmp u)=>[(i,t),(i,u)]
 | _=>[]
def IE(a b:Option av):Bool:=match a,b with
 | some ⟨t,r⟩,some ⟨t',r'⟩=>Nat.beq t t'&&A8 r r'
 | none,none=>true
 | _,_=>false
def Al(h' h:List (Nat×av))(d:D):Bool:=match sd d with
 | .mrow r _ _ | .mptr r _ _ | .mp r=>IE (htab h' r) (htab h r)
 | _=>true
section
variable (P : Program) [aa P] (V : Ev) (R : Rn)
noncomputable def Li(o:Oper)(x:X)(b:Nat):Option (List (D×List (Nat×av)×Nat)):=match Ej o x.t with
 | some (k,az)=>R.call k az x.h b
 | none=>if((au o.op).map (aW x.t)).any bX=false then(match DF P o ((au o.op).map (aW x.t)) x.h b with
  | none=>none
  | some outs=>some (outs.map λr=>(r.1,r.2,b+1)))else none
noncomputable def drX(ops:Array Oper)(k1 k2:Nat)(x:X):Option (List (Exit×X)) :=
 if P.follows .mixedOrders=true/\Bf ((kK V.T R.pure).con true true) ops.toList k1 k2=true/\Hm ((kK V.T R.pure).con true true) ops.toList k1 k2 (flc ((kK V.T R.pure).con true true) ops.toList k1 k2)=true then
  match ops.toList[k1]?,zX P (kK V.T R.pure) ops.toList x.nx ((List.range k2).filter (· != k1)) x with
  | some o,some xq=>if o.guard.isNone=true/\bS xq.n o.dst=true then(match Li P R o xq (x.nx+k2)with
   | none=>none
   | some outs=>match gW (λr=>if(flc ((kK V.T R.pure).con true true) ops.toList k1 k2).all (λp=>Al r.2.1 xq.h (bV xq.t (bE p.2)))=true then
     (match(X.mk xq.n xq.t xq.h (r.2.2+ops.size) xq.j).finK o.dst r.1 r.2.1 with
     | some x'=>pG P V R.call .round ops.toList ops.size (ops.toList.drop k2) k2 r.2.2 x'
     | none=>none)else none) outs with
    | none=>none
    | some outs=>some (outs.map λx=>(.normal,x)))else none
  | _,_=>none
 else none
noncomputable def Ea(outs:Option (List (Exit×X)))(k:X->Option (List (Exit×X))):Option (List (Exit×X)):=match outs with
 | none=>none
 | some outs=>gW (λo=>match o.1 with | .normal=>k o.2|e=>some [(e,o.2)]) outs
noncomputable def P8(yf:Yc)(id:Nat)(ops:Array Oper)(x:X):Option (List (Exit×X)):=match V.dk x.n id with
 | some (k1,k2)=>(match yf with
  | .iter _=>none
  | _=>drX P V R ops k1 k2 x)
 | none=>if DX P (kK V.T R.pure) true ops.toList=true then(match sG P (kK V.T R.pure) true false ops.toList x.nx ops.toList 0 ⟨x.n,x.t,x.h,x.nx+ops.size,x.j⟩with
  | some x'=>some [(.normal,x')]
  | none=>if DX P (kK V.T R.pure) false ops.toList=true then(match sG P (kK V.T R.pure) false false ops.toList x.nx ops.toList 0 ⟨x.n,x.t,x.h,x.nx+ops.size,x.j⟩with
   | some x'=>some [(.normal,x')]
   | none=>none)else none)else none
noncomputable def P7(yf:Yc)(ops:Array Oper)(x:X):Option (List (Exit×X)):=match x with
 | ⟨n,t,h,nx,j⟩=>dP (nx+ops.size) λnx'=>match pG P V R.call yf ops.toList ops.size ops.toList 0 nx ⟨n,t,h,nx',j⟩with
  | none=>none
  | some outs=>some (outs.map λx=>(.normal,x))
def BV{α:Type}:Tr->List Nat->List D->(Tr->α)->α
 | t,p::ps,d::ds,k=>tset t (bE p) d λt=>BV t ps ds k
 | t,_,_,k=>k t
def Gx:Exit->Option (Bool×Option Code)
 | .normal=>some (true,none)
 | .ret=>some (false,some .ret)
 | .exit i=>some (false,some (.exit i))
 | _=>none
noncomputable def zS(x:X)(ps:Array Tmp)(assign body:Code):YF:=λxs h nx =>
 if xs.length=ps.size/\xs.any bX=false/\ps.toList.all (λp=>decide (p<x.n))=true then
  BV x.t ps.toList xs λt=>match R.code .round assign ⟨x.n,t,h,nx,none⟩with
   | none=>none
   | some o1=>gW (λo=>match o.1 with
    | .normal=>(match R.code .round body o.2 with
     | none=>none
     | some o2=>gW (λq=>match Gx q.1 with
      | some (b,j)=>some [(b,j,q.2.h,q.2.nx)]
      | none=>none) o2)
    | _=>none) o1
 else none
def yJ:Exit->Bool
 | .normal | .ret=>true
 | _=>false
def DI:Option Code->Option Exit
 | none=>some .normal
 | some .ret=>some .ret
 | some (.exit i)=>some (.exit i)
 | _=>none
noncomputable def Ip(gf:Operand)(ps:Array Tmp)(assign body:Code)(x:X):Option (List (Exit×X)):=match aW x.t gf with
 | .fn (.func k) first aK=>(match P.funcs[k]? with
  | none=>none
  | some fn=>match fn.body with
   | none=>none
   | some c=>if jl P k=true/\(first++[tok]++aK).length<=fn.ntmps/\fn.results.isEmpty=true/\(first++aK).any bX=false then
     vV (first++[tok]++aK) 0 .nil λt=>match R.code (.iter (zS R x ps assign body)) c ⟨fn.ntmps,t,x.h,x.nx,none⟩with
      | none=>none
      | some outs=>gW (λo=>if yJ o.1=true then(match DI o.2.j with
       | some e=>some [(e,⟨x.n,x.t,o.2.h,o.2.nx,x.j⟩)]
       | none=>none)else none) outs
    else none)
 | _=>none
noncomputable def yF(yf:Yc)(r n tr dn tq de bid b1:Nat)(eops:Array Oper)(body:Code):Nat->List Nat->X->Option (List (Exit×X))
 | 0,_,_=>none
 | m+1,seen,x=>if lX (bV x.t (bE tr))=true/\(dn<x.n/\tq<x.n/\de<x.n)/\(tr≠dn/\tr≠tq)then(match htab x.h r with
  | none=>none
  | some bl=>match gD bl with
   | none=>none
   | some kv=>if kv.length=2*n then(match(List.range n).filter (λi=>!seen.contains i)with
    | []=>tset x.t (bE dn) (.tuple [.b false]) λt=>tset t (bE tq) (.b false) λt=>some [(.normal,⟨x.n,t,x.h,x.nx,x.j⟩)]
    | c::cs=>gW (λi=>match kv[2*i]?,kv[2*i+1]? with
     | some k,some v=>if bX k=false/\bX v=false then
       tset x.t (bE dn) (.tuple [.b true,k,v]) λt=>tset t (bE tq) (.b true) λt=>tset t (bE de) (.tuple [k,v]) λt=>dP (x.nx+eops.size) λnx =>
        match sG P V.T true false eops.toList x.nx (eops.toList.drop 1) 1 ⟨x.n,t,x.h,nx,x.j⟩with
        | none=>none
        | some x2=>match R.code yf body x2 with
         | none=>none
         | some outs=>gW (λo=>match o.1 with
          | .normal=>yF yf r n tr dn tq de bid b1 eops body m (seen++[i]) o.2
          | .exit j=>if j=b1 then yF yf r n tr dn tq de bid b1 eops body m (seen++[i]) o.2 else if j=bid then some [(.normal,o.2)]else some [(.exit j,o.2)]
          | e=>some [(e,o.2)]) outs
      else none
     | _,_=>none) (c::cs))
    else none)else none
def wV:Tr->Bool
 | .nil=>true
 | .node d l r=>!lX d&&wV l&&wV r
structure MS where
 (id nid eid bid b1 tr dn tq de m0:Nat)
 (ops nops eops:Array Oper)
 body:Code
 ty:TypeId
def CJ(a b:Code):Option MS:=match a,b with
 | .region id ops false,.block bid (.loop (.seq (.region nid nops false) (.seq (.cond (.tmp tq) .skip (.exit bid')) (.block b1 (.seq (.region eid eops false) body))))) =>
  (match ops.toList.getLast?,nops.toList,eops.toList with
  | some ⟨some tr,.range ty (.tmp m0),_,_,_,none⟩,[⟨some dn,.next (.tmp tr1) false,_,_,_,none⟩,⟨some tq1,.extract (.tmp dn1) 0,_,_,_,none⟩],⟨some de,.entry (.tmp tr2),_,_,_,none⟩::_ =>
   if bid'=bid/\tr1=tr/\tr2=tr/\tq1=tq/\dn1=dn then some ⟨id,nid,eid,bid,b1,tr,dn,tq,de,m0,ops,nops,eops,body,ty⟩else none
  | _,_,_=>none)
 | _,_=>none
noncomputable def Iq(yf:Yc)(ms:MS)(x:X):Option (List (Exit×X)) :=
 if(j4 P ms.ty).isSome=true/\ms.tr<x.n then(match sG P V.T true false ms.ops.toList x.nx ms.ops.toList.dropLast 0 ⟨x.n,x.t,x.h,x.nx+ms.ops.size,x.j⟩with
  | none=>none
  | some x1=>if wV x1.t=true then(match bV x1.t (bE ms.m0)with
   | .mp r=>(match htab x1.h r with
    | none=>none
    | some bl=>match gD bl with
     | none=>none
     | some kv=>if kv.length=2*(kv.length / 2)then
       dP (kv.length / 2) λn=>tset x1.t (bE ms.tr) BJ λt=>match yF P V R yf r n ms.tr ms.dn ms.tq ms.de ms.bid ms.b1 ms.eops ms.body (n+2) [] ⟨x1.n,t,x1.h,x1.nx,x1.j⟩with
        | none=>none
        | some outs=>gW (λo=>tset o.2.t (bE ms.tr) .junk λt=>if wV t=true then some [(o.1,(⟨o.2.n,t,o.2.h,o.2.nx,o.2.j⟩:X))]else none) outs
      else none)
   | _=>none)else none)else none
noncomputable def o7(yf:Yc)(c:Code)(x:X):Option (List (Exit×X)):=match c with
 | .skip=>some [(.normal,x)]
 | .exit id=>some [(.exit id,x)]
 | .ret=>some [(.ret,x)]
 | .seq a b=>(match CJ a b with
  | some ms=>Iq P V R yf ms x
  | none=>Ea (R.code yf a x) (R.code yf b))
 | .cond c a b=>(match aW x.t c with
  | .v (.bool true)=>R.code yf a x
  | .v (.bool false)=>R.code yf b x
  | _=>none)
 | .block id c=>(match R.code yf c x with
  | none=>none
  | some outs=>some (outs.map λo=>match o.1 with | .exit j=>if j=id then(.normal,o.2)else(.exit j,o.2)|e=>(e,o.2)))
 | .loop c=>Ea (R.code yf c x) (R.code yf (.loop c))
 | .region id ops draw=>if draw=true then P8 P V R yf id ops x else P7 P V R yf ops x
 | .rangeFunc gf ps assign body=>(match yf with
  | .top=>Ip P R gf ps assign body x
  | _=>none)
 | _=>none
def ym(s:S):List ResultVar->Bool
 | []=>true
 | .tmp _::rs=>ym s rs
 | .cell a t::rs=>decide ((iq P t (s.t a) s.h).2)&&ym s rs
theorem Cf{s:S}:∀{rs:List ResultVar},ym P s rs=true->qx P s rs
 | [],_=>trivial
 | .tmp _::rs,h=>⟨trivial,Cf h⟩
 | .cell a t::rs,h=>by
  simp only[ym,XT,XV]at h;exact⟨h.1,Cf h.2⟩
noncomputable def X.S(x:X):S:={ n:=x.n,t:=λi=>bV x.t (bE i),h:=htab x.h,nx:=x.nx }
noncomputable def Ls(fn:Func)(n m:Nat)(o:Exit×X):Option (List (D×List (Nat×av)×Nat)) :=
 if yJ o.1=true/\ym P o.2.S fn.results.toList=true then
  Dw (lK P fn.results.toList o.2.S) λd=>dP o.2.nx λnx=>some [(d,Co n m d o.2.h,nx)]
 else none
noncomputable def Lm(fn:Func)(o:Exit×X):Option (List D) :=
 if yJ o.1=true/\ym P o.2.S fn.results.toList=true/\jC o.2.S.h 8 (lK P fn.results.toList o.2.S)then
  jN (wk (gP o.2.S.h 8 (lK P fn.results.toList o.2.S))) λd=>some [d]else none
def allEq:List D->Option D
 | d::l=>if l.all (mQ d)=true then some d else none
 | []=>none
noncomputable def ES(f:FuncId)(args:List D):Option D:=match P.funcs[f]? with
 | none=>none
 | some fn=>match fn.body with
  | none=>none
  | some c=>if V.nf f=false/\jl P f=true/\args.all D.nr=true/\args.length<=fn.ntmps then
    vV args 0 .nil λt=>match R.code .top c ⟨fn.ntmps,t,[],0,none⟩with
    | none=>none
    | some outs=>match gW (Lm P fn) outs with
     | none=>none
     | some ds=>allEq ds
   else none
noncomputable def ET:uo:=λf args h n=>match V.ext f args h n with
 | some outs=>some outs
 | none=>match R.pure f args with
  | some d=>some [(d,h,n)]
  | none=>match P.funcs[f]? with
   | none=>none
   | some fn=>match fn.body with
    | none=>none
    | some c=>if jl P f=true/\args.length<=fn.ntmps then
      vV args 0 .nil λt=>match R.code .top c ⟨fn.ntmps,t,h,n,none⟩with
      | none=>none
      | some outs=>gW (Ls P fn n h.length) outs
     else none
noncomputable def uG:Nat->Rn
 | 0=>⟨λ_ _ _=>none,λ_ _ _ _=>none,λ_ _=>none⟩
 | k+1=>⟨o7 P V (uG k),ET P V (uG k),ES P V (uG k)⟩
end
section
variable [aa P] {V : Ev} {R : Rn} {ro : Option Nat} {Q : Exit -> S -> Prop} {l : Nat × Nat} {E : Option Code -> Env}
def xR(P:Program)[aa P](call:uo):Prop:=∀k az h n outs,call k az h n=some outs->dz P k az (htab h) n λd h' n'=>∃o∈outs,d=o.1/\h'=htab o.2.1/\n'=o.2.2
def zq(P:Program)[aa P](pure:FuncId->List D->Option D):Prop:=∀f az d,pure f az=some d->PureCt P f az d
structure ul(P:Program)[aa P](V:Ev):Prop where
 T:V.T.Ok P
 ext:xR P V.ext
def JA{T:fO}(hT:T.Ok P){pure:FuncId->List D->Option D}(hp:zq P pure):(kK T pure).Ok P:=by
 intro f az d h
 unfold kK at h
 simp only at h
 split at h
 .
  rename_i d' hd
  simp only[XU]at h;subst h;exact hT _ _ _ hd
 exact hp _ _ _ h
def IX(P:Program)[aa P](y:YF)(ps:List Nat)(n:Nat)(assign body:Code)(t:Nat->D)(l:Nat):Prop:=∀xs h nx outs,y xs h nx=some outs->xs.length=ps.length/\(∀p∈ps,p<n) /\
 DW P (some l) assign (thenS (λs2=>s2.e=Env.tt/\DW P (some l) body (λe s'=>s'.e=Env.tt /\ ∃b j,(match e with | .normal=>b=true/\j=none | .ret=>b=false/\j=some .ret | .exit i=>b=false/\j=some (.exit i)|_=>False) /\ ∃o∈outs,b=o.1/\j=o.2.1/\s'.h=htab o.2.2.1/\s'.nx=o.2.2.2) s2) (λ_ _=>False)) { n:=n,t:=lH t ps xs,h:=htab h,nx:=nx }
def uj(P:Program)[aa P](yf:Yc)(ro:Option Nat)(l:Nat×Nat)(E:Option Code->Env):Prop:=match yf with
 | .top=>ro=none/\l.1=0/\E=EO
 | .round=>l.1=0/\E=EO
 | .iter y=>ro=none /\ ∃(r:Loop)(t:Nat->D),E=(λj=>Env.loop l.1 (recAt r j) t)/\IX P y r.params.toList r.tmps.size r.assign r.body t l.1
theorem Lx(hV:ul P V){call:uo}(hc:xR P call){yf:Yc}(hy:uj P yf ro l E){ops:Array Oper}:∀(os:List Oper)(i b:Nat)(x:X)(outs:List X),os=ops.toList.drop i->i<=ops.size->x.nx=b+ops.size ->
  pG P V call yf ops.toList ops.size os i b x=some outs->(∀x'∈outs,x'.n=x.n) /\ ∀Q:Exit->S->Prop,(∀x'∈outs,Q .normal (x'.SL l E))->iX P ro ops i b (x.SL l E) Q:=by
 intro os
 induction os with
 | nil =>
  intro i b x outs ho hi hn h;have h:some [x]=some outs:=h;simp only[XU]at h;subst h;have hi':i=ops.size:=by
   have:=congrArg List.length ho
   simp at this
   omega
  exact⟨by simp,λQ hQ=>Uc hi' hn (hQ x (by simp))⟩
 | cons o os ih =>
  intro i b x outs ho hi hn h;have hlt:i<ops.size:=by
   have:=congrArg List.length ho
   simp at this
   omega
  have hd:ops.toList.drop i=ops[i]::ops.toList.drop (i+1):=by rw[Yr (by simpa using hlt)];simp
  rw[hd]at ho;simp only[Yt]at ho;obtain⟨ho1,ho2⟩:=ho;have hoi:ops[i]? = some o:=by rw[ho1];simp[hlt]
  have plain : ∀{C:aH}{x':X},qR ops.toList o (x.SL l E)=some true->(Bu P C o (b+i) (x.SL l E) (x'.SL l E)/\x'.n=x.n/\x'.nx=x.nx/\x'.j=x.j)->pG P V call yf ops.toList ops.size os (i+1) b x'=some outs ->
    (∀x'∈outs,x'.n=x.n) /\ ∀Q:Exit->S->Prop,(∀x'∈outs,Q .normal (x'.SL l E))->iX P ro ops i b (x.SL l E) Q:=by
   intro C x' hg ⟨q1,q4,q5,q6⟩ h;obtain⟨r1,r2⟩:=ih (i+1) b x' outs ho2 hlt (by rw[q5,hn]) h
   exact⟨λy hy=>(r1 y hy).trans q4,λQ hQ=>TZ hoi hg q1 (r2 Q hQ)⟩
  have h:zH P V call yf ops.toList ops.size o (pG P V call yf ops.toList ops.size os) i b x=some outs:=h;unfold zH at h
  split at h
  . cases h
  .
   rename_i hg
   have hg:=NN (l:=l) (E:=E) hg
   split at h
   .
    rename_i x' hx'
    obtain⟨hdo,q1,q2,q3,q4⟩:=X.finF_S (l:=l) (E:=E) hx';obtain⟨r1,r2⟩:=ih (i+1) b x' outs ho2 hlt (by rw[q3,hn]) h
    refine⟨λy hy=>(r1 y hy).trans q2,λQ hQ=>TY hoi hg hdo (.b false) ?_⟩
    have r2:=r2 Q hQ;rw[q1]at r2;exact r2
   cases h
  rename_i hg
  have hg:=NN (l:=l) (E:=E) hg
  split at h
  .
   rename_i x' hx'
   exact plain hg (X.run2_sound (C:=V.T.con true) hx') h
  split at h
  .
   rename_i x' hx'
   exact plain hg (X.run1_sound hV.T hx') h
  split at h
  .
   rename_i x' hx'
   exact plain hg (X.run1_sound hV.T hx') h
  split at h
  .
   rename_i hdo
   split at h
   .
    rename_i k az hk
    obtain⟨f,args,ts,first,aK,e1,e2,e3,e4,rfl⟩:=Qo hk
    split at h
    . cases h
    rename_i outs1 ho1
    have one : ∀(r:D×List (Nat×av)×Nat)(o1:List X),(match(X.mk x.n x.t x.h (r.2.2+ops.size) x.j).finK o.dst r.1 r.2.1 with
      | some x'=>pG P V call yf ops.toList ops.size os (i+1) r.2.2 x'
      | none=>none)=some o1->(∀x'∈o1,x'.n=x.n) /\ ∀Q:Exit->S->Prop,(∀x'∈o1,Q .normal (x'.SL l E))->iX P ro ops (i+1) r.2.2 { x.SL l E with t:=(x.SL l E).put o.dst r.1,h:=htab r.2.1,nx:=r.2.2+ops.size,ok:=True } Q:=by
     intro r o1 h1
     split at h1
     .
      rename_i x' hx'
      obtain⟨_,q1,q2,q3,q4⟩:=X.finK_S (l:=l) (E:=E) (x:=X.mk x.n x.t x.h (r.2.2+ops.size) x.j) hx';obtain⟨r1,r2⟩:=ih (i+1) r.2.2 x' o1 ho2 hlt q3 h1;refine⟨λy hy=>(r1 y hy).trans q2,λQ hQ=>?_⟩
      have r2:=r2 Q hQ;rw[q1]at r2;exact r2
     cases h1
    have hev:args.toList.map (x.SL l E).ev=args.toList.map (aW x.t):=xK e4;refine⟨λy hy=>?_,λQ hQ=>?_⟩
    . obtain⟨r,h1,o1,h2,h3⟩:=mY h y hy;exact(one r o1 h2).1 y h3
    refine Uj _ hoi e1 hg hdo (by rw[kr (by rw[e2];rfl)];exact e2) (by rw[hev];exact e3) (by rw[hev];exact hc _ _ _ _ _ ho1) ?_
    rintro res h' n' ⟨r,hr,rfl,rfl,rfl⟩;obtain⟨o1,h2,h3⟩:=ll h r hr;exact(one r o1 h2).2 Q λy hy=>hQ y (h3 y hy)
   split at h
   .
    rename_i ht
    split at h
    . cases h
    rename_i outs1 ho1
    have one : ∀(r:D×List (Nat×av))(o1:List X),(match x.finK o.dst r.1 r.2 with
      | some x'=>pG P V call yf ops.toList ops.size os (i+1) b x'
      | none=>none)=some o1->(∀x'∈o1,x'.n=x.n) /\ ∀Q:Exit->S->Prop,(∀x'∈o1,Q .normal (x'.SL l E))->iX P ro ops (i+1) b { x.SL l E with t:=(x.SL l E).put o.dst r.1,h:=htab r.2,ok:=True } Q:=by
     intro r o1 h1
     split at h1
     .
      rename_i x' hx'
      obtain⟨_,q1,q2,q3,q4⟩:=X.finK_S (l:=l) (E:=E) hx';obtain⟨r1,r2⟩:=ih (i+1) b x' o1 ho2 hlt (q3.trans hn) h1;refine⟨λy hy=>(r1 y hy).trans q2,λQ hQ=>?_⟩
      have r2:=r2 Q hQ;rw[q1]at r2;exact r2
     cases h1
    have hev:=xK (l:=l) (E:=E) ht;obtain⟨d1,d2⟩:=Ov (s:=x.SL l E) (by rw[hev];exact ho1) rfl
    refine⟨λy hy=>?_,λQ hQ=>?_⟩
    . obtain⟨r,h1,o1,h2,h3⟩:=mY h y hy;exact(one r o1 h2).1 y h3
    refine Ue _ hoi hg hdo d1 d2 ?_;rintro d h' ⟨r,hr,rfl,rfl⟩;obtain⟨o1,h2,h3⟩:=ll h r hr;exact(one r o1 h2).2 Q λy hy=>hQ y (h3 y hy)
   split at h
   .
    rename_i y xs hyx hj h00
    split at h
    . cases h
    rename_i outs1 ho1
    obtain⟨i',args,ts,e1,e2,e3,e4,rfl⟩:=QZ hyx;obtain⟨rfl,r,t,rfl,hR⟩:=hy;obtain⟨p1,p2,p3⟩:=hR _ _ _ _ ho1;have one : ∀(r':Bool×Option Code×List (Nat×av)×Nat)(o1:List X),(match(X.mk x.n x.t x.h (r'.2.2.2+ops.size) r'.2.1).finK o.dst (.b r'.1) r'.2.2.1 with
      | some x'=>pG P V call (.iter y) ops.toList ops.size os (i+1) r'.2.2.2 x'
      | none=>none)=some o1->(∀x'∈o1,x'.n=x.n) /\ ∀Q:Exit->S->Prop,(∀x'∈o1,Q .normal (x'.SL l λj=>Env.loop l.1 (recAt r j) t)) ->
      iX P none ops (i+1) r'.2.2.2 { n:=(x.SL l λj=>Env.loop l.1 (recAt r j) t).n,t:=(x.SL l λj=>Env.loop l.1 (recAt r j) t).put o.dst (.v (.bool r'.1)),h:=htab r'.2.2.1,nx:=r'.2.2.2+ops.size,ok:=True,e:=Env.loop l.1 (recAt r r'.2.1) t } Q:=by
     intro r' o1 h1
     split at h1
     .
      rename_i x' hx'
      obtain⟨_,q1,q2,q3,q4⟩:=X.finK_S (l:=l) (E:=λj=>Env.loop l.1 (recAt r j) t) (x:=X.mk x.n x.t x.h (r'.2.2.2+ops.size) r'.2.1) hx'
      obtain⟨r1,r2⟩:=ih (i+1) r'.2.2.2 x' o1 ho2 hlt q3 h1;refine⟨λy hy=>(r1 y hy).trans q2,λQ hQ=>?_⟩
      have r2:=r2 Q hQ;rw[q1]at r2;exact r2
     cases h1
    have hev:args.toList.map (x.SL l λj=>Env.loop l.1 (recAt r j) t).ev=args.toList.map (aW x.t):=xK e4
    refine⟨λy hy=>?_,λQ hQ=>?_⟩
    . obtain⟨r',h1,o1,h2,h3⟩:=mY h y hy;exact(one r' o1 h2).1 y h3
    refine TT (r:=r) (t:=t) (l:=l.1) (λbb j h' n'=>∃o∈outs1,bb=o.1/\j=o.2.1/\h'=htab o.2.2.1/\n'=o.2.2.2) hoi e1 hg (by simp only[X.SL,hj]) hdo ?_ (by rw[hev];exact e3) (by rw[hev]) (by rw[p1,Array.length_toList]) p2 p3 ?_
    .
     show cZ l (bV x.t (bE i'))=_
     rw[e2];rfl
    rintro bb j h' n' ⟨r',hr,rfl,rfl,rfl,rfl⟩;obtain⟨o1,h2,h3⟩:=ll h r' hr;exact(one r' o1 h2).2 Q λy hy=>hQ y (h3 y hy)
   cases h
  cases h
theorem sF{call:uo}{yf:Yc}{L:List Oper}{sz:Nat}:∀{os:List Oper}{i b:Nat}{x:X}{outs:List X},pG P V call yf L sz os i b x=some outs -> ∀x'∈outs,x'.n=x.n
 | [],i,b,x,outs,h=>by
  have h:some [x]=some outs:=h;simp only[XU]at h;subst h
  simp
 | o::os,i,b,x,outs,h=>by
  have h:zH P V call yf L sz o (pG P V call yf L sz os) i b x=some outs:=h;have viaF : ∀{y:X}{dst:Option Tmp}{d:D}{h:List (Nat×av)}{x1:X},y.finF dst d h=some x1->x1.n=y.n:=λq=>(X.finF_S (l:=L0) (E:=EO) q).2.2.1
  have viaK : ∀{y:X}{dst:Option Tmp}{d:D}{h:List (Nat×av)}{x1:X},y.finK dst d h=some x1->x1.n=y.n:=λq=>(X.finK_S (l:=L0) (E:=EO) q).2.2.1
  have via1 : ∀{cf bs:Bool}{x1:X},x.run1 P V.T cf bs b i o=some x1->x1.n=x.n:=by
   intro cf bs x1 q;unfold X.run1 at q;rw[yV]at q
   split at q
   .
    split at q
    . rw[GK]at q;exact viaK q
    exact viaK q
   cases q
  unfold zH at h
  split at h
  . cases h
  .
   split at h
   .
    rename_i x' hx'
    exact λy hy=>(sF h y hy).trans (viaF hx')
   cases h
  split at h
  .
   rename_i x' hx'
   exact λy hy=>(sF h y hy).trans (X.run2_sound (P:=P) (C:=V.T.con true) (l:=L0) (E:=EO) hx').2.1
  split at h
  .
   rename_i x' hx'
   exact λy hy=>(sF h y hy).trans (via1 hx')
  split at h
  .
   rename_i x' hx'
   exact λy hy=>(sF h y hy).trans (via1 hx')
  split at h
  .
   split at h
   .
    split at h
    . cases h
    intro y hy;obtain⟨r,h1,o1,h2,h3⟩:=mY h y hy
    split at h2
    .
     rename_i x' hx'
     exact(sF h2 y h3).trans (viaK (y:=X.mk x.n x.t x.h (r.2.2+sz) x.j) hx')
    cases h2
   split at h
   .
    split at h
    . cases h
    intro y hy;obtain⟨r,h1,o1,h2,h3⟩:=mY h y hy
    split at h2
    .
     rename_i x' hx'
     exact(sF h2 y h3).trans (viaK hx')
    cases h2
   split at h
   .
    split at h
    . cases h
    intro y hy;obtain⟨r,h1,o1,h2,h3⟩:=mY h y hy
    split at h2
    .
     rename_i x' hx'
     exact(sF h2 y h3).trans (viaK (y:=X.mk x.n x.t x.h (r.2.2.2+sz) r.2.1) hx')
    cases h2
   cases h
  cases h
theorem Kq{c:Code}:∀{m m':Nat}{s:S},m<=m'->kR P ro c Q m s->kR P ro c Q m' s
 | 0,_,_,_,h=>h.elim
 | m+1,0,_,hm,_=>by omega
 | m+1,m'+1,s,hm,h=>DW.mono h λe s' hq=>by
  cases e with
  | normal=>exact⟨Kq om hq.1,hq.2⟩
  | _=>exact hq
theorem Kr{c:Code}{Q':Exit->S->Prop}(hq : ∀e s,Q e s->Q' e s):∀{m:Nat}{s:S},kR P ro c Q m s->kR P ro c Q' m s
 | 0,_,h=>h.elim
 | m+1,s,h=>DW.mono h λe s' h=>by
  cases e with
  | normal=>exact⟨Kr hq h.1,h.2⟩
  | _=>exact hq _ _ h
theorem gd_ok{L:List Oper}{x:X}{j:Nat}{want:Bool}(h:jm (AR L x.t j)=true):jm (qV L (x.SL l E) j)=true/\fq (qV L (x.SL l E) j) want=fq (AR L x.t j) want:=by
 unfold qV AR at *
 cases hi:(L[j]?).bind (·.dst)with
 | none=>rw[hi]at h;cases h
 | some i =>
  rw[hi]at h;simp only[Option.elim]at h ⊢;have:bX (bV x.t (bE i))=false:=by
   cases ht:bX (bV x.t (bE i))with
   | false=>rfl
   | true=>rcases Zab ht with q|q<;>(rw[q]at h;cases h)
  show jm (cZ l (bV x.t (bE i)))=true/\fq (cZ l (bV x.t (bE i))) want=_
  rw[uK this];exact⟨h,rfl⟩
def X.runG_sound{T:fO}(hT:T.Ok P){cf bs g:Bool}{b i:Nat}{o:Oper}{x x':X}(q:x.runG P T cf bs g b i o=some x') :
  bS x.n o.dst=true/\aX (T.con cf bs) o.op ≠ .writes/\(g=true->(ak P (words P) (T.con cf bs) g o.op ((au o.op).map (x.SL l E).ev) (x.SL l E).h (b+i)).2.2) /\
  x'.SL l E={ x.SL l E with t:=(x.SL l E).put o.dst (.cond g (ak P (words P) (T.con cf bs) g o.op ((au o.op).map (x.SL l E).ev) (x.SL l E).h (b+i)).1) }/\x'.n=x.n/\x'.nx=x.nx/\x'.j=x.j:=by
 unfold X.runG at q
 rw[yV]at q
 split at q
 .
  rename_i hc
  obtain⟨ht,hw,hok⟩:=hc;obtain⟨w1,w2⟩:=Pe (P:=P) (W:=T.words) (W':=words P) (C:=T.con cf bs) (g:=g) (op:=o.op) (xs:=(au o.op).map (aW x.t)) (h:=htab x.h) (b:=b+i);obtain⟨hd,q1,q2,q3,q4⟩:=X.finK_S (l:=l) (E:=E) q;have hev:=xK (l:=l) (E:=E) ht;rw[hev];refine⟨hd,λe=>?_,λhg=>Pb hT (hok hg),?_,q2,q3,q4⟩
  .
   rw[Ao,e]at hw
   cases hw
  rw[q1]
  show _={ x.SL l E with t:=(x.SL l E).put o.dst (.cond g (ak P (words P) (T.con cf bs) g o.op ((au o.op).map (aW x.t)) (htab x.h) (b+i)).1) }
  rw[w1];rfl
 cases q
def LB{T:fO}(hT:T.Ok P){cf bs:Bool}{L:List Oper}{b i:Nat}{o:Oper}{x x':X}(q:Prop)(h:Cy P T cf bs L b i o x=some x'):∃q':Prop,(q->q')/\bL P (words P) (T.con cf bs) L b i o { x.SL l E with ok:=q }={ x'.SL l E with ok:=q' }/\x'.n=x.n/\x'.nx=x.nx/\x'.j=x.j:=by
 unfold Cy at h
 split at h
 .
  rename_i j want hg
  split at h
  .
   rename_i hgk
   obtain⟨k1,k2⟩:=gd_ok (l:=l) (E:=E) (want:=want) hgk;rw[<-k2]at h;obtain⟨q1,q2,q3,q4,q5⟩:=X.runG_sound (l:=l) (E:=E) hT h;refine⟨q/\bS x.n o.dst=true/\jm (qV L (x.SL l E) j)=true/\aX (T.con cf bs) o.op ≠ .writes/\(fq (qV L (x.SL l E) j) want=true->(ak P (words P) (T.con cf bs) (fq (qV L (x.SL l E) j) want) o.op ((au o.op).map (x.SL l E).ev) (x.SL l E).h (b+i)).2.2),λhq=>⟨hq,q1,k1,q2,q3⟩,?_,q5⟩
   rw[q4];unfold bL;rw[hg];rfl
  cases h
 rename_i hg
 obtain⟨⟨q1,q2,q3⟩,q4⟩:=X.run1_sound (l:=l) (E:=E) hT h
 refine⟨q/\bS x.n o.dst=true/\(ak P (words P) (T.con cf bs) true o.op ((au o.op).map (x.SL l E).ev) (x.SL l E).h (b+i)).2.2,λhq=>⟨hq,q1,q2⟩,?_,q4⟩
 rw[q3]
 unfold bL
 rw[hg]
 rfl
theorem yw{T:fO}(hT:T.Ok P){cf bs:Bool}{L:List Oper}{b:Nat}:∀(os:List Oper)(i:Nat)(x x':X)(q:Prop),sG P T cf bs L b os i x=some x' -> ∃q':Prop,(q->q')/\bB P (words P) (T.con cf bs) L b i os { x.SL l E with ok:=q }={ x'.SL l E with ok:=q' }/\x'.n=x.n/\x'.nx=x.nx/\x'.j=x.j
 | [],i,x,x',q,h=>by
  simp only[sG,XU]at h;subst h;exact⟨q,id,rfl,rfl,rfl,rfl⟩
 | o::os,i,x,x',q,h=>by
  unfold sG at h
  split at h
  .
   rename_i x1 h1
   obtain⟨q1,r1,r2,r3,r4,r5⟩:=LB (l:=l) (E:=E) hT q h1;obtain⟨q2,s1,s2,s3,s4,s5⟩:=yw hT (L:=L) os (i+1) x1 x' q1 h;refine⟨q2,λhq=>s1 (r1 hq),?_,s3.trans r3,s4.trans r4,s5.trans r5⟩
   rw[<-s2,<-r2];rfl
  cases h
def DV{T:fO}(hT:T.Ok P){cf:Bool}{id:Nat}{ops:Array Oper}{x x':X}(hd:DX P T cf ops.toList=true)(h:sG P T cf false ops.toList x.nx ops.toList 0 ⟨x.n,x.t,x.h,x.nx+ops.size,x.j⟩=some x'):x'.n=x.n/\DW P ro (.region id ops true) (λe s=>∃o∈[((.normal,x'):Exit×X)],e=o.1/\s=o.2.SL l E) (x.SL l E):=by
 obtain⟨q',r1,r2,r3,r4,r5⟩:=yw (l:=l) (E:=E) hT (L:=ops.toList) (b:=x.nx) ops.toList 0 ⟨x.n,x.t,x.h,x.nx+ops.size,x.j⟩ x' True h
 simp only[DX,XT]at hd
 have he:exec P (words P) (T.con cf) ops.toList (x.SL l E)={ x'.SL l E with ok:=q' }:=r2
 refine⟨r3,Pg (C:=T.con cf) (λ_=>⟨hd.1.1,hd.1.2,hd.2⟩) (by rw[he];exact r1 trivial) ?_⟩
 rw[he]
 exact⟨_,.head _,rfl,rfl⟩
def um(P:Program)[aa P](code:Yc->Code->X->Option (List (Exit×X))):Prop:=∀yf c x outs,code yf c x=some outs->(∀o∈outs,o.2.n=x.n) /\
 ∀ro l E,uj P yf ro l E->DW P ro c (λe s=>∃o∈outs,e=o.1/\s=o.2.SL l E) (x.SL l E) /\ ∀c',c = .loop c' -> ∃m,kR P ro c' (λe s=>∃o∈outs,e=o.1/\s=o.2.SL l E) m (x.SL l E)
theorem upTo{α:Type}{p:Nat->α->Prop}(hp : ∀m m' a,m<=m'->p m a->p m' a):∀l:List α,(∀a∈l,∃m,p m a) -> ∃m,∀a∈l,p m a
 | [],_=>⟨0,by simp⟩
 | a::l,h=>by
  obtain⟨m1,h1⟩:=h a (by simp)
  obtain⟨m2,h2⟩:=upTo hp l λb hb=>h b (by simp[hb])
  refine⟨m1+m2,λb hb=>?_⟩
  rcases Yv.1 hb with rfl|hb
  . exact hp _ _ _ om h1
  exact hp _ _ _ om (h2 b hb)
theorem UY{c:Code}{outs:List (Exit×X)}{n:Nat}(h : ∀o∈outs,o.1 = .normal->(∃m,kR P ro c Q m (o.2.SL l E))/\o.2.n=n)(hx : ∀o∈outs,o.1 ≠ .normal->Q o.1 (o.2.SL l E)){x:X}(hn:x.n=n)
  (hb:DW P ro c (λe s=>∃o∈outs,e=o.1/\s=o.2.SL l E) (x.SL l E)):∃m,kR P ro c Q m (x.SL l E):=by
 obtain⟨m,hm⟩:=upTo (p:=λm(o:Exit×X)=>o.1 = .normal->kR P ro c Q m (o.2.SL l E)) (λm m' o hm k e=>Kq hm (k e)) outs λo ho=>by
  by_cases e:o.1 = .normal
  . obtain⟨m,k⟩:=(h o ho e).1;exact⟨m,λ_=>k⟩
  exact⟨0,λe'=>absurd e' e⟩
 refine⟨m+1,DW.mono hb ?_⟩
 rintro e s ⟨o,ho,rfl,rfl⟩
 obtain⟨e,y⟩:=o
 cases e with
 | normal=>exact⟨hm _ ho rfl,((h _ ho rfl).2).trans hn.symm⟩
 | _=>exact hx _ ho (by simp)
end
section
variable [aa P] {V : Ev} {R : Rn} {ro : Option Nat} {Q : Exit -> S -> Prop} {l : Nat × Nat} {E : Option Code -> Env}
def Q4{s:S}{B:bH}{g:Mem}{a:Act}{w:World}{N:Nat}{o:Oper}{f:Operand}{args:Array Operand}{ts:Array TypeId}{fw:FuncId}{first aK:List D}{R:D->H->Nat->Prop}(hs:St P B s g a w)
  (hop:o.op = .call { callee:=.value f,args:=args,argTypes:=ts })(hf:s.ev f = .fn (.func fw) first aK)(hxg:(args.toList.map s.ev).all sg=true)(hct:dz P fw (first++(args.toList.map s.ev).map sd++aK) s.h N R)(hU : ∀r,g.U r->r<N)
  {Q':Exit->Act->World->Prop}{K:Act->World->Prop}(hK : ∀res h' n',R res h' n' -> ∀v g' w',ag w' g' res v->HM P h' g' w'->ay g g' w w'->(∀r,g'.U r->r<n')->K (a.put o.dst v) w'):o.wpIn (Fw ro) 0 P a w K Q':=by
 have hdef : ∀c,o.op ≠ .defer c:=by intro c e;rw[e]at hop;cases hop
 have gq:o.semAt (Fw ro).round a.eval=execOp a.eval o:=Oper.semAt_eq _ _ _ hdef
 refine⟨λ_ _=>trivial,?_⟩
 rw[gq]
 obtain⟨hbd,hct⟩:=hct
 have hfr:=cu hs f
 rw[hf]at hfr
 have jJ:=uA (tN hs args.toList) hxg
 generalize hv:a.eval f=vf at hfr
 cases hfr with|fn _ _ _ fs cs l1 l2 r1 r2 =>
 have hrun:(execOp a.eval o).run P w = .ok (.enter fw (fs++args.map a.eval++cs)) w:=by
  simp[execOp,hop,resolve,Deferred.ofValue,hv,invoke,xM hbd]
 rw[hrun,Oper.uponIn_enter]
 have e:fs++args.map a.eval++cs=(fs.toList++args.toList.map a.eval++cs.toList).toArray:=by apply Zd;simp
 rw[e]
 refine⟨λh=>by simp[Fw,Fence.wide]at h,zg ((hct w g _ hs.mem hU (aC.append (aC.append ⟨by simpa using l1,λi d x h1 h2=>r1 i d x h1 (by simpa using h2)⟩ jJ) ⟨by simpa using l2,λi d x h1 h2=>r2 i d x h1 (by simpa using h2)⟩)).mono ?_)⟩
 rintro e w' ⟨v,g',res,h',n',hR,rfl,q1,q2,q3,q4⟩
 exact hK res h' n' hR v g' w' q1 q2 q3 q4
def Q3{g:Mem}{a:Act}{w:World}{o:Oper}{b:Nat}{A:D->H->Prop}(hdef : ∀c,o.op ≠ .defer c)(hd : ∃d h',A d h'/\Does P g w b ((execOp a.eval o).run P w) d h')(hU : ∀r,g.U r->r<b)
  {Q':Exit->Act->World->Prop}{K:Act->World->Prop}(hK : ∀d h',A d h' -> ∀v g' w',ag w' g' d v->HM P h' g' w'->ay g g' w w'->(∀r,g'.U r->r<b+1)->K (a.put o.dst v) w'):o.wpIn (Fw ro) 0 P a w K Q':=by
 have gq:o.semAt (Fw ro).round a.eval=execOp a.eval o:=Oper.semAt_eq _ _ _ hdef
 refine⟨λ_ _=>trivial,?_⟩
 rw[gq]
 obtain⟨d,h',hA,v,g',w',hrun,q1,q2,q3,q4⟩:=hd
 have nY : ∀r,g'.U r->r<b+1:=λr hr=>by
  rcases q4 r hr with h|h
  . have:=hU r h;omega
  omega
 rcases hrun with hrun|⟨hrun,rfl⟩
 . rw[hrun,Oper.uponIn_value];exact hK d h' hA v g' w' q1 q2 q3 nY
 rw[hrun,Oper.uponIn_skip];exact hK d h' hA undef g' w' q1 q2 q3 nY
theorem FU{T:fO}(hT:T.Ok P){L:List Oper}{b:Nat}:∀(is:List Nat)(x x':X)(q:Prop),zX P T L b is x=some x' -> ∃q':Prop,(q->q')/\is.foldl (run1 P (words P) (T.con true true) L b) { x.SL l E with ok:=q }={ x'.SL l E with ok:=q' }/\x'.n=x.n/\x'.nx=x.nx/\x'.j=x.j
 | [],x,x',q,h=>by
  simp only[zX,XU]at h;subst h;exact⟨q,id,rfl,rfl,rfl,rfl⟩
 | i::is,x,x',q,h=>by
  unfold zX at h
  split at h
  . cases h
  rename_i o ho
  split at h
  .
   rename_i x1 h1
   obtain⟨q1,r1,r2,r3,r4,r5⟩:=LB (l:=l) (E:=E) hT q h1;obtain⟨q2,s1,s2,s3,s4,s5⟩:=FU hT (L:=L) is x1 x' q1 h;refine⟨q2,λhq=>s1 (r1 hq),?_,s3.trans r3,s4.trans r4,s5.trans r5⟩
   rw[<-s2,<-r2];simp only[Yz,run1,ho]
  cases h
def IC{a b:Option av}(h:IE a b=true):a=b:=by
 unfold IE at h
 split at h
 . simp only[XT,Nat.beq_eq]at h;rw[h.1,HY h.2]
 . rfl
 cases h
def XJ{h' h:List (Nat×av)}{d:D}(k:Al h' h d=true):∀r,named r (sd d)=true->htab h' r=htab h r:=by
 intro r hr
 unfold Al at k
 split at k
 .
  rename_i e
  rw[e]at hr;simp only[named,Yy]at hr;subst hr;exact IC k
 .
  rename_i e
  rw[e]at hr;simp only[named,Yy]at hr;subst hr;exact IC k
 .
  rename_i e
  rw[e]at hr;simp only[named,Yy]at hr;subst hr;exact IC k
 rename_i h1 h2 h3
 exfalso
 generalize sd d=d' at *
 cases d'<;>first|(cases hr;done)|exact h1 _ _ _ rfl|exact h2 _ _ _ rfl|exact h3 _ rfl
theorem U5{d:D}{r:Nat}(h:named r (sd (cZ l d))=true):named r (sd d)=true:=by
 unfold cZ at h
 cases ht:sO d with
 | true=>rw[ht]at h;cases h
 | false =>
  rw[ht]at h
  cases ht2:lX d with
  | true=>rw[ht2]at h;cases h
  | false=>rw[ht2]at h;exact h
theorem Zb4(hV:ul P V)(hc:xR P R.call)(hp:zq P R.pure){id:Nat}{ops:Array Oper}{k1 k2:Nat}{x:X}{outs:List (Exit×X)}(h:drX P V R ops k1 k2 x=some outs) :
  (∀o∈outs,o.2.n=x.n) /\ ∀ro(l:Nat×Nat),l.1=0->DW P ro (.region id ops true) (λe s=>∃o∈outs,e=o.1/\s=o.2.SL l EO) (x.SL l EO):=by
 have hT:=JA hV.T hp
 unfold drX at h
 split at h
 .
  rename_i hq
  obtain⟨xw,hD,hfl⟩:=hq
  split at h
  .
   rename_i o xq ho hxq
   split at h
   .
    rename_i hg
    obtain⟨hg,hdo⟩:=hg;have hg:o.guard=none:=Zb.1 hg
    split at h
    . cases h
    rename_i o1 h1
    split at h
    . cases h
    rename_i o2 h2
    simp only[XU]at h;subst h;have hk2:k2<=ops.size:=by
     unfold Bf at hD;simp only[XT,XV]at hD;have:=hD.1.1.1.1.2
     simpa using this
    have one : ∀(r:D×List (Nat×av)×Nat)(o3:List X),(if(flc ((kK V.T R.pure).con true true) ops.toList k1 k2).all (λp=>Al r.2.1 xq.h (bV xq.t (bE p.2)))=true then
      (match(X.mk xq.n xq.t xq.h (r.2.2+ops.size) xq.j).finK o.dst r.1 r.2.1 with
      | some x'=>pG P V R.call .round ops.toList ops.size (ops.toList.drop k2) k2 r.2.2 x'
      | none=>none)else none)=some o3->(∀p∈flc ((kK V.T R.pure).con true true) ops.toList k1 k2,Al r.2.1 xq.h (bV xq.t (bE p.2))=true)/\(∀x'∈o3,x'.n=x.n) /\ ∀ro(l:Nat×Nat)(_:l.1=0)(Q:Exit->S->Prop),(∀x'∈o3,Q .normal (x'.SL l EO))->iX P ro ops k2 r.2.2 { xq.SL l EO with t:=(xq.SL l EO).put o.dst r.1,h:=htab r.2.1,nx:=r.2.2+ops.size,ok:=True } Q:=by
     intro r o3 h3
     split at h3
     .
      rename_i hkp
      split at h3
      .
       rename_i x' hx'
       have q2:=(X.finK_S (l:=L0) (E:=EO) (x:=X.mk xq.n xq.t xq.h (r.2.2+ops.size) xq.j) hx').2.2.1;obtain⟨_,_,_,r3,_⟩:=FU (l:=L0) (E:=EO) hT _ x xq True hxq;refine⟨Yf.1 hkp,λy hy=>((sF h3 y hy).trans q2).trans r3,λro l hl0 Q hQ=>?_⟩
       obtain⟨_,q1,_,q3,q4⟩:=X.finK_S (l:=l) (E:=EO) (x:=X.mk xq.n xq.t xq.h (r.2.2+ops.size) xq.j) hx';have:=(Lx (ro:=ro) (l:=l) (E:=EO) hV hc (yf:=.round) ⟨hl0,rfl⟩ (ops.toList.drop k2) k2 r.2.2 x' o3 rfl hk2 q3 h3).2 Q hQ;rw[q1]at this;exact this
      cases h3
     cases h3
    refine⟨λy hy=>?_,λro l hl0=>?_⟩
    . obtain⟨z,hz,rfl⟩:=Yh.1 hy;obtain⟨r,k1,o3,k2,k3⟩:=mY h2 z hz;exact(one r o3 k2).2.1 z k3
    obtain⟨q',r1,r2,r3,r4,r5⟩:=FU (l:=l) (E:=EO) hT _ x xq True hxq;have hoi:ops[k1]? = some o:=by rwa [YH]at ho
    refine ZbT (C:=(kK V.T R.pure).con true true) (sq:={ xq.SL l EO with ok:=q' }) k1 k2 (λd h' n'=>∃r∈o1,d=r.1/\h'=htab r.2.1/\n'=r.2.2) xw hD hoi hg r2 (r1 trivial) hdo ?_ ?_ ?_
    .
     intro B Q' s' g a w hs e1 e2 e3 e4 hU K hK;unfold Li at h1
     split at h1
     .
      rename_i k az hk
      obtain⟨f,args,ts,first,aK,p1,p2,p3,p4,rfl⟩:=Qo hk
      have hev:args.toList.map s'.ev=args.toList.map (aW xq.t)/\s'.ev f=aW xq.t f:=by
       rw[p1]at e4;simp only[au,X8,Yt]at e4;have a1:args.toList.map (xq.SL l EO).ev=args.toList.map (aW xq.t):=xK p4;have a2:(xq.SL l EO).ev f=aW xq.t f:=kr (by rw[p2];rfl)
       exact⟨e4.2.trans a1,e4.1.trans a2⟩
      refine Q4 (N:=x.nx+k2) hs p1 (hev.2.trans p2) (by rw[hev.1];exact p3) (R:=λd h' n'=>∃r∈o1,d=r.1/\h'=htab r.2.1/\n'=r.2.2) ?_ hU λres h' n' hR v g' w' q1 q2 q3 q4=>hK res h' n' hR v g' w' q1 q2 q3 q4
      rw[hev.1,e1];exact hc _ _ _ _ _ h1
     split at h1
     .
      rename_i ht
      split at h1
      . cases h1
      rename_i o4 h4
      simp only[XU]at h1;subst h1;have hev:(au o.op).map s'.ev=(au o.op).map (aW xq.t):=e4.trans (xK (l:=l) (E:=EO) ht);obtain⟨d1,d2⟩:=Ov (s:=s') (by rw[hev];exact h4) e1
      refine Q3 d1 (d2 B g a w hs (λh=>Nat.lt_irrefl _ (hU _ h))) hU λd h' hA v g' w' q1 q2 q3 q4=>?_
      obtain⟨r,hr,rfl,rfl⟩:=hA;exact hK _ _ _ ⟨_,Yh.2 ⟨r,hr,rfl⟩,rfl,rfl,rfl⟩ v g' w' q1 q2 q3 q4
     cases h1
    .
     rintro res h' n' ⟨r,hr,rfl,rfl,rfl⟩ i oi hi hne hb hoi';obtain⟨o3,k3,_⟩:=ll h2 r hr;refine ZaV (C:=(kK V.T R.pure).con true true) (sq:={ xq.SL l EO with ok:=q' }) hfl (λp hp r' hr'=>?_) i oi hi hne hb hoi'
     exact XJ ((one r o3 k3).1 p hp) r' (U5 (l:=l) hr')
    rintro res h' n' ⟨r,hr,rfl,rfl,rfl⟩;obtain⟨o3,k3,k4⟩:=ll h2 r hr;exact(one r o3 k3).2.2 ro l hl0 _ λz hz=>⟨_,Yh.2 ⟨z,k4 z hz,rfl⟩,rfl,rfl⟩
   cases h
  cases h
 cases h
end
section
open Go.ChangeMaps (setBlock)
variable [aa P] {ro : Option Nat} {Q : Exit -> S -> Prop} {C : aH}
theorem rY{w:World}{l k:Nat}{o:Obj}(h:k≠l):(setBlock w l o).heap[k]? = w.heap[k]? := by
 simp only[setBlock]
 exact Array.getElem?_setIfInBounds_ne (Ne.symm h)
def TR{w:World}{l:Nat}{o:Obj}(h:l<w.heap.size):(setBlock w l o).heap[l]? = some o:=by
 simp only[setBlock]
 exact Array.getElem?_setIfInBounds_self_of_lt h
theorem Fe{w:World}{l:Nat}{o:Obj}:(setBlock w l o).heap.size=w.heap.size:=by simp[setBlock]
structure zu(E:Env):Prop where
 lt : ∀g w,E.p g w -> ∀k,E.x=some k->k<w.heap.size
 put : ∀g w l o,E.p g w -> ¬g.I l->E.x≠some l->E.p g (setBlock w l o)
def OG:zu Env.tt:=⟨λ_ _ _ k h=>(by cases h),λ_ _ _ _ _ _ _=>trivial⟩
def Za9{l:Nat}{r:Loop}{t:Nat->D}:zu (Env.loop l r t) :=
 ⟨λg w h k e=>(by cases e;exact(X9.1 h.1).1),λg w l' o⟨h1,h2,h3⟩hI hx=>⟨by rw[rY (λe=>hx (by rw[<-e];rfl))];exact h1,h2,λi=>(h3 i).mono (λb hb=>⟨hb,rY (λe=>hI (by rw[<-e];exact hb))⟩) (λ_ h=>h) (λ_ _=>.inl rfl)⟩⟩
theorem Marks.iter{B:Nat}{g:Mem}{w:World}{l:Nat}{o o':Obj}(hl:w.heap[l]? = some o)(ho : ∀x,o ≠ .deferred x):∀{ds:List Deferred},Marks B g ds w->Marks B g ds (setBlock w l o')
 | [],_=>trivial
 | d::ds,⟨⟨D,h1,h2,h3,h4,h5⟩,h6⟩=>⟨⟨D,h1,by rw[rY (λe=>by subst e;rw[hl]at h2;exact ho _ (ZX h2))];exact h2,h3,h4,h5⟩,Marks.iter hl ho h6⟩
def St.iter{B:bH}{s:S}{g:Mem}{a:Act}{w:World}{l:Nat}{m:Option Nat}{sn c0:Nat}{seen:Array Nat}(o:Obj)(hs:St P B s g a w)(hE:zu s.e)(hl:w.heap[l]? = some (.mapIter m sn seen c0))(hI : ¬g.I l)(hx:s.e.x≠some l):St P B s g a (setBlock w l o) :=
 ⟨hs.sz,λi=>(hs.tm i).mono (λb hb=>⟨hb,rY (λe=>hI (by rw[<-e];exact hb))⟩) (λ_ h=>h) (λ_ _=>.inl rfl),
  hs.mem.marks Fe (λk hk=>rY (λe=>hI (by rw[<-e];exact hk))) (λk o' hk ho=>rY (λe=>by subst e;rw[hl]at hk;cases hk;exact ho)),
  hs.df.map λms hm=>Marks.iter hl (λx e=>by cases e) hm,hE.put _ _ _ _ hs.en hI hx,by rw[Fe];exact hs.bd⟩
def bJ.iter{x:Option Nat}{g0 g:Mem}{w0 w:World}{l:Nat}{o:Obj}(h:bJ x g0 g w0 w)(hl:w0.heap.size<=l):bJ x g0 g w0 (setBlock w l o) :=
 ⟨h.os,h.tape,h.output,by rw[Fe];exact h.size,h.drawn,h.U,h.M,h.new,h.I,h.inew,λb h1 h2 h3=>by rw[rY (by omega)];exact h.same b h1 h2 h3⟩
def yu{ops:Array Oper}{i:Nat}{rest:List Nat}{a:Act}{w w':World}{v:Value}{o:Oper}{Q':Exit->Act->World->Prop}(ho:ops[i]? = some o)(hg:o.guard=none)(hdef : ∀c,o.op ≠ .defer c)(hrun:(execOp a.eval o).run P w = .ok (.value v) w')(hk:wpOpsIn (Fw ro) 0 P ops Q' rest (a.put o.dst v) w'):wpOpsIn (Fw ro) 0 P ops Q' (i::rest) a w:=by
 rw[wpOpsIn_cons]
 unfold wpOpIn
 rw[ho]
 simp only
 have hw:Region.wanted o (yielded ops a.tmps)=true:=by simp[Region.wanted,hg]
 rw[X0 hw]
 have gq:o.semAt (Fw ro).round a.eval=execOp a.eval o:=Oper.semAt_eq _ _ _ hdef
 refine⟨λ_ _=>trivial,?_⟩
 rw[gq,hrun,Oper.uponIn_value]
 exact hk
def MW(P:Program)[aa P](ro:Option Nat)(C:aH)(r n tr dn tq de bid b1 l:Nat)(eops:Array Oper)(body:Code)(Q:Exit->S->Prop):Nat->List Nat->S->Prop
 | 0,_,_=>False
 | m+1,seen,s=>s.t tr = .v (.pointer (some ⟨l,0,none⟩))/\(dn<s.n/\tq<s.n/\de<s.n)/\(tr≠dn/\tr≠tq)/\zu s.e /\ ∃bl kv,s.h r=some bl/\gD bl=some kv/\kv.length=2*n /\
  ((∀i,i<n->i∈seen)->Q .normal { s with t:=upd (upd s.t dn (.tuple [.b false])) tq (.b false),ok:=True }) /\
  ∀i,i<n->i ∉ seen -> ∀k v,kv[2*i]? = some k->kv[2*i+1]? = some v ->
   ∃s1,bB P (words P) C eops.toList s.nx 1 (eops.toList.drop 1) { n:=s.n,t:=upd (upd (upd s.t dn (.tuple [.b true,k,v])) tq (.b true)) de (.tuple [k,v]),h:=s.h,nx:=s.nx+eops.size,ok:=True,e:=s.e }=s1/\s1.ok /\
    DW P ro body (λe s'=>match e with
     | .normal=>MW P ro C r n tr dn tq de bid b1 l eops body Q m (seen++[i]) s'/\s'.n=s.n
     | .exit j=>if j=b1 then MW P ro C r n tr dn tq de bid b1 l eops body Q m (seen++[i]) s'/\s'.n=s.n else if j=bid then Q .normal s' else Q (.exit j) s'
     | e=>Q e s') s1.clear
structure MI(P:Program)[aa P](B:bH)(ro:Option Nat)(C:aH)(r n tr dn tq de bid b1 l bm:Nat)(eops:Array Oper)(body:Code)(Q:Exit->S->Prop)(x0:Option Nat)(N0:Nat)(g0:Mem)(w0:World)(m:Nat)(s:S)(g:Mem)(a:Act)(w:World):Prop where
 st:St P B s g a w
 mono:bJ x0 g0 g w0 w
 U : ∀r,g.U r->r<s.nx
 xx:s.e.x=x0
 nn:s.n=N0
 it : ∃(seen:Array Nat)(c0 sz:Nat),w.heap[l]? = some (.mapIter (some bm) n seen c0)/\n<=c0/\g.M r=some (some bm,maxLen+1,sz)/\MW P ro C r n tr dn tq de bid b1 l eops body Q m seen.toList s
 nI : ¬g.I l
 nM : ∀r c s,g.M r≠some (some l,c,s)
def XD{es:Array MapEntry}{i:Nat}{e:MapEntry}(h:es.toList[i]? = some e):(gp es)[2*i]? = some e.key/\(gp es)[2*i+1]? = some e.val:=Gq es.toList i e h
theorem MO(es:Array MapEntry):(gp es).length=2*es.size:=by
 have h2 : ∀l:List MapEntry,(l.flatMap λe=>[e.key,e.val]).length=2*l.length:=by
  intro l
  induction l with
  | nil=>rfl
  | cons e l ih=>rw[xc];simp only[YI,ih];omega
 exact(h2 es.toList).trans (by rw[Array.length_toList])
theorem WX{B:bH}{r n tr dn tq de bid b1 l bm:Nat}{nops eops:Array Oper}{nid eid:Nat}{body:Code}{x0:Option Nat}{N0:Nat}{g0:Mem}{w0:World}{ty1 ty2 ty3:TypeId}{p1 p2 p3:String}{af1 af2 af3:Array Edge}
  (hn0:nops[0]? = some ⟨some dn,.next (.tmp tr) false,ty1,p1,af1,none⟩)(hn1:nops[1]? = some ⟨some tq,.extract (.tmp dn) 0,ty2,p2,af2,none⟩)(hn2:nops.size=2)
  (he0:eops[0]? = some ⟨some de,.entry (.tmp tr),ty3,p3,af3,none⟩)(hl0:w0.heap.size<=l)(hx0:x0≠some l){m:Nat}{s:S}{g:Mem}{a:Act}{w:World}(h:MI P B ro C r n tr dn tq de bid b1 l bm eops body Q x0 N0 g0 w0 m s g a w) :
  (Code.block bid (.loop (.seq (.region nid nops false) (.seq (.cond (.tmp tq) .skip (.exit bid)) (.block b1 (.seq (.region eid eops false) body)))))).wpIn (Fw ro) 0 P
   (λe a' w'=>∃s' g',Q e s'/\St P B s' g' a' w'/\bJ x0 g0 g' w0 w'/\(∀r,g'.U r->r<s'.nx)/\s'.e.x=x0) a w:=by
 refine wpIn_block (wpIn_loop_ghost (λk a' w'=>∃s' g',MI P B ro C r n tr dn tq de bid b1 l bm eops body Q x0 N0 g0 w0 k s' g' a' w') m ⟨s,g,h⟩ ?_)
 rintro k a1 w1 ⟨s1,g1,hi⟩
 obtain⟨seen,c0,sz,hheap,hc0,hM,yQ⟩:=hi.it
 cases k with
 | zero=>exact yQ.elim
 | succ k =>
 obtain⟨ht,⟨hdn,htq,hde⟩,⟨hne1,hne2⟩,hE,bl,kv,hbl,jk,hlen,hover,hnext⟩:=yQ
 have hs:=hi.st
 have hlt:l<w1.heap.size:=(X9.1 hheap).1
 have hxl:s1.e.x≠some l:=by rw[hi.xx];exact hx0
 have hmap : ∃es aQ,w1.heap[bm]? = some (.map es aQ)/\aC w1 g1 kv (gp es)/\Bq es aQ:=by
  obtain⟨blk,c',h1,h2,h3,h4,h5⟩:=hs.mem.blk r bl hbl;rw[hM]at h1;simp only[XU,Yo]at h1;obtain⟨rfl,rfl,rfl⟩:=h1
  rcases h5 with⟨h5,_⟩|⟨b',cur,h5,k1,k2,k3,k4⟩
  . cases h5
  cases h5
  obtain⟨es,aQ,e1,rfl⟩:=k1.map rfl;refine⟨es,aQ,e1,?_,k1.stamps e1⟩;rw[Holds,MP jk]at k4;obtain⟨q0,q⟩:=k4 0 _ rfl;obtain⟨u,u1,_,u3⟩:=q 0 _ rfl
  simp at u1
  subst u1
  cases u3 with|iface _ _ _ u3 =>
  obtain⟨vs,e2,e3⟩:=u3.tuple_inv
  simp at e2
  rw[<-e2]at e3
  simpa using e3
 obtain⟨es,aQ,hbm,hrep,Au,CZ⟩:=hmap
 have hsize:es.size=n:=by
  have h1:=hrep.1;rw[hlen,MO]at h1;omega
 have NJ : ∀e∈es.toList,e.born<n/\es.toList[e.born]? = some e:=by
  intro e he;obtain⟨i,hi⟩:=YB he;have hb:=CZ i e hi;have hlt:i<es.toList.length:=(XY.1 hi).1;rw[Array.length_toList,hsize]at hlt;rw[hb];exact⟨hlt,hi⟩
 have hbne:bm≠l:=λe=>by rw[e,hheap]at hbm;cases hbm
 have GG:a1.eval (.tmp tr) = .pointer (some ⟨l,0,none⟩):=by
  have:=cu hs (.tmp tr);rw[show s1.ev (.tmp tr)=_ from ht]at this
  exact this.v_inv
 have hr2:List.range nops.size=[0,1]:=by rw[hn2];rfl
 have NE : ∀(d:Nat)(v:Value)(ac:Act),ac.tmps.size=s1.n->d<s1.n->(ac.put (some d) v).eval (.tmp d)=v:=by
  intro d v ac h1 h2;have:d<ac.tmps.size:=by omega
  simp[Act.put,Act.eval,this]
 have ND : ∀(d e:Nat)(v:Value)(ac:Act),e≠d->(ac.put (some d) v).eval (.tmp e)=ac.eval (.tmp e):=by
  intro d e v ac h1
  simp[Act.put,Act.eval,Ne.symm h1]
 refine wpIn_seq (wpIn_region ?_)
 rw[hr2]
 rcases run_next_at (P:=P) w1 ty1 l bm n c0 seen es aQ hheap hbm (λx hx=>(NJ x hx).1) hc0 with⟨hz,hrun⟩|⟨e,hel,w2,hw2,hrun⟩
 .
  refine yu hn0 rfl (λc e=>by cases e) (v:=.tuple #[.bool false]) (w':=w1) (by simp[execOp,GG,hrun]) ?_
  have hd1:=iF hs (ay.refl g1 w1) hs.mem (dst:=some dn) (by simpa[bS]using hdn) (d:=.tuple [.b false]) (v:=.tuple #[.bool false]) (.mk_tuple (vs:=#[.bool false]) (.cons (.v _) .nil)) True
  refine yu hn1 rfl (λc e=>by cases e) (v:=.bool false) (w':=w1) (by simp[execOp,NE dn _ a1 hs.sz hdn,Instr.extract]) ?_
  have hd2:=iF hd1 (ay.refl g1 w1) hd1.mem (dst:=some tq) (by simpa[bS]using htq) (d:=.b false) (v:=.bool false) (.v _) True
  have hcv:((a1.put (some dn) (.tuple #[.bool false])).put (some tq) (.bool false)).eval (.tmp tq) = .bool false:=by
   have:tq<a1.tmps.size:=by rw[hs.sz];exact htq
   simp[Act.put,Act.eval,this]
  refine wpIn_seq (wpIn_cond_split hcv (λe=>by cases e) λ_=>wpIn_exit ?_)
  simp only[Exit.then,Exit.inBlock];rw[X0 trivial];refine⟨_,g1,hover λi hi=>?_,hd2,hi.mono,hi.U,hi.xx⟩
  have hi':i<es.toList.length:=by rw[Array.length_toList,hsize];exact hi
  have hmem:es.toList[i]∈es.toList:=Yq hi';have hb:=CZ i _ (X5 hi');refine Zv λhno=>?_
  have:es.toList[i]∈(leftOf es seen).toList:=by
   unfold leftOf;simp only[Array.toList_filter,Zi];refine⟨hmem,?_⟩;rw[hb]
   simpa using hno
  have h0:(leftOf es seen).toList.length=0:=by rw[Array.length_toList];exact hz
  rw[Ye h0]at this
  cases this
 have hel':e∈es.toList/\e.born ∉ seen.toList:=by
  unfold leftOf at hel;simp only[Array.toList_filter,Zi]at hel;refine⟨hel.1,λhm=>?_⟩
  have:=hel.2
  simp at this
  exact this (by simpa using hm)
 obtain⟨he1,he2⟩:=hel'
 obtain⟨hbn,hbe⟩:=NJ e he1
 obtain⟨hk1,hk2⟩:=XD hbe
 have hkl:2*e.born+1<kv.length:=by rw[hlen];omega
 obtain⟨s2,hs2,hok2,hbody⟩:=hnext e.born hbn he2 _ _ (X5 om) (X5 hkl)
 have hrk:=hrep.2 (2*e.born) _ _ (X5 (by omega)) hk1
 have hrv:=hrep.2 (2*e.born+1) _ _ (X5 hkl) hk2
 have hsw:St P B s1 g1 a1 w2/\bJ x0 g0 g1 w0 w2/\w2.heap=w1.heap:=by
  rcases hw2 with rfl|rfl
  . exact⟨hs,hi.mono,rfl⟩
  obtain⟨q1,q2⟩:=DU hs;exact⟨q1,hi.mono.trans q2.toX,rfl⟩
 obtain⟨hsw,hmw,hhw⟩:=hsw
 have Zax:w2.heap[l]? = some (.mapIter (some bm) n seen c0):=by rw[hhw];exact hheap
 have hlt2:l<w2.heap.size:=by rw[hhw];exact hlt
 generalize hw3:setBlock w2 l (.mapIter (some bm) n (seen.push e.born) aQ)=w3 at hrun
 have hs3:St P B s1 g1 a1 w3:=by rw[<-hw3];exact St.iter _ hsw hE Zax hi.nI hxl
 have xz:bJ x0 g0 g1 w0 w3:=by rw[<-hw3];exact hmw.iter hl0
 have hb3:w3.heap[bm]? = some (.map es aQ):=by rw[<-hw3,rY hbne,hhw];exact hbm
 have hl3:w3.heap[l]? = some (.mapIter (some bm) n (seen.push e.born) aQ):=by rw[<-hw3];exact TR hlt2
 have vw : ∀b,g1.I b->g1.I b/\w3.heap[b]? = w1.heap[b]? := λb hb=>⟨hb,by rw[<-hw3,rY (λe=>hi.nI (by rw[<-e];exact hb)),hhw]⟩
 have Nq:=hrk.mono vw (λ_ h=>h) (λ_ _=>.inl rfl)
 have Np:=hrv.mono vw (λ_ h=>h) (λ_ _=>.inl rfl)
 refine yu hn0 rfl (λc e=>by cases e) (v:=.tuple #[.bool true,e.key,e.val]) (w':=w3) (by simp[execOp,GG,hrun]) ?_
 have hd1:=iF hs3 (ay.refl g1 w3) hs3.mem (dst:=some dn) (by simpa[bS]using hdn) (v:=.tuple #[.bool true,e.key,e.val]) (.mk_tuple (vs:=#[.bool true,e.key,e.val]) (.cons (.v (.bool true)) (.cons Nq (.cons Np .nil)))) True
 refine yu hn1 rfl (λc e=>by cases e) (v:=.bool true) (w':=w3) (by simp[execOp,NE dn _ a1 hs.sz hdn,Instr.extract]) ?_
 have hd2:=iF hd1 (ay.refl g1 w3) hd1.mem (dst:=some tq) (by simpa[bS]using htq) (d:=.b true) (v:=.bool true) (.v _) True
 generalize ha2:((a1.put (some dn) (.tuple #[.bool true,e.key,e.val])).put (some tq) (.bool true))=a2 at hd2
 have hcv:a2.eval (.tmp tq) = .bool true:=by
  have:tq<a1.tmps.size:=by rw[hs.sz];exact htq
  rw[<-ha2]
  simp[Act.put,Act.eval,this]
 have hptr2:a2.eval (.tmp tr) = .pointer (some ⟨l,0,none⟩):=by
  rw[<-ha2,ND _ _ _ _ hne2,ND _ _ _ _ hne1];exact GG
 refine wpIn_seq (wpIn_cond_split hcv (λ_=>wpIn_skip ?_) λe=>by cases e)
 have hnod:(es.toList.map (·.born)).Nodup:=by
  have:es.toList.map (·.born)=List.range es.toList.length:=by
   apply List.ext_getElem
   . simp
   intro i h1 h2;simp only[List.getElem_map,List.getElem_range];exact CZ i _ (X5 (by simpa using h1))
  rw[this];exact List.nodup_range
 have hent:=run_entry_at (P:=P) w3 l bm n seen es aQ e hl3 hb3 he1 hnod
 refine wpIn_block (wpIn_seq (wpIn_region ?_))
 have hesz:0<eops.size:=(X9.1 he0).1
 have hre:List.range eops.size=0::List.range' 1 (eops.size-1):=by
  rw[Zk];have:eops.size=(eops.size-1)+1:=by omega
  conv=>lhs;rw[this,Ze]
 rw[hre]
 refine yu he0 rfl (λc e=>by cases e) (v:=.tuple #[e.key,e.val]) (w':=w3) (by simp[execOp,hptr2,hent]) ?_
 have hd3:=iF hd2 (ay.refl g1 w3) hd2.mem (dst:=some de) (by simpa[bS]using hde) (v:=.tuple #[e.key,e.val]) (.mk_tuple (vs:=#[e.key,e.val]) (.cons Nq (.cons Np .nil))) True
 have hd4:St P B { n:=s1.n,t:=upd (upd (upd s1.t dn (.tuple [.b true,kv[2*e.born],kv[2*e.born+1]])) tq (.b true)) de (.tuple [kv[2*e.born],kv[2*e.born+1]]),h:=s1.h,nx:=s1.nx+eops.size,ok:=True,e:=s1.e } g1 (a2.put (some de) (.tuple #[e.key,e.val])) w3:=⟨hd3.sz,hd3.tm,hd3.mem,hd3.df,hd3.en,hd3.bd⟩
 have e3:(eops.toList.drop 1).take (eops.size-1)=eops.toList.drop 1:=Yg (by simp)
 have:=qZ (ro:=ro) (P:=P) (C:=C) (B:=B) (ops:=eops) (b:=s1.nx) (n:=0) (rest:=[]) (g0:=g1) (w0:=w3)
  (Q:=Exit.then (λa' w'=>body.wpIn (Fw ro) 0 P (Exit.inBlock b1 (Exit.then (λa' w'=>∃k',k'<k+1 /\ ∃s' g',MI P B ro C r n tr dn tq de bid b1 l bm eops body Q x0 N0 g0 w0 k' s' g' a' w') (Exit.inBlock bid λe a' w'=>∃s' g',Q e s'/\St P B s' g' a' w'/\bJ x0 g0 g' w0 w'/\(∀r,g'.U r->r<s'.nx)/\s'.e.x=x0))) a' w') (Exit.inBlock b1 (Exit.then (λa' w'=>∃k',k'<k+1 /\ ∃s' g',MI P B ro C r n tr dn tq de bid b1 l bm eops body Q x0 N0 g0 w0 k' s' g' a' w') (Exit.inBlock bid λe a' w'=>∃s' g',Q e s'/\St P B s' g' a' w'/\bJ x0 g0 g' w0 w'/\(∀r,g'.U r->r<s'.nx)/\s'.e.x=x0))))
  (eops.size-1) 1 _ g1 _ _ hd4 (ay.refl _ _) (λr hr=>by have:=hi.U r hr;omega) (by omega) (by rw[e3,hs2];exact hok2) λg4 a4 w4 q1 q2 q3=>?_
 . rw[Zg]at this;exact this
 rw[e3,hs2]at q1
 have hnx:s2.nx=s1.nx+eops.size:=by
  have:=Hw (P:=P) (C:=C) eops.toList s1.nx (eops.toList.drop 1) 1 { n:=s1.n,t:=upd (upd (upd s1.t dn (.tuple [.b true,kv[2*e.born],kv[2*e.born+1]])) tq (.b true)) de (.tuple [kv[2*e.born],kv[2*e.born+1]]),h:=s1.h,nx:=s1.nx+eops.size,ok:=True,e:=s1.e };rw[hs2]at this;exact this
 have hse:s2.e=s1.e:=by
  have:=yY (P:=P) (C:=C) eops.toList s1.nx (eops.toList.drop 1) 1 { n:=s1.n,t:=upd (upd (upd s1.t dn (.tuple [.b true,kv[2*e.born],kv[2*e.born+1]])) tq (.b true)) de (.tuple [kv[2*e.born],kv[2*e.born+1]]),h:=s1.h,nx:=s1.nx+eops.size,ok:=True,e:=s1.e };rw[hs2]at this;exact this
 have hsn:s2.n=s1.n:=by
  have : ∀(os:List Oper)(i:Nat)(u:S),(bB P (words P) C eops.toList s1.nx i os u).n=u.n:=by
   intro os
   induction os with
   | nil=>intro i u;rfl
   | cons x os ih=>intro i u;simp only[bB];rw[ih,vE.1]
  have:=this (eops.toList.drop 1) 1 { n:=s1.n,t:=upd (upd (upd s1.t dn (.tuple [.b true,kv[2*e.born],kv[2*e.born+1]])) tq (.b true)) de (.tuple [kv[2*e.born],kv[2*e.born+1]]),h:=s1.h,nx:=s1.nx+eops.size,ok:=True,e:=s1.e };rw[hs2]at this;exact this
 have hnl : ∀{g g':Mem}{x:Option Nat}{w w':World},bJ x g g' w w'->l<w.heap.size -> ¬g.I l->(∀r c s,g.M r≠some (some l,c,s)) -> ¬g'.I l /\ ∀r c s,g'.M r≠some (some l,c,s):=by
  intro g g' x w w' hm hlt hI hM;refine⟨λh=>?_,λr c s h=>?_⟩
  .
   rcases hm.inew l h with h|h|⟨r,c,s,h⟩
   . exact hI h
   . omega
   exact hM r c s h
  rcases hm.new r l c s h with⟨r',c',s',h⟩|h
  . exact hM _ _ _ h
  omega
 have hlt3:l<w3.heap.size:=(X9.1 hl3).1
 obtain⟨hI4,hM4⟩:=hnl (x:=none) q2.toX hlt3 hi.nI hi.nM
 have hl4:w4.heap[l]? = some (.mapIter (some bm) n (seen.push e.born) aQ):=by rw[q2.same l hlt3 hi.nM];exact hl3
 have Nw:l<w4.heap.size:=(X9.1 hl4).1
 have hU4 : ∀r,g4.U r->r<s2.clear.nx:=λr hr=>by
  have:=q3 r hr
  show r<s2.nx
  rw[hnx];omega
 refine wpIn_mono (hbody B g4 a4 w4 q1.clear hU4) ?_
 rintro e5 a5 w5 ⟨s5,g5,qM,hs5,yO,hU5,hx5⟩
 have hx2:s2.clear.e.x=x0:=by show s2.e.x=x0;rw[hse,hi.xx]
 rw[hx2]at yO hx5
 obtain⟨hI5,hM5⟩:=hnl yO Nw hI4 hM4
 have hl5:w5.heap[l]? = some (.mapIter (some bm) n (seen.push e.born) aQ):=by rw[yO.same l Nw hM4 hx0];exact hl4
 have Da:bJ x0 g0 g5 w0 w5:=(xz.trans q2.toX).trans yO
 have again:MW P ro C r n tr dn tq de bid b1 l eops body Q k (seen.toList++[e.born]) s5/\s5.n=s1.n -> ∃k',k'<k+1 /\ ∃s' g',MI P B ro C r n tr dn tq de bid b1 l bm eops body Q x0 N0 g0 w0 k' s' g' a5 w5:=by
  rintro⟨h1,h2⟩;refine⟨k,om,s5,g5,⟨hs5,Da,hU5,hx5,?_,⟨seen.push e.born,aQ,sz,hl5,by rw[Au];omega,?_,by rw[Array.toList_push];exact h1⟩,hI5,hM5⟩⟩
  . rw[h2,hi.nn]
  have hne:g5.M r≠none:=by
   cases k with
   | zero=>exact h1.elim
   | succ k =>
    obtain⟨_,_,_,_,bl5,kv5,hb5,_⟩:=h1;obtain⟨blk,c',h3,_⟩:=hs5.mem.blk r bl5 hb5;rw[h3];simp
  have dR:g1.U r:=hs.mem.used r (by rw[hM];simp)
  rcases q2.M r dR with h4|h4
  .
   rcases yO.M r (q2.U r dR)with h5|h5
   . rw[h5,h4];exact hM
   exact absurd h5 hne
  rcases yO.M r (q2.U r dR)with h5|h5
  . rw[h5,h4]at hne;exact absurd rfl hne
  exact absurd h5 hne
 cases e5 with
 | normal=>exact again qM
 | exit j =>
  simp only at qM;simp only[Exit.inBlock]
  by_cases hj:j=b1
  . rw[X0 hj]at qM ⊢;exact again qM
  rw[XW hj]at qM ⊢
  by_cases hj2:j=bid
  . rw[X0 hj2]at qM;simp only[Exit.then,Exit.inBlock];rw[X0 hj2];exact⟨s5,g5,qM,hs5,Da,hU5,hx5⟩
  rw[XW hj2]at qM;simp only[Exit.then,Exit.inBlock];rw[XW hj2];exact⟨s5,g5,qM,hs5,Da,hU5,hx5⟩
 | _=>exact⟨s5,g5,qM,hs5,Da,hU5,hx5⟩
end
section
variable [aa P] {ro : Option Nat} {Q : Exit -> S -> Prop} {C : aH}
theorem Ey{r n tr dn tq de bid b1 l:Nat}{eops:Array Oper}{body:Code}{Q':Exit->S->Prop}(hq : ∀e s,Q e s->Q' e s):∀{m:Nat}{seen:List Nat}{s:S},MW P ro C r n tr dn tq de bid b1 l eops body Q m seen s->MW P ro C r n tr dn tq de bid b1 l eops body Q' m seen s
 | 0,_,_,h=>h.elim
 | m+1,seen,s,h=>by
  obtain⟨h1,h2,h3,h4,bl,kv,h5,h6,h7,h8,h9⟩:=h;refine⟨h1,h2,h3,h4,bl,kv,h5,h6,h7,λk=>hq _ _ (h8 k),λi hi hs k v hk hv=>?_⟩
  obtain⟨s1,q1,q2,q3⟩:=h9 i hi hs k v hk hv;refine⟨s1,q1,q2,DW.mono q3 λe s' h=>?_⟩
  cases e with
  | normal=>exact⟨Ey hq h.1,h.2⟩
  | exit j =>
   simp only at h ⊢
   split
   . rename_i e;rw[X0 e]at h;exact⟨Ey hq h.1,h.2⟩
   rename_i e
   rw[XW e]at h
   split
   . rename_i e;rw[X0 e]at h;exact hq _ _ h
   rename_i e;rw[XW e]at h;exact hq _ _ h
  | _=>exact hq _ _ h
def St.junk{B:bH}{s:S}{g:Mem}{a:Act}{w:World}(hs:St P B s g a w)(tr:Nat):St P B { s with t:=upd s.t tr .junk,ok:=True } g a w:=by
 refine⟨hs.sz,λi=>?_,hs.mem,hs.df,hs.en,hs.bd⟩
 by_cases e:i=tr
 . subst e;simp only[bu];exact .junk _
 simp only[aI _ _ _ _ e]
 exact hs.tm i
def ZbM{s s1:S}{id nid eid bid b1 i r n tr dn tq de m0:Nat}{ops nops eops:Array Oper}{body:Code}{ty ty0 ty1 ty2 ty3:TypeId}{p0 p1 p2 p3:String}{af0 af1 af2 af3:Array Edge}{bl:av}{kv:List D}
  (hE:zu s.e)(hr0:ops[i]? = some ⟨some tr,.range ty (.tmp m0),ty0,p0,af0,none⟩)(hi:ops.size=i+1)(hn0:nops[0]? = some ⟨some dn,.next (.tmp tr) false,ty1,p1,af1,none⟩)(hn1:nops[1]? = some ⟨some tq,.extract (.tmp dn) 0,ty2,p2,af2,none⟩)(hn2:nops.size=2)
  (he0:eops[0]? = some ⟨some de,.entry (.tmp tr),ty3,p3,af3,none⟩)(hpre:bB P (words P) C ops.toList s.nx 0 (ops.toList.take i) { s with nx:=s.nx+ops.size,ok:=True }=s1)(hok:s1.ok)
  (hm:s1.t m0 = .mp r)(hbl:s1.h r=some bl)(jk:gD bl=some kv)(hlen:kv.length=2*n)(hty:(j4 P ty).isSome=true)(htr:tr<s1.n)
  (yQ : ∀l,∃m,MW P ro C r n tr dn tq de bid b1 l eops body (λe s'=>Q e { s' with t:=upd s'.t tr .junk,ok:=True }) m [] { s1 with t:=upd s1.t tr (.v (.pointer (some ⟨l,0,none⟩))),ok:=True }) :
  DW P ro (.seq (.region id ops false) (.block bid (.loop (.seq (.region nid nops false) (.seq (.cond (.tmp tq) .skip (.exit bid)) (.block b1 (.seq (.region eid eops false) body))))))) Q s:=by
 intro B g a w hs hU
 have hs0:St P B { s with nx:=s.nx+ops.size,ok:=True } g a w:=⟨hs.sz,hs.tm,hs.mem,hs.df,hs.en,hs.bd⟩
 refine wpIn_seq (wpIn_region ?_)
 have hrr:List.range ops.size=List.range' 0 i++[i]:=by rw[hi,List.range_succ,Zk]
 rw[hrr]
 have e0:(ops.toList.drop 0).take i=ops.toList.take i:=rfl
 refine qZ (C:=C) (b:=s.nx) i 0 _ g a w hs0 (ay.refl _ _) (λr hr=>by have:=hU r hr;omega) (by omega) (by rw[e0,hpre];exact hok) λg1 a1 w1 hs1 hm1 dR=>?_
 rw[e0,hpre]at hs1
 have hnx:s1.nx=s.nx+ops.size:=by
  have:=Hw (P:=P) (C:=C) ops.toList s.nx (ops.toList.take i) 0 { s with nx:=s.nx+ops.size,ok:=True }
  rw[hpre]at this;exact this
 have hse:s1.e=s.e:=by
  have:=yY (P:=P) (C:=C) ops.toList s.nx (ops.toList.take i) 0 { s with nx:=s.nx+ops.size,ok:=True }
  rw[hpre]at this;exact this
 have hrep:=cu hs1 (.tmp m0)
 rw[show s1.ev (.tmp m0)=_ from hm]at hrep
 obtain⟨bm,es,aQ,hv,hb,hkr,hM,hnI,_⟩:=yE hs1.mem hrep hbl jk
 obtain⟨Au,CZ⟩:=Mo hs1.mem hbl hM hb
 have hsize:es.size=n:=by
  have h1:=hkr.1;rw[hlen,MO]at h1;omega
 obtain⟨⟨kt,et⟩,hmt⟩:=Yn.1 hty
 have hu:=Ae hmt
 have hrun:(execOp a1.eval (⟨some tr,.range ty (.tmp m0),ty0,p0,af0,none⟩:Oper)).run P w1 = .ok (.value (.pointer (some ⟨w1.heap.size,0,none⟩))) (w1.alloc (.mapIter (some bm) aQ #[] aQ)):=by
  simp[execOp,Instr.range,run_underlying hu,hv,MapKept.run_getObj_map hb]
 refine yu hr0 rfl (λc e=>by cases e) hrun ?_
 obtain⟨AB,hmo⟩:=hs1.mem.lay (.mapIter (some bm) aQ #[] aQ)
 obtain⟨m,yQ⟩:=yQ w1.heap.size
 have hd:=iF hs1 hmo AB (dst:=some tr) (by simpa[bS]using htr) (d:=.v (.pointer (some ⟨w1.heap.size,0,none⟩))) (v:=.pointer (some ⟨w1.heap.size,0,none⟩)) (.v _) True
 have hlt1 : ∀k,s.e.x=some k->k<w.heap.size:=λk hk=>hE.lt g w hs.en k hk
 have hsz1:w.heap.size<=w1.heap.size:=hm1.size
 refine wpIn_mono (WX (B:=B) (ro:=ro) (C:=C) (r:=r) (n:=n) (bm:=bm) (l:=w1.heap.size) (nid:=nid) (eid:=eid) (x0:=s.e.x) (N0:=s1.n) (g0:=g) (w0:=w) (Q:=λe s'=>Q e { s' with t:=upd s'.t tr .junk,ok:=True }) hn0 hn1 hn2 he0 hsz1 (λe=>by have:=hlt1 _ e;omega) (m:=m) (s:={ s1 with t:=upd s1.t tr (.v (.pointer (some ⟨w1.heap.size,0,none⟩))),ok:=True }) (g:=g1) ?_) ?_
 .
  refine⟨hd,(hm1.trans hmo).toX,λr hr=>?_,by rw[<-hse],rfl,⟨#[],aQ,P.cellsOf bl.ty,?_,om,hM,yQ⟩,λh=>?_,λr c s h=>?_⟩
  .
   have:=dR r hr
   show r<s1.nx
   rw[hnx];omega
  . have:=World.alloc_heap_new w1 (.mapIter (some bm) aQ #[] aQ);rw[this,Au,hsize]
  . have:=hs1.mem.imm _ h;omega
  have:=(kH hs1.mem h).1;omega
 rintro e a' w' ⟨s',g',q,r1,r2,r3,r4⟩
 exact⟨_,g',q,r1.junk tr,r2,r3,r4⟩
end
section
variable [aa P] {V : Ev} {R : Rn} {ro : Option Nat} {Q : Exit -> S -> Prop} {l : Nat × Nat} {E : Option Code -> Env}
theorem Io{o1 outs:List (Exit×X)}{k:X->Option (List (Exit×X))}(h:Ea (some o1) k=some outs):∀o∈o1,(o.1 = .normal /\ ∃o2,k o.2=some o2 /\ ∀q∈o2,q∈outs)\/(o.1 ≠ .normal/\o∈outs):=by
 intro o ho
 obtain⟨e,y⟩:=o
 obtain⟨o2,k2,k3⟩:=ll (show gW _ o1=some outs from h) _ ho
 cases e with
 | normal=>exact .inl ⟨rfl,o2,k2,k3⟩
 | _ =>
  simp only[XU]at k2;subst k2;exact .inr ⟨by simp,k3 _ (.head _)⟩
theorem P6{o1 outs:List (Exit×X)}{k:X->Option (List (Exit×X))}(h:Ea (some o1) k=some outs):∀o∈outs,(∃a∈o1,∃o2,k a.2=some o2/\o∈o2)\/o∈o1:=by
 intro o ho
 obtain⟨⟨e,y⟩,k1,o2,k2,k3⟩:=mY (show gW _ o1=some outs from h) o ho
 cases e with
 | normal=>exact .inl ⟨_,k1,o2,k2,k3⟩
 | _ =>
  simp only[XU]at k2;subst k2;rw[Yi.1 k3];exact .inr k1
theorem Kc(l:Nat×Nat):∀(ps:List Nat)(xs:List D)(t:Tr),xs.any bX=false -> ∃t',(∀{α:Type}(k:Tr->α),BV t ps xs k=k t')/\(λi=>cZ l (bV t' (bE i)))=lH (λi=>cZ l (bV t (bE i))) ps xs
 | [],xs,t,_=>⟨t,λk=>by cases xs<;>rfl,by rw[zM]⟩
 | p::ps,[],t,_=>⟨t,λk=>rfl,rfl⟩
 | p::ps,d::ds,t,h=>by
  obtain⟨t1,h1,h2⟩:=jA (bE p) t d;simp only[List.any_cons,Yb]at h;obtain⟨t2,h3,h4⟩:=Kc l ps ds t1 h.2;refine⟨t2,λk=>by simp only[BV,h1,h3],?_⟩
  rw[h4,zN]
  congr 1
  funext i
  rw[h2];simp only[upd]
  by_cases e:i=p
  . subst e;simp[uK h.1]
  rw[XW (λq=>e (Ck q)),XW e]
theorem SL0(x:X):x.SL L0 EO={ n:=x.n,t:=λi=>bV x.t (bE i),h:=htab x.h,nx:=x.nx }:=by
 simp only[X.SL,S.mk.injEq,true_and,and_true]
 exact⟨funext λi=>U7 _,rfl⟩
def XN{b:Bool}{j:Option Code}:∀(e:Exit),Gx e=some (b,j)->(match e with | .normal=>b=true/\j=none | .ret=>b=false/\j=some .ret | .exit i=>b=false/\j=some (.exit i)|_=>False):=by
 intro e h
 cases e<;>simp only[Gx,XU,Yo]at h<;>first|exact⟨h.1.symm,h.2.symm⟩|cases h
theorem UZ(hk:um P R.code){x:X}{ps:Array Tmp}{assign body:Code}{l:Nat×Nat}(hl:l.1=0)(l':Nat):IX P (zS R x ps assign body) ps.toList x.n assign body (λi=>cZ l (bV x.t (bE i))) l':=by
 intro xs h nx outs ho
 unfold zS at ho
 split at ho
 .
  rename_i hc
  obtain⟨c1,c2,c3⟩:=hc;simp only[Yf,XV]at c3;refine⟨by rw[Array.length_toList];exact c1,c3,?_⟩
  obtain⟨t',t1,t2⟩:=Kc l ps.toList xs x.t c2;rw[t1]at ho
  split at ho
  . cases ho
  rename_i o1 h1
  have d1:=((hk .round assign _ o1 h1).2 (some l') l EO ⟨hl,rfl⟩).1;simp only[X.SL,t2]at d1;refine DW.mono d1 ?_;rintro e s ⟨⟨e',y⟩,k1,he,hs⟩;rw[he,hs];obtain⟨o2,k2,k3⟩:=ll ho _ k1
  cases e' with
  | normal =>
   simp only at k2
   split at k2
   . cases k2
   rename_i o3 h3
   refine⟨rfl,DW.mono ((hk .round body y o3 h3).2 (some l') l EO ⟨hl,rfl⟩).1 ?_⟩;rintro e s ⟨q,hq,rfl,rfl⟩;obtain⟨o4,k4,k5⟩:=ll k2 q hq
   split at k4
   .
    rename_i b j hj
    simp only[XU]at k4;subst k4;exact⟨rfl,b,j,XN _ hj,_,k3 _ (k5 _ (.head _)),rfl,rfl,rfl,rfl⟩
   cases k4
  | _=>cases k2
 cases ho
theorem Zcz(hk:um P R.code){gf:Operand}{ps:Array Tmp}{assign body:Code}{x:X}{outs:List (Exit×X)}(h:Ip P R gf ps assign body x=some outs):(∀o∈outs,o.2.n=x.n) /\ ∀l0:Nat×Nat,l0.1=0->DW P none (.rangeFunc gf ps assign body) (λe s=>∃o∈outs,e=o.1/\s=o.2.SL l0 EO) (x.SL l0 EO):=by
 unfold Ip at h
 split at h
 .
  rename_i k first aK hev
  split at h
  . cases h
  rename_i fn hf
  split at h
  . cases h
  rename_i c hb
  split at h
  .
   rename_i hq
   obtain⟨hbd,hn,hres,htk⟩:=hq;obtain⟨t,t1,t2⟩:=EP (first++[tok]++aK) 0 .nil
   rw[t1]at h
   split at h
   . cases h
   rename_i o1 h1
   have each : ∀o∈o1,∀o2,(if yJ o.1=true then(match DI o.2.j with
     | some e=>some [(e,(⟨x.n,x.t,o.2.h,o.2.nx,x.j⟩:X))]
     | none=>none)else none)=some o2->yJ o.1=true /\ ∃e,DI o.2.j=some e/\o2=[(e,⟨x.n,x.t,o.2.h,o.2.nx,x.j⟩)]:=by
    intro o _ o2 h2
    split at h2
    .
     rename_i hl
     split at h2
     .
      rename_i e he
      simp only[XU]at h2;exact⟨hl,e,he,h2.symm⟩
     cases h2
    cases h2
   refine⟨λo ho=>?_,λl0 hl0=>?_⟩
   . obtain⟨a,ha,o2,h2,h3⟩:=mY h o ho;obtain⟨_,e,_,rfl⟩:=each a ha o2 h2;rw[Yi.1 h3]
   refine A9 (s:=x.SL l0 EO) (f:=k) (fn:=fn) (c:=c) (first:=first) (aK:=aK) rfl (by rw[kr (by rw[hev];rfl)];exact hev) hf hb hbd hn (by simpa using hres) λl r e1 e2 e3 e4=>?_
   have e4:r.tmps.size=x.n:=e4;have hR:IX P (zS R x ps assign body) r.params.toList r.tmps.size r.assign r.body (x.SL l0 EO).t l:=by
    rw[e1,e2,e3,e4];exact UZ hk hl0 l
   have d1:=((hk (.iter (zS R x ps assign body)) c _ o1 h1).2 none (l,l0.2) (λj=>Env.loop l (recAt r j) (x.SL l0 EO).t) ⟨rfl,r,_,rfl,hR⟩).1
   have hinit:(X.mk fn.ntmps t x.h x.nx none).SL (l,l0.2) (λj=>Env.loop l (recAt r j) (x.SL l0 EO).t)={ n:=fn.ntmps,t:=λi=>(first++[D.fn (.yield l) [] []]++aK).getD i .junk,h:=(x.SL l0 EO).h,nx:=(x.SL l0 EO).nx,e:=Env.loop l (recAt r none) (x.SL l0 EO).t }:=by
    simp only[X.SL,S.mk.injEq,true_and,and_true]
    funext i
    rw[t2];have Nr : ∀d∈first++aK,cZ (l,l0.2) d=d:=λd hd=>uK (by
     rw[List.any_eq_false]at htk
     simpa using htk d hd)
    have hmap:(first++[D.fn (.yield l) [] []]++aK)=(first++[tok]++aK).map (cZ (l,l0.2)):=by
     rw[YP,YP];have a1:first.map (cZ (l,l0.2))=first:=by
      conv=>rhs;rw[<-List.map_id first]
      exact YG λd hd=>Nr d (Yu.2 (.inl hd))
     have a2:aK.map (cZ (l,l0.2))=aK:=by
      conv=>rhs;rw[<-List.map_id aK]
      exact YG λd hd=>Nr d (Yu.2 (.inr hd))
     rw[a1,a2];rfl
    rw[hmap]
    by_cases hi:i<(first++[tok]++aK).length
    . rw[X0 ⟨Yk _,om⟩];simp only[List.getD,Nat.sub_zero,Yj];rw[X5 hi];rfl
    rw[XW (λq=>hi (by omega))]
    simp only[List.getD,Yj];rw[Zm (by omega)]
    rfl
   rw[hinit]at d1;refine DW.mono d1 ?_;rintro e s ⟨o,ho,rfl,rfl⟩;obtain⟨o2,k2,k3⟩:=ll h o ho;obtain⟨hl,e,he,rfl⟩:=each o ho o2 k2;refine⟨?_,o.2.j,rfl,?_⟩
   .
    generalize o.1=e' at hl
    cases e'<;>first|exact .inl rfl|exact .inr rfl|cases hl
   have hmem:=k3 _ (.head _);generalize hj:o.2.j=j at he;unfold DI at he
   split at he
   . simp only[XU]at he;subst he;exact⟨_,hmem,rfl,rfl⟩
   . simp only[XU]at he;subst he;exact⟨_,hmem,rfl,rfl⟩
   . simp only[XU]at he;subst he;exact⟨_,hmem,rfl,rfl⟩
   cases he
  cases h
 cases h
end
section
variable [aa P] {V : Ev} {R : Rn} {ro : Option Nat} {Q : Exit -> S -> Prop} {l : Nat × Nat} {E : Option Code -> Env}
theorem F3 : ∀{t:Tr},wV t=true -> ∀p,lX (bV t p)=false
 | .nil,_,p=>by rw[EN];rfl
 | .node d l r,h,p=>by
  simp only[wV,XT,X7]at h
  cases p with
  | nil=>exact h.1.1
  | cons b p=>cases b with
   | true=>exact F3 h.1.2 p
   | false=>exact F3 h.2 p
def U6{l2:Nat}{d:D}(h:lX d=false):cZ (l.1,l2) d=cZ l d:=by
 unfold cZ
 rw[h]
 rfl
theorem QN{l2:Nat}{x:X}(h:wV x.t=true):x.SL (l.1,l2) E=x.SL l E:=by
 simp only[X.SL,S.mk.injEq,true_and,and_true]
 funext i
 exact U6 (F3 h _)
def Q0{yf:Yc}{l2:Nat}(h:uj P yf ro l E):uj P yf ro (l.1,l2) E:=by
 cases yf<;>exact h
theorem EE{yf:Yc}(h:uj P yf ro l E)(j:Option Code):zu (E j):=by
 cases yf with
 | top=>obtain⟨_,_,rfl⟩:=h;exact OG
 | round=>obtain⟨_,rfl⟩:=h;exact OG
 | iter y=>obtain⟨_,r,t,rfl,_⟩:=h;exact Za9
theorem xQ{x:X}{i:Nat}{d:D}{t':Tr}(ht : ∀q,bV t' q=if q=bE i then d else bV x.t q){h:List (Nat×av)}{nx:Nat}:(X.mk x.n t' h nx x.j).SL l E={ n:=x.n,t:=upd (x.SL l E).t i (cZ l d),h:=htab h,nx:=nx,e:=E x.j }:=by
 simp only[X.SL,S.mk.injEq,true_and,and_true]
 funext k
 rw[ht]
 simp only[upd]
 by_cases e:k=i
 . subst e;simp
 rw[XW (λq=>e (Ck q)),XW e]
theorem Af(hV:ul P V)(hk:um P R.code){yf:Yc}{r n tr dn tq de bid b1:Nat}{eops:Array Oper}{body:Code}:∀(m:Nat)(seen:List Nat)(x:X)(outs:List (Exit×X)),yF P V R yf r n tr dn tq de bid b1 eops body m seen x=some outs ->
  (∀o∈outs,o.2.n=x.n) /\ ∀ro l E,uj P yf ro l E->MW P ro (V.T.con true false) r n tr dn tq de bid b1 l.2 eops body (λe s=>∃o∈outs,e=o.1/\s=o.2.SL l E) m seen (x.SL l E)
 | 0,_,_,_,h=>by cases h
 | m+1,seen,x,outs,h=>by
  unfold yF at h
  split at h
  .
   rename_i hc
   obtain⟨c1,c2,c3⟩:=hc;have htr : ∀l E,(x.SL l E).t tr = .v (.pointer (some ⟨l.2,0,none⟩)):=by
    intro l E
    show cZ l (bV x.t (bE tr))=_
    rw[Gy c1];rfl
   split at h
   . cases h
   rename_i bl hbl
   split at h
   . cases h
   rename_i kv jk
   split at h
   .
    rename_i hlen
    split at h
    .
     rename_i hf
     obtain⟨t1,u1,u2⟩:=jA (bE dn) x.t (.tuple [.b false]);obtain⟨t2,u3,u4⟩:=jA (bE tq) t1 (.b false);rw[u1,u3,XU]at h;subst h;refine⟨by simp,λro l E hy=>⟨htr l E,c2,c3,EE hy _,bl,kv,hbl,jk,hlen,λ_=>⟨_,.head _,rfl,?_⟩,λi hi hs=>?_⟩⟩
     .
      have e1:=xQ (l:=l) (E:=E) (x:=X.mk x.n t1 x.h x.nx x.j) u4 (h:=x.h) (nx:=x.nx);have e2:=xQ (l:=l) (E:=E) (x:=x) u2 (h:=x.h) (nx:=x.nx)
      show _=(X.mk x.n t2 x.h x.nx x.j).SL l E
      rw[e1,e2];rfl
     have:i∈(List.range n).filter (λi=>!seen.contains i):=by
      simp only[Zi,YU];exact⟨hi,by simpa using hs⟩
     rw[hf]at this
     cases this
    rename_i c cs hf
    have hcand : ∀i,i<n->i ∉ seen->i∈c::cs:=by
     intro i hi hs;rw[<-hf];simp only[Zi,YU];exact⟨hi,by simpa using hs⟩
    have hc0:c<n/\c ∉ seen:=by
     have:c∈(List.range n).filter (λi=>!seen.contains i):=by rw[hf];exact .head _
     simp only[Zi,YU]at this;exact⟨this.1,by simpa using this.2⟩
    refine⟨λo ho=>?_,λro l E hy=>⟨htr l E,c2,c3,EE hy _,bl,kv,hbl,jk,hlen,λhall=>absurd (hall c hc0.1) hc0.2,λi hi hs k v hk1 hv1=>?_⟩⟩
    .
     obtain⟨i,hi,o1,h1,h2⟩:=mY h o ho
     split at h1
     .
      rename_i k v hk1 hv1
      split at h1
      .
       obtain⟨t1,u1,u2⟩:=jA (bE dn) x.t (.tuple [.b true,k,v]);obtain⟨t2,u3,u4⟩:=jA (bE tq) t1 (.b true);obtain⟨t3,u5,u6⟩:=jA (bE de) t2 (.tuple [k,v]);rw[u1,u3,u5,jq]at h1
       split at h1
       . cases h1
       rename_i x2 hx2
       obtain⟨_,_,_,r3,_⟩:=yw (l:=L0) (E:=EO) hV.T _ _ _ _ True hx2
       split at h1
       . cases h1
       rename_i o2 h3
       obtain⟨q,hq,o3,h4,h5⟩:=mY h1 o h2;have vv:q.2.n=x.n:=((hk yf body x2 o2 h3).1 q hq).trans r3;obtain⟨e',y⟩:=q
       cases e' with
       | normal=>exact((Af hV hk m _ _ _ h4).1 o h5).trans vv
       | exit j =>
        simp only at h4
        split at h4
        . exact((Af hV hk m _ _ _ h4).1 o h5).trans vv
        split at h4
        . simp only[XU]at h4;subst h4;rw[Yi.1 h5];exact vv
        simp only[XU]at h4;subst h4;rw[Yi.1 h5];exact vv
       | _ =>
        simp only[XU]at h4;subst h4;rw[Yi.1 h5];exact vv
      cases h1
     cases h1
    obtain⟨o1,h1,h2⟩:=ll h i (hcand i hi hs);rw[hk1,hv1]at h1;simp only at h1
    split at h1
    .
     rename_i htk
     obtain⟨t1,u1,u2⟩:=jA (bE dn) x.t (.tuple [.b true,k,v]);obtain⟨t2,u3,u4⟩:=jA (bE tq) t1 (.b true);obtain⟨t3,u5,u6⟩:=jA (bE de) t2 (.tuple [k,v]);rw[u1,u3,u5,jq]at h1
     split at h1
     . cases h1
     rename_i x2 hx2
     obtain⟨q',r1,r2,r3,r4,r5⟩:=yw (l:=l) (E:=E) hV.T _ _ _ _ True hx2
     split at h1
     . cases h1
     rename_i o2 h3
     have e1:=xQ (l:=l) (E:=E) (x:=X.mk x.n t2 x.h x.nx x.j) u6 (h:=x.h) (nx:=x.nx+eops.size);have e2:=xQ (l:=l) (E:=E) (x:=X.mk x.n t1 x.h x.nx x.j) u4 (h:=x.h) (nx:=x.nx);have e3:=xQ (l:=l) (E:=E) (x:=x) u2 (h:=x.h) (nx:=x.nx);have e4:(X.mk x.n t3 x.h (x.nx+eops.size) x.j).SL l E={ n:=x.n,t:=upd (upd (upd (x.SL l E).t dn (.tuple [.b true,k,v])) tq (.b true)) de (.tuple [k,v]),h:=htab x.h,nx:=x.nx+eops.size,e:=E x.j }:=by
      rw[e1,e2,e3];rfl
     rw[e4]at r2;refine⟨_,r2,r1 trivial,DW.mono ((hk yf body x2 o2 h3).2 ro l E hy).1 ?_⟩;rintro e s ⟨q,hq,rfl,rfl⟩;obtain⟨o3,h4,h5⟩:=ll h1 q hq;have vv:(q.2.SL l E).n=(x.SL l E).n:=((hk yf body x2 o2 h3).1 q hq).trans r3;have again:yF P V R yf r n tr dn tq de bid b1 eops body m (seen++[i]) q.2=some o3->MW P ro (V.T.con true false) r n tr dn tq de bid b1 l.2 eops body (λe s=>∃o∈outs,e=o.1/\s=o.2.SL l E) m (seen++[i]) (q.2.SL l E):=λh4 =>
      Ey (λe s⟨o,z1,z2⟩=>⟨o,h2 o (h5 o z1),z2⟩) ((Af hV hk m _ _ _ h4).2 ro l E hy)
     obtain⟨e',y⟩:=q
     cases e' with
     | normal=>exact⟨again h4,vv⟩
     | exit j =>
      simp only at h4 ⊢
      split
      .
       rename_i hj
       rw[X0 hj]at h4;exact⟨again h4,vv⟩
      rename_i hj
      rw[XW hj]at h4
      split
      .
       rename_i hj2
       rw[X0 hj2,XU]at h4;subst h4;exact⟨_,h2 _ (h5 _ (.head _)),rfl,rfl⟩
      rename_i hj2
      rw[XW hj2,XU]at h4;subst h4;exact⟨_,h2 _ (h5 _ (.head _)),rfl,rfl⟩
     | _ =>
      simp only[XU]at h4;subst h4;exact⟨_,h2 _ (h5 _ (.head _)),rfl,rfl⟩
    cases h1
   cases h
  cases h
theorem WW{a b:Code}{ms:MS}(h:CJ a b=some ms):∃(i ty0 ty1 ty2 ty3:Nat)(p0 p1 p2 p3:String)(af0 af1 af2 af3:Array Edge),a = .region ms.id ms.ops false/\b = .block ms.bid (.loop (.seq (.region ms.nid ms.nops false) (.seq (.cond (.tmp ms.tq) .skip (.exit ms.bid)) (.block ms.b1 (.seq (.region ms.eid ms.eops false) ms.body))))) /\
  ms.ops[i]? = some ⟨some ms.tr,.range ms.ty (.tmp ms.m0),ty0,p0,af0,none⟩/\ms.ops.size=i+1/\ms.nops[0]? = some ⟨some ms.dn,.next (.tmp ms.tr) false,ty1,p1,af1,none⟩/\ms.nops[1]? = some ⟨some ms.tq,.extract (.tmp ms.dn) 0,ty2,p2,af2,none⟩/\ms.nops.size=2/\ms.eops[0]? = some ⟨some ms.de,.entry (.tmp ms.tr),ty3,p3,af3,none⟩:=by
 unfold CJ at h
 split at h
 .
  rename_i id ops bid nid nops tq bid' b1 eid eops body
  split at h
  .
   rename_i tr ty m0 ty0 p0 af0 dn tr1 ty1 p1 af1 tq1 dn1 ty2 p2 af2 de tr2 ty3 p3 af3 rest h1 h2 h3
   split at h
   .
    rename_i hq
    obtain⟨rfl,rfl,rfl,rfl,rfl⟩:=hq;simp only[XU]at h;subst h;have hpos:0<ops.size:=by
     cases hz:ops.size with
     | zero =>
      have:ops.toList=[]:=Ye (by rw[Array.length_toList,hz])
      rw[this]at h1
      cases h1
     | succ k=>omega
    refine⟨ops.size-1,ty0,ty1,ty2,ty3,p0,p1,p2,p3,af0,af1,af2,af3,rfl,rfl,?_,by show ops.size=_;omega,?_,?_,?_,?_⟩
    .
     show ops[ops.size-1]? = _
     rw[List.getLast?_eq_getElem?,Array.length_toList]at h1;rw[<-h1,YH]
    .
     show nops[0]? = _
     rw[<-YH,h2];rfl
    .
     show nops[1]? = _
     rw[<-YH,h2];rfl
    .
     show nops.size=2
     rw[<-Array.length_toList,h2];rfl
    show eops[0]? = _
    rw[<-YH,h3];rfl
   cases h
  cases h
 cases h
def ZcA(hV:ul P V)(hk:um P R.code){yf:Yc}{a b:Code}{ms:MS}(hms:CJ a b=some ms){x:X}{outs:List (Exit×X)}(h:Iq P V R yf ms x=some outs) :
  (∀o∈outs,o.2.n=x.n) /\ ∀ro l E,uj P yf ro l E->DW P ro (.seq a b) (λe s=>∃o∈outs,e=o.1/\s=o.2.SL l E) (x.SL l E):=by
 obtain⟨i,ty0,ty1,ty2,ty3,p0,p1,p2,p3,af0,af1,af2,af3,rfl,rfl,m1,m2,m3,m4,m5,m6⟩:=WW hms
 unfold Iq at h
 split at h
 .
  rename_i hc
  obtain⟨hty,htr⟩:=hc
  split at h
  . cases h
  rename_i x1 hx1
  split at h
  .
   rename_i hno
   split at h
   .
    rename_i r hm0
    split at h
    . cases h
    rename_i bl hbl
    split at h
    . cases h
    rename_i kv jk
    split at h
    .
     rename_i hlen
     rw[jq]at h;obtain⟨t1,u1,u2⟩:=jA (bE ms.tr) x1.t BJ;rw[u1]at h
     split at h
     . cases h
     rename_i o1 h1
     have Nn:x1.n=x.n:=by
      obtain⟨_,_,_,r3,_⟩:=yw (l:=L0) (E:=EO) hV.T _ _ _ _ True hx1;exact r3
     have each : ∀o:Exit×X,∃t',(∀{α:Type}(k:Tr->α),tset o.2.t (bE ms.tr) .junk k=k t') /\ ∀q,bV t' q=if q=bE ms.tr then .junk else bV o.2.t q:=λo=>jA (bE ms.tr) o.2.t .junk
     refine⟨λo ho=>?_,λro l E hy=>?_⟩
     .
      obtain⟨q,hq,o2,h2,h3⟩:=mY h o ho;obtain⟨t',v1,v2⟩:=each q;rw[v1]at h2
      split at h2
      . simp only[XU]at h2;subst h2;rw[Yi.1 h3];exact((Af hV hk _ _ _ _ h1).1 q hq).trans Nn
      cases h2
     obtain⟨q',r1,r2,r3,r4,r5⟩:=yw (l:=l) (E:=E) hV.T _ _ _ _ True hx1;have hdl:ms.ops.toList.dropLast=ms.ops.toList.take i:=by
      rw[List.dropLast_eq_take,Array.length_toList,m2];rfl
     rw[hdl]at r2;have r2:bB P (words P) (V.T.con true false) ms.ops.toList (x.SL l E).nx 0 (ms.ops.toList.take i) { x.SL l E with nx:=(x.SL l E).nx+ms.ops.size,ok:=True }={ x1.SL l E with ok:=q' }:=r2
     refine ZbM (C:=V.T.con true false) (i:=i) (r:=r) (n:=kv.length / 2) (m0:=ms.m0) (bl:=bl) (kv:=kv) (EE hy _) m1 m2 m3 m4 m5 m6 r2 (r1 trivial) ?_ hbl jk hlen hty (by show ms.tr<x1.n;rw[Nn];exact htr) λl2=>⟨kv.length / 2+2,?_⟩
     .
      show cZ l (bV x1.t (bE ms.m0))=_
      rw[hm0];rfl
     have hmr:=(Af hV hk _ _ _ _ h1).2 ro (l.1,l2) E (Q0 hy);have e1:(X.mk x1.n t1 x1.h x1.nx x1.j).SL (l.1,l2) E={ x1.SL l E with t:=upd (x1.SL l E).t ms.tr (.v (.pointer (some ⟨l2,0,none⟩))),ok:=True }:=by
      rw[xQ (l:=(l.1,l2)) (E:=E) (x:=x1) u2,QN hno];rfl
     rw[e1]at hmr;refine Ey (λe s hs=>?_) hmr
     obtain⟨o,ho,rfl,rfl⟩:=hs;obtain⟨o2,h2,h3⟩:=ll h o ho;obtain⟨t',v1,v2⟩:=each o;rw[v1]at h2
     split at h2
     .
      rename_i hno2
      simp only[XU]at h2;subst h2;refine⟨_,h3 _ (.head _),rfl,?_⟩;have e2:=xQ (l:=(l.1,l2)) (E:=E) (x:=o.2) v2 (h:=o.2.h) (nx:=o.2.nx);rw[QN (by exact hno2)]at e2
      show _=(X.mk o.2.n t' o.2.h o.2.nx o.2.j).SL l E
      rw[e2];rfl
     cases h2
    cases h
   cases h
  cases h
 cases h
end
section
variable [aa P] {V : Ev} {R : Rn} {ro : Option Nat} {Q : Exit -> S -> Prop} {l : Nat × Nat} {E : Option Code -> Env}
theorem R6(hV:ul P V)(hk:um P R.code)(hc:xR P R.call)(hp:zq P R.pure):um P (o7 P V R):=by
 intro yf c x outs h
 have hT:=JA hV.T hp
 cases c with
 | skip =>
  simp only[o7,XU]at h;subst h;exact⟨by simp,λro l E _=>⟨dS ⟨_,.head _,rfl,rfl⟩,λc' e=>by cases e⟩⟩
 | exit id =>
  simp only[o7,XU]at h;subst h;exact⟨by simp,λro l E _=>⟨aP ⟨_,.head _,rfl,rfl⟩,λc' e=>by cases e⟩⟩
 | ret =>
  simp only[o7,XU]at h;subst h;exact⟨by simp,λro l E _=>⟨iP ⟨_,.head _,rfl,rfl⟩,λc' e=>by cases e⟩⟩
 | seq a b =>
  simp only[o7]at h
  split at h
  .
   rename_i ms hms
   obtain⟨q1,q2⟩:=ZcA hV hk hms h;exact⟨q1,λro l E hy=>⟨q2 ro l E hy,λc' e=>by cases e⟩⟩
  cases h1:R.code yf a x with
  | none=>rw[h1]at h;cases h
  | some o1 =>
   rw[h1]at h;obtain⟨p1,p2⟩:=hk yf a x o1 h1;refine⟨λo ho=>?_,λro l E hy=>⟨aY (DW.mono (p2 ro l E hy).1 ?_),λc' e=>by cases e⟩⟩
   .
    rcases P6 h o ho with⟨q,q1,o2,q2,q3⟩|q
    . exact((hk yf b q.2 o2 q2).1 o q3).trans (p1 _ q1)
    exact p1 _ q
   rintro e s ⟨o,k1,rfl,rfl⟩
   rcases Io h o k1 with⟨q1,o2,q2,q3⟩|⟨q1,q2⟩
   . rw[q1];exact DW.mono ((hk yf b o.2 o2 q2).2 ro l E hy).1 λe s⟨q,hq,r⟩=>⟨q,q3 q hq,r⟩
   generalize he:o.1=e at q1
   cases e with
   | normal=>exact absurd rfl q1
   | _=>exact⟨o,q2,he.symm,rfl⟩
 | cond c a b =>
  simp only[o7]at h
  split at h
  .
   rename_i hv
   obtain⟨p1,p2⟩:=hk yf a x outs h;exact⟨p1,λro l E hy=>⟨y8 (by rw[kr (by rw[hv];rfl)];exact hv) (λ_=>(p2 ro l E hy).1) (λe=>by cases e),λc' e=>by cases e⟩⟩
  .
   rename_i hv
   obtain⟨p1,p2⟩:=hk yf b x outs h;exact⟨p1,λro l E hy=>⟨y8 (by rw[kr (by rw[hv];rfl)];exact hv) (λe=>by cases e) (λ_=>(p2 ro l E hy).1),λc' e=>by cases e⟩⟩
  cases h
 | block id c =>
  simp only[o7]at h
  split at h
  . cases h
  rename_i o1 h1
  obtain⟨p1,p2⟩:=hk yf c x o1 h1;simp only[XU]at h;subst h;refine⟨λo ho=>?_,λro l E hy=>⟨dZ (DW.mono (p2 ro l E hy).1 ?_),λc' e=>by cases e⟩⟩
  .
   obtain⟨⟨e,y⟩,k1,rfl⟩:=Yh.1 ho
   cases e with
   | exit j =>
    simp only
    split
    . exact p1 (.exit j,y) k1
    exact p1 (.exit j,y) k1
   | _=>exact p1 _ k1
  rintro _ _ ⟨⟨e',y⟩,k1,he,hs⟩;rw[he,hs];clear he hs
  cases e' with
  | exit j =>
   simp only[zk]
   split
   .
    rename_i e
    exact⟨_,Yh.2 ⟨_,k1,rfl⟩,by simp[e],by simp[e]⟩
   rename_i e
   exact⟨_,Yh.2 ⟨_,k1,rfl⟩,by simp[e],by simp[e]⟩
  | _=>exact⟨_,Yh.2 ⟨_,k1,rfl⟩,rfl,rfl⟩
 | loop c =>
  simp only[o7]at h
  cases h1:R.code yf c x with
  | none=>rw[h1]at h;cases h
  | some o1 =>
   rw[h1]at h;obtain⟨p1,p2⟩:=hk yf c x o1 h1;have hr : ∀ro l E,uj P yf ro l E -> ∃m,kR P ro c (λe s=>∃o∈outs,e=o.1/\s=o.2.SL l E) m (x.SL l E):=λro l E hy=>UY (outs:=o1) (n:=x.n) (λo ho e1=>by
    rcases Io h o ho with⟨_,o2,q2,q3⟩|⟨q1,_⟩
    . obtain⟨m,hm⟩:=((hk yf (.loop c) o.2 o2 q2).2 ro l E hy).2 c rfl;exact⟨⟨m,Kr (λe s⟨q,r1,r2⟩=>⟨q,q3 q r1,r2⟩) hm⟩,p1 _ ho⟩
    . exact absurd e1 q1) (λo ho e1=>by
    rcases Io h o ho with⟨q1,_⟩|⟨_,q2⟩
    . exact absurd q1 e1
    exact⟨o,q2,rfl,rfl⟩) rfl (p2 ro l E hy).1
   refine⟨λo ho=>?_,λro l E hy=>⟨?_,λc' e=>?_⟩⟩
   .
    rcases P6 h o ho with⟨q,q1,o2,q2,q3⟩|q
    . exact((hk yf (.loop c) q.2 o2 q2).1 o q3).trans (p1 _ q1)
    exact p1 _ q
   . obtain⟨m,hm⟩:=hr ro l E hy;exact ZbK m hm
   cases e
   exact hr ro l E hy
 | region id ops draw =>
  simp only[o7]at h
  split at h
  .
   rename_i hdr
   subst hdr;unfold P8 at h
   split at h
   .
    split at h
    . cases h
    rename_i hne
    obtain⟨q1,q2⟩:=Zb4 (id:=id) hV hc hp h;refine⟨q1,λro l E hy=>⟨?_,λc' e=>by cases e⟩⟩
    cases yf with
    | top=>obtain⟨rfl,hl,rfl⟩:=hy;exact q2 _ _ hl
    | round=>obtain⟨hl,rfl⟩:=hy;exact q2 _ _ hl
    | iter y=>exact absurd rfl (hne y)
   split at h
   .
    rename_i hb
    split at h
    .
     rename_i x' hx'
     simp only[XU]at h;subst h;exact⟨by simpa using(DV (ro:=none) (l:=L0) (E:=EO) (id:=id) hT hb hx').1,λro l E _=>⟨(DV hT hb hx').2,λc' e=>by cases e⟩⟩
    split at h
    .
     rename_i hb
     split at h
     .
      rename_i x' hx'
      simp only[XU]at h;subst h;exact⟨by simpa using(DV (ro:=none) (l:=L0) (E:=EO) (id:=id) hT hb hx').1,λro l E _=>⟨(DV hT hb hx').2,λc' e=>by cases e⟩⟩
     cases h
    cases h
   cases h
  rename_i hdr
  have hdr:draw=false:=by simpa using hdr
  subst hdr;obtain⟨n,t,h0,nx,j⟩:=x;unfold P7 at h;simp only[jq]at h
  split at h
  . cases h
  rename_i o1 h1
  simp only[XU]at h;subst h;have key : ∀ro l E,uj P yf ro l E->_:=λro l E hy=>Lx (ro:=ro) (l:=l) (E:=E) hV hc hy ops.toList 0 nx ⟨n,t,h0,nx+ops.size,j⟩ o1 rfl (Yk _) rfl h1
  refine⟨λo ho=>?_,λro l E hy=>⟨ZbJ ((key ro l E hy).2 _ λx' hx'=>?_),λc' e=>by cases e⟩⟩
  . obtain⟨y,k1,rfl⟩:=Yh.1 ho;exact sF h1 y k1
  exact⟨_,Yh.2 ⟨x',hx',rfl⟩,rfl,rfl⟩
 | rangeFunc gf ps assign body =>
  simp only[o7]at h
  split at h
  .
   obtain⟨q1,q2⟩:=Zcz hk h;refine⟨q1,λro l E hy=>⟨?_,λc' e=>by cases e⟩⟩
   obtain⟨rfl,hl,rfl⟩:=hy;exact q2 l hl
  cases h
 | _=>cases h
theorem X_S(x:X):x.SL L0 EO=x.S:=SL0 x
def Ni{l:List D}{n:Nat}{h:List (Nat×av)}{nx:Nat}:∃t,(∀{α:Type}(k:Tr->α),vV l 0 .nil k=k t)/\(X.mk n t h nx none).SL L0 EO={ n:=n,t:=λi=>l.getD i .junk,h:=htab h,nx:=nx }:=by
 obtain⟨t,h1,h2⟩:=EP l 0 .nil
 refine⟨t,h1,?_⟩
 rw[SL0]
 simp only[S.mk.injEq,true_and,and_true]
 funext i
 rw[h2]
 split
 . rfl
 rename_i hi
 simp only[List.getD]
 rw[Zm (by omega)]
 rfl
def MC{e:Exit}(h:yJ e=true):e = .normal\/e = .ret:=by
 cases e<;>first|exact .inl rfl|exact .inr rfl|cases h
def ZdF{ds:List D}{d:D}(h:allEq ds=some d):∀e∈ds,e=d:=by
 unfold allEq at h
 split at h
 .
  rename_i d' l
  split at h
  .
   rename_i hc
   simp only[XU]at h;subst h;intro e he
   rcases Yv.1 he with rfl|he
   . rfl
   exact(ru (Yf.1 hc e he)).symm
  cases h
 cases h
def RX(hk:um P R.code):zq P (ES P V R):=by
 intro f args res h
 unfold ES at h
 split at h
 . cases h
 rename_i fn hf
 split at h
 . cases h
 rename_i c hb
 split at h
 .
  rename_i hq
  obtain⟨_,hbd,hnr,hn⟩:=hq;obtain⟨t,t1,t2⟩:=Ni (l:=args) (n:=fn.ntmps) (h:=[]) (nx:=0);rw[t1]at h
  split at h
  . cases h
  rename_i outs h1
  split at h
  . cases h
  rename_i ds h2
  refine VD hf hb hbd hnr hn ?_;have:=((hk .top c _ outs h1).2 none L0 EO ⟨rfl,rfl,rfl⟩).1;rw[t2]at this;refine DW.mono this ?_;rintro e s ⟨o,ho,rfl,rfl⟩;obtain⟨o2,k2,k3⟩:=ll h2 o ho;unfold Lm at k2
  split at k2
  .
   rename_i hq
   rw[Ic,XU]at k2;subst k2;rw[X_S];exact⟨MC hq.1,Cf P hq.2.1,8,hq.2.2,ZdF h _ (k3 _ (.head _))⟩
  cases k2
 cases h
def R8(hV:ul P V)(hk:um P R.code)(hp:zq P R.pure):xR P (ET P V R):=by
 intro f az h n outs hs
 unfold ET at hs
 split at hs
 .
  rename_i o1 h1
  simp only[XU]at hs;subst hs;exact hV.ext _ _ _ _ _ h1
 split at hs
 .
  rename_i d hd
  simp only[XU]at hs;subst hs;refine dz.mono ((hp _ _ _ hd).rct (htab h) n) ?_;rintro d' h' n' ⟨rfl,rfl,rfl⟩;exact⟨_,.head _,rfl,rfl,rfl⟩
 split at hs
 . cases hs
 rename_i fn hf
 split at hs
 . cases hs
 rename_i c hb
 split at hs
 .
  rename_i hq
  obtain⟨hbd,hn⟩:=hq;obtain⟨t,t1,t2⟩:=Ni (l:=az) (n:=fn.ntmps) (h:=h) (nx:=n);rw[t1]at hs
  split at hs
  . cases hs
  rename_i o1 h1
  refine KF hf hb hbd hn λ_=>?_
  have:=((hk .top c _ o1 h1).2 none L0 EO ⟨rfl,rfl,rfl⟩).1;rw[t2]at this;refine DW.mono this ?_;rintro e s ⟨o,ho,rfl,rfl⟩;obtain⟨o2,k2,k3⟩:=ll hs o ho;unfold Ls at k2
  split at k2
  .
   rename_i hq
   rw[Ob,jq]at k2;simp only[XU]at k2;subst k2;rw[X_S];exact⟨MC hq.1,Cf P hq.2,_,_,λr=>VG r,X3 _,_,k3 _ (.head _),rfl,rfl,rfl⟩
  cases k2
 cases hs
theorem wo(hV:ul P V):∀k,um P (uG P V k).code/\xR P (uG P V k).call/\zq P (uG P V k).pure
 | 0=>⟨λyf c x outs h=>(by cases h),λf az h n outs hs=>(by cases hs),λf az d h=>by cases h⟩
 | k+1=>⟨R6 hV (wo hV k).1 (wo hV k).2.1 (wo hV k).2.2,R8 hV (wo hV k).1 (wo hV k).2.2,RX (wo hV k).1⟩
def run_pure(hV:ul P V)(k:Nat){f:FuncId}{args:List D}{d:D}(h:(uG P V k).pure f args=some d):PureCt P f args d:=(wo hV k).2.2 _ _ _ h
end
end Go.DL
namespace Go.Proofs.YtdcenbhgholncaaGreatDoor
open Go.Proofs.Tryz
open Go.DL
def rulesTab:List Value:=[.int .i64 0,.int .i64 0,.int .i64 0,.int .i64 0,.int .i64 0,.bool false,.bool false,.bool false,.int .i64 0,.int .i64 1,.int .i64 1000000,.int .i64 0,.int .i64 0,.bool false,.bool false,.bool true,.int .i64 1,.int .i64 0,.int .i64 0,.int .i64 0,.int .i64 0,.bool false,.bool false,.bool false,.int .i64 1,.int .i64 0,.int .i64 0,.int .i64 0,.int .i64 0,.bool false,.bool true,.bool false,.int .i64 0,.int .i64 0,.int .i64 65535,.int .i64 0,.int .i64 100000,.bool false,.bool true,.bool false,.int .i64 3,.int .i64 0,.int .i64 0,.int .i64 0,.int .i64 0,.bool false,.bool false,.bool true,.int .i64 0,.int .i64 1,.int .i64 1000000,.int .i64 1,.int .i64 3,.bool false,.bool false,.bool false,.int .i64 0,.int .i64 1,.int .i64 1000000,.int .i64 1,.int .i64 3,.bool false,.bool false,.bool false,.int .i64 2,.int .i64 2,.int .i64 510,.int .i64 0,.int .i64 0,.bool true,.bool false,.bool true]
instance:aa prog:=⟨λx=>match x with|0=>some rulesTab|_=>none⟩
theorem glob0:aa.tab prog 0=some rulesTab:=rfl
def mix:prog.follows .mixedOrders=true:=by kernel_rfl
@[go_sem]theorem ty_1:bP prog 3=false/\prog.cellsOf 3=1/\prog.bytesOf 3=8/\zeroCells prog 3=[.v (.int .i64 0)]/\cB prog 3=true/\prog.underlying 3=some (.int .i64)/\ut prog 3 = .v (.int .i64 0)/\Dj prog 3=true/\lV prog 3=true/\bP prog 4=false/\prog.cellsOf 4=1/\prog.bytesOf 4=1/\zeroCells prog 4=[.v (.bool false)]/\cB prog 4=true/\prog.underlying 4=some .bool/\ut prog 4 = .v (.bool false)/\Dj prog 4=true/\bP prog 5=false/\prog.cellsOf 5=1/\prog.bytesOf 5=1/\zeroCells prog 5=[.v (.int .u8 0)]/\cB prog 5=true/\prog.underlying 5=some (.int .u8)/\bP prog 9=false/\prog.cellsOf 9=1/\prog.bytesOf 9=16/\zeroCells prog 9=[.v (.string ⟨⟨[]⟩⟩)]/\cB prog 9=true/\prog.underlying 9=some .string/\lV prog 9=true/\bP prog 22=false/\prog.cellsOf 22=1/\(prog.underlying 22).isSome=true/\aT prog 22=some 44/\bP prog 24=true/\prog.cellsOf 24=2/\prog.bytesOf 24=40/\zeroCells prog 24=[.v (.string ⟨⟨[]⟩⟩),.list true []]/\cB prog 24=true/\(prog.underlying 24).isSome=true:=by and_intros<;>kernel_rfl
@[go_sem]theorem ty_2:bA prog 24 0=some (0,9)/\bA prog 24 1=some (1,22)/\mr prog 24=true/\bP prog 25=false/\prog.cellsOf 25=1/\(prog.underlying 25).isSome=true/\aT prog 25=some 48/\bP prog 27=true/\prog.cellsOf 27=2/\zeroCells prog 27=[.v (.string ⟨⟨[]⟩⟩),.v (.int .i64 0)]/\(prog.underlying 27).isSome=true/\bA prog 27 0=some (0,9)/\bA prog 27 1=some (1,3)/\mr prog 27=true/\lV prog 27=true/\bP prog 31=false/\prog.cellsOf 31=1/\prog.bytesOf 31=8/\zeroCells prog 31=[.v (.int .i64 0)]/\cB prog 31=true/\prog.underlying 31=some (.int .i64)/\bP prog 36=true/\prog.cellsOf 36=3/\zeroCells prog 36=[.v (.int .i64 0),.list true [],.v (.string ⟨⟨[]⟩⟩)]/\(prog.underlying 36).isSome=true/\bA prog 36 0=some (0,3)/\bA prog 36 1=some (1,22)/\bA prog 36 2=some (2,9)/\mr prog 36=true/\bP prog 39=false/\prog.cellsOf 39=1/\zeroCells prog 39=[.list true []]/\(prog.underlying 39).isSome=true/\aT prog 39=some 91/\bP prog 41=true/\prog.cellsOf 41=4/\prog.bytesOf 41=56/\zeroCells prog 41=[.v (.string ⟨⟨[]⟩⟩),.v (.int .i64 0),.v (.int .i64 0),.list true []]/\cB prog 41=true/\(prog.underlying 41).isSome=true:=by and_intros<;>kernel_rfl
@[go_sem]theorem ty_3:bA prog 41 0=some (0,9)/\bA prog 41 1=some (1,3)/\bA prog 41 2=some (2,3)/\bA prog 41 3=some (3,39)/\mr prog 41=true/\bP prog 42=false/\prog.cellsOf 42=1/\(prog.underlying 42).isSome=true/\aT prog 42=some 94/\bP prog 44=true/\prog.cellsOf 44=5/\prog.bytesOf 44=80/\zeroCells prog 44=[.v (.string ⟨⟨[]⟩⟩),.v (.int .i64 0),.v (.int .i64 0),.list true [],.list true []]/\cB prog 44=true/\(prog.underlying 44).isSome=true/\bA prog 44 0=some (0,41)/\bA prog 44 1=some (4,42)/\mr prog 44=true/\bP prog 48=true/\prog.cellsOf 48=2/\prog.bytesOf 48=16/\zeroCells prog 48=[.v (.int .i64 0),.v (.int .i64 0)]/\cB prog 48=true/\(prog.underlying 48).isSome=true/\bA prog 48 0=some (0,3)/\bA prog 48 1=some (1,3)/\bP prog 51=false/\prog.cellsOf 51=1/\(prog.underlying 51).isSome=true/\aT prog 51=some 41/\bP prog 56=false/\prog.cellsOf 56=1/\prog.bytesOf 56=24/\zeroCells prog 56=[.list true []]/\cB prog 56=true/\(prog.underlying 56).isSome=true/\bP prog 57=false/\prog.cellsOf 57=1/\(prog.underlying 57).isSome=true/\bP prog 59=true:=by and_intros<;>kernel_rfl
@[go_sem]theorem ty_4:prog.cellsOf 59=8/\prog.bytesOf 59=152/\zeroCells prog 59=[.list true [],.list true [],.list true [],.v (.string ⟨⟨[]⟩⟩),.v (.int .i64 0),.v (.int .i64 0),.list true [],.list true []]/\cB prog 59=true/\(prog.underlying 59).isSome=true/\bA prog 59 0=some (0,55)/\bA prog 59 1=some (1,56)/\bA prog 59 2=some (2,57)/\bA prog 59 3=some (3,44)/\mr prog 59=true/\bP prog 62=false/\prog.cellsOf 62=1/\prog.bytesOf 62=24/\zeroCells prog 62=[.list true []]/\cB prog 62=true/\(prog.underlying 62).isSome=true/\aT prog 62=some 9/\aT prog 63=some 5/\bP prog 64=false/\prog.cellsOf 64=1/\zeroCells prog 64=[.list true []]/\(prog.underlying 64).isSome=true/\aT prog 64=some 3/\bP prog 72=false/\prog.cellsOf 72=1/\zeroCells prog 72=[.v .nilFunc]/\cB prog 72=true/\(prog.underlying 72).isSome=true/\bP prog 75=true/\prog.cellsOf 75=3/\(prog.underlying 75).isSome=true/\bP prog 80=false/\prog.cellsOf 80=1/\prog.bytesOf 80=8/\cB prog 80=true/\(prog.underlying 80).isSome=true/\bP prog 83=false/\prog.cellsOf 83=1/\zeroCells prog 83=[.v .nilFunc]/\(prog.underlying 83).isSome=true:=by and_intros<;>kernel_rfl
@[go_sem]theorem ty_5:aT prog 87=some 4/\bP prog 91=true/\prog.cellsOf 91=3/\prog.bytesOf 91=32/\zeroCells prog 91=[.v (.string ⟨⟨[]⟩⟩),.v (.int .i64 0),.v (.int .i64 0)]/\cB prog 91=true/\(prog.underlying 91).isSome=true/\bA prog 91 0=some (0,9)/\bA prog 91 1=some (1,3)/\bA prog 91 2=some (2,3)/\mr prog 91=true/\qb prog 91=some [.s,.i,.i]/\prog.cellsOf 92=1/\prog.underlying 92=some (.int .u64)/\bP prog 94=true/\prog.cellsOf 94=6/\prog.bytesOf 94=56/\zeroCells prog 94=[.v (.string ⟨⟨[]⟩⟩),.v (.int .i64 0),.v (.int .i64 0),.v (.int .i64 0),.v (.int .i64 0),.v (.int .u64 0)]/\cB prog 94=true/\(prog.underlying 94).isSome=true/\bA prog 94 0=some (0,9)/\bA prog 94 1=some (1,3)/\bA prog 94 2=some (2,3)/\bA prog 94 3=some (3,3)/\bA prog 94 4=some (4,3)/\bA prog 94 5=some (5,92)/\mr prog 94=true/\qb prog 94=some [.s,.i,.i,.i,.i,.i]/\bP prog 97=false/\prog.cellsOf 97=1/\zeroCells prog 97=[.v (.pointer none)]/\(prog.underlying 97).isSome=true/\bP prog 99=false/\prog.cellsOf 99=1/\(prog.underlying 99).isSome=true/\j4 prog 99=some (27,3):=by and_intros<;>kernel_rfl
@[go_sem]theorem ko27(x0:ByteArray)(x1:Int):iM prog 27 (.agg [.v (.string x0),.v (.int .i64 x1)])=true:=by kernel_rfl
@[go_sem]theorem ty_6:prog.cellsOf 101=8/\zeroCells prog 101=[.v (.string ⟨⟨[]⟩⟩),.list true [],.v (.map none),.v (.string ⟨⟨[]⟩⟩),.v (.int .i64 0),.v (.string ⟨⟨[]⟩⟩),.v (.bool false),.v (.string ⟨⟨[]⟩⟩)]/\bA prog 101 0=some (0,9)/\bA prog 101 1=some (1,22)/\bA prog 101 2=some (2,99)/\bA prog 101 3=some (3,27)/\bA prog 101 4=some (5,9)/\bA prog 101 5=some (6,4)/\bA prog 101 6=some (7,9)/\mr prog 101=true/\bP prog 102=false/\prog.cellsOf 102=1/\cB prog 102=true/\(prog.underlying 102).isSome=true/\aT prog 103=some 102/\bP prog 110=true/\prog.cellsOf 110=2/\zeroCells prog 110=[.v (.string ⟨⟨[]⟩⟩),.list true []]/\(prog.underlying 110).isSome=true/\bA prog 110 0=some (0,24)/\mr prog 110=true/\bP prog 143=false/\prog.cellsOf 143=1/\(prog.underlying 143).isSome=true:=by and_intros<;>kernel_rfl
@[go_sem]theorem ko9(x0:ByteArray):iM prog 9 (.v (.string x0))=true:=by kernel_rfl
@[go_sem]theorem ty_7:bP prog 152=false/\prog.cellsOf 152=1/\zeroCells prog 152=[.v .nilFunc]/\(prog.underlying 152).isSome=true/\bP prog 168=false/\prog.cellsOf 168=1/\zeroCells prog 168=[.v (.map none)]/\(prog.underlying 168).isSome=true/\j4 prog 168=some (9,4)/\(prog.underlying 174).isSome=true/\prog.cellsOf 175=1/\j4 prog 175=some (9,3)/\bP prog 187=true/\prog.cellsOf 187=3/\zeroCells prog 187=[.v (.string ⟨⟨[]⟩⟩),.list true [],.list true []]/\(prog.underlying 187).isSome=true/\bA prog 187 0=some (0,110)/\bA prog 187 1=some (2,62)/\mr prog 187=true/\prog.underlying 192=some (.int .u64)/\prog.underlying 201=some .string/\bP prog 208=true/\prog.cellsOf 208=8/\zeroCells prog 208=[.v (.int .i64 0),.v (.int .i64 0),.v (.int .i64 0),.v (.int .i64 0),.v (.int .i64 0),.v (.bool false),.v (.bool false),.v (.bool false)]/\(prog.underlying 208).isSome=true/\bA prog 208 0=some (0,3)/\bA prog 208 1=some (1,3)/\bA prog 208 2=some (2,3)/\bA prog 208 3=some (3,3)/\bA prog 208 4=some (4,3)/\bA prog 208 5=some (5,4)/\bA prog 208 6=some (6,4)/\bA prog 208 7=some (7,4)/\bP prog 209=true/\prog.cellsOf 209=72/\(prog.underlying 209).isSome=true/\aT prog 209=none/\kF prog 209=some (9,208)/\bP prog 256=false/\prog.cellsOf 256=1:=by and_intros<;>kernel_rfl
@[go_sem]theorem ty_8:zeroCells prog 256=[.v (.int .u64 0)]/\prog.underlying 256=some (.int .u64)/\prog.cellsOf 257=8/\zeroCells prog 257=[.v (.int .u8 0),.v (.int .u8 0),.v (.int .u8 0),.v (.int .u8 0),.v (.int .u8 0),.v (.int .u8 0),.v (.int .u8 0),.v (.int .u8 0)]/\aT prog 257=none/\kF prog 257=some (8,5):=by and_intros<;>kernel_rfl
@[go_sem]theorem ko3(x0:Int):iM prog 3 (.v (.int .i64 x0))=true:=by kernel_rfl
@[go_sem]theorem ty_9:bP prog 281=false/\prog.cellsOf 281=1/\zeroCells prog 281=[.v .nilFunc]/\(prog.underlying 281).isSome=true:=by and_intros<;>kernel_rfl
end Go.Proofs.YtdcenbhgholncaaGreatDoor
namespace Go.Str
open Go.DL
abbrev Str:=List UInt8
def bs(l:Str):ByteArray:=⟨l.toArray⟩
abbrev _root_.Go.DL.D.s(x:Str):D:=.v (.string (bs x))
@[go_sem]theorem bs_mk(l:Str):(ByteArray.mk l.toArray)=bs l:=rfl
@[go_sem]theorem kz(l:Str):(bs l).data.toList=l:=by simp[bs]
@[go_sem]theorem Zc4(l:Str):(bs l).size=l.length:=by simp[bs,ByteArray.size]
def IJ{a b:ByteArray}(h:a.data.toList=b.data.toList):a=b:=by
 cases a;cases b;congr 1;exact Zd h
@[go_sem]theorem ZfS(l:Str)(i j:Nat):(bs l).extract i j=bs ((l.take j).drop i):=by
 apply IJ
 rw[ByteArray.data_extract]
 simp[bs,List.drop_take]
@[go_sem]theorem ZfT(a b:Str):bs a++bs b=bs (a++b):=by
 apply IJ
 rw[ByteArray.data_append]
 simp[bs]
theorem bs_of(a:ByteArray):a=bs a.data.toList:=by apply IJ;simp[bs]
def bD(b:UInt8):List D:=[.v (.int .u8 b.toNat)]
def sR(s:Str):List D:=[.v (.string (bs s))]
def ah:D->Str
 | .v (.string s)=>s.data.toList
 | _=>[]
def aG:D->Int
 | .v (.int _ n)=>n
 | _=>0
def zi:D->Bool
 | .v (.bool b)=>b
 | _=>false
def FY:List D->Str
 | [d]=>ah d
 | _=>[]
def qj:D->List Str
 | .list _ rows=>rows.map FY
 | _=>[]
def zh:D->Str
 | .list _ rows=>rows.map Go.DL.byteOf
 | _=>[]
def str1_v{s:ByteArray}:ah (.v (.string s))=s.data.toList:=rfl
def int1_v{k:IntKind}{n:Int}:aG (.v (.int k n))=n:=rfl
def bool1_v{b:Bool}:zi (.v (.bool b))=b:=rfl
attribute[go_sem]str1_v int1_v bool1_v
theorem qJ{α β:Type}{f:α->β}{g:β->α}(h : ∀x,g (f x)=x)(l:List α):(l.map f).map g=l:=by
 rw[List.map_map]
 exact(YG λx _=>h x).trans (List.map_id l)
@[go_sem]theorem ZdR{f:Bool}{l:List Str}:qj (.list f (l.map sR))=l:=qJ (f:=sR) (g:=FY) (λx=>kz x) l
@[go_sem]theorem ZfR{f:Bool}{l:Str}:zh (.list f (l.map bD))=l:=qJ (f:=bD) (g:=Go.DL.byteOf) (λx=>by simp[Go.DL.byteOf,bD]) l
@[go_sem]theorem ZfQ{f:Bool}:zh (.list f [])=[]:=rfl
attribute [go_sem] sR bD
def gu{l:List Str}{n:Nat}(h:n<l.length):(l.map sR).getD n []=[.v (.string (bs l[n]!))]:=by
 simp[List.getD,h,getElem!_pos,sR]
@[go_sem]theorem wkr_sR{l:List Str}:cK (l.map sR)=l.map sR:=by
 induction l with
 | nil=>rfl
 | cons x l ih=>simp only[X8,cK,ih];rfl
@[go_sem]theorem LU{l:List Str}:aZ (l.map sR)=true:=by
 induction l with
 | nil=>rfl
 | cons x l ih=>simp only[X8,aZ,ih];rfl
@[go_sem]theorem wkr_bD{l:Str}:cK (l.map bD)=l.map bD:=by
 induction l with
 | nil=>rfl
 | cons x l ih=>simp only[X8,cK,ih];rfl
@[go_sem]theorem nrr_bD{l:Str}:aZ (l.map bD)=true:=by
 induction l with
 | nil=>rfl
 | cons x l ih=>simp only[X8,aZ,ih];rfl
def aB(n:Nat)(p:Nat->Bool)(k:Nat):Bool:=if k<n then p k&&aB n p (k+1)else true
termination_by n-k
theorem eD(n:Nat)(p:Nat->Bool)(k:Nat):aB n p k=if k<n then p k&&aB n p (k+1)else true:=by rw[aB]
theorem dO(n:Nat)(p:Nat->Bool)(k:Nat):aB n p k=true↔∀i,k<=i->i<n->p i=true:=by
 rw[eD]
 split
 .
  rename_i h
  rw[XT,dO n p (k+1)];refine⟨λ⟨h1,h2⟩i hi hn=>?_,λh1=>⟨h1 k (X3 _) h,λi hi hn=>h1 i om hn⟩⟩
  by_cases e:i=k
  . subst e;exact h1
  exact h2 i om hn
 rename_i h
 exact⟨λ_ i hi hn=>by omega,λ_=>rfl⟩
termination_by n-k
def mh(c:UInt8):Bool:=(decide (97<=c.toNat)&&decide (c.toNat<=122))||(decide (48<=c.toNat)&&decide (c.toNat<=57))
def kU(l:Str)(i:Nat):Bool:=mh (l.getD i 0)||(decide ((l.getD i 0).toNat=45)&&decide (0<i)&&decide (i+1<l.length))
def dI(l:Str):Bool:=aB l.length (kU l) 0&&decide (1<=l.length)&&decide (l.length<=12)
def sH(l:Str)(i:Nat):Bool:=mh (l.getD i 0)||decide ((l.getD i 0).toNat=45)
theorem Xz(l:Str):dI l=if l.length<1 then false else if 12<l.length then false else if(l.getD 0 0).toNat=45 then false else if(l.getD (l.length-1) 0).toNat=45 then false else aB l.length (sH l) 0:=by
 by_cases h1:l.length<1
 . rw[X0 h1];unfold dI;rw[Y3 (by omega : ¬1<=l.length)];simp
 rw[XW h1]
 by_cases h2:12<l.length
 . rw[X0 h2];unfold dI;rw[Y3 (by omega : ¬l.length<=12)];simp
 rw[XW h2]
 have e:dI l=aB l.length (kU l) 0:=by
  unfold dI;rw[YQ (by omega:1<=l.length),YQ (by omega:l.length<=12)];simp
 rw[e]
 have not45 : ∀c:UInt8,c.toNat=45->mh c=false:=by
  intro c hc;simp[mh,hc]
 by_cases h3:(l.getD 0 0).toNat=45
 .
  rw[X0 h3]
  cases h:aB l.length (kU l) 0 with
  | false=>rfl
  | true =>
   have:=(dO _ _ _).1 h 0 (X3 _) om;simp only[kU,not45 _ h3,Nat.lt_irrefl,decide_false,Bool.and_false,Bool.false_and,ZB]at this;exact this.symm
 rw[XW h3]
 by_cases h4:(l.getD (l.length-1) 0).toNat=45
 .
  rw[X0 h4]
  cases h:aB l.length (kU l) 0 with
  | false=>rfl
  | true =>
   have:=(dO _ _ _).1 h (l.length-1) (Yk _) om;simp only[kU,not45 _ h4,Bool.false_or,XT,XV]at this;omega
 rw[XW h4,YN,dO,dO]
 refine⟨λh i hi hn=>?_,λh i hi hn=>?_⟩
 . have:=h i hi hn;simp only[kU,sH,Ya,XT,XV]at this ⊢;exact this.imp id λh=>h.1.1
 have:=h i hi hn
 simp only[kU,sH,Ya,XT,XV]at this ⊢
 rcases this with h5|h5
 . exact .inl h5
 refine .inr ⟨⟨h5,?_⟩,?_⟩
 .
  rcases Nat.eq_zero_or_pos i with e|e
  . subst e;exact absurd h5 h3
  exact e
 rcases Zo (i+1) l.length with e|e
 . exact e
 have:i=l.length-1:=by omega
 subst this;exact absurd h5 h4
def split(l:Str):List Str:=match l with
 | []=>[[]]
 | c::r=>if c=46 then[]::split r else match split r with
  | []=>[[c]]
  | p::ps=>(c::p)::ps
def jU(out:List Str)(c:UInt8):List Str:=if c=46 then out++[[]]else out.set (out.length-1) (out[out.length-1]! ++ [c])
def Sv{out:List Str}{c:UInt8}(h:(c.toNat:Int)=46):jU out c=out++[[]]:=by
 have:c=46:=by apply ZO.1;simpa using Int.ofNat.inj h
 unfold jU;rw[X0 this]
def Sy{out:List Str}{c:UInt8}(h : ¬(c.toNat:Int)=46):jU out c=out.set (out.length-1) (out[out.length-1]! ++ [c]):=by
 unfold jU;rw[XW];intro e;subst e;exact h rfl
def Wj{l:Str}{k:Nat}(h:k<l.length):(l.take (k+1)).drop k=[l.getD k 0]:=by
 rw[ZI,List.drop_append_of_le_length (by simp;omega),YM (by simp;omega)]
 simp[List.getD,h]
def qm(l:Str)(k:Nat)(out:List Str):List Str:=if k<l.length then qm l (k+1) (jU out (l.getD k 0))else out
termination_by l.length-k
theorem zJ(l:Str)(k:Nat)(out:List Str):qm l k out=if k<l.length then qm l (k+1) (jU out (l.getD k 0))else out:=by rw[qm]
def fQ(l:Str):List Str:=qm l 0 [[]]
def jf(l:Str)(c:Int):Nat->Int
 | 0=>-1
 | k+1=>if((l.getD k 0).toNat:Int)=c then k else jf l c k
theorem MK{l:Str}{c:Int}{k:Nat}(h:0<k):jf l c k=if((l.getD (k-1) 0).toNat:Int)=c then((k-1:Nat):Int)else jf l c (k-1):=by
 obtain⟨j,rfl⟩:∃j,k=j+1:=⟨k-1,om⟩
 rw[jf];rfl
def bN(l:Str)(c:Int):Int:=jf l c l.length
theorem Gn(l:Str)(c:Int):∀k,jf l c k<k /\ -1<=jf l c k
 | 0=>by simp[jf]
 | k+1=>by
  have:=Gn l c k;unfold jf
  split<;>omega
def Aj(l:Str)(c:Int):bN l c<l.length /\ -1<=bN l c:=Gn l c l.length
def Sw{out:List Str}{c:UInt8}{k:Nat}(h : ∀x∈out,x.length<=k):(∀x∈jU out c,x.length<=k+1)/\(jU out c).length<=out.length+1:=by
 unfold jU
 split
 .
  refine⟨λx hx=>?_,by simp⟩
  rcases Yu.1 hx with hx|hx
  . exact Nat.le_succ_of_le (h x hx)
  simp at hx;subst hx;exact Yk _
 refine⟨λx hx=>?_,by simp⟩
 rcases List.mem_or_eq_of_mem_set hx with hx|hx
 . exact Nat.le_succ_of_le (h x hx)
 subst hx
 rw[YE]
 refine Nat.succ_le_succ ?_
 by_cases ho:out.length-1<out.length
 . exact h _ (by rw[getElem!_pos out _ ho];exact Yq _)
 rw[getElem!_neg out _ ho];exact Yk _
theorem JR(l:Str)(k:Nat)(out:List Str)(hk:k<=l.length)(h : ∀x∈out,x.length<=k):(∀x∈qm l k out,x.length<=l.length)/\(qm l k out).length<=out.length+(l.length-k):=by
 rw[zJ]
 split
 .
  rename_i hlt
  obtain⟨h1,h2⟩:=Sw (c:=l.getD k 0) h;obtain⟨h3,h4⟩:=JR l (k+1) _ om h1;exact⟨h3,om⟩
 exact⟨λx hx=>Yx (h x hx) hk,om⟩
termination_by l.length-k
def BR(l:Str):(∀x∈fQ l,x.length<=l.length)/\(fQ l).length<=l.length+1:=by
 obtain⟨h1,h2⟩:=JR l 0 [[]] (Yk _) (by simp)
 exact⟨h1,by unfold fQ;simp only[YI,ZH]at h2;omega⟩
def Sz(l:Str)(i:Nat):(fQ l)[i]!.length<=l.length:=by
 by_cases h:i<(fQ l).length
 . exact(BR l).1 _ (by rw[getElem!_pos (fQ l) i h];exact Yq _)
 rw[getElem!_neg (fQ l) i h];exact Yk _
def kP(l:Str):List Str:=l.drop (bN l 46+1).toNat::(if _h:bN l 46<0 then[]else kP (l.take (bN l 46).toNat))
termination_by l.length
decreasing_by
 have:=Gn l 46 l.length
 unfold bN at *
 simp
 omega
theorem lI(l:Str):kP l=l.drop (bN l 46+1).toNat::(if bN l 46<0 then[]else kP (l.take (bN l 46).toNat)):=by
 rw[kP];split<;>rfl
def fC(ps:List Str)(i:Nat):Bool:=dI ps[i]! || (decide (i=0)&&ps[i]! == [42])
def ai(l:Str):Bool:=if l=[46]then true else if 60<l.length then false else aB (fQ l).length (fC (fQ l)) 0&&decide ((fQ l).length<=8)
def aL(l:Str):List Str:=if l=[46]then[]else fQ l
def lm:List Str->Nat->Bool->Bool
 | [],_,_=>true
 | x::r,n,wild=>if wild||decide (8<n+1)then false else if !(x==[42]) && !dI x then false else lm r (n+1) (x==[42])
theorem ql(l:Str):split l≠[]:=by
 cases l with
 | nil=>simp[split]
 | cons c r =>
  unfold split
  split
  . simp
  split<;>simp
theorem EW{x:Str}{xs:List Str}(c:UInt8)(h:xs≠[]):jU (x::xs) c=x::jU xs c:=by
 unfold jU
 split
 . rfl
 have hl:0<xs.length:=Y6.2 h
 obtain⟨n,hn⟩:∃n,xs.length=n+1:=⟨xs.length-1,om⟩
 simp[hn]
theorem JP(c:UInt8):∀p:Str,split (p++[c])=jU (split p) c
 | []=>by
  by_cases h:c=46
  . subst h;rfl
  simp[split,jU,h]
 | a::p=>by
  have ih:=JP c p
  show split (a::(p++[c]))=_
  rw[split,split.eq_2 a p]
  by_cases h:a=46
  . rw[X0 h,X0 h,ih,EW c (ql p)]
  rw[XW h,XW h,ih]
  cases hq:split p with
  | nil=>exact absurd hq (ql p)
  | cons q qs =>
   by_cases hc:c=46
   . simp[jU,hc]
   cases qs with
   | nil=>simp[jU,hc]
   | cons r rs =>
    rw[EW (x:=q) (xs:=r::rs) c (by simp),EW (x:=a::q) (xs:=r::rs) c (by simp)]
theorem JQ(l:Str)(k:Nat)(hk:k<=l.length):qm l k (split (l.take k))=split l:=by
 rw[zJ]
 split
 .
  rename_i h
  rw[<-JP,<-JQ l (k+1) (by omega)]
  congr 2
  rw[ZI]
  simp[List.getD,h]
 rw[Yg (by omega)]
termination_by l.length-k
theorem uB(l:Str):fQ l=split l:=JQ l 0 (Yk _)
theorem zI : ∀l:Str,(∀x∈l,x≠46)->split l=[l]
 | [],_=>rfl
 | c::r,h=>by
  rw[split,XW (h c (by simp)),zI r (λx hx=>h x (by simp[hx]))]
theorem BQ(b:Str):∀a:Str,split (a++46::b)=split a++split b
 | []=>by rfl
 | x::a=>by
  show split (x::(a++46::b))=_
  rw[split,split.eq_2 x a,BQ b a]
  by_cases h:x=46
  . rw[X0 h,X0 h];rfl
  rw[XW h,XW h]
  cases hq:split a with
  | nil=>exact absurd hq (ql a)
  | cons q qs=>rfl
theorem ML(l:Str)(c:Int):∀k,(jf l c k<0 -> ∀j,j<k -> ¬((l.getD j 0).toNat:Int)=c)/\(0<=jf l c k->((l.getD (jf l c k).toNat 0).toNat:Int)=c /\ ∀j,(jf l c k).toNat<j->j<k -> ¬((l.getD j 0).toNat:Int)=c)
 | 0=>by simp[jf]
 | k+1=>by
  obtain⟨h1,h2⟩:=ML l c k;unfold jf
  by_cases h:((l.getD k 0).toNat:Int)=c
  . rw[X0 h];exact⟨λh3=>by omega,λ_=>⟨by simpa using h,λj h4 h5=>by simp at h4;omega⟩⟩
  rw[XW h];refine⟨λh3 j hj=>?_,λh3=>⟨(h2 h3).1,λj h4 h5=>?_⟩⟩
  .
   by_cases e:j=k
   . subst e;exact h
   exact h1 h3 j om
  by_cases e:j=k
  . subst e;exact h
  exact(h2 h3).2 j h4 om
def LX{l:Str}{n:Nat}(h : ∀j,n<=j->j<l.length -> ¬((l.getD j 0).toNat:Int)=46):∀x∈l.drop n,x≠46:=by
 intro x hx e
 subst e
 obtain⟨i,hi,he⟩:=YZ hx
 rw[List.getElem_drop]at he
 have hi':n+i<l.length:=by simp at hi;omega
 refine h (n+i) om hi' ?_
 have:l.getD (n+i) 0=46:=by simp only[List.getD,X5 hi',YA];exact he
 rw[this];rfl
theorem pg(l:Str):kP l=(split l).reverse:=by
 rw[lI]
 obtain⟨h1,h2⟩:=ML l 46 l.length
 obtain⟨h3,h4⟩:=Aj l 46
 by_cases h:bN l 46<0
 .
  rw[X0 h];have e:(bN l 46+1).toNat=0:=by omega
  have hs:=zI l (λx hx=>by have:=LX (l:=l) (n:=0) (λj _ hj=>h1 h j hj) x;exact this (by simpa using hx))
  rw[e,hs];rfl
 rw[XW h]
 obtain⟨h5,h6⟩:=h2 (by unfold bN at h;omega)
 generalize hi:(bN l 46).toNat=i at *
 have hi':(jf l 46 l.length).toNat=i:=hi
 have e:(bN l 46+1).toNat=i+1:=by omega
 have hlt:i<l.length:=by omega
 rw[hi']at h5 h6
 have hl:l=l.take i++46::l.drop (i+1):=by
  have hc:l[i]=46:=by
   have:l.getD i 0=l[i]:=by simp[List.getD,hlt]
   rw[this]at h5
   apply ZO.1;simpa using Int.ofNat.inj h5
  conv=>lhs;rw[<-ZQ i l]
  rw[Yr hlt,hc]
 have hs:=zI (l.drop (i+1)) (LX λj hj hn=>h6 j (by omega) hn)
 have ih:=pg (l.take i)
 rw[e,ih]
 conv=>rhs;rw[hl]
 rw[BQ,hs]
 simp
termination_by l.length
decreasing_by
 simp;omega
theorem Jk{x:Str}{r:List Str}{n:Nat}{w:Bool}(h:(w||decide (8<(n:Int)+1))=true):lm (x::r) n w=false:=by
 unfold lm
 rw[X0]
 rw[<-h,ZU.2 (by omega:8<n+1↔8<(n:Int)+1)]
def ZcB{n:Nat}{w:Bool}(h:(w||decide (8<(n:Int)+1))=false):n+1<=8:=by
 rw[Yb,X4]at h
 omega
theorem Jj{x:Str}{r:List Str}{n:Nat}{w:Bool}(h:(w||decide (8<(n:Int)+1))=false)(k:(!(x==[42]) && !dI x)=true):lm (x::r) n w=false:=by
 unfold lm
 rw[XW,X0 k]
 rw[ZU.2 (by omega:8<n+1↔8<(n:Int)+1),h]
 simp
theorem Ji{x:Str}{r:List Str}{n:Nat}{w:Bool}(h:(w||decide (8<(n:Int)+1))=false)(k:(!(x==[42]) && !dI x)=false):lm (x::r) n w=lm r (n+1) (x==[42]):=by
 conv=>lhs;unfold lm
 rw[XW,XW]
 . rw[k];simp
 rw[ZU.2 (by omega:8<n+1↔8<(n:Int)+1),h]
 simp
theorem Sb:dI [42]=false:=by
 unfold dI
 rw[eD]
 rfl
theorem Jh(h:Str):∀(ys:List Str)(n:Nat)(w:Bool),lm (ys++[h]) n w=(!w&&ys.all dI&&(dI h||h==[42])&&decide (n+ys.length+1<=8))
 | [],n,w=>by
  simp only[XZ,lm,List.all_nil,ZH,Zy]
  cases w<;>cases h1:dI h<;>cases h2:(h==[42])<;>by_cases h3:n+1<=8<;>simp[h3,show ¬8<n+1↔n+1<=8 by omega]<;>omega
 | y::ys,n,w=>by
  have ih:=Jh h ys (n+1) (y==[42]);simp only[XX,lm,List.all_cons,YI];rw[ih];have e:n+1+ys.length+1=n+(ys.length+1)+1:=by omega
  rw[e]
  by_cases hs:y=[42]
  .
   subst hs;rw[Sb]
   cases w<;>simp
  have hs':(y==[42])=false:=by simpa using hs
  rw[hs']
  by_cases h3:8<n+1
  .
   have h4 : ¬n+(ys.length+1)+1<=8:=by omega
   simp[h3,h4]
  cases w<;>cases dI y<;>simp[h3]
theorem ZdD(h:Str)(t:List Str):aB (h::t).length (fC (h::t)) 0=(t.all dI&&(dI h||h==[42])):=by
 rw[YN,dO]
 simp only[fC,XT,Ya,Yf,XV,Yy]
 refine⟨λq=>⟨λx hx=>?_,?_⟩,λ⟨q1,q2⟩i _ hi=>?_⟩
 .
  obtain⟨i,hi,rfl⟩:=YZ hx;have:=q (i+1) (Yk _) (by simp;omega)
  rcases this with h1|h1
  . simpa[hi]using h1
  omega
 .
  have:=q 0 (X3 _) (by simp)
  simpa using this
 cases i with
 | zero=>simpa using q2
 | succ i =>
  have hi':i<t.length:=by simpa using hi
  exact .inl (by simpa[hi']using q1 t[i] (Yq hi'))
theorem Mh(l:Str):ai l=if l=[46]then true else if 60<l.length then false else lm (kP l) 0 false:=by
 unfold ai
 rw[pg,<-uB]
 cases hq:fQ l with
 | nil=>exact absurd (by rw[<-uB];exact hq) (ql l)
 | cons h t =>
  rw[ZdD,List.reverse_cons,Jh]
  simp
theorem V3{ps:List Str}{k:Nat}(h1:dI ps[k]! = false)(h2:0<k \/ ¬ps[k]! = [42]):fC ps k=false:=by
 unfold fC
 rw[h1,Bool.false_or,YC,X4,YY]
 rcases h2 with h|h
 . exact .inl om
 exact .inr h
theorem VZ{ps:List Str}{k:Nat}(h:dI ps[k]! = true\/(¬0<k/\ps[k]! = [42])):fC ps k=true:=by
 unfold fC
 rw[Ya,XT,XV,Yy]
 rcases h with h|⟨h1,h2⟩
 . exact .inl h
 exact .inr ⟨om,h2⟩
def bq(l:Str):List Str:=if l=[46]then[]else kP l
def pl(more:Bool)(rest:Str):List Str:=if more then kP rest else[]
def sD(more:Bool)(rest:Str):Str:=if more then rest.drop (bN rest 46+1).toNat else[]
def mH(more:Bool)(rest:Str):Bool:=more&&decide (0<=bN rest 46)
def mG(more:Bool)(rest:Str):Str:=if mH more rest then rest.take (bN rest 46).toNat else rest
theorem KT{rest:Str}:pl true rest=sD true rest::pl (mH true rest) (mG true rest):=by
 unfold pl sD mH mG mH
 rw[X0 rfl,X0 rfl,lI]
 by_cases h:bN rest 46<0
 .
  have : ¬0<=bN rest 46:=by omega
  simp[h,this]
 have:0<=bN rest 46:=by omega
 simp[h,this]
def VS(more:Bool)(rest:Str):(mG more rest).length<=rest.length:=by
 unfold mG
 split
 . simp;omega
 exact X3 _
def oQ:List Str->List Str->Int
 | [],_=>-1
 | _::_,[]=>1
 | x::xs,y::ys=>if Go.Lib.compareBytes x y != 0 then Go.Lib.compareBytes x y else oQ xs ys
def fZ(a b:Str):Int:=if a=b then 0 else oQ (bq a) (bq b)
def gT{l:Str}(h:ai l=true):l.length<=60:=by
 unfold ai at h
 split at h
 . rename_i e;subst e;decide
 split at h
 . cases h
 omega
theorem U3(l:Str):bq l=pl (l != [46]) l:=by
 unfold bq pl
 by_cases h:l=[46]
 . subst h;rfl
 have:(l != [46])=true:=by simpa using h
 rw[XW h,this];rfl
theorem Ec{more:Bool}{rest r2:Str}(h:(!more)=true):oQ (kP rest) (pl more r2)=1:=by
 cases more with
 | true=>cases h
 | false=>rw[lI];rfl
theorem Qa{more:Bool}{rest r2:Str}(h:(!more)=false)(k:(Go.Lib.compareBytes (rest.drop (bN rest 46+1).toNat) (sD more r2) != 0)=true):oQ (kP rest) (pl more r2)=Go.Lib.compareBytes (rest.drop (bN rest 46+1).toNat) (sD more r2):=by
 cases more with
 | false=>cases h
 | true=>rw[lI,KT,oQ,X0 k]
theorem Ir{more:Bool}{rest r2:Str}(h:(!more)=false)(k:(Go.Lib.compareBytes (rest.drop (bN rest 46+1).toNat) (sD more r2) != 0)=false):oQ (kP rest) (pl more r2)=oQ (if bN rest 46<0 then[]else kP (rest.take (bN rest 46).toNat)) (pl (mH more r2) (mG more r2)):=by
 cases more with
 | false=>cases h
 | true=>rw[lI,KT,oQ,XW (by rw[k];simp)]
def qz:List Str->List Str->Int
 | [],[]=>0
 | [],_::_=>-1
 | _::_,[]=>1
 | x::xs,y::ys=>if Go.Op.bytesLess x y then -1 else if !(Go.Op.bytesLess x y||x==y)then 1 else qz xs ys
def dB(a b:Str):Int:=qz (bq a) (bq b)
def uR(l m:List Str)(i:Nat):Int:=if i<=l.length/\i<=m.length then(if Go.Op.bytesLess l[l.length-i]! m[m.length-i]! then -1 else if !(Go.Op.bytesLess l[l.length-i]! m[m.length-i]! || l[l.length-i]! == m[m.length-i]!)then 1 else uR l m (i+1))else if l.length<m.length then -1 else if m.length<l.length then 1 else 0
termination_by l.length+1-i
theorem wP(l m:List Str)(i:Nat):uR l m i=if i<=l.length/\i<=m.length then(if Go.Op.bytesLess l[l.length-i]! m[m.length-i]! then -1 else if !(Go.Op.bytesLess l[l.length-i]! m[m.length-i]! || l[l.length-i]! == m[m.length-i]!)then 1 else uR l m (i+1))else if l.length<m.length then -1 else if m.length<l.length then 1 else 0:=by rw[uR]
theorem Cc{l:List Str}{k:Nat}(h:k<l.length):l.reverse.drop k=l[l.length-(k+1)]! :: l.reverse.drop (k+1):=by
 rw[Yr (by simpa using h),List.getElem_reverse]
 congr 1
 have h2:l.length-1-k<l.length:=by omega
 have e:l.length-(k+1)=l.length-1-k:=by omega
 rw[e,getElem!_pos l _ h2]
theorem Lv(l m:List Str)(k:Nat)(h1:k<=l.length)(h2:k<=m.length):uR l m (k+1)=qz (l.reverse.drop k) (m.reverse.drop k):=by
 rw[wP]
 by_cases h:k+1<=l.length/\k+1<=m.length
 . rw[X0 h,Cc (by omega:k<l.length),Cc (by omega:k<m.length),qz,Lv l m (k+1) h.1 h.2]
 rw[XW h]
 by_cases e1:k=l.length
 .
  rw[YM (by simp;omega)]
  by_cases e2:k=m.length
  . rw[YM (by simp;omega),XW (by omega),XW (by omega)];rfl
  rw[Cc (by omega:k<m.length),X0 (by omega)];rfl
 have e2:k=m.length:=by omega
 have hm:m.reverse.drop k=[]:=YM (by simp;omega)
 rw[hm,Cc (by omega:k<l.length),XW (by omega),X0 (by omega)];rfl
termination_by l.length-k
theorem Cr(l:Str):(aL l).reverse=bq l:=by
 unfold aL bq
 split
 . rfl
 rw[pg,uB]
theorem WC(a b:Str):dB a b=uR (aL a) (aL b) 1:=by
 rw[Lv _ _ 0 (Yk _) (Yk _),Yl,Yl,Cr,Cr];rfl
theorem Bl : ∀a:Str,Go.Op.bytesLess a a=false
 | []=>rfl
 | c::r=>by simp[Go.Op.bytesLess,Bl r]
theorem Bh : ∀a b:Str,Go.Lib.compareBytes a b=if Go.Op.bytesLess a b then -1 else if a==b then 0 else 1
 | [],[]=>rfl
 | [],_::_=>rfl
 | _::_,[]=>by simp[Go.Lib.compareBytes,Go.Op.bytesLess]
 | x::a,y::b=>by
  unfold Go.Lib.compareBytes Go.Op.bytesLess
  by_cases h1:x<y
  . simp[h1]
  by_cases h2:y<x
  .
   have h3 : ¬x=y:=λe=>by subst e;exact h1 h2
   simp[h1,h2,h3]
  have h3:x=y:=by
   apply ZO.1
   have h4 : ¬x.toNat<y.toNat:=h1;have h5 : ¬y.toNat<x.toNat:=h2;omega
  subst h3
  simp[h1,Bh a b]
theorem Qb : ∀xs ys:List Str,xs≠ys->oQ xs ys=qz xs ys
 | [],[],h=>absurd rfl h
 | [],_::_,_=>rfl
 | _::_,[],_=>rfl
 | x::xs,y::ys,h=>by
  unfold oQ qz;rw[Bh]
  by_cases h1:Go.Op.bytesLess x y=true
  . simp[h1]
  by_cases h2:x=y
  .
   subst h2
   simp[Bl]
   exact Qb xs ys λe=>h (by rw[e])
  have h3:(x==y)=false:=by simpa using h2
  simp[h1,h3]
theorem Lu : ∀xs:List Str,qz xs xs=0
 | []=>rfl
 | x::xs=>by simp[qz,Bl,Lu xs]
def fT:List Str->Str
 | []=>[]
 | [p]=>p
 | p::q::r=>p++46::fT (q::r)
theorem xh : ∀l:Str,fT (split l)=l
 | []=>rfl
 | c::r=>by
  have ih:=xh r;unfold split
  by_cases h:c=46
  .
   rw[X0 h]
   cases hs:split r with
   | nil=>exact absurd hs (ql r)
   | cons q qs=>rw[hs]at ih;rw[fT,ih,h];rfl
  rw[XW h]
  cases hs:split r with
  | nil=>exact absurd hs (ql r)
  | cons q qs =>
   rw[hs]at ih
   cases qs with
   | nil=>simp only[fT]at ih ⊢;rw[ih]
   | cons q2 qs2=>simp only[fT]at ih ⊢;rw[<-ih];rfl
theorem ww{a b:Str}(h:bq a=bq b):a=b:=by
 unfold bq at h
 have ne : ∀l:Str,kP l≠[]:=λl e=>by rw[lI]at e;cases e
 by_cases ha:a=[46]<;>by_cases hb:b=[46]
 . rw[ha,hb]
 . rw[X0 ha,XW hb]at h;exact absurd h.symm (ne b)
 . rw[XW ha,X0 hb]at h;exact absurd h (ne a)
 rw[XW ha,XW hb,pg,pg]at h
 rw[<-xh a,<-xh b,List.reverse_inj.1 h]
theorem F6(a b:Str):fZ a b=dB a b:=by
 unfold fZ dB
 by_cases h:a=b
 . subst h;rw[X0 rfl,Lu]
 rw[XW h,Qb _ _ λe=>h (ww e)]
def FL(l:Str):(∀x∈aL l,x.length<=l.length)/\(aL l).length<=l.length+1:=by
 unfold aL
 split
 . exact⟨by simp,Yk _⟩
 exact BR l
end Go.Str
namespace Go.Rec
open Go.DL Go.Str
structure Dat where
 t:Str
 n:Int
 m:Int
 deriving Inhabited,DecidableEq
structure RSet where
 name:Str
 ty:Int
 life:Int
 data:List Dat
 deriving Inhabited,DecidableEq
structure qh where
 text:Int
 n0:Int
 n1:Int
 m0:Int
 m1:Int
 even:Bool
 single:Bool
 wild:Bool
 deriving Inhabited,DecidableEq
def Dat.d(x:Dat):List D:=[.v (.string (bs x.t)),.i x.n,.i x.m]
def Dat.of:List D->Dat
 | [.v (.string s),.v (.int _ n),.v (.int _ m)]=>⟨s.data.toList,n,m⟩
 | _=>default
def RSet.d(x:RSet):List D:=[.v (.string (bs x.name)),.i x.ty,.i x.life,.l (x.data.map Dat.d)]
def RSet.of:List D->RSet
 | [.v (.string s),.v (.int _ t),.v (.int _ l),.list _ rows]=>⟨s.data.toList,t,l,rows.map Dat.of⟩
 | _=>default
def qh.d(r:qh):List D:=[.i r.text,.i r.n0,.i r.n1,.i r.m0,.i r.m1,.b r.even,.b r.single,.b r.wild]
def qh.of:List D->qh
 | [.v (.int _ a),.v (.int _ b),.v (.int _ c),.v (.int _ d),.v (.int _ e),.v (.bool f),.v (.bool g),.v (.bool h)]=>⟨a,b,c,d,e,f,g,h⟩
 | _=>default
def rF{α:Type}(f:List D->α)(z:α):D->α
 | .agg cs=>f cs
 | _=>z
def Ai{α:Type}(f:List D->α):D->List α
 | .list _ rows=>rows.map f
 | _=>[]
def iR(n:Int):List D:=[.i n]
def ofI:List D->Int
 | [.v (.int _ n)]=>n
 | _=>0
def lY:D->List Int:=Ai ofI
def mU:D->Dat:=rF Dat.of default
def zb:D->List Dat:=Ai Dat.of
def set1:D->RSet:=rF RSet.of default
def Fg:D->qh:=rF qh.of default
attribute [go_sem] Dat.d RSet.d qh.d iR
theorem LD(x:Dat):Dat.of x.d=x:=by simp[Dat.of,Dat.d,kz]
@[go_sem]theorem ZfI{f:Bool}{l:List Dat}:zb (.list f (l.map Dat.d))=l:=qJ LD l
@[go_sem]theorem ZfH{f:Bool}:zb (.list f [])=[]:=rfl
@[go_sem]theorem Zaf{f:Bool}{l:List Int}:lY (.list f (l.map iR))=l:=qJ (f:=iR) (g:=ofI) (λ_=>rfl) l
def dat1_agg{s:ByteArray}{n m:Int}{k k':IntKind}:mU (.agg [.v (.string s),.v (.int k n),.v (.int k' m)])=⟨s.data.toList,n,m⟩:=rfl
def set1_agg{s:ByteArray}{n m:Int}{k k':IntKind}{f:Bool}{rows:List (List D)}:set1 (.agg [.v (.string s),.v (.int k n),.v (.int k' m),.list f rows])=⟨s.data.toList,n,m,zb (.list f rows)⟩:=rfl
def Zef{r:qh}:Fg (.agg [.i r.text,.i r.n0,.i r.n1,.i r.m0,.i r.m1,.b r.even,.b r.single,.b r.wild])=r:=rfl
attribute[go_sem]dat1_agg set1_agg Zef
def aO(x lo hi:Int):Bool:=decide (lo<=x)&&decide (x<=hi)
def cmpI(x y:Int):Int:=if x<y then -1 else if y<x then 1 else 0
def pM(a b:Str):Bool:=Go.Op.bytesLess a b
def oG(a b:Str):Int:=if pM a b then -1 else if !(pM a b||a==b)then 1 else 0
def sZ(s p:Str):Bool:=decide (p.length<=s.length)&&s.take p.length==p
def fP(s:Str):Bool:=decide (0<s.length)&&decide ((s.getD 0 0).toNat=42)
theorem vS(s:Str):sZ s [42]=fP s:=by
 cases s with
 | nil=>rfl
 | cons c r =>
  simp only[sZ,fP,YI,ZH,YD,Y0,List.getD_cons_zero];have h1:decide (0+1<=r.length+1)=true:=by simp
  have h2:decide (0<r.length+1)=true:=by simp
  rw[h1,h2,Zj,Zj,YN,Yy,XV]
  constructor
  . intro h;have:=(List.cons.inj h).1;subst this;rfl
  intro h;have:c=42:=ZO.1 h;subst this;rfl
def nO(l:List Int)(k:Nat):Int:=if k<l.length then if l[k]! != 0 then l[k]! else nO l (k+1)else 0
termination_by l.length-k
theorem wR(l:List Int)(k:Nat):nO l k=if k<l.length then if l[k]! != 0 then l[k]! else nO l (k+1)else 0:=by rw[nO]
def mP(l:Str)(i:Nat):Bool:=mh (l.getD i 0)||decide ((l.getD i 0).toNat=32)
def pX(l:Str):Bool:=if l.length<1 then false else if 40<l.length then false else if(l.getD 0 0).toNat=32 then false else if(l.getD (l.length-1) 0).toNat=32 then false else aB l.length (mP l) 0
def less(a b:Dat):Bool:=if a.t != b.t then pM a.t b.t else if a.n != b.n then decide (a.n<b.n)else decide (a.m<b.m)
end Go.Rec
namespace Go.Cmp
open Go.Str
structure Cm{α:Type}(c:α->α->Int):Prop where
 anti : ∀x y,c y x = - c x y
 tr : ∀x y z,c x y<=0->c y z<=0->c x z<=0
 lo : ∀x y, -1<=c x y
namespace Cm
variable {α : Type} {c : α -> α -> Int} (h : Cm c)
include h
theorem hi(x y:α):c x y<=1:=by have:=h.lo y x;have:=h.anti x y;omega
def self(x:α):c x x=0:=by have:=h.anti x x;omega
def lt_le{x y z:α}(a:c x y<0)(b:c y z<=0):c x z<0:=by
 have h1:=h.tr x y z (by omega) b
 by_cases e:c x z=0
 .
  have h2:=h.tr y z x b (by have:=h.anti x z;omega)
  have:=h.anti x y;omega
 omega
def le_lt{x y z:α}(a:c x y<=0)(b:c y z<0):c x z<0:=by
 have h1:=h.tr x y z a (by omega)
 by_cases e:c x z=0
 .
  have h2:=h.tr z x y (by have:=h.anti x z;omega) a
  have:=h.anti y z;omega
 omega
def eq_eq{x y z:α}(a:c x y=0)(b:c y z=0):c x z=0:=by
 have h1:=h.tr x y z (by omega) (by omega)
 have h2:=h.tr z y x (by have:=h.anti y z;omega) (by have:=h.anti x y;omega)
 have:=h.anti x z;omega
end Cm
def kJ(a b:Int):Int:=if a != 0 then a else b
def Iw{α:Type}{c d:α->α->Int}(h:Cm c)(k:Cm d):Cm λx y=>kJ (c x y) (d x y):=by
 have e : ∀x y,kJ (c x y) (d x y)=if c x y=0 then d x y else c x y:=by
  intro x y;unfold kJ;by_cases q:c x y=0<;>simp[q]
 refine⟨λx y=>?_,λx y z=>?_,λx y=>?_⟩
 .
  simp only[e];have:=h.anti x y;have:=k.anti x y
  split<;>split<;>omega
 .
  simp only[e];intro a b
  by_cases e1:c x y=0<;>by_cases e2:c y z=0
  . rw[if_pos e1]at a;rw[if_pos e2]at b;rw[if_pos (h.eq_eq e1 e2)];exact k.tr _ _ _ a b
  .
   rw[if_neg e2]at b;have:=h.le_lt (x:=x) (by omega:c x y<=0) (by omega:c y z<0)
   rw[if_neg (by omega)];omega
  .
   rw[if_neg e1]at a;have:=h.lt_le (by omega:c x y<0) (by omega:c y z<=0)
   rw[if_neg (by omega)];omega
  rw[if_neg e1]at a;rw[if_neg e2]at b;have:=h.lt_le (by omega:c x y<0) (by omega:c y z<=0)
  rw[if_neg (by omega)];omega
 simp only[e]
 have:=h.lo x y;have:=k.lo x y
 split<;>omega
def tY{α β:Type}{c:β->β->Int}(h:Cm c)(f:α->β):Cm λx y=>c (f x) (f y) :=
 ⟨λx y=>h.anti _ _,λx y z=>h.tr _ _ _,λx y=>h.lo _ _⟩
def cmpI(x y:Int):Int:=if x<y then -1 else if y<x then 1 else 0
def Ed:Cm cmpI:=by
 refine⟨λx y=>?_,λx y z=>?_,λx y=>?_⟩<;>unfold cmpI<;>(repeat' split)<;>omega
def Iu{x y:Int}:cmpI x y=0↔x=y:=by
 unfold cmpI;(repeat' split)<;>omega
def lex{α:Type}(c:α->α->Int):List α->List α->Int
 | [],[]=>0
 | [],_::_=>-1
 | _::_,[]=>1
 | x::xs,y::ys=>kJ (c x y) (lex c xs ys)
theorem jB{a b:Int}:kJ a b=if a=0 then b else a:=by
 unfold kJ;by_cases q:a=0<;>simp[q]
theorem Qe{α:Type}{c:α->α->Int}(h:Cm c):Cm (lex c):=by
 refine⟨?_,?_,?_⟩
 .
  intro x
  induction x with
  | nil=>intro y;cases y<;>rfl
  | cons x xs ih =>
   intro y
   cases y with
   | nil=>rfl
   | cons y ys =>
    simp only[lex,jB];have:=h.anti x y;have:=ih ys
    split<;>split<;>omega
 .
  intro x
  induction x with
  | nil =>
   intro y z _ _
   cases z
   . simp[lex]
   simp[lex]
  | cons x xs ih =>
   intro y z a b
   cases y with
   | nil=>simp[lex]at a
   | cons y ys =>
    cases z with
    | nil=>simp[lex]at b
    | cons z zs =>
     simp only[lex,jB]at a b ⊢
     by_cases e1:c x y=0<;>by_cases e2:c y z=0
     . rw[if_pos e1]at a;rw[if_pos e2]at b;rw[if_pos (h.eq_eq e1 e2)];exact ih _ _ a b
     .
      rw[if_neg e2]at b;have:=h.le_lt (x:=x) (by omega:c x y<=0) (by omega:c y z<0)
      rw[if_neg (by omega)];omega
     .
      rw[if_neg e1]at a;have:=h.lt_le (by omega:c x y<0) (by omega:c y z<=0)
      rw[if_neg (by omega)];omega
     rw[if_neg e1]at a;rw[if_neg e2]at b;have:=h.lt_le (by omega:c x y<0) (by omega:c y z<=0)
     rw[if_neg (by omega)];omega
 intro x
 induction x with
 | nil=>intro y;cases y<;>simp[lex]
 | cons x xs ih =>
  intro y
  cases y with
  | nil=>simp[lex]
  | cons y ys =>
   simp only[lex,jB];have:=h.lo x y;have:=ih ys
   split<;>omega
theorem Gj{α:Type}{c:α->α->Int}(h : ∀x y,c x y=0->x=y):∀xs ys:List α,lex c xs ys=0->xs=ys
 | [],[],_=>rfl
 | [],_::_,e=>by simp[lex]at e
 | _::_,[],e=>by simp[lex]at e
 | x::xs,y::ys,e=>by
  simp only[lex,jB]at e
  split at e
  . rename_i q;rw[h _ _ q,Gj h xs ys e]
  rename_i q;exact absurd e q
def Bg(x y:UInt8):Int:=cmpI x.toNat y.toNat
def cm_u:Cm Bg:=tY Ed λx:UInt8=>(x.toNat:Int)
def ZcE{x y:UInt8}(h:Bg x y=0):x=y:=UInt8.toNat_inj.1 (by have:=Iu.1 h;omega)
theorem Im : ∀a b:Str,Go.Lib.compareBytes a b=lex Bg a b
 | [],[]=>rfl
 | [],_::_=>rfl
 | _::_,[]=>rfl
 | x::a,y::b=>by
  unfold Go.Lib.compareBytes lex;have ih:=Im a b;simp only[jB,Bg,cmpI]
  by_cases h1:x<y
  .
   have:(x.toNat:Int)<y.toNat:=by have:x.toNat<y.toNat:=h1;omega
   simp[h1,this]
  have h1' : ¬(x.toNat:Int)<y.toNat:=by have : ¬x.toNat<y.toNat:=h1;omega
  by_cases h2:y<x
  .
   have:(y.toNat:Int)<x.toNat:=by have:y.toNat<x.toNat:=h2;omega
   simp[h1,h2,h1',this]
  have h2' : ¬(y.toNat:Int)<x.toNat:=by have : ¬y.toNat<x.toNat:=h2;omega
  simp[h1,h2,h1',h2',ih]
def Ee:Cm (Go.Lib.compareBytes):=by
 have:Go.Lib.compareBytes=lex Bg:=by funext a b;exact Im a b
 rw[this];exact Qe cm_u
def Qr{a b:Str}(h:Go.Lib.compareBytes a b=0):a=b:=by
 rw[Im]at h;exact Gj (λ_ _=>ZcE) a b h
theorem Cw : ∀xs ys:List Str,qz xs ys=lex Go.Lib.compareBytes xs ys
 | [],[]=>rfl
 | [],_::_=>rfl
 | _::_,[]=>rfl
 | x::xs,y::ys=>by
  unfold qz lex;have ih:=Cw xs ys;rw[Bh,jB,ih]
  by_cases h1:Go.Op.bytesLess x y=true
  . simp[h1]
  by_cases h2:x=y
  . subst h2;simp[Bl]
  have h3:(x==y)=false:=by simpa using h2
  simp[h1,h3]
def rC:Cm dB:=by
 have:dB=λa b=>lex Go.Lib.compareBytes (bq a) (bq b):=by funext a b;exact Cw _ _
 rw[this];exact tY (Qe Ee) bq
theorem Ab{a b:Str}(h:dB a b=0):a=b:=by
 unfold dB at h
 rw[Cw]at h
 exact ww (Gj (λ_ _=>Qr) _ _ h)
section
variable {α : Type} (c : α -> α -> Int) (m : α -> α -> α)
structure Un:Prop where
 left : ∀x y,c x y=0->c (m x y) x=0
 comm : ∀x y,c x y=0->m x y=m y x
 swap : ∀x y z,c x y=0->c x z=0->m (m x y) z=m (m x z) y
variable {c m}
def uk(c:α->α->Int)(l:List α):Prop:=l.Pairwise λx y=>c x y<0
end
end Go.Cmp
namespace Go.Rec
open Go.DL Go.Str Go.Cmp
def eX(k:Nat):qh:=match k with
 | 1=>⟨0,1,1000000,0,0,false,false,true⟩
 | 2=>⟨1,0,0,0,0,false,false,false⟩
 | 3=>⟨1,0,0,0,0,false,true,false⟩
 | 4=>⟨0,0,65535,0,100000,false,true,false⟩
 | 5=>⟨3,0,0,0,0,false,false,true⟩
 | 6=>⟨0,1,1000000,1,3,false,false,false⟩
 | 7=>⟨0,1,1000000,1,3,false,false,false⟩
 | 8=>⟨2,2,510,0,0,true,false,true⟩
 | _=>⟨0,0,0,0,0,false,false,false⟩
def uz(k:Int)(t:Str):Bool:=if k=1 then ai t && !fP t else if k=2 then ai t else if k=3 then pX t else t==[]
def jO(r:qh)(d:Dat):Bool:=aO d.n r.n0 r.n1&&aO d.m r.m0 r.m1 && !(r.even&&d.n % 2 != 0)&&uz r.text d.t
def jW(k:Int)(d:Dat):Bool :=
 if k=1 then d.t==[]&&aO d.n 1 1000000&&d.m==0
 else if k=2\/k=3 then ai d.t && !fP d.t&&d.n==0&&d.m==0
 else if k=4 then d.t==[]&&aO d.n 0 65535&&aO d.m 0 100000
 else if k=5 then pX d.t&&d.n==0&&d.m==0
 else if k=6\/k=7 then d.t==[]&&aO d.n 1 1000000&&aO d.m 1 3
 else if k=8 then ai d.t&&aO d.n 2 510&&d.n % 2==0&&d.m==0
 else false
theorem Zah(n:Int):aO n 0 0=(n==0):=by
 unfold aO
 rw[YN,XT,XV,XV,Yy]
 omega
theorem iy{n a b:Int}:aO n a b=true↔a<=n/\n<=b:=by
 unfold aO
 rw[XT,XV,XV]
def kinds{k:Int}(h:aO k 1 8=true):k=1\/k=2\/k=3\/k=4\/k=5\/k=6\/k=7\/k=8:=by
 have:=iy.1 h
 omega
theorem PE{k:Int}(h:aO k 1 8=true)(d:Dat):jW k d=jO (eX k.toNat) d:=by
 rw[YN]
 rcases kinds h with h|h|h|h|h|h|h|h<;>subst h<;>simp[jW,jO,eX,uz,Zah]<;>constructor<;>intro q<;>simp_all
def vX(k:Int):Bool:=decide (k=3)||decide (k=4)
theorem J4{k:Int}(h:aO k 1 8=true):vX k=(eX k.toNat).single:=by
 rcases kinds h with h|h|h|h|h|h|h|h<;>subst h<;>rfl
theorem Q7{k:Int}(h:aO k 1 8=true):(k != 1&&k != 5&&k != 8) = !(eX k.toNat).wild:=by
 rcases kinds h with h|h|h|h|h|h|h|h<;>subst h<;>rfl
def jP(a b:Dat):Int:=kJ (Go.Lib.compareBytes a.t b.t) (kJ (Go.Cmp.cmpI a.n b.n) (Go.Cmp.cmpI a.m b.m))
def ZcK:Cm jP:=Iw (tY Ee Dat.t) (Iw (tY Ed Dat.n) (tY Ed Dat.m))
theorem Mx(a b:Dat):less a b=decide (jP a b<0):=by
 unfold less jP pM
 rw[jB,jB,Bh]
 by_cases h1:a.t=b.t
 .
  rw[h1]
  simp[Bl]
  by_cases h2:a.n=b.n
  .
   rw[h2];simp[Go.Cmp.cmpI]
   by_cases h3:a.m<b.m
   . simp[h3]
   simp[h3];split<;>omega
  simp[h2,Go.Cmp.cmpI]
  by_cases h3:a.n<b.n
  . simp[h3]
  have:b.n<a.n:=by omega
  simp[h3,this]
 have h2:(a.t==b.t)=false:=by simpa using h1
 simp[h1,h2]
 cases h3:Go.Op.bytesLess a.t b.t<;>simp
theorem ZcF(a b:Str):oG a b=Go.Lib.compareBytes a b:=by
 rw[Bh]
 unfold oG pM
 by_cases h:Go.Op.bytesLess a b=true
 . simp[h]
 cases h2:(a==b)<;>simp[h]
theorem We(a b c:Int):nO [a,b,c] 0=if a != 0 then a else if b != 0 then b else if c != 0 then c else 0:=by
 rw[wR,wR _ (0+1),wR _ (0+1+1),wR _ (0+1+1+1)]
 simp
theorem Wd(a b:Dat):nO [oG a.t b.t,cmpI a.n b.n,cmpI a.m b.m] 0=jP a b:=by
 rw[We,ZcF]
 unfold jP kJ
 show(if _ then _ else if _ then _ else if Go.Cmp.cmpI a.m b.m != 0 then Go.Cmp.cmpI a.m b.m else 0)=_
 by_cases h:Go.Cmp.cmpI a.m b.m=0
 . simp[h];rfl
 simp[h];rfl
def ky(k:Nat)(l:List Dat)(i:Nat):Bool:=jO (eX k) l[i]! && (decide (i=0)||decide (jP l[i-1]! l[i]! < 0))
def eG(s:RSet):Bool:=ai s.name&&aO s.ty 1 8&&aO s.life 0 100000&&aO s.data.length 1 8 && !((eX s.ty.toNat).single&&(s.data.length:Int) != 1) && !(fP s.name && !(eX s.ty.toNat).wild)&&aB s.data.length (ky s.ty.toNat s.data) 0
structure vO(s:RSet):Prop where
 name:ai s.name=true
 ty:aO s.ty 1 8=true
 life:aO s.life 0 100000=true
 len:1<=s.data.length/\s.data.length<=8
 single:(eX s.ty.toNat).single=true->s.data.length=1
 wild:fP s.name=true->(eX s.ty.toNat).wild=true
 dat : ∀d∈s.data,jO (eX s.ty.toNat) d=true
 sorted:uk jP s.data
theorem RV{l:List Dat}(h : ∀i,0<i->i<l.length->jP l[i-1]! l[i]! < 0):uk jP l:=by
 induction l with
 | nil=>exact .nil
 | cons x r ih =>
  have ih:=ih λi h1 h2=>by
   have:=h (i+1) om (by simp;omega)
   obtain⟨j,rfl⟩:∃j,i=j+1:=⟨i-1,om⟩
   simpa using this
  refine Zl.2 ⟨λy hy=>?_,ih⟩
  cases r with
  | nil=>cases hy
  | cons z r =>
   have hxz:jP x z<0:=by simpa using h 1 om (by simp)
   rcases Yv.1 hy with e|e
   . subst e;exact hxz
   have:=(Zl.1 ih).1 y e;exact ZcK.lt_le hxz om
def Zdj{l:List Dat}(h:uk jP l){i j:Nat}(h1:i<j)(h2:j<l.length):jP l[i]! l[j]! < 0:=by
 rw[getElem!_pos l i (by omega),getElem!_pos l j h2]
 exact YO.1 h i j om h2 h1
theorem iE(s:RSet):eG s=true↔vO s:=by
 unfold eG
 simp only[XT,X7,YC,ZV,Ym,dO]
 constructor
 .
  rintro⟨⟨⟨⟨⟨⟨h1,h2⟩,h3⟩,h4⟩,h5⟩,h6⟩,h7⟩;have h4:=iy.1 h4;have hd : ∀i,i<s.data.length->jO (eX s.ty.toNat) s.data[i]! = true:=λi hi=>by
   have:=h7 i (Yk _) hi;unfold ky at this;exact(XT _ _▸this).1
  refine⟨h1,h2,h3,om,λq=>?_,λq=>?_,λd hd'=>?_,RV λi hi hl=>?_⟩
  .
   rcases h5 with h|h
   . rw[q]at h;cases h
   omega
  .
   rcases h6 with h|h
   . rw[q]at h;cases h
   exact h
  . obtain⟨i,hi,rfl⟩:=YZ hd';have:=hd i hi;rwa [getElem!_pos s.data i hi]at this
  have:=h7 i (Yk _) hl;unfold ky at this;rw[XT,Ya,XV,XV]at this;exact this.2.resolve_left om
 intro ⟨h1,h2,h3,h4,h5,h6,h7,h8⟩
 refine⟨⟨⟨⟨⟨⟨h1,h2⟩,h3⟩,iy.2 om⟩,?_⟩,?_⟩,λi _ hi=>?_⟩
 .
  by_cases q:(eX s.ty.toNat).single=true
  . right;have:=h5 q;omega
  left;simpa using q
 .
  by_cases q:fP s.name=true
  . right;exact h6 q
  left;simpa using q
 unfold ky
 rw[XT,Ya,XV,XV]
 refine⟨by rw[getElem!_pos s.data i hi];exact h7 _ (Yq _),?_⟩
 by_cases e:i=0
 . exact .inl e
 exact .inr (Zdj h8 om hi)
instance(s:RSet):Decidable (vO s):=decidable_of_iff _ (iE s)
def uW(a b:Str):Int:=if ai a&&ai b then fZ a b else 0
def plC(a b:RSet):Int:=if a.name=b.name then cmpI a.ty b.ty else uW a.name b.name
def mF(a b:RSet):Int:=kJ (uW a.name b.name) (cmpI a.ty b.ty)
def sw(a b:RSet):Int:=kJ (dB a.name b.name) (cmpI a.ty b.ty)
def cm_pl:Cm sw:=Iw (tY rC RSet.name) (tY Ed RSet.ty)
theorem VL{a b:RSet}:sw a b=0↔a.name=b.name/\a.ty=b.ty:=by
 unfold sw
 rw[jB]
 constructor
 .
  intro h
  split at h
  . exact⟨Ab ‹_›,Iu.1 h⟩
  exact absurd h ‹_›
 rintro⟨h1,h2⟩
 rw[h1,h2,X0 (rC.self _)]
 exact Iu.2 rfl
theorem VT{a b:RSet}(ha:ai a.name=true)(hb:ai b.name=true):plC a b=sw a b:=by
 unfold plC sw uW
 rw[ha,hb,jB]
 by_cases h:a.name=b.name
 . rw[X0 h,h,X0 (rC.self _)]
 rw[XW h,XW (λe=>h (Ab e)),F6];rfl
theorem KH{a b:RSet}(ha:ai a.name=true)(hb:ai b.name=true):mF a b=sw a b:=by
 unfold mF sw uW
 rw[ha,hb,F6];rfl
def uN(n:Int):Nat:=(n % 18446744073709551616).toNat
def lh(u sh:Nat):UInt8:=UInt8.ofNat (u / 2^sh)
def cz(n:Int):Str:=[lh (uN n) 56,lh (uN n) 48,lh (uN n) 40,lh (uN n) 32,lh (uN n) 24,lh (uN n) 16,lh (uN n) 8,lh (uN n) 0]
theorem mZ(n:Int):(cz n).length=8:=rfl
def RY(n:Nat)(c:UInt8):Nat:=(n*256+c.toNat) % 18446744073709551616
def LP(l:Str):Nat:=l.foldl RY 0
def sN(n:Nat):Int:=IntKind.i64.wrap (n:Int)
def numOf(l:Str):Int:=sN (LP l)
theorem Zc1(u sh:Nat):(lh u sh).toNat=u / 2^sh % 256:=by simp[lh]
def lT(n:Nat):UInt8:=UInt8.ofNat n
def fH(t:Str):Str:=lT t.length::t
def ze(d:Dat):Str:=fH d.t++cz d.n++cz d.m
def yc(s:RSet):Str:=fH s.name++cz s.ty++cz s.life++lT s.data.length::s.data.flatMap ze
abbrev RS:=Str×Bool
def pz(n:Int)(st:RS):Str×RS:=if st.2||decide ((st.1.length:Int)<n)then([],(st.1,true))else(st.1.take n.toNat,(st.1.drop n.toNat,false))
def FN(st:RS):Nat×RS:=(if(pz 1 st).1.length=1 then((pz 1 st).1.getD 0 0).toNat else 0,(pz 1 st).2)
def zW(st:RS):Str×RS:=pz (FN st).1 (FN st).2
def wM(st:RS):Int×RS:=(numOf (pz 8 st).1,(pz 8 st).2)
def Cv(st:RS):Dat×RS:=(⟨(zW st).1,(wM (zW st).2).1,(wM (wM (zW st).2).2).1⟩,(wM (wM (zW st).2).2).2)
def Ld:Nat->List Dat->RS->List Dat×RS
 | 0,out,st=>(out,st)
 | k+1,out,st=>if(Cv st).2.2 then(out,(Cv st).2)else Ld k (out++[(Cv st).1]) (Cv st).2
def Cs(st:RS):RSet×RS :=
 let a:=zW st
 let b:=wM a.2
 let c:=wM b.2
 let n:=FN c.2
 let d:=Ld n.1 [] n.2
 (⟨a.1,b.1,c.1,d.1⟩,d.2)
def Wz:RSet:=⟨[],0,0,[]⟩
def KE(x:Str):RSet×Int:=if(Cs (x,false)).2.2||decide (0<(Cs (x,false)).2.1.length) || !eG (Cs (x,false)).1 then(Wz,10)else((Cs (x,false)).1,0)
def i64(n:Int):Prop:=-9223372036854775808<=n/\n<=9223372036854775807
structure IZ(d:Dat):Prop where
 t:d.t.length<=255
 n:i64 d.n
 m:i64 d.m
structure SetSz(s:RSet):Prop where
 name:s.name.length<=255
 ty:i64 s.ty
 life:i64 s.life
 len:s.data.length<=255
 dat : ∀d∈s.data,IZ d
def RH{k:Int}{t:Str}(h:uz k t=true):t.length<=60:=by
 unfold uz at h
 split at h
 . rw[XT]at h;exact gT h.1
 split at h
 . exact gT h
 split at h
 .
  unfold pX at h
  split at h
  . cases h
  split at h
  . cases h
  omega
 rw[Yy]at h;subst h;simp
def PD{k:Int}(hk:aO k 1 8=true){d:Dat}(h:jO (eX k.toNat) d=true):IZ d/\d.t.length<=60/\0<=d.n/\0<=d.m:=by
 unfold jO at h
 simp only[XT,iy]at h
 have ht:=RH h.2
 have hn:=h.1.1.1
 have hm:=h.1.1.2
 refine⟨⟨om,?_,?_⟩,ht,?_,?_⟩<;>(try unfold i64)<;>rcases kinds hk with e|e|e|e|e|e|e|e<;>subst e<;>simp[eX]at hn hm<;>omega
def ma(s:RSet):Str×Int:=if eG s then(yc s,0)else([],1)
def o9(a b:RSet):Bool:=decide (a=b)
def Dm{l:List Int}{n:Nat}(h:n<l.length):(l.map iR).getD n []=[.i l[n]!]:=by
 simp[List.getD,h,getElem!_pos,iR]
def qU{l:List Dat}{n:Nat}(h:n<l.length):(l.map Dat.d).getD n []=l[n]!.d:=by
 simp[List.getD,h,getElem!_pos]
theorem getD_set{l:List RSet}{n:Nat}(h:n<l.length):(l.map RSet.d).getD n []=l[n]!.d:=by
 simp[List.getD,h,getElem!_pos]
@[go_sem]theorem Wv{l:List Int}:aZ (l.map iR)=true:=by
 induction l with
 | nil=>rfl
 | cons x l ih=>simp only[X8,aZ,ih];rfl
@[go_sem]theorem sJ{l:List Dat}:aZ (l.map Dat.d)=true:=by
 induction l with
 | nil=>rfl
 | cons x l ih=>simp only[X8,aZ,ih];rfl
@[go_sem]theorem zC{l:List Dat}:cK (l.map Dat.d)=l.map Dat.d:=by
 induction l with
 | nil=>rfl
 | cons x l ih=>simp only[X8,cK,ih];rfl
@[go_sem]theorem wkr_set{l:List RSet}:cK (l.map RSet.d)=l.map RSet.d:=by
 induction l with
 | nil=>rfl
 | cons x l ih=>simp only[X8,cK,ih,RSet.d,wk,dA,zC]
theorem Fa{s:RSet}(c1:(ai s.name=true/\aO s.ty 1 8=true)/\aO s.life 0 100000=true)(c2:aO s.data.length 1 8=true)(c3:((eX s.ty.toNat).single=false\/(s.data.length:Int)=1)/\(fP s.name=false\/(eX s.ty.toNat).wild=true)):eG s=aB s.data.length (ky s.ty.toNat s.data) 0:=by
 obtain⟨h1,h2⟩:=c3
 unfold eG
 rw[c2,c1.1.1,c1.1.2,c1.2]
 rcases h1 with h1|h1<;>rcases h2 with h2|h2<;>simp[h1,h2]
theorem Py{l:List Dat}{t k:Nat}(h:jO (eX t) l[k]! = true/\(¬(0:Int)<k \/ ¬0<=jP l[k-1]! l[k]!)):ky t l k=true:=by
 unfold ky
 rw[XT,Ya,XV,XV]
 exact⟨h.1,h.2.imp (λq=>by omega) λq=>by omega⟩
theorem Pz{l:List Dat}{t k:Nat}(h:jO (eX t) l[k]! = false\/((0:Int)<k/\0<=jP l[k-1]! l[k]!)):ky t l k=false:=by
 unfold ky
 rw[YC,Yb,X4,X4]
 exact h.imp id λq=>⟨om,om⟩
theorem Jf{k:Int}(w:Bool)(h:aO k 1 8=true):(((w&&(k != 1))&&(k != 5))&&(k != 8))=(w && !(eX k.toNat).wild):=by
 rw[<-Q7 h,Zq,Zq,Zq]
theorem Ka{s:RSet}(c1:(((ai s.name=true/\aO s.ty 1 8=true)/\aO s.life 0 100000=true)/\aO s.data.length 1 8=true)/\(vX s.ty=false \/ ¬(1:Int)<s.data.length))(c2:fP s.name=false\/(eX s.ty.toNat).wild=true):eG s=aB s.data.length (ky s.ty.toNat s.data) 0:=by
 obtain⟨⟨⟨⟨h1,h2⟩,h3⟩,h4⟩,h5⟩:=c1
 refine Fa ⟨⟨h1,h2⟩,h3⟩ h4 ⟨?_,c2⟩
 rw[J4 h2]at h5
 have:=iy.1 h4
 exact h5.imp id λq=>by omega
theorem TP{s:RSet}(c1:(((ai s.name=false\/aO s.ty 1 8=false)\/aO s.life 0 100000=false)\/aO s.data.length 1 8=false)\/(vX s.ty=true/\(1:Int)<s.data.length)):eG s=false:=by
 cases q:eG s with
 | false=>rfl
 | true =>
  have h:=(iE s).1 q
  rcases c1 with(((c1|c1)|c1)|c1)|⟨c1,c2⟩
  . rw[h.name]at c1;cases c1
  . rw[h.ty]at c1;cases c1
  . rw[h.life]at c1;cases c1
  .
   have:=iy.2 (show(1:Int)<=s.data.length/\(s.data.length:Int)<=8 by have:=h.len;omega)
   rw[this]at c1;cases c1
  rw[J4 h.ty]at c1;have:=h.single c1;omega
theorem TN{s:RSet}(c:fP s.name=true/\(eX s.ty.toNat).wild=false):eG s=false:=by
 cases q:eG s with
 | false=>rfl
 | true =>
  have h:=((iE s).1 q).wild c.1;rw[c.2]at h;cases h
theorem Zcd{l:List Dat}{t:Int}{k:Nat}(ht:aO t 1 8=true)(h:jW t l[k]! = true/\(¬(0:Int)<k\/less l[k-1]! l[k]! = true)):ky t.toNat l k=true:=by
 rw[PE ht,Mx]at h
 exact Py ⟨h.1,h.2.imp id λq=>by have:=Y1 q;omega⟩
theorem Zcf{l:List Dat}{t:Int}{k:Nat}(ht:aO t 1 8=true)(h:jW t l[k]! = false\/((0:Int)<k/\less l[k-1]! l[k]! = false)):ky t.toNat l k=false:=by
 rw[PE ht,Mx]at h
 exact Pz (h.imp id λq=>⟨q.1,by have:=of_decide_eq_false q.2;omega⟩)
theorem Us{a b:RSet}(h1:((a.name=b.name/\a.ty=b.ty)/\a.life=b.life)/\(a.data.length:Int)=b.data.length)(h2 : ∀i,i<a.data.length->a.data[i]! = b.data[i]!):o9 a b=true:=by
 unfold o9
 rw[XV]
 obtain⟨an,at',al,ad⟩:=a
 obtain⟨bn,bt,bl,bd⟩:=b
 simp only at h1 h2
 obtain⟨⟨⟨rfl,rfl⟩,rfl⟩,h3⟩:=h1
 congr 1
 refine List.ext_getElem om λi hi hj=>?_
 have:=h2 i hi
 rwa [getElem!_pos ad i hi,getElem!_pos bd i hj]at this
theorem Ut{a b:RSet}(h:((a.name≠b.name\/a.ty≠b.ty)\/a.life≠b.life)\/(a.data.length:Int)≠b.data.length):o9 a b=false:=by
 unfold o9
 rw[X4]
 rintro rfl
 simp at h
theorem Uu{a b:RSet}{k:Nat}(h:a.data[k]! ≠ b.data[k]!):o9 a b=false:=by
 unfold o9
 rw[X4]
 rintro rfl
 exact h rfl
def Zce{x y:Dat}(h:(!(x.t==y.t&&(x.n==y.n&&x.m==y.m)))=false):x=y:=by
 obtain⟨a,b,c⟩:=x
 obtain⟨d,e,f⟩:=y
 simp at h
 simp[h]
theorem Zcg{x y:Dat}(h:(!(x.t==y.t&&(x.n==y.n&&x.m==y.m)))=true):x≠y:=by
 rintro rfl
 simp at h
@[go_sem]theorem Zeg{t:Str}{h:H}:aj (.v (.string (bs t))) h=t.map bD:=by
 simp only[aj,kz];rfl
@[go_sem]theorem ZdM(n:Nat):IntKind.u8.wrap (n:Int)=((lT n).toNat:Int):=by
 rw[IntKind.wrap_u8]
 simp[lT]
def UA(k:Nat):(eX k).even=true->0<=(eX k).n0:=by
 unfold eX
 split<;>simp
end Go.Rec
namespace Go.Cmp
variable {α : Type} [Inhabited α] {c : α -> α -> Int}

end Go.Cmp
namespace Go.Rec
open Go.DL Go.Str Go.Cmp

end Go.Rec
namespace Go.Zon
open Go.DL Go.Str Go.Rec
structure RSig where
 zone:Str
 key:Int
 alg:Int
 frm:Int
 unt:Int
 sum:Int
 deriving Inhabited,DecidableEq
structure Sgd where
 set:RSet
 sigs:List RSig
 deriving Inhabited,DecidableEq
structure Qst where
 name:Str
 ty:Int
 deriving Inhabited,DecidableEq
structure Zon where
 apex:Str
 sets:List Sgd
 deriving Inhabited,DecidableEq
def Sgd.q(s:Sgd):Qst:=⟨s.set.name,s.set.ty⟩
def RSig.d(x:RSig):List D:=[.v (.string (bs x.zone)),.i x.key,.i x.alg,.i x.frm,.i x.unt,.v (.int .u64 x.sum)]
def RSig.of:List D->RSig
 | [.v (.string s),.v (.int _ a),.v (.int _ b),.v (.int _ c),.v (.int _ d),.v (.int _ e)]=>⟨s.data.toList,a,b,c,d,e⟩
 | _=>default
def Sgd.d(x:Sgd):List D:=[.v (.string (bs x.set.name)),.i x.set.ty,.i x.set.life,.l (x.set.data.map Dat.d),.l (x.sigs.map RSig.d)]
def Sgd.of:List D->Sgd
 | [.v (.string s),.v (.int _ t),.v (.int _ l),.list _ rows,.list _ sigs]=>⟨⟨s.data.toList,t,l,rows.map Dat.of⟩,sigs.map RSig.of⟩
 | _=>default
def Qst.d(x:Qst):List D:=[.v (.string (bs x.name)),.i x.ty]
def Qst.of:List D->Qst
 | [.v (.string s),.v (.int _ t)]=>⟨s.data.toList,t⟩
 | _=>default
def Zon.d(x:Zon):List D:=[.v (.string (bs x.apex)),.l (x.sets.map Sgd.d)]
def Zon.of:List D->Zon
 | [.v (.string s),.list _ rows]=>⟨s.data.toList,rows.map Sgd.of⟩
 | _=>default
structure Lay where
 z:Zon
 b:List Str
 deriving Inhabited,DecidableEq
def Lay.d(x:Lay):List D:=[.v (.string (bs x.z.apex)),.l (x.z.sets.map Sgd.d),.l (x.b.map sR)]
def Lay.of:List D->Lay
 | [.v (.string s),.list _ rows,.list _ b]=>⟨⟨s.data.toList,rows.map Sgd.of⟩,b.map FY⟩
 | _=>default
def jE:D->Sgd:=rF Sgd.of default
def kM:D->List Sgd:=Ai Sgd.of
def xZ:D->RSig:=rF RSig.of default
def lF:D->List RSig:=Ai RSig.of
def eH:D->Qst:=rF Qst.of default
def aM:D->Zon:=rF Zon.of default
def nT:D->Lay:=rF Lay.of default
attribute [go_sem] RSig.d Sgd.d Qst.d Zon.d Lay.d
theorem FX(x:RSig):RSig.of x.d=x:=by simp[RSig.of,RSig.d,kz]
def Wm(x:Sgd):Sgd.of x.d=x:=by simp[Sgd.of,Sgd.d,kz,qJ LD,qJ FX]
@[go_sem]theorem Zee{f:Bool}{l:List Sgd}:kM (.list f (l.map Sgd.d))=l:=qJ Wm l
@[go_sem]theorem Zeb{f:Bool}{l:List RSig}:lF (.list f (l.map RSig.d))=l:=qJ FX l
def Zea{f:Bool}:lF (.list f [])=[]:=rfl
def sgd1_agg{s:ByteArray}{t l:Int}{k k':IntKind}{f f':Bool}{rows sigs:List (List D)}:jE (.agg [.v (.string s),.v (.int k t),.v (.int k' l),.list f rows,.list f' sigs])=⟨⟨s.data.toList,t,l,zb (.list f rows)⟩,lF (.list f' sigs)⟩:=rfl
def qst1_agg{s:ByteArray}{t:Int}{k:IntKind}:eH (.agg [.v (.string s),.v (.int k t)])=⟨s.data.toList,t⟩:=rfl
def zon1_agg{s:ByteArray}{f:Bool}{rows:List (List D)}:aM (.agg [.v (.string s),.list f rows])=⟨s.data.toList,kM (.list f rows)⟩:=rfl
attribute[go_sem]Zea sgd1_agg qst1_agg zon1_agg
@[go_sem]theorem sig1_agg{x:RSig}:xZ (.agg [.v (.string (bs x.zone)),.i x.key,.i x.alg,.i x.frm,.i x.unt,.v (.int .u64 x.sum)])=x:=by
 show RSig.of x.d=x
 exact FX x
def lay1_agg{s:ByteArray}{f f':Bool}{rows b:List (List D)}:nT (.agg [.v (.string s),.list f rows,.list f' b])=⟨⟨s.data.toList,kM (.list f rows)⟩,qj (.list f' b)⟩:=rfl
def qst_eta{x:Qst}:(⟨x.name,x.ty⟩:Qst)=x:=rfl
def set_eta{x:RSet}:(⟨x.name,x.ty,x.life,x.data⟩:RSet)=x:=rfl
def dat_eta{x:Dat}:(⟨x.t,x.n,x.m⟩:Dat)=x:=rfl
def sgd_eta{x:Sgd}:(⟨x.set,x.sigs⟩:Sgd)=x:=rfl
def zon_eta{x:Zon}:(⟨x.apex,x.sets⟩:Zon)=x:=rfl
def lay_eta{x:Lay}:(⟨x.z,x.b⟩:Lay)=x:=rfl
attribute[go_sem]lay1_agg qst_eta set_eta dat_eta sgd_eta zon_eta lay_eta
def NQ{α:Type}{f:α->List D}{l:List α}{n:Nat}(h:l.length<=n):(l.map f).getD n []=[]:=by
 simp[List.getD,h]
def bU{l:List Sgd}{n:Nat}(h:n<l.length):(l.map Sgd.d).getD n []=[.v (.string (bs l[n]!.set.name)),.i l[n]!.set.ty,.i l[n]!.set.life,.l (l[n]!.set.data.map Dat.d),.l (l[n]!.sigs.map RSig.d)]:=by
 simp[List.getD,h,Sgd.d,getElem!_pos]
def tH{l:List RSig}{n:Nat}(h:n<l.length):(l.map RSig.d).getD n []=[.v (.string (bs l[n]!.zone)),.i l[n]!.key,.i l[n]!.alg,.i l[n]!.frm,.i l[n]!.unt,.v (.int .u64 l[n]!.sum)]:=by
 simp[List.getD,h,RSig.d,getElem!_pos]
@[go_sem]theorem sI{l:List RSig}:aZ (l.map RSig.d)=true:=by
 induction l with
 | nil=>rfl
 | cons x l ih=>simp only[X8,aZ,ih,RSig.d,bK,D.nr];rfl
@[go_sem]theorem EG{l:List RSig}:cK (l.map RSig.d)=l.map RSig.d:=by
 induction l with
 | nil=>rfl
 | cons x l ih=>simp only[X8,cK,ih,RSig.d,wk,dA]
@[go_sem]theorem Wu{l:List Sgd}:aZ (l.map Sgd.d)=true:=by
 induction l with
 | nil=>rfl
 | cons x l ih=>simp only[X8,aZ,ih,Sgd.d,bK,D.nr,sJ,sI];rfl
@[go_sem]theorem wkr_sgd{l:List Sgd}:cK (l.map Sgd.d)=l.map Sgd.d:=by
 induction l with
 | nil=>rfl
 | cons x l ih=>simp only[X8,cK,ih,Sgd.d,wk,dA,zC,EG]
@[go_sem]theorem nrr_qst{l:List Qst}:aZ (l.map Qst.d)=true:=by
 induction l with
 | nil=>rfl
 | cons x l ih=>simp only[X8,aZ,ih,Qst.d,bK,D.nr];rfl
@[go_sem]theorem wkr_qst{l:List Qst}:cK (l.map Qst.d)=l.map Qst.d:=by
 induction l with
 | nil=>rfl
 | cons x l ih=>simp only[X8,cK,ih,Qst.d,wk,dA]
@[go_sem]theorem all_sgd{l:List Sgd}:(∀r∈l.map Sgd.d,r.length=5)=True:=by
 apply eq_true
 intro r hr
 obtain⟨x,_,rfl⟩:=Yh.1 hr
 rfl
@[go_sem]theorem all_sig{l:List RSig}:(∀r∈l.map RSig.d,r.length=6)=True:=by
 apply eq_true
 intro r hr
 obtain⟨x,_,rfl⟩:=Yh.1 hr
 rfl
@[go_sem]theorem all_qst{l:List Qst}:(∀r∈l.map Qst.d,r.length=2)=True:=by
 apply eq_true
 intro r hr
 obtain⟨x,_,rfl⟩:=Yh.1 hr
 rfl
def qQ(s p:Str):Bool:=decide (p.length<=s.length)&&s.drop (s.length-p.length)==p
def under(s z:Str):Bool:=s==z||z==[46]||(decide (z.length<s.length)&&qQ s z&&decide ((s.getD (s.length-z.length-1) 0).toNat=46))
def dX(s z:Str):Bool:=ai s&&ai z&&under s z
def sS(l m:List Str)(i:Nat):Bool:=l[l.length-m.length+i]! == m[i]!
def ji(s z:Str):Bool:=decide ((aL z).length<=(aL s).length)&&aB (aL z).length (sS (aL s) (aL z)) 0
def uw(s:Str):Bool:=decide (0<(aL s).length)&&(aL s)[0]! == [42]
def KY(s:Str):(aL s).length<=s.length+1:=by
 unfold aL
 split
 . exact Yk _
 exact(BR s).2
def qC(a b:Qst):Int:=if a.name=b.name then cmpI a.ty b.ty else(if ai a.name&&ai b.name then fZ a.name b.name else 0)
def wz(q:Qst):Bool:=ai q.name&&aO q.ty 1 8
def fits(t:Int)(apex:Bool):Bool:=if t=3\/t=6 then !apex else if t=4\/t=7 then apex else true
def ic(apex:Str)(l:List RSig)(i:Nat):Bool :=
 l[i]!.zone==apex&&aO l[i]!.key 1 1000000&&aO l[i]!.alg 1 3&&decide (0<=l[i]!.frm)&&decide (l[i]!.frm<=l[i]!.unt)&&decide (l[i]!.unt<=20000000) &&
 (decide (i=0)||(decide (l[i]!.frm=l[0]!.frm)&&decide (l[i]!.unt=l[0]!.unt)&&decide (l[i-1]!.key<l[i]!.key)))
def fV(l:List RSig)(apex:Str):Bool:=decide (l.length<=6)&&aB l.length (ic apex l) 0
def r9(a b:Sgd):Bool:=decide (a=b)
def wm(a b:List Sgd):Bool:=decide (a=b)
def TJ{a b:Sgd}(h1:a.set=b.set)(h2:a.sigs=b.sigs):a=b:=by cases a;cases b;simp_all
def Gi!{α:Type}[Inhabited α]{a b:List α}(hl:a.length=b.length)(h : ∀i,i<a.length->a[i]! = b[i]!):a=b:=by
 refine List.ext_getElem hl λi h1 h2=>?_
 have:=h i h1
 rwa [getElem!_pos a i h1,getElem!_pos b i h2]at this
theorem iV{n k:Nat}{p:Nat->Bool}(h:n<=k):aB n p k=true:=by rw[eD,XW (by omega)]
theorem dK{n k:Nat}{p:Nat->Bool}(h:k<n)(hF:p k=false):aB n p k=false:=by rw[eD,X0 h,hF];rfl
theorem bC{n k:Nat}{p:Nat->Bool}(h:k<n)(hF:p k=true):aB n p k=aB n p (k+1):=by rw[eD,X0 h,hF];rfl
def gJ(c:Nat->Int)(i j:Nat):Nat:=if i<j then(if c ((i+j) / 2)<0 then gJ c ((i+j) / 2+1) j else gJ c i ((i+j) / 2))else i
termination_by j-i
theorem qf(c:Nat->Int)(i j:Nat):gJ c i j=if i<j then(if c ((i+j) / 2)<0 then gJ c ((i+j) / 2+1) j else gJ c i ((i+j) / 2))else i:=by rw[gJ]
theorem Zc8(c:Nat->Int):∀(n i j:Nat),j-i<=n->i<=j->gJ c i j<=j/\i<=gJ c i j:=by
 intro n
 induction n with
 | zero=>intro i j h1 h2;rw[qf,XW (by omega)];omega
 | succ n ih =>
  intro i j h1 h2;rw[qf]
  split
  .
   split
   . have:=ih ((i+j) / 2+1) j om om;omega
   have:=ih i ((i+j) / 2) om om;omega
  omega
def di(l:List Sgd)(q:Qst):Nat:=gJ (λk=>qC l[k]!.q q) 0 l.length
def dN(l:List Sgd)(q:Qst):Bool:=decide (di l q<l.length)&&qC l[di l q]!.q q==0
def Gc{i j:Nat}(h:i+j<=9223372036854775807):IntKind.i64.wrap ((IntKind.u64.wrap ((i:Int)+j)).fdiv (2^(min 1 64)))=(((i+j) / 2:Nat):Int):=by
 have e:IntKind.u64.wrap ((i:Int)+j)=(i:Int)+j:=by rw[IntKind.wrap_u64];omega
 have e2:((2:Int)^(min 1 64))=2:=rfl
 rw[e,e2,Int.fdiv_eq_ediv_of_nonneg _ (by omega),IntKind.wrap_i64]
 omega
def nU(m:List Str):List D:=m.flatMap λs=>[.v (.string (bs s)),.b true]
def je(m:List Str)(n:Str):Bool:=decide (n∈m)
def tset(m:List Str)(n:Str):List Str:=if je m n then m else m++[n]
theorem w9(s:Str)(m:List Str):nU (s::m) = .v (.string (bs s)) :: .b true::nU m:=rfl
theorem MV{a b:Str}:jg (.v (.string (bs a))) (.v (.string (bs b)))=(a==b):=by simp[jg,kw,kz]
@[go_sem]theorem kvT_nil:nU []=[]:=rfl
@[go_sem]theorem LQ{m:List Str}:bK (nU m)=true:=by
 induction m with
 | nil=>rfl
 | cons s m ih=>rw[w9];simp only[bK,ih];rfl
@[go_sem]theorem wks_kvT{m:List Str}:dA (nU m)=nU m:=by
 induction m with
 | nil=>rfl
 | cons s m ih=>rw[w9];simp only[dA,ih];rfl
@[go_sem]theorem kvGetD_T{m:List Str}{n:Str}:(iL (nU m) (.v (.string (bs n)))).getD (.v (.bool false)) = .v (.bool (je m n)):=by
 induction m with
 | nil=>rfl
 | cons s m ih =>
  rw[w9];simp only[iL,MV]
  by_cases h:n=s
  . subst h;simp[je]
  .
   have:(n==s)=false:=by simp[h]
   rw[this];simp only[Yd,YT,ih,je,Yv,h,false_or]
@[go_sem]theorem kvSet_T{m:List Str}{n:Str}:iK (nU m) (.v (.string (bs n))) (.v (.bool true))=nU (tset m n):=by
 induction m with
 | nil=>rfl
 | cons s m ih =>
  rw[w9];simp only[iK,MV]
  by_cases h:n=s
  .
   subst h;have:tset (n::m) n=n::m:=by simp[tset,je]
   rw[this,w9]
   simp
  .
   have h1:(n==s)=false:=by simp[h]
   rw[h1,ih];have h2:tset (s::m) n=s::tset m n:=by
    unfold tset je
    by_cases q:n∈m<;>simp[h,q]
   rw[h2,w9];rfl
def ik(apex:Str)(l:List Sgd)(i:Nat):Bool:=eG l[i]!.set&&dX l[i]!.set.name apex&&(decide (i=0)||decide (qC l[i-1]!.q l[i]!.q<0))
def ordered(z:Zon):Bool:=ai z.apex && !fP z.apex&&decide (z.sets.length<=20000)&&aB z.sets.length (ik z.apex z.sets) 0
def jL(apex:Str)(l:List Sgd)(i:Nat):Bool:=fits l[i]!.set.ty (l[i]!.set.name==apex)
def iU(z:Zon)(i:Nat):Bool:=dN z.sets ⟨z.apex,if i=0 then 4 else 2⟩
def mg(z:Zon):Bool:=aB 2 (iU z) 0&&aB z.sets.length (jL z.apex z.sets) 0
def bM(z:Zon):Nat->List Str
 | 0=>[]
 | k+1=>if z.sets[k]!.set.ty=2/\z.sets[k]!.set.name≠z.apex then tset (bM z k) z.sets[k]!.set.name else bM z k
def stepC(m:List Str)(cut n:Str):Str :=
 let c:=if cut≠[]/\dX n cut=false then[]else cut
 if c=[]/\je m n=true then n else c
def bI(m:List Str)(l:List Sgd):Nat->List Str×Str
 | 0=>([],[])
 | k+1=>let c:=stepC m (bI m l k).2 l[k]!.set.name;((bI m l k).1++[c],c)
def eT(z:Zon):List Str:=(bI (bM z z.sets.length) z.sets z.sets.length).1
theorem Ie{z:Zon}{k:Nat}(h:z.sets[k]!.set.ty=2 /\ ¬z.sets[k]!.set.name=z.apex):bM z (k+1)=tset (bM z k) z.sets[k]!.set.name:=X0 h
theorem Ig{z:Zon}{k:Nat}(h : ¬(z.sets[k]!.set.ty=2 /\ ¬z.sets[k]!.set.name=z.apex)):bM z (k+1)=bM z k:=XW h
theorem vK(m:List Str)(l:List Sgd):∀k,(bI m l k).1.length=k
 | 0=>rfl
 | k+1=>by simp[bI,vK m l k]
def lJ(m:List Str)(l:List Sgd)(n k:Nat):List Str:=(bI m l k).1++List.replicate (n-k) []
theorem Fj{m:List Str}{l:List Sgd}{n k:Nat}(h:k<=n):(lJ m l n k).length=n:=by simp[lJ,vK];omega
theorem UQ{m:List Str}{l:List Sgd}{n k:Nat}{c:Str}(h:k<n)(hc:c=(bI m l (k+1)).2):(lJ m l n k).set k c=lJ m l n (k+1):=by
 have e:n-k=(n-(k+1))+1:=by omega
 unfold lJ
 rw[e,List.replicate_succ,List.set_append_right _ _ (by rw[vK];exact X3 _),vK,Zn,Y4]
 have:(bI m l (k+1)).1=(bI m l k).1++[c]:=by rw[hc];rfl
 rw[this,YS]
 rfl
@[go_sem]theorem rowsB_0{m:List Str}{l:List Sgd}{n:Nat}:(lJ m l n 0).map sR=List.replicate n [.v (.string (bs []))]:=by simp[lJ,bI,sR]
def yl{m:List Str}{l:List Sgd}{n k:Nat}{c:Str}(h:k<n)(hc:(bI m l (k+1)).2=c):((lJ m l n k).map sR).set k [.v (.string (bs c))]=(lJ m l n (k+1)).map sR:=by
 rw[<-UQ h hc.symm,List.map_set];rfl
@[go_sem]theorem cutsTo_0{z:Zon}:bM z 0=[]:=rfl
theorem UR(m:List Str)(l:List Sgd)(n:Nat):lJ m l n n=(bI m l n).1:=by simp[lJ]
def aN(z:Zon):Lay:=⟨z,eT z⟩
def gK(l:List Sgd)(i:Nat):Bool:=!decide (l[i]!.set.ty=3)||(!(decide (0<i)&&l[i-1]!.set.name==l[i]!.set.name) && !(decide (i+1<l.length)&&l[i+1]!.set.name==l[i]!.set.name && !decide (l[i+1]!.set.ty=8)))
def kG(x:Lay):Bool:=aB x.z.sets.length (gK x.z.sets) 0
def cutAt(x:Lay)(i:Nat):Bool:=let t:=x.z.sets[i]!.set.ty
 if x.b[i]! = []then !decide (t=6)else if x.b[i]! = x.z.sets[i]!.set.name then decide (t=2)||decide (t=6)||decide (t=8)||decide (t=1)else decide (t=1)
def iB(x:Lay):Bool:=aB x.z.sets.length (cutAt x) 0
def pW(x:Lay)(i:Nat):Bool:=!(!(x.b[i]! == [])&&(decide (x.z.sets[i]!.set.ty=2)||decide (x.z.sets[i]!.set.ty=1))&&decide (0<x.z.sets[i]!.sigs.length))
def tF(x:Lay):Bool:=aB x.z.sets.length (pW x) 0
def ol(z:Zon)(i:Nat):Bool:=fV z.sets[i]!.sigs z.apex
def vB(x:Lay):Bool:=aB x.z.sets.length (ol x.z) 0
def aJ(z:Zon):Bool:=ordered z&&mg z&&kG (aN z)&&iB (aN z)&&tF (aN z)&&vB (aN z)
def En(z:Zon):(aN z).b.length=(aN z).z.sets.length:=vK _ _ _
def FQ{z:Zon}(h:ordered z=true):z.sets.length<=1000000:=by
 simp only[ordered,XT,XV]at h
 omega
def uT{z:Zon}(h:aJ z=true):z.sets.length<=1000000:=by
 simp only[aJ,XT]at h
 exact FQ h.1.1.1.1.1
def R9{z:Zon}(h:aJ z=true):di z.sets ⟨z.apex,4⟩<z.sets.length/\0<z.sets[di z.sets ⟨z.apex,4⟩]!.set.data.length:=by
 simp only[aJ,XT]at h
 obtain⟨⟨⟨⟨⟨h1,h2⟩,_⟩,_⟩,_⟩,_⟩:=h
 simp only[mg,XT]at h2
 have h3:=(dO _ _ _).1 h2.1 0 (X3 _) (by omega)
 simp only[iU,Zr,dN,XT,XV]at h3
 refine⟨h3.1,?_⟩
 simp only[ordered,XT]at h1
 have h4:=(dO _ _ _).1 h1.2 _ (Yk _) h3.1
 simp only[ik,XT]at h4
 have:=((iE _).1 h4.1.1).len
 omega
def rZ(z:Zon):Int:=z.sets[di z.sets ⟨z.apex,4⟩]!.set.data[0]!.n
open Go.Cmp

def yX(x:Sgd):Prop:=x.set.data.length<=100000/\x.sigs.length<=100000
def iA(l:List Sgd):Prop:=l.length<=1000000 /\ ∀k,k<l.length->yX l[k]!
def nP(z:Zon):Prop:=z.sets.length<=1000000 /\ ∀k,k<z.sets.length->z.sets[k]!.set.name.length<=1000
theorem TF{a b:Sgd}(h1:a.set=b.set)(hl:a.sigs.length=b.sigs.length)(h : ∀i,i<a.sigs.length->a.sigs[i]! = b.sigs[i]!):r9 a b=true :=
 YQ (TJ h1 (Gi! hl h))
theorem TI{a b:Sgd}(h : ¬(a.set=b.set/\a.sigs.length=b.sigs.length)):r9 a b=false :=
 Y3 λe=>h ⟨by rw[e],by rw[e]⟩
theorem TH{a b:Sgd}{k:Nat}(h:a.sigs[k]! ≠ b.sigs[k]!):r9 a b=false :=
 Y3 λe=>h (by rw[e])
theorem TG{a b:List Sgd}{k:Nat}(h:r9 a[k]! b[k]! = false):wm a b=false :=
 Y3 λe=>(of_decide_eq_false h) (by rw[e])
theorem TD{a b:List Sgd}(hl:a.length=b.length)(h : ∀i,i<a.length->r9 a[i]! b[i]! = true):wm a b=true :=
 YQ (Gi! hl λi hi=>Y1 (h i hi))
theorem TE{a b:List Sgd}(h:a.length≠b.length):wm a b=false:=Y3 λe=>h (by rw[e])
def pI(apex:Str)(l:List Sgd)(i:Nat):Bool:=eG l[i]!.set&&ji l[i]!.set.name apex&&(decide (i=0)||decide (mF l[i-1]!.set l[i]!.set<0))
def kT(z:Zon):Bool:=ai z.apex && !uw z.apex&&decide (z.sets.length<=20000)&&aB z.sets.length (pI z.apex z.sets) 0
def Cx{z:Zon}(h:kT z=true):nP z:=by
 simp only[kT,XT,XV]at h
 refine⟨om,λk hk=>?_⟩
 have:=(dO _ _ _).1 h.2 k (Yk _) hk
 simp only[pI,XT]at this
 have:=gT ((iE _).1 this.1.1).name
 omega
def TQ{s:RSet}(h:eG s=true):s.name.length<=1000:=by
 have:=gT ((iE _).1 h).name
 omega
def sM(l:List Sgd)(q:Qst)(k:Nat):Int:=if k<l.length then(if l[k]!.q=q then(k:Int)else sM l q (k+1))else -1
termination_by l.length-k
theorem Am(l:List Sgd)(q:Qst)(k:Nat):sM l q k=if k<l.length then(if l[k]!.q=q then(k:Int)else sM l q (k+1))else -1:=by rw[sM]
def uh(l:List Sgd)(q:Qst):Int:=sM l q 0
def qi(z:Zon):Bool:=decide (0<=uh z.sets ⟨z.apex,4⟩)&&decide (0<=uh z.sets ⟨z.apex,2⟩)&&aB z.sets.length (jL z.apex z.sets) 0
def fM(l:List Sgd):Nat->Str
 | 0=>[]
 | k+1=>if l[k]!.set.ty=3 then l[k]!.set.name else fM l k
def jb(l:List Sgd)(i:Nat):Str:=if 0<i/\l[i-1]!.set.name=l[i]!.set.name then l[i]!.set.name else[]
def gN(l:List Sgd)(i:Nat):Bool:=!((!(jb l i==[])&&decide (l[i]!.set.ty=3))||(!(jb l i==[])&&(jb l i==fM l (i+1)) && !decide (l[i]!.set.ty=3) && !decide (l[i]!.set.ty=8)))
def lu(z:Zon):Bool:=aB z.sets.length (gN z.sets) 0
def jQ(z:Zon):Nat->List Str
 | 0=>[]
 | k+1=>if z.sets[k]!.set.ty=2/\z.sets[k]!.set.name≠z.apex then jQ z k++[z.sets[k]!.set.name]else jQ z k
def d9(z:Zon):List Str:=jQ z z.sets.length
def bT(cs:List Str):Nat->List Str
 | 0=>[]
 | k+1=>if bT cs k=[]\/ji cs[k]! (bT cs k)[(bT cs k).length-1]! = false then bT cs k++[cs[k]!]else bT cs k
def bz(z:Zon):List Str:=bT (d9 z) (d9 z).length
def mi(hs:List Str)(n:Str)(i:Nat):Nat:=if i<hs.length then(if dB hs[i]! n<=0 then mi hs n (i+1)else i)else i
termination_by hs.length-i
theorem vM(hs:List Str)(n:Str)(i:Nat):mi hs n i=if i<hs.length then(if dB hs[i]! n<=0 then mi hs n (i+1)else i)else i:=by rw[mi]
theorem ZdJ(hs:List Str)(n:Str):∀m i,hs.length-i<=m->i<=hs.length->i<=mi hs n i/\mi hs n i<=hs.length:=by
 intro m
 induction m with
 | zero=>intro i h h2;rw[vM,XW (by omega)];omega
 | succ m ih =>
  intro i h h2;rw[vM]
  split
  .
   split
   . have:=ih (i+1) om om;omega
   omega
  omega
def fK(hs:List Str)(n:Str)(j:Nat):Str:=if 0<j/\ji n hs[j-1]! = true then hs[j-1]! else[]
def fG(hs:List Str)(l:List Sgd):Nat->Nat
 | 0=>0
 | k+1=>mi hs l[k]!.set.name (fG hs l k)
def kE(hs:List Str)(l:List Sgd):Nat->List Str
 | 0=>[]
 | k+1=>kE hs l k++[fK hs l[k]!.set.name (fG hs l (k+1))]
def ed(z:Zon):List Str:=kE (bz z) z.sets z.sets.length
theorem ug(hs:List Str)(l:List Sgd):∀k,(kE hs l k).length=k
 | 0=>rfl
 | k+1=>by simp[kE,ug hs l k]
def ja(hs:List Str)(l:List Sgd)(n k:Nat):List Str:=kE hs l k++List.replicate (n-k) []
theorem Fh{hs:List Str}{l:List Sgd}{n k:Nat}(h:k<=n):(ja hs l n k).length=n:=by simp[ja,ug];omega
theorem UM{hs:List Str}{l:List Sgd}{n k:Nat}{c:Str}(h:k<n)(hc:fK hs l[k]!.set.name (fG hs l (k+1))=c):(ja hs l n k).set k c=ja hs l n (k+1):=by
 have e:n-k=(n-(k+1))+1:=by omega
 unfold ja
 rw[e,List.replicate_succ,List.set_append_right _ _ (by rw[ug];exact X3 _),ug,Zn,Y4,<-hc]
 have:kE hs l (k+1)=kE hs l k++[fK hs l[k]!.set.name (fG hs l (k+1))]:=rfl
 rw[this,YS]
 rfl
def Ca{hs:List Str}{l:List Sgd}{n k:Nat}{c:Str}(h:k<n)(hc:fK hs l[k]!.set.name (fG hs l (k+1))=c):((ja hs l n k).map sR).set k [.v (.string (bs c))]=(ja hs l n (k+1)).map sR:=by
 rw[<-UM h hc,List.map_set];rfl
def Cb{hs:List Str}{l:List Sgd}{n k:Nat}(h:k<n)(hc:fK hs l[k]!.set.name (fG hs l (k+1))=[]):ja hs l n (k+1)=ja hs l n k:=by
 have e:n-k=(n-(k+1))+1:=by omega
 have:kE hs l (k+1)=kE hs l k++[fK hs l[k]!.set.name (fG hs l (k+1))]:=rfl
 unfold ja
 rw[e,List.replicate_succ,this,hc,YS]
 rfl
@[go_sem]theorem rowsR_0{hs:List Str}{l:List Sgd}{n:Nat}:(ja hs l n 0).map sR=List.replicate n [.v (.string (bs []))]:=by simp[ja,kE,sR]
theorem UN(hs:List Str)(l:List Sgd)(n:Nat):ja hs l n n=kE hs l n:=by simp[ja]
def pY(z:Zon):Bool:=iB ⟨z,ed z⟩
def eO(x:Lay)(i:Nat):Bool:=x.b[i]! == []||(!decide (x.z.sets[i]!.set.ty=2) && !decide (x.z.sets[i]!.set.ty=1))
def jH(x:Lay):Nat->List Bool
 | 0=>[]
 | k+1=>jH x k++[eO x k]
def wN(z:Zon):List Bool:=jH ⟨z,ed z⟩ z.sets.length
theorem pE(x:Lay):∀k,(jH x k).length=k
 | 0=>rfl
 | k+1=>by simp[jH,pE x k]
theorem Lg(x:Lay):∀n k,k<n->(jH x n)[k]! = eO x k:=by
 intro n
 induction n with
 | zero=>intro k h;omega
 | succ n ih =>
  intro k h;have hl:=pE x n
  by_cases e:k=n
  . subst e;simp[jH,hl]
  have hk:k<n:=by omega
  rw[<-ih k hk];simp only[jH];rw[getElem!_pos _ _ (by simp[hl];omega),getElem!_pos _ _ (by omega),List.getElem_append_left]
def bR(b:Bool):List D:=[.b b]
def jF(x:Lay)(n k:Nat):List Bool:=jH x k++List.replicate (n-k) false
theorem yj{x:Lay}{n k:Nat}(h:k<=n):(jF x n k).length=n:=by simp[jF,pE];omega
def kQ{x:Lay}{n k:Nat}{c:Bool}(h:k<n)(hc:eO x k=c):((jF x n k).map bR).set k [.b c]=(jF x n (k+1)).map bR:=by
 have e:n-k=(n-(k+1))+1:=by omega
 have:jH x (k+1)=jH x k++[c]:=by rw[<-hc];rfl
 have e2:(jF x n k).set k c=jF x n (k+1):=by
  unfold jF;rw[e,List.replicate_succ,List.set_append_right _ _ (by rw[pE];exact X3 _),pE,Zn,Y4,this,YS]
  rfl
 rw[<-e2,List.map_set];rfl
@[go_sem]theorem rowsO_0{x:Lay}{n:Nat}:(jF x n 0).map bR=List.replicate n [.b false]:=by simp[jF,jH,bR]
theorem Kn(x:Lay)(n:Nat):jF x n n=jH x n:=by simp[jF]
@[go_sem]theorem nrr_bR{l:List Bool}:aZ (l.map bR)=true:=by
 induction l with
 | nil=>rfl
 | cons x l ih=>simp only[X8,aZ,ih,bR,bK];rfl
@[go_sem]theorem wkr_bR{l:List Bool}:cK (l.map bR)=l.map bR:=by
 induction l with
 | nil=>rfl
 | cons x l ih=>simp only[X8,cK,ih,bR,dA];rfl
@[go_sem]theorem all_bR{l:List Bool}:(∀r∈l.map bR,r.length=1)=True:=by
 apply eq_true
 intro r hr
 obtain⟨x,_,rfl⟩:=Yh.1 hr
 rfl
def Dn{l:List Bool}{n:Nat}(h:n<l.length):(l.map bR).getD n []=[.b l[n]!]:=by
 simp[List.getD,h,bR,getElem!_pos]
def tJ(x:Lay)(i:Nat):Bool:=ol x.z i&&pW x i
def qW(z:Zon):Bool:=aB z.sets.length (tJ ⟨z,ed z⟩) 0
def nE(z:Zon):Bool:=kT z&&qi z&&lu z&&pY z&&qW z
def AY(z:Zon):Bool:=decide (z.sets.length<=100)&&aB z.sets.length (λi=>decide (z.sets[i]!.set.data.length<=20)&&decide (z.sets[i]!.sigs.length<=20)) 0
structure jS where
 apex:Str
 frm:Int
 too:Int
 drop:List Qst
 put:List Sgd
 deriving Inhabited,DecidableEq
def jS.d(x:jS):List D:=[.v (.string (bs x.apex)),.i x.frm,.i x.too,.l (x.drop.map Qst.d),.l (x.put.map Sgd.d)]
def jS.of:List D->jS
 | [.v (.string s),.v (.int _ a),.v (.int _ b),.list _ q,.list _ r]=>⟨s.data.toList,a,b,q.map Qst.of,r.map Sgd.of⟩
 | _=>default
attribute [go_sem] jS.d
@[go_sem]theorem dlt_eta{x:jS}:(⟨x.apex,x.frm,x.too,x.drop,x.put⟩:jS)=x:=rfl
def BX(x:Int):Bool:=decide (0<=x)&&decide (x<65536)
def QA(a b:Int):Bool:=decide (1<=(b-a+65536) % 65536)&&decide ((b-a+65536) % 65536<=32767)
def qO(a b:Qst):Int:=mF ⟨a.name,a.ty,0,[]⟩ ⟨b.name,b.ty,0,[]⟩
def askB(l:List Qst)(q:Qst):Bool:=decide (q∈l)
def Zb0(l:List Qst)(i:Nat):Bool:=wz l[i]! && (decide (i=0)||decide (qO l[i-1]! l[i]! < 0))
def putAt(d:jS)(i:Nat):Bool:=eG d.put[i]!.set&&(decide (i=0)||decide (qO d.put[i-1]!.q d.put[i]!.q<0)) && !askB d.drop d.put[i]!.q
def Pq(d:jS):Bool:=ai d.apex && !fP d.apex&&BX d.frm&&BX d.too&&QA d.frm d.too&&decide (d.drop.length<=20000)&&decide (d.put.length<=20000)&&aB d.drop.length (Zb0 d.drop) 0&&aB d.put.length (putAt d) 0
def Fv{z:Zon}(h:nE z=true):kT z=true/\qi z=true/\lu z=true/\pY z=true/\qW z=true:=by
 simp only[nE,XT]at h
 exact⟨h.1.1.1.1,h.1.1.1.2,h.1.1.2,h.1.2,h.2⟩
def U9{z:Zon}(h:nE z=true){k:Nat}(hk:k<z.sets.length):vO z.sets[k]!.set:=by
 have h1:=(Fv h).1
 simp only[kT,XT]at h1
 have:=(dO _ _ _).1 h1.2 k (Yk _) hk
 simp only[pI,XT]at this
 exact(iE _).1 this.1.1
def Va{z:Zon}(h:nE z=true):z.sets.length<=20000:=by
 have h1:=(Fv h).1
 simp only[kT,XT,XV]at h1
 exact h1.1.2
def U8{z:Zon}(h:nE z=true){k:Nat}(hk:k<z.sets.length):z.sets[k]!.sigs.length<=6:=by
 have h1:=(Fv h).2.2.2.2
 simp only[qW]at h1
 have:=(dO _ _ _).1 h1 k (Yk _) hk
 simp only[tJ,ol,fV,XT,XV]at this
 exact this.1.1
def Vb{z:Zon}(h:nE z=true):iA z.sets:=by
 have hl:=Va h
 refine⟨om,λk hk=>⟨?_,?_⟩⟩
 . have:=(U9 h hk).len;omega
 have:=U8 h hk;omega
def vR:Zon:=⟨[],[]⟩

def J8:Sgd:=⟨⟨[],0,0,[]⟩,[]⟩
def kZ(z:Zon)(q:Qst):Sgd×Bool×Int :=
 if(wz q&&aJ z)=true then(if dN z.sets q=true then(z.sets[di z.sets q]!,true,0)else(J8,false,0))else(J8,false,1)
theorem MX{a b:Qst}:jg (.agg a.d) (.agg b.d)=decide (a=b):=by
 cases a;cases b
 rw[YN]
 simp[jg,ku,kw,Qst.d,kz]
def nR:List Sgd->Qst->Option Sgd
 | s::m,q=>if s.q=q then some s else nR m q
 | [],_=>none
def Mj:List Sgd->Sgd->List Sgd
 | x::m,s=>if x.q=s.q then s::m else x::Mj m s
 | [],s=>[s]
def Gf(l:List Sgd):Nat->List Sgd
 | 0=>[]
 | k+1=>Mj (Gf l k) l[k]!
def mapF(l:List Sgd):List Sgd:=Gf l l.length
def qS(a:Qst):RSet:=⟨a.name,a.ty,0,[]⟩
theorem VA(a b:Qst):qC a b=plC (qS a) (qS b):=rfl
theorem KN(a b:Qst):qO a b=mF (qS a) (qS b):=rfl
theorem Vz{a b:Qst}(ha:ai a.name=true)(hb:ai b.name=true):qC a b=qO a b:=by
 rw[VA,KN,VT (a:=qS a) (b:=qS b) ha hb,KH (a:=qS a) (b:=qS b) ha hb]
def Vy{a b:Qst}(ha:ai a.name=true)(hb:ai b.name=true):qO a b=sw (qS a) (qS b):=by
 rw[KN,KH (a:=qS a) (b:=qS b) ha hb]
theorem Zc7(c:Nat->Int)(n:Nat)(mono : ∀i j,i<=j->j<n->c j<0->c i<0):∀m i j,j-i<=m->i<=j->j<=n->(∀k,k<i->c k<0)->(∀k,j<=k->k<n -> ¬c k<0) ->
  (∀k,k<gJ c i j->c k<0)/\(∀k,gJ c i j<=k->k<n -> ¬c k<0):=by
 intro m
 induction m with
 | zero =>
  intro i j h1 h2 h3 ha hb;rw[qf,XW (by omega)]
  exact⟨ha,λk hk hn=>hb k om hn⟩
 | succ m ih =>
  intro i j h1 h2 h3 ha hb;rw[qf]
  by_cases hij:i<j
  .
   rw[X0 hij]
   by_cases hc:c ((i+j) / 2)<0
   . rw[X0 hc];exact ih _ _ om om h3 (λk hk=>mono k ((i+j) / 2) om om hc) hb
   rw[XW hc];exact ih _ _ om om om ha (λk hk hn hk2=>hc (mono _ k hk hn hk2))
  rw[XW hij];exact⟨ha,λk hk hn=>hb k om hn⟩
theorem Mv{α:Type}{c:α->α->Int}(h:Cm c):∀p r:List α,lex c p (p++r)<=0
 | [],[]=>by simp[lex]
 | [],_::_=>by simp[lex]
 | x::p,r=>by
  show kJ (c x x) (lex c p (p++r))<=0
  rw[jB,X0 (h.self x)];exact Mv h p r
theorem Mw{α:Type}{c:α->α->Int}(h:Cm c)(he : ∀x y,c x y=0->x=y):∀p r x:List α,lex c p x<=0->lex c x (p++r)<=0->p <+: x
 | [],r,x,_,_=>List.nil_prefix
 | a::p,r,[],h1,_=>by simp[lex]at h1
 | a::p,r,b::x,h1,h2=>by
  have h1':kJ (c a b) (lex c p x)<=0:=h1;have h2':kJ (c b a) (lex c x (p++r))<=0:=h2;rw[jB]at h1' h2';have ha:=h.anti a b
  by_cases e:c a b=0
  .
   have e2:c b a=0:=by omega
   rw[X0 e]at h1';rw[X0 e2]at h2';obtain rfl:=he _ _ e;obtain⟨t,rfl⟩:=Mw h he p r x h1' h2';exact⟨t,rfl⟩
  rw[XW e]at h1';rw[XW (by omega)]at h2'
  omega
def bF(n c:Str):Prop:=bq c <+: bq n
def zF(n:Str):bF n n:=List.prefix_rfl
def BH{a b c:Str}(h:bF a b)(k:bF b c):bF a c:=List.IsPrefix.trans k h
def BI{a b:Str}(h:bF a b)(k:bF b a):a=b :=
 ww (List.IsPrefix.eq_of_length k (Nat.le_antisymm (List.IsPrefix.length_le k) (List.IsPrefix.length_le h)))
def Rq{n a b:Str}(h:bF n a)(k:bF n b):bF a b\/bF b a:=List.prefix_or_prefix_of_prefix k h
theorem L9(a b:Str):dB a b=lex Go.Lib.compareBytes (bq a) (bq b):=Cw _ _
def EK{n c:Str}(h:bF n c):dB c n<=0:=by
 obtain⟨r,hr⟩:=h
 rw[L9,<-hr]
 exact Mv Ee _ _
def EJ{n c x:Str}(h:bF n c)(h1:dB c x<=0)(h2:dB x n<=0):bF x c:=by
 obtain⟨r,hr⟩:=h
 rw[L9]at h1 h2
 rw[<-hr]at h2
 exact Mw Ee (λ_ _=>Qr) _ _ _ h1 h2
def yL{s z:Str}:ji s z=true↔bF s z:=by
 unfold bF
 rw[<-Cr,<-Cr,List.reverse_prefix]
 unfold ji
 rw[XT,XV,dO]
 constructor
 .
  rintro⟨h1,h2⟩;refine⟨(aL s).take ((aL s).length-(aL z).length),?_⟩
  conv=>rhs;rw[<-ZQ ((aL s).length-(aL z).length) (aL s)]
  congr 1
  refine List.ext_getElem (by simp;omega) λi hi hj=>?_
  have:=h2 i (Yk _) hi;unfold sS at this;rw[Yy,getElem!_pos (aL s) _ (by omega),getElem!_pos (aL z) _ hi]at this
  rw[List.getElem_drop,this]
 rintro⟨a,ha⟩
 have hl:(aL s).length=a.length+(aL z).length:=by rw[<-ha,YE]
 refine⟨om,λi _ hi=>?_⟩
 unfold sS
 have e:(aL s).length-(aL z).length+i=a.length+i:=by omega
 rw[Yy,e,getElem!_pos (aL s) _ (by omega),getElem!_pos (aL z) _ hi]
 have:(aL s)[a.length+i]? = some (aL z)[i]:=by
  rw[<-ha,YR (by omega)]
  simp[hi]
 exact(XY.1 this).2
theorem Gp:dI []=false:=by
 unfold dI
 simp
theorem Ga:ai []=false:=by
 rw[Mh,XW (by simp),XW (by simp),pg]
 simp[split,lm,Gp]
theorem M4 : ∀(a b:List Str),a≠[]->b≠[]->fT (a++b)=fT a++46::fT b
 | [],_,h,_=>absurd rfl h
 | [p],[],_,h=>absurd rfl h
 | [p],q::r,_,_=>rfl
 | p::q::r,b,_,hb=>by
  have ih:=M4 (q::r) b (by simp) hb
  show p++46::fT ((q::r)++b)=_
  rw[ih]
  simp[fT]
theorem RQ{s z:Str}:split z <:+ split s↔s=z \/ ∃a,s=a++46::z:=by
 constructor
 .
  rintro⟨a,ha⟩
  by_cases h:a=[]
  .
   subst h
   left
   rw[<-xh s,<-xh z,<-ha];rfl
  right
  refine⟨fT a,?_⟩;rw[<-xh s,<-ha,M4 a _ h (ql z),xh]
 rintro (h|⟨a,h⟩)
 . rw[h];exact List.suffix_rfl
 rw[h,BQ];exact List.suffix_append _ _
theorem Ro{s z:Str}:(decide (z.length<s.length)&&qQ s z&&decide ((s.getD (s.length-z.length-1) 0).toNat=46))=true↔∃a,s=a++46::z:=by
 rw[XT,XT,XV,XV]
 unfold qQ
 rw[XT,XV,Yy]
 constructor
 .
  rintro⟨⟨h1,h2,h3⟩,h4⟩;refine⟨s.take (s.length-z.length-1),?_⟩;have hlt:s.length-z.length-1<s.length:=by omega
  have hc:s[s.length-z.length-1]=46:=by
   apply ZO.1
   show _=46
   rw[<-h4]
   simp[List.getD,hlt]
  conv=>lhs;rw[<-ZQ (s.length-z.length-1) s]
  rw[Yr hlt,hc,show s.length-z.length-1+1=s.length-z.length by omega,h3]
 rintro⟨a,rfl⟩
 have hl:(a++46::z).length=a.length+1+z.length:=by simp;omega
 refine⟨⟨om,om,?_⟩,?_⟩
 .
  rw[hl,show a.length+1+z.length-z.length=a.length+1 by omega]
  simp
 rw[hl,show a.length+1+z.length-z.length-1=a.length by omega]
 simp
theorem zD{s z:Str}(hs:ai s=true)(hz:ai z=true):under s z=true↔bF s z:=by
 unfold under bF
 rw[Ya,Ya,Yy,Yy,Ro]
 by_cases ez:z=[46]
 .
  subst ez;have:bq [46]=[]:=by simp[bq]
  rw[this]
  simp
 by_cases es:s=[46]
 .
  subst es;have h1:bq [46]=[]:=by simp[bq]
  rw[h1]
  constructor
  .
   rintro ((h|h)|⟨a,h⟩)
   . exact absurd h.symm ez
   . exact absurd h ez
   cases a with
   | nil =>
    have:z=[]:=by simpa using h
    subst this;rw[Ga]at hz;cases hz
   | cons x a=>simp at h
  intro h;have:=List.prefix_nil.1 h;unfold bq at this;rw[XW ez,lI]at this
  cases this
 have e1:bq s=(split s).reverse:=by unfold bq;rw[XW es,pg]
 have e2:bq z=(split z).reverse:=by unfold bq;rw[XW ez,pg]
 rw[e1,e2,List.reverse_prefix,RQ]
 constructor
 .
  rintro ((h|h)|h)
  . exact .inl h
  . exact absurd h ez
  exact .inr h
 rintro (h|h)
 . exact .inl (.inl h)
 exact .inr h
def BG{s z:Str}(hs:ai s=true)(hz:ai z=true):dX s z=true↔bF s z:=by
 unfold dX
 rw[hs,hz,Zj,Zj,zD hs hz]
theorem Jd{s:Str}(h:ai s=true):fP s=uw s:=by
 by_cases e:s=[46]
 . subst e;rfl
 have hp:aL s=split s:=by unfold aL;rw[XW e,uB]
 have h0:fC (split s) 0=true:=by
  unfold ai at h;rw[XW e]at h
  split at h
  . cases h
  rw[XT,uB]at h;have:=Y6.2 (ql s);exact(dO _ _ _).1 h.1 0 (X3 _) this
 unfold uw
 rw[hp]
 have hpos:=Y6.2 (ql s)
 rw[YQ hpos,Zj]
 cases s with
 | nil=>rw[Ga]at h;cases h
 | cons c r =>
  obtain⟨p,ps,hq⟩:∃p ps,split r=p::ps:=by
   cases hq:split r with
   | nil=>exact absurd hq (ql r)
   | cons p ps=>exact⟨p,ps,rfl⟩
  by_cases hc:c=46
  .
   subst hc;have hs:split (46::r)=[]::split r:=by rw[split,X0 rfl]
   rw[hs]at h0
   simp[fC,Gp]at h0
  have hs:split (c::r)=(c::p)::ps:=by rw[split,XW hc,hq]
  rw[hs]at h0 ⊢;simp only[fC,List.getElem!_cons_zero,decide_true,Zj]at h0 ⊢;rw[YN];unfold fP;simp only[YI,List.getD_cons_zero,XT,XV,Yy]
  constructor
  .
   rintro⟨_,h1⟩;rw[Ya]at h0
   rcases h0 with h2|h2
   .
    exfalso
    unfold dI at h2;rw[XT,XT]at h2;have:=(dO _ _ _).1 h2.1.1 0 (X3 _) (by simp)
    simp[kU,mh,h1]at this
   exact Yy.1 h2
  intro h1;have:=(List.cons.inj h1).1;subst this;exact⟨om,rfl⟩
def qp(a b:Qst):Int:=sw (qS a) (qS b)
def Qd:Cm qp:=tY cm_pl qS
theorem Fy{a b:Qst}:qp a b=0↔a=b:=by
 unfold qp
 rw[VL]
 cases a;cases b
 simp[qS]
theorem Fz{a b:Qst}(ha:ai a.name=true)(hb:ai b.name=true):qO a b=qp a b:=Vy ha hb
theorem FB{a b:Qst}(ha:ai a.name=true)(hb:ai b.name=true):qC a b=qp a b:=by rw[Vz ha hb,Fz ha hb]
def KM{a b:Qst}(h:qp a b<0):dB a.name b.name<=0/\(a.name=b.name->a.ty<b.ty):=by
 have h1:kJ (dB a.name b.name) (Go.Cmp.cmpI a.ty b.ty)<0:=h
 rw[jB]at h1
 split at h1
 .
  rename_i e
  refine⟨om,λ_=>?_⟩
  unfold Go.Cmp.cmpI at h1
  split at h1
  . assumption
  split at h1<;>omega
 rename_i e
 refine⟨om,λe2=>?_⟩
 rw[e2,rC.self]at e
 exact absurd rfl e
def sp(a b:Sgd):Int:=qp a.q b.q
def Qc:Cm sp:=tY Qd Sgd.q
def Ord(l:List Sgd):Prop:=uk sp l
theorem JG{α:Type}[Inhabited α]{c:α->α->Int}(h:Cm c){l:List α}(k : ∀i,0<i->i<l.length->c l[i-1]! l[i]! < 0):uk c l:=by
 induction l with
 | nil=>exact .nil
 | cons x r ih =>
  have ih:=ih λi h1 h2=>by
   have:=k (i+1) om (by simp;omega)
   obtain⟨j,rfl⟩:∃j,i=j+1:=⟨i-1,om⟩
   simpa using this
  refine Zl.2 ⟨?_,ih⟩
  cases r with
  | nil=>simp
  | cons y r =>
   have h1:=k 1 (by omega) (by simp)
   have h1':c x y<0:=by simpa using h1
   intro z hz
   rcases Yv.1 hz with e|e
   . subst e;exact h1'
   have:=(Zl.1 ih).1 z e;exact h.lt_le h1' om
def vW{α:Type}[Inhabited α]{c:α->α->Int}{l:List α}(h:uk c l){i j:Nat}(hij:i<j)(hj:j<l.length):c l[i]! l[j]! < 0:=by
 rw[getElem!_pos l i (by omega),getElem!_pos l j hj]
 exact YO.1 h i j om hj hij
def nS{α:Type}[Inhabited α]{l:List α}{x:α}:x∈l↔∃i,i<l.length/\l[i]! = x:=by
 constructor
 . intro h;obtain⟨i,hi,e⟩:=YZ h;exact⟨i,hi,by rw[getElem!_pos l i hi,e]⟩
 rintro⟨i,hi,e⟩
 rw[getElem!_pos l i hi]at e
 exact e▸Yq hi
def fE{α:Type}[Inhabited α]{l:List α}{i:Nat}(h:i<l.length):l[i]! ∈ l:=nS.2 ⟨i,h,rfl⟩
def Ex{α:Type}[Inhabited α]{l:List α}{p:α->Prop}:(∀x∈l,p x)↔∀i,i<l.length->p l[i]! :=
 ⟨λh i hi=>h _ (fE hi),λh x hx=>by obtain⟨i,hi,rfl⟩:=nS.1 hx;exact h i hi⟩
theorem Ml{l:List Sgd}{q:Qst}{s:Sgd}(h:nR l q=some s):s∈l/\s.q=q:=by
 induction l with
 | nil=>cases h
 | cons x l ih =>
  unfold nR at h
  split at h
  . rename_i e;cases h;exact⟨by simp,e⟩
  exact⟨by simp[(ih h).1],(ih h).2⟩
theorem WQ{l:List Sgd}{q:Qst}:nR l q=none↔∀s∈l,s.q≠q:=by
 induction l with
 | nil=>simp[nR]
 | cons x l ih =>
  unfold nR
  split
  . rename_i e;simp[e]
  rename_i e;rw[ih];simp[e]
theorem Mm{l:List Sgd}(h:Ord l){s:Sgd}(hs:s∈l):nR l s.q=some s:=by
 induction l with
 | nil=>cases hs
 | cons x l ih =>
  have h':=Zl.1 h;unfold nR
  rcases Yv.1 hs with e|e
  . subst e;rw[X0 rfl]
  have:=h'.1 s e;rw[XW,ih h'.2 e];intro e2;unfold sp at this;rw[Fy.2 e2]at this;omega
theorem XP(l:List Sgd)(q:Qst):∀n k,l.length-k<=n->nR (l.drop k) q=if sM l q k<0 then none else some l[(sM l q k).toNat]! := by
 intro n
 induction n with
 | zero =>
  intro k h;have e:sM l q k = -1:=by rw[Am,XW (by omega)]
  rw[e,YM (by omega),X0 (by omega)]
  rfl
 | succ n ih =>
  intro k h;rw[Am]
  by_cases hk:k<l.length
  .
   rw[X0 hk,Yr hk];unfold nR;rw[getElem!_pos l k hk]
   by_cases e:l[k].q=q
   . rw[X0 e,X0 e,XW (by omega),show((k:Int)).toNat=k by omega,getElem!_pos l k hk]
   rw[XW e,XW e,ih (k+1) (by omega)]
  rw[XW hk,YM (by omega),X0 (by omega)]
  rfl
def Zdk(l:List Sgd)(q:Qst):nR l q=if uh l q<0 then none else some l[(uh l q).toNat]! := XP l q _ 0 (X3 _)
def DD{l:List Sgd}{q:Qst}(ho:Ord l)(hn : ∀s∈l,ai s.set.name=true)(hq:ai q.name=true):nR l q=if dN l q=true then some l[di l q]! else none:=by
 have hc : ∀k,k<l.length->qC l[k]!.q q=qp l[k]!.q q:=λk hk=>FB (hn _ (fE hk)) hq
 obtain⟨h1,h2⟩:=Zc7 (λk=>qC l[k]!.q q) l.length (λi j hij hj h=>by
   rw[hc _ (by omega)]
   rw[hc _ hj]at h
   by_cases e:i=j
   . subst e;exact h
   exact Qd.lt_le (vW ho (by omega:i<j) hj) om) _ 0 l.length (X3 _) (Yk _) (X3 _) (λk hk=>by omega) (λk h1 h2=>by omega)
 have h1 : ∀k,k<di l q->qC l[k]!.q q<0:=h1
 have h2 : ∀k,di l q<=k->k<l.length -> ¬qC l[k]!.q q<0:=h2
 have hle:di l q<=l.length:=(Zc8 _ _ 0 l.length (X3 _) (Yk _)).1
 by_cases h:dN l q=true
 . rw[X0 h];unfold dN at h;rw[XT,XV,Yy]at h;obtain⟨h3,h4⟩:=h;rw[hc _ h3,Fy]at h4;have h5:=Mm ho (fE h3);rw[h4]at h5;exact h5
 rw[XW h,WQ]
 intro s hs e
 apply h
 obtain⟨k,hk,rfl⟩:=nS.1 hs
 have hz:qC l[k]!.q q=0:=by rw[hc _ hk,Fy,e]
 have hk2:di l q<=k:=by
  rcases Zo k (di l q)with h5|h5
  . have:=h1 k h5;omega
  exact h5
 have hk3:di l q=k:=by
  rcases Zo (di l q) k with h5|h5
  .
   have h6:=h2 (di l q) (X3 _) (by omega)
   rw[hc _ (by omega)]at h6
   have h7:=vW ho h5 hk;have h8:qp l[di l q]!.q l[k]!.q<0:=h7;rw[e]at h8;omega
  omega
 unfold dN
 rw[hk3,YQ hk,hz]
 rfl
structure mo(z:Zon):Prop where
 apex:ai z.apex=true
 wild:fP z.apex=false
 len:z.sets.length<=20000
 ok : ∀s∈z.sets,vO s.set
 und : ∀s∈z.sets,bF s.set.name z.apex
 ord:Ord z.sets
theorem mo.nms{z:Zon}(h:mo z):∀s∈z.sets,ai s.set.name=true:=λs hs=>(h.ok s hs).name
theorem yt{z:Zon}:ordered z=true↔mo z:=by
 unfold ordered
 rw[XT,XT,XT,XV,X7,dO]
 have hO : ∀i,ik z.apex z.sets i=true↔(eG z.sets[i]!.set=true/\dX z.sets[i]!.set.name z.apex=true)/\(i=0\/qC z.sets[i-1]!.q z.sets[i]!.q<0):=by
  intro i;simp[ik]
 constructor
 .
  rintro⟨⟨⟨h1,h2⟩,h3⟩,h4⟩;have h4 : ∀i,i<z.sets.length->_:=λi hi=>(hO i).1 (h4 i (Yk _) hi)
  refine⟨h1,h2,h3,Ex.2 λi hi=>(iE _).1 (h4 i hi).1.1,Ex.2 λi hi=>?_,JG Qc λi h0 hi=>?_⟩
  . exact(BG ((iE _).1 (h4 i hi).1.1).name h1).1 (h4 i hi).1.2
  have h5:=(h4 i hi).2;rw[FB ((iE _).1 (h4 (i-1) (by omega)).1.1).name ((iE _).1 (h4 i hi).1.1).name]at h5
  exact h5.resolve_left om
 intro h
 refine⟨⟨⟨h.apex,h.wild⟩,h.len⟩,λi _ hi=>(hO i).2 ⟨⟨(iE _).2 (h.ok _ (fE hi)),(BG (h.nms _ (fE hi)) h.apex).2 (h.und _ (fE hi))⟩,?_⟩⟩
 by_cases e:i=0
 . exact .inl e
 right
 have hi1:i-1<z.sets.length:=by omega
 have n1:ai z.sets[i-1]!.q.name=true:=h.nms _ (fE hi1)
 have n2:ai z.sets[i]!.q.name=true:=h.nms _ (fE hi)
 rw[FB n1 n2]
 exact vW h.ord (by omega:i-1<i) hi
theorem Vl(a b:Sgd):mF a.set b.set=qO a.q b.q:=rfl
theorem Wi{z:Zon}:kT z=true↔mo z:=by
 unfold kT
 rw[XT,XT,XT,XV,X7,dO]
 have hO : ∀i,pI z.apex z.sets i=true↔(eG z.sets[i]!.set=true/\ji z.sets[i]!.set.name z.apex=true)/\(i=0\/qO z.sets[i-1]!.q z.sets[i]!.q<0):=by
  intro i;simp[pI,Vl]
 constructor
 .
  rintro⟨⟨⟨h1,h2⟩,h3⟩,h4⟩;have h4 : ∀i,i<z.sets.length->_:=λi hi=>(hO i).1 (h4 i (Yk _) hi)
  refine⟨h1,by rw[Jd h1];exact h2,h3,Ex.2 λi hi=>(iE _).1 (h4 i hi).1.1,Ex.2 λi hi=>?_,JG Qc λi h0 hi=>?_⟩
  . exact yL.1 (h4 i hi).1.2
  have h5:=(h4 i hi).2;rw[Fz ((iE _).1 (h4 (i-1) (by omega)).1.1).name ((iE _).1 (h4 i hi).1.1).name]at h5
  exact h5.resolve_left om
 intro h
 refine⟨⟨⟨h.apex,by rw[<-Jd h.apex];exact h.wild⟩,h.len⟩,λi _ hi=>(hO i).2 ⟨⟨(iE _).2 (h.ok _ (fE hi)),yL.2 (h.und _ (fE hi))⟩,?_⟩⟩
 by_cases e:i=0
 . exact .inl e
 right
 have hi1:i-1<z.sets.length:=by omega
 have n1:ai z.sets[i-1]!.q.name=true:=h.nms _ (fE hi1)
 have n2:ai z.sets[i]!.q.name=true:=h.nms _ (fE hi)
 rw[Fz n1 n2]
 exact vW h.ord (by omega:i-1<i) hi
theorem Lt(z:Zon):ordered z=kT z:=by rw[YN,yt,Wi]
theorem Ot{z:Zon}(h:mo z){q:Qst}(hq:ai q.name=true):dN z.sets q=decide (0<=uh z.sets q):=by
 have h1:=DD h.ord h.nms hq
 have h2:=Zdk z.sets q
 rw[h1]at h2
 rw[YN,XV]
 by_cases e:dN z.sets q=true
 .
  rw[X0 e]at h2
  split at h2
  . cases h2
  exact⟨λ_=>by omega,λ_=>e⟩
 rw[XW e]at h2
 split at h2
 . exact⟨λh=>absurd h e,λh=>by omega⟩
 cases h2
theorem Zdr{z:Zon}(h:mo z):mg z=qi z:=by
 unfold mg qi
 congr 1
 have e:aB 2 (iU z) 0=(iU z 0&&iU z 1):=by
  rw[eD,X0 (by omega),eD,X0 (by omega),eD,XW (by omega),Bool.and_true]
 rw[e]
 unfold iU
 rw[Ot h h.apex,Ot h h.apex]
 rfl
end Go.Zon
