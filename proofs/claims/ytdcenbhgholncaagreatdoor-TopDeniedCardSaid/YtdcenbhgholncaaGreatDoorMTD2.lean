/-
  MANY TEXTS OF MINE IN ONE (a claim has a limit of files): DW, DSimp, DWalk, DRange, DFrame, DSh, DUn, DGrow, DSl, DPan, DDrawC, DSg. Conditions: none.
-/
import Derived.Deep.LoopGhost
import Derived.RangeFuncRecord
import Derived.Lib.SliceRun
import Derived.KernelRfl
import Derived.Shelf.Spec.SlicesGrow
import Derived.BigFrame
import Derived.Lib.Overlaps
import Derived.RecoverIn
import Derived.Laws.Externs
import Derived.Test.YtdcenbhgholncaaGreatDoorMTD1
set_option linter.unusedVariables false
set_option linter.unusedSimpArgs false
set_option linter.unusedSectionVars false
set_option linter.defProp false
set_option linter.unnecessarySimpa false
namespace Go.DL
variable [Dr]
open Go.RowKit
variable {P : Program} {C : aK}
def S.clear(s:S):S:={ s with ok:=True }
def St.clear [aa P]{B:bS}{s:S}{g:Mem}{a:Act}{w:World}(h:St P B s g a w):St P B s.clear g a w:=⟨h.sz,h.tm,h.mem,h.df,h.en,h.bd⟩
def DW(P:Program)[aa P](ro:Option Nat)(c:Code)(Q:Exit->S->Prop)(s:S):Prop :=
 ∀(B:bS)(g:Mem)(a:Act)(w:World),St P B s g a w->(∀r,g.U r->r<s.nx) ->
  c.wpIn (Fw ro) 0 P (λe a' w'=>∃s' g',Q e s'/\St P B s' g' a' w'/\bQ s.e.x g g' w w'/\(∀r,g'.U r->r<s'.nx)/\s'.e.x=s.e.x) a w
theorem wpIn_loop_ghost [aa P]{F:Fence}{n:Nat}{Q:Exit->Act->World->Prop}{a:Act}{w:World}{c:Code}(I:Nat->Act->World->Prop)(n0:Nat)(h0:I n0 a w)
  (round : ∀k a w,I k a w->c.wpIn F n P (Exit.then (λa' w'=>∃k',k'<k/\I k' a' w') Q) a w):(Code.loop c).wpIn F n P Q a w:=by
 refine wpIn_loop (λa w=>∃k,I k a w) (λa w=>leastOf λk=>I k a w) ⟨n0,h0⟩ λa w h=>?_
 obtain⟨h1,h2⟩:=leastOf_spec h
 refine wpIn_mono (round _ a w h1) λe a' w' hq=>?_
 cases e with
 | normal =>
  obtain⟨k',hlt,hI⟩:=hq;exact⟨⟨k',hI⟩,Nat.lt_of_le_of_lt ((leastOf_spec ⟨k',hI⟩).2 k' hI) hlt⟩
 | _=>exact hq
section
variable {ro : Option Nat} {Q : Exit -> S -> Prop} {s : S}
theorem DW.mono [aa P]{c:Code}{Q':Exit->S->Prop}(h:DW P ro c Q s)(hq : ∀e s,Q e s->Q' e s):DW P ro c Q' s :=
 λB g a w hs hU=>wpIn_mono (h B g a w hs hU) λ_ _ _⟨s',g',q,r⟩=>⟨s',g',hq _ _ q,r⟩
def fB [aa P](h:Q .normal s):DW P ro .skip Q s:=λ_ g _ _ hs hU=>wpIn_skip ⟨s,g,h,hs,bQ.refl _ _ _,hU,rfl⟩
def aR [aa P]{id:Nat}(h:Q (.exit id) s):DW P ro (.exit id) Q s:=λ_ g _ _ hs hU=>wpIn_exit ⟨s,g,h,hs,bQ.refl _ _ _,hU,rfl⟩
theorem iA [aa P](h:Q .ret s):DW P ro .ret Q s:=λ_ g _ _ hs hU=>wpIn_ret ⟨s,g,h,hs,bQ.refl _ _ _,hU,rfl⟩
def thenS(next:S->Prop)(Q:Exit->S->Prop):Exit->S->Prop
 | .normal,s=>next s
 | e,s=>Q e s
theorem aU [aa P]{x y:Code}(h:DW P ro x (thenS (DW P ro y Q) Q) s):DW P ro (.seq x y) Q s:=by
 intro B g a w hs hU
 refine wpIn_seq (wpIn_mono (h B g a w hs hU) ?_)
 rintro e a' w' ⟨s',g',hq,hs',hm,qo,hx⟩
 cases e with
 | normal=>exact wpIn_mono (hq B g' a' w' hs' qo) λe a'' w''⟨s'',g'',q,r,m,u,v⟩=>⟨s'',g'',q,r,hm.trans (hx▸m),u,v.trans hx⟩
 | _=>exact⟨s',g',hq,hs',hm,qo,hx⟩
def Zec [aa P]{x y:Code}(M:S->Prop)(h:DW P ro x (thenS M Q) s)(k : ∀s',M s'->DW P ro y Q s'):DW P ro (.seq x y) Q s :=
 aU (h.mono λe s' hq=>by cases e<;>first|exact k s' hq|exact hq)
def Aq [aa P]{c:Operand}{x y:Code}{t:Bool}(hc:s.ev c = .v (.bool t))(ht:t=true->DW P ro x Q s)(hf:t=false->DW P ro y Q s):DW P ro (.cond c x y) Q s:=by
 intro B g a w hs hU
 have h:=dH hs c
 rw[hc]at h
 exact wpIn_cond_split h.v_inv (λe=>ht e B g a w hs hU) (λe=>hf e B g a w hs hU)
def AO(id:Nat)(Q:Exit->S->Prop):Exit->S->Prop
 | .exit id',s=>if id'=id then Q .normal s else Q (.exit id') s
 | e,s=>Q e s
theorem dO [aa P]{id:Nat}{c:Code}(h:DW P ro c (AO id Q) s):DW P ro (.block id c) Q s:=by
 intro B g a w hs hU
 refine wpIn_block (wpIn_mono (h B g a w hs hU) ?_)
 rintro e a' w' ⟨s',g',hq,r⟩
 cases e with
 | exit id' =>
  simp only[Exit.inBlock,AO]at hq ⊢
  split
  . rename_i e;rw[XY e]at hq;exact⟨s',g',hq,r⟩
  rename_i e;rw[XW e]at hq;exact⟨s',g',hq,r⟩
 | _=>exact⟨s',g',hq,r⟩
theorem Zej [aa P]{c:Code}(I:S->Prop)(μ:S->Nat)(h0:I s)(round : ∀s',I s'->s'.n=s.n->DW P ro c (thenS (λs''=>I s''/\s''.n=s.n/\μ s''<μ s') Q) s'):DW P ro (.loop c) Q s:=by
 intro B g a w hs hU
 refine wpIn_loop_ghost (λk a' w'=>∃s' g',I s'/\s'.n=s.n/\μ s'=k/\St P B s' g' a' w'/\bQ s.e.x g g' w w'/\(∀r,g'.U r->r<s'.nx)/\s'.e.x=s.e.x) (μ s) ⟨s,g,h0,rfl,rfl,hs,bQ.refl _ _ _,hU,rfl⟩ ?_
 rintro k a1 w1 ⟨s1,g1,hI,hn,rfl,hs1,hm1,eU,hx1⟩
 refine wpIn_mono (round s1 hI hn B g1 a1 w1 hs1 eU) ?_
 rintro e a2 w2 ⟨s2,g2,hq,hs2,hm2,uQ,hx2⟩
 rw[hx1]at hm2
 cases e with
 | normal=>exact⟨μ s2,hq.2.2,s2,g2,hq.1,hq.2.1,rfl,hs2,hm1.trans hm2,uQ,hx2.trans hx1⟩
 | _=>exact⟨s2,g2,hq,hs2,hm1.trans hm2,uQ,hx2.trans hx1⟩
def nW(L:List Oper):Bool:=(List.range L.length).all λi=>(L.getD i default).after.toList.all λe=>!Region.binds .any e||decide (e.on<i)
theorem QH [aa P]{W:bf}{L:List Oper}{b:Nat}{fz:Option Nat}:∀(l:List Nat)(u:S),(l.foldl (stepG P W C L b fz) u).nx=u.nx/\(l.foldl (stepG P W C L b fz) u).e=u.e:=by
 intro l
 induction l with
 | nil=>intro u;exact⟨rfl,rfl⟩
 | cons k l ih =>
  intro u;simp only[YB];rw[(ih _).1,(ih _).2];unfold stepG
  cases L[k]? <;> exact⟨rfl,rfl⟩
def Zeg [aa P]{ro:Option Nat}{Q:Exit->S->Prop}{s fin:S}{id:Nat}{ops:Array Oper}(fz:Option Nat)(ps:List Pr)(hd:P.follows .mixedOrders=true/\tQ C ops.toList fz ps=true/\nW ops.toList=true)
  (hfin:(List.range' 0 ops.toList.length).foldl (stepG P (words P) C ops.toList s.nx fz) (s.begin ops.toList.length)=fin)
  (yO : ∀p∈ps,∀r∈jA ops.toList s.nx p.j fin,r ∉ jA ops.toList s.nx p.i fin)
  (hok:fin.ok)(hq:Q .normal fin.clear):DW P ro (.region id ops true) Q s:=by
 intro B g a w hs hU
 have hs0:St P B (s.begin ops.toList.length) g a w:=⟨hs.sz,hs.tm,hs.mem,hs.df,hs.en,hs.bd⟩
 have Jm:fin.nx=s.nx+ops.size:=by rw[<-hfin,(QH _ _).1];simp[S.begin]
 have hef:fin.clear.e.x=s.e.x:=by show fin.e.x=s.e.x;rw[<-hfin,(QH _ _).2];rfl
 obtain⟨h1,h2,h3⟩:=hd
 refine wpIn_region_any h1 ?_
 obtain⟨hs1,hm1⟩:=FK hs0
 have hrep : ∀i,(Array.replicate ops.size false).getD i false=false:=by
  intro i
  by_cases h:i<ops.size<;>simp[Array.getD,h]
 have htodo:todo ops.size (Array.replicate ops.size false)=List.range' 0 ops.toList.length:=by
  unfold todo;rw[ZF.2 (λi _=>by rw[hrep];rfl),Zm]
  simp
 refine ZeC (C:=C) (B:=B) (b:=s.nx) (fin:=fin) h2 yO ops.size _ (s.begin ops.toList.length) g a _ (by simp) (by rw[htodo];simp) (λi o _ hi=>by rw[hrep]at hi;cases hi) (λi o ho e he hb=>?_) hs1 hm1 (λr hr=>.inl (hU r hr)) (by rw[htodo,hfin]) hok
  (λg' a' w' q1 q2 q3=>⟨_,g',hq,q1.clear,q2.toX,λr hr=>by show r<fin.nx;rw[Jm];exact q3 r hr,hef⟩)
 unfold nW at h3
 simp only[Yg,Y2,X8,X5,XV]at h3
 have hil:i<ops.toList.length:=(X0.1 ho).1
 have ho':ops.toList.getD i default=o:=by simp only[List.getD,ho,YD]
 have:=h3 i hil e (by rw[ho'];exact he)
 rcases this with h|h
 . rw[hb]at h;cases h
 exact h
theorem QG [aa P]{W:bf}{L:List Oper}{b:Nat}{fz:Option Nat}:∀(l:List Nat)(u:S),(∀k∈l,fz≠some k)->l.foldl (stepG P W C L b fz) u=l.foldl (run1 P W C L b) u
 | [],u,_=>rfl
 | k::l,u,h=>by
  simp only[YB];rw[ul (h k (by simp)),QG l _ λm hm=>h m (by simp[hm])]
def RI [aa P]{ro:Option Nat}{Q:Exit->S->Prop}{s fin:S}{id:Nat}{ops:Array Oper}(ps:List Pr)(hd:P.follows .mixedOrders=true/\tQ C ops.toList none ps=true/\nW ops.toList=true)
  (he:exec P (words P) C ops.toList s=fin)(yO : ∀p∈ps,∀r∈jA ops.toList s.nx p.j fin,r ∉ jA ops.toList s.nx p.i fin)
  (hok:fin.ok)(hq:Q .normal fin.clear):DW P ro (.region id ops true) Q s:=by
 refine Zeg none ps hd ?_ yO hok hq
 rw[QG _ _ (λ_ _ h=>by cases h),<-he]
 have:=QT (P:=P) (W:=words P) (C:=C) (L:=ops.toList) (b:=s.nx) ops.toList.length 0 (s.begin ops.toList.length) om
 rw[Yj]at this
 exact this.symm
def ZfO(o:Oper):tT C o=true:=by
 unfold tT
 split<;>rfl
def Zfo{L:List Oper}(h:xm C L=true):tQ C L none []=true:=by
 unfold xm at h
 unfold tQ
 simp only[XT,Yg,Y2,X8]at h ⊢
 exact⟨⟨⟨λx _=>ZfO x,λp hp=>by cases hp⟩,rfl⟩,λi hi j hj=>(h i hi j hj).elim (λq=>.inl (.inl q)) λq=>.inr ⟨⟨rfl,rfl⟩,q⟩⟩
theorem RH [aa P]{id:Nat}{ops:Array Oper}{draw:Bool}(hd:draw=true->P.follows .mixedOrders=true/\xm C ops.toList=true/\nW ops.toList=true)
  (hok:(exec P (words P) C ops.toList s).ok)(hq:Q .normal (exec P (words P) C ops.toList s).clear):DW P ro (.region id ops draw) Q s:=by
 intro B g a w hs hU
 have hs0:St P B (s.begin ops.toList.length) g a w:=⟨hs.sz,hs.tm,hs.mem,hs.df,hs.en,hs.bd⟩
 have hnx : ∀(l:List Nat)(u:S),(l.foldl (run1 P (words P) C ops.toList s.nx) u).nx=u.nx:=by
  intro l
  induction l with
  | nil=>intro u;rfl
  | cons i l ih =>
   intro u;simp only[YB];rw[ih];unfold run1
   split
   . exact xh.2
   rfl
 have yN:=QT (P:=P) (W:=words P) (C:=C) (L:=ops.toList) (b:=s.nx) ops.toList.length 0 (s.begin ops.toList.length) (by omega)
 simp only[Yj]at yN
 have hfin:exec P (words P) C ops.toList s=(List.range' 0 ops.toList.length).foldl (run1 P (words P) C ops.toList s.nx) (s.begin ops.toList.length):=yN
 have Jm:(exec P (words P) C ops.toList s).nx=s.nx+ops.size:=by rw[hfin,hnx];simp[S.begin]
 have hex : ∀(l:List Nat)(u:S),(l.foldl (run1 P (words P) C ops.toList s.nx) u).e=u.e:=by
  intro l
  induction l with
  | nil=>intro u;rfl
  | cons i l ih =>
   intro u;simp only[YB];rw[ih];unfold run1
   split
   . unfold bT;split<;>rfl
   rfl
 have hef:(exec P (words P) C ops.toList s).clear.e.x=s.e.x:=by show(exec P (words P) C ops.toList s).e.x=s.e.x;rw[hfin,hex];rfl
 have fin : ∀g' a' w',St P B (exec P (words P) C ops.toList s) g' a' w'->aB g g' w w'->(∀r,g'.U r->r<s.nx+ops.size) -> ∃s' g'',Q .normal s'/\St P B s' g'' a' w'/\bQ s.e.x g g'' w w'/\(∀r,g''.U r->r<s'.nx)/\s'.e.x=s.e.x :=
  λg' a' w' h1 h2 h3=>⟨_,g',hq,h1.clear,h2.toX,λr hr=>by show r<(exec P (words P) C ops.toList s).nx;rw[Jm];exact h3 r hr,hef⟩
 cases draw with
 | false =>
  refine wpIn_region ?_;have:=Zdu (P:=P) (C:=C) (B:=B) (ops:=ops) (b:=s.nx) (ro:=ro) (n:=0) (Q:=λe a' w'=>∃s' g',Q e s'/\St P B s' g' a' w'/\bQ s.e.x g g' w w'/\(∀r,g'.U r->r<s'.nx)/\s'.e.x=s.e.x) ops.size 0 (s.begin ops.toList.length) g a w hs0 (aB.refl _ _) (λr hr=>by have:=hU r hr;omega) om
   (by simp only[Yj];exact hok) (by simp only[Yj];exact fin)
  rw[Zm];exact this
 | true =>
  obtain⟨h1,h2,h3⟩:=hd rfl;exact RI [] ⟨h1,Zfo h2,h3⟩ rfl (λp hp=>by cases hp) hok hq B g a w hs hU
end
def S.init(n:Nat)(args:List D):S:={ n,t:=λi=>args.getD i .junk,h:=λ_=>none,nx:=0 }
def Bp [aa P](s:S):ResultVar->D
 | .tmp t=>s.t t
 | .cell a t=>(jd P t (s.t a) s.h).1
def M6 [aa P](s:S):ResultVar->Prop
 | .tmp _=>True
 | .cell a t=>(jd P t (s.t a) s.h).2
def ng(P:Program)[aa P](rs:List ResultVar)(s:S):D:=match rs.map (Bp (P:=P) s)with
 | [d]=>d
 | ds=>.tuple ds
def sJ(P:Program)[aa P](s:S):List ResultVar->Prop
 | []=>True
 | r::rs=>M6 (P:=P) s r/\sJ P s rs
def DN(tmps:Array Value)(r:ResultVar):Sem Value:=match r with
 | .tmp t=>pure (tmps.getD t undef)
 | .cell a t=>do loadVar t (<-asAddr (tmps.getD a undef))
theorem M5 [aa P]{B:bS}{s:S}{g:Mem}{a:Act}{w:World}(hs:St P B { s with e:=Env.tt } g a w):∀rs:List ResultVar,sJ P s rs -> ∃vs:List Value,(rs.mapM (DN a.tmps)).run P w = .ok vs w/\aG w g (rs.map (Bp (P:=P) s)) vs
 | [],_=>⟨[],by simp,.nil⟩
 | r::rs,h=>by
  obtain⟨vs,h1,h2⟩:=M5 hs rs h.2
  cases r with
  | tmp t=>exact⟨a.tmps.getD t undef::vs,by simp only[List.mapM_cons,Sem.run_bind,DN,Sem.run_pure,Result.andThen_ok,h1],.cons (hs.tm t) h2⟩
  | cell c t =>
   obtain⟨q1,q2,q3⟩:=h.1;obtain⟨p,hp,hc⟩:=Nu hs.mem (hs.tm c) (by intro e;rw[e]at q1;simp at q1;omega)
   obtain⟨v,h4,h5⟩:=MP hc q1 q2 q3;refine⟨v::vs,?_,.cons h5 h2⟩;simp only[List.mapM_cons,Sem.run_bind,DN,hp,asAddr,Sem.run_pure,Result.andThen_ok,h4,h1]
theorem Hw [aa P]{fn:Func}{B:bS}{s:S}{g:Mem}{a:Act}{w:World}(hs:St P B { s with e:=Env.tt } g a w)(hok:sJ P s fn.results.toList):∃v,(results fn a.tmps).run P w = .ok v w/\ag w g (ng P fn.results.toList s) v:=by
 obtain⟨vs,h1,h2⟩:=M5 hs _ hok
 have hrun:(results fn a.tmps).run P w = .ok (if h:vs.toArray.size=1 then vs.toArray[0]else .tuple vs.toArray) w:=by
  have e:results fn a.tmps=(do let vs <-fn.results.mapM (DN a.tmps);pure (if h:vs.size=1 then vs[0]else .tuple vs):Sem Value):=rfl
  rw[e,Array.mapM_eq_mapM_toList]
  simp[h1]
 refine⟨_,hrun,?_⟩
 unfold ng
 split
 .
  rename_i d hd
  rw[hd]at h2;obtain⟨v,l,rfl,h3,h4⟩:=h2.of_cons;rw[h4.of_nil]
  simpa using h3
 rename_i hne
 rw[dif_neg (λh=>?_)]
 . exact .mk_tuple (by simpa using h2)
 have hl:(fn.results.toList.map (Bp (P:=P) s)).length=1:=by rw[h2.1];simpa using h
 match hq:fn.results.toList.map (Bp (P:=P) s),hl with
 | [d],_=>exact hne d hq
def K6:Obj->Prop
 | .cells .. | .map .. => True
 | _=>False
theorem EG [aa P]{fn:Func}{tmps:Array Value}{R:Ending->World->Prop}{n B:Nat}{g:Mem}:∀(ds:List Deferred)(w:World),Marks B g ds w ->
  (∀w',w'.drawn=w.drawn->w'.os=w.os->w'.tape=w.tape->w'.output=w.output->w'.heap.size=w.heap.size->(∀k:Nat,k<B->w'.heap[k]? = w.heap[k]?)->(∀k:Nat,g.I k->w'.heap[k]? = w.heap[k]?)->(∀(k:Nat)o,w.heap[k]? = some o->K6 o->w'.heap[k]? = w.heap[k]?) -> ∃v,(results fn tmps).run P w' = .ok v w'/\R (.returned v) w') ->
  LeavesInM Fence.wide n P fn tmps R ds .returning w:=by
 intro ds
 induction ds with
 | nil =>
  intro w _ h;exact h w rfl rfl rfl rfl rfl (λ_ _=>rfl) (λ_ _=>rfl) (λ_ _ _ _=>rfl)
 | cons d ds ih =>
  rintro w ⟨⟨D,h1,h2,h3,h4,h5⟩,h6⟩ h;refine⟨by simp,.inl ⟨D,w.putObj D (.deferred none),h1,run_takeDeferred h2,?_⟩⟩
  have hne : ∀k,k≠D->(w.putObj D (.deferred none)).heap[k]? = w.heap[k]? := λk hk=>World.putObj_heap_other hk
  have hms : ∀ds:List Deferred,(∀d'∈ds,d'.target ≠ .collected D)->Marks B g ds w->Marks B g ds (w.putObj D (.deferred none)):=by
   intro ds
   induction ds with
   | nil=>intro _ _;trivial
   | cons e ds ihd =>
    rintro hds ⟨⟨D',k1,k2,k3,k4,k5⟩,k6⟩;refine⟨⟨D',k1,?_,k3,k4,k5⟩,ihd (λd' hd'=>hds d' (by simp[hd'])) k6⟩
    rw[hne D' (λe'=>by subst e';exact hds e (by simp) k1)]
    exact k2
  refine ih _ (hms ds h3 h6) λw' e0 e1 e2 e3 e4 e5 e6 e7=>?_
  refine h w' (by rw[e0];rfl) (by rw[e1];rfl) (by rw[e2];rfl) (by rw[e3];rfl) (by rw[e4];simp) (λk hk=>?_) (λk hk=>?_) (λk o hk ho=>?_)
  . rw[e5 k hk,hne k (by omega)]
  . rw[e6 k hk,hne k (λe=>by subst e;exact h5 hk)]
  have:k≠D:=λe'=>by subst e';rw[h2]at hk;cases hk;exact ho
  rw[e7 k o (by rw[hne k this];exact hk) ho,hne k this]
def HM.marks [aa P]{h:H}{g:Mem}{w w':World}(hm:HM P h g w)(e4:w'.heap.size=w.heap.size)(e6 : ∀k:Nat,g.I k->w'.heap[k]? = w.heap[k]?)(e7 : ∀(k:Nat)o,w.heap[k]? = some o->K6 o->w'.heap[k]? = w.heap[k]?):HM P h g w':=by
 refine⟨hm.dead,λr bl hr=>?_,hm.inj,hm.used,λb hb=>by rw[e4];exact hm.imm b hb,hm.gr.later λb hb=>⟨hb,e6 b hb⟩⟩
 obtain⟨blk,c,h1,h2,h3,h4,h5⟩:=hm.blk r bl hr
 refine⟨blk,c,h1,h2,h3,h4,?_⟩
 rcases h5 with h5|⟨b,cur,rfl,h6,h7,h8,h9⟩
 . exact .inl h5
 have hst:w'.heap[b]? = w.heap[b]? := by
  obtain⟨x,hx,hy⟩:=h6.some;exact e7 b x hx (by rcases hy with⟨_,_,_,rfl⟩|⟨_,_,rfl⟩<;>trivial)
 exact .inr ⟨b,cur,rfl,by rw[hst];exact h6,h7,h8,λi row hi=>⟨(h9 i row hi).1,λj d hd=>by
  obtain⟨u,k3,k4,k5⟩:=(h9 i row hi).2 j d hd;exact⟨u,k3,k4,k5.mono (λb hb=>⟨hb,e6 b hb⟩) (λ_ h=>h) (λ_ _=>.inl rfl)⟩⟩⟩
def St.marks [aa P]{B:bS}{s:S}{g:Mem}{a:Act}{w w':World}(hs:St P B s g a w)(e4:w'.heap.size=w.heap.size)(e6 : ∀k:Nat,g.I k->w'.heap[k]? = w.heap[k]?)(e7 : ∀(k:Nat)o,w.heap[k]? = some o->K6 o->w'.heap[k]? = w.heap[k]?) :
  St P (bS.of B.n) { s with e:=Env.tt } g { a with defers:=[] } w' :=
 ⟨hs.sz,λi=>(hs.tm i).mono (λb hb=>⟨hb,e6 b hb⟩) (λ_ h=>h) (λ_ _=>.inl rfl),hs.mem.marks e4 e6 e7,iY.start,trivial,by rw[e4];exact hs.bd⟩
def EM [aa P]{n:Nat}{args:List D}{vs:List Value}{g:Mem}{w:World}(hr:aG w g args vs)(hn:args.length<=n){h:H}(hm:HM P h g w){nx:Nat} :
  St P (bS.of w.heap.size) { S.init n args with h:=h,nx:=nx } g { tmps:=vs.toArray++Array.replicate (n-vs.toArray.size) undef,defers:=[] } w:=by
 have hl:vs.length=args.length:=hr.1.symm
 refine⟨by simp[S.init];omega,λi=>?_,hm,iY.start,trivial,X4 _⟩
 simp only[S.init]
 by_cases hi:i<args.length
 .
  have e1:args.getD i .junk=args[i]:=by simp[List.getD,X6 hi]
  have hi':i<vs.length:=by omega
  have e2:(vs.toArray++Array.replicate (n-vs.toArray.size) undef).getD i undef=vs[i]:=by
   simp[Array.getElem?_append,hi']
  rw[e1,e2];exact hr.2 i _ _ (by simp) (by simp)
 have e1:args.getD i .junk = .junk:=by simp[List.getD,Zt (Nat.le_of_not_lt hi)]
 rw[e1]
 exact .junk _
def Nq [aa P]{f:FuncId}{fn:Func}{c:Code}{args:List D}{res:D}(hf:P.funcs[f]? = some fn)(hb:fn.body=some c)(hbd:jy P f=true)(hnr:args.all D.nr=true)(hn:args.length<=fn.ntmps)
  (h:DW P none c (λe s=>(e = .normal\/e = .ret)/\sJ P s fn.results.toList /\ ∃k,d9 s.h k (ng P fn.results.toList s)/\wk (ed s.h k (ng P fn.results.toList s))=res) (S.init fn.ntmps args)):PureCt P f args res:=by
 refine⟨hbd,hnr,λw I vs hI hgr hr=>?_⟩
 have hm:HM P (λ_=>none) (gq I) w:=by
  refine⟨λ_ _=>rfl,?_,?_,?_,hI,hgr⟩
  . intro r bl h;cases h
  . intro r r' b c c' s s' h;cases h
  intro r h;exact absurd rfl h
 have hs:St P (bS.of w.heap.size) (S.init fn.ntmps args) (gq I) { tmps:=vs.toArray++Array.replicate (fn.ntmps-vs.toArray.size) undef,defers:=[] } w:=EM hr hn hm
 refine callsIn_of_wp_marks (n:=0) hf hb trivial (wpIn_mono (F:=Fence.wide) (h (bS.of w.heap.size) (gq I) _ w hs (λr h=>False.elim h)) ?_)
 rintro e a' w' ⟨s',g',⟨he,ho,k,hk,hres⟩,hs',hm',_⟩
 have hm':=hm'.out
 have hlast:LeavesInM Fence.wide 0 P fn a'.tmps (λe w'=>∃v,e = .returned v/\xI w w'/\ag w' (gq λb=>I b\/(w.heap.size<=b/\b<w'.heap.size)) res v) a'.defers .returning w':=by
  refine EG (P:=P) a'.defers w' hs'.df.marks λw2 e0 e1 e2 e3 e4 e5 e6 e7=>?_
  have hs2:=hs'.marks e4 e6 e7;obtain⟨v,h1,h2⟩:=Hw (fn:=fn) hs2 ho;refine⟨v,h1,v,rfl,⟨by rw[e1,hm'.os],by rw[e2,hm'.tape],by rw[e3,hm'.output],by rw[e4];exact hm'.size,by rw[e0];exact hm'.drawn,λb hb=>?_⟩,?_⟩
  . rw[e5 b hb,hm'.same b hb (λr c s h=>by cases h)]
  obtain⟨q1,q2⟩:=Mt hs2.mem k _ v (nz h2) hk;have q1:=q1.wk;have q2:=Di _ q2;rw[hres]at q1 q2;refine q1.clean q2 λb hb=>?_
  rcases hb with hb|⟨r,c,s,hb⟩
  .
   rcases hm'.inew b hb with h|h|⟨r,c,s,h⟩
   . exact .inl h
   . exact .inr ⟨h,hs2.mem.imm b hb⟩
   cases h
  rcases hm'.new r b c s hb with⟨r',c',s',h⟩|h
  . cases h
  exact .inr ⟨h,(lT hs2.mem hb).1⟩
 rcases he with rfl|rfl<;>exact hlast
end Go.DL
namespace Go.DL
variable [Dr]
open Go.RowKit
variable {P : Program} {W : bf} {C : aK}
attribute [go_sem_proc] Nat.reduceEqDiff Nat.reduceAdd Nat.reduceLeDiff Nat.reduceBEq Nat.reduceSub Nat.reduceMul Int.reduceLT Int.reduceLE Int.reduceEq Int.reduceNeg Int.reduceToNat reduceIte Nat.reduceLT reduceCtorEq
attribute [go_sem] decide_true decide_false Bool.not_true Bool.not_false Int.toNat_natCast
def S.out(s:S)(dst:Option Tmp)(r:D×H×Prop):S:={ n:=s.n,t:=s.put dst r.1,h:=r.2.1,nx:=s.nx,ok:=s.ok/\cu s.n dst=true/\r.2.2,e:=s.e }
def S.outG(s:S)(dst:Option Tmp)(op:Op)(C:aK)(gd:D)(want:Bool)(r:D×H×Prop):S :=
 { n:=s.n,t:=s.put dst (.cond (gz gd want) r.1),h:=s.h,nx:=s.nx,ok:=s.ok/\cu s.n dst=true/\jW gd=true/\bA C op ≠ .writes/\(gz gd want=true->r.2.2),e:=s.e }
def exec_eq [aa P]{L:List Oper}{s:S}:exec P W C L s=bN P W C L s.nx 0 L { n:=s.n,t:=s.t,h:=s.h,nx:=s.nx+L.length,ok:=s.ok,e:=s.e }:=rfl
def Zh4 [aa P]{L:List Oper}{b i:Nat}{s:S}:bN P W C L b i [] s=s:=rfl
def Zh5 [aa P]{L:List Oper}{b i:Nat}{o:Oper}{os:List Oper}{s:S}:bN P W C L b i (o::os) s=bN P W C L b (i+1) os (bT P W C L b i o s):=rfl
attribute[go_sem]exec_eq Zh4 Zh5
@[go_sem]theorem Zh6 [aa P]{L:List Oper}{b i:Nat}{dst:Option Tmp}{op:Op}{ty:TypeId}{pos:String}{af:Array Edge}{s:S} :
  bT P W C L b i { dst:=dst,op:=op,type:=ty,pos:=pos,after:=af,guard:=none } s=s.out dst (au P W C true op ((av op).map s.ev) s.h (b+i)):=rfl
def Ag(L:List Oper)(j:Nat)(t:Nat->D):D:=((L[j]?).bind (·.dst)).elim .junk t
@[go_sem]theorem Zh7 [aa P]{L:List Oper}{b i j:Nat}{want:Bool}{dst:Option Tmp}{op:Op}{ty:TypeId}{pos:String}{af:Array Edge}{s:S} :
  bT P W C L b i { dst:=dst,op:=op,type:=ty,pos:=pos,after:=af,guard:=some (j,want) } s =
   s.outG dst op C (Ag L j s.t) want (au P W C (gz (Ag L j s.t) want) op ((av op).map s.ev) s.h (b+i)):=rfl
@[go_sem]theorem Zh2{dst:Option Tmp}{op:Op}{ty:TypeId}{pos:String}{af:Array Edge}{gd:Option (Nat×Bool)}{L:List Oper}{t:Nat->D} :
  Ag ({ dst:=dst,op:=op,type:=ty,pos:=pos,after:=af,guard:=gd }::L) 0 t=dst.elim .junk t:=rfl
@[go_sem]theorem Zh3{o:Oper}{L:List Oper}{j:Nat}{t:Nat->D}:Ag (o::L) (j+1) t=Ag L j t:=by simp[Ag]
@[go_sem]theorem out_some{n nx:Nat}{t:Nat->D}{h:H}{ok:Prop}{e:Env}{d:Tmp}{x:D}{h':H}{p:Prop}:S.out { n,t,h,nx,ok,e } (some d) (x,h',p)={ n,t:=upd t d x,h:=h',nx,ok:=ok/\decide (d<n)=true/\p,e }:=rfl
@[go_sem]theorem Zhn{n nx:Nat}{t:Nat->D}{h:H}{ok:Prop}{e:Env}{x:D}{h':H}{p:Prop}:S.out { n,t,h,nx,ok,e } none (x,h',p)={ n,t,h:=h',nx,ok:=ok/\p,e }:=by simp[S.out,S.put,cu]
@[go_sem]theorem Zho{n nx:Nat}{t:Nat->D}{h:H}{ok:Prop}{e:Env}{d:Tmp}{op:Op}{gd:D}{want:Bool}{x:D}{h':H}{p:Prop} :
  S.outG { n,t,h,nx,ok,e } (some d) op C gd want (x,h',p)={ n,t:=upd t d (.cond (gz gd want) x),h,nx,ok:=ok/\decide (d<n)=true/\jW gd=true/\bA C op ≠ .writes/\(gz gd want=true->p),e }:=rfl
theorem gG{n nx:Nat}{t:Nat->D}{h:H}{ok:Prop}{e:Env}:S.clear { n,t,h,nx,ok,e }={ n,t,h,nx,ok:=True,e }:=rfl
theorem Zcz{n:Nat}{args:List D}:S.init n args={ n,t:=λi=>args.getD i .junk,h:=λ_=>none,nx:=0,ok:=True,e:=Env.tt }:=rfl
def ev_tmp{s:S}{i:Tmp}:s.ev (.tmp i)=s.t i:=rfl
def ev_const{s:S}{x:Value}:s.ev (.const x)=kI x:=rfl
def Zh8{s:S}{g:Nat}:s.ev (.global g) = .v (.pointer (some ⟨g,0,none⟩)):=rfl
def ev_func{s:S}{f:FuncId}:s.ev (.func f) = .fn (.func f) [] []:=rfl
def ofV_int{k:IntKind}{n:Int}:kI (.int k n) = .v (.int k n):=rfl
def ofV_bool{b:Bool}:kI (.bool b) = .v (.bool b):=rfl
def Zhs{s:ByteArray}:kI (.string s) = .v (.string s):=rfl
def ofV_nil:kI (.slice none 0 0) = .list true []:=rfl
def Zhu:kI .nilFunc = .v .nilFunc:=rfl
def Zht:kI .nilIface = .v .nilIface:=rfl
def ofV_ptr{p:Option Addr}:kI (.pointer p) = .v (.pointer p):=rfl
attribute[go_sem]gG Zcz ev_tmp ev_const Zh8 ev_func ofV_int ofV_bool Zhs ofV_nil Zhu Zht ofV_ptr
@[go_sem]theorem upd_hit{α:Type}{f:Nat->α}{i:Nat}{x:α}:upd f i x i=x:=by simp[upd]
@[go_sem]theorem upd_miss{α:Type}{f:Nat->α}{i j:Nat}{x:α}(h:(j=i)=False):upd f i x j=f j:=by simp only[upd];rw[XW (by rw[h];exact id)]
attribute [go_sem] List.take_succ_cons List.take_zero List.take_nil List.drop_zero List.drop_succ_cons List.drop_nil List.set_cons_zero List.set_cons_succ List.cons_append List.nil_append List.append_nil Bool.false_eq_true Nat.zero_add Nat.add_zero Nat.add_assoc List.length_map List.headD_cons
attribute [go_sem] ne_eq imp_self Bool.not_eq_true' Bool.not_eq_false' Bool.and_self and_self
attribute [go_sem] eq_self not_false_eq_true and_true true_and List.length_cons List.length_nil List.getD_cons_zero List.getD_cons_succ List.getD_nil implies_true true_implies
@[go_sem]theorem size_lit{α:Type}{l:List α}:l.toArray.size=l.length:=rfl
attribute [go_sem] av List.map_cons List.map_nil
def sd_v{x:Value}:sd (.v x) = .v x:=rfl
def sd_agg{x:List D}:sd (.agg x) = .agg x:=rfl
def sd_list{f:Bool}{x:List (List D)}:sd (.list f x) = .list f x:=rfl
def sd_eptr{x:List D}:sd (.eptr x) = .eptr x:=rfl
def sd_mrow{a b c:Nat}:sd (.mrow a b c) = .mrow a b c:=rfl
def sd_mptr{a b c:Nat}:sd (.mptr a b c) = .mptr a b c:=rfl
def sd_fn{f:Fn}{a b:List D}:sd (.fn f a b) = .fn f a b:=rfl
def sd_tuple{a:List D}:sd (.tuple a) = .tuple a:=rfl
def sd_cond{g:Bool}{d:D}:sd (.cond g d)=d:=rfl
def sd_mp{r:Nat}:sd (.mp r) = .mp r:=rfl
def sd_fmap{kv:List D}:sd (.fmap kv) = .fmap kv:=rfl
def sg_mp{r:Nat}:sg (.mp r)=true:=rfl
def sg_fmap{kv:List D}:sg (.fmap kv)=true:=rfl
def sg_v{x:Value}:sg (.v x)=true:=rfl
def sg_agg{x:List D}:sg (.agg x)=true:=rfl
def sg_list{f:Bool}{x:List (List D)}:sg (.list f x)=true:=rfl
def sg_eptr{x:List D}:sg (.eptr x)=true:=rfl
def sg_mrow{a b c:Nat}:sg (.mrow a b c)=true:=rfl
def sg_mptr{a b c:Nat}:sg (.mptr a b c)=true:=rfl
def sg_fn{f:Fn}{a b:List D}:sg (.fn f a b)=true:=rfl
def sg_tuple{a:List D}:sg (.tuple a)=true:=rfl
def sg_cond{g:Bool}{d:D}:sg (.cond g d)=g:=rfl
attribute[go_sem]sd_v sd_agg sd_list sd_eptr sd_mrow sd_mptr sd_fn sd_tuple sd_cond sd_mp sd_fmap sg_mp sg_fmap sg_v sg_agg sg_list sg_eptr sg_mrow sg_mptr sg_fn sg_tuple sg_cond
attribute [go_sem] List.all_cons List.all_nil Bool.and_true Bool.true_and
def gval_v{b want:Bool}:gz (.v (.bool b)) want=(b==want):=rfl
def gval_c{g b want:Bool}:gz (.cond g (.v (.bool b))) want=(g&&(b==want)):=rfl
def gok_v{b:Bool}:jW (.v (.bool b))=true:=rfl
def gok_c{g b:Bool}:jW (.cond g (.v (.bool b)))=true:=rfl
attribute[go_sem]gval_v gval_c gok_v gok_c
attribute [go_sem] Option.elim beq_true beq_false
@[go_sem]theorem e_move [aa P]{g:Bool}{x:Operand}{d:D}{h:H}{b:Nat}:au P W C g (.move x) [d] h b=(sd d,h,(g=true->sg d=true)/\True):=by simp[au,dG,aH]
@[go_sem]theorem e_assign [aa P]{g:Bool}{x:Operand}{d:D}{h:H}{b:Nat}:au P W C g (.assign x) [d] h b=(sd d,h,(g=true->sg d=true)/\True):=by simp[au,dG,aH]
@[go_sem]theorem e_alloc [aa P]{g:Bool}{e:TypeId}{h:H}{b:Nat}:au P W C g (.alloc e) [] h b=(.mptr b 0 0,upd h b (some ⟨e,[zeroCells P e]⟩),(zeroCells P e).length=P.cellsOf e/\(zeroCells P e).all D.one=true/\0<P.cellsOf e):=by simp[au,dG,aH]
@[go_sem]theorem e_box [aa P]{g:Bool}{e:TypeId}{x:Operand}{d:D}{h:H}{b:Nat}:au P W C g (.box e x) [d] h b=(.mptr b 0 0,upd h b (some ⟨e,[(sd d).cells]⟩),(g=true->sg d=true)/\(sd d).cells.length=P.cellsOf e/\(sd d).cells.all D.one=true/\0<P.cellsOf e):=by simp[au,dG,aH]
@[go_sem]theorem e_build [aa P]{g:Bool}{t:TypeId}{ps:Array (Nat×Operand)}{xs:List D}{h:H}{b:Nat}:au P W C g (.build t ps) xs h b=((y8 P t ps.toList (xs.map sd)).1,h,(g=true->xs.all sg=true)/\(y8 P t ps.toList (xs.map sd)).2):=by simp[au,dG,aH,still]
@[go_sem]theorem Zii [aa P]{g:Bool}{t:TypeId}{n:Nat}{ps:Array (Nat×Operand)}{xs:List D}{h:H}{b:Nat}:au P W C g (.buildSlice t n ps) xs h b=if C.bs then((lL P t n ps.toList (xs.map sd) h b).1,(lL P t n ps.toList (xs.map sd) h b).2.1,(g=true->xs.all sg=true)/\(lL P t n ps.toList (xs.map sd) h b).2.2)else((vz P t n ps.toList (xs.map sd)).1,h,(g=true->xs.all sg=true)/\(vz P t n ps.toList (xs.map sd)).2):=by cases hb:C.bs<;>simp[au,dG,aH,still,hb]
@[go_sem]theorem e_load [aa P]{g:Bool}{t:TypeId}{x:Operand}{d:D}{h:H}{b:Nat}:au P W C g (.load t x) [d] h b=(qd P t (fU P (sd d) h),h,(g=true->sg d=true)/\P.cellsOf t<=(fU P (sd d) h).length/\0<P.cellsOf t/\(P.underlying t).isSome=true):=by simp[au,dG,aH,still,jd]
@[go_sem]theorem e_store [aa P]{g:Bool}{t:TypeId}{x y:Operand}{d d':D}{h:H}{b:Nat}:au P W C g (.store t x y) [d,d'] h b=(.v undef,(fO P t (sd d) (sd d') h).1,(g=true->(sg d&&sg d')=true)/\(fO P t (sd d) (sd d') h).2):=by simp[au,dG,aH]
@[go_sem]theorem Zh9 [aa P]{g:Bool}{x:Operand}{d:D}{h:H}{b:Nat}:au P W C g (.nilCheck x) [d] h b=(sd d,h,(g=true->sg d=true)/\rH (sd d)=true):=by simp[au,dG,aH]
@[go_sem]theorem e_binOp [aa P]{g:Bool}{op:BinOp}{t u:TypeId}{x y:Operand}{d d':D}{h:H}{b:Nat}:au P W C g (.binOp op t x y u) [d,d'] h b=((lM P t op (sd d) (sd d')).1,h,(g=true->(sg d&&sg d')=true)/\(lM P t op (sd d) (sd d')).2):=by simp[au,dG,aH,still]
@[go_sem]theorem e_unOp [aa P]{g:Bool}{op:UnOp}{t:TypeId}{x:Operand}{d:D}{h:H}{b:Nat}:au P W C g (.unOp op t x) [d] h b=((uj op (sd d)).1,h,(g=true->sg d=true)/\(uj op (sd d)).2):=by simp[au,dG,aH,still]
@[go_sem]theorem Zih [aa P]{g:Bool}{s t:TypeId}{x:Operand}{d:D}{h:H}{b:Nat}:au P W C g (.convert s t x) [d] h b=((vg P s t (sd d)).1,h,(g=true->sg d=true)/\(vg P s t (sd d)).2):=by simp[au,dG,aH,still]
@[go_sem]theorem Zid [aa P]{g:Bool}{f:Fn}{a c:Array Operand}{xs:List D}{h:H}{b:Nat}:au P W C g (.makeFunc f a c) xs h b=(.fn f ((xs.map sd).take a.size) ((xs.map sd).drop a.size),h,(g=true->xs.all sg=true)/\True):=by simp[au,dG,aH]
@[go_sem]theorem e_slice [aa P]{g:Bool}{t:TypeId}{x:Operand}{l hi m:Option Operand}{d:D}{xs:List D}{h:H}{b:Nat}:au P W C g (.slice t x l hi m) (d::xs) h b =
  ((mR P t (sd d) (iE l (xs.map sd)).1 (iE hi (iE l (xs.map sd)).2).1 (iE m (iE hi (iE l (xs.map sd)).2).2).1 h).1,h,(g=true->(sg d&&xs.all sg)=true)/\(mR P t (sd d) (iE l (xs.map sd)).1 (iE hi (iE l (xs.map sd)).2).1 (iE m (iE hi (iE l (xs.map sd)).2).2).1 h).2):=by simp[au,dG,aH,still]
@[go_sem]theorem Zif [aa P]{g:Bool}{t:TypeId}{x:Operand}{f:Nat}{d:D}{h:H}{b:Nat}:au P W C g (.fieldAddr t x f) [d] h b=((tJ P t f (sd d)).1,h,(g=true->sg d=true)/\(tJ P t f (sd d)).2):=by simp[au,dG,aH,still]
@[go_sem]theorem Zie [aa P]{g:Bool}{t:TypeId}{x y:Operand}{d d':D}{h:H}{b:Nat}:au P W C g (.indexAddr t x y) [d,d'] h b=((eF P t (sd d) (sd d') h).1,h,(g=true->(sg d&&sg d')=true)/\(eF P t (sd d) (sd d') h).2):=by simp[au,dG,aH,still]
@[go_sem]theorem e_index [aa P]{g:Bool}{t:TypeId}{x y:Operand}{d d':D}{h:H}{b:Nat}:au P W C g (.index t x y) [d,d'] h b=((uK P t (sd d) (sd d')).1,h,(g=true->(sg d&&sg d')=true)/\(uK P t (sd d) (sd d')).2):=by simp[au,dG,aH,still]
@[go_sem]theorem Zig [aa P]{g:Bool}{x:Operand}{i:Nat}{ds:List D}{h:H}{b:Nat}:au P W C g (.extract x i) [.tuple ds] h b=(ds.getD i .junk,h,i<ds.length):=by simp[au,dG,aH,sd,sg]
@[go_sem]theorem e_len [aa P]{g:Bool}{args:Array Operand}{t:TypeId}{d:D}{h:H}{b:Nat}:au P W C g (.call { callee:=.builtin .len,args:=args,argTypes:=#[t] }) [d] h b=(.v (.int .i64 (bq (sd d))),h,(g=true->sg d=true)/\sQ P t (sd d)=true):=by simp[au,dG,aH]
@[go_sem]theorem e_append [aa P]{g:Bool}{args:Array Operand}{t u:TypeId}{d d':D}{h:H}{b:Nat}:au P W C g (.call { callee:=.builtin .append,args:=args,argTypes:=#[t,u] }) [d,d'] h b=((dR P t u (sd d) (sd d') h b).1,(dR P t u (sd d) (sd d') h b).2.1,(g=true->(sg d&&sg d')=true)/\(dR P t u (sd d) (sd d') h b).2.2):=by simp[au,dG,aH]
@[go_sem]theorem e_call [aa P]{g:Bool}{f:Operand}{args:Array Operand}{ts:Array TypeId}{xs:List D}{h:H}{b:Nat}:au P W C g (.call { callee:=.value f,args:=args,argTypes:=ts }) xs h b=((eT W C f (xs.map sd) h b).1,(eT W C f (xs.map sd) h b).2.1,(g=true->xs.all sg=true)/\(eT W C f (xs.map sd) h b).2.2):=by simp[au,dG,aH]
@[go_sem]theorem Zic [aa P]{g:Bool}{t:TypeId}{r:Option Operand}{xs:List D}{h:H}{b:Nat}:au P W C g (.makeMap t r) xs h b=(.mp b,upd h b (some ⟨t,iT []⟩),(g=true->xs.all sg=true)/\(lu P t).isSome=true/\P.cellsOf t=1/\EL (xs.map sd)=true):=by simp[au,dG,aH,wR]
@[go_sem]theorem Zia [aa P]{g:Bool}{t:TypeId}{x y z:Operand}{m k d:D}{h:H}{b:Nat}:au P W C g (.mapUpdate t x y z) [m,k,d] h b=(.v undef,(kV P t (sd m) (sd k) (sd d) h).1,(g=true->(sg m&&(sg k&&sg d))=true)/\(kV P t (sd m) (sd k) (sd d) h).2):=by simp[au,dG,aH]
@[go_sem]theorem e_insert [aa P]{g:Bool}{t:TypeId}{x y z:Operand}{m k d:D}{h:H}{b:Nat}:au P W C g (.insert t x y z) [m,k,d] h b=(.v undef,(kV P t (sd m) (sd k) (sd d) h).1,(g=true->(sg m&&(sg k&&sg d))=true)/\(kV P t (sd m) (sd k) (sd d) h).2):=by simp[au,dG,aH]
@[go_sem]theorem e_lookup [aa P]{g ok:Bool}{t:TypeId}{x y:Operand}{m k:D}{h:H}{b:Nat}:au P W C g (.lookup t x y ok) [m,k] h b=((lv P t ok (sd m) (sd k) h).1,h,(g=true->(sg m&&sg k)=true)/\(lv P t ok (sd m) (sd k) h).2):=by simp[au,dG,aH,still]
@[go_sem]theorem Zib [aa P]{g:Bool}{t:TypeId}{x y:Operand}{d d':D}{h:H}{b:Nat}:au P W C g (.makeSlice t x y) [d,d'] h b=((jo P t h b (sd d) (sd d')).1,(jo P t h b (sd d) (sd d')).2.1,(g=true->(sg d&&sg d')=true)/\(jo P t h b (sd d) (sd d')).2.2):=by simp[au,dG,aH]
@[go_sem]theorem mkSl_i [aa P]{t:TypeId}{h:H}{b:Nat}{k k':IntKind}{n m:Int}:jo P t h b (.v (.int k n)) (.v (.int k' m))=(match aZ P t with
  | some e=>(.mrow b 0 n.toNat,upd h b (some ⟨e,List.replicate n.toNat (zeroCells P e)⟩),n<=m/\0<=n/\P.bytesOf e*m<=281474976710656/\m<=9223372036854775807/\dJ P e=true/\(zeroCells P e).length=P.cellsOf e/\(zeroCells P e).all D.one=true/\0<P.cellsOf e)
  | none=>(.junk,h,False)):=rfl
@[go_sem]theorem Zhw{t:TypeId}{x y:Operand}{ok:Bool}:(bA C (.lookup t x y ok) = .writes)=False:=by simp[bA]
def ZhU:EL []=true:=rfl
def ZhV{k:IntKind}{n:Int}:EL [.v (.int k n)]=true:=rfl
attribute[go_sem]ZhU ZhV
@[go_sem]theorem ZgM [aa P]{t:TypeId}{r:Nat}{k d:D}{h:H}:kV P t (.mp r) k d h=(match lu P t with
 | some (kt,_)=>match h r with
  | some bl=>match iF bl with
   | some kv=>(upd h r (some ⟨bl.ty,iT (jq kv k d)⟩),jv P kt k=true/\lC P kt kv=true/\nJ P kt=true)
   | none=>(h,False)
  | none=>(h,False)
 | _=>(h,False)):=by unfold kV;cases lu P t<;>rfl
@[go_sem]theorem lookD_eq [aa P]{t:TypeId}{ok:Bool}{m k:D}{h:H}:lv P t ok m k h=(match lu P t with
 | some (kt,e)=>match qj h m with
  | some kv=>(if ok then .tuple [(jr kv k).getD (vM P e),.b (jr kv k).isSome]else(jr kv k).getD (vM P e),jv P kt k=true/\lC P kt kv=true/\nJ P kt=true/\E9 P e=true)
  | none=>(.junk,False)
 | _=>(.junk,False)):=by unfold lv;cases lu P t<;>cases qj h m<;>rfl
@[go_sem]theorem kvH_fmap{h:H}{kv:List D}:qj h (.fmap kv)=some kv:=rfl
@[go_sem]theorem kvH_mp{h:H}{r:Nat}:qj h (.mp r)=(match h r with|some bl=>iF bl|none=>none):=by show(h r).bind iF=_;cases h r<;>rfl
def kvB_rows{t:TypeId}{kv:List D}:iF ⟨t,iT kv⟩=some kv:=rfl
def bv_v{b:Bool}:bv (.v (.bool b))=b:=rfl
def isB_v{b:Bool}:uI (.v (.bool b))=true:=rfl
attribute[go_sem]kvB_rows bv_v isB_v
@[go_sem]theorem e_pick [aa P]{g:Bool}{x y z:Operand}{c a b:D}{h:H}{n:Nat} :
  au P W C g (.pick x y z) [c,a,b] h n=(.v (.bool (bif bv (sd c)then bv (sd a)else bv (sd b))),h,(g=true->(sg c=true/\uI (sd c)=true)/\(bv (sd c)=true->sg a=true/\uI (sd a)=true)/\(bv (sd c)=false->sg b=true/\uI (sd b)=true))):=rfl
attribute [go_sem] cond_true cond_false
@[go_sem]theorem nw_move{x:Operand}:(bA C (.move x) = .writes)=False:=by simp[bA]
@[go_sem]theorem nw_load{t:TypeId}{x:Operand}:(bA C (.load t x) = .writes)=False:=by simp[bA]
@[go_sem]theorem nw_binOp{op:BinOp}{t u:TypeId}{x y:Operand}:(bA C (.binOp op t x y u) = .writes)=False:=by simp[bA]
@[go_sem]theorem nw_unOp{op:UnOp}{t:TypeId}{x:Operand}:(bA C (.unOp op t x) = .writes)=False:=by simp[bA]
@[go_sem]theorem Zhy{t:TypeId}{x:Operand}{f:Nat}:(bA C (.fieldAddr t x f) = .writes)=False:=by simp[bA]
@[go_sem]theorem Zhx{t:TypeId}{x y:Operand}:(bA C (.indexAddr t x y) = .writes)=False:=by simp[bA]
@[go_sem]theorem nw_index{t:TypeId}{x y:Operand}:(bA C (.index t x y) = .writes)=False:=by simp[bA]
@[go_sem]theorem nw_pick{x y z:Operand}:(bA C (.pick x y z) = .writes)=False:=by simp[bA]
@[go_sem]theorem nw_slice{t:TypeId}{x:Operand}{a b c:Option Operand}:(bA C (.slice t x a b c) = .writes)=False:=by simp[bA]
@[go_sem]theorem Zhv{x:Operand}:(bA C (.nilCheck x) = .writes)=False:=by simp[bA]
@[go_sem]theorem nw_build{t:TypeId}{ps:Array (Nat×Operand)}:(bA C (.build t ps) = .writes)=False:=by simp[bA]
@[go_sem]theorem Zhz{t:TypeId}{n:Nat}{ps:Array (Nat×Operand)}:(bA C (.buildSlice t n ps) = .writes)=(C.bs=true):=by cases hb:C.bs<;>simp[bA,hb]
@[go_sem]theorem nw_len{args:Array Operand}{ts:Array TypeId}:(bA C (.call { callee:=.builtin .len,args:=args,argTypes:=ts }) = .writes)=False:=by simp[bA]
@[go_sem]theorem nw_call{f:Operand}{args:Array Operand}{ts:Array TypeId}:(bA C (.call { callee:=.value f,args:=args,argTypes:=ts }) = .writes)=False:=by
 cases h:C.cf<;>simp[bA,BU,h]
@[go_sem]theorem bif_or{c b:Bool}:(bif c then true else b)=(c||b):=by cases c<;>rfl
@[go_sem]theorem bif_and{c b:Bool}:(bif c then b else false)=(c&&b):=by cases c<;>rfl
def ZiN{cs:List D}:D.cells (.agg cs)=cs:=rfl
def cells_v{x:Value}:D.cells (.v x)=[.v x]:=rfl
def ZiK{f:Bool}{x:List (List D)}:D.cells (.list f x)=[.list f x]:=rfl
def ZiI{a b c:Nat}:D.cells (.mrow a b c)=[.mrow a b c]:=rfl
def ZiJ{a b c:Nat}:D.cells (.mptr a b c)=[.mptr a b c]:=rfl
def ZiM{a:List D}:D.cells (.eptr a)=[.eptr a]:=rfl
def cells_fn{f:Fn}{a b:List D}:D.cells (.fn f a b)=[.fn f a b]:=rfl
def one_int{k:IntKind}{n:Int}:D.one (.v (.int k n))=true:=rfl
def one_bool{b:Bool}:D.one (.v (.bool b))=true:=rfl
def Zhp{b:ByteArray}:D.one (.v (.string b))=true:=rfl
def Zhr:D.one (.v .nilFunc)=true:=rfl
def Zhq:D.one (.v .nilIface)=true:=rfl
def one_list{f:Bool}{x:List (List D)}:D.one (.list f x)=true:=rfl
def one_mrow{a b c:Nat}:D.one (.mrow a b c)=true:=rfl
def one_mptr{a b c:Nat}:D.one (.mptr a b c)=true:=rfl
def one_eptr{a:List D}:D.one (.eptr a)=true:=rfl
def one_fn{f:Fn}{a b:List D}:D.one (.fn f a b)=true:=rfl
def ldc_eptr [aa P]{cs:List D}{h:H}:fU P (.eptr cs) h=cs:=rfl
def ldc_mptr [aa P]{r i off:Nat}{h:H}:fU P (.mptr r i off) h=match h r with|some b=>(b.rows.getD i []).drop off|none=>[]:=rfl
def ldD_eq [aa P]{t:TypeId}{a:D}{h:H}:jd P t a h=(qd P t (fU P a h),P.cellsOf t<=(fU P a h).length/\0<P.cellsOf t/\(P.underlying t).isSome=true):=rfl
attribute[go_sem]ZiN cells_v ZiK ZiI ZiJ ZiM cells_fn one_int one_bool Zhp Zhr Zhq one_list one_mrow one_mptr one_eptr one_fn ldc_eptr ldc_mptr ldD_eq
theorem Zb5 [aa P]{x o:Nat}{h:H}:fU P (.v (.pointer (some ⟨x,o,none⟩))) h=match aa.tab P x with|some cs=>(cs.drop o).map D.v|none=>[]:=rfl
@[go_sem]theorem ZhG{r i off:Nat}{h:H}:eD (.mptr r i off) h=match h r with|some b=>(b.rows.getD i []).drop off|none=>[]:=rfl
attribute [go_sem] qd tJ yV splice
def Zhk{n:Nat}{cs:List D}:sK n (.eptr cs) = .eptr (cs.drop n):=rfl
def Zhj{n r i off:Nat}:sK n (.mptr r i off) = .mptr r i (off+n):=rfl
attribute[go_sem]Zhk Zhj
@[go_sem]theorem Zhi{n x o:Nat}:sK n (.v (.pointer (some ⟨x,o,none⟩))) = .v (.pointer (some ⟨x,o+n,none⟩)):=by simp only[sK,kT]
def ZhL{cs:List D}:rH (.eptr cs)=true:=rfl
def ZhK{r i off:Nat}:rH (.mptr r i off)=true:=rfl
attribute[go_sem]ZhL ZhK
@[go_sem]theorem stH_mptr [aa P]{t:TypeId}{r i off:Nat}{x:D}{h:H}:fO P t (.mptr r i off) x h=match h r with
  | some b=>(upd h r (some { b with rows:=b.rows.set i (splice (b.rows.getD i []) off x.cells) }),x.cells.length=P.cellsOf t/\0<P.cellsOf t/\i<b.rows.length/\off+x.cells.length<=(b.rows.getD i []).length/\x.cells.all D.one=true)
  | none=>(h,False):=rfl
@[go_sem]theorem ZhZ [aa P]{t:TypeId}{f:Bool}{rows:List (List D)}{k:IntKind}{n:Int}{h:H}:eF P t (.list f rows) (.v (.int k n)) h=match aZ P t with
  | none=>ql P t (.list f rows) (.v (.int k n))
  | some e=>(.eptr (rows.getD n.toNat []),0<=n/\n<rows.length/\0<P.cellsOf e/\(rows.getD n.toNat []).length=P.cellsOf e):=by unfold eF;cases aZ P t<;>rfl
@[go_sem]theorem ZhX [aa P]{t:TypeId}{r off len:Nat}{k:IntKind}{n:Int}{h:H}:eF P t (.mrow r off len) (.v (.int k n)) h=match aZ P t with
  | none=>ql P t (.mrow r off len) (.v (.int k n))
  | some e=>(.mptr r (off+n.toNat) 0,0<=n/\n<len/\0<P.cellsOf e/\match h r with|some bl=>bl.ty=e|none=>False):=by unfold eF;cases aZ P t<;>rfl
@[go_sem]theorem ZhW [aa P]{t:TypeId}{p:Option Addr}{k:IntKind}{n:Int}{h:H}:eF P t (.v (.pointer p)) (.v (.int k n)) h=match aZ P t with
  | none=>ql P t (.v (.pointer p)) (.v (.int k n))
  | some _=>(.junk,False):=by unfold eF;cases aZ P t<;>rfl
def isGp_ptr{p:Addr}:wV (.v (.pointer (some p)))=true:=rfl
def ZhS{r i off:Nat}:wV (.mptr r i off)=true:=rfl
attribute[go_sem]isGp_ptr ZhS
@[go_sem]theorem ZhY [aa P]{t:TypeId}{r i off:Nat}{k:IntKind}{n:Int}{h:H}:eF P t (.mptr r i off) (.v (.int k n)) h=match aZ P t with
  | none=>ql P t (.mptr r i off) (.v (.int k n))
  | some _=>(.junk,False):=by unfold eF;cases aZ P t<;>rfl
@[go_sem]theorem Zh0 [aa P]{t:TypeId}{x:D}{k:IntKind}{n:Int}:ql P t x (.v (.int k n))=match lQ P t with
  | some (m,e)=>(sK (n.toNat*P.cellsOf e) x,wV x=true/\0<=n/\n<m/\0<P.cellsOf e)
  | none=>(.junk,False):=by unfold ql;cases lQ P t<;>rfl
def Zhh{f:Bool}{rows:List (List D)}{h:H}:aj (.list f rows) h=rows:=rfl
def Zhg{r off len:Nat}{h:H}:aj (.mrow r off len) h=match h r with|some b=>(b.rows.drop off).take len|none=>[]:=rfl
def ZhF{f:Bool}{rows:List (List D)}:bq (.list f rows)=rows.length:=rfl
def ZhE{r off len:Nat}:bq (.mrow r off len)=len:=rfl
def ZhD{s:ByteArray}:bq (.v (.string s))=s.size:=rfl
def ZhC [aa P]{t:TypeId}{f:Bool}{rows:List (List D)}:sQ P t (.list f rows)=(aZ P t).isSome:=rfl
def ZhB [aa P]{t:TypeId}{r off len:Nat}:sQ P t (.mrow r off len)=(aZ P t).isSome:=rfl
def ZhA [aa P]{t:TypeId}{s:ByteArray}:sQ P t (.v (.string s))=match P.underlying t with|some .string=>true|_=>false:=rfl
attribute[go_sem]Zhh Zhg ZhF ZhE ZhD ZhC ZhB ZhA
attribute [go_sem] Option.isSome_some
def ZgR [aa P]{t:TypeId}{h:H}{f:Bool}{rows:List (List D)}:fG P t h (.list f rows)=(aZ P t).isSome:=rfl
def ZgQ [aa P]{t:TypeId}{h:H}{r off len:Nat}:fG P t h (.mrow r off len)=((aZ P t).isSome&&(h r).isSome):=rfl
def ZgP [aa P]{t:TypeId}{h:H}{s:ByteArray}:fG P t h (.v (.string s))=match P.underlying t with|some .string=>true|_=>false:=rfl
attribute[go_sem]ZgR ZgQ ZgP
@[go_sem]theorem Zi1 [aa P]{t u:TypeId}{rows:List (List D)}{y:D}{h:H}{b:Nat}:dR P t u (.list true rows) y h b=match aZ P t with
  | none=>(.junk,h,False)
  | some e=>(.mrow b 0 (rows.length+(aj y h).length),upd h b (some ⟨e,rows++aj y h⟩),(0<P.cellsOf e/\(rows.length+(aj y h).length)*P.bytesOf e<=140737488355328/\rows.length+(aj y h).length<=9223372036854775807) /\
    ((aj y h).length=bq y/\fG P u h y=true/\dJ P e=true /\ ∀r∈aj y h,r.length=P.cellsOf e)/\(aj y h=[]->rows=[]) /\ ∀r∈rows,r.length=P.cellsOf e):=by
 unfold dR;cases aZ P t<;>rfl
@[go_sem]theorem Zgj [aa P]{t u:TypeId}{r n:Nat}{y:D}{h:H}{b:Nat}:dR P t u (.mrow r 0 n) y h b=match aZ P t with
  | none=>(.junk,h,False)
  | some e=>match h r with
   | none=>(.junk,h,False)
   | some bl=>(.mrow b 0 (n+(aj y h).length),upd (upd h r none) b (some ⟨e,bl.rows++aj y h⟩),(0<P.cellsOf e/\(n+(aj y h).length)*P.bytesOf e<=140737488355328/\n+(aj y h).length<=9223372036854775807) /\
    ((aj y h).length=bq y/\fG P u h y=true/\dJ P e=true /\ ∀r∈aj y h,r.length=P.cellsOf e)/\bl.ty=e/\bl.rows.length=n/\r≠b):=by
 unfold dR;cases aZ P t with
 | none=>rfl
 | some e=>cases hr:h r with
  | none=>simp only[hr]
  | some bl=>simp only[bq,hr]
attribute [go_sem] y8 uU tH vz lL uu
def binD_v [aa P]{t:TypeId}{op:BinOp}{a b:Value}:lM P t op (.v a) (.v b)=(.v (dP P t op a b).1,(dP P t op a b).2):=rfl
def binV_lss [aa P]{t:TypeId}{k k':IntKind}{a b:Int}:dP P t .lss (.int k a) (.int k' b)=(.bool (decide (a<b)),k=k'):=rfl
def binV_leq [aa P]{t:TypeId}{k k':IntKind}{a b:Int}:dP P t .leq (.int k a) (.int k' b)=(.bool (decide (a<=b)),k=k'):=rfl
def binV_gtr [aa P]{t:TypeId}{k k':IntKind}{a b:Int}:dP P t .gtr (.int k a) (.int k' b)=(.bool (decide (b<a)),k=k'):=rfl
def binV_geq [aa P]{t:TypeId}{k k':IntKind}{a b:Int}:dP P t .geq (.int k a) (.int k' b)=(.bool (decide (b<=a)),k=k'):=rfl
def binV_eql [aa P]{t:TypeId}{k k':IntKind}{a b:Int}:dP P t .eql (.int k a) (.int k' b)=(.bool (a==b),k=k'):=rfl
def binV_neq [aa P]{t:TypeId}{k k':IntKind}{a b:Int}:dP P t .neq (.int k a) (.int k' b)=(.bool (a != b),k=k'):=rfl
def binV_add [aa P]{t:TypeId}{k k':IntKind}{a b:Int}:dP P t .add (.int k a) (.int k' b)=if k.signed then(.int k (a+b),k=k'/\jT k (a+b))else(.int k (k.wrap (a+b)),k=k'):=rfl
def binV_sub [aa P]{t:TypeId}{k k':IntKind}{a b:Int}:dP P t .sub (.int k a) (.int k' b)=if k.signed then(.int k (a-b),k=k'/\jT k (a-b))else(.int k (k.wrap (a-b)),k=k'):=rfl
def binV_mul [aa P]{t:TypeId}{k k':IntKind}{a b:Int}:dP P t .mul (.int k a) (.int k' b)=if k.signed then(.int k (a*b),k=k'/\jT k (a*b))else(.int k (k.wrap (a*b)),k=k'):=rfl
def binV_quo [aa P]{t:TypeId}{k k':IntKind}{a b:Int}:dP P t .quo (.int k a) (.int k' b)=(.int k (a / b),k=k'/\0<=a/\1<=b/\jT k a):=rfl
def binV_rem [aa P]{t:TypeId}{k k':IntKind}{a b:Int}:dP P t .rem (.int k a) (.int k' b)=(.int k (a % b),k=k'/\0<=a/\1<=b):=rfl
def binV_eqb [aa P]{t:TypeId}{a b:Bool}:dP P t .eql (.bool a) (.bool b)=(.bool (a==b),P.underlying t=some .bool):=rfl
def binV_eqs [aa P]{t:TypeId}{a b:ByteArray}:dP P t .eql (.string a) (.string b)=(.bool (a.data.toList==b.data.toList),True):=rfl
def binV_nes [aa P]{t:TypeId}{a b:ByteArray}:dP P t .neq (.string a) (.string b)=(.bool (a.data.toList != b.data.toList),True):=rfl
def Zi0 [aa P]{t:TypeId}{a b:ByteArray}:dP P t .add (.string a) (.string b)=(.string (a++b),a.size+b.size<=9223372036854775807):=rfl
def ZiW [aa P]{t:TypeId}{a b:ByteArray}:dP P t .lss (.string a) (.string b)=(.bool (Go.Op.bytesLess a.data.toList b.data.toList),True):=rfl
def ZiX [aa P]{t:TypeId}{a b:ByteArray}:dP P t .gtr (.string a) (.string b)=(.bool !(Go.Op.bytesLess a.data.toList b.data.toList||a.data.toList==b.data.toList),True):=rfl
def binV_shl [aa P]{t:TypeId}{k k':IntKind}{a b:Int}:dP P t .shl (.int k a) (.int k' b)=(.int k (k.wrap (a*2^(min b.toNat k.bits))),0<=b):=rfl
def binV_shr [aa P]{t:TypeId}{k k':IntKind}{a b:Int}:dP P t .shr (.int k a) (.int k' b)=(.int k (a.fdiv (2^(min b.toNat k.bits))),0<=b):=rfl
def binV_or [aa P]{t:TypeId}{k k':IntKind}{a b:Int}:dP P t .or (.int k a) (.int k' b)=(.int k (k.wrap (BitVec.ofInt k.bits a ||| BitVec.ofInt k.bits b).toNat),k=k'):=rfl
attribute[go_sem]binD_v binV_lss binV_leq binV_gtr binV_geq binV_eql binV_neq binV_add binV_sub binV_mul binV_quo binV_rem binV_eqb binV_eqs binV_nes Zi0 ZiW ZiX binV_shl binV_shr binV_or
def Gy(k:IntKind)(a b:Int):Int:=k.wrap (BitVec.ofInt k.bits a ^^^ BitVec.ofInt k.bits b).toNat
@[go_sem]theorem binV_xor [aa P]{t:TypeId}{k k':IntKind}{a b:Int}:dP P t .xor (.int k a) (.int k' b)=(.int k (Gy k a b),k=k'):=rfl
def wL(k:IntKind)(a b:Int):Int:=k.wrap (BitVec.ofInt k.bits a ||| BitVec.ofInt k.bits b).toNat
def zb(k:IntKind)(a b:Int):Int:=k.wrap (BitVec.ofInt k.bits a &&& BitVec.ofInt k.bits b).toNat
def CZ(k:IntKind)(a b:Int):Int:=k.wrap (BitVec.ofInt k.bits a &&& ~~~BitVec.ofInt k.bits b).toNat
def binD_eq [aa P]{t:TypeId}{xs ys:List D}:lM P t .eql (.agg xs) (.agg ys)=(.v (.bool (lH xs ys)),match rV P t with|some ks=>nR ks xs ys=true|none=>False):=rfl
def binD_ne [aa P]{t:TypeId}{xs ys:List D}:lM P t .neq (.agg xs) (.agg ys)=(.v (.bool (!lH xs ys)),match rV P t with|some ks=>nR ks xs ys=true|none=>False):=rfl
attribute[go_sem]binD_eq binD_ne
attribute [go_sem] lH nR
def eqCell_i{k k':IntKind}{a b:Int}:lI (.v (.int k a)) (.v (.int k' b))=(a==b):=rfl
def eqCell_s{a b:ByteArray}:lI (.v (.string a)) (.v (.string b))=(a.data.toList==b.data.toList):=rfl
def Zhm{k k':IntKind}{a b:Int}:xZ .i (.v (.int k a)) (.v (.int k' b))=(k==k'):=rfl
def Zhl{a b:ByteArray}:xZ .s (.v (.string a)) (.v (.string b))=true:=rfl
def Zhb:IntKind.i64.signed=true:=rfl
def Zha:IntKind.u64.signed=false:=rfl
attribute[go_sem]eqCell_i eqCell_s Zhm Zhl Zhb Zha
@[go_sem]theorem inK_i64{n:Int}:jT .i64 n=(-9223372036854775808<=n/\n<=9223372036854775807):=by simp[jT,IntKind.min,IntKind.max,IntKind.signed,IntKind.bits]
@[go_sem]theorem unD_not{b:Bool}:uj .not (.v (.bool b))=(.v (.bool !b),True):=rfl
attribute [go_sem] vg
def idxV_s [aa P]{t:TypeId}{s:ByteArray}{k:IntKind}{n:Int}:uK P t (.v (.string s)) (.v (.int k n))=(.v (.int .u8 (s.data.toList.getD n.toNat 0).toNat),0<=n/\n<s.size/\P.underlying t=some .string):=rfl
def bnd_none{d:Nat}:bnd none d=d:=rfl
def bnd_some{d:Nat}{k:IntKind}{n:Int}:bnd (some (.v (.int k n))) d=n:=rfl
def ZiU:y9 none=true:=rfl
def ZiT{k:IntKind}{n:Int}:y9 (some (.v (.int k n)))=true:=rfl
attribute[go_sem]idxV_s bnd_none bnd_some ZiU ZiT
attribute [go_sem] Option.toList_some Option.toList_none iE mR
attribute [go_sem] jC
def wk_v{x:Value}:wk (.v x) = .v x:=rfl
def wk_agg{cs:List D}:wk (.agg cs) = .agg (dV cs):=rfl
def wk_list{f:Bool}{rows:List (List D)}:wk (.list f rows) = .list false (dK rows):=rfl
def wk_eptr{cs:List D}:wk (.eptr cs) = .eptr (dV cs):=rfl
def wk_tuple{cs:List D}:wk (.tuple cs) = .tuple (dV cs):=rfl
def wk_mrow{a b c:Nat}:wk (.mrow a b c) = .mrow a b c:=rfl
def wk_mptr{a b c:Nat}:wk (.mptr a b c) = .mptr a b c:=rfl
def wk_fn{f:Fn}{a b:List D}:wk (.fn f a b) = .fn f a b:=rfl
def wk_fmap{kv:List D}:wk (.fmap kv) = .fmap (dV kv):=rfl
def ZiE{kv:List D}{h:H}:qz h (.fmap kv) = .fmap kv:=rfl
def Ziz{kv:List D}{h:H}:pE h (.fmap kv)=True:=rfl
attribute[go_sem]wk_v wk_agg wk_list wk_eptr wk_tuple wk_mrow wk_mptr wk_fn wk_fmap ZiE Ziz
@[go_sem]theorem ZgW{h:H}{k:Nat}{x:List D}:ed h k (.fmap x) = .fmap x:=by cases k<;>rfl
@[go_sem]theorem Zg3{h:H}{k:Nat}{x:List D}:d9 h k (.fmap x)=(bV x=true):=by cases k<;>rfl
attribute [go_sem] dV dK
def Zil{f:Bool}{rows:List (List D)}{h:H}:deref h (.list f rows) = .list f rows:=rfl
def deref_v{x:Value}{h:H}:deref h (.v x) = .v x:=rfl
def Zin{x:List D}{h:H}:deref h (.agg x) = .agg x:=rfl
def deref_fn{f:Fn}{a b:List D}{h:H}:deref h (.fn f a b) = .fn f (a.map (uZ h)) (b.map (uZ h)):=rfl
def Zik{a b c:Nat}{h:H}:deref h (.mptr a b c) = .eptr ((eD (.mptr a b c) h).map (qz h)):=rfl
def ZiB{a b c:Nat}{h:H}:uZ h (.mptr a b c) = .eptr ((eD (.mptr a b c) h).map (qz h)):=rfl
def ZiC{x:List D}{h:H}:uZ h (.eptr x) = .eptr x:=rfl
def deref0_v{x:Value}{h:H}:qz h (.v x) = .v x:=rfl
def ZiD{f:Bool}{rows:List (List D)}{h:H}:qz h (.list f rows) = .list f rows:=rfl
def Zim{x:List D}{h:H}:deref h (.eptr x) = .eptr x:=rfl
def ZhQ{x:List D}:iG (.eptr x)=false:=rfl
def Zit{x:List D}{h:H}:jD h (.eptr x)=True:=rfl
def Zij{a b c:Nat}{h:H}:deref h (.mrow a b c) = .list false (aj (.mrow a b c) h):=rfl
def ZhO{f:Bool}{rows:List (List D)}:iG (.list f rows)=false:=rfl
def isMrow_v{x:Value}:iG (.v x)=false:=rfl
def ZhR{x:List D}:iG (.agg x)=false:=rfl
def ZhP{f:Fn}{a b:List D}:iG (.fn f a b)=(a.any wU||b.any wU):=rfl
def ZhN{a b c:Nat}:iG (.mptr a b c)=true:=rfl
def ZhI{a b c:Nat}:wU (.mptr a b c)=true:=rfl
def ZhJ{x:List D}:wU (.eptr x)=false:=rfl
def ZhM{a b c:Nat}:iG (.mrow a b c)=true:=rfl
def Zir{f:Bool}{rows:List (List D)}{h:H}:jD h (.list f rows)=True:=rfl
def Zio{x:Value}{h:H}:jD h (.v x)=True:=rfl
def Ziu{x:List D}{h:H}:jD h (.agg x)=True:=rfl
def Zis{f:Fn}{a b:List D}{h:H}:jD h (.fn f a b)=((∀c∈a,uY h c) /\ ∀c∈b,uY h c):=rfl
def Ziq{r i off:Nat}{h:H}:jD h (.mptr r i off)=((h r).isSome=true /\ ∀c∈eD (.mptr r i off) h,pE h c):=rfl
def Ziv{r i off:Nat}{h:H}:uY h (.mptr r i off)=((h r).isSome=true /\ ∀c∈eD (.mptr r i off) h,pE h c):=rfl
def Ziw{x:List D}{h:H}:uY h (.eptr x)=True:=rfl
def Zix{x:Value}{h:H}:pE h (.v x)=True:=rfl
def Ziy{f:Bool}{rows:List (List D)}{h:H}:pE h (.list f rows)=True:=rfl
def Zip{r off len:Nat}{h:H}:jD h (.mrow r off len)=((h r).isSome=true/\(aj (.mrow r off len) h).length=len):=rfl
attribute[go_sem]Zil deref_v Zin deref_fn Zik ZiB ZiC deref0_v ZiD Zim ZhQ Zit Zij ZhO isMrow_v ZhR ZhP ZhN ZhI ZhJ ZhM Zir Zio Ziu Zis Ziq Ziv Ziw Zix Ziy Zip
attribute [go_sem] List.any_cons List.any_nil Bool.or_false Bool.or_true Bool.false_or Bool.true_or
@[go_sem]theorem ZiO{k:FuncId}{d:D}{ys:List D}{h:H}{b:Nat}:eT W C (.func k) (d::ys) h b=if C.pure k then
   (if C.cf then(C.pf k (ys.map wk),h,W.pureCt k (ys.map wk) (C.pf k (ys.map wk))/\ys.any iG=false)
   else if C.dp then(C.pf k (ys.map (pR h)),h,W.pureCt k (ys.map (pR h)) (C.pf k (ys.map (pR h)))/\flat (C.pf k (ys.map (pR h)))=true /\ ∀y∈ys,d9 h 5 y)
   else(C.pf k (ys.map (jC h)),h,W.pureCt k (ys.map (jC h)) (C.pf k (ys.map (jC h)))/\(ys.any iG=true->flat (C.pf k (ys.map (jC h)))=true /\ ∀y∈ys,jD h y)))
  else if C.cf then(.junk,h,False)else(C.pf k (ys.map (jC h)),h,∀b,W.ct k (ys.map wk) h b (C.pf k (ys.map (jC h))) h):=rfl
@[go_sem]theorem call_tmp{k:FuncId}{t:Tmp}{first aP ys:List D}{h:H}{b:Nat}:eT W C (.tmp t) (.fn (.func k) first aP::ys) h b=if C.pure k then
   (if C.cf then(C.pf k ((first++ys++aP).map wk),h,W.pureCt k ((first++ys++aP).map wk) (C.pf k ((first++ys++aP).map wk))/\(first++ys++aP).any iG=false)
   else if C.dp then(C.pf k ((first++ys++aP).map (pR h)),h,W.pureCt k ((first++ys++aP).map (pR h)) (C.pf k ((first++ys++aP).map (pR h)))/\flat (C.pf k ((first++ys++aP).map (pR h)))=true /\ ∀y∈first++ys++aP,d9 h 5 y)
   else(C.pf k ((first++ys++aP).map (jC h)),h,W.pureCt k ((first++ys++aP).map (jC h)) (C.pf k ((first++ys++aP).map (jC h)))/\((first++ys++aP).any iG=true->flat (C.pf k ((first++ys++aP).map (jC h)))=true /\ ∀y∈first++ys++aP,jD h y)))
  else(.junk,h,False):=rfl
def ZgK [aa P]{k:FuncId}{xs:List D}{r:D}:(words P).pureCt k xs r=PureCt P k xs r:=rfl
def words_ct [aa P]{k:FuncId}{xs:List D}{h h':H}{b:Nat}{r:D}:(words P).ct k xs h b r h'=Ct P k xs h b r h':=rfl
def flat_v{x:Value}:flat (.v x)=true:=rfl
attribute[go_sem]ZgK words_ct flat_v
attribute [go_sem] sJ M6 Bp ng
attribute [go_sem] List.forall_mem_cons List.not_mem_nil false_implies forall_const
@[go_sem]theorem snap_v{h:H}{k:Nat}{x:Value}:ed h k (.v x) = .v x:=by cases k<;>rfl
@[go_sem]theorem ZgV{h:H}{k:Nat}{f:Bool}{x:List (List D)}:ed h k (.list f x) = .list f x:=by cases k<;>rfl
def ZgT{h:H}{k:Nat}{r off len:Nat}:ed h (k+1) (.mrow r off len) = .list false ((aj (.mrow r off len) h).map λrow=>row.map (ed h k)):=rfl
def snap_agg{h:H}{k:Nat}{cs:List D}:ed h (k+1) (.agg cs) = .agg (cs.map (ed h k)):=rfl
def ZgS{h:H}{k:Nat}{cs:List D}:ed h (k+1) (.tuple cs) = .tuple (cs.map (ed h k)):=rfl
attribute[go_sem]ZgT snap_agg ZgS
@[go_sem]theorem snapOk_v{h:H}{k:Nat}{x:Value}:d9 h k (.v x)=True:=by cases k<;>simp[d9,D.nr]
@[go_sem]theorem Zg1{h:H}{k:Nat}{f:Bool}{x:List (List D)}:d9 h k (.list f x)=(bg x=true):=by cases k<;>rfl
def ZgZ{h:H}{k:Nat}{r off len:Nat}:d9 h (k+1) (.mrow r off len)=(jD h (.mrow r off len) /\ ∀row∈aj (.mrow r off len) h,∀c∈row,d9 h k c):=rfl
def Zg4{h:H}{k:Nat}{cs:List D}:d9 h (k+1) (.agg cs) = ∀c∈cs,d9 h k c:=rfl
def ZgX{h:H}{k:Nat}{cs:List D}:d9 h (k+1) (.tuple cs) = ∀c∈cs,d9 h k c:=rfl
def ZgU{h:H}{k:Nat}{r i off:Nat}:ed h (k+1) (.mptr r i off) = .eptr ((eD (.mptr r i off) h).map (ed h k)):=rfl
def snap_fn{h:H}{k:Nat}{f:Fn}{a b:List D}:ed h (k+1) (.fn f a b) = .fn f (a.map (ed h k)) (b.map (ed h k)):=rfl
def Zg0{h:H}{k:Nat}{r i off:Nat}:d9 h (k+1) (.mptr r i off)=((h r).isSome=true /\ ∀c∈eD (.mptr r i off) h,d9 h k c):=rfl
def Zg2{h:H}{k:Nat}{f:Fn}{a b:List D}:d9 h (k+1) (.fn f a b)=((∀c∈a,d9 h k c) /\ ∀c∈b,d9 h k c):=rfl
attribute[go_sem]ZgZ Zg4 ZgX ZgU snap_fn Zg0 Zg2
theorem V5{h:H}(rows:List (List D)):(rows.map λrow=>row.map (ed h 0))=rows:=by
 have:(λrow:List D=>row.map (ed h 0))=id:=by funext row;exact List.map_id row
 rw[this];exact List.map_id rows
def V6{h:H}{rows:List (List D)}(hn:bg rows=true):∀row∈rows,∀c∈row,d9 h 0 c:=λ_ h1 _ h2=>o6 (BA hn h1) h2
def RG [aa P]{ro:Option Nat}{Q:Exit->S->Prop}{s s':S}{id:Nat}{ops:Array Oper}{draw:Bool}(he:exec P (words P) C ops.toList s=s')(hd:draw=true->P.follows .mixedOrders=true/\xm C ops.toList=true/\nW ops.toList=true)(hok:s'.ok)(hq:Q .normal s'.clear):DW P ro (.region id ops draw) Q s :=
 RH (C:=C) hd (by rw[he];exact hok) (by rw[he];exact hq)
end Go.DL
namespace Go.DL
variable [Dr]
open Go.RowKit
variable {P : Program} {C : aK} {ro : Option Nat} {Q : Exit -> S -> Prop}
def RJ [aa P]{s:S}{n nx:Nat}{t:Nat->D}{h:H}{ok:Prop}{e:Env}{id:Nat}{ops:Array Oper}{draw:Bool}(he:exec P (words P) C ops.toList s=⟨n,t,h,nx,ok,e⟩)(hd:draw=true->P.follows .mixedOrders=true/\xm C ops.toList=true/\nW ops.toList=true)(hok:ok)(hq:Q .normal ⟨n,t,h,nx,True,e⟩):DW P ro (.region id ops draw) Q s :=
 RG (C:=C) he hd hok hq
theorem mF [aa P]{s:S}{n nx:Nat}{t:Nat->D}{h:H}{ok:Prop}{e:Env}{id:Nat}{ops:Array Oper}{draw:Bool}{y:Code}(he:exec P (words P) C ops.toList s=⟨n,t,h,nx,ok,e⟩)(hd:draw=true->P.follows .mixedOrders=true/\xm C ops.toList=true/\nW ops.toList=true)(hok:ok)(hq:DW P ro y Q ⟨n,t,h,nx,True,e⟩):DW P ro (.seq (.region id ops draw) y) Q s :=
 aU (RG (C:=C) he hd hok hq)
@[go_sem]theorem ne_add{r n i:Nat}(h:r<n):(r=n+i)=False:=by simp;omega
@[go_sem]theorem add_ne{r n i:Nat}(h:r<n):(n+i=r)=False:=by simp;omega
@[go_sem]theorem Vh{α β:Type}{f:α->β}{l:List α}:(l.map f).take l.length=l.map f:=by rw[Yh];simp
@[go_sem]theorem ZgN{α β:Type}{f:α->β}{l:List α}{x:β}:(l.map f++[x]).take (l.length+1)=l.map f++[x]:=by rw[Yh];simp
@[go_sem]theorem UF : ∀{a b:List (List D)},dK (a++b)=dK a++dK b
 | [],_=>rfl
 | r::a,b=>by simp only[XX,dK,UF]
attribute [go_sem] V5 OC bg bV
@[go_sem]theorem ZgY{h:H}{rows:List (List D)}:(∀row∈rows,∀c∈row,d9 h 0 c)=(bg rows=true):=by
 apply propext
 refine⟨λk=>Ep λr hr=>nC λc hc=>k r hr c hc,λk=>V6 k⟩
def nr_v{x:Value}:D.nr (.v x)=true:=rfl
def nr_list{f:Bool}{rows:List (List D)}:D.nr (.list f rows)=bg rows:=rfl
attribute[go_sem]nr_v nr_list
def tab:List (Nat×D)->Nat->D
 | [],_=>.junk
 | (j,x)::l,i=>if i=j then x else tab l i
@[go_sem]theorem tab_hit{i:Nat}{x:D}{l:List (Nat×D)}:tab ((i,x)::l) i=x:=by simp[tab]
@[go_sem]theorem tab_miss{j i:Nat}{x:D}{l:List (Nat×D)}(h:(i=j)=False):tab ((j,x)::l) i=tab l i:=by simp only[tab];rw[XW (by rw[h];exact id)]
def Tb(t:Nat->D)(p:Nat×D):Prop:=t p.1=p.2\/wk (t p.1)=p.2
@[go_sem]theorem tb_eq{t:Nat->D}{i:Nat}{d:D}:Tb t (i,d)=(t i=d\/wk (t i)=d):=rfl
attribute [go_sem] true_or
theorem Dq{t:Nat->D}:∀{l:List (Nat×D)},(∀p∈l,Tb t p) -> ∀i,tab l i=t i\/tab l i=wk (t i)\/tab l i = .junk
 | [],_,_=>.inr (.inr rfl)
 | (j,x)::l,h,i=>by
  simp only[tab]
  split
  .
   rename_i e;subst e
   rcases h (i,x) (by simp)with h|h
   . exact .inl h.symm
   exact .inr (.inl h.symm)
  exact Dq (λp hp=>h p (by simp[hp])) i
theorem Marks.only{B:Nat}{g:Mem}{h':H}{w:World}:∀{ds:List Deferred},Marks B g ds w->Marks B (g.only h') ds w
 | [],_=>trivial
 | _::_,⟨h1,h2⟩=>⟨h1,Marks.only h2⟩
theorem iY.only{B:bS}{g:Mem}{h':H}{w:World}{ds:List Deferred}(h:iY B g ds w):iY B (g.only h') ds w:=h.map λ_ k=>k.only
def St.forget [aa P]{B:bS}{s:S}{g:Mem}{a:Act}{w:World}(hs:St P B s g a w){t':Nat->D}{h':H}{nx':Nat}(ht : ∀i,t' i=s.t i\/t' i=wk (s.t i)\/t' i = .junk)(hh : ∀r,h' r=s.h r\/h' r=none) :
  St P B { n:=s.n,t:=t',h:=h',nx:=nx',e:=s.e } (g.only h') a w:=by
 refine⟨hs.sz,λi=>?_,hs.mem.only hh,hs.df.only,s.e.st P s.h g _ w w hs.mem Bv.weak hs.en,hs.bd⟩
 rcases ht i with e|e|e
 .
  show ag w (g.only h') (t' i) _
  rw[e];exact(hs.tm i).only
 .
  show ag w (g.only h') (t' i) _
  rw[e];exact(hs.tm i).wk.only
 show ag w (g.only h') (t' i) _
 rw[e];exact .junk _
def Zeo [aa P]{c:Code}{s:S}(t':Nat->D)(h':H)(nx':Nat)(ht : ∀i,t' i=s.t i\/t' i=wk (s.t i)\/t' i = .junk)(hh : ∀r,h' r=s.h r\/h' r=none)(hn:s.nx<=nx')(h:DW P ro c Q { n:=s.n,t:=t',h:=h',nx:=nx',e:=s.e }):DW P ro c Q s:=by
 intro B g a w hs hU
 exact wpIn_mono (h B _ a w (hs.forget ht hh) λr hr=>Y5 (hU r hr) hn) λe a' w'⟨s',g',q,r,m,u,v⟩=>⟨s',g',q,r,Bv.toX.trans m,u,v⟩
def Kb [aa P]{c:Code}{s:S}(l:List (Nat×D))(h':H)(nx':Nat)(ht : ∀p∈l,Tb s.t p)(hh : ∀r,h' r=s.h r\/h' r=none)(hn:s.nx<=nx')(h:DW P ro c Q { n:=s.n,t:=tab l,h:=h',nx:=nx',e:=s.e }):DW P ro c Q s :=
 Zeo _ _ _ (Dq ht) hh hn h
theorem RN [aa P]{c:Code}{s:S}{α:Type}(A:α->Prop)(μ:α->Nat)(tb:α->List (Nat×D))(hh:α->H)(fH:α->Nat)(a0:α)(hA:A a0)(ht : ∀p∈tb a0,Tb s.t p)(hhp : ∀r,hh a0 r=s.h r\/hh a0 r=none)(hn:s.nx<=fH a0)
  (round : ∀a,A a->DW P ro c (thenS (λs'=>∃a',A a'/\μ a'<μ a/\(∀p∈tb a',Tb s'.t p)/\(∀r,hh a' r=s'.h r\/hh a' r=none)/\s'.nx<=fH a'/\s'.n=s.n/\s'.e=s.e) Q) { n:=s.n,t:=tab (tb a),h:=hh a,nx:=fH a,e:=s.e }):DW P ro (.loop c) Q s:=by
 intro B g a w hs hU
 refine wpIn_loop_ghost (λk a' w'=>∃x g',A x/\μ x=k/\St P B { n:=s.n,t:=tab (tb x),h:=hh x,nx:=fH x,e:=s.e } g' a' w'/\bQ s.e.x g g' w w' /\ ∀r,g'.U r->r<fH x) (μ a0) ⟨a0,_,hA,rfl,hs.forget (Dq ht) hhp,Bv.toX,λr hr=>Y5 (hU r hr) hn⟩ ?_
 rintro k a1 w1 ⟨x,g1,hx,rfl,hs1,hm1,eU⟩
 refine wpIn_mono (round x hx B g1 a1 w1 hs1 eU) ?_
 rintro e a2 w2 ⟨s2,g2,hq,hs2,hm2,uQ,hx2⟩
 cases e with
 | normal =>
  obtain⟨x',h1,h2,h3,h4,h5,h6,h7⟩:=hq;refine⟨μ x',h2,x',g2.only (hh x'),h1,rfl,?_,(hm1.trans hm2).trans Bv.toX,λr hr=>Y5 (uQ r hr) h5⟩
  have:=hs2.forget (nx':=fH x') (Dq h3) h4;rw[h6,h7]at this;exact this
 | _=>exact⟨s2,g2,hq,hs2,hm1.trans hm2,uQ,hx2⟩
def htab:List (Nat×ax)->H
 | []=>λ_=>none
 | (r,b)::l=>upd (htab l) r (some b)
def htab_nil:htab []=λ_=>none:=rfl
def Zh1{r:Nat}{b:ax}{l:List (Nat×ax)}:htab ((r,b)::l)=upd (htab l) r (some b):=rfl
attribute[go_sem]htab_nil Zh1
theorem EN{h:H}:∀{l:List (Nat×ax)},(∀p∈l,h p.1=some p.2) -> ∀r,htab l r=h r\/htab l r=none
 | [],_,_=>.inr rfl
 | (j,x)::l,hl,i=>by
  simp only[htab,upd]
  split
  . rename_i e;subst e;exact .inl (hl (i,x) (by simp)).symm
  exact EN (λp hp=>hl p (by simp[hp])) i
def IU{s:S}{keep:List Nat}{fx:List (Nat×D)}(hfx:keep.map (λi=>(i,s.t i))=fx):∀p∈fx,Tb s.t p:=by
 intro p hp
 rw[<-hfx]at hp
 obtain⟨i,_,rfl⟩:=Yi.1 hp
 exact .inl rfl
theorem Zei [aa P]{c:Code}{s:S}{α:Type}(keep:List Nat)(A:α->Prop)(μ:α->Nat)(tb:α->List (Nat×D))(hb:α->List (Nat×ax))(fH:α->Nat)(a0:α){fx:List (Nat×D)}(hfx:keep.map (λi=>(i,s.t i))=fx)(hA:A a0)(ht : ∀p∈tb a0,Tb s.t p)(hh : ∀p∈hb a0,s.h p.1=some p.2)(hn:s.nx<=fH a0)
  (round : ∀a,A a->DW P ro c (thenS (λs'=>∃a',A a'/\μ a'<μ a/\(∀p∈tb a',Tb s'.t p)/\(∀p∈fx,Tb s'.t p)/\(∀p∈hb a',s'.h p.1=some p.2)/\s'.nx<=fH a'/\s'.n=s.n/\s'.e=s.e) Q) { n:=s.n,t:=tab (tb a++fx),h:=htab (hb a),nx:=fH a,e:=s.e }):DW P ro (.loop c) Q s :=
 RN A μ (λa=>tb a++fx) (λa=>htab (hb a)) fH a0 hA (λp hp=>(Yo.1 hp).elim (ht p) (IU hfx p)) (EN hh) hn λa ha=>(round a ha).mono λe s' hq=>by
  cases e with
  | normal =>
   obtain⟨a',h1,h2,h3,h4,h5,h6,h7,h8⟩:=hq;exact⟨a',h1,h2,λp hp=>(Yo.1 hp).elim (h3 p) (h4 p),EN h5,h6,h7,h8⟩
  | _=>exact hq
def Ap [aa P]{c:Code}{s:S}(keep:List Nat)(hb:List (Nat×ax)){fx:List (Nat×D)}(hfx:keep.map (λi=>(i,s.t i))=fx)(hh : ∀p∈hb,s.h p.1=some p.2)(h:DW P ro c Q { n:=s.n,t:=tab fx,h:=htab hb,nx:=s.nx,e:=s.e }):DW P ro c Q s :=
 Kb fx (htab hb) s.nx (IU hfx) (EN hh) (X4 _) h
theorem Zek [aa P]{c:Code}{s:S}(i:Nat){f:Bool}{rows:List (List D)}(he:s.t i = .list f rows)(h:rows.length<=maxLen->DW P ro c Q s):DW P ro c Q s:=by
 intro B g a w hs hU
 refine h ?_ B g a w hs hU
 have hr:=hs.tm i
 rw[he]at hr
 generalize a.tmps.getD i undef=v at hr
 cases hr with
 | empty=>simp[maxLen]
 | list _ _ ad cap size cv hI hl hf hm hs hc hr=>omega
theorem uX [aa P]{c:Code}{s:S}(i:Nat)(ty:TypeId)(hi:s.t i = .list true [])(hty:0<P.cellsOf ty)(h:DW P ro c Q { n:=s.n,t:=upd s.t i (.mrow s.nx 0 0),h:=upd s.h s.nx (some ⟨ty,[]⟩),nx:=s.nx+1,e:=s.e }):DW P ro c Q s:=by
 intro B g a w hs hU
 have hnu : ¬g.U s.nx:=λh=>Nat.lt_irrefl _ (hU _ h)
 obtain⟨g',q1,q2,q3,q4,q5⟩:=hs.mem.putNone (h':=upd s.h s.nx (some ⟨ty,[]⟩)) s.nx ⟨ty,[]⟩ hnu (bK _ _ _) (λr hr=>.inl (aL _ _ _ _ hr)) hty rfl
 have hst:St P B { n:=s.n,t:=upd s.t i (.mrow s.nx 0 0),h:=upd s.h s.nx (some ⟨ty,[]⟩),nx:=s.nx+1,e:=s.e } g' a w:=by
  refine⟨hs.sz,λj=>?_,q4,hs.df.later hs.mem q5,Env.later hs.mem q5 hs.en,hs.bd⟩
  by_cases e:j=i
  .
   subst e;simp only[bK];have hr:=hs.tm j;rw[hi]at hr;generalize a.tmps.getD j undef=v at hr;have key : ∃x,v = .slice x 0 0:=by
    cases hr with
    | empty _ x cap hf hm=>exact⟨x,by rw[hf rfl]⟩
    | list _ _ ad cap size cv hI hl hf=>exact⟨some ad,by rw[hf rfl];rfl⟩
   obtain⟨x,rfl⟩:=key;refine .mrow _ _ _ _ ⟨x,0,rfl,X4 _,λh=>absurd h om⟩ ((q2 _).2 (.inr rfl)) λblk c sz he=>?_
   rw[q1]at he
   cases he
   exact⟨⟨X4 _,Yl _⟩,.inl ⟨rfl,x,rfl⟩⟩
  simp only[aL _ _ _ _ e];exact(hs.tm j).later hs.mem q5
 exact wpIn_mono (h B g' a w hst (λr hr=>by
  rcases(q2 r).1 hr with h|h
  . exact Nat.lt_succ_of_lt (hU r h)
  subst h;exact Nat.lt_succ_self _)) λe a' w'⟨s',g'',q,r,m,u,v⟩=>⟨s',g'',q,r,q5.toX.trans m,u,v⟩
theorem Zd1{w:World}{g:Mem}{v:Value}(hr:ag w g (.list true []) v):∃x,v = .slice x 0 0:=by
 cases hr with
 | empty _ x cap hf hm=>exact⟨x,by rw[hf rfl]⟩
 | list _ _ ad cap size cv hI hl hf=>exact⟨some ad,by rw[hf rfl];rfl⟩
def dS(P:Program)[aa P](f:FuncId)(args:List D)(h:H)(n:Nat)(R:D->H->Nat->Prop):Prop :=
 jy P f=true /\ ∀(w:World)(g:Mem)(vs:List Value),HM P h g w->(∀r,g.U r->r<n)->aG w g args vs ->
  CallsIn Fence.wide 0 P f vs.toArray w λe w'=>∃v g' res h' n',R res h' n'/\e = .returned v/\ag w' g' res v/\HM P h' g' w'/\aB g g' w w' /\ ∀r,g'.U r->r<n'
theorem dS.mono [aa P]{f:FuncId}{args:List D}{h:H}{n:Nat}{R R':D->H->Nat->Prop}(k:dS P f args h n R)(i : ∀d h' n',R d h' n'->R' d h' n'):dS P f args h n R' :=
 ⟨k.1,λw g vs h1 h2 h3=>(k.2 w g vs h1 h2 h3).mono λ_ _⟨v,g',res,h',n',q,r⟩=>⟨v,g',res,h',n',i _ _ _ q,r⟩⟩
theorem Zbm [aa P]{h:H}{g:Mem}{w:World}{n:Nat}(hm:HM P h g w)(hU : ∀r,g.U r->r<n):∀r,n<=r->h r=none:=by
 intro r hr
 cases hq:h r with
 | none=>rfl
 | some bl =>
  obtain⟨blk,c',h1,_⟩:=hm.blk r bl hq;have:=hU r (hm.used r (by rw[h1];simp))
  omega
def Nf [aa P]{f:FuncId}{fn:Func}{c:Code}{args:List D}{h:H}{n:Nat}{R:D->H->Nat->Prop}(hf:P.funcs[f]? = some fn)(hb:fn.body=some c)(hbd:jy P f=true)(hn:args.length<=fn.ntmps)
  (hw:(∀r,n<=r->h r=none)->DW P none c (λe s=>(e = .normal\/e = .ret)/\sJ P s fn.results.toList /\ ∃h' n',(∀r,h' r=s.h r\/h' r=none)/\s.nx<=n'/\R (ng P fn.results.toList s) h' n') { n:=fn.ntmps,t:=λi=>args.getD i .junk,h:=h,nx:=n }):dS P f args h n R:=by
 refine⟨hbd,λw g vs hm hU hr=>?_⟩
 have hs:=EM (P:=P) (n:=fn.ntmps) hr hn hm (nx:=n)
 refine callsIn_of_wp_marks (n:=0) hf hb trivial (wpIn_mono (F:=Fence.wide) (hw (Zbm hm hU) (bS.of w.heap.size) g _ w hs hU) ?_)
 rintro e a' w' ⟨s',g',⟨he,ho,h',n',hh,hn',hR⟩,hs',hm',qo,_⟩
 have hm':=hm'.out
 have hlast:LeavesInM Fence.wide 0 P fn a'.tmps (λe w'=>∃v g' res h' n',R res h' n'/\e = .returned v/\ag w' g' res v/\HM P h' g' w'/\aB g g' w w' /\ ∀r,g'.U r->r<n') a'.defers .returning w':=by
  refine EG (P:=P) a'.defers w' hs'.df.marks λw2 e0 e1 e2 e3 e4 e5 e6 e7=>?_
  have hs2:=hs'.marks e4 e6 e7;obtain⟨v,h1,h2⟩:=Hw (fn:=fn) hs2 ho;have mono2:aB g g' w w2:=by
   refine⟨by rw[e1,hm'.os],by rw[e2,hm'.tape],by rw[e3,hm'.output],by rw[e4];exact hm'.size,by rw[e0];exact hm'.drawn,hm'.U,hm'.M,hm'.new,hm'.I,hm'.inew,λk hk hne=>?_⟩
   rw[e5 k hk];exact hm'.same k hk hne
  exact⟨v,h1,v,g'.only h',_,h',n',hR,rfl,h2.only,hs2.mem.only hh,mono2.trans Bv,λr hr=>Y5 (qo r hr) hn'⟩
 rcases he with rfl|rfl<;>exact hlast
def PureCt.rct [aa P]{f:FuncId}{args:List D}{res:D}(k:PureCt P f args res)(h:H)(n:Nat):dS P f args h n (λd h' n'=>d=res/\h'=h/\n'=n):=by
 obtain⟨hbd,hnr,hct⟩:=k
 refine⟨hbd,λw g vs hm hU hr=>?_⟩
 refine(hct w g.I _ hm.imm hm.gr (hr.clean hnr λ_ h=>h)).mono ?_
 rintro e w' ⟨v,rfl,hbel,hv⟩
 let g':Mem:={ g with I:=λb=>g.I b\/(w.heap.size<=b/\b<w'.heap.size) }
 have mono:aB g g' w w':=⟨hbel.os,hbel.tape,hbel.output,hbel.size,hbel.drawn,λ_ h=>h,λ_ _=>.inl rfl,λr b c s h=>.inl ⟨r,c,s,h⟩,λ_ h=>.inl h,λb h=>by rcases h with h|h;exact .inl h;exact .inr (.inl h.1),λb hb _=>hbel.block b hb⟩
 refine⟨v,g',res,h,n,⟨rfl,rfl,rfl⟩,rfl,by refine ag.mono ?_ ?_ ?_ hv;exact λb hb=>⟨hb,rfl⟩;exact λ_ h=>False.elim h;exact λ_ h=>False.elim h,⟨hm.dead,λr bl hr=>?_,hm.inj,hm.used,λb hb=>?_,hm.gr.later (hm.kept mono)⟩,mono,hU⟩
 .
  obtain⟨blk,c,h1,h2,h3,h4,h5⟩:=hm.blk r bl hr;refine⟨blk,c,h1,h2,h3,h4,?_⟩
  rcases h5 with h5|⟨b,cur,rfl,h6,h7,h8,h9⟩
  . exact .inl h5
  have hlt:=(lT hm h1).1;refine .inr ⟨b,cur,rfl,by rw[hbel.block b hlt];exact h6,h7,λhI=>?_,λi row hi=>⟨(h9 i row hi).1,λj d hd=>?_⟩⟩
  .
   rcases hI with hI|hI
   . exact h8 hI
   omega
  obtain⟨u,k3,k4,k5⟩:=(h9 i row hi).2 j d hd;exact⟨u,k3,k4,k5.later hm mono⟩
 rcases hb with hb|hb
 . exact Y5 (hm.imm b hb) hbel.size
 exact hb.2
def pK{α:Type}{a:Array α}{k:Nat}{o:α}(h:a.toList[k]? = some o):a[k]? = some o:=by rwa [YL]at h
theorem tK [aa P]{B:bS}{ops:Array Oper}{b:Nat}{n:Nat}{Q:Exit->Act->World->Prop}{w0:World}{g0:Mem}{rest:List Nat}:∀(k i:Nat)(s:S)(g:Mem)(a:Act)(w:World),St P B s g a w->aB g0 g w0 w->(∀r,g.U r->r<b+i) ->
  i+k<=ops.size->(bN P (words P) C ops.toList b i ((ops.toList.drop i).take k) s).ok ->
  (∀g' a' w',St P B (bN P (words P) C ops.toList b i ((ops.toList.drop i).take k) s) g' a' w'->aB g0 g' w0 w'->(∀r,g'.U r->r<b+(i+k))->wpOpsIn (Fw ro) n P ops Q rest a' w') ->
  wpOpsIn (Fw ro) n P ops Q (List.range' i k++rest) a w:=by
 intro k
 induction k with
 | zero =>
  intro i s g a w hs hm hU hk hok hQ;exact hQ g a w hs hm hU
 | succ k ih =>
  intro i s g a w hs hm hU hk hok hQ;have hlt:i<ops.size:=by omega
  have hd:(ops.toList.drop i).take (k+1)=ops[i]::(ops.toList.drop (i+1)).take k:=by rw[Yn (by simpa using hlt)];simp
  rw[hd]at hok hQ;simp only[bN]at hok hQ;rw[Zi,XX,wpOpsIn_cons];refine Cx hs (b:=b) (N:=b+i) (λh=>by have:=hU _ h;omega) hU (by simp[hlt]) (J2 hok) λg' a' w' h1 h2 h3=>?_
  refine ih (i+1) _ g' a' w' h1 (hm.trans h2) (λr hr=>by
                                 rcases h3 r hr with h|h;· have:=hU r h;omega
                                 omega) om hok λg'' a'' w'' q1 q2 q3=>hQ g'' a'' w'' q1 q2 λr hr=>by have:=q3 r hr;omega
theorem aG.wk{w:World}{g:Mem}{ds:List D}{vs:List Value}(h:aG w g ds vs):aG w g (ds.map wk) vs :=
 ⟨by simpa using h.1,λi d x h1 h2=>by obtain⟨y,h3,rfl⟩:=fA h1;exact(h.2 i y x h3 h2).wk⟩
theorem Zer [aa P]{s s1:S}{id:Nat}{ops:Array Oper}(k:Nat){o:Oper}{f:Operand}{args:Array Operand}{ts:Array TypeId}{gB:FuncId}{first aP xs:List D}(R:D->H->Nat->Prop)
  (ho:ops[k]? = some o)(hop:o.op = .call { callee:=.value f,args:=args,argTypes:=ts })(hg:o.guard=none)
  (he:bN P (words P) C ops.toList s.nx 0 (ops.toList.take k) { n:=s.n,t:=s.t,h:=s.h,nx:=s.nx+k,ok:=s.ok,e:=s.e }=s1)(hok:s1.ok)(hd:cu s1.n o.dst=true)
  (hf:s1.ev f = .fn (.func gB) first aP)(hxg:(args.toList.map s1.ev).all sg=true)(hx:((args.toList.map s1.ev).map sd).map wk=xs)(hct:dS P gB (first++xs++aP) s1.h (s.nx+k) R)
  (hk : ∀res h' n',R res h' n' -> ∃s2,bN P (words P) C ops.toList n' (k+1) (ops.toList.drop (k+1)) { n:=s1.n,t:=s1.put o.dst res,h:=h',nx:=n'+ops.size,ok:=True,e:=s1.e }=s2/\s2.ok/\Q .normal s2.clear) :
  DW P ro (.region id ops false) Q s:=by
 intro B g a w hs hU
 have hlt:k<ops.size:=(Yb.1 ho).1
 refine wpIn_region ?_
 have hr:List.range ops.size=List.range' 0 k++(k::List.range' (k+1) (ops.size-(k+1))):=by
  rw[Zm];have:ops.size=k+((ops.size-(k+1))+1):=by omega
  conv=>lhs;rw[this]
  rw[<-ZL,Zi]
  simp
 rw[hr]
 have hs0:St P B { n:=s.n,t:=s.t,h:=s.h,nx:=s.nx+k,ok:=s.ok,e:=s.e } g a w:=⟨hs.sz,hs.tm,hs.mem,hs.df,hs.en,hs.bd⟩
 have e0:(ops.toList.drop 0).take k=ops.toList.take k:=rfl
 refine tK (C:=C) (b:=s.nx) k 0 _ g a w hs0 (aB.refl _ _) (λr hr=>by have:=hU r hr;omega) (by omega) (by rw[e0,he];exact hok) λg1 a1 w1 hs1 hm1 eU=>?_
 rw[e0,he]at hs1
 rw[wpOpsIn_cons]
 unfold wpOpIn
 rw[ho]
 simp only
 have hw:Region.wanted o (yielded ops a1.tmps)=true:=by simp[Region.wanted,hg]
 rw[XY hw]
 have hdef : ∀c,o.op ≠ .defer c:=by intro c e;rw[e]at hop;cases hop
 have iq:o.semAt (Fw ro).round a1.eval=execOp a1.eval o:=Oper.semAt_eq _ _ _ hdef
 refine⟨λ_ _=>trivial,?_⟩
 rw[iq]
 obtain⟨hbd,hct⟩:=hct
 have hfr:=dH hs1 f
 rw[hf]at hfr
 have kJ:=aG.wk (vS (uV hs1 args.toList) hxg)
 rw[hx]at kJ
 generalize hv:a1.eval f=vf at hfr
 cases hfr with|fn _ _ _ fs cs l1 l2 r1 r2 =>
 have hrun:(execOp a1.eval o).run P w1 = .ok (.enter gB (fs++args.map a1.eval++cs)) w1:=by
  simp[execOp,hop,resolve,Deferred.ofValue,hv,invoke,y7 hbd]
 rw[hrun,Oper.uponIn_enter]
 have e:fs++args.map a1.eval++cs=(fs.toList++args.toList.map a1.eval++cs.toList).toArray:=by apply Zh;simp
 rw[e]
 refine⟨λh=>by simp[Fw,Fence.wide]at h,AB ((hct w1 g1 _ hs1.mem (λr hr=>by have:=eU r hr;omega) (aG.append (aG.append ⟨by simpa using l1,λi d x h1 h2=>r1 i d x h1 (by simpa using h2)⟩ kJ) ⟨by simpa using l2,λi d x h1 h2=>r2 i d x h1 (by simpa using h2)⟩)).mono ?_)⟩
 rintro e w' ⟨v,g',res,h',n',hR,rfl,q1,q2,q3,q4⟩
 obtain⟨s2,e2,ok2,hQ⟩:=hk res h' n' hR
 have hs2:=jl hs1 q3 q2 hd q1 True
 have hs3:St P B { n:=s1.n,t:=s1.put o.dst res,h:=h',nx:=n'+ops.size,ok:=True,e:=s1.e } g' (a1.put o.dst v) w':=⟨hs2.sz,hs2.tm,hs2.mem,hs2.df,hs2.en,hs2.bd⟩
 have hnx : ∀(l:List Oper)(i:Nat)(u:S),(bN P (words P) C ops.toList n' i l u).nx=u.nx:=by
  intro l
  induction l with
  | nil=>intro i u;rfl
  | cons x l ih=>intro i u;simp only[bN];rw[ih,xh.2]
 have hex : ∀(l:List Oper)(i b:Nat)(u:S),(bN P (words P) C ops.toList b i l u).e=u.e:=by
  intro l
  induction l with
  | nil=>intro i b u;rfl
  | cons x l ih =>
   intro i b u;simp only[bN];rw[ih];unfold bT
   split<;>rfl
 have e3:(ops.toList.drop (k+1)).take (ops.size-(k+1))=ops.toList.drop (k+1):=Yh (by simp)
 have:=tK (ro:=ro) (P:=P) (C:=C) (B:=B) (ops:=ops) (b:=n') (n:=0) (rest:=[]) (g0:=g) (w0:=w) (Q:=λe a' w'=>∃s' g',Q e s'/\St P B s' g' a' w'/\bQ s.e.x g g' w w'/\(∀r,g'.U r->r<s'.nx)/\s'.e.x=s.e.x) (ops.size-(k+1)) (k+1) _ g' _ w' hs3 (hm1.trans q3) (λr hr=>by have:=q4 r hr;omega) om
  (by rw[e3,e2];exact ok2) λg'' a'' w'' p1 p2 p3=>by
   rw[e3,e2]at p1;refine⟨_,g'',hQ,p1.clear,p2.toX,λr hr=>?_,?_⟩
   .
    have h3:=p3 r hr;have h4:=hnx (ops.toList.drop (k+1)) (k+1) { n:=s1.n,t:=s1.put o.dst res,h:=h',nx:=n'+ops.size,ok:=True,e:=s1.e };rw[e2]at h4
    show r<s2.nx
    rw[h4]
    show r<n'+ops.size
    omega
   have h5:=hex (ops.toList.drop (k+1)) (k+1) n' { n:=s1.n,t:=s1.put o.dst res,h:=h',nx:=n'+ops.size,ok:=True,e:=s1.e };rw[e2]at h5;have h6:=hex (ops.toList.take k) 0 s.nx { n:=s.n,t:=s.t,h:=s.h,nx:=s.nx+k,ok:=s.ok,e:=s.e };rw[he]at h6
   show s2.e.x=s.e.x
   rw[h5]
   show s1.e.x=s.e.x
   rw[h6]
 rw[YZ]at this
 exact this
end Go.DL
namespace Go.DL
variable [Dr]
open Go.RowKit
variable {P : Program} {C : aK} {Q : Exit -> S -> Prop}
def recAt(r:Loop)(j:Option Code):Loop:={ r with state:=if j.isNone then .ready else .done,pending:=j }
def Env.loop(l:Nat)(r:Loop)(t:Nat->D):Env where
 p g w:=w.heap[l]? = some (.loop r) /\ ¬g.I l /\ ∀i,ag w g (t i) (r.tmps.getD i undef)
 x:=some l
 st P _ h g g' w w' hm k:=letI:Dr:=drF;λ⟨h1,h2,h3⟩=>⟨yt hm k h1 (λc e f=>by simp),λhI=>by
   rcases k.inew l hI with e|e|⟨r,c,s,e⟩
   . exact h2 e
   . have:=(Yb.1 h1).1;omega
   . exact rA hm h1 (λc e f=>by simp) (λc e=>by simp) r c s e,λi=>(h3 i).later hm k⟩
theorem HM.keptX [aa P]{h:H}{g g':Mem}{w w':World}{l:Nat}(hm:HM P h g w)(k:bQ (some l) g g' w w')(hl : ¬g.I l):∀b,g.I b->g'.I b/\w'.heap[b]? = w.heap[b]? := by
 refine λb hb=>⟨k.I b hb,k.same b (hm.imm b hb) (λr c s e=>?_) (λe=>hl (by cases e;exact hb))⟩
 cases hr:h r with
 | none=>rw[hm.dead r hr]at e;cases e
 | some bl =>
  obtain⟨blk,c',e1,_,_,_,h5⟩:=hm.blk r bl hr;rw[e]at e1;simp only[XU,Yu]at e1
  rcases h5 with⟨h6,_⟩|⟨b',cur,h6,_,_,h7,_⟩
  . rw[<-e1.1]at h6;cases h6
  rw[<-e1.1]at h6;cases h6;exact h7 hb
def IC [aa P]{h:H}{g g':Mem}{w w':World}{l:Nat}(hm:HM P h g w)(k:bQ (some l) g g' w w'){D:Nat}{o:Obj}(hD:w.heap[D]? = some o)(ho : ∀c e f,o ≠ .cells c e f)(hl:l≠D)(ho2 : ∀c e,o ≠ .map c e:=by intro c e;simp):w'.heap[D]? = some o:=by
 rw[k.same D (Yb.1 hD).1 (rA hm hD ho ho2) (λe=>hl (by cases e;rfl))];exact hD
theorem Marks.laterX [aa P]{h:H}{g g':Mem}{w w':World}{l:Nat}(hm:HM P h g w)(k:bQ (some l) g g' w w'){r:Loop}(hl:w.heap[l]? = some (.loop r)){B:Nat}:∀{ds:List Deferred},Marks B g ds w->Marks B g' ds w'
 | [],_=>trivial
 | d::ds,⟨⟨D,h1,h2,h3,h4,h5⟩,h6⟩=>⟨⟨D,h1,IC hm k h2 (λc e f=>by simp) (λe=>by subst e;rw[hl]at h2;cases h2),h3,h4,λhI=>by
   rcases k.inew D hI with e|e|⟨r,c,s,e⟩
   . exact h5 e
   . have:=(Yb.1 h2).1;omega
   exact rA hm h2 (λc e f=>by simp) (λc e=>by simp) r c s e⟩,h6.laterX hm k hl⟩
def iY.laterX [aa P]{h:H}{g g':Mem}{w w':World}{l:Nat}(hm:HM P h g w)(k:bQ (some l) g g' w w'){r:Loop}(hl:w.heap[l]? = some (.loop r)){B:bS}{ds:List Deferred}(hd:iY B g ds w):iY B g' ds w':=hd.map λ_ h=>h.laterX hm k hl
def zQ{g:Mem}{w:World}{l:Nat}(o:Obj):bQ (some l) g g w (w.putObj l o) :=
 ⟨rfl,rfl,rfl,by simp,λ_=>X4 _,λ_ h=>h,λ_ _=>.inl rfl,λr _ c s h=>.inl ⟨r,c,s,h⟩,λ_ h=>h,λ_ h=>.inl h,λ_ _ _ hx=>World.putObj_heap_other (λe=>hx (by rw[e]))⟩
def HM.putLoop [aa P]{h:H}{g:Mem}{w:World}{l:Nat}{r:Loop}(hm:HM P h g w)(hl:w.heap[l]? = some (.loop r))(hI : ¬g.I l)(o:Obj):HM P h g (w.putObj l o) :=
 hm.marks (by simp) (λk hk=>World.putObj_heap_other (λe=>hI (e▸hk))) λk o hk ho=>World.putObj_heap_other (λe'=>by subst e';rw[hl]at hk;cases hk;exact ho)
def lZ(t:Nat->D)(ps:List Nat)(ds:List D):Nat->D:=(ps.zip ds).foldl (λt p=>upd t p.1 p.2) t
theorem zw{t:Nat->D}{ds:List D}:lZ t [] ds=t:=rfl
theorem zz{t:Nat->D}{p:Nat}{ps:List Nat}{d:D}{ds:List D}:lZ t (p::ps) (d::ds)=lZ (upd t p d) ps ds:=rfl
attribute[go_sem]zw zz
theorem Hg{w:World}{g:Mem}:∀(ps:List Nat)(ds:List D)(vs:List Value)(t:Nat->D)(tmps:Array Value),aG w g ds vs->(∀p∈ps,p<tmps.size)->(∀i,ag w g (t i) (tmps.getD i undef)) ->
  ((ps.zip vs).foldl (λtmps(p:Nat×Value)=>tmps.setIfInBounds p.1 p.2) tmps).size=tmps.size /\ ∀i,ag w g (lZ t ps ds i) (((ps.zip vs).foldl (λtmps(p:Nat×Value)=>tmps.setIfInBounds p.1 p.2) tmps).getD i undef)
 | [],_,_,_,_,_,_,h=>⟨rfl,h⟩
 | p::ps,ds,vs,t,tmps,hr,hp,h=>by
  cases ds with
  | nil=>rw[hr.of_nil];exact⟨rfl,h⟩
  | cons d ds =>
   obtain⟨x,xs,rfl,h1,h2⟩:=hr.of_cons;have:=Hg ps ds xs (upd t p d) (tmps.setIfInBounds p x) h2 (λq hq=>by simpa using hp q (by simp[hq])) (λi=>by
    by_cases e:i=p
    .
     subst e;have hlt:=hp i (by simp)
     rw[bK]
     simpa[hlt]using h1
    rw[aL _ _ _ _ e];have:(tmps.setIfInBounds p x).getD i undef=tmps.getD i undef:=by simp[Ne.symm e]
    rw[this];exact h i)
   refine⟨by simpa using this.1,this.2⟩
theorem Cz [aa P]{s s1:S}{id:Nat}{ops:Array Oper}(k:Nat){o:Oper}{f:Operand}{args:Array Operand}{ts:Array TypeId}{l:Nat}{r:Loop}{t:Nat->D}{xs:List D}
  (ho:ops[k]? = some o)(hop:o.op = .call { callee:=.value f,args:=args,argTypes:=ts })(hg:o.guard=none)(hse:s.e=Env.loop l (recAt r none) t)
  (he:bN P (words P) C ops.toList s.nx 0 (ops.toList.take k) { n:=s.n,t:=s.t,h:=s.h,nx:=s.nx+k,ok:=s.ok,e:=s.e }=s1)(hok:s1.ok)(hd:cu s1.n o.dst=true)
  (hf:s1.ev f = .fn (.yield l) [] [])(hxg:(args.toList.map s1.ev).all sg=true)(hx:(args.toList.map s1.ev).map sd=xs)(hps:xs.length=r.params.size)(hpn : ∀p∈r.params.toList,p<r.tmps.size)
  (hbody:DW P (some l) r.assign (thenS (λs2=>s2.e=Env.tt/\DW P (some l) r.body (λe s'=>s'.e=Env.tt /\ ∃b j,(match e with | .normal=>b=true/\j=none | .ret=>b=false/\j=some .ret | .exit i=>b=false/\j=some (.exit i)|_=>False) /\
    ∃s2,bN P (words P) C ops.toList s'.nx (k+1) (ops.toList.drop (k+1)) { n:=s1.n,t:=s1.put o.dst (.v (.bool b)),h:=s'.h,nx:=s'.nx+ops.size,ok:=True,e:=Env.loop l (recAt r j) t }=s2/\s2.ok/\Q .normal s2.clear) s2) (λ_ _=>False))
   { n:=r.tmps.size,t:=lZ t r.params.toList xs,h:=s1.h,nx:=s.nx+k }) :
  DW P none (.region id ops false) Q s:=by
 intro B g a w hs hU
 have hlt:k<ops.size:=(Yb.1 ho).1
 have hex : ∀(l:List Oper)(i b:Nat)(u:S),(bN P (words P) C ops.toList b i l u).e=u.e:=by
  intro l
  induction l with
  | nil=>intro i b u;rfl
  | cons x l ih =>
   intro i b u;simp only[bN];rw[ih];unfold bT
   split<;>rfl
 have hnxx : ∀(l:List Oper)(i b:Nat)(u:S),(bN P (words P) C ops.toList b i l u).nx=u.nx:=by
  intro l
  induction l with
  | nil=>intro i b u;rfl
  | cons x l ih=>intro i b u;simp only[bN];rw[ih,xh.2]
 refine wpIn_region ?_
 have hr:List.range ops.size=List.range' 0 k++(k::List.range' (k+1) (ops.size-(k+1))):=by
  rw[Zm];have:ops.size=k+((ops.size-(k+1))+1):=by omega
  conv=>lhs;rw[this]
  rw[<-ZL,Zi]
  simp
 rw[hr]
 have hs0:St P B { n:=s.n,t:=s.t,h:=s.h,nx:=s.nx+k,ok:=s.ok,e:=s.e } g a w:=⟨hs.sz,hs.tm,hs.mem,hs.df,hs.en,hs.bd⟩
 have e0:(ops.toList.drop 0).take k=ops.toList.take k:=rfl
 refine tK (C:=C) (b:=s.nx) k 0 _ g a w hs0 (aB.refl _ _) (λr hr=>by have:=hU r hr;omega) (by omega) (by rw[e0,he];exact hok) λg1 a1 w1 hs1 hm1 eU=>?_
 rw[e0,he]at hs1
 have hs1e:s1.e=Env.loop l (recAt r none) t:=by
  have h6:=hex (ops.toList.take k) 0 s.nx { n:=s.n,t:=s.t,h:=s.h,nx:=s.nx+k,ok:=s.ok,e:=s.e };rw[he]at h6;rw[h6];exact hse
 obtain⟨hl1,hI1,ht1⟩:(Env.loop l (recAt r none) t).p g1 w1:=by rw[<-hs1e];exact hs1.en
 rw[wpOpsIn_cons]
 unfold wpOpIn
 rw[ho]
 simp only
 have hw:Region.wanted o (yielded ops a1.tmps)=true:=by simp[Region.wanted,hg]
 rw[XY hw]
 have hdef : ∀c,o.op ≠ .defer c:=by intro c e;rw[e]at hop;cases hop
 have iq:o.semAt (Fw none).round a1.eval=execOp a1.eval o:=Oper.semAt_eq _ _ _ hdef
 refine⟨λ_ _=>trivial,?_⟩
 rw[iq]
 have hfr:=dH hs1 f
 rw[hf]at hfr
 have kJ:=vS (uV hs1 args.toList) hxg
 rw[hx]at kJ
 generalize hv:a1.eval f=vf at hfr
 cases hfr with|fn _ _ _ fs cs l1 l2 r1 r2 =>
 have hfs:fs = #[]:=by apply Zc;simpa using l1.symm
 have hcs:cs = #[]:=by apply Zc;simpa using l2.symm
 subst hfs;subst hcs
 have hsz:(args.map a1.eval).size=(recAt r none).params.size:=by
  have h1:=kJ.1
  show(args.map a1.eval).size=r.params.size
  rw[<-hps,h1];simp
 have hrun:(execOp a1.eval o).run P w1 = .ok (.round l r.fn ((r.params.zip (args.map a1.eval)).foldl (λtmps(t,a)=>tmps.setIfInBounds t a) r.tmps) r.assign r.body) w1:=by
  have:=run_yield (P:=P) (w:=w1) (l:=l) (r:=recAt r none) (args:=args.map a1.eval) hl1 hsz;have e1:(execOp a1.eval o).run P w1=(Instr.yield l (args.map a1.eval)).run P w1:=by simp[execOp,hop,resolve,Deferred.ofValue,hv,invoke]
  rw[e1];exact this
 rw[hrun,Oper.uponIn_round]
 refine⟨λh=>by simp[Fw,Fence.wide]at h,?_⟩
 obtain⟨hz1,hz2⟩:=Hg r.params.toList xs _ t r.tmps kJ hpn ht1
 have Ji:(r.params.zip (args.map a1.eval)).foldl (λtmps(t,a)=>tmps.setIfInBounds t a) r.tmps=(r.params.toList.zip (args.toList.map a1.eval)).foldl (λtmps(p:Nat×Value)=>tmps.setIfInBounds p.1 p.2) r.tmps:=by
  rw[<-Array.foldl_toList];simp
 rw[Ji]
 generalize (r.params.toList.zip (args.toList.map a1.eval)).foldl (λtmps(p:Nat×Value)=>tmps.setIfInBounds p.1 p.2) r.tmps=tm at hz1 hz2
 have hsb:St P (bS.of 0) { n:=r.tmps.size,t:=lZ t r.params.toList xs,h:=s1.h,nx:=s.nx+k } g1 { tmps:=tm,defers:=[] } w1:=⟨hz1,hz2,hs1.mem,iY.start,trivial,Yl _⟩
 refine roundIn_of_wpIn trivial (wpIn_mono (hbody (bS.of 0) g1 _ w1 hsb (λr hr=>by have:=eU r hr;show r<s.nx+k;omega)) ?_)
 rintro e a2 w2 ⟨s2,g2,hq,hs2,hm2,uQ,hx2⟩
 cases e with
 | normal =>
  have yM:aB g1 g2 w1 w2:=hm2.out;have hl2:=yt hs1.mem yM hl1 (λc e f=>by simp)
  have hI2 : ¬g2.I l:=λhI=>by
   rcases yM.inew l hI with e|e|⟨r,c,s,e⟩
   . exact hI1 e
   . have:=(Yb.1 hl1).1;omega
   exact rA hs1.mem hl1 (λc e f=>by simp) (λc e=>by simp) r c s e
  refine⟨_,run_beginRound hl2 rfl,?_⟩;have hlt2:l<w2.heap.size:=(Yb.1 hl2).1;obtain⟨he2,hbd⟩:=hq;have hb2:St P (bS.of 0) s2 g2 a2 (w2.putObj l (.loop { recAt r none with state:=.busy })):=by
   refine⟨hs2.sz,λi=>(hs2.tm i).mono (λb hb=>⟨hb,World.putObj_heap_other (λe=>hI2 (by rw[<-e];exact hb))⟩) (λ_ h=>h) (λ_ _=>.inl rfl),hs2.mem.putLoop hl2 hI2 _,hs2.df.laterX hs2.mem (zQ _) hl2,?_,Yl _⟩
   rw[he2];trivial
  refine wpIn_mono (hbd (bS.of 0) g2 a2 _ hb2 uQ) ?_;rintro e a3 w3 ⟨s3,g3,⟨_,b,j,hcase,s4,e4,ok4,hQ⟩,hs3,yL,hU3,_⟩;rw[he2]at yL;have yK:=yL.out;have Ci:(w2.putObj l (.loop { recAt r none with state:=.busy })).heap[l]? = some (.loop { recAt r none with state:=.busy }):=World.putObj_heap_same hlt2
  have hl3:=yt hb2.mem yK Ci (λc e f=>by simp)
  have wY : ¬g3.I l:=λhI=>by
   rcases yK.inew l hI with e|e|⟨r,c,s,e⟩
   . exact hI2 e
   . simp at e;omega
   exact rA hb2.mem Ci (λc e f=>by simp) (λc e=>by simp) r c s e
  have hlt3:l<w3.heap.size:=(Yb.1 hl3).1;have fin:b=j.isNone -> ∃v w',(Instr.endRound l j).run P w3 = .ok v w'/\(λe w''=>match e with
    | Ending.returned v=>wpOpsIn (Fw none) 0 P ops (λe a' w'=>∃s' g',Q e s'/\St P B s' g' a' w'/\bQ s.e.x g g' w w'/\(∀r,g'.U r->r<s'.nx)/\s'.e.x=s.e.x) (List.range' (k+1) (ops.size-(k+1))) (a1.put o.dst v) w''
    | Ending.panicked chain=>∃s' g',Q (.panic chain) s'/\St P B s' g' a1 w''/\bQ s.e.x g g' w w''/\(∀r,g'.U r->r<s'.nx)/\s'.e.x=s.e.x
    | Ending.outgrown=>LetsOut (λe a' w'=>∃s' g',Q e s'/\St P B s' g' a' w'/\bQ s.e.x g g' w w'/\(∀r,g'.U r->r<s'.nx)/\s'.e.x=s.e.x)) (.returned v) w':=by
   rintro rfl;refine⟨_,_,run_endRound j hl3,?_⟩;have mX:bQ (some l) g1 g3 w1 (w3.putObj l (.loop (recAt r j))):=yM.toX.trans ((zQ _).trans (yK.toX.trans (zQ _)));have kept:=hs1.mem.keptX mX hI1;have hbase:St P B { n:=s1.n,t:=s1.t,h:=s3.h,nx:=s3.nx+ops.size,ok:=True,e:=Env.loop l (recAt r j) t } g3 a1 (w3.putObj l (.loop (recAt r j))) :=
    ⟨hs1.sz,λi=>(hs1.tm i).mono kept mX.U mX.M,hs3.mem.putLoop hl3 wY _,hs1.df.laterX hs1.mem mX hl1,⟨World.putObj_heap_same hlt3,wY,λi=>(ht1 i).mono kept mX.U mX.M⟩,Yt hs1.bd mX.size⟩
   have hput:=jl hbase (aB.refl _ _) hbase.mem hd (.v (.bool j.isNone)) True;have e3:(ops.toList.drop (k+1)).take (ops.size-(k+1))=ops.toList.drop (k+1):=Yh (by simp)
   have:=tK (ro:=none) (P:=P) (C:=C) (B:=B) (ops:=ops) (b:=s3.nx) (n:=0) (rest:=[]) (g0:=g3) (w0:=w3.putObj l (.loop (recAt r j))) (Q:=λe a' w'=>∃s' g',Q e s'/\St P B s' g' a' w'/\bQ s.e.x g g' w w'/\(∀r,g'.U r->r<s'.nx)/\s'.e.x=s.e.x) (ops.size-(k+1)) (k+1) _ g3 _ _ hput (aB.refl _ _) (λr hr=>by have:=hU3 r hr;omega) om
    (by rw[e3];exact e4▸ok4) λg'' a'' w'' p1 p2 p3=>by
     rw[e3]at p1;have p1:St P B s4 g'' a'' w'':=e4▸p1;have hx:s.e.x=some l:=by rw[hse];rfl
     refine⟨_,g'',hQ,p1.clear,?_,λr' hr'=>?_,?_⟩
     . rw[hx];exact hm1.toX.trans (mX.trans p2.toX)
     .
      have h3:=p3 r' hr';have h4:=hnxx (ops.toList.drop (k+1)) (k+1) s3.nx { n:=s1.n,t:=s1.put o.dst (.v (.bool j.isNone)),h:=s3.h,nx:=s3.nx+ops.size,ok:=True,e:=Env.loop l (recAt r j) t };rw[e4]at h4
      show r'<s4.nx
      rw[h4]
      show r'<s3.nx+ops.size
      omega
     have h5:=hex (ops.toList.drop (k+1)) (k+1) s3.nx { n:=s1.n,t:=s1.put o.dst (.v (.bool j.isNone)),h:=s3.h,nx:=s3.nx+ops.size,ok:=True,e:=Env.loop l (recAt r j) t };rw[e4]at h5
     show s4.e.x=s.e.x
     rw[h5,hx];rfl
   rw[YZ]at this;exact this
  cases e with
  | normal=>obtain⟨rfl,rfl⟩:=hcase;exact fin rfl
  | ret=>obtain⟨rfl,rfl⟩:=hcase;exact fin rfl
  | exit i=>obtain⟨rfl,rfl⟩:=hcase;exact fin rfl
  | _=>exact hcase.elim
 | _=>exact hq.elim
def HM.lay [aa P]{h:H}{g:Mem}{w:World}(hm:HM P h g w)(o:Obj):HM P h g (w.alloc o)/\aB g g w (w.alloc o):=by
 have mono:aB g g w (w.alloc o) :=
  ⟨rfl,rfl,rfl,by simp,λ_=>X4 _,λ_ h=>h,λ_ _=>.inl rfl,λr b c s h=>.inl ⟨r,c,s,h⟩,λ_ h=>h,λb h=>.inl h,λb hb _=>Below.heap_alloc w o b hb⟩
 refine⟨⟨hm.dead,λr bl hr=>?_,hm.inj,hm.used,λb hb=>Y5 (hm.imm b hb) (by simp),hm.gr.later (hm.kept mono)⟩,mono⟩
 obtain⟨blk,c,h1,h2,h3,h4,h5⟩:=hm.blk r bl hr
 refine⟨blk,c,h1,h2,h3,h4,?_⟩
 rcases h5 with h5|⟨b,cur,rfl,h6,h7,h8,h9⟩
 . exact .inl h5
 have hlt:=(lT hm h1).1
 refine .inr ⟨b,cur,rfl,by rw[Below.heap_alloc w o b hlt];exact h6,h7,h8,λi row hi=>⟨(h9 i row hi).1,λj d hd=>?_⟩⟩
 obtain⟨u,k3,k4,k5⟩:=(h9 i row hi).2 j d hd
 exact⟨u,k3,k4,k5.later hm mono⟩
theorem Am [aa P]{s:S}{gf:Operand}{ps:Array Tmp}{assign body:Code}{f:FuncId}{fn:Func}{c:Code}{first aP:List D}(he:s.e=Env.tt)(hev:s.ev gf = .fn (.func f) first aP)(hf:P.funcs[f]? = some fn)(hb:fn.body=some c)(hbd:jy P f=true)
  (hn:(first++[D.fn (.yield 0) [] []]++aP).length<=fn.ntmps)(hres:fn.results = #[])
  (walk : ∀l r,r.params=ps->r.assign=assign->r.body=body->r.tmps.size=s.n->DW P none c (λe s'=>(e = .normal\/e = .ret) /\ ∃j,s'.e=Env.loop l (recAt r j) s.t /\
    (match j with|none=>Q .normal { n:=s.n,t:=s.t,h:=s'.h,nx:=s'.nx }|some .ret=>Q .ret { n:=s.n,t:=s.t,h:=s'.h,nx:=s'.nx }|some (.exit i)=>Q (.exit i) { n:=s.n,t:=s.t,h:=s'.h,nx:=s'.nx }|_=>False))
   { n:=fn.ntmps,t:=λi=>(first++[D.fn (.yield l) [] []]++aP).getD i .junk,h:=s.h,nx:=s.nx,e:=Env.loop l (recAt r none) s.t }):DW P none (.rangeFunc gf ps assign body) Q s:=by
 intro B g a w hs hU
 refine wpIn_rangeFunc λfn' _=>?_
 let Dk:=w.heap.size
 let l:=w.heap.size+1
 let r:Loop:={ state:=.ready,pending:=none,fn:=fn',tmps:=a.tmps,params:=ps,assign:=assign,body:=body,defers:=w.heap.size }
 let w1:=(w.alloc (.deferred (some []))).alloc (.loop r)
 have hfr:=dH hs gf
 rw[hev]at hfr
 generalize hv:a.eval gf=vf at hfr
 cases hfr with|fn _ _ _ fs cs l1 l2 r1 r2 =>
 obtain⟨q1,q2⟩:=hs.mem.lay (.deferred (some []))
 obtain⟨q3,q4⟩:=q1.lay (.loop r)
 have nD:aB g g w w1:=q2.trans q4
 have hl1:w1.heap[l]? = some (.loop r):=by
  have:=World.alloc_heap_new (w.alloc (.deferred (some []))) (.loop r)
  simpa[l,w1]using this
 have hD1:w1.heap[Dk]? = some (.deferred (some [])):=by
  have h1:=World.alloc_heap_new w (.deferred (some []));have h2:=Below.heap_alloc (w.alloc (.deferred (some []))) (.loop r) Dk (by simp[Dk])
  exact h2.trans h1
 have hsz1:w1.heap.size=w.heap.size+2:=by simp[w1]
 have hIl : ¬g.I l:=λh=>by have:=hs.mem.imm l h;simp[l]at this;omega
 have hID : ¬g.I Dk:=λh=>by have:=hs.mem.imm Dk h;simp[Dk]at this
 refine⟨l,_,w1,⟨.fn (.func f) cs,fs ++ #[.func (.yield l) #[] #[]]⟩,w1,f,fs ++ #[.func (.yield l) #[] #[]]++cs,w1,run_enterLoop_outer _ _ _ _ _,?_,λ_ _=>trivial,?_,λh=>by simp[Fw,Fence.wide]at h,?_⟩
 .
  have:a.eval (.const (Value.func (.yield l) #[] #[]))=Value.func (.yield l) #[] #[]:=rfl
  simp[resolve,Deferred.ofValue,hv,this]
 . simp[invoke,y7 hbd]
 have hargs:aG w1 g (first++[D.fn (.yield l) [] []]++aP) (fs.toList++[Value.func (.yield l) #[] #[]]++cs.toList):=by
  refine aG.append (aG.append ⟨by simpa using l1,λi d x h1 h2=>(r1 i d x h1 (by simpa using h2)).later hs.mem nD⟩ (.cons (x:=Value.func (.yield l) #[] #[]) (.fn (.yield l) [] [] #[] #[] rfl rfl (λ_ _ _ h=>by simp at h) (λ_ _ _ h=>by simp at h)) .nil)) ⟨by simpa using l2,λi d x h1 h2=>(r2 i d x h1 (by simpa using h2)).later hs.mem nD⟩
 have e:fs ++ #[.func (.yield l) #[] #[]]++cs=(fs.toList++[Value.func (.yield l) #[] #[]]++cs.toList).toArray:=by apply Zh;simp
 rw[e]
 have hn':(first++[D.fn (.yield l) [] []]++aP).length<=fn.ntmps:=by simpa using hn
 have hinit:=EM (P:=P) (n:=fn.ntmps) hargs hn' q3 (nx:=s.nx)
 have hst:St P (bS.of w1.heap.size) { n:=fn.ntmps,t:=λi=>(first++[D.fn (.yield l) [] []]++aP).getD i .junk,h:=s.h,nx:=s.nx,e:=Env.loop l (recAt r none) s.t } g _ w1 :=
  ⟨hinit.sz,hinit.tm,hinit.mem,hinit.df,⟨hl1,hIl,λi=>(hs.tm i).later hs.mem nD⟩,hinit.bd⟩
 refine AB (callsIn_of_wp_marks (n:=0) hf hb trivial (wpIn_mono (F:=Fence.wide) (walk l r rfl rfl rfl hs.sz (bS.of w1.heap.size) g _ w1 hst hU) ?_))
 rintro e a' w' ⟨s',g',⟨hne,j,hse,hq⟩,hs',hm',qo,_⟩
 have hm':bQ (some l) g g' w1 w':=hm'
 obtain⟨hl',hIl',_⟩:(Env.loop l (recAt r j) s.t).p g' w':=by rw[<-hse];exact hs'.en
 have hlast:LeavesInM Fence.wide 0 P fn a'.tmps (rangePost (Fw none) 0 P l (λe a' w'=>∃s' g',Q e s'/\St P B s' g' a' w'/\bQ s.e.x g g' w w'/\(∀r,g'.U r->r<s'.nx)/\s'.e.x=s.e.x) { a with defers:=[{ target:=.collected w.heap.size,args:=#[] }]++a.defers }) a'.defers .returning w':=by
  refine EG (P:=P) a'.defers w' hs'.df.marks λw2 e0 e1 e2 e3 e4 e5 e6 e7=>?_
  refine⟨.tuple #[],by simp[results,hres],?_⟩
  have hll:l<w1.heap.size:=by rw[hsz1];simp[l]
  have hl2:w2.heap[l]? = some (.loop (recAt r j)):=by rw[e5 l hll];exact hl'
  have hl2lt:l<w2.heap.size:=(Yb.1 hl2).1;refine⟨_,_,run_endLoop hl2 (by cases j<;>simp[recAt]),?_⟩
  have same4 : ∀b,b≠l->b<w1.heap.size->(w2.putObj l (.loop { recAt r j with state:=.exhausted })).heap[b]? = w'.heap[b]? := λb h1 h2=>by
   rw[World.putObj_heap_other h1,e5 b h2]
  have kept : ∀b,g.I b->g'.I b/\(w2.putObj l (.loop { recAt r j with state:=.exhausted })).heap[b]? = w.heap[b]? := λb hb=>by
   obtain⟨k1,k2⟩:=q3.keptX hm' hIl b hb;refine⟨k1,?_⟩;rw[same4 b (λe=>hIl (e▸hb)) (q3.imm b hb),k2]
   exact(hs.mem.kept nD b hb).2
  have hIDk' : ¬g'.I Dk:=λhI=>by
   rcases hm'.inew Dk hI with e|e|⟨r,c,s,e⟩
   . exact hID e
   . rw[hsz1]at e;simp[Dk]at e;omega
   exact rA q3 hD1 (λc e f=>by simp) (λc e=>by simp) r c s e
  have marks : ∀ds:List Deferred,Marks B.n g ds w->(∀d∈ds,d.target ≠ .collected Dk)/\Marks B.n g' ds (w2.putObj l (.loop { recAt r j with state:=.exhausted })):=by
   intro ds
   induction ds with
   | nil=>intro _;exact⟨λ_ h=>by simp at h,trivial⟩
   | cons d ds ih =>
    rintro⟨⟨Dd,h1,h2,h3,h4,h5⟩,h6⟩;obtain⟨i1,i2⟩:=ih h6;have hlt:Dd<w.heap.size:=(Yb.1 h2).1;have hne:Dd≠l:=by simp[l];omega
    have h21:w1.heap[Dd]? = some (.deferred (some [])):=yt hs.mem nD h2 (λc e f=>by simp)
    refine⟨λd' hd'=>?_,⟨Dd,h1,?_,h3,h4,λhI=>?_⟩,i2⟩
    .
     rcases Yz.1 hd' with rfl|h
     . rw[h1];intro e;cases e;simp[Dk]at hlt
     exact i1 d' h
    .
     rw[same4 Dd hne (by rw[hsz1];omega)]
     exact IC q3 hm' h21 (λc e f=>by simp) (Ne.symm hne)
    rcases hm'.inew Dd hI with e|e|⟨r,c,s,e⟩
    . exact h5 e
    . rw[hsz1]at e;omega
    exact rA q3 h21 (λc e f=>by simp) (λc e=>by simp) r c s e
  obtain⟨ms,hms,hmk⟩:=hs.df;obtain⟨mk1,mk2⟩:=marks ms hmk;have fin:St P B { n:=s.n,t:=s.t,h:=s'.h,nx:=s'.nx } g' { a with defers:=[{ target:=.collected w.heap.size,args:=#[] }]++a.defers } (w2.putObj l (.loop { recAt r j with state:=.exhausted })):=by
   refine⟨hs.sz,λi=>(hs.tm i).mono kept hm'.U hm'.M,(hs'.mem.marks e4 e6 e7).putLoop hl2 hIl' _,⟨{ target:=.collected w.heap.size,args:=#[] }::ms,by rw[hms];rfl,⟨Dk,rfl,?_,mk1,hs.bd,hIDk'⟩,mk2⟩,trivial,?_⟩
   .
    rw[same4 Dk (by simp[Dk,l]) (by rw[hsz1];simp[Dk])]
    exact IC q3 hm' hD1 (λc e f=>by simp) (by simp[Dk,l])
   simp only[World.putObj_size];rw[e4];exact Yt hs.bd (Yt nD.size hm'.size)
  have IP:bQ s.e.x g g' w (w2.putObj l (.loop { recAt r j with state:=.exhausted })):=by
   refine⟨by show w2.os=_;rw[e1,hm'.os,nD.os],by show w2.tape=_;rw[e2,hm'.tape,nD.tape],by show w2.output=_;rw[e3,hm'.output,nD.output],by simp only[World.putObj_size];rw[e4];exact Yt nD.size hm'.size,by show Dr.dr->w.drawn<=w2.drawn;rw[e0];exact λd=>Yt (nD.drawn d) (hm'.drawn d),hm'.U,hm'.M,λr b c s h=>?_,hm'.I,λb h=>?_,λb h1 h2 _=>?_⟩
   .
    rcases hm'.new r b c s h with h|h
    . exact .inl h
    exact .inr (Yt nD.size h)
   .
    rcases hm'.inew b h with h|h|h
    . exact .inl h
    . exact .inr (.inl (Yt nD.size h))
    exact .inr (.inr h)
   have hne:b≠l:=by simp[l];omega
   rw[same4 b hne (by rw[hsz1];omega),hm'.same b (by rw[hsz1];omega) h2 (λe=>hne (by cases e;rfl))]
   exact nD.same b h1 h2
  have hx:({ n:=s.n,t:=s.t,h:=s'.h,nx:=s'.nx }:S).e.x=s.e.x:=by rw[he]
  match j,hq with
  | none,hq=>exact⟨_,g',hq,fin,IP,qo,hx⟩
  | some .ret,hq=>exact wpIn_ret ⟨_,g',hq,fin,IP,qo,hx⟩
  | some (.exit i),hq=>exact wpIn_exit ⟨_,g',hq,fin,IP,qo,hx⟩
 rcases hne with rfl|rfl<;>exact hlast
end Go.DL
namespace Go.DL
variable [Dr]
variable {P : Program} {C : aK} {ro : Option Nat} {Q : Exit -> S -> Prop}
theorem RO [aa P]{c:Code}{s:S}{α:Type}(keep:List Nat)(A:α->Prop)(μ:α->Nat)(tb:α->List (Nat×D))(hh:α->H)(fH:α->Nat)(a0:α){fx:List (Nat×D)}(hfx:keep.map (λi=>(i,s.t i))=fx)(hA:A a0)(ht : ∀p∈tb a0,Tb s.t p)(hq : ∀r,hh a0 r=s.h r\/hh a0 r=none)(hn:s.nx<=fH a0)
  (round : ∀a,A a->DW P ro c (thenS (λs'=>∃a',A a'/\μ a'<μ a/\(∀p∈tb a',Tb s'.t p)/\(∀p∈fx,Tb s'.t p)/\(∀r,hh a' r=s'.h r\/hh a' r=none)/\s'.nx<=fH a'/\s'.n=s.n/\s'.e=s.e) Q) { n:=s.n,t:=tab (tb a++fx),h:=hh a,nx:=fH a,e:=s.e }):DW P ro (.loop c) Q s :=
 RN A μ (λa=>tb a++fx) hh fH a0 hA (λp hp=>(Yo.1 hp).elim (ht p) (IU hfx p)) hq hn λa ha=>(round a ha).mono λe s' hq=>by
  cases e with
  | normal =>
   obtain⟨a',h1,h2,h3,h4,h5,h6,h7,h8⟩:=hq;exact⟨a',h1,h2,λp hp=>(Yo.1 hp).elim (h3 p) (h4 p),h5,h6,h7,h8⟩
  | _=>exact hq
def Zem [aa P]{x y:Code}{s:S}{α:Type}(keep:List Nat)(A:α->Prop)(tb:α->List (Nat×D))(hh:α->H)(fH:α->Nat){fx:List (Nat×D)}(_hfx:keep.map (λi=>(i,s.t i))=fx)
  (h:DW P ro x (thenS (λs'=>∃a,A a/\(∀p∈tb a,Tb s'.t p)/\(∀p∈fx,Tb s'.t p)/\(∀r,hh a r=s'.h r\/hh a r=none)/\s'.nx<=fH a/\s'.n=s.n/\s'.e=s.e) Q) s)
  (k : ∀a,A a->DW P ro y Q { n:=s.n,t:=tab (tb a++fx),h:=hh a,nx:=fH a,e:=s.e }):DW P ro (.seq x y) Q s:=by
 refine Zec _ h ?_
 rintro s' ⟨a,h1,h2,h3,h4,h5,h6,h7⟩
 refine Kb (tb a++fx) (hh a) (fH a) (λp hp=>(Yo.1 hp).elim (h2 p) (h3 p)) h4 h5 ?_
 rw[h6,h7]
 exact k a h1
def Less(h' h:H):Prop:=∀q,h' q=h q\/h' q=none
def yz(h:H):Less h h:=λ_=>.inl rfl
def less_upd{h' h:H}{r:Nat}{x:Option ax}(k : ∀q,q≠r->h' q=h q\/h' q=none):Less (upd h' r x) (upd h r x):=by
 intro q
 by_cases e:q=r
 . subst e;left;rw[bK,bK]
 rw[aL _ _ _ _ e,aL _ _ _ _ e];exact k q e
def Zdi{h:H}{r:Nat}{x:ax}(hr:h r=some x):∀q,upd (upd h r none) r (some x) q=h q\/upd (upd h r none) r (some x) q=none:=by
 intro q
 by_cases e:q=r
 . subst e;left;rw[bK,hr]
 left;rw[aL _ _ _ _ e,aL _ _ _ _ e]
def Qy{h:H}{r r1 r2:Nat}{x:Option ax}{y:Option ax}(h1:r1=r\/h r1=none):∀q,upd (upd h r none) r2 y q=upd (upd (upd (upd h r none) r1 x) r1 none) r2 y q\/upd (upd h r none) r2 y q=none:=by
 intro q
 by_cases e:q=r2
 . subst e;left;rw[bK,bK]
 rw[aL _ _ _ _ e,aL _ _ _ _ e]
 by_cases e1:q=r1
 .
  subst e1
  right
  rcases h1 with rfl|h1
  . rw[bK]
  by_cases e2:q=r
  . subst e2;rw[bK]
  rw[aL _ _ _ _ e2,h1]
 left;rw[aL _ _ _ _ e1,aL _ _ _ _ e1]
def HM.recell2 [aa P]{h h1:H}{g g':Mem}{w:World}(hm:HM P h g w)(hm1:HM P h1 g' w)(mono:aB g g' w w){q:Nat}{ty:TypeId}{rows rows':List (List D)}(hq:h q=some ⟨ty,rows⟩)(hq1:h1 q=some ⟨ty,rows⟩)(hl:rows'.length=rows.length)
  (hc : ∀(i:Nat)(row':List D),rows'[i]? = some row' -> ∃row:List D,rows[i]? = some row/\row'.length=row.length /\ ∀(j:Nat)(d':D),row'[j]? = some d' -> ∃d,row[j]? = some d /\ ∀v,ag w g d v->ag w g' d' v):HM P (upd h1 q (some ⟨ty,rows'⟩)) g' w:=by
 refine⟨λx hx=>hm1.dead x ?_,λx bl hx=>?_,hm1.inj,hm1.used,hm1.imm,hm1.gr⟩
 .
  by_cases e:x=q
  . subst e;rw[bK]at hx;cases hx
  rwa [aL _ _ _ _ e]at hx
 by_cases e:x=q
 .
  subst e;rw[bK]at hx
  cases hx
  obtain⟨blk,c,e1,e2,e3,e4,e5⟩:=hm1.blk x _ hq1;obtain⟨blk2,c2,f1,f2,f3,f4,f5⟩:=hm.blk x _ hq;have eM:g'.M x=g.M x:=by
   rcases mono.M x (hm.used x (by rw[f1];simp))with k|k
   . exact k
   rw[k]at e1;cases e1
  rw[eM,f1]at e1
  cases e1
  refine⟨blk,c,eM.trans f1,e2,by show rows'.length<=c;rw[hl];exact e3,e4,?_⟩
  rcases e5 with e5|⟨b,cur,rfl,h6,h7,h8,h9⟩
  . exact .inl e5
  refine .inr ⟨b,cur,rfl,h6,h7,h8,λi row' hi=>?_⟩
  rcases f5 with⟨f5,_⟩|⟨b2,cur2,k5,k6,k7,k8,k9⟩
  . cases f5
  cases k5
  have k6:=h6.uniq k6;subst k6;obtain⟨row,r1,r2,r3⟩:=hc i row' hi;have hk:=k9 i row r1;refine⟨r2.trans hk.1,λj d' hd=>?_⟩
  obtain⟨d,d1,d2⟩:=r3 j d' hd;obtain⟨u,u3,u4,u5⟩:=hk.2 j d d1;exact⟨u,u3,u4,d2 u u5⟩
 rw[aL _ _ _ _ e]at hx
 exact hm1.blk x bl hx
theorem one_cell{row:List D}{j0:Nat}{d0 d1:D}(hj:row[j0]? = some d0){w:World}{g g':Mem}(hd : ∀v,ag w g d0 v->ag w g' d1 v)(ho : ∀d v,ag w g d v->ag w g' d v) :
  ∀(i:Nat)(row':List D),[row.set j0 d1][i]? = some row' -> ∃rw0:List D,[row][i]? = some rw0/\row'.length=rw0.length /\ ∀(j:Nat)(d':D),row'[j]? = some d' -> ∃d,rw0[j]? = some d /\ ∀v,ag w g d v->ag w g' d' v:=by
 intro i row' hi
 cases i with
 | succ i=>simp at hi
 | zero =>
  simp at hi
  subst hi;refine⟨row,rfl,by simp,λj d' hd'=>?_⟩
  by_cases e:j=j0
  .
   subst e;rw[ZG (by exact(X0.1 hj).1)]at hd'
   cases hd'
   exact⟨d0,hj,hd⟩
  rw[List.getElem?_set_ne (Ne.symm e)]at hd';exact⟨d',hd',ho d'⟩
def RL [aa P]{c:Code}{s:S}(r j:Nat)(ty0 ty:TypeId){row:List D}(hr:s.h r=some ⟨ty0,[row]⟩)(hj:row[j]? = some (.list true []))(hty:0<P.cellsOf ty)(h:DW P ro c Q { n:=s.n,t:=s.t,h:=upd (upd s.h s.nx (some ⟨ty,[]⟩)) r (some ⟨ty0,[row.set j (.mrow s.nx 0 0)]⟩),nx:=s.nx+1,e:=s.e }):DW P ro c Q s:=by
 intro B g a w hs hU
 have hnu : ¬g.U s.nx:=λh=>Nat.lt_irrefl _ (hU _ h)
 obtain⟨g',q1,q2,q3,q4,q5⟩:=hs.mem.putNone (h':=upd s.h s.nx (some ⟨ty,[]⟩)) s.nx ⟨ty,[]⟩ hnu (bK _ _ _) (λr hr=>.inl (aL _ _ _ _ hr)) hty rfl
 have hrn:r≠s.nx:=by
  intro e;subst e;obtain⟨blk,c,h1,_⟩:=hs.mem.blk _ _ hr;exact hnu (hs.mem.used _ (by rw[h1];simp))
 have hm:=HM.recell2 (rows':=[row.set j (.mrow s.nx 0 0)]) hs.mem q4 q5 hr (by rw[aL _ _ _ _ hrn];exact hr) rfl (one_cell hj (λv hv=>by
  obtain⟨x,rfl⟩:=Zd1 hv;refine .mrow _ _ _ _ ⟨x,0,rfl,X4 _,λh=>absurd h om⟩ ((q2 _).2 (.inr rfl)) λblk c sz he=>?_
  rw[q1]at he
  cases he
  exact⟨⟨X4 _,Yl _⟩,.inl ⟨rfl,x,rfl⟩⟩) λd v hv=>hv.later hs.mem q5)
 have hst:St P B { n:=s.n,t:=s.t,h:=upd (upd s.h s.nx (some ⟨ty,[]⟩)) r (some ⟨ty0,[row.set j (.mrow s.nx 0 0)]⟩),nx:=s.nx+1,e:=s.e } g' a w :=
  ⟨hs.sz,λj=>(hs.tm j).later hs.mem q5,hm,hs.df.later hs.mem q5,Env.later hs.mem q5 hs.en,hs.bd⟩
 exact wpIn_mono (h B g' a w hst (λr hr=>by
  rcases(q2 r).1 hr with h|h
  . exact Nat.lt_succ_of_lt (hU r h)
  subst h;exact Nat.lt_succ_self _)) λe a' w'⟨s',g'',q,r,m,u,v⟩=>⟨s',g'',q,r,q5.toX.trans m,u,v⟩
def RP [aa P]{c:Code}{s:S}(i r:Nat){ty:TypeId}{rows:List (List D)}{off len:Nat}(hi:s.t i = .mrow r off len)(hr:s.h r=some ⟨ty,rows⟩)(hl:off+len<=rows.length)(hn:bg rows=true)(h:DW P ro c Q { n:=s.n,t:=upd s.t i (.list false ((rows.drop off).take len)),h:=upd s.h r none,nx:=s.nx,e:=s.e }):DW P ro c Q s:=by
 intro B g a w hs hU
 have mono:=yS g r w
 have hst:St P B { n:=s.n,t:=upd s.t i (.list false ((rows.drop off).take len)),h:=upd s.h r none,nx:=s.nx,e:=s.e } (jX g r) a w:=by
  refine⟨hs.sz,λj=>?_,Ah hs.mem r,hs.df.later hs.mem mono,Env.later hs.mem mono hs.en,hs.bd⟩
  by_cases e:j=i
  . subst e;simp only[bK];have hj:=hs.tm j;rw[hi]at hj;exact JF hs.mem hr hn hl hj
  simp only[aL _ _ _ _ e];exact(hs.tm j).later hs.mem mono
 exact wpIn_mono (h B (jX g r) a w hst hU) λe a' w'⟨s',g'',q,r,m,u,v⟩=>⟨s',g'',q,r,mono.toX.trans m,u,v⟩
def Ao [aa P]{c:Code}{s:S}(q j r:Nat){ty ty0:TypeId}{rows:List (List D)}{row:List D}{off len:Nat}(hq:s.h q=some ⟨ty0,[row]⟩)(hj:row[j]? = some (.mrow r off len))(hr:s.h r=some ⟨ty,rows⟩)(hqr:q≠r)(hl:off+len<=rows.length)(hn:bg rows=true)
  (h:DW P ro c Q { n:=s.n,t:=s.t,h:=upd (upd s.h r none) q (some ⟨ty0,[row.set j (.list false ((rows.drop off).take len))]⟩),nx:=s.nx,e:=s.e }):DW P ro c Q s:=by
 intro B g a w hs hU
 have mono:=yS g r w
 have hm:=HM.recell2 (rows':=[row.set j (.list false ((rows.drop off).take len))]) hs.mem (Ah hs.mem r) mono hq (by rw[aL _ _ _ _ hqr];exact hq) rfl (one_cell hj (λv hv=>JF hs.mem hr hn hl hv) λd v hv=>hv.later hs.mem mono)
 have hst:St P B { n:=s.n,t:=s.t,h:=upd (upd s.h r none) q (some ⟨ty0,[row.set j (.list false ((rows.drop off).take len))]⟩),nx:=s.nx,e:=s.e } (jX g r) a w :=
  ⟨hs.sz,λj=>(hs.tm j).later hs.mem mono,hm,hs.df.later hs.mem mono,Env.later hs.mem mono hs.en,hs.bd⟩
 exact wpIn_mono (h B (jX g r) a w hst hU) λe a' w'⟨s',g'',q,r,m,u,v⟩=>⟨s',g'',q,r,mono.toX.trans m,u,v⟩
def Qx [aa P]{h:H}{g:Mem}{w:World}(hm:HM P h g w){r:Nat}{bl:ax}(hr:h r=some bl){kv:List D}(hk:iF bl=some kv)(hn:bV kv=true){v:Value}(hv:ag w g (.mp r) v):ag w (jX g r) (.fmap kv) v:=by
 obtain⟨b,es,aV,rfl,h1,h2,h3,_⟩:=zT hm hv hr hk
 exact .fmap kv b es aV (.inr ⟨_,_,h3⟩) h1 h2.1 λk d x e1 e2=>(h2.2 k d x e1 e2).clean (o6 hn (X7 e1)) λb hb=>.inl hb
def RU [aa P]{c:Code}{s:S}(i r:Nat){d d':D}(hi:s.t i=d)(hd : ∀(g:Mem)(w:World)(v:Value),HM P s.h g w->ag w g d v->ag w (jX g r) d' v)(h:DW P ro c Q { n:=s.n,t:=upd s.t i d',h:=upd s.h r none,nx:=s.nx,e:=s.e }):DW P ro c Q s:=by
 intro B g a w hs hU
 have mono:=yS g r w
 have hst:St P B { n:=s.n,t:=upd s.t i d',h:=upd s.h r none,nx:=s.nx,e:=s.e } (jX g r) a w:=by
  refine⟨hs.sz,λj=>?_,Ah hs.mem r,hs.df.later hs.mem mono,Env.later hs.mem mono hs.en,hs.bd⟩
  by_cases e:j=i
  . subst e;simp only[bK];have hj:=hs.tm j;rw[hi]at hj;exact hd g w _ hs.mem hj
  simp only[aL _ _ _ _ e];exact(hs.tm j).later hs.mem mono
 exact wpIn_mono (h B (jX g r) a w hst hU) λe a' w'⟨s',g'',q,r,m,u,v⟩=>⟨s',g'',q,r,mono.toX.trans m,u,v⟩
def Kc [aa P]{c:Code}{s:S}(i r:Nat){bl:ax}{kv:List D}(hi:s.t i = .mp r)(hr:s.h r=some bl)(hk:iF bl=some kv)(hn:bV kv=true)(h:DW P ro c Q { n:=s.n,t:=upd s.t i (.fmap kv),h:=upd s.h r none,nx:=s.nx,e:=s.e }):DW P ro c Q s :=
 RU i r hi (λ_ _ _ hm hv=>Qx hm hr hk hn hv) h
def Zen [aa P]{c:Code}{s:S}(q j r:Nat){ty0:TypeId}{row:List D}{bl:ax}{kv:List D}(hq:s.h q=some ⟨ty0,[row]⟩)(hj:row[j]? = some (.mp r))(hr:s.h r=some bl)(hk:iF bl=some kv)(hqr:q≠r)(hn:bV kv=true)
  (h:DW P ro c Q { n:=s.n,t:=s.t,h:=upd (upd s.h r none) q (some ⟨ty0,[row.set j (.fmap kv)]⟩),nx:=s.nx,e:=s.e }):DW P ro c Q s:=by
 intro B g a w hs hU
 have mono:=yS g r w
 have hm:=HM.recell2 (rows':=[row.set j (.fmap kv)]) hs.mem (Ah hs.mem r) mono hq (by rw[aL _ _ _ _ hqr];exact hq) rfl (one_cell hj (λv hv=>Qx hs.mem hr hk hn hv) λd v hv=>hv.later hs.mem mono)
 have hst:St P B { n:=s.n,t:=s.t,h:=upd (upd s.h r none) q (some ⟨ty0,[row.set j (.fmap kv)]⟩),nx:=s.nx,e:=s.e } (jX g r) a w :=
  ⟨hs.sz,λj=>(hs.tm j).later hs.mem mono,hm,hs.df.later hs.mem mono,Env.later hs.mem mono hs.en,hs.bd⟩
 exact wpIn_mono (h B (jX g r) a w hst hU) λe a' w'⟨s',g'',q,r,m,u,v⟩=>⟨s',g'',q,r,mono.toX.trans m,u,v⟩
def Qw [aa P]{h:H}{g:Mem}{w:World}(hm:HM P h g w){r:Nat}{ty:TypeId}{row:List D}(hr:h r=some ⟨ty,[row]⟩)(hn:bV row=true){v:Value}(hv:ag w g (.mptr r 0 0) v):ag w (jX g r) (.eptr row) v:=by
 let h1:H:=λx=>if x=r then h r else none
 have hsub : ∀x,h1 x=h x\/h1 x=none:=λx=>by
  by_cases e:x=r
  . subst e;exact .inl (XY rfl)
  exact .inr (XW e)
 have hm1:=hm.only hsub
 have e1:h1 r=some ⟨ty,[row]⟩:=by show(if r=r then h r else none)=_;rw[XY rfl];exact hr
 have e2:eD (.mptr r 0 0) h1=row:=by simp only[eD,e1];rfl
 have h0 : ∀d:D,d.nr=true->qz h1 d=d/\pE h1 d:=by
  intro d hd
  cases d<;>first|exact⟨rfl,trivial⟩|(simp[D.nr]at hd;done)
 have:=Ki hm1 (nz hv.only) ⟨by rw[e1];rfl,by rw[e2];exact λc hc=>(h0 c (o6 hn hc)).2⟩
 rw[e2]at this
 have e3:row.map (qz h1)=row:=by
  conv=>rhs;rw[<-List.map_id row]
  exact YK λc hc=>(h0 c (o6 hn hc)).1
 rw[e3]at this
 refine this.clean hn λb hb=>?_
 rcases hb with hb|⟨x,c,sz,hb⟩
 . exact .inl hb
 have hb2:(if(h1 x).isSome then g.M x else none)=some (some b,c,sz):=hb
 split at hb2
 .
  rename_i hx
  have:x=r:=by
   refine YR λe=>?_
   have:h1 x=none:=XW e;rw[this]at hx;cases hx
  subst this;exact .inr ⟨c,sz,hb2⟩
 cases hb2
def RQ [aa P]{c:Code}{s:S}(i r:Nat){ty:TypeId}{row:List D}(hi:s.t i = .mptr r 0 0)(hr:s.h r=some ⟨ty,[row]⟩)(hn:bV row=true)(h:DW P ro c Q { n:=s.n,t:=upd s.t i (.eptr row),h:=upd s.h r none,nx:=s.nx,e:=s.e }):DW P ro c Q s :=
 RU i r hi (λ_ _ _ hm hv=>Qw hm hr hn hv) h
def bG(P:Program)[aa P](ro:Option Nat)(ops:Array Oper)(i b:Nat)(s:S)(Q:Exit->S->Prop):Prop :=
 ∀(B:bS)(g0 g:Mem)(a:Act)(w0 w:World),St P B s g a w->aB g0 g w0 w->(∀r,g.U r->r<b+i) ->
  wpOpsIn (Fw ro) 0 P ops (λe a' w'=>∃s' g',Q e s'/\St P B s' g' a' w'/\bQ s.e.x g0 g' w0 w'/\(∀r,g'.U r->r<s'.nx)/\s'.e.x=s.e.x) (List.range' i (ops.size-i)) a w
def iX(P:Program)[aa P](C:aK)(ops:Array Oper)(i k:Nat)(o:Oper)(b:Nat)(s s1:S):Prop:=i<=k/\ops[k]? = some o/\o.guard=none/\bN P (words P) C ops.toList b i ((ops.toList.drop i).take (k-i)) s=s1/\s1.ok/\cu s1.n o.dst=true
def FJ [aa P]{s:S}{id:Nat}{ops:Array Oper}(h:bG P ro ops 0 s.nx { n:=s.n,t:=s.t,h:=s.h,nx:=s.nx+ops.size,ok:=True,e:=s.e } Q):DW P ro (.region id ops false) Q s:=by
 intro B g a w hs hU
 refine wpIn_region ?_
 rw[Zm]
 exact h B g g a w w ⟨hs.sz,hs.tm,hs.mem,hs.df,hs.en,hs.bd⟩ (aB.refl _ _) (λr hr=>by have:=hU r hr;omega)
theorem J3 [aa P](L:List Oper)(b:Nat):∀(l:List Oper)(i:Nat)(u:S),(bN P (words P) C L b i l u).nx=u.nx:=by
 intro l
 induction l with
 | nil=>intro i u;rfl
 | cons x l ih=>intro i u;simp only[bN];rw[ih,xh.2]
theorem Al [aa P](L:List Oper)(b:Nat):∀(l:List Oper)(i:Nat)(u:S),(bN P (words P) C L b i l u).e=u.e:=by
 intro l
 induction l with
 | nil=>intro i u;rfl
 | cons x l ih =>
  intro i u;simp only[bN];rw[ih];unfold bT
  split<;>rfl
def DD [aa P]{s s2:S}{ops:Array Oper}{i b:Nat}(hi:i<=ops.size)(he:bN P (words P) C ops.toList b i (ops.toList.drop i) s=s2)(hok:s2.ok)(hn:s.nx=b+ops.size)(hq:Q .normal s2.clear):bG P ro ops i b s Q:=by
 intro B g0 g a w0 w hs hm hU
 have e3:(ops.toList.drop i).take (ops.size-i)=ops.toList.drop i:=Yh (by simp)
 have:=tK (ro:=ro) (P:=P) (C:=C) (B:=B) (ops:=ops) (b:=b) (n:=0) (rest:=[]) (g0:=g0) (w0:=w0) (Q:=λe a' w'=>∃s' g',Q e s'/\St P B s' g' a' w'/\bQ s.e.x g0 g' w0 w'/\(∀r,g'.U r->r<s'.nx)/\s'.e.x=s.e.x) (ops.size-i) i s g a w hs hm hU om
  (by rw[e3,he];exact hok) λg'' a'' w'' p1 p2 p3=>by
   rw[e3,he]at p1;refine⟨_,g'',hq,p1.clear,p2.toX,λr hr=>?_,?_⟩
   .
    have h3:=p3 r hr;have h4:=J3 (P:=P) (C:=C) ops.toList b (ops.toList.drop i) i s;rw[he]at h4
    show r<s2.nx
    rw[h4,hn];omega
   have h5:=Al (P:=P) (C:=C) ops.toList b (ops.toList.drop i) i s;rw[he]at h5
   show s2.e.x=s.e.x
   rw[h5]
 rw[YZ]at this
 exact this
def MN [aa P]{s s1:S}{ops:Array Oper}{i b:Nat}(k:Nat){o:Oper}{f:Operand}{args:Array Operand}{ts:Array TypeId}{gB:FuncId}{first aP xs:List D}(R:D->H->Nat->Prop)(hik:i<=k)
  (ho:ops[k]? = some o)(hop:o.op = .call { callee:=.value f,args:=args,argTypes:=ts })(hg:o.guard=none)
  (he:bN P (words P) C ops.toList b i ((ops.toList.drop i).take (k-i)) s=s1)(hok:s1.ok)(hd:cu s1.n o.dst=true)
  (hf:s1.ev f = .fn (.func gB) first aP)(hxg:(args.toList.map s1.ev).all sg=true)(hx:((args.toList.map s1.ev).map sd).map wk=xs)(hct:dS P gB (first++xs++aP) s1.h (b+k) R)
  (hk : ∀res h' n',R res h' n'->bG P ro ops (k+1) n' { n:=s1.n,t:=s1.put o.dst res,h:=h',nx:=n'+ops.size,ok:=True,e:=s1.e } Q):bG P ro ops i b s Q:=by
 intro B g0 g a w0 w hs hm hU
 have hlt:k<ops.size:=(Yb.1 ho).1
 have hr:List.range' i (ops.size-i)=List.range' i (k-i)++(k::List.range' (k+1) (ops.size-(k+1))):=by
  have:ops.size-i=(k-i)+((ops.size-(k+1))+1):=by omega
  rw[this,<-ZL,Zi];have e1:i+(k-i)=k:=by omega
  rw[e1]
 rw[hr]
 refine tK (C:=C) (b:=b) (k-i) i s g a w hs hm hU (by omega) (by rw[he];exact hok) λg1 a1 w1 hs1 hm1 eU=>?_
 rw[he]at hs1
 have eU : ∀r,g1.U r->r<b+k:=λr hr=>by have:=eU r hr;omega
 have hse:s1.e=s.e:=by rw[<-he];exact Al _ _ _ _ _
 rw[wpOpsIn_cons]
 unfold wpOpIn
 rw[ho]
 simp only
 have hw:Region.wanted o (yielded ops a1.tmps)=true:=by simp[Region.wanted,hg]
 rw[XY hw]
 have hdef : ∀c,o.op ≠ .defer c:=by intro c e;rw[e]at hop;cases hop
 have iq:o.semAt (Fw ro).round a1.eval=execOp a1.eval o:=Oper.semAt_eq _ _ _ hdef
 refine⟨λ_ _=>trivial,?_⟩
 rw[iq]
 obtain⟨hbd,hct⟩:=hct
 have hfr:=dH hs1 f
 rw[hf]at hfr
 have kJ:=aG.wk (vS (uV hs1 args.toList) hxg)
 rw[hx]at kJ
 generalize hv:a1.eval f=vf at hfr
 cases hfr with|fn _ _ _ fs cs l1 l2 r1 r2 =>
 have hrun:(execOp a1.eval o).run P w1 = .ok (.enter gB (fs++args.map a1.eval++cs)) w1:=by
  simp[execOp,hop,resolve,Deferred.ofValue,hv,invoke,y7 hbd]
 rw[hrun,Oper.uponIn_enter]
 have e:fs++args.map a1.eval++cs=(fs.toList++args.toList.map a1.eval++cs.toList).toArray:=by apply Zh;simp
 rw[e]
 refine⟨λh=>by simp[Fw,Fence.wide]at h,AB ((hct w1 g1 _ hs1.mem eU (aG.append (aG.append ⟨by simpa using l1,λi d x h1 h2=>r1 i d x h1 (by simpa using h2)⟩ kJ) ⟨by simpa using l2,λi d x h1 h2=>r2 i d x h1 (by simpa using h2)⟩)).mono ?_)⟩
 rintro e w' ⟨v,g',res,h',n',hR,rfl,q1,q2,q3,q4⟩
 have hs2:=jl hs1 q3 q2 hd q1 True
 have:=hk res h' n' hR B g0 g' (a1.put o.dst v) w0 w' ⟨hs2.sz,hs2.tm,hs2.mem,hs2.df,hs2.en,hs2.bd⟩ (hm1.trans q3) (λr hr=>by have:=q4 r hr;omega)
 rw[hse]at this
 exact this
def pV [aa P]{s s1:S}{ops:Array Oper}{i b:Nat}(k:Nat){o:Oper}(A:D->H->Prop)(hik:i<=k)(ho:ops[k]? = some o)(hg:o.guard=none)(hdef : ∀c,o.op ≠ .defer c)
  (he:bN P (words P) C ops.toList b i ((ops.toList.drop i).take (k-i)) s=s1)(hok:s1.ok)(hd:cu s1.n o.dst=true)
  (hdo : ∀(B:bS)(g:Mem)(a:Act)(w:World),St P B s1 g a w -> ¬g.U (b+k) -> ∃d h',A d h'/\Does P g w (b+k) ((execOp a.eval o).run P w) d h')
  (hk : ∀d h',A d h'->bG P ro ops (k+1) b { n:=s1.n,t:=s1.put o.dst d,h:=h',nx:=s1.nx,ok:=True,e:=s1.e } Q):bG P ro ops i b s Q:=by
 intro B g0 g a w0 w hs hm hU
 have hlt:k<ops.size:=(Yb.1 ho).1
 have hr:List.range' i (ops.size-i)=List.range' i (k-i)++(k::List.range' (k+1) (ops.size-(k+1))):=by
  have:ops.size-i=(k-i)+((ops.size-(k+1))+1):=by omega
  rw[this,<-ZL,Zi];have e1:i+(k-i)=k:=by omega
  rw[e1]
 rw[hr]
 refine tK (C:=C) (b:=b) (k-i) i s g a w hs hm hU (by omega) (by rw[he];exact hok) λg1 a1 w1 hs1 hm1 eU=>?_
 rw[he]at hs1
 have eU : ∀r,g1.U r->r<b+k:=λr hr=>by have:=eU r hr;omega
 have hse:s1.e=s.e:=by rw[<-he];exact Al _ _ _ _ _
 rw[wpOpsIn_cons]
 unfold wpOpIn
 rw[ho]
 simp only
 have hw:Region.wanted o (yielded ops a1.tmps)=true:=by simp[Region.wanted,hg]
 rw[XY hw]
 have iq:o.semAt (Fw ro).round a1.eval=execOp a1.eval o:=Oper.semAt_eq _ _ _ hdef
 refine⟨λ_ _=>trivial,?_⟩
 rw[iq]
 obtain⟨d,h',hA,v,g',w',hrun,q1,q2,q3,q4⟩:=hdo B g1 a1 w1 hs1 (λh=>Nat.lt_irrefl _ (eU _ h))
 have hend : ∀(v:Value)(g':Mem)(w':World),ag w' g' d v->HM P h' g' w'->aB g1 g' w1 w'->(∀r,g'.U r->g1.U r\/r=b+k)->wpOpsIn (Fw ro) 0 P ops (λe a' w'=>∃s' g',Q e s'/\St P B s' g' a' w'/\bQ s.e.x g0 g' w0 w'/\(∀r,g'.U r->r<s'.nx)/\s'.e.x=s.e.x) (List.range' (k+1) (ops.size-(k+1))) (a1.put o.dst v) w':=by
  intro v g' w' q1 q2 q3 q4;have hs2:=jl hs1 q3 q2 hd q1 True;have:=hk d h' hA B g0 g' (a1.put o.dst v) w0 w' ⟨hs2.sz,hs2.tm,hs2.mem,hs2.df,hs2.en,hs2.bd⟩ (hm1.trans q3) (λr hr=>by
   rcases q4 r hr with h|h
   . have:=eU r h;omega
   omega)
  rw[hse]at this;exact this
 rcases hrun with hrun|⟨hrun,rfl⟩
 . rw[hrun,Oper.uponIn_value];exact hend v g' w' q1 q2 q3 q4
 rw[hrun,Oper.uponIn_skip];exact hend undef g' w' q1 q2 q3 q4
theorem MM [aa P]{s s1:S}{ops:Array Oper}{i b:Nat}(k:Nat){o:Oper}{t e t':TypeId}{x:Operand}{f:Bool}{rows:List (List D)}(hik:i<=k)(ho:ops[k]? = some o)(hg:o.guard=none)
  (hop:o.op = .binOp .eql t x (.const (.slice none 0 0)) t')(ht:P.underlying t=some (.slice e))
  (he:bN P (words P) C ops.toList b i ((ops.toList.drop i).take (k-i)) s=s1)(hok:s1.ok)(hd:cu s1.n o.dst=true)(hx:s1.ev x = .list f rows)
  (hk : ∀y:Bool,(y=true->rows=[])->bG P ro ops (k+1) b { n:=s1.n,t:=s1.put o.dst (.b y),h:=s1.h,nx:=s1.nx,ok:=True,e:=s1.e } Q):bG P ro ops i b s Q:=by
 refine pV (C:=C) k (λd h'=>∃y:Bool,d = .b y/\h'=s1.h/\(y=true->rows=[])) hik ho hg (λc e=>by rw[hop]at e;cases e) he hok hd (λB g a w hs _=>?_) (λd h'⟨y,hy,hh,hr⟩=>by subst hy;subst hh;exact hk y hr)
 have hr:=dH hs x
 rw[hx]at hr
 have key : ∃(ad:Option Addr)(n c:Nat),a.eval x = .slice ad n c/\(ad=none->rows=[]):=by
  generalize a.eval x=v at hr
  cases hr with
  | empty _ ad cap hf hm=>exact⟨ad,0,cap,rfl,λ_=>rfl⟩
  | list _ _ ad cap size cv hI hl hf=>exact⟨some ad,_,cap,rfl,λh=>by cases h⟩
 obtain⟨ad,n,c,hv,hn⟩:=key
 refine⟨.b ad.isNone,s1.h,⟨ad.isNone,rfl,rfl,λh=>hn (Zf.1 h)⟩,.bool ad.isNone,g,w,.inl ?_,.v _,hs.mem,aB.refl _ _,λr hr=>.inl hr⟩
 have hrun:=Go.Lib.run_eql_slice_nil (P:=P) w t e ad n c 0 0 ht
 have hc:a.eval (.const (.slice none 0 0)) = .slice none 0 0:=rfl
 simp[execOp,hop,hv,hc,eqGuard,hrun]
end Go.DL
namespace Go.DL
variable [Dr]
variable {P : Program} {ro : Option Nat} {Q : Exit -> S -> Prop}
attribute [go_sem] List.take_length bne_self_eq_false
@[go_sem]theorem self_ne{n k:Nat}(h:0<k):(n=n+k)=False:=ZT (by omega)
@[go_sem]theorem ne_self{n k:Nat}(h:0<k):(n+k=n)=False:=ZT (by omega)
def ok0{p:Prop}(h:p:=by first|done|(repeat' (with_reducible apply And.intro))<;>first|omega|(with_reducible assumption)|(intros;omega)|(intros;simp only[XV,X3,X8,XT,Ya,X5,Yk]at *;omega)|(simp_all;done)|(simp_all;omega)):p:=h
theorem ev{α:Sort _}{a b:α}(h:a=b:=by first|(simp only[go_sem,ff];exact rfl)|(simp only[go_sem,ff];done)|exact rfl):a=b:=h
def iv{p:Prop}(h:p:=by first|omega|(with_reducible assumption)|rfl|(simp_all;done)|(simp_all;omega)|(dsimp only;first|omega|(with_reducible assumption)|rfl|(simp_all;done)|(simp_all;omega))):p:=h
def mh{α:Sort _}{a b:α}(h:a=b:=by first|(simp only[XV,X3,X8,XT,Ya,X5,Yk,YH,Yx,YM,ZE,ZW,ne_eq];exact rfl)|exact rfl):a=b:=h
abbrev jG(P:Program)(C:aK)(ops:Array Oper)(draw:Bool):Prop:=draw=true->P.follows .mixedOrders=true/\xm C ops.toList=true/\nW ops.toList=true
def iU{p:Prop}(h:p:=by intro hdr;first|(cases hdr;done)|exact⟨mix,by kernel_rfl,by kernel_rfl⟩):p:=h
def iw{p:Prop}(h:p:=by(try dsimp only);(repeat' (with_reducible apply And.intro))<;>exact iv):p:=h
section
variable [aa P] (C : aK) {s : S} {n nx : Nat} {t : Nat -> D} {h : H} {ok : Prop} {e : Env} {id : Nat} {ops : Array Oper} {draw : Bool} {x y c : Code}
def ae(hq:DW P ro y Q ⟨n,t,h,nx,True,e⟩)(he:exec P (words P) C ops.toList s=⟨n,t,h,nx,ok,e⟩:=by simp only[go_sem,ff];exact rfl)(hd:jG P C ops draw:=by exact iU)
  (hok:ok:=by(try simp only[go_sem,ff]);all_goals exact ok0):DW P ro (.seq (.region id ops draw) y) Q s:=mF he hd hok hq
def aA(hq:Q .normal ⟨n,t,h,nx,True,e⟩)(he:exec P (words P) C ops.toList s=⟨n,t,h,nx,ok,e⟩:=by simp only[go_sem,ff];exact rfl)(hd:jG P C ops draw:=by exact iU)
  (hok:ok:=by(try simp only[go_sem,ff]);all_goals exact ok0):DW P ro (.region id ops draw) Q s:=RJ he hd hok hq
end
section
variable [aa P] {s : S} {x y c : Code}
def cd{o:Operand}{b:Bool}{p q:Prop}(ht:p->DW P ro x Q s)(hf:q->DW P ro y Q s)(hc:s.ev o = .v (.bool b):=by first|(simp only[go_sem,ff];exact rfl)|exact rfl)
  (hp:(b=true)=p:=by exact mh)
  (hq:(b=false)=q:=by exact mh):DW P ro (.cond o x y) Q s :=
 Aq hc (λh=>ht (Eq.mp hp h)) (λh=>hf (Eq.mp hq h))
def ce{o:Operand}{b:Bool}{q:Prop}(ht:b=true->DW P ro x Q s)(hf:q->DW P ro y Q s)(hc:s.ev o = .v (.bool b):=by first|(simp only[go_sem,ff];exact rfl)|exact rfl)(hq:(b=false)=q:=by exact mh):DW P ro (.cond o x y) Q s:=Aq hc ht (λh=>hf (Eq.mp hq h))
variable {α : Type} {fx : List (Nat × D)}
def lph(keep:List Nat)(A:α->Prop)(μ:α->Nat)(tb:α->List (Nat×D))(hh:α->H)(fH:α->Nat)(a0:α)(hn:s.nx<=fH a0:=by first|exact X4 _|omega)(hA:A a0)
  (round : ∀a,A a->DW P ro c (thenS (λs'=>∃a',A a'/\μ a'<μ a/\(∀p∈tb a',Tb s'.t p)/\(∀p∈fx,Tb s'.t p)/\(∀r,hh a' r=s'.h r\/hh a' r=none)/\s'.nx<=fH a'/\s'.n=s.n/\s'.e=s.e) Q) { n:=s.n,t:=tab (tb a++fx),h:=hh a,nx:=fH a,e:=s.e })
  (hfx:keep.map (λi=>(i,s.t i))=fx:=by simp only[X9,Yw,go_sem,ff];exact rfl)
  (ht : ∀p∈tb a0,Tb s.t p:=by first|(simp only[go_sem,ff];done)|(simp[go_sem,ff];done)|(simp only[go_sem,ff];(repeat' (with_reducible apply And.intro))<;>first|(left;simp;done)|(right;simp[go_sem];done)))
  (sU : ∀r,hh a0 r=s.h r\/hh a0 r=none:=by exact yz _):DW P ro (.loop c) Q s:=RO keep A μ tb hh fH a0 hfx hA ht sU hn round
def jnh(keep:List Nat)(A:α->Prop)(tb:α->List (Nat×D))(hh:α->H)(fH:α->Nat)
  (h:DW P ro x (thenS (λs'=>∃a,A a/\(∀p∈tb a,Tb s'.t p)/\(∀p∈fx,Tb s'.t p)/\(∀r,hh a r=s'.h r\/hh a r=none)/\s'.nx<=fH a/\s'.n=s.n/\s'.e=s.e) Q) s)
  (k : ∀a,A a->DW P ro y Q { n:=s.n,t:=tab (tb a++fx),h:=hh a,nx:=fH a,e:=s.e })
  (hfx:keep.map (λi=>(i,s.t i))=fx:=by simp only[X9,Yw,go_sem,ff];exact rfl):DW P ro (.seq x y) Q s:=Zem keep A tb hh fH hfx h k
def lq(α:Type)(keep:List Nat)(F:α->Prop×Nat×List (Nat×D)×List (Nat×ax)×Nat)(a0:α)
  (round : ∀a,(F a).1->DW P ro c (thenS (λs'=>∃a',(F a').1/\(F a').2.1<(F a).2.1/\(∀p∈(F a').2.2.1,Tb s'.t p)/\(∀p∈fx,Tb s'.t p)/\(∀p∈(F a').2.2.2.1,s'.h p.1=some p.2)/\s'.nx<=(F a').2.2.2.2/\s'.n=s.n/\s'.e=s.e) Q) { n:=s.n,t:=tab ((F a).2.2.1++fx),h:=htab (F a).2.2.2.1,nx:=(F a).2.2.2.2,e:=s.e })
  (hn:s.nx<=(F a0).2.2.2.2:=by first|exact Nat.le_refl _|(dsimp only;omega))(hA:(F a0).1:=by exact iw)
  (hfx:keep.map (λi=>(i,s.t i))=fx:=by simp only[X9,Yw,go_sem,ff];exact rfl)
  (ht : ∀p∈(F a0).2.2.1,Tb s.t p:=by first|(simp only[go_sem,ff];done)|(simp[go_sem,ff];done)|(simp only[go_sem,ff];(repeat' (with_reducible apply And.intro))<;>first|(left;simp;done)|(right;simp[go_sem];done)))
  (hh : ∀p∈(F a0).2.2.2.1,s.h p.1=some p.2:=by first|(simp only[go_sem,ff];done)|simp[go_sem,ff]):DW P ro (.loop c) Q s :=
 Zei keep (λa=>(F a).1) (λa=>(F a).2.1) (λa=>(F a).2.2.1) (λa=>(F a).2.2.2.1) (λa=>(F a).2.2.2.2) a0 hfx hA ht hh hn round
def zW(α:Type)(keep:List Nat)(F:α->Prop×Nat×List (Nat×D)×H×Nat)(a0:α)
  (round : ∀a,(F a).1->DW P ro c (thenS (λs'=>∃a',(F a').1/\(F a').2.1<(F a).2.1/\(∀p∈(F a').2.2.1,Tb s'.t p)/\(∀p∈fx,Tb s'.t p)/\(∀r,(F a').2.2.2.1 r=s'.h r\/(F a').2.2.2.1 r=none)/\s'.nx<=(F a').2.2.2.2/\s'.n=s.n/\s'.e=s.e) Q) { n:=s.n,t:=tab ((F a).2.2.1++fx),h:=(F a).2.2.2.1,nx:=(F a).2.2.2.2,e:=s.e })
  (hn:s.nx<=(F a0).2.2.2.2:=by first|exact Nat.le_refl _|(dsimp only;omega))(hA:(F a0).1:=by exact iw)
  (hfx:keep.map (λi=>(i,s.t i))=fx:=by simp only[X9,Yw,go_sem,ff];exact rfl)
  (ht : ∀p∈(F a0).2.2.1,Tb s.t p:=by first|(simp only[go_sem,ff];done)|(simp[go_sem,ff];done)|(simp only[go_sem,ff];(repeat' (with_reducible apply And.intro))<;>first|(left;simp;done)|(right;simp[go_sem];done)))
  (sU : ∀r,(F a0).2.2.2.1 r=s.h r\/(F a0).2.2.2.1 r=none:=by exact yz _):DW P ro (.loop c) Q s :=
 RO keep (λa=>(F a).1) (λa=>(F a).2.1) (λa=>(F a).2.2.1) (λa=>(F a).2.2.2.1) (λa=>(F a).2.2.2.2) a0 hfx hA ht sU hn round
end
def ak{α:Type}{A M T F B N E1 E2:α->Prop}(w:α)(h6:N w:=by first|exact Nat.le_refl _|((try dsimp only);omega))(h1:A w:=by exact iw)(h2:M w:=by show(_:Nat)<_;(try dsimp only);first|omega|simp_all;omega)
  (h3:T w:=by(try simp only[go_sem,ff]);all_goals (first|done|(simp;done)|(simp;omega)|((repeat' (with_reducible apply And.intro))<;>first|(left;simp;done)|(right;simp[go_sem];done))))
  (h4:F w:=by(try simp only[go_sem,ff]);all_goals (first|done|(simp;done)|(simp;omega)|((repeat' (with_reducible apply And.intro))<;>first|(left;simp;done)|(right;simp[go_sem];done))))
  (h5:B w:=by first|exact yz _|((try simp only[go_sem,ff]);all_goals (first|done|(simp;done)|(simp;omega)|((repeat' (with_reducible apply And.intro))<;>first|(left;simp;done)|(right;simp[go_sem];done)))))
  (h7:E1 w:=by exact rfl)(h8:E2 w:=by exact rfl):∃a,A a/\M a/\T a/\F a/\B a/\N a/\E1 a/\E2 a:=⟨w,h1,h2,h3,h4,h5,h6,h7,h8⟩
def rnj{α:Type}{A T F B N E1 E2:α->Prop}(w:α)(h6:N w:=by first|exact Nat.le_refl _|((try dsimp only);omega))(h1:A w:=by exact iw)
  (h3:T w:=by(try simp only[go_sem,ff]);all_goals (first|done|(simp;done)|(simp;omega)|((repeat' (with_reducible apply And.intro))<;>first|(left;simp;done)|(right;simp[go_sem];done))))
  (h4:F w:=by(try simp only[go_sem,ff]);all_goals (first|done|(simp;done)|(simp;omega)|((repeat' (with_reducible apply And.intro))<;>first|(left;simp;done)|(right;simp[go_sem];done))))
  (h5:B w:=by first|exact yz _|((try simp only[go_sem,ff]);all_goals (first|done|(simp;done)|(simp;omega)|((repeat' (with_reducible apply And.intro))<;>first|(left;simp;done)|(right;simp[go_sem];done)))))
  (h7:E1 w:=by exact rfl)(h8:E2 w:=by exact rfl):∃a,A a/\T a/\F a/\B a/\N a/\E1 a/\E2 a:=⟨w,h1,h3,h4,h5,h6,h7,h8⟩
def fin{A B:Prop}{Ks Rs:Nat->Prop}(K:Nat)(hr:Rs K:=by(try simp only[go_sem,ff]);all_goals simp)(hk:Ks K:=by(try simp only[go_sem,ff]);all_goals simp)
  (ha:A:=by first|exact .inr rfl|exact .inl rfl|trivial|simp)(hb:B:=by simp only[go_sem,ff]):A/\B /\ ∃k,Ks k/\Rs k:=⟨ha,hb,K,hk,hr⟩
def gN{A B:Prop}{Hs:H->Prop}{Ns:Nat->Prop}{R:H->Nat->Prop}{n':Nat}(h':H)(hn:Ns n':=by first|exact X4 _|omega)(hr:R h' n':=by(try simp only[go_sem,ff]);all_goals simp)(hh:Hs h':=by exact λ_=>.inl rfl)
  (ha:A:=by first|exact .inr rfl|exact .inl rfl|trivial|simp)(hb:B:=by simp only[go_sem,ff]):A/\B /\ ∃h' n',Hs h'/\Ns n'/\R h' n':=⟨ha,hb,h',n',hh,hn,hr⟩
section
variable [aa P] (C : aK) {s s1 : S} {id : Nat} {ops : Array Oper} {o : Oper} {f : Operand} {args : Array Operand} {ts : Array TypeId} {gB : FuncId} {first aP xs : List D} {R : D -> H -> Nat -> Prop}
def Nxt(P:Program)[aa P](C:aK)(L:List Oper)(b i:Nat)(l:List Oper)(u:S)(Q:Exit->S->Prop):Prop:=∃s2,bN P (words P) C L b i l u=s2/\s2.ok/\Q .normal s2.clear
def ib(k:Nat)(ho:ops[k]? = some o:=by exact pK rfl)(hop:o.op = .call { callee:=.value f,args:=args,argTypes:=ts }:=by exact rfl)(hg:o.guard=none:=by exact rfl)
  (he:bN P (words P) C ops.toList s.nx 0 (ops.toList.take k) { n:=s.n,t:=s.t,h:=s.h,nx:=s.nx+k,ok:=s.ok,e:=s.e }=s1:=by simp only[YC,Y1,go_sem,ff];exact rfl)(hok:s1.ok:=by(try simp only[go_sem,ff]);all_goals exact ok0)(hd:cu s1.n o.dst=true:=by(try simp only[go_sem,ff]);all_goals (first|done|rfl|decide|simp))
  (hf:s1.ev f = .fn (.func gB) first aP:=by simp only[go_sem,ff];exact rfl)(hxg:(args.toList.map s1.ev).all sg=true:=by simp only[go_sem,ff])(hx:((args.toList.map s1.ev).map sd).map wk=xs:=by simp only[go_sem,ff];exact rfl)(hct:dS P gB (first++xs++aP) s1.h (s.nx+k) R)
  (hk : ∀res h' n',R res h' n'->Nxt P C ops.toList n' (k+1) (ops.toList.drop (k+1)) { n:=s1.n,t:=s1.put o.dst res,h:=h',nx:=n'+ops.size,ok:=True,e:=s1.e } Q) :
  DW P ro (.region id ops false) Q s:=Zer k R ho hop hg he hok hd hf hxg hx hct hk
def gZ{L:List Oper}{b i:Nat}{l:List Oper}{u:S}{n nx:Nat}{t:Nat->D}{h:H}{ok:Prop}{e:Env}(hq:Q .normal ⟨n,t,h,nx,True,e⟩)(he:bN P (words P) C L b i l u=⟨n,t,h,nx,ok,e⟩:=by simp only[Yv,Yj,S.put,go_sem,ff];exact rfl)(hok:ok:=by(try simp only[go_sem,ff]);all_goals exact ok0) :
  Nxt P C L b i l u Q:=⟨_,he,hok,hq⟩
end
def qA{p0 p1:Prop}(a0:p0)(a1:p1):p0/\p1:=⟨a0,a1⟩
def qB{p0 p1 p2:Prop}(a0:p0)(a1:p1)(a2:p2):p0/\p1/\p2:=⟨a0,a1,a2⟩
def qD{p0 p1 p2 p3:Prop}(a0:p0)(a1:p1)(a2:p2)(a3:p3):p0/\p1/\p2/\p3:=⟨a0,a1,a2,a3⟩
def qE{p0 p1 p2 p3 p4:Prop}(a0:p0)(a1:p1)(a2:p2)(a3:p3)(a4:p4):p0/\p1/\p2/\p3/\p4:=⟨a0,a1,a2,a3,a4⟩
def qF{p0 p1 p2 p3 p4 p5:Prop}(a0:p0)(a1:p1)(a2:p2)(a3:p3)(a4:p4)(a5:p5):p0/\p1/\p2/\p3/\p4/\p5:=⟨a0,a1,a2,a3,a4,a5⟩
def qG{p0 p1 p2 p3 p4 p5 p6:Prop}(a0:p0)(a1:p1)(a2:p2)(a3:p3)(a4:p4)(a5:p5)(a6:p6):p0/\p1/\p2/\p3/\p4/\p5/\p6:=⟨a0,a1,a2,a3,a4,a5,a6⟩
def qH{p0 p1 p2 p3 p4 p5 p6 p7:Prop}(a0:p0)(a1:p1)(a2:p2)(a3:p3)(a4:p4)(a5:p5)(a6:p6)(a7:p7):p0/\p1/\p2/\p3/\p4/\p5/\p6/\p7:=⟨a0,a1,a2,a3,a4,a5,a6,a7⟩
def qI{p0 p1 p2 p3 p4 p5 p6 p7 p8:Prop}(a0:p0)(a1:p1)(a2:p2)(a3:p3)(a4:p4)(a5:p5)(a6:p6)(a7:p7)(a8:p8):p0/\p1/\p2/\p3/\p4/\p5/\p6/\p7/\p8:=⟨a0,a1,a2,a3,a4,a5,a6,a7,a8⟩
def nH(a b:Nat)(h:a≠b:=by omega):((a=b)=False)/\((b=a)=False):=⟨ZT h,ZT h.symm⟩
def oF{p q:Prop}(k:q)(h:p=q:=by first|(simp only[go_sem,ff];exact rfl)|(simp only[go_sem,ff];done)|exact rfl):p:=h▸k
def oS{p q:Prop}(h:p=q:=by first|(simp only[go_sem,ff];exact rfl)|(simp only[go_sem,ff];done)|exact rfl)(k:q):p:=h▸k
def oR{p:Prop}(h:p:=by(try simp only[go_sem,ff]);all_goals (first|rfl|(simp;done))):p:=h
def oH{p r1:Prop}(x1:r1)(h:r1->p:=by intro c1;(try simp only[go_sem,ff]);all_goals (first|done|((repeat' (with_reducible apply And.intro))<;>first|exact c1|exact c1 _|exact c1 _ _|exact c1 _ _ _|(intros;exact c1)|(intros;exact c1 _)|(intros;exact c1 _ _)|omega|(intros;omega)|(intro h;cases h)|(intro h;simp at h;done)|(intros;simp;done)|skip))):p:=h x1
def oI{p r1 r2:Prop}(x1:r1)(x2:r2)(h:r1->r2->p:=by intro c1 c2;(try simp only[go_sem,ff]);all_goals (first|done|((repeat' (with_reducible apply And.intro))<;>first|exact c1|exact c1 _|exact c1 _ _|exact c1 _ _ _|(intros;exact c1)|(intros;exact c1 _)|(intros;exact c1 _ _)|exact c2|exact c2 _|exact c2 _ _|exact c2 _ _ _|(intros;exact c2)|(intros;exact c2 _)|(intros;exact c2 _ _)|omega|(intros;omega)|(intro h;cases h)|(intro h;simp at h;done)|(intros;simp;done)|skip))):p:=h x1 x2
def oJ{p r1 r2 r3:Prop}(x1:r1)(x2:r2)(x3:r3)(h:r1->r2->r3->p:=by intro c1 c2 c3;(try simp only[go_sem,ff]);all_goals (first|done|((repeat' (with_reducible apply And.intro))<;>first|exact c1|exact c1 _|exact c1 _ _|exact c1 _ _ _|(intros;exact c1)|(intros;exact c1 _)|(intros;exact c1 _ _)|exact c2|exact c2 _|exact c2 _ _|exact c2 _ _ _|(intros;exact c2)|(intros;exact c2 _)|(intros;exact c2 _ _)|exact c3|exact c3 _|exact c3 _ _|exact c3 _ _ _|(intros;exact c3)|(intros;exact c3 _)|(intros;exact c3 _ _)|omega|(intros;omega)|(intro h;cases h)|(intro h;simp at h;done)|(intros;simp;done)|skip))):p:=h x1 x2 x3
def og{p:Prop}(h:p:=by first|omega|(intros;omega)|(intro h;cases h;done)|(intro h;simp at h;done)|(intro h;simp at h;omega)|(intro h;simp only[XT,XV]at h;omega)|(intro h;simp only[XT,XV]at h;have:=h.2;omega)|(intros;simp_all;done)|(intros;simp;done)|rfl):p:=h
def oz{p r:Prop}(x:r)(h:r->p:=by intro c;(try simp only[go_sem,ff]);all_goals (first|done|((repeat' (with_reducible apply And.intro))<;>first|exact c|exact c.1|exact c.2|exact c.2.1|exact c.2.2|exact c.2.2.1|exact c.2.2.2|exact c.2.2.2.1|exact c.2.2.2.2|exact c.2.2.2.2.1|exact c.2.2.2.2.2|exact c.2.2.2.2.2.1|exact c.2.2.2.2.2.2|exact c _|exact c _ _|exact c _ _ _|exact c.1 _|exact c.1 _ _|exact c.1 _ _ _|exact c.2 _|exact c.2 _ _|exact c.2 _ _ _|exact c.2.1 _|exact c.2.1 _ _|exact c.2.1 _ _ _|exact c.2.2 _|exact c.2.2 _ _|exact c.2.2 _ _ _|exact c.2.2.1 _|exact c.2.2.1 _ _|exact c.2.2.1 _ _ _|exact c.2.2.2 _|exact c.2.2.2 _ _|exact c.2.2.2 _ _ _|exact c.2.2.2.1 _|exact c.2.2.2.1 _ _|exact c.2.2.2.1 _ _ _|exact c.2.2.2.2 _|exact c.2.2.2.2 _ _|exact c.2.2.2.2 _ _ _|exact c.2.2.2.2.1 _|exact c.2.2.2.2.1 _ _|exact c.2.2.2.2.1 _ _ _|exact c.2.2.2.2.2 _|exact c.2.2.2.2.2 _ _|exact c.2.2.2.2.2 _ _ _|exact c.2.2.2.2.2.1 _|exact c.2.2.2.2.2.1 _ _|exact c.2.2.2.2.2.1 _ _ _|exact c.2.2.2.2.2.2 _|exact c.2.2.2.2.2.2 _ _|exact c.2.2.2.2.2.2 _ _ _|(intros;first|exact c|exact c _|exact c _ _)|(intros;first|exact c.1|exact c.1 _|exact c.1 _ _)|(intros;first|exact c.2|exact c.2 _|exact c.2 _ _)|(intros;first|exact c.2.1|exact c.2.1 _|exact c.2.1 _ _)|(intros;first|exact c.2.2|exact c.2.2 _|exact c.2.2 _ _)|(intros;first|exact c.2.2.1|exact c.2.2.1 _|exact c.2.2.1 _ _)|(intros;first|exact c.2.2.2|exact c.2.2.2 _|exact c.2.2.2 _ _)|(intros;first|exact c.2.2.2.1|exact c.2.2.2.1 _|exact c.2.2.2.1 _ _)|(intros;first|exact c.2.2.2.2|exact c.2.2.2.2 _|exact c.2.2.2.2 _ _)|(intros;first|exact c.2.2.2.2.1|exact c.2.2.2.2.1 _|exact c.2.2.2.2.1 _ _)|(intros;first|exact c.2.2.2.2.2|exact c.2.2.2.2.2 _|exact c.2.2.2.2.2 _ _)|(intros;first|exact c.2.2.2.2.2.1|exact c.2.2.2.2.2.1 _|exact c.2.2.2.2.2.1 _ _)|(intros;first|exact c.2.2.2.2.2.2|exact c.2.2.2.2.2.2 _|exact c.2.2.2.2.2.2 _ _)|exact og))):p:=h x
def ic{p r1:Prop}(x1:r1)(h:r1->p:=by intro c1;(try simp only[go_sem,ff]);all_goals (first|done|((repeat' (with_reducible apply And.intro))<;>first|(apply c1<;>omega)|(intros;apply c1<;>omega)|exact og))):p:=h x1
def oa2{p r1 r2:Prop}(x1:r1)(x2:r2)(h:r1->r2->p:=by intro c1 c2;(try simp only[go_sem,ff]);all_goals (first|done|((repeat' (with_reducible apply And.intro))<;>first|(apply c1<;>omega)|(apply c2<;>omega)|(intros;apply c1<;>omega)|(intros;apply c2<;>omega)|exact og))):p:=h x1 x2
def oa3{p r1 r2 r3:Prop}(x1:r1)(x2:r2)(x3:r3)(h:r1->r2->r3->p:=by intro c1 c2 c3;(try simp only[go_sem,ff]);all_goals (first|done|((repeat' (with_reducible apply And.intro))<;>first|(apply c1<;>omega)|(apply c2<;>omega)|(apply c3<;>omega)|(intros;apply c1<;>omega)|(intros;apply c2<;>omega)|(intros;apply c3<;>omega)|exact og))):p:=h x1 x2 x3
def oa4{p r1 r2 r3 r4:Prop}(x1:r1)(x2:r2)(x3:r3)(x4:r4)(h:r1->r2->r3->r4->p:=by intro c1 c2 c3 c4;(try simp only[go_sem,ff]);all_goals (first|done|((repeat' (with_reducible apply And.intro))<;>first|(apply c1<;>omega)|(apply c2<;>omega)|(apply c3<;>omega)|(apply c4<;>omega)|(intros;apply c1<;>omega)|(intros;apply c2<;>omega)|(intros;apply c3<;>omega)|(intros;apply c4<;>omega)|exact og))):p:=h x1 x2 x3 x4
def oN [aa P]{s:S}(h:Q .ret s):DW P ro .ret Q s:=iA h
section
variable [aa P] (C : aK) {s : S} {n nx : Nat} {t : Nat -> D} {h : H} {ok : Prop} {e : Env} {id : Nat} {ops : Array Oper} {draw : Bool} {x y c : Code} {o : Operand} {b : Bool} {p q : Prop}
def oK(ht:p->DW P ro x (thenS (DW P ro y Q) Q) ⟨n,t,h,nx,True,e⟩)(hf:q->DW P ro y Q ⟨n,t,h,nx,True,e⟩)(he:exec P (words P) C ops.toList s=⟨n,t,h,nx,ok,e⟩:=by simp only[go_sem,ff];exact rfl)(hd:jG P C ops draw:=by exact iU)
  (hok:ok:=by(try simp only[go_sem,ff]);all_goals exact ok0)(hc:S.ev ⟨n,t,h,nx,True,e⟩ o = .v (.bool b):=by first|(simp only[go_sem,ff];exact rfl)|exact rfl)(hp:(b=true)=p:=by exact mh)(hq:(b=false)=q:=by exact mh):DW P ro (.seq (.seq (.region id ops draw) (.cond o x .skip)) y) Q s :=
 aU (mF he hd hok (cd ht (λk=>fB (hf k)) hc hp hq))
def oL(ht:p->DW P ro y Q ⟨n,t,h,nx,True,e⟩)(hf:q->DW P ro x (thenS (DW P ro y Q) Q) ⟨n,t,h,nx,True,e⟩)(he:exec P (words P) C ops.toList s=⟨n,t,h,nx,ok,e⟩:=by simp only[go_sem,ff];exact rfl)(hd:jG P C ops draw:=by exact iU)
  (hok:ok:=by(try simp only[go_sem,ff]);all_goals exact ok0)(hc:S.ev ⟨n,t,h,nx,True,e⟩ o = .v (.bool b):=by first|(simp only[go_sem,ff];exact rfl)|exact rfl)(hp:(b=true)=p:=by exact mh)(hq:(b=false)=q:=by exact mh):DW P ro (.seq (.seq (.region id ops draw) (.cond o .skip x)) y) Q s :=
 aU (mF he hd hok (cd (λk=>fB (ht k)) hf hc hp hq))
def wA{id2:Nat}(hq:DW P ro x (AO id2 (thenS (DW P ro y Q) Q)) ⟨n,t,h,nx,True,e⟩)(he:exec P (words P) C ops.toList s=⟨n,t,h,nx,ok,e⟩:=by simp only[go_sem,ff];exact rfl)(hd:jG P C ops draw:=by exact iU)(hok:ok:=by(try simp only[go_sem,ff]);all_goals exact ok0):DW P ro (.seq (.seq (.region id ops draw) (.block id2 x)) y) Q s:=aU (mF he hd hok (dO hq))
def wE(ht:p->DW P ro x Q ⟨n,t,h,nx,True,e⟩)(hf:q->DW P ro y Q ⟨n,t,h,nx,True,e⟩)(he:exec P (words P) C ops.toList s=⟨n,t,h,nx,ok,e⟩:=by simp only[go_sem,ff];exact rfl)(hd:jG P C ops draw:=by exact iU)(hok:ok:=by(try simp only[go_sem,ff]);all_goals exact ok0)(hc:S.ev ⟨n,t,h,nx,True,e⟩ o = .v (.bool b):=by first|(simp only[go_sem,ff];exact rfl)|exact rfl)(hp:(b=true)=p:=by exact mh)(hq:(b=false)=q:=by exact mh):DW P ro (.seq (.region id ops draw) (.cond o x y)) Q s:=mF he hd hok (cd ht hf hc hp hq)
def wG(ht:b=true->DW P ro x Q ⟨n,t,h,nx,True,e⟩)(hf:q->DW P ro y Q ⟨n,t,h,nx,True,e⟩)(he:exec P (words P) C ops.toList s=⟨n,t,h,nx,ok,e⟩:=by simp only[go_sem,ff];exact rfl)(hd:jG P C ops draw:=by exact iU)(hok:ok:=by(try simp only[go_sem,ff]);all_goals exact ok0)(hc:S.ev ⟨n,t,h,nx,True,e⟩ o = .v (.bool b):=by first|(simp only[go_sem,ff];exact rfl)|exact rfl)(hq:(b=false)=q:=by exact mh):DW P ro (.seq (.region id ops draw) (.cond o x y)) Q s:=mF he hd hok (Aq hc ht (λh=>hf (Eq.mp hq h)))
def wF(ht:p->DW P ro x (thenS (DW P ro c Q) Q) ⟨n,t,h,nx,True,e⟩)(hf:q->DW P ro y (thenS (DW P ro c Q) Q) ⟨n,t,h,nx,True,e⟩)(he:exec P (words P) C ops.toList s=⟨n,t,h,nx,ok,e⟩:=by simp only[go_sem,ff];exact rfl)(hd:jG P C ops draw:=by exact iU)(hok:ok:=by(try simp only[go_sem,ff]);all_goals exact ok0)(hc:S.ev ⟨n,t,h,nx,True,e⟩ o = .v (.bool b):=by first|(simp only[go_sem,ff];exact rfl)|exact rfl)(hp:(b=true)=p:=by exact mh)(hq:(b=false)=q:=by exact mh):DW P ro (.seq (.region id ops draw) (.seq (.cond o x y) c)) Q s:=mF he hd hok (aU (cd ht hf hc hp hq))
def wH(ht:b=true->DW P ro x (thenS (DW P ro c Q) Q) ⟨n,t,h,nx,True,e⟩)(hf:q->DW P ro y (thenS (DW P ro c Q) Q) ⟨n,t,h,nx,True,e⟩)(he:exec P (words P) C ops.toList s=⟨n,t,h,nx,ok,e⟩:=by simp only[go_sem,ff];exact rfl)(hd:jG P C ops draw:=by exact iU)(hok:ok:=by(try simp only[go_sem,ff]);all_goals exact ok0)(hc:S.ev ⟨n,t,h,nx,True,e⟩ o = .v (.bool b):=by first|(simp only[go_sem,ff];exact rfl)|exact rfl)(hq:(b=false)=q:=by exact mh):DW P ro (.seq (.region id ops draw) (.seq (.cond o x y) c)) Q s:=mF he hd hok (aU (Aq hc ht (λh=>hf (Eq.mp hq h))))
def oM(ht:b=true->DW P ro x (thenS (DW P ro y Q) Q) ⟨n,t,h,nx,True,e⟩)(hf:q->DW P ro y Q ⟨n,t,h,nx,True,e⟩)(he:exec P (words P) C ops.toList s=⟨n,t,h,nx,ok,e⟩:=by simp only[go_sem,ff];exact rfl)(hd:jG P C ops draw:=by exact iU)(hok:ok:=by(try simp only[go_sem,ff]);all_goals exact ok0)(hc:S.ev ⟨n,t,h,nx,True,e⟩ o = .v (.bool b):=by first|(simp only[go_sem,ff];exact rfl)|exact rfl)(hq:(b=false)=q:=by exact mh):DW P ro (.seq (.seq (.region id ops draw) (.cond o x .skip)) y) Q s:=oK C ht hf he hd hok hc rfl hq
def oT(ht:b=true->DW P ro y Q ⟨n,t,h,nx,True,e⟩)(hf:q->DW P ro x (thenS (DW P ro y Q) Q) ⟨n,t,h,nx,True,e⟩)(he:exec P (words P) C ops.toList s=⟨n,t,h,nx,ok,e⟩:=by simp only[go_sem,ff];exact rfl)(hd:jG P C ops draw:=by exact iU)(hok:ok:=by(try simp only[go_sem,ff]);all_goals exact ok0)(hc:S.ev ⟨n,t,h,nx,True,e⟩ o = .v (.bool b):=by first|(simp only[go_sem,ff];exact rfl)|exact rfl)(hq:(b=false)=q:=by exact mh):DW P ro (.seq (.seq (.region id ops draw) (.cond o .skip x)) y) Q s:=oL C ht hf he hd hok hc rfl hq
def wC{Q1:Exit->S->Prop}(hq:Q .normal ⟨n,t,h,nx,True,e⟩)(h0:Q1 .normal s=DW P ro (.region id ops draw) Q s:=by exact rfl)(he:exec P (words P) C ops.toList s=⟨n,t,h,nx,ok,e⟩:=by simp only[go_sem,ff];exact rfl)(hd:jG P C ops draw:=by exact iU)(hok:ok:=by(try simp only[go_sem,ff]);all_goals exact ok0):DW P ro .skip Q1 s:=fB (h0▸RJ he hd hok hq)
end
def wB [aa P]{s:S}{x y:Code}{id:Nat}{Q1:Exit->S->Prop}(h:DW P ro x (AO id (thenS (DW P ro y Q) Q)) s)(h0:Q1 .normal s=DW P ro (.seq (.block id x) y) Q s:=by exact rfl):DW P ro .skip Q1 s:=fB (h0▸aU (dO h))
def wD [aa P]{s:S}{x y:Code}{id:Nat}(h:DW P ro x (AO id (thenS (DW P ro y Q) Q)) s):DW P ro (.seq (.block id x) y) Q s:=aU (dO h)
def oO [aa P]{f:FuncId}{fn:Func}{c:Code}{args:List D}{res:D}(hf:P.funcs[f]? = some fn)
  (h:True->DW P none c (λe s=>(e = .normal\/e = .ret)/\sJ P s fn.results.toList /\ ∃k,d9 s.h k (ng P fn.results.toList s)/\wk (ed s.h k (ng P fn.results.toList s))=res) { n:=fn.ntmps,t:=λi=>args.getD i .junk,h:=λ_=>none,nx:=0,ok:=True,e:=Env.tt })
  (hb:fn.body=some c:=by exact rfl)(hbd:jy P f=true:=by kernel_rfl)(hnr:args.all D.nr=true:=by simp[go_sem,D.nr,bV,bg])(hn:args.length<=fn.ntmps:=by exact Nat.le_of_ble_eq_true (by kernel_rfl)):PureCt P f args res:=Nq hf hb hbd hnr hn (h trivial)
def oP [aa P]{f:FuncId}{fn:Func}{c:Code}{args:List D}{h:H}{n:Nat}{R:D->H->Nat->Prop}(hf:P.funcs[f]? = some fn)
  (hw:(∀r,n<=r->h r=none)->True->DW P none c (λe s=>(e = .normal\/e = .ret)/\sJ P s fn.results.toList /\ ∃h' n',(∀r,h' r=s.h r\/h' r=none)/\s.nx<=n'/\R (ng P fn.results.toList s) h' n') { n:=fn.ntmps,t:=λi=>args.getD i .junk,h:=h,nx:=n })
  (hb:fn.body=some c:=by exact rfl)(hbd:jy P f=true:=by kernel_rfl)(hn:args.length<=fn.ntmps:=by exact Nat.le_of_ble_eq_true (by kernel_rfl)):dS P f args h n R:=Nf hf hb hbd hn (λk=>hw k trivial)
def oC [aa P](C:aK){s:S}{n1 nx1:Nat}{t1:Nat->D}{h1:H}{ok1:Prop}{e1:Env}{id1:Nat}{yl:Array Oper}{CF:Bool}{n2 nx2:Nat}{t2:Nat->D}{h2:H}{ok2:Prop}{e2:Env}{id2:Nat}{yj:Array Oper}{CE:Bool}{y:Code}(hq:DW P ro y Q ⟨n2,t2,h2,nx2,True,e2⟩)(he1:exec P (words P) C yl.toList s=⟨n1,t1,h1,nx1,ok1,e1⟩:=by simp only[go_sem,ff];exact rfl)(hd1:jG P C yl CF:=by exact iU)(hok1:ok1:=by(try simp only[go_sem,ff]);all_goals exact ok0)(he2:exec P (words P) C yj.toList ⟨n1,t1,h1,nx1,True,e1⟩=⟨n2,t2,h2,nx2,ok2,e2⟩:=by simp only[go_sem,ff];exact rfl)(hd2:jG P C yj CE:=by exact iU)(hok2:ok2:=by(try simp only[go_sem,ff]);all_goals exact ok0):DW P ro (.seq (.region id1 yl CF) (.seq (.region id2 yj CE) y)) Q s:=(mF he1 hd1 hok1 (mF he2 hd2 hok2 hq))
def oD [aa P](C:aK){s:S}{n1 nx1:Nat}{t1:Nat->D}{h1:H}{ok1:Prop}{e1:Env}{id1:Nat}{yl:Array Oper}{CF:Bool}{n2 nx2:Nat}{t2:Nat->D}{h2:H}{ok2:Prop}{e2:Env}{id2:Nat}{yj:Array Oper}{CE:Bool}{n3 nx3:Nat}{t3:Nat->D}{h3:H}{ok3:Prop}{e3:Env}{id3:Nat}{Iq:Array Oper}{RY:Bool}{y:Code}(hq:DW P ro y Q ⟨n3,t3,h3,nx3,True,e3⟩)(he1:exec P (words P) C yl.toList s=⟨n1,t1,h1,nx1,ok1,e1⟩:=by simp only[go_sem,ff];exact rfl)(hd1:jG P C yl CF:=by exact iU)(hok1:ok1:=by(try simp only[go_sem,ff]);all_goals exact ok0)(he2:exec P (words P) C yj.toList ⟨n1,t1,h1,nx1,True,e1⟩=⟨n2,t2,h2,nx2,ok2,e2⟩:=by simp only[go_sem,ff];exact rfl)(hd2:jG P C yj CE:=by exact iU)(hok2:ok2:=by(try simp only[go_sem,ff]);all_goals exact ok0)(he3:exec P (words P) C Iq.toList ⟨n2,t2,h2,nx2,True,e2⟩=⟨n3,t3,h3,nx3,ok3,e3⟩:=by simp only[go_sem,ff];exact rfl)(hd3:jG P C Iq RY:=by exact iU)(hok3:ok3:=by(try simp only[go_sem,ff]);all_goals exact ok0):DW P ro (.seq (.region id1 yl CF) (.seq (.region id2 yj CE) (.seq (.region id3 Iq RY) y))) Q s:=(mF he1 hd1 hok1 (mF he2 hd2 hok2 (mF he3 hd3 hok3 hq)))
def oV{p r:Prop}(x:r)(h:r->p:=by intro c1;(try simp only[go_sem,ff]at c1);(try simp only[go_sem,ff]);exact c1):p:=h x
section
variable [aa P] {s : S} {A B q : Prop} {Ks Rs : Nat -> Prop}
theorem fo(K:Nat:=0)(e:Q .ret s=(A/\B /\ ∃k,Ks k/\Rs k):=by exact rfl)(h:Rs K=q:=by first|(simp only[go_sem,ff];exact rfl)|(simp only[go_sem,ff];done)|exact rfl)(k:q)(hk:Ks K:=by(try simp only[go_sem,ff]);all_goals simp)(ha:A:=by first|exact .inr rfl|exact .inl rfl|trivial|simp)(hb:B:=by simp only[go_sem,ff]):DW P ro .ret Q s:=iA (e▸⟨ha,hb,K,hk,h▸k⟩)
theorem fp(K:Nat:=0)(e:Q .ret s=(A/\B /\ ∃k,Ks k/\Rs k):=by exact rfl)(h:Rs K:=by(try simp only[go_sem,ff]);all_goals (first|rfl|(simp;done)))(hk:Ks K:=by(try simp only[go_sem,ff]);all_goals simp)(ha:A:=by first|exact .inr rfl|exact .inl rfl|trivial|simp)(hb:B:=by simp only[go_sem,ff]):DW P ro .ret Q s:=iA (e▸⟨ha,hb,K,hk,h⟩)
end
section
variable [aa P] {s : S} {A B q : Prop} {Ks Rs : Nat -> Prop} (C : aK) {n nx : Nat} {t : Nat -> D} {h : H} {ok : Prop} {e : Env} {id : Nat} {ops : Array Oper} {draw : Bool}
def fr(he:exec P (words P) C ops.toList s=⟨n,t,h,nx,ok,e⟩:=by simp only[go_sem,ff];exact rfl)(hd:jG P C ops draw:=by exact iU)(hok:ok:=by(try simp only[go_sem,ff]);all_goals exact ok0)(K:Nat:=0)(he0:Q .ret ⟨n,t,h,nx,True,e⟩=(A/\B /\ ∃k,Ks k/\Rs k):=by exact rfl)(h:Rs K=q:=by first|(simp only[go_sem,ff];exact rfl)|(simp only[go_sem,ff];done)|exact rfl)(k:q)(hk:Ks K:=by(try simp only[go_sem,ff]);all_goals simp)(ha:A:=by first|exact .inr rfl|exact .inl rfl|trivial|simp)(hb:B:=by simp only[go_sem,ff]):DW P ro (.seq (.region id ops draw) .ret) Q s:=mF he hd hok (fo K he0 h k hk ha hb)
def ft(he:exec P (words P) C ops.toList s=⟨n,t,h,nx,ok,e⟩:=by simp only[go_sem,ff];exact rfl)(hd:jG P C ops draw:=by exact iU)(hok:ok:=by(try simp only[go_sem,ff]);all_goals exact ok0)(K:Nat:=0)(he0:Q .ret ⟨n,t,h,nx,True,e⟩=(A/\B /\ ∃k,Ks k/\Rs k):=by exact rfl)(h:Rs K:=by(try simp only[go_sem,ff]);all_goals (first|rfl|(simp;done)))(hk:Ks K:=by(try simp only[go_sem,ff]);all_goals simp)(ha:A:=by first|exact .inr rfl|exact .inl rfl|trivial|simp)(hb:B:=by simp only[go_sem,ff]):DW P ro (.seq (.region id ops draw) .ret) Q s:=mF he hd hok (fp K he0 h hk ha hb)
end
def pos [aa P]{C:aK}{ops:Array Oper}{i k b:Nat}{o:Oper}{s s1:S}(hik:i<=k:=by omega)(ho:ops[k]? = some o:=by exact pK rfl)(hg:o.guard=none:=by exact rfl)(he:bN P (words P) C ops.toList b i ((ops.toList.drop i).take (k-i)) s=s1:=by simp only[Yv,Yj,YC,Y1,S.put,Zu,Nat.reduceSub,go_sem,ff];first|done|exact rfl)
  (hok:s1.ok:=by(try simp only[go_sem,ff]);all_goals exact ok0)(hd:cu s1.n o.dst=true:=by(try simp only[go_sem,ff]);all_goals (first|done|rfl|decide|simp)):iX P C ops i k o b s s1:=⟨hik,ho,hg,he,hok,hd⟩
end Go.DL
namespace Go.DL
variable [Dr]
variable {P : Program} {ro : Option Nat} {Q : Exit -> S -> Prop}
def l7(P:Program)[aa P](ro:Option Nat)(c:Code)(Q:Exit->S->Prop):Nat->S->Prop
 | 0,_=>False
 | m+1,s=>DW P ro c (thenS (λs'=>l7 P ro c Q m s'/\s'.n=s.n) Q) s
theorem Zef [aa P]{c:Code}{s:S}(m:Nat)(h:l7 P ro c Q m s):DW P ro (.loop c) Q s:=by
 refine Zej (λs'=>∃m,l7 P ro c Q m s') (λs'=>leastOf λm=>l7 P ro c Q m s') ⟨m,h⟩ λs' hI hn=>?_
 obtain⟨h1,h2⟩:=leastOf_spec hI
 generalize hk:(leastOf λm=>l7 P ro c Q m s')=k at h1 h2 ⊢
 cases k with
 | zero=>exact h1.elim
 | succ k =>
  refine DW.mono h1 λe s'' hq=>?_
  cases e with
  | normal =>
   obtain⟨q1,q2⟩:=hq;exact⟨⟨k,q1⟩,q2.trans hn,Nat.lt_of_le_of_lt ((leastOf_spec (p:=λm=>l7 P ro c Q m s'') ⟨k,q1⟩).2 k q1) (Nat.lt_succ_self _)⟩
  | _=>exact hq
end Go.DL
namespace Go.DL
variable [Dr]
open Go.RowKit
variable {P : Program} {ro : Option Nat} {Q : Exit -> S -> Prop}
section
variable {C : aK}
end
section
variable [aa P] (C : aK) {s s1 : S} {id : Nat} {ops : Array Oper} {o : Oper} {f : Operand} {args : Array Operand} {ts : Array TypeId} {gB : FuncId} {first aP xs : List D} {R : D -> H -> Nat -> Prop}
end
end Go.DL
namespace Go.DL
variable [Dr]
open Go.RowKit
variable {P : Program} {ro : Option Nat} {Q : Exit -> S -> Prop}
def Dh [aa P]{h:H}{g:Mem}{w:World}(hm:HM P h g w){e:TypeId}{r off c b:Nat}{rows news:List (List D)}{cs:List Value}(hr:h r=some ⟨e,rows⟩)(hM:g.M r=some (some b,c,P.cellsOf e))(hcm:c<=maxLen)
  (hR:RowsIn w g (P.cellsOf e) news cs)(ho:off<=rows.length)(hc:off+news.length<=c) :
  ∃cur:Array Value,w.heap[b]? = some (.cells cur e (0,0))/\off*P.cellsOf e+cs.length<=cur.size /\ ∀new:Array Value,new=(cur.toList.take (off*P.cellsOf e)++cs++cur.toList.drop (off*P.cellsOf e+cs.length)).toArray ->
   ∃g',g'.M r=g.M r/\g'.U r/\HM P (upd h r (some ⟨e,rows.take off++news++rows.drop (off+news.length)⟩)) g' (w.setRow b new)/\aB g g' w (w.setRow b new) /\ ∀q,g'.U q->g.U q:=by
 obtain⟨blk,c',h1,h2,h3,h4,h5⟩:=hm.blk r _ hr
 rw[hM]at h1
 simp only[XU,Yu]at h1
 obtain⟨rfl,rfl,_⟩:=h1
 rcases h5 with⟨h5,_⟩|⟨b',cur,h5,k1,k2,_,k4⟩
 . cases h5
 cases h5
 have k1:=k1.cells hcm
 have k2:=k2 hcm
 simp only at h2 h3 k1 k2 k4
 have hcl:cs.length=news.length*P.cellsOf e:=hR.1
 have hfit:off*P.cellsOf e+cs.length<=cur.size:=by
  rw[hcl,k2,<-Ze];exact YT _ hc
 refine⟨cur,k1,hfit,λnew hnew=>?_⟩
 have e1:cur.toList.length=cur.size:=Array.length_toList
 have hsize:new.size=cur.size:=by rw[hnew];simp;omega
 have hA:=k4.rowsIn 0 off (by show 0+off<=rows.length;omega) (by rw[k2];exact YT _ h3)
 have hB:=hA.append hR
 have hend:off+news.length+(rows.length-(off+news.length))<=rows.length\/rows.length-(off+news.length)=0:=by omega
 have hC:RowsIn w g (P.cellsOf e) (rows.drop (off+news.length)) ((cur.toList.drop ((off+news.length)*P.cellsOf e)).take ((rows.length-(off+news.length))*P.cellsOf e)):=by
  rcases hend with hl|hl
  .
   have:=k4.rowsIn (off+news.length) (rows.length-(off+news.length)) hl (by rw[k2];exact YT _ h3)
   have e2:(rows.drop (off+news.length)).take (rows.length-(off+news.length))=rows.drop (off+news.length):=Yh (by simp)
   rw[e2]at this;exact this
  have e2:rows.drop (off+news.length)=[]:=YU om;rw[e2,hl]
  simpa using RowsIn.nil
 have Qo:=hB.append hC
 simp only[Yj,Nat.zero_mul]at Qo
 have hnl:(rows.take off++news++rows.drop (off+news.length)).length<=c:=by simp;omega
 have hdrop:off*P.cellsOf e+cs.length=(off+news.length)*P.cellsOf e:=by rw[hcl,Ze]
 obtain⟨g',g1,g2,g3,g4,g5⟩:=hm.put (h':=upd h r (some ⟨e,rows.take off++news++rows.drop (off+news.length)⟩)) (w':=w.setRow b new) r b c ⟨e,rows.take off++news++rows.drop (off+news.length)⟩ new (.inr hM) (bK _ _ _) (λq hq=>.inl (aL _ _ _ _ hq)) (.inr ⟨r,c,_,hM,.inl rfl⟩)
  (setRow_heap w b cur _ e _ k1) (by rw[hsize,k2]) h2 hnl hcm (Qo.holds (by
   rw[hnew];simp only[hdrop];generalize List.take (off*P.cellsOf e) cur.toList++cs=X;rw[Yr,List.take_append,Yh (by omega),Nat.add_sub_cancel_left,Y7]
   congr 1
   rw[List.take_eq_take_iff];omega))
  ⟨rfl,rfl,rfl,by simp,λk _ hk=>setRow_other w b k _ (λe=>hk (by rw[e]))⟩
 refine⟨g',by rw[g1,hM],(g2 r).2 (.inr rfl),g4,g5,λq hq=>?_⟩
 rcases(g2 q).1 hq with k|k
 . exact k
 subst k;exact hm.used q (by rw[hM];simp)
def O1 [aa P]{h:H}{g:Mem}{w:World}(hm:HM P h g w){e:TypeId}{r off len k:Nat}{rows:List (List D)}{v:Value}(hr:h r=some ⟨e,rows⟩)(hv:ag w g (.mrow r off len) v)(hk:k<=len)(hl:off+k<=rows.length) :
  ∃cs,RowsIn w g (P.cellsOf e) ((rows.drop off).take k) cs/\(∀w',(Builtin.lenOf v).run P w' = .ok len w') /\ ∀w',w'.heap=w.heap->(Builtin.firstCells (P.cellsOf e) k v).run P w' = .ok cs.toArray w':=by
 obtain⟨blk,c,h1,h2,h3,h4,h5⟩:=hm.blk r _ hr
 cases hv with|mrow _ _ _ _ hx hU hvv =>
 obtain⟨p1,p2⟩:=hvv _ _ _ h1
 simp only at h2 h3 h5
 by_cases hk0:k=0
 .
  subst hk0;obtain⟨a,c',rfl,_,_⟩:=hx;refine⟨[],by simpa using RowsIn.nil,λw'=>by simp[Builtin.lenOf],λw' _=>?_⟩
  cases a<;>simp[Builtin.firstCells,loadCells,loadCellsFrom]
 rcases p2 with⟨_,a,rfl⟩|⟨hne,b,rfl,rfl⟩
 .
  obtain⟨a',c',e1,e2,_⟩:=hx
  cases e1
  omega
 rcases h5 with⟨h5,_⟩|⟨b',cur,h5,k1,k2,_,k4⟩
 . cases h5
 cases h5
 have k1:=k1.cells p1.2
 have k2:=k2 p1.2
 have hR:RowsIn w g (P.cellsOf e) ((rows.drop off).take k) ((cur.toList.drop (off*P.cellsOf e)).take (k*P.cellsOf e)):=k4.rowsIn off k hl (by rw[k2];exact YT _ h3)
 refine⟨_,hR,λw'=>by simp[Builtin.lenOf],λw' hw=>?_⟩
 have hlen:=hR.1
 have hkl:((rows.drop off).take k).length=k:=by rw[Y7,Zj];omega
 rw[hkl]at hlen
 refine run_firstCells_some (P:=P) w' (P.cellsOf e) k _ len _ _ hlen λj v hj=>?_
 rw[kT,cell_of_row w' b _ cur e (0,0) (by rw[hw];exact k1)]
 rw[Y6]at hj
 split at hj
 . rw[YO]at hj;simpa using hj
 cases hj
def Zfi [aa P]{h:H}{g:Mem}{w:World}(hm:HM P h g w){t u e:TypeId}{r off len r2 jP lw k:Nat}{rows kC:List (List D)}{vx vy:Value}(ht:P.underlying t=some (.slice e))(hr:h r=some ⟨e,rows⟩)(hr2:h r2=some ⟨e,kC⟩)
  (hx:ag w g (.mrow r off len) vx)(hy:ag w g (.mrow r2 jP lw) vy)(hk:k=min lw len)(h0:0<k)(ho:off<=rows.length)(hl:jP+k<=kC.length)(ty:TypeId) :
  ∃g' w',(Builtin.copy_ #[t,u] ty #[vx,vy]).run P w = .ok (.int .i64 k) w'/\HM P (upd h r (some ⟨e,rows.take off++(kC.drop jP).take k++rows.drop (off+k)⟩)) g' w'/\aB g g' w w' /\ ∀q,g'.U q->g.U q:=by
 obtain⟨blk,c,h1,h2,h3,h4,h5⟩:=hm.blk r _ hr
 simp only at h1 h2 h3
 have hkl:k<=len:=by omega
 obtain⟨cs,r1,l1,f1⟩:=O1 hm hr2 hy (k:=k) om hl
 have hnl:((kC.drop jP).take k).length=k:=by rw[Y7,Zj];omega
 cases hx with|mrow _ _ _ _ fV hU hvv =>
 obtain⟨p1,p2⟩:=hvv _ _ _ h1
 rcases p2 with⟨e0,a,rfl⟩|⟨e0,b,rfl,rfl⟩
 .
  obtain⟨a',c',e1,e2,_⟩:=fV
  cases e1
  omega
 obtain⟨cur,c1,c2,c3⟩:=Dh hm (off:=off) hr h1 p1.2 r1 ho (by rw[hnl];exact Yt (Nat.add_le_add_left hkl _) p1.1)
 obtain⟨g',q1,q2,q3,q4,q5⟩:=c3 _ rfl
 rw[hnl]at q3
 have hst:=run_storeCells_at P b (off*P.cellsOf e) e cs 0 cur w c1 (by simpa using c2) r1.one
 simp only[ZB]at hst
 have hmin:Nat.min lw len=k:=hk.symm
 refine⟨g',_,?_,q3,q4,q5⟩
 simp[Builtin.copy_,run_underlying ht,l1,mU h2,hmin,f1,hst,goInt]
def Env.lim(E:Env)(r c:Nat):Env where
 p:=λg w=>E.p g w/\g.U r /\ ∀blk c' sz,g.M r=some (blk,c',sz)->c'=c
 x:=E.x
 st:=λP _ h g g' w w' hm k⟨h1,h2,h3⟩=>⟨E.st P h g g' w w' hm k h1,@aB.U drF _ _ _ _ k r h2,λblk c' sz he=>by
  rcases @aB.M drF _ _ _ _ k r h2 with e|e
  . exact h3 blk c' sz (e▸he)
  . rw[e]at he;cases he⟩
theorem Zgk [aa P]{h:H}{g:Mem}{w:World}(hm:HM P h g w){t u e:TypeId}{kk:IntKind}{r off n m c b:Nat}{rows:List (List D)}{vx:Value}(hb : ¬g.U b)(ht:P.underlying t=some (.slice e))(hu:P.underlying u=some (.int kk))(hr:h r=some ⟨e,rows⟩)(hx:ag w g (.mrow r off n) vx)
  (hM : ∀blk c' sz,g.M r=some (blk,c',sz)->c'=c)(hz:dJ P e=true)(h1z:(zeroCells P e).all D.one=true)(hdef:(zeroCells P e).length=P.cellsOf e)(hc:c<off+n+m)(hl:off+n<=rows.length)(hby:(n+m)*P.bytesOf e<=140737488355328)(h63:n+m<=4611686018427387904)(ty:TypeId) :
  ∃v g' w',(Builtin.append_ #[t,u] ty #[vx,.int .i64 m]).run P w = .ok v w'/\ag w' g' (.mrow b 0 (n+m)) v/\HM P (upd h b (some ⟨e,(rows.drop off).take n++List.replicate m (zeroCells P e)⟩)) g' w'/\aB g g' w w' /\ ∀q,g'.U q->g.U q\/q=b:=by
 obtain⟨blk,c',h1,h2,h3,h4,h5⟩:=hm.blk r _ hr
 simp only at h1 h2 h3
 have hcc:=hM _ _ _ h1
 subst hcc
 obtain⟨i,hi,hs⟩:=wW h2
 have hz':=hz
 unfold dJ at hz'
 cases hzz:i.zero with
 | none=>simp[hi,hzz]at hz'
 | some z =>
 simp only[hi,hzz,Option.bind_some,Yx]at hz'
 have Qj:i.bytes=P.bytesOf e:=by simp[Program.bytesOf,hi]
 obtain⟨olds,o1,o2,o3⟩:=O1 hm hr hx (k:=n) (X4 _) hl
 have hv : ∃a cap,vx = .slice a n cap/\n<=cap/\cap<=c'-off:=by
  cases hx with|mrow _ _ _ _ fV hU hvv =>
  obtain⟨p1,p2⟩:=hvv _ _ _ h1
  rcases p2 with⟨e0,a,rfl⟩|⟨e0,b0,rfl,rfl⟩
  .
   obtain⟨a',c'',e1,e2,_⟩:=fV
   cases e1
   exact⟨a,0,rfl,X4 _,Yl _⟩
  exact⟨_,_,rfl,om,X4 _⟩
 obtain⟨a,cap,rfl,v1,v2⟩:=hv
 have hgr:cap<n+m:=by omega
 have hm0:0<m:=by omega
 have hrep:RowsIn w g (P.cellsOf e) (List.replicate m (zeroCells P e)) (Builtin.zeroCells z.cells m).toList:=by
  refine⟨by simp[size_zeroCells,hz'],λj row hj=>?_⟩
  obtain⟨hjl,hje⟩:=X0.1 hj;simp only[List.length_replicate]at hjl;simp only[List.getElem_replicate]at hje;subst hje;refine⟨hdef,λq d hq=>?_⟩
  obtain⟨hrz,hone,hcl⟩:=Df (P:=P) hi hzz w g h1z;have hql:q<P.cellsOf e:=by have:=(X0.1 hq).1;omega
  refine⟨z.cells[q]!,?_,?_,?_⟩
  . simp only[YL];have hlt:=Ab hjl hql;unfold Builtin.zeroCells;simp only[Array.getElem?_map,hz'];rw[Array.getElem?_range,XY hlt];simp only[YP];rw[Zx,ZP,Zy hql]
  .
   have hq':q<z.cells.size:=by omega
   rw[getElem!_pos z.cells q hq'];exact hone _ (by simp)
  have hq':q<z.cells.size:=by omega
  rw[getElem!_pos z.cells q hq'];exact hrz.2 q d _ hq (by simp[hq'])
 have Qb:((rows.drop off).take n++List.replicate m (zeroCells P e)).length=n+m:=by simp;omega
 have hge:=grownCap_ge w (n+m) cap e
 obtain⟨g',k1,k2,k3,k4⟩:=Fa (h':=upd h b (some ⟨e,(rows.drop off).take n++List.replicate m (zeroCells P e)⟩)) hm hb (o1.append hrep) h2 hz' (bK _ _ _) (λr hr=>.inl (aL _ _ _ _ hr)) (grownCap w (n+m) cap e) (by rw[Qb];exact hge) (by omega)
  (grownCap_le_maxLen _ _ _ _ (by simp only[maxLen];omega))
 rw[Qb]at k1 k2 k3
 have hap:(Builtin.append_ #[t,u] ty #[.slice a n cap,.int .i64 m]).run P w = .ok (.slice (some ⟨w.heap.size,0,none⟩) (n+m) (grownCap w (n+m) cap e))
   (w.drew.alloc (.cells ((olds++(Builtin.zeroCells z.cells m).toList).toArray++Builtin.zeroCells z.cells (grownCap w (n+m) cap e-(n+m))) e)):=by
  have e1 : ¬(n+m<=cap):=by omega
  have e2:IntKind.i64.wrap (m:Int)=m:=by rw[IntKind.wrap_i64];omega
  have e3 : ¬((m:Int)<0):=by omega
  have hmb:m*P.bytesOf e<=140737488355328:=Yt (YT _ om) hby;have e4 : ¬(281474976710656<(m:Int)*(i.bytes:Int)):=by
   rw[Qj];have e9:((m*P.bytesOf e:Nat):Int)=(m:Int)*(P.bytesOf e:Int):=by simp
   omega
  have e5 : ¬(9223372036854775807<(n:Int)+(m:Int)):=by omega
  have h48 : ¬(281474976710656<Builtin.nextslicecap (n+m) cap*i.bytes):=by have:=growslice_fits (bytes:=i.bytes) hgr (by rw[Qj];exact hby);omega
  have e6 : ¬(m*P.cellsOf e=0):=by
   intro h
   rcases Nat.mul_eq_zero.1 h with h|h<;>omega
  have e7 : ¬(m*i.size=0):=by rw[hs];exact e6
  have ho:=o3 w.drew rfl;rw[<-hs]at ho;have eA : ∀Z:Array Value,(olds++(Builtin.zeroCells z.cells m).toList).toArray++Z=olds.toArray++(Builtin.zeroCells z.cells m++Z):=λZ=>by apply Zh;simp
  rw[eA]
  simp[Builtin.append_,run_underlying ht,run_underlying hu,sizeOf,typeInfo,zeroValue,hi,hzz,asInt,asIntOf,e1,e2,e3,e4,e5,e7,h48,Question.forced,ho,newRow,grownCap]
 exact⟨_,g',_,hap,k1,k2,k3,k4⟩
def W9 [aa P]{C:aK}{s s1:S}{ops:Array Oper}{i b:Nat}(k:Nat){o:Oper}(A:D->H->Env->Prop)(hik:i<=k)(ho:ops[k]? = some o)(hg:o.guard=none)(hdef : ∀c,o.op ≠ .defer c)
  (he:bN P (words P) C ops.toList b i ((ops.toList.drop i).take (k-i)) s=s1)(hok:s1.ok)(hd:cu s1.n o.dst=true)
  (hdo : ∀(B:bS)(g:Mem)(a:Act)(w:World),St P B s1 g a w -> ¬g.U (b+k) -> ∃d h' E v g' w',A d h' E/\E.x=s1.e.x/\(execOp a.eval o).run P w = .ok (.value v) w'/\ag w' g' d v/\HM P h' g' w'/\aB g g' w w'/\(∀r,g'.U r->g.U r\/r=b+k)/\E.p g' w')
  (hk : ∀d h' E,A d h' E->bG P ro ops (k+1) b { n:=s1.n,t:=s1.put o.dst d,h:=h',nx:=s1.nx,ok:=True,e:=E } Q):bG P ro ops i b s Q:=by
 intro B g0 g a w0 w hs hm hU
 have hlt:k<ops.size:=(Yb.1 ho).1
 have hr:List.range' i (ops.size-i)=List.range' i (k-i)++(k::List.range' (k+1) (ops.size-(k+1))):=by
  have:ops.size-i=(k-i)+((ops.size-(k+1))+1):=by omega
  rw[this,<-ZL,Zi];have e1:i+(k-i)=k:=by omega
  rw[e1]
 rw[hr]
 refine tK (C:=C) (b:=b) (k-i) i s g a w hs hm hU (by omega) (by rw[he];exact hok) λg1 a1 w1 hs1 hm1 eU=>?_
 rw[he]at hs1
 have eU : ∀r,g1.U r->r<b+k:=λr hr=>by have:=eU r hr;omega
 have hse:s1.e=s.e:=by rw[<-he];exact Al _ _ _ _ _
 rw[wpOpsIn_cons]
 unfold wpOpIn
 rw[ho]
 simp only
 have hw:Region.wanted o (yielded ops a1.tmps)=true:=by simp[Region.wanted,hg]
 rw[XY hw]
 have iq:o.semAt (Fw ro).round a1.eval=execOp a1.eval o:=Oper.semAt_eq _ _ _ hdef
 refine⟨λ_ _=>trivial,?_⟩
 rw[iq]
 obtain⟨d,h',E,v,g',w',hA,hx,hrun,q1,q2,q3,q4,q5⟩:=hdo B g1 a1 w1 hs1 (λh=>Nat.lt_irrefl _ (eU _ h))
 have hs2:=jl hs1 q3 q2 hd q1 True
 have:=hk d h' E hA B g0 g' (a1.put o.dst v) w0 w' ⟨hs2.sz,hs2.tm,hs2.mem,hs2.df,q5,hs2.bd⟩ (hm1.trans q3) (λr hr=>by
  rcases q4 r hr with h|h
  . have:=eU r h;omega
  omega)
 simp only[hx,hse]at this
 rw[hrun,Oper.uponIn_value]
 exact this
section
variable [aa P] {C : aK} {s s1 : S} {ops : Array Oper} {i b : Nat} {o : Oper}
def Xc(k:Nat){t u e:TypeId}{x y:Operand}{r off len r2 jP lw:Nat}(m:Nat){rows kC:List (List D)}(z9:iX P C ops i k o b s s1)
  (hop:o.op = .call { callee:=.builtin .copy,args:=#[x,y],argTypes:=#[t,u] })(ht:P.underlying t=some (.slice e))
  (hx:s1.ev x = .mrow r off len)(hy:s1.ev y = .mrow r2 jP lw)(hr:s1.h r=some ⟨e,rows⟩)(hr2:s1.h r2=some ⟨e,kC⟩)
  (hm:m=min lw len)(h0:0<m)(hlo:off<=rows.length)(hl:jP+m<=kC.length)
  (hk:bG P ro ops (k+1) b { n:=s1.n,t:=s1.put o.dst (.i m),h:=upd s1.h r (some ⟨e,rows.take off++(kC.drop jP).take m++rows.drop (off+m)⟩),nx:=s1.nx,ok:=True,e:=s1.e } Q):bG P ro ops i b s Q:=by
 obtain⟨hik,ho,hg,he,hok,hd⟩:=z9
 refine pV (C:=C) k (λd h'=>d = .i m/\h'=upd s1.h r (some ⟨e,rows.take off++(kC.drop jP).take m++rows.drop (off+m)⟩)) hik ho hg (λc e=>by rw[hop]at e;cases e) he hok hd (λB g a w hst _=>?_) (λd h'⟨hy,hh⟩=>by subst hy;subst hh;exact hk)
 have hv:=dH hst x
 rw[hx]at hv
 have hv2:=dH hst y
 rw[hy]at hv2
 obtain⟨g',w',q1,q2,q3,q4⟩:=Zfi (u:=u) hst.mem ht hr hr2 hv hv2 hm h0 hlo hl o.type
 refine⟨_,_,⟨rfl,rfl⟩,_,g',w',.inl ?_,.v _,q2,q3,λr hr=>.inl (q4 r hr)⟩
 obtain⟨od,oo,nu,op,oa,og⟩:=o
 simp only at hop
 subst hop
 simp[Go.BigFrame.execOp_builtin,Go.BigFrame.builtin_copy,q1]
def WW(k:Nat){t e:TypeId}{x hi:Operand}{r off len m c:Nat}{rows:List (List D)}{E:Env}(z9:iX P C ops i k o b s s1)
  (hop:o.op = .slice t x none (some hi) none)(ht:P.underlying t=some (.slice e))
  (hx:s1.ev x = .mrow r off len)(hh:s1.ev hi = .i m)(hr:s1.h r=some ⟨e,rows⟩)(hE:s1.e=Env.lim E r c)(hc:off+m<=c)(h0:0<m)(hl:off<rows.length)
  (hk:bG P ro ops (k+1) b { n:=s1.n,t:=s1.put o.dst (.mrow r off m),h:=s1.h,nx:=s1.nx,ok:=True,e:=s1.e } Q):bG P ro ops i b s Q:=by
 obtain⟨hik,ho,hg,he,hok,hd⟩:=z9
 refine pV (C:=C) k (λd h'=>d = .mrow r off m/\h'=s1.h) hik ho hg (λc e=>by rw[hop]at e;cases e) he hok hd (λB g a w hst _=>?_) (λd h'⟨hy,hh⟩=>by subst hy;subst hh;exact hk)
 have hv:=dH hst x
 rw[hx]at hv
 have hvh:=(dH hst hi)
 rw[hh]at hvh
 have hvh:=hvh.v_inv
 have hen:=hst.en
 rw[hE]at hen
 obtain⟨_,hU,hcap⟩:=hen
 obtain⟨blk,c0,h1,h2,h3,h4,h5⟩:=hst.mem.blk r _ hr
 have hc0:=hcap _ _ _ h1
 subst hc0
 simp only at h2 h3
 generalize qm:a.eval x=v at hv
 cases hv with|mrow _ _ _ _ fV _ hvv =>
 obtain⟨p1,p2⟩:=hvv _ _ _ h1
 rcases p2 with⟨e0,_⟩|⟨e0,b0,rfl,rfl⟩
 . omega
 have r2:=r9 (P:=P) (o:=some (.i m)) (vo:=some (a.eval hi)) (d:=len) (y:=c0-off) (w:=w) (g:=g) (by rw[hvh];exact .v _) rfl (by simp[bnd]) (by simp only[bnd];omega) (if true then .sliceAcap else .sliceAlen)
 have r1:=r9 (P:=P) (o:=none) (vo:=none) (d:=0) (y:=(bnd (some (.i m)) len).toNat) (w:=w) (g:=g) trivial rfl (by simp[bnd]) (by simp[bnd]) .sliceB
 have hrun:=Dy ht h2 (a:=some ⟨b0,off*P.cellsOf e,none⟩) (len:=len) (vm:=none) (Gf (P:=P) (len:=len) r2 r1)
 have hz : ¬(c0-off=0):=by omega
 simp only[bnd,Int.toNat_natCast,hz,Y0,Nat.zero_mul,Nat.sub_zero,YP,kT,ZB]at hrun
 have hmc:m<=c0-off:=by omega
 refine⟨_,_,⟨rfl,rfl⟩,.slice (some ⟨b0,off*P.cellsOf e,none⟩) m (c0-off),g,w,.inl ?_,.mrow r off m _ ⟨_,_,rfl,hmc,λ_=>⟨_,rfl⟩⟩ hU λblk c' sz hq=>?_,hst.mem,aB.refl _ _,λr hr=>.inl hr⟩
 .
  obtain⟨od,oo,nu,op,oa,og⟩:=o;simp only at hop;subst hop
  simp[execOp,qm,hrun]
 rw[h1]at hq
 simp only[XU,Yu]at hq
 obtain⟨rfl,rfl,rfl⟩:=hq
 exact⟨om,.inr ⟨e0,b0,rfl,rfl⟩⟩
def Xe(k:Nat){t e:TypeId}{x:Operand}{r off len:Nat}{rows:List (List D)}(z9:iX P C ops i k o b s s1)
  (hop:o.op = .call { callee:=.builtin .cap,args:=#[x],argTypes:=#[t] })(ht:P.underlying t=some (.slice e))
  (hx:s1.ev x = .mrow r off len)(hr:s1.h r=some ⟨e,rows⟩)
  (hk : ∀c:Nat,len<=c->c<=maxLen->bG P ro ops (k+1) b { n:=s1.n,t:=s1.put o.dst (.i c),h:=s1.h,nx:=s1.nx,ok:=True,e:=Env.lim s1.e r (off+c) } Q):bG P ro ops i b s Q:=by
 obtain⟨hik,ho,hg,he,hok,hd⟩:=z9
 refine W9 (C:=C) k (λd h' E=>∃c:Nat,d = .i c/\h'=s1.h/\E=Env.lim s1.e r (off+c)/\len<=c/\c<=maxLen) hik ho hg (λc e=>by rw[hop]at e;cases e) he hok hd (λB g a w hst _=>?_) (λd h' E⟨c,h1,h2,h3,h4,h5⟩=>by subst h1;subst h2;subst h3;exact hk c h4 h5)
 have hv:=dH hst x
 rw[hx]at hv
 obtain⟨blk,c0,h1,h2,h3,h4,h5⟩:=hst.mem.blk r _ hr
 have key : ∃(ad:Option Addr)(c:Nat),a.eval x = .slice ad len c/\len<=c/\c<=maxLen/\c0=off+c/\g.U r:=by
  generalize a.eval x=v at hv
  cases hv with|mrow _ _ _ _ fV hU hvv =>
  obtain⟨p1,p2⟩:=hvv _ _ _ h1;obtain⟨a',c',e1,e2,_⟩:=fV
  rcases p2 with⟨e0,a,rfl⟩|⟨e0,b0,rfl,rfl⟩
  .
   cases e1
   exact⟨a',0,rfl,om,Yl _,om,hU⟩
  cases e1
  exact⟨_,_,rfl,e2,om,om,hU⟩
 obtain⟨ad,c,k1,k2,k3,k4,k5⟩:=key
 refine⟨_,_,_,.int .i64 c,g,w,⟨c,rfl,rfl,rfl,k2,k3⟩,rfl,?_,.v _,hst.mem,aB.refl _ _,λr hr=>.inl hr,hst.en,k5,λblk c' sz hq=>?_⟩
 .
  obtain⟨od,oo,nu,op,oa,og⟩:=o;simp only at hop;subst hop
  simp[Go.BigFrame.execOp_builtin,Go.BigFrame.builtin_cap,k1,Builtin.cap_,run_underlying ht,goInt]
 rw[h1]at hq
 simp only[XU,Yu]at hq
 obtain⟨rfl,rfl,rfl⟩:=hq
 exact k4
def Xh(k:Nat){t u e:TypeId}{kk:IntKind}{x y:Operand}{r off n m c:Nat}{rows:List (List D)}{E:Env}(z9:iX P C ops i k o b s s1)
  (hop:o.op = .call { callee:=.builtin .append,args:=#[x,y],argTypes:=#[t,u] })(ht:P.underlying t=some (.slice e))(hu:P.underlying u=some (.int kk))(hz:dJ P e=true)(h1z:(zeroCells P e).all D.one=true)(hdef:(zeroCells P e).length=P.cellsOf e)
  (hx:s1.ev x = .mrow r off n)(hy:s1.ev y = .i m)(hr:s1.h r=some ⟨e,rows⟩)(hE:s1.e=Env.lim E r c)(hc:c<off+n+m)(hl:off+n<=rows.length)(hby:(n+m)*P.bytesOf e<=140737488355328)(h63:n+m<=4611686018427387904)
  (hk:bG P ro ops (k+1) b { n:=s1.n,t:=s1.put o.dst (.mrow (b+k) 0 (n+m)),h:=upd s1.h (b+k) (some ⟨e,(rows.drop off).take n++List.replicate m (zeroCells P e)⟩),nx:=s1.nx,ok:=True,e:=s1.e } Q):bG P ro ops i b s Q:=by
 obtain⟨hik,ho,hg,he,hok,hd⟩:=z9
 refine pV (C:=C) k (λd h'=>d = .mrow (b+k) 0 (n+m)/\h'=upd s1.h (b+k) (some ⟨e,(rows.drop off).take n++List.replicate m (zeroCells P e)⟩)) hik ho hg (λc e=>by rw[hop]at e;cases e) he hok hd (λB g a w hst hbk=>?_) (λd h'⟨hy,hh⟩=>by subst hy;subst hh;exact hk)
 have hv:=dH hst x
 rw[hx]at hv
 have yG:=dH hst y
 rw[hy]at yG
 have yG:=yG.v_inv
 have hen:=hst.en
 rw[hE]at hen
 obtain⟨v,g',w',q1,q2,q3,q4,q5⟩:=Zgk hst.mem hbk ht hu hr hv hen.2.2 hz h1z hdef hc hl hby h63 o.type
 refine⟨_,_,⟨rfl,rfl⟩,v,g',w',.inl ?_,q2,q3,q4,q5⟩
 obtain⟨od,oo,nu,op,oa,og⟩:=o
 simp only at hop
 subst hop
 simp[Go.BigFrame.execOp_builtin,Go.BigFrame.builtin_append,yG,q1]
end
end Go.DL
namespace Go.DL
variable [Dr]
open Go.RowKit
variable {P : Program} {ro : Option Nat} {Q : Exit -> S -> Prop}
section
variable [aa P] {C : aK} {s s1 : S} {ops : Array Oper} {i b : Nat} {o : Oper}
end
end Go.DL
namespace Go.DL
variable [Dr]
open Go.RowKit
variable {P : Program} {C : aK} {B : bS}
theorem uy{ops:Array Oper}{listed:Array Bool}(hsz:listed.size=ops.size){i:Nat} :
  i∈Region.ready .any ops listed↔∃h:i<ops.size,listed.getD i false=false /\ ∀e∈(ops[i]).after.toList,Region.binds .any e=true->listed.getD e.on false=true:=by
 unfold Region.ready
 simp only[YJ,Y2,XT,X5]
 constructor
 .
  rintro⟨hlt,h1,h2⟩;have h3:ops[i]? = some ops[i]:=by simp[hlt]
  simp only[h3,YP,YD]at h2;have hil:i<listed.size:=by omega
  refine⟨hlt,by simp[Array.getD,hil]at h1 ⊢;exact h1,λe he hb=>?_⟩
  rw[Array.all_eq_true]at h2;obtain⟨q,hq,rfl⟩:=Array.mem_iff_getElem.1 (Array.mem_toList_iff.1 he);have:=h2 q hq;simp only[hb,Bool.not_true,Bool.false_or]at this;exact this
 rintro⟨hlt,h1,h2⟩
 have h3:ops[i]? = some ops[i]:=by simp[hlt]
 have hil:i<listed.size:=by omega
 refine⟨hlt,by simp[Array.getD,hil]at h1 ⊢;exact h1,?_⟩
 simp only[h3,YP,YD]
 rw[Array.all_eq_true]
 intro q hq
 simp only[X8,X5]
 cases hb:Region.binds .any (ops[i].after[q])with
 | false=>exact .inl rfl
 | true=>exact .inr (h2 _ (by simp) hb)
theorem L6{ops:Array Oper}{F:Fence}{n k2:Nat}{Q:Exit->Act->World->Prop}(hback : ∀(i:Nat)o,ops.toList[i]? = some o -> ∀e∈o.after.toList,Region.binds .any e=true->e.on<i)
  (ER : ∀i,k2<=i->i<ops.size -> ∀j,j<i->((dX ops.toList []).getD i 0).testBit j=true) :
  ∀(c m fuel:Nat)(listed:Array Bool)(a:Act)(w:World),m+c=ops.size->k2<=m->listed.size=ops.size->(∀j,j<ops.size->listed.getD j false=decide (j<m))->c<=fuel ->
   wpOpsIn F n P ops Q (List.range' m c) a w->wpAnyIn F n P .any ops Q fuel listed a w:=by
 intro c
 induction c with
 | zero =>
  intro m fuel listed a w hm hk hsz hl hf h;have hr:Region.ready .any ops listed=[]:=by
   rw[List.eq_nil_iff_forall_not_mem];intro i hi;obtain⟨h1,h2,_⟩:=(uy hsz).1 hi;rw[hl i h1]at h2
   simp at h2;omega
  cases fuel with
  | zero=>exact⟨hr,h⟩
  | succ fuel=>exact⟨λ_=>h,λi hi=>by rw[hr]at hi;cases hi⟩
 | succ c ih =>
  intro m fuel listed a w hm hk hsz hl hf h;have hlt:m<ops.size:=by omega
  cases fuel with
  | zero=>omega
  | succ fuel =>
   rw[Zi,wpOpsIn_cons]at h;refine⟨λhr=>?_,λi hi=>?_⟩
   .
    exfalso
    have:m∈Region.ready .any ops listed:=(uy hsz).2 ⟨hlt,by rw[hl m hlt];simp,λe he hb=>by
     have:=hback m ops[m] (by simp[hlt]) e he hb
     rw[hl e.on (by omega)];simpa using this⟩
    rw[hr]at this;cases this
   obtain⟨h1,h2,h3⟩:=(uy hsz).1 hi;rw[hl i h1]at h2;have hmi:m<=i:=by simp at h2;omega
   have e:i=m:=by
    by_cases q:i=m
    . exact q
    exfalso
    have:=AP (L:=ops.toList) (X:=λk=>k<m) (λk o ho hk e he hb=>by have:=hback k o ho e he hb;omega) i ops[i] (by simp[h1]) (λe he hb=>by
     have h4:=h3 e he hb;have h5:=hback i ops[i] (by simp[h1]) e he hb
     rw[hl e.on (by omega)]at h4
     simpa using h4) m (ER i om h1 m om)
    omega
   subst e;refine wpOpIn_mono (λa' w' h'=>ih (i+1) fuel _ a' w' om om (by simp[hsz]) (λj hj=>?_) om h') h
   by_cases q:j=i
   .
    subst q;have hil:j<listed.size:=by omega
    simp[Array.getD,hil]
   rw[getD_set_ne false (Ne.symm q),hl j hj]
   by_cases q2:j<i
   . simp[q2];omega
   have : ¬j<i+1:=by omega
   simp[q2,this]
def pX(C:aK)(o:Oper):Bool:=o.guard.isNone&&(match bA C o.op with | .writes=>false|_=>true) && !yF o.op
def DV{o:Oper}(h:pX C o=true):o.guard=none/\bA C o.op ≠ .writes/\yF o.op=false:=by
 simp only[pX,XT,Zf,X5]at h
 refine⟨h.1.1,λe=>?_,h.2⟩
 have:=h.1.2
 rw[e]at this;cases this
theorem Zd4 [aa P]{W:bf}{op:Op}{xs:List D}{h:H}{b b':Nat}(hc:bA C op ≠ .writes):aH P W C op xs h b=aH P W C op xs h b':=by
 unfold aH
 split<;>first
  | rfl
  | (exfalso;exact hc rfl)
  | skip
 have hb:C.bs=false:=by
  cases hb:C.bs with
  | false=>rfl
  | true=>exact absurd (by simp[bA,hb]) hc
 simp only[hb,Ye,Y0]
theorem Za0 [aa P]{W:bf}{L:List Oper}{b b' i:Nat}{o:Oper}{ev:Operand->D}{t:Nat->D}{n:Nat}{h:H}(hq:pX C o=true) :
  aJ P W C L b i o n ev t h=aJ P W C L b' i o n ev t h:=by
 obtain⟨h1,h2,_⟩:=DV hq
 simp only[aJ,h1,au]
 split
 . rfl
 rw[Zd4 (b:=b+i) (b':=b'+i) h2]
def Nk [aa P]{W:bf}{L:List Oper}{b i:Nat}{o:Oper}{s:S}(hq:pX C o=true):(bT P W C L b i o s).h=s.h:=by
 rw[jB]
 exact zH (DV hq).2.1
theorem ZaA{L:List Oper}{x y:Oper}(hx:pX C x=true)(hy:pX C y=true)(hs:gK L x y=true):xA C L x y=true:=by
 simp only[gK,XT]at hs
 simp only[xA,XT,X5]
 refine⟨hs,?_⟩
 have h1:=(DV hx).2.1
 have h2:=(DV hy).2.1
 revert h1 h2
 generalize bA C x.op=a
 generalize bA C y.op=c
 intro h1 h2
 cases a<;>cases c<;>first|rfl|(exact absurd rfl h1)|(exact absurd rfl h2)
theorem JL [aa P]{W:bf}{L:List Oper}{b:Nat}:∀(l:List Nat)(s:S),(∀i∈l,∀o,L[i]? = some o->pX C o=true)->(l.foldl (run1 P W C L b) s).h=s.h
 | [],s,_=>rfl
 | i::l,s,h=>by
  simp only[YB];rw[JL l _ λk hk=>h k (by simp[hk])]
  unfold run1
  cases hi:L[i]? with
  | none=>rfl
  | some o=>exact Nk (h i (by simp) o hi)
theorem JS [aa P]{W:bf}{L:List Oper}{b b' m:Nat}{d:Option Tmp}{res:D}{h':H}{sq:S}:∀(l:List Nat)(s:S),l.Pairwise (· < ·) ->
  (∀i∈l,∀o,L[i]? = some o->pX C o=true/\(∀z,d=some z->z ∉ looks L o/\o.dst≠some z)/\(∀j∈l,i<=j -> ∀y,L[j]? = some y -> ∀z∈looks L o,y.dst≠some z)
   /\ aJ P W C L b i o sq.n sq.ev sq.t h'=((aJ P W C L b i o sq.n sq.ev sq.t sq.h).1,h',(aJ P W C L b i o sq.n sq.ev sq.t sq.h).2.2)) ->
  l.foldl (run1 P W C L b) s=sq->sq.ok ->
  l.foldl (run1 P W C L b') { n:=s.n,t:=s.put d res,h:=h',nx:=m,ok:=True,e:=s.e }={ n:=sq.n,t:=sq.put d res,h:=h',nx:=m,ok:=True,e:=sq.e }
 | [],s,_,_,hf,_=>by
  simp only[ZI]at hf ⊢;rw[hf]
 | i::l,s,hp,hh,hf,hok=>by
  simp only[YB]at hf ⊢;have hp':=Zo.1 hp
  cases hi:L[i]? with
  | none =>
   have e : ∀c u,run1 P W C L c u i=u:=λc u=>by simp only[run1,hi]
   rw[e]at hf ⊢;exact JS l s hp'.2 (λk hk o ho=>by
    obtain⟨q1,q2,q3,q4⟩:=hh k (by simp[hk]) o ho
    exact⟨q1,q2,λj hj=>q3 j (by simp[hj]),q4⟩) hf hok
  | some o =>
   have e : ∀c u,run1 P W C L c u i=bT P W C L c i o u:=λc u=>by simp only[run1,hi]
   obtain⟨q1,q2,q3,q4⟩:=hh i (by simp) o hi
   have hT : ∀z∈looks L o,sq.t z=s.t z:=by
    intro z hz;rw[<-hf];have:=keeps (P:=P) (W:=W) (C:=C) (L:=L) (b:=b) (z:=z) (i::l) s (λk hk y hy=>by
     rcases Yz.1 hk with rfl|hk'
     . exact q3 k (by simp) (X4 _) y hy z hz
     exact q3 k (by simp[hk']) (Nat.le_of_lt (hp'.1 k hk')) y hy z hz)
    simpa only[YB]using this
   have hn:sq.n=s.n/\sq.h=s.h:=by
    constructor
    .
     rw[<-hf];have : ∀(l:List Nat)(u:S),(l.foldl (run1 P W C L b) u).n=u.n:=by
      intro l
      induction l with
      | nil=>intro u;rfl
      | cons k l ih =>
       intro u;simp only[YB];rw[ih];unfold run1
       split
       . exact xh.1
       rfl
     rw[this,e];exact xh.1
    rw[<-hf,JL l _ λk hk o ho=>(hh k (by simp[hk]) o ho).1,e];exact Nk q1
   have e1:aJ P W C L b i o s.n s.ev s.t h'=((aJ P W C L b i o s.n s.ev s.t s.h).1,h',(aJ P W C L b i o s.n s.ev s.t s.h).2.2):=by
    have:=q4;rw[hn.1,hn.2,zI (s:=sq) (s':=s) hT,zI (s:=sq) (s':=s) hT]at this;exact this
   have e2 : ∀c,aJ P W C L c i o s.n (S.ev { n:=s.n,t:=s.put d res,h:=h',nx:=m,ok:=True,e:=s.e }) (s.put d res) h'=aJ P W C L b i o s.n s.ev s.t h':=by
    intro c;rw[Za0 (b:=c) (b':=b) q1];refine zI (s:={ n:=s.n,t:=s.put d res,h:=h',nx:=m,ok:=True,e:=s.e }) (s':=s) λz hz=>?_
    show s.put d res z=s.t z
    cases hd:d with
    | none=>rfl
    | some y=>exact aL _ _ _ _ λe=>(q2 y hd).1 (by rw[<-e];exact hz)
   have hok1:(bT P W C L b i o s).ok:=by rw[e]at hf;exact Bj (by rw[hf];exact hok)
   have hp1:(aJ P W C L b i o s.n s.ev s.t s.h).2.2:=by rw[jB]at hok1;exact hok1.2
   have key:bT P W C L b' i o { n:=s.n,t:=s.put d res,h:=h',nx:=m,ok:=True,e:=s.e }={ n:=(bT P W C L b i o s).n,t:=(bT P W C L b i o s).put d res,h:=h',nx:=m,ok:=True,e:=(bT P W C L b i o s).e }:=by
    rw[jB,jB];simp only[e2,e1]
    congr 1
    .
     show S.put _ o.dst _=S.put _ d res
     cases hod:o.dst with
     | none=>rfl
     | some x =>
      cases hd:d with
      | none=>rfl
      | some y =>
       have hne:x≠y:=λe=>(q2 y hd).2 (by rw[hod,e])
       funext z
       simp only[S.put,upd]
       by_cases h1:z=x
       .
        have:z≠y:=λe=>hne (h1▸e)
        simp[h1,hne]
       simp[h1]
    exact propext ⟨λ_=>trivial,λ_=>⟨trivial,hp1⟩⟩
   rw[e,key];rw[e]at hf;exact JS l _ hp'.2 (λk hk o ho=>by
    obtain⟨q1,q2,q3,q4⟩:=hh k (by simp[hk]) o ho
    exact⟨q1,q2,λj hj=>q3 j (by simp[hj]),q4⟩) hf hok
structure Lb(C:aK)(ops:Array Oper)(k1 k2:Nat):Prop where
 le:k2<=ops.size
 back : ∀(i:Nat)o,ops.toList[i]? = some o -> ∀e∈o.after.toList,Region.binds .any e=true->e.on<i
 ord : ∀i,k2<=i->i<ops.size -> ∀j,j<i->((dX ops.toList []).getD i 0).testBit j=true
 quiet : ∀(i:Nat)o,i<k2->i≠k1->((dX ops.toList []).getD k1 0).testBit i=false->ops.toList[i]? = some o->pX C o=true
 comm : ∀(i j:Nat)x y,i<k2->j<i->i≠k1->j≠k1->ops.toList[j]? = some x->ops.toList[i]? = some y->((dX ops.toList []).getD i 0).testBit j=true\/j5 C ops.toList x y=true
 call : ∀(i:Nat)x y,i<k2->i≠k1->ops.toList[i]? = some x->ops.toList[k1]? = some y->((dX ops.toList []).getD k1 0).testBit i=true\/gK ops.toList x y=true
 late : ∀(i j:Nat)x y,i<=j->j<k2->i≠k1->j≠k1->ops.toList[i]? = some x->ops.toList[j]? = some y -> ∀z∈looks ops.toList x,y.dst≠some z
def dZ(k1 k2:Nat)(listed:Array Bool):List Nat:=(List.range k2).filter λi=>i != k1 && !listed.getD i false
def o8{k1 k2 i:Nat}{listed:Array Bool}:i∈dZ k1 k2 listed↔i<k2/\i≠k1/\listed.getD i false=false:=by
 simp only[dZ,YJ,Y2,XT,ZE,X5]
theorem getD_set{listed:Array Bool}{i:Nat}(hi:i<listed.size)(k:Nat):(listed.setIfInBounds i true).getD k false=(listed.getD k false||k==i):=by
 by_cases e:k=i
 . subst e;simp[Array.getD,hi]
 rw[getD_set_ne false (Ne.symm e)]
 have:(k==i)=false:=by simpa using e
 rw[this,ZA]
def Closed(ops:Array Oper)(listed:Array Bool):Prop:=∀(i:Nat)o,ops.toList[i]? = some o->listed.getD i false=true -> ∀e∈o.after.toList,Region.binds .any e=true->listed.getD e.on false=true
theorem Closed.set{ops:Array Oper}{listed:Array Bool}(h:Closed ops listed)(hsz:listed.size=ops.size){i:Nat}(hi:i∈Region.ready .any ops listed):Closed ops (listed.setIfInBounds i true):=by
 obtain⟨h1,h2,h3⟩:=(uy hsz).1 hi
 intro k o hk hkl e he hb
 rw[getD_set (by omega)]at hkl ⊢
 simp only[X8,Yx]at hkl ⊢
 rcases hkl with hkl|rfl
 . exact .inl (h k o hk hkl e he hb)
 have:o=ops[k]:=by simp[h1]at hk;exact hk.symm
 subst this
 exact .inl (h3 e he hb)
theorem Nj [aa P]{ops:Array Oper}{k1 k2 b n:Nat}{ro:Option Nat}{Q:Exit->Act->World->Prop}(Dle:k2<=ops.size)(Dcomm : ∀(i j:Nat)x y,i<k2->j<i->i≠k1->j≠k1->ops.toList[j]? = some x->ops.toList[i]? = some y->((dX ops.toList []).getD i 0).testBit j=true\/j5 C ops.toList x y=true){listed:Array Bool}{s fin:S}{g:Mem}{a:Act}{w:World}(hsz:listed.size=ops.size)(hX:Closed ops listed)
  (hs:St P B s g a w)(hU : ∀r,g.U r->r<b \/ ∃j,listed.getD j false=true/\j<k2/\r=b+j)(hfin:(dZ k1 k2 listed).foldl (run1 P (words P) C ops.toList b) s=fin)(hok:fin.ok){i:Nat}(hi:i∈Region.ready .any ops listed)(hik:i<k2)(hne:i≠k1){K:Act->World->Prop}
  (hK : ∀g' a' w' s',St P B s' g' a' w'->aB g g' w w'->(∀r,g'.U r->r<b \/ ∃j,(listed.setIfInBounds i true).getD j false=true/\j<k2/\r=b+j) ->
   (dZ k1 k2 (listed.setIfInBounds i true)).foldl (run1 P (words P) C ops.toList b) s'=fin->(dZ k1 k2 (listed.setIfInBounds i true)).length<(dZ k1 k2 listed).length->K a' w'):wpOpIn (Fw ro) n P ops Q i K a w:=by
 obtain⟨hlt,uR,uM⟩:=(uy hsz).1 hi
 have qw:ops.toList[i]? = some ops[i]:=by simp[hlt]
 have hmem:i∈dZ k1 k2 listed:=o8.2 ⟨hik,hne,uR⟩
 obtain⟨pre,post,hsplit⟩:=List.append_of_mem hmem
 have o9:(dZ k1 k2 listed).Pairwise (· < ·):=ZU _ ZM
 rw[hsplit]at o9
 have hpre : ∀j∈pre,j<i:=λj hj=>(Zn.1 o9).2.2 j hj i (by simp)
 have hpost : ∀j∈post,i<j:=λj hj=>(Zo.1 (Zn.1 o9).2.1).1 j hj
 have hap : ∀j∈pre,j≠i /\ ∀x,ops.toList[j]? = some x->j5 C ops.toList x ops[i]=true:=by
  intro j hj;have hjl:=hpre j hj;refine⟨om,λx hx=>?_⟩
  have hjm:j∈dZ k1 k2 listed:=by rw[hsplit];simp[hj]
  obtain⟨j1,j2,j3⟩:=o8.1 hjm
  rcases Dcomm i j x _ hik hjl hne j2 hx qw with h|h
  .
   exfalso
   have:=AP (L:=ops.toList) (X:=λk=>listed.getD k false=true) hX i _ qw uM j h
   rw[j3]at this;cases this
  exact h
 have Cg : ∀j,j∈dZ k1 k2 listed -> ¬g.U (b+j):=by
  intro j hjm hu;have hjn:=(o8.1 hjm).2.2
  rcases hU _ hu with h|⟨k,hk,_,e⟩
  . omega
  have:k=j:=by omega
  subst this;rw[hjn]at hk;cases hk
 have hh0:s.h (b+i)=none:=by
  cases hq:s.h (b+i)with
  | none=>rfl
  | some bl =>
   obtain⟨blk,c',q1,_⟩:=hs.mem.blk _ bl hq;exact absurd (hs.mem.used _ (by rw[q1];simp)) (Cg i hmem)
 have hok0:=hok
 rw[<-hfin,hsplit,Y8,YB]at hok0
 have hok1:=Bj hok0
 have Jl:(pre.foldl (run1 P (words P) C ops.toList b) s).ok:=by
  unfold run1 at hok1;rw[qw]at hok1;exact J4 hok1
 have Jo:reader ops[i]=true -> ∀j∈pre,∀d∈(av (ops[i]).op).map s.ev,named (b+j) (sd d)=false:=by
  intro hr j hj d hd;have hsg:sg d=true:=by
   have e:=JK (P:=P) (W:=words P) (C:=C) (L:=ops.toList) (b:=b) (y:=ops[i]) pre s λk hk x hx=>CW ((hap k hk).2 x hx)
   have hrun' : ∀u,run1 P (words P) C ops.toList b u i=bT P (words P) C ops.toList b i ops[i] u:=λu=>by simp[run1,hlt]
   rw[hrun',jB]at hok1;have h2:=hok1.2;obtain⟨r1,r2⟩:=Bq hr;simp only[aJ,r2,au,Hz r1,Ye,Y0]at h2;have h4:=h2.2.1 trivial;rw[show(av (ops[i]).op).map (pre.foldl (run1 P (words P) C ops.toList b) s).ev=(av (ops[i]).op).map s.ev from e]at h4
   exact Yg.1 h4 d hd
  cases hq:named (b+j) (sd d)with
  | false=>rfl
  | true =>
   exfalso
   obtain⟨z,_,rfl⟩:=Yi.1 hd;exact Cg j (by rw[hsplit];simp[hj]) (M9 (dH hs z) hsg hq)
 have hrun:run1 P (words P) C ops.toList b s i=bT P (words P) C ops.toList b i ops[i] s:=by simp[run1,hlt]
 have Cn:(pre++post).foldl (run1 P (words P) C ops.toList b) (bT P (words P) C ops.toList b i ops[i] s)=fin:=by
  rw[<-hrun,<-hfin,hsplit,Y8,Y8,YB,JM qw pre s hap Jo hh0 Jl]
 have htodo:dZ k1 k2 (listed.setIfInBounds i true)=pre++post:=by
  have e1:dZ k1 k2 (listed.setIfInBounds i true)=(dZ k1 k2 listed).filter (· != i):=by
   unfold dZ;rw[List.filter_filter];refine Z0 λk _=>?_
   rw[getD_set (by omega) k]
   by_cases e:k=i
   . simp[e]
   have e2:(k==i)=false:=by simpa using e
   have e3:(k != i)=true:=by simpa using e
   rw[e2,e3,ZA,Zl]
  rw[e1,hsplit,List.filter_append,List.filter_cons];have p1:pre.filter (· != i)=pre:=ZF.2 λj hj=>by have:=hpre j hj;simp;omega
  have p2:post.filter (· != i)=post:=ZF.2 λj hj=>by have:=hpost j hj;simp;omega
  simp[p1,p2]
 refine Cx hs (b:=b) (N:=b+ops.size) (λh=>?_) (λr hr=>?_) (show ops[i]? = some ops[i]by simp[hlt]) (Bj (by rw[Cn];exact hok)) λg' a' w' q1 q2 q3=>?_
 .
  rcases hU _ h with h|⟨k,hk,_,e⟩
  . omega
  have:k=i:=by omega
  subst this;rw[uR]at hk;cases hk
 .
  have hle:=Dle
  rcases hU r hr with h|⟨k,_,h,rfl⟩<;>omega
 refine hK g' a' w' _ q1 q2 (λr hr=>?_) (by rw[htodo];exact Cn) (by rw[htodo,hsplit];simp)
 rcases q3 r hr with h|rfl
 .
  rcases hU r h with h|⟨k,hk,hks,rfl⟩
  . exact .inl h
  exact .inr ⟨k,by rw[getD_set (by omega),hk];rfl,hks,rfl⟩
 exact .inr ⟨i,by rw[getD_set (by omega)];simp,hik,rfl⟩
theorem Mi [aa P]{ops:Array Oper}{k1 k2 b n:Nat}{ro:Option Nat}{Q:Exit->Act->World->Prop}{w0:World}{g0:Mem}{fin:S}(Dle:k2<=ops.size)(Dback : ∀(i:Nat)o,ops.toList[i]? = some o -> ∀e∈o.after.toList,Region.binds .any e=true->e.on<i)(Dord : ∀i,k2<=i->i<ops.size -> ∀j,j<i->((dX ops.toList []).getD i 0).testBit j=true)(Dcomm : ∀(i j:Nat)x y,i<k2->j<i->i≠k1->j≠k1->ops.toList[j]? = some x->ops.toList[i]? = some y->((dX ops.toList []).getD i 0).testBit j=true\/j5 C ops.toList x y=true) :
  ∀(fuel:Nat)(listed:Array Bool)(s:S)(g:Mem)(a:Act)(w:World),listed.size=ops.size->(k1<k2->listed.getD k1 false=true)->(∀j,k2<=j->listed.getD j false=false)->(dZ k1 k2 listed).length+(ops.size-k2)<=fuel->Closed ops listed ->
   St P B s g a w->aB g0 g w0 w->(∀r,g.U r->r<b \/ ∃j,listed.getD j false=true/\j<k2/\r=b+j)->(dZ k1 k2 listed).foldl (run1 P (words P) C ops.toList b) s=fin->fin.ok ->
   (∀g' a' w',St P B fin g' a' w'->aB g0 g' w0 w'->(∀r,g'.U r->r<b+k2)->wpOpsIn (Fw ro) n P ops Q (List.range' k2 (ops.size-k2)) a' w') ->
   wpAnyIn (Fw ro) n P .any ops Q fuel listed a w:=by
 intro fuel
 induction fuel with
 | zero =>
  intro listed s g a w hsz hk1 hk2 hfu hX hs hm hU hfin hok hQ;have hnil:dZ k1 k2 listed=[]:=Yf om;rw[hnil]at hfin;simp only[ZI]at hfin;subst hfin;have hle:=Dle;refine L6 Dback Dord (ops.size-k2) k2 0 listed a w om (X4 _) hsz (λj hj=>?_) om (hQ g a w hs hm λr hr=>by rcases hU r hr with h|⟨j,_,h,rfl⟩<;>omega)
  by_cases q:j<k2
  .
   rw[YE q]
   by_cases e:j=k1
   . rw[e];exact hk1 (by omega)
   cases hl:listed.getD j false with
   | true=>rfl
   | false=>have:=o8.2 ⟨q,e,hl⟩;rw[hnil]at this;cases this
  rw[YI q];exact hk2 j (by omega)
 | succ fuel ih =>
  intro listed s g a w hsz hk1 hk2 hfu hX hs hm hU hfin hok hQ;have hle:=Dle
  cases hnil:dZ k1 k2 listed with
  | nil =>
   rw[hnil]at hfin;simp only[ZI]at hfin;subst hfin;refine L6 Dback Dord (ops.size-k2) k2 (fuel+1) listed a w om (X4 _) hsz (λj hj=>?_) om (hQ g a w hs hm λr hr=>by rcases hU r hr with h|⟨j,_,h,rfl⟩<;>omega)
   by_cases q:j<k2
   .
    rw[YE q]
    by_cases e:j=k1
    . rw[e];exact hk1 (by omega)
    cases hl:listed.getD j false with
    | true=>rfl
    | false=>have:=o8.2 ⟨q,e,hl⟩;rw[hnil]at this;cases this
   rw[YI q];exact hk2 j (by omega)
  | cons i0 l0 =>
   have hi0:i0∈dZ k1 k2 listed:=by rw[hnil];simp
   obtain⟨a1,a2,a3⟩:=o8.1 hi0;have o9:(dZ k1 k2 listed).Pairwise (· < ·):=ZU _ ZM;rw[hnil]at o9;have hmin:=(Zo.1 o9).1;refine⟨λhr=>?_,λi hi=>?_⟩
   .
    exfalso
    have:i0∈Region.ready .any ops listed:=(uy hsz).2 ⟨om,a3,λe he hb=>by
     have hlt:=Dback i0 ops[i0] (by simp) e he hb
     cases hl:listed.getD e.on false with
     | true=>rfl
     | false =>
      have hne:e.on≠k1:=λq=>by rw[q,hk1 (by omega)]at hl;cases hl
      have:=o8.2 ⟨show e.on<k2 by omega,hne,hl⟩
      rw[hnil]at this
      rcases Yz.1 this with h|h
      . omega
      have:=hmin _ h;omega⟩
    rw[hr]at this;cases this
   obtain⟨hlt,uR,uM⟩:=(uy hsz).1 hi;have hik:i<k2:=by
    by_cases q:i<k2
    . exact q
    exfalso
    have:=AP (L:=ops.toList) (X:=λk=>listed.getD k false=true) hX i ops[i] (by simp[hlt]) uM i0 (Dord i om hlt i0 om)
    rw[a3]at this;cases this
   have hne:i≠k1:=λq=>by rw[q,hk1 (by omega)]at uR;cases uR
   refine Nj Dle Dcomm hsz hX hs hU hfin hok hi hik hne λg' a' w' s' q1 q2 q3 q4 q5=>?_
   refine ih _ s' g' a' w' (by simp[hsz]) (λhq=>by rw[getD_set (by omega),hk1 hq];rfl) (λj hj=>?_) (by omega) (hX.set hsz hi) q1 (hm.trans q2) q3 q4 hok hQ
   rw[getD_set (by omega),hk2 j hj]
   have:(j==i)=false:=by simp;omega
   rw[this];rfl
theorem Zak{ops:Array Oper}{listed:Array Bool}(hsz:listed.size=ops.size)(hback : ∀(i:Nat)o,ops.toList[i]? = some o -> ∀e∈o.after.toList,Region.binds .any e=true->e.on<i)(hr:Region.ready .any ops listed=[]) :
  ∀k,k<ops.size->listed.getD k false=true:=by
 intro k
 induction k using Nat.strongRecOn with
 | _ k ih =>
  intro hk
  cases hl:listed.getD k false with
  | true=>rfl
  | false =>
   exfalso
   have:k∈Region.ready .any ops listed:=(uy hsz).2 ⟨hk,hl,λe he hb=>by
    have h1:=hback k ops[k] (by simp) e he hb
    exact ih e.on h1 om⟩
   rw[hr]at this;cases this
theorem JJ [aa P]{W:bf}{L:List Oper}{b:Nat}:∀(l:List Nat)(u:S),(l.foldl (run1 P W C L b) u).n=u.n/\(l.foldl (run1 P W C L b) u).e=u.e:=by
 intro l
 induction l with
 | nil=>intro u;exact⟨rfl,rfl⟩
 | cons k l ih =>
  intro u;simp only[YB];rw[(ih _).1,(ih _).2];unfold run1
  split
  . exact⟨xh.1,by unfold bT;split<;>rfl⟩
  exact⟨rfl,rfl⟩
def CJ(C:aK)(L:List Oper)(k1 k2:Nat):Bool :=
 decide (k1<k2)&&decide (k2<=L.length)&&nW L
 && ((List.range L.length).all λi=>decide (i<k2)||(List.range i).all λj=>((dX L []).getD i 0).testBit j)
 && ((List.range k2).all λi=>i==k1||((pX C (L.getD i default)||((dX L []).getD k1 0).testBit i)&&(((dX L []).getD k1 0).testBit i||gK L (L.getD i default) (L.getD k1 default))
  && (List.range i).all λj=>j==k1||((dX L []).getD i 0).testBit j||j5 C L (L.getD j default) (L.getD i default)))
 && ((List.range k2).all λj=>j==k1||(List.range (j+1)).all λi=>i==k1||match(L.getD j default).dst with
  | none=>true
  | some d=>!(looks L (L.getD i default)).contains d)
def ZeE{ops:Array Oper}{k1 k2:Nat}(h:CJ C ops.toList k1 k2=true):k1<k2/\Lb C ops k1 k2:=by
 unfold CJ at h
 simp only[XT,XV]at h
 obtain⟨⟨⟨⟨⟨h1,h2⟩,h3⟩,h4⟩,h5⟩,h6⟩:=h
 have hat : ∀(i:Nat)o,ops.toList[i]? = some o->ops.toList.getD i default=o:=λi o ho=>by simp only[List.getD,ho,YD]
 simp only[Yg,Y2,X8,XT,Yx,XV]at h4 h5 h6
 refine⟨h1,by simpa using h2,?_,?_,?_,?_,?_,?_⟩
 .
  intro i o ho e he hb;unfold nW at h3;simp only[Yg,Y2,X8,X5,XV]at h3;have:=h3 i (X0.1 ho).1 e (by rw[hat i o ho];exact he)
  rcases this with h|h
  . rw[hb]at h;cases h
  exact h
 .
  intro i hi hs j hj
  rcases h4 i (by simpa using hs)with h|h
  . omega
  exact h j hj
 .
  intro i o hi hne hnb ho
  rcases h5 i hi with h|h
  . exact absurd h hne
  have:=h.1.1;rw[hat i o ho,hnb]at this;exact this.resolve_right (by simp)
 .
  intro i j x y hi hj hne Cf hx hy
  rcases h5 i hi with h|h
  . exact absurd h hne
  rcases h.2 j hj with(h|h)|h
  . exact absurd h Cf
  . exact .inl h
  rw[hat j x hx,hat i y hy]at h;exact .inr h
 .
  intro i x y hi hne hx hy
  rcases h5 i hi with h|h
  . exact absurd h hne
  have:=h.1.2;rw[hat i x hx,hat k1 y hy]at this;exact this
 intro i j x y hij hj hne Cf hx hy z hz e
 rcases h6 j hj with h|h
 . exact absurd h Cf
 rcases h i om with h|h
 . exact absurd h hne
 rw[hat i x hx,hat j y hy,e]at h
 simp at h
 exact h hz
theorem ZcG [aa P]{t:TypeId}{x ix:D}{h h':H}(hn : ∀r,named r x=true->h' r=h r):eF P t x ix h'=eF P t x ix h:=by
 unfold eF
 cases aZ P t with
 | none=>rfl
 | some e =>
  cases x with
  | mrow r off len =>
   have:=hn r (by simp[named])
   cases ix with
   | v y=>cases y<;>first|rfl|simp only[this]
   | _=>rfl
  | list f rows =>
   cases ix with
   | v y=>cases y<;>rfl
   | _=>rfl
  | _=>cases ix<;>rfl
theorem NZ [aa P]{W:bf}{L:List Oper}{b i:Nat}{o:Oper}{ev:Operand->D}{t:Nat->D}{n:Nat}{h h':H}(hg:o.guard=none)
  (hq:bA C o.op = .none\/(match o.op with | .load .. | .indexAddr .. => True|_=>False) /\ ∀d∈(av o.op).map ev,∀r,named r (sd d)=true->h' r=h r) :
  aJ P W C L b i o n ev t h'=((aJ P W C L b i o n ev t h).1,h',(aJ P W C L b i o n ev t h).2.2):=by
 rcases hq with hq|⟨hc,hn⟩
 . exact Ik hq
 cases ho:o.op with
 | load ty x =>
  rw[ho]at hn;have:=hn (ev x) (by simp[av])
  simp only[aJ,hg,au,ho,dG,Ye,Y0,av,X9,Yw,aH,still,jd,Ph this]
 | indexAddr ty x y =>
  rw[ho]at hn;have:=hn (ev x) (by simp[av])
  simp only[aJ,hg,au,ho,dG,Ye,Y0,av,X9,Yw,aH,still,ZcG this]
 | _=>rw[ho]at hc;exact hc.elim
def FT(C:aK)(L:List Oper)(k2:Nat):Bool :=
 decide (k2<=L.length)&&nW L
 && ((List.range L.length).all λi=>decide (i<k2)||(List.range i).all λj=>((dX L []).getD i 0).testBit j)
 && ((List.range k2).all λi=>pX C (L.getD i default)&&(List.range i).all λj=>((dX L []).getD i 0).testBit j||gK L (L.getD j default) (L.getD i default))
 && ((List.range k2).all λj=>(List.range (j+1)).all λi=>match(L.getD j default).dst with
  | none=>true
  | some d=>!(looks L (L.getD i default)).contains d)
def ZeD{ops:Array Oper}{k2:Nat}(h:FT C ops.toList k2=true):Lb C ops k2 k2:=by
 unfold FT at h
 simp only[XT,XV]at h
 obtain⟨⟨⟨⟨h2,h3⟩,h4⟩,h5⟩,h6⟩:=h
 have hat : ∀(i:Nat)o,ops.toList[i]? = some o->ops.toList.getD i default=o:=λi o ho=>by simp only[List.getD,ho,YD]
 simp only[Yg,Y2,X8,XT,XV]at h4 h5 h6
 have ER : ∀i,k2<=i->i<ops.size -> ∀j,j<i->((dX ops.toList []).getD i 0).testBit j=true:=by
  intro i hi hs j hj
  rcases h4 i (by simpa using hs)with h|h
  . omega
  exact h j hj
 refine⟨by simpa using h2,?_,ER,?_,?_,?_,?_⟩
 .
  intro i o ho e he hb;unfold nW at h3;simp only[Yg,Y2,X8,X5,XV]at h3;have:=h3 i (X0.1 ho).1 e (by rw[hat i o ho];exact he)
  rcases this with h|h
  . rw[hb]at h;cases h
  exact h
 . intro i o hi hne _ ho;have:=(h5 i hi).1;rw[hat i o ho]at this;exact this
 .
  intro i j x y hi hj hne Cf hx hy
  rcases(h5 i hi).2 j hj with h|h
  . exact .inl h
  have q1:=(h5 i hi).1;have q2:=(h5 j (by omega)).1
  rw[hat i y hy]at q1;rw[hat j x hx]at q2;rw[hat j x hx,hat i y hy]at h;refine .inr ?_;unfold j5;rw[ZaA q2 q1 h];rfl
 . intro i x y hi hne hx hy;have hlt:=(X0.1 hy).1;exact .inl (ER k2 (X4 _) (by simpa using hlt) i hi)
 intro i j x y hij hj hne Cf hx hy z hz e
 have h:=h6 j hj i (by omega)
 rw[hat i x hx,hat j y hy,e]at h
 simp at h
 exact h hz
def Zeq [aa P]{ro:Option Nat}{Q:Exit->S->Prop}{s sq:S}{id:Nat}{ops:Array Oper}(k2:Nat)(yJ:P.follows .mixedOrders=true)(hD:FT C ops.toList k2=true)
  (hfin:bN P (words P) C ops.toList s.nx 0 (ops.toList.take k2) s=sq)(hok:sq.ok)
  (hk:bG P ro ops k2 s.nx { n:=sq.n,t:=sq.t,h:=sq.h,nx:=s.nx+ops.size,ok:=True,e:=sq.e } Q):DW P ro (.region id ops true) Q s:=by
 intro B g a w hs hU
 refine wpIn_region_any yJ ?_
 obtain⟨hs1,hm1⟩:=FK hs
 have Dc:=ZeD hD
 have hle:=Dc.le
 have hrep : ∀i,(Array.replicate ops.size false).getD i false=false:=by
  intro i
  by_cases h:i<ops.size<;>simp[Array.getD,h]
 have htodo:dZ k2 k2 (Array.replicate ops.size false)=List.range' 0 k2:=by
  unfold dZ;rw[ZF.2 (λi hi=>by have:=Y2.1 hi;rw[hrep];simp;omega),Zm]
 have yN:(List.range' 0 k2).foldl (run1 P (words P) C ops.toList s.nx) s=sq:=by
  rw[<-hfin,<-Zdt k2 0 s (by simpa using hle)]
  rfl
 have hse:sq.e=s.e:=by rw[<-yN];exact(JJ _ _).2
 refine Mi (B:=B) (C:=C) (g0:=g) (w0:=w) (b:=s.nx) (n:=0) Dc.le Dc.back Dc.ord Dc.comm ops.size _ s g a _ (by simp) (λh=>absurd h (Nat.lt_irrefl _)) (λj _=>hrep j) (by rw[htodo];simp;omega) (λi o _ hi=>by rw[hrep]at hi;cases hi) hs1 hm1 (λr hr=>.inl (hU r hr)) (by rw[htodo];exact yN) hok (λg' a' w' q1 q2 q3=>?_)
 have:=hk B g g' a' w w' ⟨q1.sz,q1.tm,q1.mem,q1.df,q1.en,q1.bd⟩ q2 q3
 simp only[hse]at this
 exact this
end Go.DL
namespace Go.DL
variable [Dr]
open Go.RowKit
variable {P : Program} {ro : Option Nat} {Q : Exit -> S -> Prop}
def JV(C:aK)(L:List Oper)(k1 k2:Nat)(fl:List (Nat×Nat)):Bool:=(List.range k2).all λi=>i==k1||((dX L []).getD k1 0).testBit i||((L.getD i default).guard.isNone&&(bA C (L.getD i default).op == .none||fl.any λp=>p.1==i&&match(L.getD i default).op with
 | .load _ (.tmp t)=>t==p.2
 | .indexAddr _ (.tmp t) (.tmp u)=>t==p.2&&fl.any λq=>q.1==i&&u==q.2
 | _=>false))
theorem Zdl [aa P]{C:aK}{L:List Oper}{k1 k2:Nat}{fl:List (Nat×Nat)}(h:JV C L k1 k2 fl=true){h':H}{sq:S}{b:Nat}(hk : ∀p∈fl,∀r,named r (sd (sq.t p.2))=true->h' r=sq.h r)(i:Nat)(o:Oper)(hi:i<k2)(hne:i≠k1)(hb:((dX L []).getD k1 0).testBit i=false)(ho:L[i]? = some o) :
  aJ P (words P) C L b i o sq.n sq.ev sq.t h'=((aJ P (words P) C L b i o sq.n sq.ev sq.t sq.h).1,h',(aJ P (words P) C L b i o sq.n sq.ev sq.t sq.h).2.2):=by
 have hat:L.getD i default=o:=by simp only[List.getD,ho,YD]
 unfold JV at h
 have h1:=Yg.1 h i (Y2.2 hi)
 rw[hat,hb]at h1
 simp only[ZA,X8,Yx,XT,Zz]at h1
 rcases h1 with h1|⟨hg,h1|⟨p,hp,h2,h3⟩⟩
 . exact absurd h1 hne
 . exact NZ (Zf.1 hg) (.inl h1)
 refine NZ (Zf.1 hg) (.inr ?_)
 cases hop:o.op with
 | load ty x =>
  rw[hop]at h3
  cases x with
  | tmp t =>
   simp only[Yx]at h3;subst h3;refine⟨trivial,λd hd r hr=>?_⟩
   simp only[av,X9,Yw,Yd]at hd;subst hd;exact hk p hp r hr
  | _=>simp at h3
 | indexAddr ty x y =>
  rw[hop]at h3
  cases x with
  | tmp t =>
   cases y with
   | tmp u =>
    simp only[Yx,XT,Zz]at h3;obtain⟨h3,p2,hp2,h4,h5⟩:=h3;subst h3;subst h5;refine⟨trivial,λd hd r hr=>?_⟩
    simp only[av,X9,Yw,Yz,Z4,or_false]at hd
    rcases hd with rfl|rfl
    . exact hk p hp r hr
    exact hk p2 hp2 r hr
   | _=>simp at h3
  | _=>simp at h3
 | _=>rw[hop]at h3;simp at h3
def seg_apart [aa P]{C:aK}{s s1:S}{ops:Array Oper}{i b:Nat}(k:Nat){o:Oper}{f x y:Operand}{ts:Array TypeId}{gB:FuncId}{fnx:Func}{t u e:TypeId}{r off len r2 jP lw:Nat}{rows kC:List (List D)}(z9:iX P C ops i k o b s s1)
  (hop : o.op = .call { callee := .value f, args := #[x, y], argTypes := ts }) (hF : P.funcs[gB]? = some fnx) (hname : (fnx.name == "runtime.NumGoroutine") = false) (hb : fnx.body.isNone = true) (hn : Extern.findNext fnx = none) (hfind : Extern.find fnx = some (Extern.SlicesOverlaps.overlaps #[t, t] #[u])) (ht : P.underlying t = some (.slice e))
  (hfv:s1.ev f = .fn (.func gB) [] []) (hx:s1.ev x = .mrow r off len) (hy:s1.ev y = .mrow r2 jP lw) (hr:s1.h r=some ⟨e,rows⟩) (hr2:s1.h r2=some ⟨e,kC⟩) (hne:r≠r2) (h0:0<len) (h1:0<lw)
  (hk:bG P ro ops (k+1) b { n:=s1.n,t:=s1.put o.dst (.b false),h:=s1.h,nx:=s1.nx,ok:=True,e:=s1.e } Q):bG P ro ops i b s Q:=by
 obtain⟨hik,ho,hg,he,hok,hd⟩:=z9
 refine pV (C:=C) k (λd h'=>d = .b false/\h'=s1.h) hik ho hg (λc e=>by rw[hop]at e;cases e) he hok hd (λB g a w hst _=>?_) (λd h'⟨hy,hh⟩=>by subst hy;subst hh;exact hk)
 have hv:=dH hst x
 rw[hx]at hv
 have yG:=dH hst y
 rw[hy]at yG
 have hvf:=dH hst f
 rw[hfv]at hvf
 obtain⟨blk,c0,p1,p2,p3,p4,p5⟩:=hst.mem.blk r _ hr
 obtain⟨blk',c1,o1,o2,o3,o4,o5⟩:=hst.mem.blk r2 _ hr2
 simp only at p2 p3 p5 o2 o3 o5
 have key : ∀{r off len blk c0}{rows:List (List D)}{v:Value},g.M r=some (blk,c0,P.cellsOf e)->0<P.cellsOf e->0<len->ag w g (.mrow r off len) v->((blk=none/\c0=0) \/ ∃b cur,blk=some b/\nZ w.heap[b]? e cur c0/\(c0<=maxLen->cur.size=c0*P.cellsOf e) /\ ¬g.I b/\Holds P w g ⟨e,rows⟩ cur) ->
   ∃b0 cc cur,blk=some b0/\v = .slice (some ⟨b0,off*P.cellsOf e,none⟩) len cc/\w.heap[b0]? = some (.cells cur e (0,0))/\cur.size≠0:=by
  intro r off len blk c0 rows v q1 q2 q3 q5 q6
  cases q5 with|mrow _ _ _ _ fV hU hvv =>
  obtain⟨a',c',e1,e2,_⟩:=fV;obtain⟨z1,z2⟩:=hvv _ _ _ q1
  rcases z2 with⟨e0,a,rfl⟩|⟨e0,b0,rfl,rfl⟩
  . exact absurd q3 om
  rcases q6 with⟨q7,_⟩|⟨b,cur,q7,q8,q9,_⟩
  . cases q7
  cases q7
  have hcm:c0<=maxLen:=by omega
  have hsz:=q9 hcm;refine⟨b0,_,cur,rfl,rfl,q8.cells hcm,?_⟩;rw[hsz];have:0<c0*P.cellsOf e:=Nat.mul_pos om q2;omega
 obtain⟨b0,cc,cur,rfl,qm,hb0,hs0⟩:=key p1 p2 h0 hv p5
 obtain⟨b1,cc1,cur1,rfl,hvy',hb1,hs1⟩:=key o1 o2 h1 yG o5
 have hbne:b0≠b1:=λq=>hne (hst.mem.inj r r2 b0 _ _ _ _ p1 (by rw[q];exact o1))
 generalize hv':a.eval f=vf at hvf
 cases hvf with|fn _ _ _ fs cs l1 l2 r1 r2 =>
 have hfs:fs = #[]:=Zc (by simpa using l1.symm)
 have hcs:cs = #[]:=Zc (by simpa using l2.symm)
 subst hfs
 subst hcs
 have hov:=Lib.run_overlaps_apart (P:=P) w t u e ht (P.cellsOf e) (λw=>mU p2 w) ⟨b0,off*P.cellsOf e,none⟩ ⟨b1,jP*P.cellsOf e,none⟩ len cc lw cc1 hbne e e cur.size cur1.size (by simp[World.shape?,hb0]) (by simp[World.shape?,hb1]) hs1 (by simp[World.frozen?,hb0]) (by simp[World.frozen?,hb0])
 have hcall:(callFunc gB #[a.eval x,a.eval y]).run P w = .ok (.value (.bool false)) w:=by
  rw[run_callFunc_extern hF hname hb hn hfind,qm,hvy',hov];rfl
 refine⟨_,_,⟨rfl,rfl⟩,_,g,w,.inl ?_,.v _,hst.mem,aB.refl _ _,λr hr=>.inl hr⟩
 obtain⟨od,oo,nu,op,oa,og⟩:=o
 simp only at hop
 subst hop
 simp[execOp,resolve,Deferred.ofValue,hv',invoke,hcall]
def Xg [aa P]{C:aK}{s s1:S}{ops:Array Oper}{i b:Nat}(k:Nat){o:Oper}{t u e:TypeId}{x y:Operand}{yd:D}{r n:Nat}{rows news:List (List D)}(z9:iX P C ops i k o b s s1)
  (hop:o.op = .call { callee:=.builtin .append,args:=#[x,y],argTypes:=#[t,u] })(ht:P.underlying t=some (.slice e))
  (hx:s1.ev x = .mrow r 0 n)(hy:s1.ev y=yd)(hr:s1.h r=some ⟨e,rows⟩)(hn:rows.length=n)(hne:r≠b+k)(hnw:aj yd s1.h=news)
  (hl:news.length=bq yd)(hs:fG P u s1.h yd=true)(hrl : ∀q∈news,q.length=P.cellsOf e)(hz:dJ P e=true)(hc:0<P.cellsOf e)(hby:(n+news.length)*P.bytesOf e<=140737488355328)(h63:n+news.length<=9223372036854775807)
  (hk:bG P ro ops (k+1) b { n:=s1.n,t:=s1.put o.dst (.mrow (b+k) 0 (n+news.length)),h:=upd (upd s1.h r none) (b+k) (some ⟨e,rows++news⟩),nx:=s1.nx,ok:=True,e:=s1.e } Q):bG P ro ops i b s Q:=by
 obtain⟨hik,ho,hg,he,hok,hd⟩:=z9
 subst hnw
 subst hy
 have hel:aZ P t=some e:=by simp[aZ,ht]
 have key:dR P t u (.mrow r 0 n) (s1.ev y) s1.h (b+k)=(.mrow (b+k) 0 (n+(aj (s1.ev y) s1.h).length),upd (upd s1.h r none) (b+k) (some ⟨e,rows++aj (s1.ev y) s1.h⟩),(0<P.cellsOf e/\(n+(aj (s1.ev y) s1.h).length)*P.bytesOf e<=140737488355328/\n+(aj (s1.ev y) s1.h).length<=9223372036854775807) /\
    ((aj (s1.ev y) s1.h).length=bq (s1.ev y)/\fG P u s1.h (s1.ev y)=true/\dJ P e=true /\ ∀r∈aj (s1.ev y) s1.h,r.length=P.cellsOf e)/\e=e/\rows.length=n/\r≠b+k):=by
  rw[Zgj,hel];simp only[hr]
 refine pV (C:=C) k (λd h'=>d = .mrow (b+k) 0 (n+(aj (s1.ev y) s1.h).length)/\h'=upd (upd s1.h r none) (b+k) (some ⟨e,rows++aj (s1.ev y) s1.h⟩)) hik ho hg (λc e=>by rw[hop]at e;cases e) he hok hd (λB g a w hst hb=>?_) (λd h'⟨hy,hh⟩=>by subst hy;subst hh;exact hk)
 have hv:=dH hst x
 rw[hx]at hv
 have hcc:(dR P t u (.mrow r 0 n) (s1.ev y) s1.h (b+k)).2.2:=by rw[key];exact⟨⟨hc,hby,h63⟩,⟨hl,hs,hz,hrl⟩,rfl,hn,hne⟩
 obtain⟨v,g',w',q1,q2,q3,q4,q5⟩:=KW hst.mem hb hv (dH hst y) hcc o.type
 rw[key]at q2 q3
 refine⟨_,_,⟨rfl,rfl⟩,v,g',w',.inl ?_,q2,q3,q4,q5⟩
 obtain⟨od,oo,nu,op,oa,og⟩:=o
 simp only at hop
 subst hop
 simp[Go.BigFrame.execOp_builtin,Go.BigFrame.builtin_append,q1]
section
variable [aa P] (C : aK) {s s1 sq : S} {id : Nat} {ops : Array Oper} {o : Oper} {i b : Nat} {x y : Code}
def sgr(h:bG P ro ops 0 s.nx { n:=s.n,t:=s.t,h:=s.h,nx:=s.nx+ops.size,ok:=True,e:=s.e } Q):DW P ro (.region id ops false) Q s:=FJ h
def um(h:bG P ro ops 0 s.nx { n:=s.n,t:=s.t,h:=s.h,nx:=s.nx+ops.size,ok:=True,e:=s.e } (thenS (DW P ro y Q) Q)):DW P ro (.seq (.region id ops false) y) Q s:=aU (FJ h)
def dr0(k2:Nat)(hk:bG P ro ops k2 s.nx { n:=sq.n,t:=sq.t,h:=sq.h,nx:=s.nx+ops.size,ok:=True,e:=sq.e } Q)(yJ:P.follows .mixedOrders=true:=by exact mix)(hD:FT C ops.toList k2=true:=by kernel_rfl)
  (hfin:bN P (words P) C ops.toList s.nx 0 (ops.toList.take k2) s=sq:=by simp only[YC,Y1,go_sem,ff];first|done|exact rfl)(hok:sq.ok:=by(try simp only[go_sem,ff]);all_goals exact ok0):DW P ro (.region id ops true) Q s:=Zeq k2 yJ hD hfin hok hk
def qx{s2:S}(hq:Q .normal s2.clear)(hi:i<=ops.size:=by first|decide|simp)(he:bN P (words P) C ops.toList b i (ops.toList.drop i) s=s2:=by simp only[Yv,Yj,S.put,go_sem,ff];first|done|exact rfl)(hok:s2.ok:=by(try simp only[go_sem,ff]);all_goals exact ok0)(hn:s.nx=b+ops.size:=by rfl):bG P ro ops i b s Q:=DD hi he hok hn hq
end
section
variable [aa P] (C : aK) {s s1 : S} {ops : Array Oper} {i b : Nat} {o : Oper} (k : Nat)
def Fg{t u e:TypeId}{x y:Operand}{r off len r2 jP lw:Nat}(m:Nat){rows kC:List (List D)}(hk:bG P ro ops (k+1) b { n:=s1.n,t:=s1.put o.dst (.i m),h:=upd s1.h r (some ⟨e,rows.take off++(kC.drop jP).take m++rows.drop (off+m)⟩),nx:=s1.nx,ok:=True,e:=s1.e } Q)
  (z9:iX P C ops i k o b s s1:=by exact pos)(hop:o.op = .call { callee:=.builtin .copy,args:=#[x,y],argTypes:=#[t,u] }:=by exact rfl)(ht:P.underlying t=some (.slice e):=by kernel_rfl)
  (hx:s1.ev x = .mrow r off len:=by simp only[go_sem,ff];first|done|exact rfl)(hy:s1.ev y = .mrow r2 jP lw:=by simp only[go_sem,ff];first|done|exact rfl)(hr:s1.h r=some ⟨e,rows⟩:=by simp only[go_sem,ff];first|done|exact rfl)(hr2:s1.h r2=some ⟨e,kC⟩:=by simp only[go_sem,ff];first|done|exact rfl)(hm:m=min lw len:=by first|omega|(simp;done)|(simp;omega))(h0:0<m:=by first|omega|(simp;done)|(simp;omega))(hlo:off<=rows.length:=by first|omega|(simp;done)|(simp;omega))(hl:jP+m<=kC.length:=by first|omega|(simp;done)|(simp;omega)):bG P ro ops i b s Q:=Xc k m z9 hop ht hx hy hr hr2 hm h0 hlo hl hk
def gcap{t e:TypeId}{x:Operand}{r off len:Nat}{rows:List (List D)}(hk : ∀c:Nat,len<=c->c<=maxLen->bG P ro ops (k+1) b { n:=s1.n,t:=s1.put o.dst (.i c),h:=s1.h,nx:=s1.nx,ok:=True,e:=Env.lim s1.e r (off+c) } Q)
  (z9:iX P C ops i k o b s s1:=by exact pos)(hop:o.op = .call { callee:=.builtin .cap,args:=#[x],argTypes:=#[t] }:=by exact rfl)(ht:P.underlying t=some (.slice e):=by kernel_rfl)
  (hx:s1.ev x = .mrow r off len:=by simp only[go_sem,ff];first|done|exact rfl)(hr:s1.h r=some ⟨e,rows⟩:=by simp only[go_sem,ff];first|done|exact rfl):bG P ro ops i b s Q:=Xe k z9 hop ht hx hr hk
def gresl{t e:TypeId}{x hi:Operand}{r off len c:Nat}{E:Env}(m:Nat){rows:List (List D)}(hE:s1.e=Env.lim E r c)(hc:off+m<=c)(hk:bG P ro ops (k+1) b { n:=s1.n,t:=s1.put o.dst (.mrow r off m),h:=s1.h,nx:=s1.nx,ok:=True,e:=s1.e } Q)
  (z9:iX P C ops i k o b s s1:=by exact pos)(hop:o.op = .slice t x none (some hi) none:=by exact rfl)(ht:P.underlying t=some (.slice e):=by kernel_rfl)
  (hx:s1.ev x = .mrow r off len:=by simp only[go_sem,ff];first|done|exact rfl)(hh:s1.ev hi = .i m:=by simp only[go_sem,ff];first|done|exact rfl)(hr:s1.h r=some ⟨e,rows⟩:=by simp only[go_sem,ff];first|done|exact rfl)(h0:0<m:=by first|omega|(simp;done)|(simp;omega))(hl:off<rows.length:=by first|omega|(simp;done)|(simp;omega)):bG P ro ops i b s Q:=WW k z9 hop ht hx hh hr hE hc h0 hl hk
def Zde{t u e:TypeId}{kk:IntKind}{x y:Operand}{r off n c:Nat}(m:Nat){rows:List (List D)}{E:Env}(hE:s1.e=Env.lim E r c)(hc:c<off+n+m)(hby:(n+m)*P.bytesOf e<=140737488355328)(h63:n+m<=4611686018427387904)
  (hk:bG P ro ops (k+1) b { n:=s1.n,t:=s1.put o.dst (.mrow (b+k) 0 (n+m)),h:=upd s1.h (b+k) (some ⟨e,(rows.drop off).take n++List.replicate m (zeroCells P e)⟩),nx:=s1.nx,ok:=True,e:=s1.e } Q)
  (z9:iX P C ops i k o b s s1:=by exact pos)(hop:o.op = .call { callee:=.builtin .append,args:=#[x,y],argTypes:=#[t,u] }:=by exact rfl)(ht:P.underlying t=some (.slice e):=by kernel_rfl)(hu:P.underlying u=some (.int kk):=by kernel_rfl)(hz:dJ P e=true:=by kernel_rfl)(h1z:(zeroCells P e).all D.one=true:=by kernel_rfl)(hdef:(zeroCells P e).length=P.cellsOf e:=by kernel_rfl)
  (hx:s1.ev x = .mrow r off n:=by simp only[go_sem,ff];first|done|exact rfl)(hy:s1.ev y = .i m:=by simp only[go_sem,ff];first|done|exact rfl)(hr:s1.h r=some ⟨e,rows⟩:=by simp only[go_sem,ff];first|done|exact rfl)(hl:off+n<=rows.length:=by first|omega|(simp;done)|(simp;omega)):bG P ro ops i b s Q:=Xh k z9 hop ht hu hz h1z hdef hx hy hr hE hc hl hby h63 hk
def Zdf{f x y:Operand}{ts:Array TypeId}{gB:FuncId}{fnx:Func}{t u e:TypeId}{r off len r2 jP lw:Nat}{rows kC:List (List D)}(hne:r≠r2)
  (hk:bG P ro ops (k+1) b { n:=s1.n,t:=s1.put o.dst (.b false),h:=s1.h,nx:=s1.nx,ok:=True,e:=s1.e } Q)
  (hF : P.funcs[gB]? = some fnx := by exact rfl) (hname : (fnx.name == "runtime.NumGoroutine") = false := by kernel_rfl) (hb : fnx.body.isNone = true := by kernel_rfl) (hn : Extern.findNext fnx = none := by kernel_rfl) (hfind : Extern.find fnx = some (Extern.SlicesOverlaps.overlaps #[t, t] #[u]) := by kernel_rfl) (ht : P.underlying t = some (.slice e) := by kernel_rfl)
  (z9:iX P C ops i k o b s s1:=by exact pos) (hop:o.op = .call { callee:=.value f,args:=#[x,y],argTypes:=ts }:=by exact rfl)
  (hfv:s1.ev f = .fn (.func gB) [] []:=by simp only[go_sem,ff];first|done|exact rfl) (hx:s1.ev x = .mrow r off len:=by simp only[go_sem,ff];first|done|exact rfl) (hy:s1.ev y = .mrow r2 jP lw:=by simp only[go_sem,ff];first|done|exact rfl) (hr:s1.h r=some ⟨e,rows⟩:=by simp only[go_sem,ff];first|done|exact rfl) (hr2:s1.h r2=some ⟨e,kC⟩:=by simp only[go_sem,ff];first|done|exact rfl) (h0:0<len:=by first|omega|(simp;done)|(simp;omega)) (h1:0<lw:=by first|omega|(simp;done)|(simp;omega)):bG P ro ops i b s Q :=
 seg_apart k z9 hop hF hname hb hn hfind ht hfv hx hy hr hr2 hne h0 h1 hk
def Zdd{t u e:TypeId}{x y:Operand}{yd:D}{r n:Nat}{rows news:List (List D)}(hne:r≠b+k)
  (hk:bG P ro ops (k+1) b { n:=s1.n,t:=s1.put o.dst (.mrow (b+k) 0 (n+news.length)),h:=upd (upd s1.h r none) (b+k) (some ⟨e,rows++news⟩),nx:=s1.nx,ok:=True,e:=s1.e } Q)
  (z9:iX P C ops i k o b s s1:=by exact pos)(hop:o.op = .call { callee:=.builtin .append,args:=#[x,y],argTypes:=#[t,u] }:=by exact rfl)(ht:P.underlying t=some (.slice e):=by kernel_rfl)
  (hx:s1.ev x = .mrow r 0 n:=by simp only[go_sem,ff];first|done|exact rfl)(hy:s1.ev y=yd:=by simp only[go_sem,ff];first|done|exact rfl)(hr:s1.h r=some ⟨e,rows⟩:=by simp only[go_sem,ff];first|done|exact rfl)(hnw:aj yd s1.h=news:=by simp only[aj,go_sem,ff];first|done|exact rfl)
  (hn:rows.length=n:=by first|omega|(simp;done)|(simp;omega))(hl:news.length=bq yd:=by first|(simp only[bq,go_sem,ff];done)|(simp[bq];done)|(simp[bq];omega))(hs:fG P u s1.h yd=true:=by simp only[go_sem,ff])(hrl : ∀q∈news,q.length=P.cellsOf e:=by simp only[go_sem,ff])(hz:dJ P e=true:=by kernel_rfl)(hc:0<P.cellsOf e:=by exact Y3 (by kernel_rfl))(hby:(n+news.length)*P.bytesOf e<=140737488355328:=by omega)(h63:n+news.length<=9223372036854775807:=by omega):bG P ro ops i b s Q :=
 Xg k z9 hop ht hx hy hr hn hne hnw hl hs hrl hz hc hby h63 hk
end
end Go.DL
