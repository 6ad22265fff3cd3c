/-
  MANY TEXTS OF MINE IN ONE (a claim has a limit of files): DFrame, DFoot, DSh, DFs, DGrow, DSl, DPan, DDrawC, DSg, DRec, DBuf, DXc, DXl, Sym2, Rec9, Dp, Jno, Jp, DXm, Zsem, DlW3, DlW5, DlW7, DSort, Zdt, Zdu, Jlw, Jlx. Conditions: none.
-/
import Derived.Lib.SliceRun
import Derived.KernelRfl
import Derived.Shelf.Spec.SlicesGrow
import Derived.BigFrame
import Derived.Lib.Overlaps
import Derived.RecoverIn
import Derived.Laws.Externs
import Derived.Shelf.SlSortCmp.NoneTotal
import Derived.Test.YtjngdcldglkolaaGreatDoorMQM2
set_option linter.unusedVariables false
set_option linter.unusedSimpArgs false
set_option linter.unusedSectionVars false
set_option linter.defProp false
namespace Go.DL
variable {P : Program} {C : Con} {ro : Option Nat} {Q : Exit -> S -> Prop}
theorem Vf [Glob P] {c:Code}{s:S}{α:Type}(keep:List Nat) (A:α->Prop) (μ:α->Nat) (tb:α->List (Nat×D)) (hh:α->H) (nxx:α->Nat) (a0:α) {fx:List (Nat×D)}(hfx:keep.map (fun i=>(i,s.t i))=fx) (hA:A a0) (ht : ∀ p∈tb a0,Tb s.t p) (hq : ∀ r,hh a0 r=s.h r\/hh a0 r=none) (hn:s.nx<=nxx a0)
  (round : ∀ a,A a->DW P ro c (thenS (fun s'=>∃ a',A a'/\μ a'<μ a/\(∀ p∈tb a',Tb s'.t p)/\(∀ p∈fx,Tb s'.t p)/\(∀ r,hh a' r=s'.h r\/hh a' r=none)/\s'.nx<=nxx a'/\s'.n=s.n/\s'.e=s.e) Q) { n:=s.n,t:=tab (tb a++fx),h:=hh a,nx:=nxx a,e:=s.e }):DW P ro (.loop c) Q s :=
 KG A μ (fun a=>tb a++fx) hh nxx a0 hA (fun p hp=>(Yx.1 hp).elim (ht p) (Cn hfx p)) hq hn fun a ha=>(round a ha).mono fun e s' hq=>by
  cases e with
  | normal =>
   obtain⟨a',h1,h2,h3,h4,h5,h6,h7,h8⟩:=hq;exact⟨a',h1,h2,fun p hp=>(Yx.1 hp).elim (h3 p) (h4 p),h5,h6,h7,h8⟩
  | _=>exact hq
theorem Vi [Glob P] {x y:Code}{s:S}{α:Type}(keep:List Nat) (A:α->Prop) (tb:α->List (Nat×D)) (hh:α->H) (nxx:α->Nat) {fx:List (Nat×D)}(_hfx:keep.map (fun i=>(i,s.t i))=fx)
  (h:DW P ro x (thenS (fun s'=>∃ a,A a/\(∀ p∈tb a,Tb s'.t p)/\(∀ p∈fx,Tb s'.t p)/\(∀ r,hh a r=s'.h r\/hh a r=none)/\s'.nx<=nxx a/\s'.n=s.n/\s'.e=s.e) Q) s)
  (k : ∀ a,A a->DW P ro y Q { n:=s.n,t:=tab (tb a++fx),h:=hh a,nx:=nxx a,e:=s.e }):DW P ro (.seq x y) Q s:=by
 refine Vb _ h ?_
 rintro s' ⟨a,h1,h2,h3,h4,h5,h6,h7⟩
 refine Dq (tb a++fx) (hh a) (nxx a) (fun p hp=>(Yx.1 hp).elim (h2 p) (h3 p)) h4 h5 ?_
 rw[h6,h7]
 exact k a h1
def Less (h' h:H):Prop:=∀ q,h' q=h q\/h' q=none
theorem mJ (h:H):Less h h:=fun _=>.inl rfl
theorem J5 {h:H}{r:Nat}{x:Blk}(hr:h r=some x):∀ q,upd (upd h r none) r (some x) q=h q\/upd (upd h r none) r (some x) q=none:=by
 intro q
 by_cases e:q=r
 .
  subst e;left;rw[upd_same,hr]
 left;rw[upd_ne _ _ _ _ e,upd_ne _ _ _ _ e]
theorem Da {h:H}{r r1 r2:Nat}{x:Option Blk}{y:Option Blk}(h1:r1=r\/h r1=none):∀ q,upd (upd h r none) r2 y q=upd (upd (upd (upd h r none) r1 x) r1 none) r2 y q\/upd (upd h r none) r2 y q=none:=by
 intro q
 by_cases e:q=r2
 .
  subst e;left;rw[upd_same,upd_same]
 rw[upd_ne _ _ _ _ e,upd_ne _ _ _ _ e]
 by_cases e1:q=r1
 .
  subst e1
  right
  rcases h1 with rfl|h1
  .
   rw[upd_same]
  by_cases e2:q=r
  .
   subst e2;rw[upd_same]
  rw[upd_ne _ _ _ _ e2,h1]
 left;rw[upd_ne _ _ _ _ e1,upd_ne _ _ _ _ e1]
theorem HM.recell2 [Glob P] {h h1:H}{g g':Mem}{w:World}(hm:HM P h g w) (hm1:HM P h1 g' w) (mono:Mono g g' w w) {q:Nat}{ty:TypeId}{rows rows':List (List D)}(hq:h q=some ⟨ty,rows⟩) (hq1:h1 q=some ⟨ty,rows⟩) (hl:rows'.length=rows.length)
  (hc : ∀ (i:Nat) (row':List D),rows'[i]? = some row' -> ∃ row:List D,rows[i]? = some row/\row'.length=row.length /\ ∀ (j:Nat) (d':D),row'[j]? = some d' -> ∃ d,row[j]? = some d /\ ∀ v,Rep w g d v->Rep w g' d' v):HM P (upd h1 q (some ⟨ty,rows'⟩)) g' w:=by
 refine⟨fun x hx=>hm1.dead x ?_,fun x bl hx=>?_,hm1.inj,hm1.used,hm1.imm,hm1.gr⟩
 .
  by_cases e:x=q
  .
   subst e;rw[upd_same] at hx;cases hx
  rwa [upd_ne _ _ _ _ e] at hx
 by_cases e:x=q
 .
  subst e;rw[upd_same] at hx
  cases hx
  obtain⟨blk,c,e1,e2,e3,e4,e5⟩:=hm1.blk x _ hq1;obtain⟨blk2,c2,f1,f2,f3,f4,f5⟩:=hm.blk x _ hq;have eM:g'.M x=g.M x:=by
   rcases mono.M x (hm.used x (by rw[f1];simp)) with k|k
   .
    exact k
   rw[k] at e1;cases e1
  rw[eM,f1] at e1
  cases e1
  refine⟨blk,c,eM.trans f1,e2,by show rows'.length<=c;rw[hl];exact e3,e4,?_⟩
  rcases e5 with e5|⟨b,cur,rfl,h6,h7,h8,h9⟩
  .
   exact .inl e5
  refine .inr ⟨b,cur,rfl,h6,h7,h8,fun i row' hi=>?_⟩
  rcases f5 with⟨f5,_⟩|⟨b2,cur2,k5,k6,k7,k8,k9⟩
  .
   cases f5
  cases k5
  have k6:=h6.uniq k6;subst k6;obtain⟨row,r1,r2,r3⟩:=hc i row' hi;have hk:=k9 i row r1;refine⟨r2.trans hk.1,fun j d' hd=>?_⟩
  obtain⟨d,d1,d2⟩:=r3 j d' hd;obtain⟨u,u3,u4,u5⟩:=hk.2 j d d1;exact⟨u,u3,u4,d2 u u5⟩
 rw[upd_ne _ _ _ _ e] at hx
 exact hm1.blk x bl hx
theorem one_cell {row:List D}{j0:Nat}{d0 d1:D}(hj:row[j0]? = some d0) {w:World}{g g':Mem}(hd : ∀ v,Rep w g d0 v->Rep w g' d1 v) (ho : ∀ d v,Rep w g d v->Rep w g' d v) :
  ∀ (i:Nat) (row':List D),[row.set j0 d1][i]? = some row' -> ∃ rw0:List D,[row][i]? = some rw0/\row'.length=rw0.length /\ ∀ (j:Nat) (d':D),row'[j]? = some d' -> ∃ d,rw0[j]? = some d /\ ∀ v,Rep w g d v->Rep w g' d' v:=by
 intro i row' hi
 cases i with
 | succ i=>simp at hi
 | zero =>
  simp at hi
  subst hi;refine⟨row,rfl,by simp,fun j d' hd'=>?_⟩
  by_cases e:j=j0
  .
   subst e;rw[ZY (by exact (Ya.1 hj).1)] at hd'
   cases hd'
   exact⟨d0,hj,hd⟩
  rw[List.getElem?_set_ne (Ne.symm e)] at hd';exact⟨d',hd',ho d'⟩
theorem nu [Glob P] {c:Code}{s:S}(r j:Nat) (ty0 ty:TypeId) {row:List D}(hr:s.h r=some ⟨ty0,[row]⟩) (hj:row[j]? = some (.list true [])) (hty:0<P.cellsOf ty) (h:DW P ro c Q { n:=s.n,t:=s.t,h:=upd (upd s.h s.nx (some ⟨ty,[]⟩)) r (some ⟨ty0,[row.set j (.mrow s.nx 0 0)]⟩),nx:=s.nx+1,e:=s.e }):DW P ro c Q s:=by
 intro B g a w hs hU
 have hnu : ¬ g.U s.nx:=fun h=>Nat.lt_irrefl _ (hU _ h)
 obtain⟨g',q1,q2,q3,q4,q5⟩:=hs.mem.putNone (h':=upd s.h s.nx (some ⟨ty,[]⟩)) s.nx ⟨ty,[]⟩ hnu (upd_same _ _ _) (fun r hr=>.inl (upd_ne _ _ _ _ hr)) hty rfl
 have hrn:r≠s.nx:=by
  intro e;subst e;obtain⟨blk,c,h1,_⟩:=hs.mem.blk _ _ hr;exact hnu (hs.mem.used _ (by rw[h1];simp))
 have hm:=HM.recell2 (rows':=[row.set j (.mrow s.nx 0 0)]) hs.mem q4 q5 hr (by rw[upd_ne _ _ _ _ hrn];exact hr) rfl (one_cell hj (fun v hv=>by
  obtain⟨x,rfl⟩:=U6 hv;refine .mrow _ _ _ _ ⟨x,0,rfl,XY _,fun h=>absurd h om⟩ ((q2 _).2 (.inr rfl)) fun blk c sz he=>?_
  rw[q1] at he
  cases he
  exact⟨⟨XY _,Yo _⟩,.inl ⟨rfl,x,rfl⟩⟩) fun d v hv=>hv.later hs.mem q5)
 have hst:St P B { n:=s.n,t:=s.t,h:=upd (upd s.h s.nx (some ⟨ty,[]⟩)) r (some ⟨ty0,[row.set j (.mrow s.nx 0 0)]⟩),nx:=s.nx+1,e:=s.e } g' a w :=
  ⟨hs.sz,fun j=>(hs.tm j).later hs.mem q5,hm,hs.df.later hs.mem q5,Env.later hs.mem q5 hs.en,hs.bd⟩
 exact wpIn_mono (h B g' a w hst (fun r hr=>by
  rcases (q2 r).1 hr with h|h
  .
   exact Nat.lt_succ_of_lt (hU r h)
  subst h;exact Nat.lt_succ_self _)) fun e a' w' ⟨s',g'',q,r,m,u,v⟩=>⟨s',g'',q,r,q5.toX.trans m,u,v⟩
theorem wM [Glob P] {c:Code}{s:S}(i r:Nat) {ty:TypeId}{rows:List (List D)}{off len:Nat}(hi:s.t i = .mrow r off len) (hr:s.h r=some ⟨ty,rows⟩) (hl:off+len<=rows.length) (hn:aS rows=true) (h:DW P ro c Q { n:=s.n,t:=upd s.t i (.list false ((rows.drop off).take len)),h:=upd s.h r none,nx:=s.nx,e:=s.e }):DW P ro c Q s:=by
 intro B g a w hs hU
 have mono:=wF g r w
 have hst:St P B { n:=s.n,t:=upd s.t i (.list false ((rows.drop off).take len)),h:=upd s.h r none,nx:=s.nx,e:=s.e } (iK g r) a w:=by
  refine⟨hs.sz,fun j=>?_,zH hs.mem r,hs.df.later hs.mem mono,Env.later hs.mem mono hs.en,hs.bd⟩
  by_cases e:j=i
  .
   subst e;simp only[upd_same];have hj:=hs.tm j;rw[hi] at hj;exact JY hs.mem hr hn hl hj
  simp only[upd_ne _ _ _ _ e];exact (hs.tm j).later hs.mem mono
 exact wpIn_mono (h B (iK g r) a w hst hU) fun e a' w' ⟨s',g'',q,r,m,u,v⟩=>⟨s',g'',q,r,mono.toX.trans m,u,v⟩
theorem kZ [Glob P] {c:Code}{s:S}(q j r:Nat) {ty ty0:TypeId}{rows:List (List D)}{row:List D}{off len:Nat}(hq:s.h q=some ⟨ty0,[row]⟩) (hj:row[j]? = some (.mrow r off len)) (hr:s.h r=some ⟨ty,rows⟩) (hqr:q≠r) (hl:off+len<=rows.length) (hn:aS rows=true)
  (h:DW P ro c Q { n:=s.n,t:=s.t,h:=upd (upd s.h r none) q (some ⟨ty0,[row.set j (.list false ((rows.drop off).take len))]⟩),nx:=s.nx,e:=s.e }):DW P ro c Q s:=by
 intro B g a w hs hU
 have mono:=wF g r w
 have hm:=HM.recell2 (rows':=[row.set j (.list false ((rows.drop off).take len))]) hs.mem (zH hs.mem r) mono hq (by rw[upd_ne _ _ _ _ hqr];exact hq) rfl (one_cell hj (fun v hv=>JY hs.mem hr hn hl hv) fun d v hv=>hv.later hs.mem mono)
 have hst:St P B { n:=s.n,t:=s.t,h:=upd (upd s.h r none) q (some ⟨ty0,[row.set j (.list false ((rows.drop off).take len))]⟩),nx:=s.nx,e:=s.e } (iK g r) a w :=
  ⟨hs.sz,fun j=>(hs.tm j).later hs.mem mono,hm,hs.df.later hs.mem mono,Env.later hs.mem mono hs.en,hs.bd⟩
 exact wpIn_mono (h B (iK g r) a w hst hU) fun e a' w' ⟨s',g'',q,r,m,u,v⟩=>⟨s',g'',q,r,mono.toX.trans m,u,v⟩
theorem J2 [Glob P] {h:H}{g:Mem}{w:World}(hm:HM P h g w) {r:Nat}{bl:Blk}(hr:h r=some bl) {kv:List D}(hk:jm bl=some kv) (hn:aZ kv=true) {v:Value}(hv:Rep w g (.mp r) v):Rep w (iK g r) (.fmap kv) v:=by
 obtain⟨b,es,clk,rfl,h1,h2,h3,_⟩:=Co hm hv hr hk
 exact .fmap kv b es clk (.inr ⟨_,_,h3⟩) h1 h2.1 fun k d x e1 e2=>(h2.2 k d x e1 e2).clean (jL hn (Yl e1)) fun b hb=>.inl hb
theorem Dt [Glob P] {c:Code}{s:S}(i r:Nat) {d d':D}(hi:s.t i=d) (hd : ∀ (g:Mem) (w:World) (v:Value),HM P s.h g w->Rep w g d v->Rep w (iK g r) d' v) (h:DW P ro c Q { n:=s.n,t:=upd s.t i d',h:=upd s.h r none,nx:=s.nx,e:=s.e }):DW P ro c Q s:=by
 intro B g a w hs hU
 have mono:=wF g r w
 have hst:St P B { n:=s.n,t:=upd s.t i d',h:=upd s.h r none,nx:=s.nx,e:=s.e } (iK g r) a w:=by
  refine⟨hs.sz,fun j=>?_,zH hs.mem r,hs.df.later hs.mem mono,Env.later hs.mem mono hs.en,hs.bd⟩
  by_cases e:j=i
  .
   subst e;simp only[upd_same];have hj:=hs.tm j;rw[hi] at hj;exact hd g w _ hs.mem hj
  simp only[upd_ne _ _ _ _ e];exact (hs.tm j).later hs.mem mono
 exact wpIn_mono (h B (iK g r) a w hst hU) fun e a' w' ⟨s',g'',q,r,m,u,v⟩=>⟨s',g'',q,r,mono.toX.trans m,u,v⟩
theorem Vl [Glob P] {c:Code}{s:S}(i r:Nat) {bl:Blk}{kv:List D}(hi:s.t i = .mp r) (hr:s.h r=some bl) (hk:jm bl=some kv) (hn:aZ kv=true) (h:DW P ro c Q { n:=s.n,t:=upd s.t i (.fmap kv),h:=upd s.h r none,nx:=s.nx,e:=s.e }):DW P ro c Q s :=
 Dt i r hi (fun _ _ _ hm hv=>J2 hm hr hk hn hv) h
theorem Vk [Glob P] {c:Code}{s:S}(q j r:Nat) {ty0:TypeId}{row:List D}{bl:Blk}{kv:List D}(hq:s.h q=some ⟨ty0,[row]⟩) (hj:row[j]? = some (.mp r)) (hr:s.h r=some bl) (hk:jm bl=some kv) (hqr:q≠r) (hn:aZ kv=true)
  (h:DW P ro c Q { n:=s.n,t:=s.t,h:=upd (upd s.h r none) q (some ⟨ty0,[row.set j (.fmap kv)]⟩),nx:=s.nx,e:=s.e }):DW P ro c Q s:=by
 intro B g a w hs hU
 have mono:=wF g r w
 have hm:=HM.recell2 (rows':=[row.set j (.fmap kv)]) hs.mem (zH hs.mem r) mono hq (by rw[upd_ne _ _ _ _ hqr];exact hq) rfl (one_cell hj (fun v hv=>J2 hs.mem hr hk hn hv) fun d v hv=>hv.later hs.mem mono)
 have hst:St P B { n:=s.n,t:=s.t,h:=upd (upd s.h r none) q (some ⟨ty0,[row.set j (.fmap kv)]⟩),nx:=s.nx,e:=s.e } (iK g r) a w :=
  ⟨hs.sz,fun j=>(hs.tm j).later hs.mem mono,hm,hs.df.later hs.mem mono,Env.later hs.mem mono hs.en,hs.bd⟩
 exact wpIn_mono (h B (iK g r) a w hst hU) fun e a' w' ⟨s',g'',q,r,m,u,v⟩=>⟨s',g'',q,r,mono.toX.trans m,u,v⟩
theorem JZ [Glob P] {h:H}{g:Mem}{w:World}(hm:HM P h g w) {r:Nat}{ty:TypeId}{row:List D}(hr:h r=some ⟨ty,[row]⟩) (hn:aZ row=true) {v:Value}(hv:Rep w g (.mptr r 0 0) v):Rep w (iK g r) (.eptr row) v:=by
 let h1:H:=fun x=>if x=r then h r else none
 have hsub : ∀ x,h1 x=h x\/h1 x=none:=fun x=>by
  by_cases e:x=r
  .
   subst e;exact .inl (X6 rfl)
  exact .inr (XZ e)
 have hm1:=hm.only hsub
 have e1:h1 r=some ⟨ty,[row]⟩:=by show (if r=r then h r else none)=_;rw[X6 rfl];exact hr
 have e2:dP (.mptr r 0 0) h1=row:=by simp only[dP,e1];rfl
 have h0 : ∀ d:D,d.nr=true->kG h1 d=d/\lm h1 d:=by
  intro d hd
  cases d<;>first|exact⟨rfl,trivial⟩|(simp[D.nr] at hd;done)
 have:=Dv hm1 (lJ hv.only) ⟨by rw[e1];rfl,by rw[e2];exact fun c hc=>(h0 c (jL hn hc)).2⟩
 rw[e2] at this
 have e3:row.map (kG h1)=row:=by
  conv=>rhs;rw[<- List.map_id row]
  exact Zz fun c hc=>(h0 c (jL hn hc)).1
 rw[e3] at this
 refine this.clean hn fun b hb=>?_
 rcases hb with hb|⟨x,c,sz,hb⟩
 .
  exact .inl hb
 have hb2:(if (h1 x).isSome then g.M x else none)=some (some b,c,sz):=hb
 split at hb2
 .
  rename_i hx
  have:x=r:=by
   refine YX fun e=>?_
   have:h1 x=none:=XZ e;rw[this] at hx;cases hx
  subst this;exact .inr ⟨c,sz,hb2⟩
 cases hb2
theorem sH [Glob P] {c:Code}{s:S}(i r:Nat) {ty:TypeId}{row:List D}(hi:s.t i = .mptr r 0 0) (hr:s.h r=some ⟨ty,[row]⟩) (hn:aZ row=true) (h:DW P ro c Q { n:=s.n,t:=upd s.t i (.eptr row),h:=upd s.h r none,nx:=s.nx,e:=s.e }):DW P ro c Q s :=
 Dt i r hi (fun _ _ _ hm hv=>JZ hm hr hn hv) h
def ax (P:Program) [Glob P] (ro:Option Nat) (ops:Array Oper) (i b:Nat) (s:S) (Q:Exit->S->Prop):Prop :=
 ∀ (B:Bot) (g0 g:Mem) (a:Act) (w0 w:World),St P B s g a w->Mono g0 g w0 w->(∀ r,g.U r->r<b+i) ->
  wpOpsIn (Fw ro) 0 P ops (fun e a' w'=>∃ s' g',Q e s'/\St P B s' g' a' w'/\MonoX s.e.x g0 g' w0 w'/\(∀ r,g'.U r->r<s'.nx)/\s'.e.x=s.e.x) (List.range' i (ops.size-i)) a w
def dw (P:Program) [Glob P] (C:Con) (ops:Array Oper) (i k:Nat) (o:Oper) (b:Nat) (s s1:S):Prop:=i<=k/\ops[k]? = some o/\o.guard=none/\aF P (words P) C ops.toList b i ((ops.toList.drop i).take (k-i)) s=s1/\s1.ok/\bB s1.n o.dst=true
theorem uA [Glob P] {s:S}{id:Nat}{ops:Array Oper}(h:ax P ro ops 0 s.nx { n:=s.n,t:=s.t,h:=s.h,nx:=s.nx+ops.size,ok:=True,e:=s.e } Q):DW P ro (.region id ops false) Q s:=by
 intro B g a w hs hU
 refine wpIn_region ?_
 rw[Y4]
 exact h B g g a w w ⟨hs.sz,hs.tm,hs.mem,hs.df,hs.en,hs.bd⟩ (Mono.refl _ _) (fun r hr=>by have:=hU r hr;omega)
theorem Dm [Glob P] (L:List Oper) (b:Nat):∀ (l:List Oper) (i:Nat) (u:S),(aF P (words P) C L b i l u).nx=u.nx:=by
 intro l
 induction l with
 | nil=>intro i u;rfl
 | cons x l ih=>intro i u;simp only[aF];rw[ih,exec1_n.2]
theorem kY [Glob P] (L:List Oper) (b:Nat):∀ (l:List Oper) (i:Nat) (u:S),(aF P (words P) C L b i l u).e=u.e:=by
 intro l
 induction l with
 | nil=>intro i u;rfl
 | cons x l ih =>
  intro i u;simp only[aF];rw[ih];unfold bu
  split<;>rfl
theorem tJ [Glob P] {s s2:S}{ops:Array Oper}{i b:Nat}(hi:i<=ops.size) (he:aF P (words P) C ops.toList b i (ops.toList.drop i) s=s2) (hok:s2.ok) (hn:s.nx=b+ops.size) (hq:Q .normal s2.clear):ax P ro ops i b s Q:=by
 intro B g0 g a w0 w hs hm hU
 have e3:(ops.toList.drop i).take (ops.size-i)=ops.toList.drop i:=Yp (by simp)
 have:=kE (ro:=ro) (P:=P) (C:=C) (B:=B) (ops:=ops) (b:=b) (n:=0) (rest:=[]) (g0:=g0) (w0:=w0) (Q:=fun e a' w'=>∃ s' g',Q e s'/\St P B s' g' a' w'/\MonoX s.e.x g0 g' w0 w'/\(∀ r,g'.U r->r<s'.nx)/\s'.e.x=s.e.x) (ops.size-i) i s g a w hs hm hU om
  (by rw[e3,he];exact hok) fun g'' a'' w'' p1 p2 p3=>by
   rw[e3,he] at p1;refine⟨_,g'',hq,p1.clear,p2.toX,fun r hr=>?_,?_⟩
   .
    have h3:=p3 r hr;have h4:=Dm (P:=P) (C:=C) ops.toList b (ops.toList.drop i) i s;rw[he] at h4
    show r<s2.nx
    rw[h4,hn];omega
   have h5:=kY (P:=P) (C:=C) ops.toList b (ops.toList.drop i) i s;rw[he] at h5
   show s2.e.x=s.e.x
   rw[h5]
 rw[YC] at this
 exact this
theorem iZ [Glob P] {s s1:S}{ops:Array Oper}{i b:Nat}(k:Nat) {o:Oper}{f:Operand}{args:Array Operand}{ts:Array TypeId}{fid:FuncId}{first caps xs:List D}(R:D->H->Nat->Prop) (hik:i<=k)
  (ho:ops[k]? = some o) (hop:o.op = .call { callee:=.value f,args:=args,argTypes:=ts }) (hg:o.guard=none)
  (he:aF P (words P) C ops.toList b i ((ops.toList.drop i).take (k-i)) s=s1) (hok:s1.ok) (hd:bB s1.n o.dst=true)
  (hf:s1.ev f = .fn (.func fid) first caps) (hxg:(args.toList.map s1.ev).all sg=true) (hx:((args.toList.map s1.ev).map sd).map wk=xs) (hct:RCt P fid (first++xs++caps) s1.h (b+k) R)
  (hk : ∀ res h' n',R res h' n'->ax P ro ops (k+1) n' { n:=s1.n,t:=s1.put o.dst res,h:=h',nx:=n'+ops.size,ok:=True,e:=s1.e } Q):ax P ro ops i b s Q:=by
 intro B g0 g a w0 w hs hm hU
 have hlt:k<ops.size:=(Yk.1 ho).1
 have hr:List.range' i (ops.size-i)=List.range' i (k-i)++(k::List.range' (k+1) (ops.size-(k+1))):=by
  have:ops.size-i=(k-i)+((ops.size-(k+1))+1):=by omega
  rw[this,<- Ze,Y0];have e1:i+(k-i)=k:=by omega
  rw[e1]
 rw[hr]
 refine kE (C:=C) (b:=b) (k-i) i s g a w hs hm hU (by omega) (by rw[he];exact hok) fun g1 a1 w1 hs1 hm1 hU1=>?_
 rw[he] at hs1
 have hU1 : ∀ r,g1.U r->r<b+k:=fun r hr=>by have:=hU1 r hr;omega
 have hse:s1.e=s.e:=by rw[<- he];exact kY _ _ _ _ _
 rw[wpOpsIn_cons]
 unfold wpOpIn
 rw[ho]
 simp only
 have hw:Region.wanted o (yielded ops a1.tmps)=true:=by simp[Region.wanted,hg]
 rw[X6 hw]
 have hdef : ∀ c,o.op ≠ .defer c:=by intro c e;rw[e] at hop;cases hop
 have hsem:o.semAt (Fw ro).round a1.eval=execOp a1.eval o:=Oper.semAt_eq _ _ _ hdef
 refine⟨fun _ _=>trivial,?_⟩
 rw[hsem]
 obtain⟨hbd,hct⟩:=hct
 have hfr:=bI hs1 f
 rw[hf] at hfr
 have hxr:=Reps.wk (mg (lX hs1 args.toList) hxg)
 rw[hx] at hxr
 generalize hv:a1.eval f=vf at hfr
 cases hfr with|fn _ _ _ fs cs l1 l2 r1 r2 =>
 have hrun:(execOp a1.eval o).run P w1 = .ok (.enter fid (fs++args.map a1.eval++cs)) w1:=by
  simp[execOp,hop,resolve,Deferred.ofValue,hv,invoke,lZ hbd]
 rw[hrun,Oper.uponIn_enter]
 have e:fs++args.map a1.eval++cs=(fs.toList++args.toList.map a1.eval++cs.toList).toArray:=by apply Zl;simp
 rw[e]
 refine⟨fun h=>by simp[Fw,Fence.wide] at h,o7 ((hct w1 g1 _ hs1.mem hU1 (Reps.append (Reps.append ⟨by simpa using l1,fun i d x h1 h2=>r1 i d x h1 (by simpa using h2)⟩ hxr) ⟨by simpa using l2,fun i d x h1 h2=>r2 i d x h1 (by simpa using h2)⟩)).mono ?_)⟩
 rintro e w' ⟨v,g',res,h',n',hR,rfl,q1,q2,q3,q4⟩
 have hs2:=gN hs1 q3 q2 hd q1 True
 have:=hk res h' n' hR B g0 g' (a1.put o.dst v) w0 w' ⟨hs2.sz,hs2.tm,hs2.mem,hs2.df,hs2.en,hs2.bd⟩ (hm1.trans q3) (fun r hr=>by have:=q4 r hr;omega)
 rw[hse] at this
 exact this
theorem jD [Glob P] {s s1:S}{ops:Array Oper}{i b:Nat}(k:Nat) {o:Oper}(A:D->H->Prop) (hik:i<=k) (ho:ops[k]? = some o) (hg:o.guard=none) (hdef : ∀ c,o.op ≠ .defer c)
  (he:aF P (words P) C ops.toList b i ((ops.toList.drop i).take (k-i)) s=s1) (hok:s1.ok) (hd:bB s1.n o.dst=true)
  (hdo : ∀ (B:Bot) (g:Mem) (a:Act) (w:World),St P B s1 g a w -> ¬ g.U (b+k) -> ∃ d h',A d h'/\Does P g w (b+k) ((execOp a.eval o).run P w) d h')
  (hk : ∀ d h',A d h'->ax P ro ops (k+1) b { n:=s1.n,t:=s1.put o.dst d,h:=h',nx:=s1.nx,ok:=True,e:=s1.e } Q):ax P ro ops i b s Q:=by
 intro B g0 g a w0 w hs hm hU
 have hlt:k<ops.size:=(Yk.1 ho).1
 have hr:List.range' i (ops.size-i)=List.range' i (k-i)++(k::List.range' (k+1) (ops.size-(k+1))):=by
  have:ops.size-i=(k-i)+((ops.size-(k+1))+1):=by omega
  rw[this,<- Ze,Y0];have e1:i+(k-i)=k:=by omega
  rw[e1]
 rw[hr]
 refine kE (C:=C) (b:=b) (k-i) i s g a w hs hm hU (by omega) (by rw[he];exact hok) fun g1 a1 w1 hs1 hm1 hU1=>?_
 rw[he] at hs1
 have hU1 : ∀ r,g1.U r->r<b+k:=fun r hr=>by have:=hU1 r hr;omega
 have hse:s1.e=s.e:=by rw[<- he];exact kY _ _ _ _ _
 rw[wpOpsIn_cons]
 unfold wpOpIn
 rw[ho]
 simp only
 have hw:Region.wanted o (yielded ops a1.tmps)=true:=by simp[Region.wanted,hg]
 rw[X6 hw]
 have hsem:o.semAt (Fw ro).round a1.eval=execOp a1.eval o:=Oper.semAt_eq _ _ _ hdef
 refine⟨fun _ _=>trivial,?_⟩
 rw[hsem]
 obtain⟨d,h',hA,v,g',w',hrun,q1,q2,q3,q4⟩:=hdo B g1 a1 w1 hs1 (fun h=>Nat.lt_irrefl _ (hU1 _ h))
 have hend : ∀ (v:Value) (g':Mem) (w':World),Rep w' g' d v->HM P h' g' w'->Mono g1 g' w1 w'->(∀ r,g'.U r->g1.U r\/r=b+k)->wpOpsIn (Fw ro) 0 P ops (fun e a' w'=>∃ s' g',Q e s'/\St P B s' g' a' w'/\MonoX s.e.x g0 g' w0 w'/\(∀ r,g'.U r->r<s'.nx)/\s'.e.x=s.e.x) (List.range' (k+1) (ops.size-(k+1))) (a1.put o.dst v) w':=by
  intro v g' w' q1 q2 q3 q4;have hs2:=gN hs1 q3 q2 hd q1 True;have:=hk d h' hA B g0 g' (a1.put o.dst v) w0 w' ⟨hs2.sz,hs2.tm,hs2.mem,hs2.df,hs2.en,hs2.bd⟩ (hm1.trans q3) (fun r hr=>by
   rcases q4 r hr with h|h
   .
    have:=hU1 r h;omega
   omega)
  rw[hse] at this;exact this
 rcases hrun with hrun|⟨hrun,rfl⟩
 .
  rw[hrun,Oper.uponIn_value];exact hend v g' w' q1 q2 q3 q4
 rw[hrun,Oper.uponIn_skip];exact hend undef g' w' q1 q2 q3 q4
theorem xY [Glob P] {s s1:S}{ops:Array Oper}{i b:Nat}(k:Nat) {o:Oper}{t e t':TypeId}{x:Operand}{f:Bool}{rows:List (List D)}(hik:i<=k) (ho:ops[k]? = some o) (hg:o.guard=none)
  (hop:o.op = .binOp .eql t x (.const (.slice none 0 0)) t') (ht:P.underlying t=some (.slice e))
  (he:aF P (words P) C ops.toList b i ((ops.toList.drop i).take (k-i)) s=s1) (hok:s1.ok) (hd:bB s1.n o.dst=true) (hx:s1.ev x = .list f rows)
  (hk : ∀ y:Bool,(y=true->rows=[])->ax P ro ops (k+1) b { n:=s1.n,t:=s1.put o.dst (.b y),h:=s1.h,nx:=s1.nx,ok:=True,e:=s1.e } Q):ax P ro ops i b s Q:=by
 refine jD (C:=C) k (fun d h'=>∃ y:Bool,d = .b y/\h'=s1.h/\(y=true->rows=[])) hik ho hg (fun c e=>by rw[hop] at e;cases e) he hok hd (fun B g a w hs _=>?_) (fun d h' ⟨y,hy,hh,hr⟩=>by subst hy;subst hh;exact hk y hr)
 have hr:=bI hs x
 rw[hx] at hr
 have key : ∃ (ad:Option Addr) (n c:Nat),a.eval x = .slice ad n c/\(ad=none->rows=[]):=by
  generalize a.eval x=v at hr
  cases hr with
  | empty _ ad cap hf hm=>exact⟨ad,0,cap,rfl,fun _=>rfl⟩
  | list _ _ ad cap size cv hI hl hf=>exact⟨some ad,_,cap,rfl,fun h=>by cases h⟩
 obtain⟨ad,n,c,hv,hn⟩:=key
 refine⟨.b ad.isNone,s1.h,⟨ad.isNone,rfl,rfl,fun h=>hn (Zb.1 h)⟩,.bool ad.isNone,g,w,.inl ?_,.v _,hs.mem,Mono.refl _ _,fun r hr=>.inl hr⟩
 have hrun:=Go.Lib.run_eql_slice_nil (P:=P) w t e ad n c 0 0 ht
 have hc:a.eval (.const (.slice none 0 0)) = .slice none 0 0:=rfl
 simp[execOp,hop,hv,hc,eqGuard,hrun]
end Go.DL

namespace Go.DL
variable {P : Program} {ro : Option Nat} {Q : Exit -> S -> Prop}
attribute [go_sem] List.take_length bne_self_eq_false
@[go_sem] theorem self_ne {n k:Nat}(h:0<k):(n=n+k)=False:=Y7 (by omega)
theorem ok0 {p:Prop}(h:p:=by first|done|(repeat' (with_reducible apply And.intro))<;>first|omega|(with_reducible assumption)|(intros;omega)|(intros;simp only[XX,X9,Yd,XW,Yj,Ye,Yw] at *;omega)|(simp_all;done)|(simp_all;omega)):p:=h
theorem ev {α:Sort _}{a b:α}(h:a=b:=by first|(simp only[go_sem,ff];exact rfl)|(simp only[go_sem,ff];done)|exact rfl):a=b:=h
theorem iv {p:Prop}(h:p:=by first|omega|(with_reducible assumption)|rfl|(simp_all;done)|(simp_all;omega)|(dsimp only;first|omega|(with_reducible assumption)|rfl|(simp_all;done)|(simp_all;omega))):p:=h
section
variable [Glob P] (C : Con) {s : S} {n nx : Nat} {t : Nat -> D} {h : H} {ok : Prop} {e : Env} {id : Nat} {ops : Array Oper} {draw : Bool} {x y c : Code}
theorem aa (hq:DW P ro y Q ⟨n,t,h,nx,True,e⟩) (he:exec P (words P) C ops.toList s=⟨n,t,h,nx,ok,e⟩:=by simp only[go_sem,ff];exact rfl) (hd:draw=true->P.follows .mixedOrders=true/\jr C ops.toList=true/\gF ops.toList=true:=by intro hdr;first|(cases hdr;done)|exact⟨ik,by kernel_rfl,by kernel_rfl⟩)
  (hok:ok:=by (try simp only[go_sem,ff]);all_goals exact ok0):DW P ro (.seq (.region id ops draw) y) Q s:=qL he hd hok hq
theorem ai (hq:Q .normal ⟨n,t,h,nx,True,e⟩) (he:exec P (words P) C ops.toList s=⟨n,t,h,nx,ok,e⟩:=by simp only[go_sem,ff];exact rfl) (hd:draw=true->P.follows .mixedOrders=true/\jr C ops.toList=true/\gF ops.toList=true:=by intro hdr;first|(cases hdr;done)|exact⟨ik,by kernel_rfl,by kernel_rfl⟩)
  (hok:ok:=by (try simp only[go_sem,ff]);all_goals exact ok0):DW P ro (.region id ops draw) Q s:=Ve he hd hok hq
end
section
variable [Glob P] {s : S} {x y c : Code}
theorem cd {o:Operand}{b:Bool}{p q:Prop}(ht:p->DW P ro x Q s) (hf:q->DW P ro y Q s) (hc:s.ev o = .v (.bool b):=by first|(simp only[go_sem,ff];exact rfl)|exact rfl)
  (hp:(b=true)=p:=by first|(simp only[XX,X9,Yd,XW,Yj,Ye,Yw,YA,YE,Zy,ZL,Zx,ne_eq];exact rfl)|exact rfl)
  (hq:(b=false)=q:=by first|(simp only[XX,X9,Yd,XW,Yj,Ye,Yw,YA,YE,Zy,ZL,Zx,ne_eq];exact rfl)|exact rfl):DW P ro (.cond o x y) Q s :=
 Vo hc (fun h=>ht (Eq.mp hp h)) (fun h=>hf (Eq.mp hq h))
variable {α : Type} {fx : List (Nat × D)}
theorem lp (keep:List Nat) (A:α->Prop) (μ:α->Nat) (tb:α->List (Nat×D)) (hb:α->List (Nat×Blk)) (nxx:α->Nat) (a0:α) (hn:s.nx<=nxx a0:=by first|exact XY _|omega) (hA:A a0)
  (round : ∀ a,A a->DW P ro c (thenS (fun s'=>∃ a',A a'/\μ a'<μ a/\(∀ p∈tb a',Tb s'.t p)/\(∀ p∈fx,Tb s'.t p)/\(∀ p∈hb a',s'.h p.1=some p.2)/\s'.nx<=nxx a'/\s'.n=s.n/\s'.e=s.e) Q) { n:=s.n,t:=tab (tb a++fx),h:=htab (hb a),nx:=nxx a,e:=s.e })
  (hfx:keep.map (fun i=>(i,s.t i))=fx:=by simp only[Yb,Yt,go_sem,ff];exact rfl)
  (ht : ∀ p∈tb a0,Tb s.t p:=by first|(simp only[go_sem,ff];done)|(simp[go_sem,ff];done)|(simp only[go_sem,ff];(repeat' (with_reducible apply And.intro))<;>first|(left;simp;done)|(right;simp[go_sem];done)))
  (hh : ∀ p∈hb a0,s.h p.1=some p.2:=by first|(simp only[go_sem,ff];done)|simp[go_sem,ff]):DW P ro (.loop c) Q s:=Vg keep A μ tb hb nxx a0 hfx hA ht hh hn round
theorem dD (keep:List Nat) (A:α->Prop) (μ:α->Nat) (tb:α->List (Nat×D)) (hh:α->H) (nxx:α->Nat) (a0:α) (hn:s.nx<=nxx a0:=by first|exact XY _|omega) (hA:A a0)
  (round : ∀ a,A a->DW P ro c (thenS (fun s'=>∃ a',A a'/\μ a'<μ a/\(∀ p∈tb a',Tb s'.t p)/\(∀ p∈fx,Tb s'.t p)/\(∀ r,hh a' r=s'.h r\/hh a' r=none)/\s'.nx<=nxx a'/\s'.n=s.n/\s'.e=s.e) Q) { n:=s.n,t:=tab (tb a++fx),h:=hh a,nx:=nxx a,e:=s.e })
  (hfx:keep.map (fun i=>(i,s.t i))=fx:=by simp only[Yb,Yt,go_sem,ff];exact rfl)
  (ht : ∀ p∈tb a0,Tb s.t p:=by first|(simp only[go_sem,ff];done)|(simp[go_sem,ff];done)|(simp only[go_sem,ff];(repeat' (with_reducible apply And.intro))<;>first|(left;simp;done)|(right;simp[go_sem];done)))
  (hhh : ∀ r,hh a0 r=s.h r\/hh a0 r=none:=by exact mJ _):DW P ro (.loop c) Q s:=Vf keep A μ tb hh nxx a0 hfx hA ht hhh hn round
theorem jnh (keep:List Nat) (A:α->Prop) (tb:α->List (Nat×D)) (hh:α->H) (nxx:α->Nat)
  (h:DW P ro x (thenS (fun s'=>∃ a,A a/\(∀ p∈tb a,Tb s'.t p)/\(∀ p∈fx,Tb s'.t p)/\(∀ r,hh a r=s'.h r\/hh a r=none)/\s'.nx<=nxx a/\s'.n=s.n/\s'.e=s.e) Q) s)
  (k : ∀ a,A a->DW P ro y Q { n:=s.n,t:=tab (tb a++fx),h:=hh a,nx:=nxx a,e:=s.e })
  (hfx:keep.map (fun i=>(i,s.t i))=fx:=by simp only[Yb,Yt,go_sem,ff];exact rfl):DW P ro (.seq x y) Q s:=Vi keep A tb hh nxx hfx h k
end
theorem au {α:Type}{A M T F B N E1 E2:α->Prop}(w:α) (h6:N w:=by first|exact XY _|omega) (h1:A w) (h2:M w:=by show (_:Nat)<_;first|omega|simp_all;omega)
  (h3:T w:=by (try simp only[go_sem,ff]);all_goals (first|done|(simp;done)|(simp;omega)|((repeat' (with_reducible apply And.intro))<;>first|(left;simp;done)|(right;simp[go_sem];done))))
  (h4:F w:=by (try simp only[go_sem,ff]);all_goals (first|done|(simp;done)|(simp;omega)|((repeat' (with_reducible apply And.intro))<;>first|(left;simp;done)|(right;simp[go_sem];done))))
  (h5:B w:=by first|exact mJ _|((try simp only[go_sem,ff]);all_goals (first|done|(simp;done)|(simp;omega)|((repeat' (with_reducible apply And.intro))<;>first|(left;simp;done)|(right;simp[go_sem];done)))))
  (h7:E1 w:=by exact rfl) (h8:E2 w:=by exact rfl):∃ a,A a/\M a/\T a/\F a/\B a/\N a/\E1 a/\E2 a:=⟨w,h1,h2,h3,h4,h5,h6,h7,h8⟩
theorem pQ {α:Type}{A T F B N E1 E2:α->Prop}(w:α) (h6:N w:=by first|exact XY _|omega) (h1:A w)
  (h3:T w:=by (try simp only[go_sem,ff]);all_goals (first|done|(simp;done)|(simp;omega)|((repeat' (with_reducible apply And.intro))<;>first|(left;simp;done)|(right;simp[go_sem];done))))
  (h4:F w:=by (try simp only[go_sem,ff]);all_goals (first|done|(simp;done)|(simp;omega)|((repeat' (with_reducible apply And.intro))<;>first|(left;simp;done)|(right;simp[go_sem];done))))
  (h5:B w:=by first|exact mJ _|((try simp only[go_sem,ff]);all_goals (first|done|(simp;done)|(simp;omega)|((repeat' (with_reducible apply And.intro))<;>first|(left;simp;done)|(right;simp[go_sem];done)))))
  (h7:E1 w:=by exact rfl) (h8:E2 w:=by exact rfl):∃ a,A a/\T a/\F a/\B a/\N a/\E1 a/\E2 a:=⟨w,h1,h3,h4,h5,h6,h7,h8⟩
theorem fin {A B:Prop}{Ks Rs:Nat->Prop}(K:Nat) (hr:Rs K:=by (try simp only[go_sem,ff]);all_goals simp) (hk:Ks K:=by (try simp only[go_sem,ff]);all_goals simp)
  (ha:A:=by first|exact .inr rfl|exact .inl rfl|trivial|simp) (hb:B:=by simp only[go_sem,ff]):A/\B /\ ∃ k,Ks k/\Rs k:=⟨ha,hb,K,hk,hr⟩
theorem aU {A B:Prop}{Hs:H->Prop}{Ns:Nat->Prop}{R:H->Nat->Prop}{n':Nat}(h':H) (hn:Ns n':=by first|exact XY _|omega) (hr:R h' n':=by (try simp only[go_sem,ff]);all_goals simp) (hh:Hs h':=by exact fun _=>.inl rfl)
  (ha:A:=by first|exact .inr rfl|exact .inl rfl|trivial|simp) (hb:B:=by simp only[go_sem,ff]):A/\B /\ ∃ h' n',Hs h'/\Ns n'/\R h' n':=⟨ha,hb,h',n',hh,hn,hr⟩
section
variable [Glob P] (C : Con) {s s1 : S} {id : Nat} {ops : Array Oper} {o : Oper} {f : Operand} {args : Array Operand} {ts : Array TypeId} {fid : FuncId} {first caps xs : List D} {R : D -> H -> Nat -> Prop}
def Nxt (P:Program) [Glob P] (C:Con) (L:List Oper) (b i:Nat) (l:List Oper) (u:S) (Q:Exit->S->Prop):Prop:=∃ s2,aF P (words P) C L b i l u=s2/\s2.ok/\Q .normal s2.clear
theorem aD (k:Nat) (ho:ops[k]? = some o:=by exact bC rfl) (hop:o.op = .call { callee:=.value f,args:=args,argTypes:=ts }:=by exact rfl) (hg:o.guard=none:=by exact rfl)
  (he:aF P (words P) C ops.toList s.nx 0 (ops.toList.take k) { n:=s.n,t:=s.t,h:=s.h,nx:=s.nx+k,ok:=s.ok,e:=s.e }=s1:=by simp only[X4,Yf,go_sem,ff];exact rfl) (hok:s1.ok:=by (try simp only[go_sem,ff]);all_goals exact ok0) (hd:bB s1.n o.dst=true:=by (try simp only[go_sem,ff]);all_goals (first|done|rfl|decide|simp))
  (hf:s1.ev f = .fn (.func fid) first caps:=by simp only[go_sem,ff];exact rfl) (hxg:(args.toList.map s1.ev).all sg=true:=by simp only[go_sem,ff]) (hx:((args.toList.map s1.ev).map sd).map wk=xs:=by simp only[go_sem,ff];exact rfl) (hct:RCt P fid (first++xs++caps) s1.h (s.nx+k) R)
  (hk : ∀ res h' n',R res h' n'->Nxt P C ops.toList n' (k+1) (ops.toList.drop (k+1)) { n:=s1.n,t:=s1.put o.dst res,h:=h',nx:=n'+ops.size,ok:=True,e:=s1.e } Q) :
  DW P ro (.region id ops false) Q s:=Vr k R ho hop hg he hok hd hf hxg hx hct hk
theorem av {L:List Oper}{b i:Nat}{l:List Oper}{u:S}{n nx:Nat}{t:Nat->D}{h:H}{ok:Prop}{e:Env}(hq:Q .normal ⟨n,t,h,nx,True,e⟩) (he:aF P (words P) C L b i l u=⟨n,t,h,nx,ok,e⟩:=by simp only[X8,X7,S.put,go_sem,ff];exact rfl) (hok:ok:=by (try simp only[go_sem,ff]);all_goals exact ok0) :
  Nxt P C L b i l u Q:=⟨_,he,hok,hq⟩
end
theorem qA {p0 p1:Prop}(a0:p0) (a1:p1):p0/\p1:=⟨a0,a1⟩
theorem qB {p0 p1 p2:Prop}(a0:p0) (a1:p1) (a2:p2):p0/\p1/\p2:=⟨a0,a1,a2⟩
theorem qD {p0 p1 p2 p3:Prop}(a0:p0) (a1:p1) (a2:p2) (a3:p3):p0/\p1/\p2/\p3:=⟨a0,a1,a2,a3⟩
theorem qE {p0 p1 p2 p3 p4:Prop}(a0:p0) (a1:p1) (a2:p2) (a3:p3) (a4:p4):p0/\p1/\p2/\p3/\p4:=⟨a0,a1,a2,a3,a4⟩
theorem qF {p0 p1 p2 p3 p4 p5:Prop}(a0:p0) (a1:p1) (a2:p2) (a3:p3) (a4:p4) (a5:p5):p0/\p1/\p2/\p3/\p4/\p5:=⟨a0,a1,a2,a3,a4,a5⟩
theorem qG {p0 p1 p2 p3 p4 p5 p6:Prop}(a0:p0) (a1:p1) (a2:p2) (a3:p3) (a4:p4) (a5:p5) (a6:p6):p0/\p1/\p2/\p3/\p4/\p5/\p6:=⟨a0,a1,a2,a3,a4,a5,a6⟩
theorem qH {p0 p1 p2 p3 p4 p5 p6 p7:Prop}(a0:p0) (a1:p1) (a2:p2) (a3:p3) (a4:p4) (a5:p5) (a6:p6) (a7:p7):p0/\p1/\p2/\p3/\p4/\p5/\p6/\p7:=⟨a0,a1,a2,a3,a4,a5,a6,a7⟩
theorem qI {p0 p1 p2 p3 p4 p5 p6 p7 p8:Prop}(a0:p0) (a1:p1) (a2:p2) (a3:p3) (a4:p4) (a5:p5) (a6:p6) (a7:p7) (a8:p8):p0/\p1/\p2/\p3/\p4/\p5/\p6/\p7/\p8:=⟨a0,a1,a2,a3,a4,a5,a6,a7,a8⟩
theorem nG (a b:Nat) (h:a<b:=by omega):(∀ k:Nat,(a=b+k)=False) /\ ∀ k:Nat,(b+k=a)=False:=⟨fun k=>Y7 om,fun k=>Y7 om⟩
theorem nH (a b:Nat) (h:a≠b:=by omega):((a=b)=False)/\((b=a)=False):=⟨Y7 h,Y7 h.symm⟩
theorem oF {p q:Prop}(k:q) (h:p=q:=by first|(simp only[go_sem,ff];exact rfl)|(simp only[go_sem,ff];done)|exact rfl):p:=h ▸ k
theorem oS {p q:Prop}(h:p=q:=by first|(simp only[go_sem,ff];exact rfl)|(simp only[go_sem,ff];done)|exact rfl) (k:q):p:=h ▸ k
theorem oR {p:Prop}(h:p:=by (try simp only[go_sem,ff]);all_goals (first|rfl|(simp;done))):p:=h
theorem oH {p r1:Prop}(x1:r1) (h:r1->p:=by intro c1;(try simp only[go_sem,ff]);all_goals (first|done|((repeat' (with_reducible apply And.intro))<;>first|exact c1|exact c1 _|exact c1 _ _|exact c1 _ _ _|(intros;exact c1)|(intros;exact c1 _)|(intros;exact c1 _ _)|omega|(intros;omega)|(intro h;cases h)|(intro h;simp at h;done)|(intros;simp;done)|skip))):p:=h x1
theorem oI {p r1 r2:Prop}(x1:r1) (x2:r2) (h:r1->r2->p:=by intro c1 c2;(try simp only[go_sem,ff]);all_goals (first|done|((repeat' (with_reducible apply And.intro))<;>first|exact c1|exact c1 _|exact c1 _ _|exact c1 _ _ _|(intros;exact c1)|(intros;exact c1 _)|(intros;exact c1 _ _)|exact c2|exact c2 _|exact c2 _ _|exact c2 _ _ _|(intros;exact c2)|(intros;exact c2 _)|(intros;exact c2 _ _)|omega|(intros;omega)|(intro h;cases h)|(intro h;simp at h;done)|(intros;simp;done)|skip))):p:=h x1 x2
theorem oJ {p r1 r2 r3:Prop}(x1:r1) (x2:r2) (x3:r3) (h:r1->r2->r3->p:=by intro c1 c2 c3;(try simp only[go_sem,ff]);all_goals (first|done|((repeat' (with_reducible apply And.intro))<;>first|exact c1|exact c1 _|exact c1 _ _|exact c1 _ _ _|(intros;exact c1)|(intros;exact c1 _)|(intros;exact c1 _ _)|exact c2|exact c2 _|exact c2 _ _|exact c2 _ _ _|(intros;exact c2)|(intros;exact c2 _)|(intros;exact c2 _ _)|exact c3|exact c3 _|exact c3 _ _|exact c3 _ _ _|(intros;exact c3)|(intros;exact c3 _)|(intros;exact c3 _ _)|omega|(intros;omega)|(intro h;cases h)|(intro h;simp at h;done)|(intros;simp;done)|skip))):p:=h x1 x2 x3
theorem oN [Glob P] {s:S}(h:Q .ret s):DW P ro .ret Q s:=aI h
section
variable [Glob P] (C : Con) {s : S} {n nx : Nat} {t : Nat -> D} {h : H} {ok : Prop} {e : Env} {id : Nat} {ops : Array Oper} {draw : Bool} {x y c : Code} {o : Operand} {b : Bool} {p q : Prop}
theorem oK (ht:p->DW P ro x (thenS (DW P ro y Q) Q) ⟨n,t,h,nx,True,e⟩) (hf:q->DW P ro y Q ⟨n,t,h,nx,True,e⟩) (he:exec P (words P) C ops.toList s=⟨n,t,h,nx,ok,e⟩:=by simp only[go_sem,ff];exact rfl) (hd:draw=true->P.follows .mixedOrders=true/\jr C ops.toList=true/\gF ops.toList=true:=by intro hdr;first|(cases hdr;done)|exact⟨ik,by kernel_rfl,by kernel_rfl⟩)
  (hok:ok:=by (try simp only[go_sem,ff]);all_goals exact ok0) (hc:S.ev ⟨n,t,h,nx,True,e⟩ o = .v (.bool b):=by first|(simp only[go_sem,ff];exact rfl)|exact rfl) (hp:(b=true)=p:=by first|(simp only[XX,X9,Yd,XW,Yj,Ye,Yw,YA,YE,Zy,ZL,Zx,ne_eq];exact rfl)|exact rfl) (hq:(b=false)=q:=by first|(simp only[XX,X9,Yd,XW,Yj,Ye,Yw,YA,YE,Zy,ZL,Zx,ne_eq];exact rfl)|exact rfl):DW P ro (.seq (.seq (.region id ops draw) (.cond o x .skip)) y) Q s :=
 ae (qL he hd hok (cd ht (fun k=>dw_skip (hf k)) hc hp hq))
theorem oL (ht:p->DW P ro y Q ⟨n,t,h,nx,True,e⟩) (hf:q->DW P ro x (thenS (DW P ro y Q) Q) ⟨n,t,h,nx,True,e⟩) (he:exec P (words P) C ops.toList s=⟨n,t,h,nx,ok,e⟩:=by simp only[go_sem,ff];exact rfl) (hd:draw=true->P.follows .mixedOrders=true/\jr C ops.toList=true/\gF ops.toList=true:=by intro hdr;first|(cases hdr;done)|exact⟨ik,by kernel_rfl,by kernel_rfl⟩)
  (hok:ok:=by (try simp only[go_sem,ff]);all_goals exact ok0) (hc:S.ev ⟨n,t,h,nx,True,e⟩ o = .v (.bool b):=by first|(simp only[go_sem,ff];exact rfl)|exact rfl) (hp:(b=true)=p:=by first|(simp only[XX,X9,Yd,XW,Yj,Ye,Yw,YA,YE,Zy,ZL,Zx,ne_eq];exact rfl)|exact rfl) (hq:(b=false)=q:=by first|(simp only[XX,X9,Yd,XW,Yj,Ye,Yw,YA,YE,Zy,ZL,Zx,ne_eq];exact rfl)|exact rfl):DW P ro (.seq (.seq (.region id ops draw) (.cond o .skip x)) y) Q s :=
 ae (qL he hd hok (cd (fun k=>dw_skip (ht k)) hf hc hp hq))
end
theorem oO [Glob P] {f:FuncId}{fn:Func}{c:Code}{args:List D}{res:D}(hf:P.funcs[f]? = some fn)
  (h:True->DW P none c (fun e s=>(e = .normal\/e = .ret)/\jb P s fn.results.toList /\ ∃ k,cu s.h k (jH P fn.results.toList s)/\wk (bN s.h k (jH P fn.results.toList s))=res) { n:=fn.ntmps,t:=fun i=>args.getD i .junk,h:=fun _=>none,nx:=0,ok:=True,e:=Env.tt })
  (hb:fn.body=some c:=by exact rfl) (hbd:bV P f=true:=by kernel_rfl) (hnr:args.all D.nr=true:=by simp[go_sem,D.nr,aZ,aS]) (hn:args.length<=fn.ntmps:=by exact Nat.le_of_ble_eq_true (by kernel_rfl)):PureCt P f args res:=G8 hf hb hbd hnr hn (h trivial)
theorem oP [Glob P] {f:FuncId}{fn:Func}{c:Code}{args:List D}{h:H}{n:Nat}{R:D->H->Nat->Prop}(hf:P.funcs[f]? = some fn)
  (hw:(∀ r,n<=r->h r=none)->True->DW P none c (fun e s=>(e = .normal\/e = .ret)/\jb P s fn.results.toList /\ ∃ h' n',(∀ r,h' r=s.h r\/h' r=none)/\s.nx<=n'/\R (jH P fn.results.toList s) h' n') { n:=fn.ntmps,t:=fun i=>args.getD i .junk,h:=h,nx:=n })
  (hb:fn.body=some c:=by exact rfl) (hbd:bV P f=true:=by kernel_rfl) (hn:args.length<=fn.ntmps:=by exact Nat.le_of_ble_eq_true (by kernel_rfl)):RCt P f args h n R:=Qc hf hb hbd hn (fun k=>hw k trivial)
theorem oC [Glob P] (C:Con) {s:S}{n1 nx1:Nat}{t1:Nat->D}{h1:H}{ok1:Prop}{e1:Env}{id1:Nat}{ops1:Array Oper}{draw1:Bool}{n2 nx2:Nat}{t2:Nat->D}{h2:H}{ok2:Prop}{e2:Env}{id2:Nat}{ops2:Array Oper}{draw2:Bool}{y:Code}(hq:DW P ro y Q ⟨n2,t2,h2,nx2,True,e2⟩) (he1:exec P (words P) C ops1.toList s=⟨n1,t1,h1,nx1,ok1,e1⟩:=by simp only[go_sem,ff];exact rfl) (hd1:draw1=true->P.follows .mixedOrders=true/\jr C ops1.toList=true/\gF ops1.toList=true:=by intro hdr;first|(cases hdr;done)|exact⟨ik,by kernel_rfl,by kernel_rfl⟩) (hok1:ok1:=by (try simp only[go_sem,ff]);all_goals exact ok0) (he2:exec P (words P) C ops2.toList ⟨n1,t1,h1,nx1,True,e1⟩=⟨n2,t2,h2,nx2,ok2,e2⟩:=by simp only[go_sem,ff];exact rfl) (hd2:draw2=true->P.follows .mixedOrders=true/\jr C ops2.toList=true/\gF ops2.toList=true:=by intro hdr;first|(cases hdr;done)|exact⟨ik,by kernel_rfl,by kernel_rfl⟩) (hok2:ok2:=by (try simp only[go_sem,ff]);all_goals exact ok0):DW P ro (.seq (.region id1 ops1 draw1) (.seq (.region id2 ops2 draw2) y)) Q s:=(qL he1 hd1 hok1 (qL he2 hd2 hok2 hq))
theorem oD [Glob P] (C:Con) {s:S}{n1 nx1:Nat}{t1:Nat->D}{h1:H}{ok1:Prop}{e1:Env}{id1:Nat}{ops1:Array Oper}{draw1:Bool}{n2 nx2:Nat}{t2:Nat->D}{h2:H}{ok2:Prop}{e2:Env}{id2:Nat}{ops2:Array Oper}{draw2:Bool}{n3 nx3:Nat}{t3:Nat->D}{h3:H}{ok3:Prop}{e3:Env}{id3:Nat}{ops3:Array Oper}{draw3:Bool}{y:Code}(hq:DW P ro y Q ⟨n3,t3,h3,nx3,True,e3⟩) (he1:exec P (words P) C ops1.toList s=⟨n1,t1,h1,nx1,ok1,e1⟩:=by simp only[go_sem,ff];exact rfl) (hd1:draw1=true->P.follows .mixedOrders=true/\jr C ops1.toList=true/\gF ops1.toList=true:=by intro hdr;first|(cases hdr;done)|exact⟨ik,by kernel_rfl,by kernel_rfl⟩) (hok1:ok1:=by (try simp only[go_sem,ff]);all_goals exact ok0) (he2:exec P (words P) C ops2.toList ⟨n1,t1,h1,nx1,True,e1⟩=⟨n2,t2,h2,nx2,ok2,e2⟩:=by simp only[go_sem,ff];exact rfl) (hd2:draw2=true->P.follows .mixedOrders=true/\jr C ops2.toList=true/\gF ops2.toList=true:=by intro hdr;first|(cases hdr;done)|exact⟨ik,by kernel_rfl,by kernel_rfl⟩) (hok2:ok2:=by (try simp only[go_sem,ff]);all_goals exact ok0) (he3:exec P (words P) C ops3.toList ⟨n2,t2,h2,nx2,True,e2⟩=⟨n3,t3,h3,nx3,ok3,e3⟩:=by simp only[go_sem,ff];exact rfl) (hd3:draw3=true->P.follows .mixedOrders=true/\jr C ops3.toList=true/\gF ops3.toList=true:=by intro hdr;first|(cases hdr;done)|exact⟨ik,by kernel_rfl,by kernel_rfl⟩) (hok3:ok3:=by (try simp only[go_sem,ff]);all_goals exact ok0):DW P ro (.seq (.region id1 ops1 draw1) (.seq (.region id2 ops2 draw2) (.seq (.region id3 ops3 draw3) y))) Q s:=(qL he1 hd1 hok1 (qL he2 hd2 hok2 (qL he3 hd3 hok3 hq)))
theorem oV {p r:Prop}(x:r) (h:r->p:=by intro c1;(try simp only[go_sem,ff] at c1);(try simp only[go_sem,ff]);exact c1):p:=h x
section
variable [Glob P] {s : S} {A B q : Prop} {Ks Rs : Nat -> Prop}
theorem fo (K:Nat) (e:Q .ret s=(A/\B /\ ∃ k,Ks k/\Rs k):=by exact rfl) (h:Rs K=q:=by first|(simp only[go_sem,ff];exact rfl)|(simp only[go_sem,ff];done)|exact rfl) (k:q) (hk:Ks K:=by (try simp only[go_sem,ff]);all_goals simp) (ha:A:=by first|exact .inr rfl|exact .inl rfl|trivial|simp) (hb:B:=by simp only[go_sem,ff]):DW P ro .ret Q s:=aI (e ▸ ⟨ha,hb,K,hk,h ▸ k⟩)
theorem fp (K:Nat) (e:Q .ret s=(A/\B /\ ∃ k,Ks k/\Rs k):=by exact rfl) (h:Rs K:=by (try simp only[go_sem,ff]);all_goals (first|rfl|(simp;done))) (hk:Ks K:=by (try simp only[go_sem,ff]);all_goals simp) (ha:A:=by first|exact .inr rfl|exact .inl rfl|trivial|simp) (hb:B:=by simp only[go_sem,ff]):DW P ro .ret Q s:=aI (e ▸ ⟨ha,hb,K,hk,h⟩)
end
theorem pos [Glob P] {C:Con}{ops:Array Oper}{i k b:Nat}{o:Oper}{s s1:S}(hik:i<=k:=by omega) (ho:ops[k]? = some o:=by exact bC rfl) (hg:o.guard=none:=by exact rfl) (he:aF P (words P) C ops.toList b i ((ops.toList.drop i).take (k-i)) s=s1:=by simp only[X8,X7,X4,Yf,S.put,Yr,Nat.reduceSub,go_sem,ff];first|done|exact rfl)
  (hok:s1.ok:=by (try simp only[go_sem,ff]);all_goals exact ok0) (hd:bB s1.n o.dst=true:=by (try simp only[go_sem,ff]);all_goals (first|done|rfl|decide|simp)):dw P C ops i k o b s s1:=⟨hik,ho,hg,he,hok,hd⟩
end Go.DL

namespace Go.DL
open Go.RowKit
variable {P : Program} {ro : Option Nat} {Q : Exit -> S -> Prop}
theorem HM.shrink [Glob P] {h:H}{g:Mem}{w:World}(hm:HM P h g w) {r:Nat}{bl:Blk}(hr:h r=some bl) (k:Nat):HM P (upd h r (some ⟨bl.ty,bl.rows.take k⟩)) g w:=by
 refine⟨fun q hq=>?_,fun q bl' hq=>?_,hm.inj,hm.used,hm.imm,hm.gr⟩
 .
  by_cases e:q=r
  .
   subst e;rw[upd_same] at hq;cases hq
  rw[upd_ne _ _ _ _ e] at hq;exact hm.dead q hq
 by_cases e:q=r
 .
  subst e;rw[upd_same] at hq
  cases hq
  obtain⟨blk,c,h1,h2,h3,h4,h5⟩:=hm.blk q bl hr;refine⟨blk,c,h1,h2,Yc (by simp;omega) h3,h4,h5.imp id ?_⟩
  rintro⟨b,cur,e1,e2,e3,e4,e5⟩;refine⟨b,cur,e1,e2,e3,e4,fun i row hi=>?_⟩
  simp only[YY] at hi
  split at hi
  .
   exact e5 i row hi
  cases hi
 rw[upd_ne _ _ _ _ e] at hq;exact hm.blk q bl' hq
section
variable {C : Con}
theorem Vq [Glob P] {s s1:S}{id:Nat}{ops:Array Oper}(k:Nat) {o:Oper}{f:Operand}{args:Array Operand}{ts:Array TypeId}{fid:FuncId}{first caps xs:List D}(R:D->H->Nat->Prop)
  (ho:ops[k]? = some o) (hop:o.op = .call { callee:=.value f,args:=args,argTypes:=ts }) (hg:o.guard=none)
  (he:aF P (words P) C ops.toList s.nx 0 (ops.toList.take k) { n:=s.n,t:=s.t,h:=s.h,nx:=s.nx+k,ok:=s.ok,e:=s.e }=s1) (hok:s1.ok) (hd:bB s1.n o.dst=true)
  (hf:s1.ev f = .fn (.func fid) first caps) (hxg:(args.toList.map s1.ev).all sg=true) (hx:(args.toList.map s1.ev).map sd=xs) (hct:RCt P fid (first++xs++caps) s1.h (s.nx+k) R)
  (hk : ∀ res h' n',R res h' n' -> ∃ s2,aF P (words P) C ops.toList n' (k+1) (ops.toList.drop (k+1)) { n:=s1.n,t:=s1.put o.dst res,h:=h',nx:=n'+ops.size,ok:=True,e:=s1.e }=s2/\s2.ok/\Q .normal s2.clear) :
  DW P ro (.region id ops false) Q s:=by
 intro B g a w hs hU
 have hlt:k<ops.size:=(Yk.1 ho).1
 refine wpIn_region ?_
 have hr:List.range ops.size=List.range' 0 k++(k::List.range' (k+1) (ops.size-(k+1))):=by
  rw[Y4];have:ops.size=k+((ops.size-(k+1))+1):=by omega
  conv=>lhs;rw[this]
  rw[<- Ze,Y0]
  simp
 rw[hr]
 have hs0:St P B { n:=s.n,t:=s.t,h:=s.h,nx:=s.nx+k,ok:=s.ok,e:=s.e } g a w:=⟨hs.sz,hs.tm,hs.mem,hs.df,hs.en,hs.bd⟩
 have e0:(ops.toList.drop 0).take k=ops.toList.take k:=rfl
 refine kE (C:=C) (b:=s.nx) k 0 _ g a w hs0 (Mono.refl _ _) (fun r hr=>by have:=hU r hr;omega) (by omega) (by rw[e0,he];exact hok) fun g1 a1 w1 hs1 hm1 hU1=>?_
 rw[e0,he] at hs1
 rw[wpOpsIn_cons]
 unfold wpOpIn
 rw[ho]
 simp only
 have hw:Region.wanted o (yielded ops a1.tmps)=true:=by simp[Region.wanted,hg]
 rw[X6 hw]
 have hdef : ∀ c,o.op ≠ .defer c:=by intro c e;rw[e] at hop;cases hop
 have hsem:o.semAt (Fw ro).round a1.eval=execOp a1.eval o:=Oper.semAt_eq _ _ _ hdef
 refine⟨fun _ _=>trivial,?_⟩
 rw[hsem]
 obtain⟨hbd,hct⟩:=hct
 have hfr:=bI hs1 f
 rw[hf] at hfr
 have hxr:=mg (lX hs1 args.toList) hxg
 rw[hx] at hxr
 generalize hv:a1.eval f=vf at hfr
 cases hfr with|fn _ _ _ fs cs l1 l2 r1 r2 =>
 have hrun:(execOp a1.eval o).run P w1 = .ok (.enter fid (fs++args.map a1.eval++cs)) w1:=by
  simp[execOp,hop,resolve,Deferred.ofValue,hv,invoke,lZ hbd]
 rw[hrun,Oper.uponIn_enter]
 have e:fs++args.map a1.eval++cs=(fs.toList++args.toList.map a1.eval++cs.toList).toArray:=by apply Zl;simp
 rw[e]
 refine⟨fun h=>by simp[Fw,Fence.wide] at h,o7 ((hct w1 g1 _ hs1.mem (fun r hr=>by have:=hU1 r hr;omega) (Reps.append (Reps.append ⟨by simpa using l1,fun i d x h1 h2=>r1 i d x h1 (by simpa using h2)⟩ hxr) ⟨by simpa using l2,fun i d x h1 h2=>r2 i d x h1 (by simpa using h2)⟩)).mono ?_)⟩
 rintro e w' ⟨v,g',res,h',n',hR,rfl,q1,q2,q3,q4⟩
 obtain⟨s2,e2,ok2,hQ⟩:=hk res h' n' hR
 have hs2:=gN hs1 q3 q2 hd q1 True
 have hs3:St P B { n:=s1.n,t:=s1.put o.dst res,h:=h',nx:=n'+ops.size,ok:=True,e:=s1.e } g' (a1.put o.dst v) w':=⟨hs2.sz,hs2.tm,hs2.mem,hs2.df,hs2.en,hs2.bd⟩
 have hnx : ∀ (l:List Oper) (i:Nat) (u:S),(aF P (words P) C ops.toList n' i l u).nx=u.nx:=by
  intro l
  induction l with
  | nil=>intro i u;rfl
  | cons x l ih=>intro i u;simp only[aF];rw[ih,exec1_n.2]
 have hex : ∀ (l:List Oper) (i b:Nat) (u:S),(aF P (words P) C ops.toList b i l u).e=u.e:=by
  intro l
  induction l with
  | nil=>intro i b u;rfl
  | cons x l ih =>
   intro i b u;simp only[aF];rw[ih];unfold bu
   split<;>rfl
 have e3:(ops.toList.drop (k+1)).take (ops.size-(k+1))=ops.toList.drop (k+1):=Yp (by simp)
 have:=kE (ro:=ro) (P:=P) (C:=C) (B:=B) (ops:=ops) (b:=n') (n:=0) (rest:=[]) (g0:=g) (w0:=w) (Q:=fun e a' w'=>∃ s' g',Q e s'/\St P B s' g' a' w'/\MonoX s.e.x g g' w w'/\(∀ r,g'.U r->r<s'.nx)/\s'.e.x=s.e.x) (ops.size-(k+1)) (k+1) _ g' _ w' hs3 (hm1.trans q3) (fun r hr=>by have:=q4 r hr;omega) om
  (by rw[e3,e2];exact ok2) fun g'' a'' w'' p1 p2 p3=>by
   rw[e3,e2] at p1;refine⟨_,g'',hQ,p1.clear,p2.toX,fun r hr=>?_,?_⟩
   .
    have h3:=p3 r hr;have h4:=hnx (ops.toList.drop (k+1)) (k+1) { n:=s1.n,t:=s1.put o.dst res,h:=h',nx:=n'+ops.size,ok:=True,e:=s1.e };rw[e2] at h4
    show r<s2.nx
    rw[h4]
    show r<n'+ops.size
    omega
   have h5:=hex (ops.toList.drop (k+1)) (k+1) n' { n:=s1.n,t:=s1.put o.dst res,h:=h',nx:=n'+ops.size,ok:=True,e:=s1.e };rw[e2] at h5;have h6:=hex (ops.toList.take k) 0 s.nx { n:=s.n,t:=s.t,h:=s.h,nx:=s.nx+k,ok:=s.ok,e:=s.e };rw[he] at h6
   show s2.e.x=s.e.x
   rw[h5]
   show s1.e.x=s.e.x
   rw[h6]
 rw[YC] at this
 exact this
end
section
variable [Glob P] (C : Con) {s s1 : S} {id : Nat} {ops : Array Oper} {o : Oper} {f : Operand} {args : Array Operand} {ts : Array TypeId} {fid : FuncId} {first caps xs : List D} {R : D -> H -> Nat -> Prop}
theorem dF (k:Nat) (ho:ops[k]? = some o:=by exact bC rfl) (hop:o.op = .call { callee:=.value f,args:=args,argTypes:=ts }:=by exact rfl) (hg:o.guard=none:=by exact rfl)
  (he:aF P (words P) C ops.toList s.nx 0 (ops.toList.take k) { n:=s.n,t:=s.t,h:=s.h,nx:=s.nx+k,ok:=s.ok,e:=s.e }=s1:=by simp only[X4,Yf,go_sem,ff];exact rfl) (hok:s1.ok:=by (try simp only[go_sem,ff]);all_goals exact ok0) (hd:bB s1.n o.dst=true:=by (try simp only[go_sem,ff]);all_goals (first|done|rfl|decide|simp))
  (hf:s1.ev f = .fn (.func fid) first caps:=by simp only[go_sem,ff];exact rfl) (hxg:(args.toList.map s1.ev).all sg=true:=by simp only[go_sem,ff]) (hx:(args.toList.map s1.ev).map sd=xs:=by simp only[go_sem,ff];exact rfl) (hct:RCt P fid (first++xs++caps) s1.h (s.nx+k) R)
  (hk : ∀ res h' n',R res h' n'->Nxt P C ops.toList n' (k+1) (ops.toList.drop (k+1)) { n:=s1.n,t:=s1.put o.dst res,h:=h',nx:=n'+ops.size,ok:=True,e:=s1.e } Q) :
  DW P ro (.region id ops false) Q s:=Vq k R ho hop hg he hok hd hf hxg hx hct hk
end
end Go.DL
namespace Go.DL
open Go.RowKit
variable {P : Program} {ro : Option Nat} {Q : Exit -> S -> Prop}
theorem Az [Glob P] {h:H}{g:Mem}{w:World}(hm:HM P h g w) {e:TypeId}{r off c b:Nat}{rows news:List (List D)}{cs:List Value}(hr:h r=some ⟨e,rows⟩) (hM:g.M r=some (some b,c,P.cellsOf e)) (hcm:c<=maxLen)
  (hR:RowsIn w g (P.cellsOf e) news cs) (ho:off<=rows.length) (hc:off+news.length<=c) :
  ∃ cur:Array Value,w.heap[b]? = some (.cells cur e (0,0))/\off*P.cellsOf e+cs.length<=cur.size /\ ∀ new:Array Value,new=(cur.toList.take (off*P.cellsOf e)++cs++cur.toList.drop (off*P.cellsOf e+cs.length)).toArray ->
   ∃ g',g'.M r=g.M r/\g'.U r/\HM P (upd h r (some ⟨e,rows.take off++news++rows.drop (off+news.length)⟩)) g' (w.setRow b new)/\Mono g g' w (w.setRow b new) /\ ∀ q,g'.U q->g.U q:=by
 obtain⟨blk,c',h1,h2,h3,h4,h5⟩:=hm.blk r _ hr
 rw[hM] at h1
 simp only[Yh,YI] at h1
 obtain⟨rfl,rfl,_⟩:=h1
 rcases h5 with⟨h5,_⟩|⟨b',cur,h5,k1,k2,_,k4⟩
 .
  cases h5
 cases h5
 have k1:=k1.cells hcm
 have k2:=k2 hcm
 simp only at h2 h3 k1 k2 k4
 have hcl:cs.length=news.length*P.cellsOf e:=hR.1
 have hfit:off*P.cellsOf e+cs.length<=cur.size:=by
  rw[hcl,k2,<- Zo];exact Y3 _ hc
 refine⟨cur,k1,hfit,fun new hnew=>?_⟩
 have e1:cur.toList.length=cur.size:=Array.length_toList
 have hsize:new.size=cur.size:=by rw[hnew];simp;omega
 have hA:=k4.rowsIn 0 off (by show 0+off<=rows.length;omega) (by rw[k2];exact Y3 _ h3)
 have hB:=hA.append hR
 have hend:off+news.length+(rows.length-(off+news.length))<=rows.length\/rows.length-(off+news.length)=0:=by omega
 have hC:RowsIn w g (P.cellsOf e) (rows.drop (off+news.length)) ((cur.toList.drop ((off+news.length)*P.cellsOf e)).take ((rows.length-(off+news.length))*P.cellsOf e)):=by
  rcases hend with hl|hl
  .
   have:=k4.rowsIn (off+news.length) (rows.length-(off+news.length)) hl (by rw[k2];exact Y3 _ h3)
   have e2:(rows.drop (off+news.length)).take (rows.length-(off+news.length))=rows.drop (off+news.length):=Yp (by simp)
   rw[e2] at this;exact this
  have e2:rows.drop (off+news.length)=[]:=YU om;rw[e2,hl]
  simpa using RowsIn.nil
 have hAll:=hB.append hC
 simp only[X7,Nat.zero_mul] at hAll
 have hnl:(rows.take off++news++rows.drop (off+news.length)).length<=c:=by simp;omega
 have hdrop:off*P.cellsOf e+cs.length=(off+news.length)*P.cellsOf e:=by rw[hcl,Zo]
 obtain⟨g',g1,g2,g3,g4,g5⟩:=hm.put (h':=upd h r (some ⟨e,rows.take off++news++rows.drop (off+news.length)⟩)) (w':=w.setRow b new) r b c ⟨e,rows.take off++news++rows.drop (off+news.length)⟩ new (.inr hM) (upd_same _ _ _) (fun q hq=>.inl (upd_ne _ _ _ _ hq)) (.inr ⟨r,c,_,hM,.inl rfl⟩)
  (setRow_heap w b cur _ e _ k1) (by rw[hsize,k2]) h2 hnl hcm (hAll.holds (by
   rw[hnew];simp only[hdrop];generalize List.take (off*P.cellsOf e) cur.toList++cs=X;rw[XV,List.take_append,Yp (by omega),Nat.add_sub_cancel_left,Yu]
   congr 1
   rw[List.take_eq_take_iff];omega))
  ⟨rfl,rfl,rfl,by simp,fun k _ hk=>setRow_other w b k _ (fun e=>hk (by rw[e]))⟩
 refine⟨g',by rw[g1,hM],(g2 r).2 (.inr rfl),g4,g5,fun q hq=>?_⟩
 rcases (g2 q).1 hq with k|k
 .
  exact k
 subst k;exact hm.used q (by rw[hM];simp)
theorem R3 [Glob P] {h:H}{g:Mem}{w:World}(hm:HM P h g w) {e:TypeId}{r off len k:Nat}{rows:List (List D)}{v:Value}(hr:h r=some ⟨e,rows⟩) (hv:Rep w g (.mrow r off len) v) (hk:k<=len) (hl:off+k<=rows.length) :
  ∃ cs,RowsIn w g (P.cellsOf e) ((rows.drop off).take k) cs/\(∀ w',(Builtin.lenOf v).run P w' = .ok len w') /\ ∀ w',w'.heap=w.heap->(Builtin.firstCells (P.cellsOf e) k v).run P w' = .ok cs.toArray w':=by
 obtain⟨blk,c,h1,h2,h3,h4,h5⟩:=hm.blk r _ hr
 cases hv with|mrow _ _ _ _ hx hU hvv =>
 obtain⟨p1,p2⟩:=hvv _ _ _ h1
 simp only at h2 h3 h5
 by_cases hk0:k=0
 .
  subst hk0;obtain⟨a,c',rfl,_,_⟩:=hx;refine⟨[],by simpa using RowsIn.nil,fun w'=>by simp[Builtin.lenOf],fun w' _=>?_⟩
  cases a<;>simp[Builtin.firstCells,loadCells,loadCellsFrom]
 rcases p2 with⟨_,a,rfl⟩|⟨hne,b,rfl,rfl⟩
 .
  obtain⟨a',c',e1,e2,_⟩:=hx
  cases e1
  omega
 rcases h5 with⟨h5,_⟩|⟨b',cur,h5,k1,k2,_,k4⟩
 .
  cases h5
 cases h5
 have k1:=k1.cells p1.2
 have k2:=k2 p1.2
 have hR:RowsIn w g (P.cellsOf e) ((rows.drop off).take k) ((cur.toList.drop (off*P.cellsOf e)).take (k*P.cellsOf e)):=k4.rowsIn off k hl (by rw[k2];exact Y3 _ h3)
 refine⟨_,hR,fun w'=>by simp[Builtin.lenOf],fun w' hw=>?_⟩
 have hlen:=hR.1
 have hkl:((rows.drop off).take k).length=k:=by rw[Yu,Yi];omega
 rw[hkl] at hlen
 refine run_firstCells_some (P:=P) w' (P.cellsOf e) k _ len _ _ hlen fun j v hj=>?_
 rw[jy,cell_of_row w' b _ cur e (0,0) (by rw[hw];exact k1)]
 rw[YY] at hj
 split at hj
 .
  rw[YZ] at hj;simpa using hj
 cases hj
theorem Wh [Glob P] {h:H}{g:Mem}{w:World}(hm:HM P h g w) {t u e:TypeId}{r off len r2 off2 len2 k:Nat}{rows rows2:List (List D)}{vx vy:Value}(ht:P.underlying t=some (.slice e)) (hr:h r=some ⟨e,rows⟩) (hr2:h r2=some ⟨e,rows2⟩)
  (hx:Rep w g (.mrow r off len) vx) (hy:Rep w g (.mrow r2 off2 len2) vy) (hk:k=min len2 len) (h0:0<k) (ho:off<=rows.length) (hl:off2+k<=rows2.length) (ty:TypeId) :
  ∃ g' w',(Builtin.copy_ #[t,u] ty #[vx,vy]).run P w = .ok (.int .i64 k) w'/\HM P (upd h r (some ⟨e,rows.take off++(rows2.drop off2).take k++rows.drop (off+k)⟩)) g' w'/\Mono g g' w w' /\ ∀ q,g'.U q->g.U q:=by
 obtain⟨blk,c,h1,h2,h3,h4,h5⟩:=hm.blk r _ hr
 simp only at h1 h2 h3
 have hkl:k<=len:=by omega
 obtain⟨cs,r1,l1,f1⟩:=R3 hm hr2 hy (k:=k) om hl
 have hnl:((rows2.drop off2).take k).length=k:=by rw[Yu,Yi];omega
 cases hx with|mrow _ _ _ _ hxx hU hvv =>
 obtain⟨p1,p2⟩:=hvv _ _ _ h1
 rcases p2 with⟨e0,a,rfl⟩|⟨e0,b,rfl,rfl⟩
 .
  obtain⟨a',c',e1,e2,_⟩:=hxx
  cases e1
  omega
 obtain⟨cur,c1,c2,c3⟩:=Az hm (off:=off) hr h1 p1.2 r1 ho (by rw[hnl];exact Yc (Nat.add_le_add_left hkl _) p1.1)
 obtain⟨g',q1,q2,q3,q4,q5⟩:=c3 _ rfl
 rw[hnl] at q3
 have hst:=run_storeCells_at P b (off*P.cellsOf e) e cs 0 cur w c1 (by simpa using c2) r1.one
 simp only[Zv] at hst
 have hmin:Nat.min len2 len=k:=hk.symm
 refine⟨g',_,?_,q3,q4,q5⟩
 simp[Builtin.copy_,run_underlying ht,l1,jX h2,hmin,f1,hst,goInt]
def Env.lim (E:Env) (r c:Nat):Env where
 p:=fun g w=>E.p g w/\g.U r /\ ∀ blk c' sz,g.M r=some (blk,c',sz)->c'=c
 x:=E.x
 st:=fun P _ h g g' w w' hm k ⟨h1,h2,h3⟩=>⟨E.st P h g g' w w' hm k h1,k.U r h2,fun blk c' sz he=>by
  rcases k.M r h2 with e|e
  .
   exact h3 blk c' sz (e ▸ he)
  .
   rw[e] at he;cases he⟩
theorem FN [Glob P] {C:Con}{s s1:S}{ops:Array Oper}{i b:Nat}(k:Nat) {o:Oper}(A:D->H->Env->Prop) (hik:i<=k) (ho:ops[k]? = some o) (hg:o.guard=none) (hdef : ∀ c,o.op ≠ .defer c)
  (he:aF P (words P) C ops.toList b i ((ops.toList.drop i).take (k-i)) s=s1) (hok:s1.ok) (hd:bB s1.n o.dst=true)
  (hdo : ∀ (B:Bot) (g:Mem) (a:Act) (w:World),St P B s1 g a w -> ¬ g.U (b+k) -> ∃ d h' E v g' w',A d h' E/\E.x=s1.e.x/\(execOp a.eval o).run P w = .ok (.value v) w'/\Rep w' g' d v/\HM P h' g' w'/\Mono g g' w w'/\(∀ r,g'.U r->g.U r\/r=b+k)/\E.p g' w')
  (hk : ∀ d h' E,A d h' E->ax P ro ops (k+1) b { n:=s1.n,t:=s1.put o.dst d,h:=h',nx:=s1.nx,ok:=True,e:=E } Q):ax P ro ops i b s Q:=by
 intro B g0 g a w0 w hs hm hU
 have hlt:k<ops.size:=(Yk.1 ho).1
 have hr:List.range' i (ops.size-i)=List.range' i (k-i)++(k::List.range' (k+1) (ops.size-(k+1))):=by
  have:ops.size-i=(k-i)+((ops.size-(k+1))+1):=by omega
  rw[this,<- Ze,Y0];have e1:i+(k-i)=k:=by omega
  rw[e1]
 rw[hr]
 refine kE (C:=C) (b:=b) (k-i) i s g a w hs hm hU (by omega) (by rw[he];exact hok) fun g1 a1 w1 hs1 hm1 hU1=>?_
 rw[he] at hs1
 have hU1 : ∀ r,g1.U r->r<b+k:=fun r hr=>by have:=hU1 r hr;omega
 have hse:s1.e=s.e:=by rw[<- he];exact kY _ _ _ _ _
 rw[wpOpsIn_cons]
 unfold wpOpIn
 rw[ho]
 simp only
 have hw:Region.wanted o (yielded ops a1.tmps)=true:=by simp[Region.wanted,hg]
 rw[X6 hw]
 have hsem:o.semAt (Fw ro).round a1.eval=execOp a1.eval o:=Oper.semAt_eq _ _ _ hdef
 refine⟨fun _ _=>trivial,?_⟩
 rw[hsem]
 obtain⟨d,h',E,v,g',w',hA,hx,hrun,q1,q2,q3,q4,q5⟩:=hdo B g1 a1 w1 hs1 (fun h=>Nat.lt_irrefl _ (hU1 _ h))
 have hs2:=gN hs1 q3 q2 hd q1 True
 have:=hk d h' E hA B g0 g' (a1.put o.dst v) w0 w' ⟨hs2.sz,hs2.tm,hs2.mem,hs2.df,q5,hs2.bd⟩ (hm1.trans q3) (fun r hr=>by
  rcases q4 r hr with h|h
  .
   have:=hU1 r h;omega
  omega)
 simp only[hx,hse] at this
 rw[hrun,Oper.uponIn_value]
 exact this
section
variable [Glob P] {C : Con} {s s1 : S} {ops : Array Oper} {i b : Nat} {o : Oper}
theorem O0 (k:Nat) {t u e:TypeId}{x y:Operand}{r off len r2 off2 len2:Nat}(m:Nat) {rows rows2:List (List D)}(z9:dw P C ops i k o b s s1)
  (hop:o.op = .call { callee:=.builtin .copy,args:=#[x,y],argTypes:=#[t,u] }) (ht:P.underlying t=some (.slice e))
  (hx:s1.ev x = .mrow r off len) (hy:s1.ev y = .mrow r2 off2 len2) (hr:s1.h r=some ⟨e,rows⟩) (hr2:s1.h r2=some ⟨e,rows2⟩)
  (hm:m=min len2 len) (h0:0<m) (hlo:off<=rows.length) (hl:off2+m<=rows2.length)
  (hk:ax P ro ops (k+1) b { n:=s1.n,t:=s1.put o.dst (.i m),h:=upd s1.h r (some ⟨e,rows.take off++(rows2.drop off2).take m++rows.drop (off+m)⟩),nx:=s1.nx,ok:=True,e:=s1.e } Q):ax P ro ops i b s Q:=by
 obtain⟨hik,ho,hg,he,hok,hd⟩:=z9
 refine jD (C:=C) k (fun d h'=>d = .i m/\h'=upd s1.h r (some ⟨e,rows.take off++(rows2.drop off2).take m++rows.drop (off+m)⟩)) hik ho hg (fun c e=>by rw[hop] at e;cases e) he hok hd (fun B g a w hst _=>?_) (fun d h' ⟨hy,hh⟩=>by subst hy;subst hh;exact hk)
 have hv:=bI hst x
 rw[hx] at hv
 have hv2:=bI hst y
 rw[hy] at hv2
 obtain⟨g',w',q1,q2,q3,q4⟩:=Wh (u:=u) hst.mem ht hr hr2 hv hv2 hm h0 hlo hl o.type
 refine⟨_,_,⟨rfl,rfl⟩,_,g',w',.inl ?_,.v _,q2,q3,fun r hr=>.inl (q4 r hr)⟩
 obtain⟨od,oo,oty,op,oa,og⟩:=o
 simp only at hop
 subst hop
 simp[Go.BigFrame.execOp_builtin,Go.BigFrame.builtin_copy,q1]
theorem OP (k:Nat) {t e:TypeId}{x hi:Operand}{r off len m c:Nat}{rows:List (List D)}{E:Env}(z9:dw P C ops i k o b s s1)
  (hop:o.op = .slice t x none (some hi) none) (ht:P.underlying t=some (.slice e))
  (hx:s1.ev x = .mrow r off len) (hh:s1.ev hi = .i m) (hr:s1.h r=some ⟨e,rows⟩) (hE:s1.e=Env.lim E r c) (hc:off+m<=c) (h0:0<m) (hl:off<rows.length)
  (hk:ax P ro ops (k+1) b { n:=s1.n,t:=s1.put o.dst (.mrow r off m),h:=s1.h,nx:=s1.nx,ok:=True,e:=s1.e } Q):ax P ro ops i b s Q:=by
 obtain⟨hik,ho,hg,he,hok,hd⟩:=z9
 refine jD (C:=C) k (fun d h'=>d = .mrow r off m/\h'=s1.h) hik ho hg (fun c e=>by rw[hop] at e;cases e) he hok hd (fun B g a w hst _=>?_) (fun d h' ⟨hy,hh⟩=>by subst hy;subst hh;exact hk)
 have hv:=bI hst x
 rw[hx] at hv
 have hvh:=(bI hst hi)
 rw[hh] at hvh
 have hvh:=hvh.v_inv
 have hen:=hst.en
 rw[hE] at hen
 obtain⟨_,hU,hcap⟩:=hen
 obtain⟨blk,c0,h1,h2,h3,h4,h5⟩:=hst.mem.blk r _ hr
 have hc0:=hcap _ _ _ h1
 subst hc0
 simp only at h2 h3
 generalize hvx:a.eval x=v at hv
 cases hv with|mrow _ _ _ _ hxx _ hvv =>
 obtain⟨p1,p2⟩:=hvv _ _ _ h1
 rcases p2 with⟨e0,_⟩|⟨e0,b0,rfl,rfl⟩
 .
  omega
 have r2:=kH (P:=P) (o:=some (.i m)) (vo:=some (a.eval hi)) (d:=len) (y:=c0-off) (w:=w) (g:=g) (by rw[hvh];exact .v _) rfl (by simp[bnd]) (by simp only[bnd];omega) (if true then .sliceAcap else .sliceAlen)
 have r1:=kH (P:=P) (o:=none) (vo:=none) (d:=0) (y:=(bnd (some (.i m)) len).toNat) (w:=w) (g:=g) trivial rfl (by simp[bnd]) (by simp[bnd]) .sliceB
 have hrun:=vw ht h2 (a:=some ⟨b0,off*P.cellsOf e,none⟩) (len:=len) (vm:=none) (wX (P:=P) (len:=len) r2 r1)
 have hz : ¬ (c0-off=0):=by omega
 simp only[bnd,Int.toNat_natCast,hz,Y9,Nat.zero_mul,Nat.sub_zero,YR,jy,Zv] at hrun
 have hmc:m<=c0-off:=by omega
 refine⟨_,_,⟨rfl,rfl⟩,.slice (some ⟨b0,off*P.cellsOf e,none⟩) m (c0-off),g,w,.inl ?_,.mrow r off m _ ⟨_,_,rfl,hmc,fun _=>⟨_,rfl⟩⟩ hU fun blk c' sz hq=>?_,hst.mem,Mono.refl _ _,fun r hr=>.inl hr⟩
 .
  obtain⟨od,oo,oty,op,oa,og⟩:=o;simp only at hop;subst hop
  simp[execOp,hvx,hrun]
 rw[h1] at hq
 simp only[Yh,YI] at hq
 obtain⟨rfl,rfl,rfl⟩:=hq
 exact⟨om,.inr ⟨e0,b0,rfl,rfl⟩⟩
theorem O5 (k:Nat) {t e:TypeId}{x:Operand}{r off len:Nat}{rows:List (List D)}(z9:dw P C ops i k o b s s1)
  (hop:o.op = .call { callee:=.builtin .cap,args:=#[x],argTypes:=#[t] }) (ht:P.underlying t=some (.slice e))
  (hx:s1.ev x = .mrow r off len) (hr:s1.h r=some ⟨e,rows⟩)
  (hk : ∀ c:Nat,len<=c->c<=maxLen->ax P ro ops (k+1) b { n:=s1.n,t:=s1.put o.dst (.i c),h:=s1.h,nx:=s1.nx,ok:=True,e:=Env.lim s1.e r (off+c) } Q):ax P ro ops i b s Q:=by
 obtain⟨hik,ho,hg,he,hok,hd⟩:=z9
 refine FN (C:=C) k (fun d h' E=>∃ c:Nat,d = .i c/\h'=s1.h/\E=Env.lim s1.e r (off+c)/\len<=c/\c<=maxLen) hik ho hg (fun c e=>by rw[hop] at e;cases e) he hok hd (fun B g a w hst _=>?_) (fun d h' E ⟨c,h1,h2,h3,h4,h5⟩=>by subst h1;subst h2;subst h3;exact hk c h4 h5)
 have hv:=bI hst x
 rw[hx] at hv
 obtain⟨blk,c0,h1,h2,h3,h4,h5⟩:=hst.mem.blk r _ hr
 have key : ∃ (ad:Option Addr) (c:Nat),a.eval x = .slice ad len c/\len<=c/\c<=maxLen/\c0=off+c/\g.U r:=by
  generalize a.eval x=v at hv
  cases hv with|mrow _ _ _ _ hxx hU hvv =>
  obtain⟨p1,p2⟩:=hvv _ _ _ h1;obtain⟨a',c',e1,e2,_⟩:=hxx
  rcases p2 with⟨e0,a,rfl⟩|⟨e0,b0,rfl,rfl⟩
  .
   cases e1
   exact⟨a',0,rfl,om,Yo _,om,hU⟩
  cases e1
  exact⟨_,_,rfl,e2,om,om,hU⟩
 obtain⟨ad,c,k1,k2,k3,k4,k5⟩:=key
 refine⟨_,_,_,.int .i64 c,g,w,⟨c,rfl,rfl,rfl,k2,k3⟩,rfl,?_,.v _,hst.mem,Mono.refl _ _,fun r hr=>.inl hr,hst.en,k5,fun blk c' sz hq=>?_⟩
 .
  obtain⟨od,oo,oty,op,oa,og⟩:=o;simp only at hop;subst hop
  simp[Go.BigFrame.execOp_builtin,Go.BigFrame.builtin_cap,k1,Builtin.cap_,run_underlying ht,goInt]
 rw[h1] at hq
 simp only[Yh,YI] at hq
 obtain⟨rfl,rfl,rfl⟩:=hq
 exact k4
end
end Go.DL
namespace Go.DL
open Go.RowKit
variable {P : Program} {ro : Option Nat} {Q : Exit -> S -> Prop}
theorem IU [Glob P] {fn:Func}{tmps:Array Value}{R:Ending->World->Prop}{n B:Nat}{g:Mem}{u:FrameMode}(hu:u ≠ .run) {ds0:List Deferred}:∀ (ds:List Deferred) (w:World),Marks B g ds w ->
  (∀ w',w'.drawn=w.drawn->w'.os=w.os->w'.tape=w.tape->w'.output=w.output->w'.heap.size=w.heap.size->(∀ k:Nat,k<B->w'.heap[k]? = w.heap[k]?)->(∀ k:Nat,g.I k->w'.heap[k]? = w.heap[k]?)->(∀ (k:Nat) o,w.heap[k]? = some o->wZ o->w'.heap[k]? = w.heap[k]?)->LeavesInM Fence.wide n P fn tmps R ds0 u w') ->
  LeavesInM Fence.wide n P fn tmps R (ds++ds0) u w:=by
 intro ds
 induction ds with
 | nil =>
  intro w _ h;exact h w rfl rfl rfl rfl rfl (fun _ _=>rfl) (fun _ _=>rfl) (fun _ _ _ _=>rfl)
 | cons d ds ih =>
  rintro w ⟨⟨D,h1,h2,h3,h4,h5⟩,h6⟩ h;refine⟨hu,.inl ⟨D,w.putObj D (.deferred none),h1,run_takeDeferred h2,?_⟩⟩;have hne : ∀ k,k≠D->(w.putObj D (.deferred none)).heap[k]? = w.heap[k]? := fun k hk=>World.putObj_heap_other hk
  have hms : ∀ ds:List Deferred,(∀ d'∈ds,d'.target ≠ .collected D)->Marks B g ds w->Marks B g ds (w.putObj D (.deferred none)):=by
   intro ds
   induction ds with
   | nil=>intro _ _;trivial
   | cons e ds ihd =>
    rintro hds ⟨⟨D',k1,k2,k3,k4,k5⟩,k6⟩;refine⟨⟨D',k1,?_,k3,k4,k5⟩,ihd (fun d' hd'=>hds d' (by simp[hd'])) k6⟩
    rw[hne D' (fun e'=>by subst e';exact hds e (by simp) k1)]
    exact k2
  refine ih _ (hms ds h3 h6) fun w' e0 e1 e2 e3 e4 e5 e6 e7=>?_
  refine h w' (by rw[e0];rfl) (by rw[e1];rfl) (by rw[e2];rfl) (by rw[e3];rfl) (by rw[e4];simp) (fun k hk=>?_) (fun k hk=>?_) (fun k o hk ho=>?_)
  .
   rw[e5 k hk,hne k (by omega)]
  .
   rw[e6 k hk,hne k (fun e=>by subst e;exact h5 hk)]
  have:k≠D:=fun e'=>by subst e';rw[h2] at hk;cases hk;exact ho
  rw[e7 k o (by rw[hne k this];exact hk) ho,hne k this]
def gJ (P:Program) [Glob P] (f:FuncId) (args:List D) (h:H) (n:Nat) (R:D->H->Nat->Prop) (X:List PanicEntry->H->Nat->Prop):Prop :=
 bV P f=true /\ ∀ (w:World) (g:Mem) (vs:List Value),HM P h g w->(∀ r,g.U r->r<n)->Reps w g args vs ->
  CallsIn Fence.wide 0 P f vs.toArray w fun e w'=>∃ g' h' n',HM P h' g' w'/\Mono g g' w w'/\(∀ r,g'.U r->r<n')/\((∃ v res,R res h' n'/\e = .returned v/\Rep w' g' res v) \/ ∃ c,X c h' n'/\e = .panicked c)
theorem RCt.xct [Glob P] {f:FuncId}{args:List D}{h:H}{n:Nat}{R:D->H->Nat->Prop}{X:List PanicEntry->H->Nat->Prop}(k:RCt P f args h n R):gJ P f args h n R X :=
 ⟨k.1,fun w g vs h1 h2 h3=>(k.2 w g vs h1 h2 h3).mono fun _ _ ⟨v,g',res,h',n',q1,q2,q3,q4,q5,q6⟩=>⟨g',h',n',q4,q5,q6,.inl ⟨v,res,q1,q2,q3⟩⟩⟩
def Eb (P:Program) [Glob P] (fn:Func) (R:D->H->Nat->Prop) (X:List PanicEntry->H->Nat->Prop):Exit->S->Prop
 | .normal,s | .ret,s=>jb P s fn.results.toList /\ ∃ h' n',(∀ r,h' r=s.h r\/h' r=none)/\s.nx<=n'/\R (jH P fn.results.toList s) h' n'
 | .panic c,s=>∃ h' n',(∀ r,h' r=s.h r\/h' r=none)/\s.nx<=n'/\X c h' n'
 | _,_=>False
theorem sS [Glob P] {f:FuncId}{fn:Func}{c:Code}{args:List D}{h:H}{n:Nat}{R:D->H->Nat->Prop}{X:List PanicEntry->H->Nat->Prop}(hf:P.funcs[f]? = some fn) (hb:fn.body=some c) (hbd:bV P f=true) (hn:args.length<=fn.ntmps)
  (hw:(∀ r,n<=r->h r=none)->DW P none c (Eb P fn R X) { n:=fn.ntmps,t:=fun i=>args.getD i .junk,h:=h,nx:=n }):gJ P f args h n R X:=by
 refine⟨hbd,fun w g vs hm hU hr=>?_⟩
 have hs:=qw (P:=P) (n:=fn.ntmps) hr hn hm (nx:=n)
 refine callsIn_of_wp_marks (n:=0) hf hb trivial (wpIn_mono (F:=Fence.wide) (hw (uk hm hU) (Bot.of w.heap.size) g _ w hs hU) ?_)
 rintro e a' w' ⟨s',g',hq,hs',hm',hU',_⟩
 have hm':=hm'.out
 have key : ∀ u:FrameMode,u ≠ .run->(∀ w2,w2.drawn=w'.drawn->w2.os=w'.os->w2.tape=w'.tape->w2.output=w'.output->w2.heap.size=w'.heap.size->Mono g g' w w2->St P (Bot.of w.heap.size) { s' with e:=Env.tt } g' { a' with defers:=[] } w2 ->
   LeavesIn Fence.wide 0 P fn a'.tmps (fun e w'=>∃ g' h' n',HM P h' g' w'/\Mono g g' w w'/\(∀ r,g'.U r->r<n')/\((∃ v res,R res h' n'/\e = .returned v/\Rep w' g' res v) \/ ∃ c,X c h' n'/\e = .panicked c)) [] u w2) ->
   LeavesInM Fence.wide 0 P fn a'.tmps (fun e w'=>∃ g' h' n',HM P h' g' w'/\Mono g g' w w'/\(∀ r,g'.U r->r<n')/\((∃ v res,R res h' n'/\e = .returned v/\Rep w' g' res v) \/ ∃ c,X c h' n'/\e = .panicked c)) a'.defers u w':=by
  intro u hu hk;obtain⟨ms,e,hms⟩:=hs'.df;rw[e];refine IU (P:=P) hu ms w' hms fun w2 e0 e1 e2 e3 e4 e5 e6 e7=>?_
  refine hk w2 e0 e1 e2 e3 e4 ?_ (hs'.marks e4 e6 e7);refine⟨by rw[e1,hm'.os],by rw[e2,hm'.tape],by rw[e3,hm'.output],by rw[e4];exact hm'.size,by rw[e0];exact hm'.drawn,hm'.U,hm'.M,hm'.new,hm'.I,hm'.inew,fun k hk hne=>?_⟩
  rw[e5 k hk];exact hm'.same k hk hne
 have ret:(jb P s' fn.results.toList /\ ∃ h' n',(∀ r,h' r=s'.h r\/h' r=none)/\s'.nx<=n'/\R (jH P fn.results.toList s') h' n')->LeavesInM Fence.wide 0 P fn a'.tmps (fun e w'=>∃ g' h' n',HM P h' g' w'/\Mono g g' w w'/\(∀ r,g'.U r->r<n')/\((∃ v res,R res h' n'/\e = .returned v/\Rep w' g' res v) \/ ∃ c,X c h' n'/\e = .panicked c)) a'.defers .returning w':=by
  rintro⟨ho,h',n',hh,hn',hR⟩;refine key .returning (by simp) fun w2 _ _ _ _ _ mono2 hs2=>?_
  obtain⟨v,h1,h2⟩:=tQ (fn:=fn) hs2 ho;exact⟨v,h1,g'.only h',h',n',hs2.mem.only hh,mono2.trans only_mono,fun r hr=>YB (hU' r hr) hn',.inl ⟨v,_,hR,rfl,h2.only⟩⟩
 cases e with
 | normal=>exact ret hq
 | ret=>exact ret hq
 | panic c =>
  obtain⟨h',n',hh,hn',hX⟩:=hq;exact key (.panicking c) (by simp) fun w2 _ _ _ _ _ mono2 hs2=>⟨g'.only h',h',n',hs2.mem.only hh,mono2.trans only_mono,fun r hr=>YB (hU' r hr) hn',.inr ⟨c,hX,rfl⟩⟩
 | _=>exact hq.elim
section
variable [Glob P] {C : Con} {s s1 : S} {ops : Array Oper} {i b : Nat} {o : Oper}
theorem OJ (k:Nat) {f:Operand}{args:Array Operand}{ts:Array TypeId}{fid:FuncId}{first caps xs:List D}(R:D->H->Nat->Prop) (X:List PanicEntry->H->Nat->Prop) (hik:i<=k)
  (ho:ops[k]? = some o) (hop:o.op = .call { callee:=.value f,args:=args,argTypes:=ts }) (hg:o.guard=none)
  (he:aF P (words P) C ops.toList b i ((ops.toList.drop i).take (k-i)) s=s1) (hok:s1.ok) (hd:bB s1.n o.dst=true)
  (hf:s1.ev f = .fn (.func fid) first caps) (hxg:(args.toList.map s1.ev).all sg=true) (hx:((args.toList.map s1.ev).map sd).map wk=xs) (hct:gJ P fid (first++xs++caps) s1.h (b+k) R X)
  (hk : ∀ res h' n',R res h' n'->ax P ro ops (k+1) n' { n:=s1.n,t:=s1.put o.dst res,h:=h',nx:=n'+ops.size,ok:=True,e:=s1.e } Q)
  (hp : ∀ c h' n',X c h' n'->Q (.panic c) { n:=s1.n,t:=s1.t,h:=h',nx:=n',ok:=True,e:=s1.e }):ax P ro ops i b s Q:=by
 intro B g0 g a w0 w hs hm hU
 have hlt:k<ops.size:=(Yk.1 ho).1
 have hr:List.range' i (ops.size-i)=List.range' i (k-i)++(k::List.range' (k+1) (ops.size-(k+1))):=by
  have:ops.size-i=(k-i)+((ops.size-(k+1))+1):=by omega
  rw[this,<- Ze,Y0];have e1:i+(k-i)=k:=by omega
  rw[e1]
 rw[hr]
 refine kE (C:=C) (b:=b) (k-i) i s g a w hs hm hU (by omega) (by rw[he];exact hok) fun g1 a1 w1 hs1 hm1 hU1=>?_
 rw[he] at hs1
 have hU1 : ∀ r,g1.U r->r<b+k:=fun r hr=>by have:=hU1 r hr;omega
 have hse:s1.e=s.e:=by rw[<- he];exact kY _ _ _ _ _
 rw[wpOpsIn_cons]
 unfold wpOpIn
 rw[ho]
 simp only
 have hw:Region.wanted o (yielded ops a1.tmps)=true:=by simp[Region.wanted,hg]
 rw[X6 hw]
 have hdef : ∀ c,o.op ≠ .defer c:=by intro c e;rw[e] at hop;cases hop
 have hsem:o.semAt (Fw ro).round a1.eval=execOp a1.eval o:=Oper.semAt_eq _ _ _ hdef
 refine⟨fun _ _=>trivial,?_⟩
 rw[hsem]
 obtain⟨hbd,hct⟩:=hct
 have hfr:=bI hs1 f
 rw[hf] at hfr
 have hxr:=Reps.wk (mg (lX hs1 args.toList) hxg)
 rw[hx] at hxr
 generalize hv:a1.eval f=vf at hfr
 cases hfr with|fn _ _ _ fs cs l1 l2 r1 r2 =>
 have hrun:(execOp a1.eval o).run P w1 = .ok (.enter fid (fs++args.map a1.eval++cs)) w1:=by
  simp[execOp,hop,resolve,Deferred.ofValue,hv,invoke,lZ hbd]
 rw[hrun,Oper.uponIn_enter]
 have e:fs++args.map a1.eval++cs=(fs.toList++args.toList.map a1.eval++cs.toList).toArray:=by apply Zl;simp
 rw[e]
 refine⟨fun h=>by simp[Fw,Fence.wide] at h,o7 ((hct w1 g1 _ hs1.mem hU1 (Reps.append (Reps.append ⟨by simpa using l1,fun i d x h1 h2=>r1 i d x h1 (by simpa using h2)⟩ hxr) ⟨by simpa using l2,fun i d x h1 h2=>r2 i d x h1 (by simpa using h2)⟩)).mono ?_)⟩
 rintro e w' ⟨g',h',n',q2,q3,q4,⟨v,res,hR,rfl,q1⟩|⟨c,hX,rfl⟩⟩
 .
  have hs2:=gN hs1 q3 q2 hd q1 True;have:=hk res h' n' hR B g0 g' (a1.put o.dst v) w0 w' ⟨hs2.sz,hs2.tm,hs2.mem,hs2.df,hs2.en,hs2.bd⟩ (hm1.trans q3) (fun r hr=>by have:=q4 r hr;omega)
  rw[hse] at this;exact this
 have hs2:=gN (dst:=none) hs1 q3 q2 rfl (.junk undef) True
 exact⟨_,g',hp c h' n' hX,⟨hs2.sz,hs2.tm,hs2.mem,hs2.df,hs2.en,hs2.bd⟩,by rw[<- hse];exact (hm1.trans q3).toX,q4,by rw[<- hse]⟩
theorem ek (k:Nat) {f:Operand}{args:Array Operand}{ts:Array TypeId}{fid:FuncId}{first caps xs:List D}{R:D->H->Nat->Prop}{X:List PanicEntry->H->Nat->Prop}(ho:ops[k]? = some o:=by exact bC rfl) (hop:o.op = .call { callee:=.value f,args:=args,argTypes:=ts }:=by exact rfl) (hg:o.guard=none:=by exact rfl)
  (he:aF P (words P) C ops.toList b i ((ops.toList.drop i).take (k-i)) s=s1:=by simp only[X8,X7,X4,Yf,S.put,Yr,Nat.reduceSub,go_sem,ff];first|done|exact rfl) (hok:s1.ok:=by (try simp only[go_sem,ff]);all_goals exact ok0) (hd:bB s1.n o.dst=true:=by (try simp only[go_sem,ff]);all_goals (first|done|rfl|decide|simp))
  (hf:s1.ev f = .fn (.func fid) first caps:=by simp only[go_sem,ff];first|done|exact rfl) (hxg:(args.toList.map s1.ev).all sg=true:=by simp only[go_sem,ff]) (hx:((args.toList.map s1.ev).map sd).map wk=xs:=by simp only[go_sem,ff];first|done|exact rfl) (hct:gJ P fid (first++xs++caps) s1.h (b+k) R X)
  (hp : ∀ c h' n',X c h' n'->Q (.panic c) { n:=s1.n,t:=s1.t,h:=h',nx:=n',ok:=True,e:=s1.e })
  (hk : ∀ res h' n',R res h' n'->ax P ro ops (k+1) n' { n:=s1.n,t:=s1.put o.dst res,h:=h',nx:=n'+ops.size,ok:=True,e:=s1.e } Q) (hik:i<=k:=by omega):ax P ro ops i b s Q :=
 OJ k R X hik ho hop hg he hok hd hf hxg hx hct hk hp
theorem OQ (k:Nat) {x:Operand}{d:D}{t:TypeId}{v:Value}(hik:i<=k) (ho:ops[k]? = some o) (hop:o.op = .panic x) (hg:o.guard=none)
  (he:aF P (words P) C ops.toList b i ((ops.toList.drop i).take (k-i)) s=s1) (hok:s1.ok) (hx:s1.ev x=d) (hv : ∀ (w:World) (g:Mem) u,Rep w g d u->u = .iface t v)
  (hq:Q (.panic [{ v:=.iface t v,recovered:=false }]) { n:=s1.n,t:=s1.t,h:=s1.h,nx:=b+k,ok:=True,e:=s1.e }):ax P ro ops i b s Q:=by
 intro B g0 g a w0 w hs hm hU
 have hlt:k<ops.size:=(Yk.1 ho).1
 have hr:List.range' i (ops.size-i)=List.range' i (k-i)++(k::List.range' (k+1) (ops.size-(k+1))):=by
  have:ops.size-i=(k-i)+((ops.size-(k+1))+1):=by omega
  rw[this,<- Ze,Y0];have e1:i+(k-i)=k:=by omega
  rw[e1]
 rw[hr]
 refine kE (C:=C) (b:=b) (k-i) i s g a w hs hm hU (by omega) (by rw[he];exact hok) fun g1 a1 w1 hs1 hm1 hU1=>?_
 rw[he] at hs1
 have hU1 : ∀ r,g1.U r->r<b+k:=fun r hr=>by have:=hU1 r hr;omega
 have hse:s1.e=s.e:=by rw[<- he];exact kY _ _ _ _ _
 rw[wpOpsIn_cons]
 unfold wpOpIn
 rw[ho]
 simp only
 have hw:Region.wanted o (yielded ops a1.tmps)=true:=by simp[Region.wanted,hg]
 rw[X6 hw]
 have hdef : ∀ c,o.op ≠ .defer c:=by intro c e;rw[e] at hop;cases hop
 have hsem:o.semAt (Fw ro).round a1.eval=execOp a1.eval o:=Oper.semAt_eq _ _ _ hdef
 refine⟨fun _ _=>trivial,?_⟩
 rw[hsem]
 have hxr:=bI hs1 x
 rw[hx] at hxr
 have hxv:=hv _ _ _ hxr
 have hrun:(execOp a1.eval o).run P w1 = .halt (.panic (.iface t v)) w1:=by
  simp[execOp,hop,hxv,Instr.panic]
 rw[hrun,Oper.uponIn_panic]
 exact⟨_,g1,hq,⟨hs1.sz,hs1.tm,hs1.mem,hs1.df,hs1.en,hs1.bd⟩,by rw[<- hse];exact hm1.toX,hU1,by rw[<- hse]⟩
end
def sP (P:Program) [Glob P] (f:FuncId) (args:List D) (h:H) (n:Nat) (u u':FrameMode) (R:H->Nat->Prop):Prop :=
 bV P f=true /\ ∀ (w:World) (g:Mem) (vs:List Value),HM P h g w->(∀ r,g.U r->r<n)->Reps w g args vs ->
  CallsDIn Fence.wide 0 P f vs.toArray u w fun e u2 w'=>∃ v g' h' n',e = .returned v/\u2=u'/\HM P h' g' w'/\Mono g g' w w'/\(∀ r,g'.U r->r<n')/\R h' n'
def sO (P:Program) [Glob P] (fn:Func) (fid:FuncId) (caps:List D) (R:D->H->Nat->Prop) (e:Exit) (s:S):Prop :=
 ∃ u u' Rd,(match e with | .normal | .ret=>u = .returning | .panic c=>u = .panicking c|_=>False)/\settle u' = .returning/\sP P fid caps s.h s.nx u u' Rd /\
  ∀ h1 n1,Rd h1 n1->jb P { s with h:=h1 } fn.results.toList /\ ∃ h' n',(∀ r,h' r=h1 r\/h' r=none)/\n1<=n'/\R (jH P fn.results.toList { s with h:=h1 }) h' n'
theorem U1 [Glob P] {C:Con}{B:Bot}{s:S}{g:Mem}{a:Act}{w:World}(hs:St P B s g a w) {b i N:Nat}(hb : ¬ g.U (b+i)) (hN : ∀ r,g.U r->r<N) {ops:Array Oper}{o:Oper}(hi:ops[i]? = some o) (hgn:o.guard=none) (hok:(bu P (words P) C ops.toList b i o s).ok)
  {ro:Option Nat} {n:Nat} {K:Act->World->Prop} {Q:Exit->Act->World->Prop}
  (hK : ∀ g' a' w',St P B (bu P (words P) C ops.toList b i o s) g' a' w'->Mono g g' w w'->(∀ r,g'.U r->g.U r\/r=b+i)->a'.defers=a.defers->K a' w'):wpOpIn (Fw ro) n P ops Q i K a w:=by
 unfold wpOpIn
 rw[hi]
 simp only
 unfold bu at hok hK
 rw[hgn] at hok hK
 simp only at hok hK
 obtain⟨_,h2,h3⟩:=hok
 have hw:Region.wanted o (yielded ops a.tmps)=true:=by simp[Region.wanted,hgn]
 rw[X6 hw]
 exact Dp hs hb hN h3 fun v g' w' h4 h5 h6 h7=>hK g' _ w' (gN hs h6 h5 h2 h4 _) h6 h7 (by cases o.dst<;>rfl)
theorem Dl [Glob P] {C:Con}{B:Bot}{ops:Array Oper}{b:Nat}{n:Nat}{Q:Exit->Act->World->Prop}{w0:World}{g0:Mem}{rest:List Nat}:∀ (k i:Nat) (s:S) (g:Mem) (a:Act) (w:World),St P B s g a w->Mono g0 g w0 w->(∀ r,g.U r->r<b+i) ->
  i+k<=ops.size->(∀ o∈(ops.toList.drop i).take k,o.guard=none)->(aF P (words P) C ops.toList b i ((ops.toList.drop i).take k) s).ok ->
  (∀ g' a' w',St P B (aF P (words P) C ops.toList b i ((ops.toList.drop i).take k) s) g' a' w'->Mono g0 g' w0 w'->(∀ r,g'.U r->r<b+(i+k))->a'.defers=a.defers->wpOpsIn (Fw ro) n P ops Q rest a' w') ->
  wpOpsIn (Fw ro) n P ops Q (List.range' i k++rest) a w:=by
 intro k
 induction k with
 | zero =>
  intro i s g a w hs hm hU hk _ hok hQ;exact hQ g a w hs hm hU rfl
 | succ k ih =>
  intro i s g a w hs hm hU hk hgn hok hQ;have hlt:i<ops.size:=by omega
  have hd:(ops.toList.drop i).take (k+1)=ops[i]::(ops.toList.drop (i+1)).take k:=by rw[Yy (by simpa using hlt)];simp
  rw[hd] at hok hQ hgn;simp only[aF] at hok hQ;rw[Y0,X0,wpOpsIn_cons];refine U1 hs (b:=b) (N:=b+i) (fun h=>by have:=hU _ h;omega) hU (by simp[hlt]) (hgn _ (by simp)) (zR hok) fun g' a' w' h1 h2 h3 h4=>?_
  refine ih (i+1) _ g' a' w' h1 (hm.trans h2) (fun r hr=>by
   rcases h3 r hr with h|h
   .
    have:=hU r h;omega
   omega) om (fun o ho=>hgn o (by simp[ho])) hok fun g'' a'' w'' q1 q2 q3 q4=>hQ g'' a'' w'' q1 q2 (fun r hr=>by have:=q3 r hr;omega) (q4.trans h4)
theorem M0 {F:Fence}{n:Nat}{o:Oper}{a:Act}{next next':Act->World->Prop}{Q Q':Exit->Act->World->Prop}(hn : ∀ a w,next a w->next' a w) (hq : ∀ e a w,Q e a w->Q' e a w) (r:Result Next) (h:o.uponIn F n P a next Q r):o.uponIn F n P a next' Q' r:=by
 have hl:LetsOut Q->LetsOut Q':=fun ⟨a,w,h⟩=>⟨a,w,hq _ _ _ h⟩
 unfold Oper.uponIn at h ⊢
 split at h
 .
  exact hn _ _ h
 .
  exact hn _ _ h
 .
  exact hn _ _ h
 .
  exact⟨h.1,h.2.mono fun e w h=>by cases e with|returned v=>exact hn _ _ h|panicked c=>exact hq _ _ _ h|outgrown=>exact hl h⟩
 .
  exact⟨h.1,h.2.mono fun v w h=>hn _ _ h⟩
 .
  exact⟨h.1,h.2.mono fun e w h=>by cases e with|returned v=>exact hn _ _ h|panicked c=>exact hq _ _ _ h|outgrown=>exact hl h⟩
 .
  exact hq _ _ _ h
 exact h.elim
theorem uX {F:Fence}{n:Nat}{ops:Array Oper}{Q Q':Exit->Act->World->Prop}(hq : ∀ e a w,Q e a w->Q' e a w):∀ (l:List Nat) (a:Act) (w:World),wpOpsIn F n P ops Q l a w->wpOpsIn F n P ops Q' l a w
 | [],a,w,h=>hq _ _ _ h
 | i::l,a,w,h=>by
  unfold wpOpsIn at h ⊢
  cases hi:ops[i]? with
  | none=>rw[hi] at h;exact uX hq l a w h
  | some o =>
   rw[hi] at h;simp only at h ⊢
   split
   .
    rename_i hw
    rw[X6 hw] at h;exact⟨h.1,M0 (fun a w h=>uX hq l a w h) hq _ h.2⟩
   rename_i hw
   rw[XZ hw] at h;exact⟨h.1,uX hq l _ w h.2⟩
theorem K8 [Glob P] {C:Con}{fn:Func}{R:D->H->Nat->Prop}{id:Nat}{ops:Array Oper}{y:Code}(k:Nat) {o:Oper}{fop:Operand}{ts:Array TypeId}{fid:FuncId}{caps:List D}{s0 s1:S}{g g0:Mem}{w w0:World}{a0:Act}
  (ho:ops[k]? = some o) (hg:o.guard=none) (hop:o.op = .defer { callee:=.value fop,args:=#[],argTypes:=ts }) (hgn : ∀ o∈ops.toList.take k,o.guard=none)
  {E:Env} (hEx:E.x=none) (hE:E.p g0 w0) (he:aF P (words P) C ops.toList s0.nx 0 (ops.toList.take k) { n:=s0.n,t:=s0.t,h:=s0.h,nx:=s0.nx+ops.size,e:=E }=s1) (hok:s1.ok) (hd:bB s1.n o.dst=true) (hfv:s1.ev fop = .fn (.func fid) [] caps)
  (hw:ax P none ops (k+1) s0.nx { n:=s1.n,t:=s1.put o.dst .junk,h:=s1.h,nx:=s1.nx,ok:=True,e:=s1.e } (thenS (DW P none y (sO P fn fid caps R)) (sO P fn fid caps R)))
  (hs0:St P (Bot.of w.heap.size) s0 g0 a0 w0) (hm0:Mono g g0 w w0) (hU0 : ∀ r,g0.U r->r<s0.nx) (hdf0:a0.defers=[]) :
  (Code.seq (.region id ops false) y).wpIn Fence.wide 0 P (bodyPostM Fence.wide 0 P fn (fun e w'=>∃ v g' res h' n',R res h' n'/\e = .returned v/\Rep w' g' res v/\HM P h' g' w'/\Mono g g' w w' /\ ∀ r,g'.U r->r<n')) a0 w0:=by
 refine wpIn_seq (wpIn_region ?_)
 have hs:St P (Bot.of w.heap.size) { n:=s0.n,t:=s0.t,h:=s0.h,nx:=s0.nx+ops.size,e:=E } g0 a0 w0:=⟨hs0.sz,hs0.tm,hs0.mem,hs0.df,hE,hs0.bd⟩
 have hlt:k<ops.size:=(Yk.1 ho).1
 have hrg:List.range ops.size=List.range' 0 k++(k::List.range' (k+1) (ops.size-(k+1))):=by
  rw[Y4];have:ops.size=k+((ops.size-(k+1))+1):=by omega
  conv=>lhs;rw[this]
  rw[<- Ze,Y0]
  simp
 rw[hrg]
 have e0:(ops.toList.drop 0).take k=ops.toList.take k:=rfl
 refine Dl (ro:=none) (C:=C) (b:=s0.nx) k 0 _ g0 _ w0 hs hm0 (fun r hr=>by have:=hU0 r hr;omega) (by omega) hgn (by rw[e0];exact he ▸ hok) fun g1 a1 w1 hs1 hm1 hU1 hdf=>?_
 rw[e0] at hs1
 have hs1:St P (Bot.of w.heap.size) s1 g1 a1 w1:=he ▸ hs1
 have hdf:a1.defers=[]:=hdf.trans hdf0
 have hse:s1.e=E:=by rw[<- he];exact kY _ _ _ _ _
 rw[wpOpsIn_cons]
 unfold wpOpIn
 rw[ho]
 simp only
 have hwt:Region.wanted o (yielded ops a1.tmps)=true:=by simp[Region.wanted,hg]
 rw[X6 hwt]
 refine⟨fun _ _=>trivial,?_⟩
 have hfr:=bI hs1 fop
 rw[hfv] at hfr
 generalize hv:a1.eval fop=vf at hfr
 cases hfr with|fn _ _ _ fs cs l1 l2 r1 r2 =>
 have hfs:fs = #[]:=by
  apply ZP
  simpa using l1.symm
 subst hfs
 have hrun:(o.semAt (Fw none).round a1.eval).run P w1 = .ok (.defer { target:=.fn (.func fid) cs,args:=#[] }) w1:=by
  have:o.semAt (Fw none).round a1.eval=execOp a1.eval o:=rfl;rw[this]
  simp[execOp,hop,resolve,Deferred.ofValue,hv]
 rw[hrun,Oper.uponIn_defer]
 have hcaps:Reps w1 g1 caps cs.toList:=⟨by simpa using l2,fun i d x h1 h2=>r2 i d x h1 (by simpa using h2)⟩
 let B':Bot:=⟨w.heap.size,[{ target:=.fn (.func fid) cs,args:=#[] }],fun d hd D=>by simp at hd;subst hd;simp⟩
 have hst:St P B' { n:=s1.n,t:=s1.put o.dst .junk,h:=s1.h,nx:=s1.nx,ok:=True,e:=s1.e } g1 ({ a1 with defers:={ target:=.fn (.func fid) cs,args:=#[] }::a1.defers }.put o.dst undef) w1:=by
  have hb0:St P B' { n:=s1.n,t:=s1.t,h:=s1.h,nx:=s1.nx,ok:=True,e:=s1.e } g1 { a1 with defers:={ target:=.fn (.func fid) cs,args:=#[] }::a1.defers } w1 :=
   ⟨hs1.sz,hs1.tm,hs1.mem,by rw[hdf];exact Dfs.start (B:=B'),hs1.en,hs1.bd⟩
  exact gN hb0 (Mono.refl _ _) hs1.mem hd (.junk undef) True
 have hseg:=hw B' g1 g1 _ w1 w1 hst (Mono.refl _ _) (fun r hr=>by have:=hU1 r hr;omega)
 have hx0:s1.e.x=none:=by rw[hse];exact hEx
 have fin : ∀ (e:Exit) (a':Act) (w':World) (s':S) (g':Mem),sO P fn fid caps R e s'->St P B' s' g' a' w'->Mono g1 g' w1 w'->(∀ r,g'.U r->r<s'.nx)->bodyPostM Fence.wide 0 P fn (fun e w'=>∃ v g' res h' n',R res h' n'/\e = .returned v/\Rep w' g' res v/\HM P h' g' w'/\Mono g g' w w' /\ ∀ r,g'.U r->r<n') e a' w':=by
  intro e a' w' s' g' ⟨u,u',Rd,hu,hset,hdc,hfin⟩ hs' hm' hU';have hne:u ≠ .run:=by
   intro hh;subst hh
   cases e<;>simp at hu
  have hlast:LeavesInM Fence.wide 0 P fn a'.tmps (fun e w'=>∃ v g' res h' n',R res h' n'/\e = .returned v/\Rep w' g' res v/\HM P h' g' w'/\Mono g g' w w' /\ ∀ r,g'.U r->r<n') a'.defers u w':=by
   obtain⟨ms,hms,hmk⟩:=hs'.df;rw[hms];refine IU (P:=P) hne ms w' hmk fun w2 e0 e1 e2 e3 e4 e5 e6 e7=>?_
   have hs2:=hs'.marks e4 e6 e7;have hmF:Mono g g' w w':=hm1.trans hm';have mono2:Mono g g' w w2:=by
    refine⟨by rw[e1,hmF.os],by rw[e2,hmF.tape],by rw[e3,hmF.output],by rw[e4];exact hmF.size,by rw[e0];exact hmF.drawn,hmF.U,hmF.M,hmF.new,hmF.I,hmF.inew,fun k hk hne=>?_⟩
    rw[e5 k hk];exact hmF.same k hk hne
   have hc2:Reps w2 g' caps cs.toList:=(hcaps.later hs1.mem hm').mono (fun b hb=>⟨hb,e6 b hb⟩) (fun _ h=>h) (fun _ _=>.inl rfl)
   obtain⟨hbd2,hcall⟩:=hdc;have hcall:=hcall w2 g' cs.toList hs2.mem hU' hc2;refine⟨hne,.inr ⟨fun h=>by simp[Fence.wide] at h,.func fid,cs,fid,cs,rfl,by simp[invoke,lZ hbd2],fun _ _=>trivial,?_⟩⟩
   have ecs:cs.toList.toArray=cs:=by simp
   rw[ecs] at hcall;refine hcall.mono ?_;rintro e3 u2 w3 ⟨v,g3,h3,n3,rfl,rfl,q1,q2,q3,q4⟩
   show LeavesInM Fence.wide 0 P fn a'.tmps _ [] (settle u2) w3
   rw[hset];obtain⟨ro,h4,n4,k1,k2,k3⟩:=hfin h3 n3 q4;have hs3:St P (Bot.of w.heap.size) { n:=s'.n,t:=s'.t,h:=h3,nx:=s'.nx,ok:=s'.ok,e:=Env.tt } g3 { a' with defers:=[] } w3 :=
    ⟨hs2.sz,fun i=>(hs2.tm i).later hs2.mem q2,q1,Dfs.start (B:=Bot.of w.heap.size),trivial,Yc hs2.bd q2.size⟩
   obtain⟨v3,p1,p2⟩:=tQ (fn:=fn) (s:={ n:=s'.n,t:=s'.t,h:=h3,nx:=s'.nx,ok:=s'.ok,e:=s'.e }) hs3 ro;exact⟨v3,p1,v3,g3.only h4,_,h4,n4,k3,rfl,p2.only,q1.only k1,(mono2.trans q2).trans only_mono,fun r hr=>YB (q3 r hr) k2⟩
  cases e with
  | normal=>simp only at hu;subst hu;exact hlast
  | ret=>simp only at hu;subst hu;exact hlast
  | panic c=>simp only at hu;subst hu;exact hlast
  | _=>simp at hu
 refine uX (F:=Fence.wide) ?_ _ _ _ hseg
 rintro e a' w' ⟨s',g',hq,hs',hm',hU',hx'⟩
 rw[hx0] at hm'
 cases e with
 | normal =>
  refine wpIn_mono (F:=Fence.wide) (hq B' g' a' w' hs' hU') ?_;rintro e2 a2 w2 ⟨s2,g2,hq2,hs2,hm2,hU2,hx2⟩;have hx3:s'.e.x=none:=by rw[hx'];exact hx0
  rw[hx3] at hm2;exact fin e2 a2 w2 s2 g2 hq2 hs2 (hm'.out.trans hm2.out) hU2
 | exit id=>exact fin (.exit id) a' w' s' g' hq hs' hm'.out hU'
 | goto l=>exact fin (.goto l) a' w' s' g' hq hs' hm'.out hU'
 | ret=>exact fin .ret a' w' s' g' hq hs' hm'.out hU'
 | panic c=>exact fin (.panic c) a' w' s' g' hq hs' hm'.out hU'
 | outgrown=>exact fin .outgrown a' w' s' g' hq hs' hm'.out hU'
theorem BA [Glob P] {C:Con}{f:FuncId}{fn:Func}{args:List D}{h:H}{n:Nat}{R:D->H->Nat->Prop}{id0:Nat}{ops0:Array Oper}{id:Nat}{ops:Array Oper}{y:Code}(k:Nat) {o:Oper}{fop:Operand}{ts:Array TypeId}{fid:FuncId}{caps:List D}{s0 s1:S}
  (hf:P.funcs[f]? = some fn) (hb:fn.body=some (.seq (.region id0 ops0 false) (.seq (.region id ops false) y))) (hbd:bV P f=true) (hn:args.length<=fn.ntmps)
  (hgn0 : ∀ o∈ops0.toList,o.guard=none) (he0:aF P (words P) C ops0.toList n 0 ops0.toList { n:=fn.ntmps,t:=fun i=>args.getD i .junk,h:=h,nx:=n+ops0.size,e:=Env.tt }=s0) (hok0:s0.ok)
  (ho:ops[k]? = some o) (hg:o.guard=none) (hop:o.op = .defer { callee:=.value fop,args:=#[],argTypes:=ts }) (hgn : ∀ o∈ops.toList.take k,o.guard=none)
  (he:aF P (words P) C ops.toList (n+ops0.size) 0 (ops.toList.take k) { n:=s0.n,t:=s0.t,h:=s0.h,nx:=n+ops0.size+ops.size,e:=Env.tt }=s1) (hok:s1.ok) (hd:bB s1.n o.dst=true) (hfv:s1.ev fop = .fn (.func fid) [] caps)
  (hw:(∀ r,n<=r->h r=none)->ax P none ops (k+1) (n+ops0.size) { n:=s1.n,t:=s1.put o.dst .junk,h:=s1.h,nx:=s1.nx,ok:=True,e:=s1.e } (thenS (DW P none y (sO P fn fid caps R)) (sO P fn fid caps R))):RCt P f args h n R:=by
 refine⟨hbd,fun w g vs hm hU hr=>?_⟩
 refine callsIn_of_wp_marks (n:=0) hf hb trivial (wpIn_seq (wpIn_region ?_))
 have hs:=qw (P:=P) (n:=fn.ntmps) hr hn hm (nx:=n+ops0.size)
 have hrg:List.range ops0.size=List.range' 0 ops0.size++[]:=by rw[YC,Y4]
 rw[hrg]
 have e0:(ops0.toList.drop 0).take ops0.size=ops0.toList:=by rw[X7];exact Yp (by simp)
 refine Dl (ro:=none) (C:=C) (b:=n) ops0.size 0 _ g _ w hs (Mono.refl _ _) (fun r hr=>by have:=hU r hr;omega) (by omega) (by rw[e0];exact hgn0) (by rw[e0];exact he0 ▸ hok0) fun g1 a1 w1 hs1 hm1 hU1 hdf=>?_
 rw[e0] at hs1
 have hs1:St P (Bot.of w.heap.size) s0 g1 a1 w1:=he0 ▸ hs1
 have hnx:s0.nx=n+ops0.size:=by rw[<- he0];exact Dm _ _ _ _ _
 have hse:s0.e=Env.tt:=by rw[<- he0];exact kY _ _ _ _ _
 rw[<- hnx] at he hw
 exact K8 (C:=C) (E:=Env.tt) k ho hg hop hgn rfl trivial he hok hd hfv (hw (uk hm hU)) hs1 hm1 (fun r hr=>by rw[hnx];have:=hU1 r hr;omega) hdf
end Go.DL
namespace Go.DL
open Go.RowKit
variable {P : Program} {C : Con} {B : Bot}
theorem mq {ops:Array Oper}{listed:Array Bool}(hsz:listed.size=ops.size) {i:Nat} :
  i∈Region.ready .any ops listed ↔ ∃ h:i<ops.size,listed.getD i false=false /\ ∀ e∈(ops[i]).after.toList,Region.binds .any e=true->listed.getD e.on false=true:=by
 unfold Region.ready
 simp only[Z4,Zp,XW,Ye]
 constructor
 .
  rintro⟨hlt,h1,h2⟩;have h3:ops[i]? = some ops[i]:=by simp[hlt]
  simp only[h3,YR,YT] at h2;have hil:i<listed.size:=by omega
  refine⟨hlt,by simp[Array.getD,hil] at h1 ⊢;exact h1,fun e he hb=>?_⟩
  rw[Array.all_eq_true] at h2;obtain⟨q,hq,rfl⟩:=Array.mem_iff_getElem.1 (Array.mem_toList_iff.1 he);have:=h2 q hq;simp only[hb,Bool.not_true,Bool.false_or] at this;exact this
 rintro⟨hlt,h1,h2⟩
 have h3:ops[i]? = some ops[i]:=by simp[hlt]
 have hil:i<listed.size:=by omega
 refine⟨hlt,by simp[Array.getD,hil] at h1 ⊢;exact h1,?_⟩
 simp only[h3,YR,YT]
 rw[Array.all_eq_true]
 intro q hq
 simp only[Yd,Ye]
 cases hb:Region.binds .any (ops[i].after[q]) with
 | false=>exact .inl rfl
 | true=>exact .inr (h2 _ (by simp) hb)
theorem EU {ops:Array Oper}{F:Fence}{n k2:Nat}{Q:Exit->Act->World->Prop}(hback : ∀ (i:Nat) o,ops.toList[i]? = some o -> ∀ e∈o.after.toList,Region.binds .any e=true->e.on<i)
  (hord : ∀ i,k2<=i->i<ops.size -> ∀ j,j<i->((bK ops.toList []).getD i 0).testBit j=true) :
  ∀ (c m fuel:Nat) (listed:Array Bool) (a:Act) (w:World),m+c=ops.size->k2<=m->listed.size=ops.size->(∀ j,j<ops.size->listed.getD j false=decide (j<m))->c<=fuel ->
   wpOpsIn F n P ops Q (List.range' m c) a w->wpAnyIn F n P .any ops Q fuel listed a w:=by
 intro c
 induction c with
 | zero =>
  intro m fuel listed a w hm hk hsz hl hf h;have hr:Region.ready .any ops listed=[]:=by
   rw[List.eq_nil_iff_forall_not_mem];intro i hi;obtain⟨h1,h2,_⟩:=(mq hsz).1 hi;rw[hl i h1] at h2
   simp at h2;omega
  cases fuel with
  | zero=>exact⟨hr,h⟩
  | succ fuel=>exact⟨fun _=>h,fun i hi=>by rw[hr] at hi;cases hi⟩
 | succ c ih =>
  intro m fuel listed a w hm hk hsz hl hf h;have hlt:m<ops.size:=by omega
  cases fuel with
  | zero=>omega
  | succ fuel =>
   rw[Y0,wpOpsIn_cons] at h;refine⟨fun hr=>?_,fun i hi=>?_⟩
   .
    exfalso
    have:m∈Region.ready .any ops listed:=(mq hsz).2 ⟨hlt,by rw[hl m hlt];simp,fun e he hb=>by
     have:=hback m ops[m] (by simp[hlt]) e he hb
     rw[hl e.on (by omega)];simpa using this⟩
    rw[hr] at this;cases this
   obtain⟨h1,h2,h3⟩:=(mq hsz).1 hi;rw[hl i h1] at h2;have hmi:m<=i:=by simp at h2;omega
   have e:i=m:=by
    by_cases q:i=m
    .
     exact q
    exfalso
    have:=pg (L:=ops.toList) (X:=fun k=>k<m) (fun k o ho hk e he hb=>by have:=hback k o ho e he hb;omega) i ops[i] (by simp[h1]) (fun e he hb=>by
     have h4:=h3 e he hb;have h5:=hback i ops[i] (by simp[h1]) e he hb
     rw[hl e.on (by omega)] at h4
     simpa using h4) m (hord i om h1 m om)
    omega
   subst e;refine wpOpIn_mono (fun a' w' h'=>ih (i+1) fuel _ a' w' om om (by simp[hsz]) (fun j hj=>?_) om h') h
   by_cases q:j=i
   .
    subst q;have hil:j<listed.size:=by omega
    simp[Array.getD,hil]
   rw[getD_set_ne false (Ne.symm q),hl j hj]
   by_cases q2:j<i
   .
    simp[q2];omega
   have : ¬ j<i+1:=by omega
   simp[q2,this]
def jZ (C:Con) (o:Oper):Bool:=o.guard.isNone&&(match aT C o.op with | .writes=>false|_=>true) && !rZ o.op
theorem yE {o:Oper}(h:jZ C o=true):o.guard=none/\aT C o.op ≠ .writes/\rZ o.op=false:=by
 simp only[jZ,XW,Zb,Ye] at h
 refine⟨h.1.1,fun e=>?_,h.2⟩
 have:=h.1.2
 rw[e] at this;cases this
theorem U9 [Glob P] {W:Words}{op:Op}{xs:List D}{h:H}{b b':Nat}(hc:aT C op ≠ .writes):aN P W C op xs h b=aN P W C op xs h b':=by
 unfold aN
 split<;>first
  | rfl
  | (exfalso;exact hc rfl)
  | skip
 have hb:C.bs=false:=by
  cases hb:C.bs with
  | false=>rfl
  | true=>exact absurd (by simp[aT,hb]) hc
 simp only[hb,Ym,Y9]
theorem Rl [Glob P] {W:Words}{L:List Oper}{b b' i:Nat}{o:Oper}{ev:Operand->D}{t:Nat->D}{n:Nat}{h:H}(hq:jZ C o=true) :
  aM P W C L b i o n ev t h=aM P W C L b' i o n ev t h:=by
 obtain⟨h1,h2,_⟩:=yE hq
 simp only[aM,h1,aL]
 split
 .
  rfl
 rw[U9 (b:=b+i) (b':=b'+i) h2]
theorem GH [Glob P] {W:Words}{L:List Oper}{b i:Nat}{o:Oper}{s:S}(hq:jZ C o=true):(bu P W C L b i o s).h=s.h:=by
 rw[jP]
 exact ug (yE hq).2.1
theorem Qu {L:List Oper}{x y:Oper}(hx:jZ C x=true) (hy:jZ C y=true) (hs:fU L x y=true):qV C L x y=true:=by
 simp only[fU,XW] at hs
 simp only[qV,XW,Ye]
 refine⟨hs,?_⟩
 have h1:=(yE hx).2.1
 have h2:=(yE hy).2.1
 revert h1 h2
 generalize aT C x.op=a
 generalize aT C y.op=c
 intro h1 h2
 cases a<;>cases c<;>first|rfl|(exact absurd rfl h1)|(exact absurd rfl h2)
theorem zK [Glob P] {W:Words}{L:List Oper}{b:Nat}:∀ (l:List Nat) (s:S),(∀ i∈l,∀ o,L[i]? = some o->jZ C o=true)->(l.foldl (aJ P W C L b) s).h=s.h
 | [],s,_=>rfl
 | i::l,s,h=>by
  simp only[YO];rw[zK l _ fun k hk=>h k (by simp[hk])]
  unfold aJ
  cases hi:L[i]? with
  | none=>rfl
  | some o=>exact GH (h i (by simp) o hi)
theorem zM [Glob P] {W:Words}{L:List Oper}{b b' m:Nat}{d:Option Tmp}{res:D}{h':H}{sq:S}:∀ (l:List Nat) (s:S),l.Pairwise (· < ·) ->
  (∀ i∈l,∀ o,L[i]? = some o->jZ C o=true/\(∀ z,d=some z->z ∉ looks L o/\o.dst≠some z)/\(∀ j∈l,i<=j -> ∀ y,L[j]? = some y -> ∀ z∈looks L o,y.dst≠some z)
   /\ aM P W C L b i o sq.n sq.ev sq.t h'=((aM P W C L b i o sq.n sq.ev sq.t sq.h).1,h',(aM P W C L b i o sq.n sq.ev sq.t sq.h).2.2)) ->
  l.foldl (aJ P W C L b) s=sq->sq.ok ->
  l.foldl (aJ P W C L b') { n:=s.n,t:=s.put d res,h:=h',nx:=m,ok:=True,e:=s.e }={ n:=sq.n,t:=sq.put d res,h:=h',nx:=m,ok:=True,e:=sq.e }
 | [],s,_,_,hf,_=>by
  simp only[ZG] at hf ⊢;rw[hf]
 | i::l,s,hp,hh,hf,hok=>by
  simp only[YO] at hf ⊢;have hp':=Y2.1 hp
  cases hi:L[i]? with
  | none =>
   have e : ∀ c u,aJ P W C L c u i=u:=fun c u=>by simp only[aJ,hi]
   rw[e] at hf ⊢;exact zM l s hp'.2 (fun k hk o ho=>by
    obtain⟨q1,q2,q3,q4⟩:=hh k (by simp[hk]) o ho
    exact⟨q1,q2,fun j hj=>q3 j (by simp[hj]),q4⟩) hf hok
  | some o =>
   have e : ∀ c u,aJ P W C L c u i=bu P W C L c i o u:=fun c u=>by simp only[aJ,hi]
   obtain⟨q1,q2,q3,q4⟩:=hh i (by simp) o hi
   have hT : ∀ z∈looks L o,sq.t z=s.t z:=by
    intro z hz;rw[<- hf];have:=keeps (P:=P) (W:=W) (C:=C) (L:=L) (b:=b) (z:=z) (i::l) s (fun k hk y hy=>by
     rcases YK.1 hk with rfl|hk'
     .
      exact q3 k (by simp) (XY _) y hy z hz
     exact q3 k (by simp[hk']) (Nat.le_of_lt (hp'.1 k hk')) y hy z hz)
    simpa only[YO] using this
   have hn:sq.n=s.n/\sq.h=s.h:=by
    constructor
    .
     rw[<- hf];have : ∀ (l:List Nat) (u:S),(l.foldl (aJ P W C L b) u).n=u.n:=by
      intro l
      induction l with
      | nil=>intro u;rfl
      | cons k l ih =>
       intro u;simp only[YO];rw[ih];unfold aJ
       split
       .
        exact exec1_n.1
       rfl
     rw[this,e];exact exec1_n.1
    rw[<- hf,zK l _ fun k hk o ho=>(hh k (by simp[hk]) o ho).1,e];exact GH q1
   have e1:aM P W C L b i o s.n s.ev s.t h'=((aM P W C L b i o s.n s.ev s.t s.h).1,h',(aM P W C L b i o s.n s.ev s.t s.h).2.2):=by
    have:=q4;rw[hn.1,hn.2,vO (s:=sq) (s':=s) hT,vO (s:=sq) (s':=s) hT] at this;exact this
   have e2 : ∀ c,aM P W C L c i o s.n (S.ev { n:=s.n,t:=s.put d res,h:=h',nx:=m,ok:=True,e:=s.e }) (s.put d res) h'=aM P W C L b i o s.n s.ev s.t h':=by
    intro c;rw[Rl (b:=c) (b':=b) q1];refine vO (s:={ n:=s.n,t:=s.put d res,h:=h',nx:=m,ok:=True,e:=s.e }) (s':=s) fun z hz=>?_
    show s.put d res z=s.t z
    cases hd:d with
    | none=>rfl
    | some y=>exact upd_ne _ _ _ _ fun e=>(q2 y hd).1 (by rw[<- e];exact hz)
   have hok1:(bu P W C L b i o s).ok:=by rw[e] at hf;exact rC (by rw[hf];exact hok)
   have hp1:(aM P W C L b i o s.n s.ev s.t s.h).2.2:=by rw[jP] at hok1;exact hok1.2
   have key:bu P W C L b' i o { n:=s.n,t:=s.put d res,h:=h',nx:=m,ok:=True,e:=s.e }={ n:=(bu P W C L b i o s).n,t:=(bu P W C L b i o s).put d res,h:=h',nx:=m,ok:=True,e:=(bu P W C L b i o s).e }:=by
    rw[jP,jP];simp only[e2,e1]
    congr 1
    .
     show S.put _ o.dst _=S.put _ d res
     cases hod:o.dst with
     | none=>rfl
     | some x =>
      cases hd:d with
      | none=>rfl
      | some y =>
       have hne:x≠y:=fun e=>(q2 y hd).2 (by rw[hod,e])
       funext z
       simp only[S.put,upd]
       by_cases h1:z=x
       .
        have:z≠y:=fun e=>hne (h1 ▸ e)
        simp[h1,hne]
       simp[h1]
    exact propext ⟨fun _=>trivial,fun _=>⟨trivial,hp1⟩⟩
   rw[e,key];rw[e] at hf;exact zM l _ hp'.2 (fun k hk o ho=>by
    obtain⟨q1,q2,q3,q4⟩:=hh k (by simp[hk]) o ho
    exact⟨q1,q2,fun j hj=>q3 j (by simp[hj]),q4⟩) hf hok
structure Eg (C:Con) (ops:Array Oper) (k1 k2:Nat):Prop where
 le:k2<=ops.size
 back : ∀ (i:Nat) o,ops.toList[i]? = some o -> ∀ e∈o.after.toList,Region.binds .any e=true->e.on<i
 ord : ∀ i,k2<=i->i<ops.size -> ∀ j,j<i->((bK ops.toList []).getD i 0).testBit j=true
 quiet : ∀ (i:Nat) o,i<k2->i≠k1->((bK ops.toList []).getD k1 0).testBit i=false->ops.toList[i]? = some o->jZ C o=true
 comm : ∀ (i j:Nat) x y,i<k2->j<i->i≠k1->j≠k1->ops.toList[j]? = some x->ops.toList[i]? = some y->((bK ops.toList []).getD i 0).testBit j=true\/iB C ops.toList x y=true
 call : ∀ (i:Nat) x y,i<k2->i≠k1->ops.toList[i]? = some x->ops.toList[k1]? = some y->((bK ops.toList []).getD k1 0).testBit i=true\/fU ops.toList x y=true
 late : ∀ (i j:Nat) x y,i<=j->j<k2->i≠k1->j≠k1->ops.toList[i]? = some x->ops.toList[j]? = some y -> ∀ z∈looks ops.toList x,y.dst≠some z
def todoQ (k1 k2:Nat) (listed:Array Bool):List Nat:=(List.range k2).filter fun i=>i != k1 && !listed.getD i false
theorem mem_todoQ {k1 k2 i:Nat}{listed:Array Bool}:i∈todoQ k1 k2 listed ↔ i<k2/\i≠k1/\listed.getD i false=false:=by
 simp only[todoQ,Z4,Zp,XW,ZL,Ye]
theorem getD_set {listed:Array Bool}{i:Nat}(hi:i<listed.size) (k:Nat):(listed.setIfInBounds i true).getD k false=(listed.getD k false||k==i):=by
 by_cases e:k=i
 .
  subst e;simp[Array.getD,hi]
 rw[getD_set_ne false (Ne.symm e)]
 have:(k==i)=false:=by simpa using e
 rw[this,ZR]
def Closed (ops:Array Oper) (listed:Array Bool):Prop:=∀ (i:Nat) o,ops.toList[i]? = some o->listed.getD i false=true -> ∀ e∈o.after.toList,Region.binds .any e=true->listed.getD e.on false=true
theorem Closed.set {ops:Array Oper}{listed:Array Bool}(h:Closed ops listed) (hsz:listed.size=ops.size) {i:Nat}(hi:i∈Region.ready .any ops listed):Closed ops (listed.setIfInBounds i true):=by
 obtain⟨h1,h2,h3⟩:=(mq hsz).1 hi
 intro k o hk hkl e he hb
 rw[getD_set (by omega)] at hkl ⊢
 simp only[Yd,YE] at hkl ⊢
 rcases hkl with hkl|rfl
 .
  exact .inl (h k o hk hkl e he hb)
 have:o=ops[k]:=by simp[h1] at hk;exact hk.symm
 subst this
 exact .inl (h3 e he hb)
theorem BI [Glob P] {ops:Array Oper}{k1 k2 b n:Nat}{ro:Option Nat}{Q:Exit->Act->World->Prop}(Dle:k2<=ops.size) (Dcomm : ∀ (i j:Nat) x y,i<k2->j<i->i≠k1->j≠k1->ops.toList[j]? = some x->ops.toList[i]? = some y->((bK ops.toList []).getD i 0).testBit j=true\/iB C ops.toList x y=true) {listed:Array Bool}{s fin:S}{g:Mem}{a:Act}{w:World}(hsz:listed.size=ops.size) (hX:Closed ops listed)
  (hs:St P B s g a w) (hU : ∀ r,g.U r->r<b \/ ∃ j,listed.getD j false=true/\j<k2/\r=b+j) (hfin:(todoQ k1 k2 listed).foldl (aJ P (words P) C ops.toList b) s=fin) (hok:fin.ok) {i:Nat} (hi:i∈Region.ready .any ops listed) (hik:i<k2) (hne:i≠k1) {K:Act->World->Prop}
  (hK : ∀ g' a' w' s',St P B s' g' a' w'->Mono g g' w w'->(∀ r,g'.U r->r<b \/ ∃ j,(listed.setIfInBounds i true).getD j false=true/\j<k2/\r=b+j) ->
   (todoQ k1 k2 (listed.setIfInBounds i true)).foldl (aJ P (words P) C ops.toList b) s'=fin->(todoQ k1 k2 (listed.setIfInBounds i true)).length<(todoQ k1 k2 listed).length->K a' w'):wpOpIn (Fw ro) n P ops Q i K a w:=by
 obtain⟨hlt,h1f,hpred⟩:=(mq hsz).1 hi
 have h3L:ops.toList[i]? = some ops[i]:=by simp[hlt]
 have hmem:i∈todoQ k1 k2 listed:=mem_todoQ.2 ⟨hik,hne,h1f⟩
 obtain⟨pre,post,hsplit⟩:=List.append_of_mem hmem
 have hsorted:(todoQ k1 k2 listed).Pairwise (· < ·):=Z7 _ ZX
 rw[hsplit] at hsorted
 have hpre : ∀ j∈pre,j<i:=fun j hj=>(Zi.1 hsorted).2.2 j hj i (by simp)
 have hpost : ∀ j∈post,i<j:=fun j hj=>(Y2.1 (Zi.1 hsorted).2.1).1 j hj
 have hap : ∀ j∈pre,j≠i /\ ∀ x,ops.toList[j]? = some x->iB C ops.toList x ops[i]=true:=by
  intro j hj;have hjl:=hpre j hj;refine⟨om,fun x hx=>?_⟩
  have hjm:j∈todoQ k1 k2 listed:=by rw[hsplit];simp[hj]
  obtain⟨j1,j2,j3⟩:=mem_todoQ.1 hjm
  rcases Dcomm i j x _ hik hjl hne j2 hx h3L with h|h
  .
   exfalso
   have:=pg (L:=ops.toList) (X:=fun k=>listed.getD k false=true) hX i _ h3L hpred j h
   rw[j3] at this;cases this
  exact h
 have hnU : ∀ j,j∈todoQ k1 k2 listed -> ¬ g.U (b+j):=by
  intro j hjm hu;have hjn:=(mem_todoQ.1 hjm).2.2
  rcases hU _ hu with h|⟨k,hk,_,e⟩
  .
   omega
  have:k=j:=by omega
  subst this;rw[hjn] at hk;cases hk
 have hh0:s.h (b+i)=none:=by
  cases hq:s.h (b+i) with
  | none=>rfl
  | some bl =>
   obtain⟨blk,c',q1,_⟩:=hs.mem.blk _ bl hq;exact absurd (hs.mem.used _ (by rw[q1];simp)) (hnU i hmem)
 have hok0:=hok
 rw[<- hfin,hsplit,Zc,YO] at hok0
 have hok1:=rC hok0
 have hokp:(pre.foldl (aJ P (words P) C ops.toList b) s).ok:=by
  unfold aJ at hok1;rw[h3L] at hok1;exact zU hok1
 have hnam:reader ops[i]=true -> ∀ j∈pre,∀ d∈(aQ (ops[i]).op).map s.ev,named (b+j) (sd d)=false:=by
  intro hr j hj d hd;have hsg:sg d=true:=by
   have e:=wJ (P:=P) (W:=words P) (C:=C) (L:=ops.toList) (b:=b) (y:=ops[i]) pre s fun k hk x hx=>Aq ((hap k hk).2 x hx)
   have hrun' : ∀ u,aJ P (words P) C ops.toList b u i=bu P (words P) C ops.toList b i ops[i] u:=fun u=>by simp[aJ,hlt]
   rw[hrun',jP] at hok1;have h2:=hok1.2;obtain⟨r1,r2⟩:=yx hr;simp only[aM,r2,aL,Bw r1,Ym,Y9] at h2;have h4:=h2.2.1 trivial;rw[show (aQ (ops[i]).op).map (pre.foldl (aJ P (words P) C ops.toList b) s).ev=(aQ (ops[i]).op).map s.ev from e] at h4
   exact YQ.1 h4 d hd
  cases hq:named (b+j) (sd d) with
  | false=>rfl
  | true =>
   exfalso
   obtain⟨z,_,rfl⟩:=Y5.1 hd;exact hnU j (by rw[hsplit];simp[hj]) (Gd (bI hs z) hsg hq)
 have hrun:aJ P (words P) C ops.toList b s i=bu P (words P) C ops.toList b i ops[i] s:=by simp[aJ,hlt]
 have hfin':(pre++post).foldl (aJ P (words P) C ops.toList b) (bu P (words P) C ops.toList b i ops[i] s)=fin:=by
  rw[<- hrun,<- hfin,hsplit,Zc,Zc,YO,zL h3L pre s hap hnam hh0 hokp]
 have htodo:todoQ k1 k2 (listed.setIfInBounds i true)=pre++post:=by
  have e1:todoQ k1 k2 (listed.setIfInBounds i true)=(todoQ k1 k2 listed).filter (· != i):=by
   unfold todoQ;rw[List.filter_filter];refine Z6 fun k _=>?_
   rw[getD_set (by omega) k]
   by_cases e:k=i
   .
    simp[e]
   have e2:(k==i)=false:=by simpa using e
   have e3:(k != i)=true:=by simpa using e
   rw[e2,e3,ZR,Zu]
  rw[e1,hsplit,List.filter_append,List.filter_cons];have p1:pre.filter (· != i)=pre:=ZA.2 fun j hj=>by have:=hpre j hj;simp;omega
  have p2:post.filter (· != i)=post:=ZA.2 fun j hj=>by have:=hpost j hj;simp;omega
  simp[p1,p2]
 refine zT hs (b:=b) (N:=b+ops.size) (fun h=>?_) (fun r hr=>?_) (show ops[i]? = some ops[i] by simp[hlt]) (rC (by rw[hfin'];exact hok)) fun g' a' w' q1 q2 q3=>?_
 .
  rcases hU _ h with h|⟨k,hk,_,e⟩
  .
   omega
  have:k=i:=by omega
  subst this;rw[h1f] at hk;cases hk
 .
  have hle:=Dle
  rcases hU r hr with h|⟨k,_,h,rfl⟩<;>omega
 refine hK g' a' w' _ q1 q2 (fun r hr=>?_) (by rw[htodo];exact hfin') (by rw[htodo,hsplit];simp)
 rcases q3 r hr with h|rfl
 .
  rcases hU r h with h|⟨k,hk,hks,rfl⟩
  .
   exact .inl h
  exact .inr ⟨k,by rw[getD_set (by omega),hk];rfl,hks,rfl⟩
 exact .inr ⟨i,by rw[getD_set (by omega)];simp,hik,rfl⟩
theorem Bb [Glob P] {ops:Array Oper}{k1 k2 b n:Nat}{ro:Option Nat}{Q:Exit->Act->World->Prop}{w0:World}{g0:Mem}{fin:S}(Dle:k2<=ops.size) (Dback : ∀ (i:Nat) o,ops.toList[i]? = some o -> ∀ e∈o.after.toList,Region.binds .any e=true->e.on<i) (Dord : ∀ i,k2<=i->i<ops.size -> ∀ j,j<i->((bK ops.toList []).getD i 0).testBit j=true) (Dcomm : ∀ (i j:Nat) x y,i<k2->j<i->i≠k1->j≠k1->ops.toList[j]? = some x->ops.toList[i]? = some y->((bK ops.toList []).getD i 0).testBit j=true\/iB C ops.toList x y=true) :
  ∀ (fuel:Nat) (listed:Array Bool) (s:S) (g:Mem) (a:Act) (w:World),listed.size=ops.size->(k1<k2->listed.getD k1 false=true)->(∀ j,k2<=j->listed.getD j false=false)->(todoQ k1 k2 listed).length+(ops.size-k2)<=fuel->Closed ops listed ->
   St P B s g a w->Mono g0 g w0 w->(∀ r,g.U r->r<b \/ ∃ j,listed.getD j false=true/\j<k2/\r=b+j)->(todoQ k1 k2 listed).foldl (aJ P (words P) C ops.toList b) s=fin->fin.ok ->
   (∀ g' a' w',St P B fin g' a' w'->Mono g0 g' w0 w'->(∀ r,g'.U r->r<b+k2)->wpOpsIn (Fw ro) n P ops Q (List.range' k2 (ops.size-k2)) a' w') ->
   wpAnyIn (Fw ro) n P .any ops Q fuel listed a w:=by
 intro fuel
 induction fuel with
 | zero =>
  intro listed s g a w hsz hk1 hk2 hfu hX hs hm hU hfin hok hQ;have hnil:todoQ k1 k2 listed=[]:=X5 om;rw[hnil] at hfin;simp only[ZG] at hfin;subst hfin;have hle:=Dle;refine EU Dback Dord (ops.size-k2) k2 0 listed a w om (XY _) hsz (fun j hj=>?_) om (hQ g a w hs hm fun r hr=>by rcases hU r hr with h|⟨j,_,h,rfl⟩<;>omega)
  by_cases q:j<k2
  .
   rw[Y1 q]
   by_cases e:j=k1
   .
    rw[e];exact hk1 (by omega)
   cases hl:listed.getD j false with
   | true=>rfl
   | false=>have:=mem_todoQ.2 ⟨q,e,hl⟩;rw[hnil] at this;cases this
  rw[Y6 q];exact hk2 j (by omega)
 | succ fuel ih =>
  intro listed s g a w hsz hk1 hk2 hfu hX hs hm hU hfin hok hQ;have hle:=Dle
  cases hnil:todoQ k1 k2 listed with
  | nil =>
   rw[hnil] at hfin;simp only[ZG] at hfin;subst hfin;refine EU Dback Dord (ops.size-k2) k2 (fuel+1) listed a w om (XY _) hsz (fun j hj=>?_) om (hQ g a w hs hm fun r hr=>by rcases hU r hr with h|⟨j,_,h,rfl⟩<;>omega)
   by_cases q:j<k2
   .
    rw[Y1 q]
    by_cases e:j=k1
    .
     rw[e];exact hk1 (by omega)
    cases hl:listed.getD j false with
    | true=>rfl
    | false=>have:=mem_todoQ.2 ⟨q,e,hl⟩;rw[hnil] at this;cases this
   rw[Y6 q];exact hk2 j (by omega)
  | cons i0 l0 =>
   have hi0:i0∈todoQ k1 k2 listed:=by rw[hnil];simp
   obtain⟨a1,a2,a3⟩:=mem_todoQ.1 hi0;have hsorted:(todoQ k1 k2 listed).Pairwise (· < ·):=Z7 _ ZX;rw[hnil] at hsorted;have hmin:=(Y2.1 hsorted).1;refine⟨fun hr=>?_,fun i hi=>?_⟩
   .
    exfalso
    have:i0∈Region.ready .any ops listed:=(mq hsz).2 ⟨om,a3,fun e he hb=>by
     have hlt:=Dback i0 ops[i0] (by simp) e he hb
     cases hl:listed.getD e.on false with
     | true=>rfl
     | false =>
      have hne:e.on≠k1:=fun q=>by rw[q,hk1 (by omega)] at hl;cases hl
      have:=mem_todoQ.2 ⟨show e.on<k2 by omega,hne,hl⟩
      rw[hnil] at this
      rcases YK.1 this with h|h
      .
       omega
      have:=hmin _ h;omega⟩
    rw[hr] at this;cases this
   obtain⟨hlt,h1f,hpred⟩:=(mq hsz).1 hi;have hik:i<k2:=by
    by_cases q:i<k2
    .
     exact q
    exfalso
    have:=pg (L:=ops.toList) (X:=fun k=>listed.getD k false=true) hX i ops[i] (by simp[hlt]) hpred i0 (Dord i om hlt i0 om)
    rw[a3] at this;cases this
   have hne:i≠k1:=fun q=>by rw[q,hk1 (by omega)] at h1f;cases h1f
   refine BI Dle Dcomm hsz hX hs hU hfin hok hi hik hne fun g' a' w' s' q1 q2 q3 q4 q5=>?_
   refine ih _ s' g' a' w' (by simp[hsz]) (fun hq=>by rw[getD_set (by omega),hk1 hq];rfl) (fun j hj=>?_) (by omega) (hX.set hsz hi) q1 (hm.trans q2) q3 q4 hok hQ
   rw[getD_set (by omega),hk2 j hj]
   have:(j==i)=false:=by simp;omega
   rw[this];rfl
theorem Gh {ops:Array Oper}{listed:Array Bool}(hsz:listed.size=ops.size) (hback : ∀ (i:Nat) o,ops.toList[i]? = some o -> ∀ e∈o.after.toList,Region.binds .any e=true->e.on<i) (hr:Region.ready .any ops listed=[]) :
  ∀ k,k<ops.size->listed.getD k false=true:=by
 intro k
 induction k using Nat.strongRecOn with
 | _ k ih =>
  intro hk
  cases hl:listed.getD k false with
  | true=>rfl
  | false =>
   exfalso
   have:k∈Region.ready .any ops listed:=(mq hsz).2 ⟨hk,hl,fun e he hb=>by
    have h1:=hback k ops[k] (by simp) e he hb
    exact ih e.on h1 om⟩
   rw[hr] at this;cases this
theorem wI [Glob P] {W:Words}{L:List Oper}{b:Nat}:∀ (l:List Nat) (u:S),(l.foldl (aJ P W C L b) u).n=u.n/\(l.foldl (aJ P W C L b) u).e=u.e:=by
 intro l
 induction l with
 | nil=>intro u;exact⟨rfl,rfl⟩
 | cons k l ih =>
  intro u;simp only[YO];rw[(ih _).1,(ih _).2];unfold aJ
  split
  .
   exact⟨exec1_n.1,by unfold bu;split<;>rfl⟩
  exact⟨rfl,rfl⟩
def uQ (P:Program) [Glob P] (f:FuncId) (args:List D) (h:H) (n:Nat) (E:Env) (R:D->H->Nat->Prop):Prop :=
 bV P f=true /\ ∀ (w:World) (g:Mem) (vs:List Value),HM P h g w->(∀ r,g.U r->r<n)->E.p g w->Reps w g args vs ->
  CallsIn Fence.wide 0 P f vs.toArray w fun e w'=>∃ v g' res h' n',R res h' n'/\e = .returned v/\Rep w' g' res v/\HM P h' g' w'/\Mono g g' w w' /\ ∀ r,g'.U r->r<n'
theorem Reps.wkMid {w:World}{g:Mem}{a xs c:List D}{vs:List Value}(h:Reps w g (a++xs++c) vs):Reps w g (a++xs.map DL.wk++c) vs:=by
 refine⟨by simpa using h.1,fun i d x h1 h2=>?_⟩
 rw[Yz] at h1
 by_cases q:i<a.length
 .
  rw[YW q] at h1;exact h.2 i d x (by rw[Yz,YW q];exact h1) h2
 rw[YS (by omega)] at h1
 by_cases q2:i-a.length<xs.length
 .
  rw[YW (by simpa using q2),YJ] at h1
  cases hx:xs[i-a.length]? with
  | none=>rw[hx] at h1;cases h1
  | some y =>
   rw[hx] at h1;simp only[YR,Yh] at h1;subst h1;exact (h.2 i y x (by rw[Yz,YS (by omega),YW q2];exact hx) h2).wk
 rw[YS (by simp;omega),Zk] at h1
 exact h.2 i d x (by rw[Yz,YS (by omega),YS (by omega)];exact h1) h2
theorem RCt.i [Glob P] {f:FuncId}{a xs c:List D}{h:H}{n:Nat}{R:D->H->Nat->Prop}(k:RCt P f (a++xs.map wk++c) h n R):uQ P f (a++xs++c) h n Env.tt R :=
 ⟨k.1,fun w g vs h1 h2 _ h3=>k.2 w g vs h1 h2 h3.wkMid⟩
theorem NN [Glob P] {ops:Array Oper}{k1 k2 b n:Nat}{ro:Option Nat}{Q:Exit->Act->World->Prop}{w0:World}{g0:Mem}{sq:S}(Dc:Eg C ops k1 k2) (hlt1:k1<k2)
  {o1:Oper} {f:Operand} {args:Array Operand} {ts:Array TypeId} {fid:FuncId} {first caps xs:List D} {R:D->H->Nat->Prop}
  (ho:ops[k1]? = some o1) (hop:o1.op = .call { callee:=.value f,args:=args,argTypes:=ts }) (hg:o1.guard=none) (hd:bB sq.n o1.dst=true)
  (hf:sq.ev f = .fn (.func fid) first caps) (hxg:(args.toList.map sq.ev).all sg=true) (hx:(args.toList.map sq.ev).map sd=xs) {E:Env} (hE : ∀ g w,sq.e.p g w->E.p g w) (hct:uQ P fid (first++xs++caps) sq.h (b+k2) E R) (hok:sq.ok)
  (hst : ∀ res h' n',R res h' n' -> ∀ (i:Nat) o,i<k2->i≠k1->((bK ops.toList []).getD k1 0).testBit i=false->ops.toList[i]? = some o ->
   aM P (words P) C ops.toList b i o sq.n sq.ev sq.t h'=((aM P (words P) C ops.toList b i o sq.n sq.ev sq.t sq.h).1,h',(aM P (words P) C ops.toList b i o sq.n sq.ev sq.t sq.h).2.2))
  (hQ : ∀ res h' n',R res h' n' -> ∀ g' a' w',St P B { n:=sq.n,t:=sq.put o1.dst res,h:=h',nx:=n'+ops.size,ok:=True,e:=sq.e } g' a' w'->Mono g0 g' w0 w'->(∀ r,g'.U r->r<n'+k2)->wpOpsIn (Fw ro) n P ops Q (List.range' k2 (ops.size-k2)) a' w') :
  ∀ (fuel:Nat) (listed:Array Bool) (s:S) (g:Mem) (a:Act) (w:World),listed.size=ops.size->listed.getD k1 false=false->(∀ j,k2<=j->listed.getD j false=false)->(todoQ k1 k2 listed).length+1+(ops.size-k2)<=fuel->Closed ops listed ->
   St P B s g a w->Mono g0 g w0 w->(∀ r,g.U r->r<b \/ ∃ j,listed.getD j false=true/\j<k2/\r=b+j)->(todoQ k1 k2 listed).foldl (aJ P (words P) C ops.toList b) s=sq ->
   wpAnyIn (Fw ro) n P .any ops Q fuel listed a w:=by
 intro fuel
 have hle:=Dc.le
 induction fuel with
 | zero=>intro listed s g a w hsz hk1 hk2 hfu;omega
 | succ fuel ih =>
  intro listed s g a w hsz hk1 hk2 hfu hX hs hm hU hfin;refine⟨fun hr=>?_,fun i hi=>?_⟩
  .
   exfalso
   have:=Gh hsz Dc.back hr k1 om;rw[hk1] at this;cases this
  obtain⟨hlt,h1f,hpred⟩:=(mq hsz).1 hi;have hik:i<k2:=by
   by_cases q:i<k2
   .
    exact q
   exfalso
   have:=pg (L:=ops.toList) (X:=fun k=>listed.getD k false=true) hX i ops[i] (by simp[hlt]) hpred k1 (Dc.ord i om hlt k1 om)
   rw[hk1] at this;cases this
  by_cases hne:i=k1
  .
   subst hne;have ho':ops.toList[i]? = some o1:=by rw[Zh];exact ho
   have hoi:ops[i]=o1:=by
    have:ops[i]? = some ops[i]:=by simp[hlt]
    rw[ho] at this;exact (Z8 this).symm
   have hslot : ∀ j∈todoQ i k2 listed,∀ x,ops.toList[j]? = some x->((bK ops.toList []).getD i 0).testBit j=false/\fU ops.toList x o1=true:=by
    intro j hj x hxj;obtain⟨j1,j2,j3⟩:=mem_todoQ.1 hj;have hnb:((bK ops.toList []).getD i 0).testBit j=false:=by
     cases q:((bK ops.toList []).getD i 0).testBit j with
     | false=>rfl
     | true =>
      have:=pg (L:=ops.toList) (X:=fun k=>listed.getD k false=true) hX i ops[i] (by simp[hlt]) hpred j q
      rw[j3] at this;cases this
    rcases Dc.call j x o1 j1 j2 hxj ho' with h|h
    .
     rw[hnb] at h;cases h
    exact⟨hnb,h⟩
   have hlk:=wJ (P:=P) (W:=words P) (C:=C) (L:=ops.toList) (b:=b) (y:=o1) (todoQ i k2 listed) s fun j hj x hxj=>(hslot j hj x hxj).2
   rw[hfin,hop] at hlk;simp only[aQ,Yb,YP] at hlk;have hsqh:sq.h=s.h:=by
    rw[<- hfin];exact zK _ _ fun j hj o ho=>Dc.quiet j o (mem_todoQ.1 hj).1 (mem_todoQ.1 hj).2.1 (hslot j hj o ho).1 ho
   have hsqn:sq.n=s.n/\sq.e=s.e:=by rw[<- hfin];exact wI _ _
   rw[hsqh] at hct;rw[hlk.2] at hxg hx;have hf':s.ev f = .fn (.func fid) first caps:=by rw[<- hlk.1];exact hf
   have hU1 : ∀ r,g.U r->r<b+k2:=fun r hr=>by rcases hU r hr with h|⟨j,_,h,rfl⟩<;>omega
   unfold wpOpIn;rw[ho];simp only;have hw:Region.wanted o1 (yielded ops a.tmps)=true:=by simp[Region.wanted,hg]
   rw[X6 hw];have hdef : ∀ c,o1.op ≠ .defer c:=by intro c e;rw[e] at hop;cases hop
   have hsem:o1.semAt (Fw ro).round a.eval=execOp a.eval o1:=Oper.semAt_eq _ _ _ hdef;refine⟨fun _ _=>trivial,?_⟩
   rw[hsem];obtain⟨hbd,hct⟩:=hct;have hfr:=bI hs f;rw[hf'] at hfr;have hxr:=mg (lX hs args.toList) hxg;rw[hx] at hxr;generalize hv:a.eval f=vf at hfr
   cases hfr with|fn _ _ _ fs cs l1 l2 r1 r2 =>
   have hrun:(execOp a.eval o1).run P w = .ok (.enter fid (fs++args.map a.eval++cs)) w:=by
    simp[execOp,hop,resolve,Deferred.ofValue,hv,invoke,lZ hbd]
   rw[hrun,Oper.uponIn_enter];have e:fs++args.map a.eval++cs=(fs.toList++args.toList.map a.eval++cs.toList).toArray:=by apply Zl;simp
   rw[e];refine⟨fun h=>by simp[Fw,Fence.wide] at h,o7 ((hct w g _ hs.mem hU1 (hE g w (by rw[hsqn.2];exact hs.en)) (Reps.append (Reps.append ⟨by simpa using l1,fun i d x h1 h2=>r1 i d x h1 (by simpa using h2)⟩ hxr) ⟨by simpa using l2,fun i d x h1 h2=>r2 i d x h1 (by simpa using h2)⟩)).mono ?_)⟩
   rintro e w' ⟨v,g',res,h',n',hR,rfl,q1,q2,q3,q4⟩;have hs2:=gN hs q3 q2 (show bB s.n o1.dst=true by rw[<- hsqn.1];exact hd) q1 True
   have htodo:todoQ i k2 (listed.setIfInBounds i true)=todoQ i k2 listed:=by
    unfold todoQ;refine Z6 fun k _=>?_
    rw[getD_set (by omega) k]
    by_cases e:k=i
    .
     simp[e]
    have e2:(k==i)=false:=by simpa using e
    rw[e2,ZR]
   have hsorted:(todoQ i k2 listed).Pairwise (· < ·):=Z7 _ ZX;have hff:=zM (P:=P) (W:=words P) (C:=C) (L:=ops.toList) (b:=b) (b':=n') (m:=n'+ops.size) (d:=o1.dst) (res:=res) (h':=h') (sq:=sq) (todoQ i k2 listed) s hsorted (fun j hj o hoj=>by
    obtain⟨j1,j2,j3⟩:=mem_todoQ.1 hj;obtain⟨k3,k4⟩:=hslot j hj o hoj;refine⟨Dc.quiet j o j1 j2 k3 hoj,fun z hz=>?_,fun m hm hjm y hy=>Dc.late j m o y hjm (mem_todoQ.1 hm).1 j2 (mem_todoQ.1 hm).2.1 hoj hy,hst res h' n' hR j o j1 j2 k3 hoj⟩
    simp only[fU,XW,hz] at k4;refine⟨by simpa using k4.2,fun e=>?_⟩
    have:=k4.1;rw[e] at this
    simp at this) hfin hok
   refine Bb (B:=B) (g0:=g0) (w0:=w0) (b:=n') Dc.le Dc.back Dc.ord Dc.comm fuel (listed.setIfInBounds i true) { n:=s.n,t:=s.put o1.dst res,h:=h',nx:=n'+ops.size,ok:=True,e:=s.e } g' _ w' (by simp[hsz]) (fun _=>by rw[getD_set (by omega)];simp) (fun j hj=>?_) (by rw[htodo];omega) (hX.set hsz hi)
    ⟨hs2.sz,hs2.tm,hs2.mem,hs2.df,hs2.en,hs2.bd⟩ (hm.trans q3) (fun r hr=>.inl (q4 r hr)) (by rw[htodo];exact hff) trivial (hQ res h' n' hR)
   rw[getD_set (by omega),hk2 j hj]
   have:(j==i)=false:=by simp;omega
   rw[this];rfl
  refine BI Dc.le Dc.comm hsz hX hs hU hfin hok hi hik hne fun g' a' w' s' q1 q2 q3 q4 q5=>?_
  refine ih _ s' g' a' w' (by simp[hsz]) (by rw[getD_set (by omega),hk1];simp;exact fun h=>hne h.symm) (fun j hj=>?_) (by omega) (hX.set hsz hi) q1 (hm.trans q2) q3 q4
  rw[getD_set (by omega),hk2 j hj]
  have:(j==i)=false:=by simp;omega
  rw[this];rfl
def sI (C:Con) (L:List Oper) (k1 k2:Nat):Bool :=
 decide (k1<k2)&&decide (k2<=L.length)&&gF L
 && ((List.range L.length).all fun i=>decide (i<k2)||(List.range i).all fun j=>((bK L []).getD i 0).testBit j)
 && ((List.range k2).all fun i=>i==k1||((jZ C (L.getD i default)||((bK L []).getD k1 0).testBit i)&&(((bK L []).getD k1 0).testBit i||fU L (L.getD i default) (L.getD k1 default))
  && (List.range i).all fun j=>j==k1||((bK L []).getD i 0).testBit j||iB C L (L.getD j default) (L.getD i default)))
 && ((List.range k2).all fun j=>j==k1||(List.range (j+1)).all fun i=>i==k1||match (L.getD j default).dst with
  | none=>true
  | some d=>!(looks L (L.getD i default)).contains d)
theorem Vy {ops:Array Oper}{k1 k2:Nat}(h:sI C ops.toList k1 k2=true):k1<k2/\Eg C ops k1 k2:=by
 unfold sI at h
 simp only[XW,XX] at h
 obtain⟨⟨⟨⟨⟨h1,h2⟩,h3⟩,h4⟩,h5⟩,h6⟩:=h
 have hat : ∀ (i:Nat) o,ops.toList[i]? = some o->ops.toList.getD i default=o:=fun i o ho=>by simp only[List.getD,ho,YT]
 simp only[YQ,Zp,Yd,XW,YE,XX] at h4 h5 h6
 refine⟨h1,by simpa using h2,?_,?_,?_,?_,?_,?_⟩
 .
  intro i o ho e he hb;unfold gF at h3;simp only[YQ,Zp,Yd,Ye,XX] at h3;have:=h3 i (Ya.1 ho).1 e (by rw[hat i o ho];exact he)
  rcases this with h|h
  .
   rw[hb] at h;cases h
  exact h
 .
  intro i hi hs j hj
  rcases h4 i (by simpa using hs) with h|h
  .
   omega
  exact h j hj
 .
  intro i o hi hne hnb ho
  rcases h5 i hi with h|h
  .
   exact absurd h hne
  have:=h.1.1;rw[hat i o ho,hnb] at this;exact this.resolve_right (by simp)
 .
  intro i j x y hi hj hne hnj hx hy
  rcases h5 i hi with h|h
  .
   exact absurd h hne
  rcases h.2 j hj with (h|h)|h
  .
   exact absurd h hnj
  .
   exact .inl h
  rw[hat j x hx,hat i y hy] at h;exact .inr h
 .
  intro i x y hi hne hx hy
  rcases h5 i hi with h|h
  .
   exact absurd h hne
  have:=h.1.2;rw[hat i x hx,hat k1 y hy] at this;exact this
 intro i j x y hij hj hne hnj hx hy z hz e
 rcases h6 j hj with h|h
 .
  exact absurd h hnj
 rcases h i om with h|h
 .
  exact absurd h hne
 rw[hat i x hx,hat j y hy,e] at h
 simp at h
 exact h hz
theorem KH [Glob P] {ro:Option Nat}{Q:Exit->S->Prop}{s sq:S}{id:Nat}{ops:Array Oper}(k1 k2:Nat) {o1:Oper}{f:Operand}{args:Array Operand}{ts:Array TypeId}{fid:FuncId}{first caps xs:List D}{E:Env}(R:D->H->Nat->Prop)
  (hmix:P.follows .mixedOrders=true) (hD:sI C ops.toList k1 k2=true) (ho:ops[k1]? = some o1) (hop:o1.op = .call { callee:=.value f,args:=args,argTypes:=ts }) (hg:o1.guard=none)
  (hfin:((List.range k2).filter (· != k1)).foldl (aJ P (words P) C ops.toList s.nx) s=sq) (hok:sq.ok) (hd:bB sq.n o1.dst=true)
  (hf:sq.ev f = .fn (.func fid) first caps) (hxg:(args.toList.map sq.ev).all sg=true) (hx:(args.toList.map sq.ev).map sd=xs) (hE : ∀ g w,sq.e.p g w->E.p g w) (hct:uQ P fid (first++xs++caps) sq.h (s.nx+k2) E R)
  (hst : ∀ res h' n',R res h' n' -> ∀ (i:Nat) o,i<k2->i≠k1->((bK ops.toList []).getD k1 0).testBit i=false->ops.toList[i]? = some o ->
   aM P (words P) C ops.toList s.nx i o sq.n sq.ev sq.t h'=((aM P (words P) C ops.toList s.nx i o sq.n sq.ev sq.t sq.h).1,h',(aM P (words P) C ops.toList s.nx i o sq.n sq.ev sq.t sq.h).2.2))
  (hk : ∀ res h' n',R res h' n'->ax P ro ops k2 n' { n:=sq.n,t:=sq.put o1.dst res,h:=h',nx:=n'+ops.size,ok:=True,e:=sq.e } Q):DW P ro (.region id ops true) Q s:=by
 intro B g a w hs hU
 refine wpIn_region_any hmix ?_
 obtain⟨hs1,hm1⟩:=zY hs
 obtain⟨hlt,Dc⟩:=Vy hD
 have hle:=Dc.le
 have hrep : ∀ i,(Array.replicate ops.size false).getD i false=false:=by
  intro i
  by_cases h:i<ops.size<;>simp[Array.getD,h]
 have htodo:todoQ k1 k2 (Array.replicate ops.size false)=(List.range k2).filter (· != k1):=by
  unfold todoQ;exact Z6 fun i _=>by rw[hrep];simp
 have hlen:(todoQ k1 k2 (Array.replicate ops.size false)).length<k2:=by
  rw[htodo];have:=(List.length_filter_lt_length_iff_exists (p:=fun x=>x != k1) (l:=List.range k2)).2 ⟨k1,by simpa using hlt,by simp⟩
  simpa using this
 have hse:sq.e=s.e:=by rw[<- hfin];exact (wI _ _).2
 refine NN (B:=B) (C:=C) (g0:=g) (w0:=w) (b:=s.nx) (n:=0) Dc hlt ho hop hg hd hf hxg hx hE hct hok hst (fun res h' n' hR g' a' w' q1 q2 q3=>?_) ops.size _ s g a _ (by simp) (hrep k1) (fun j _=>hrep j) (by omega) (fun i o _ hi=>by rw[hrep] at hi;cases hi) hs1 hm1 (fun r hr=>.inl (hU r hr)) (by rw[htodo];exact hfin)
 have:=hk res h' n' hR B g g' a' w w' q1 q2 q3
 simp only[hse] at this
 exact this
theorem KI [Glob P] {ro:Option Nat}{Q:Exit->S->Prop}{s sq:S}{id:Nat}{ops:Array Oper}(k1 k2:Nat) {o1:Oper}{f:Operand}{args:Array Operand}{ts:Array TypeId}{fid:FuncId}{first caps xs:List D}(R:D->H->Nat->Prop)
  (hmix:P.follows .mixedOrders=true) (hD:sI C ops.toList k1 k2=true) (ho:ops[k1]? = some o1) (hop:o1.op = .call { callee:=.value f,args:=args,argTypes:=ts }) (hg:o1.guard=none)
  (hfin:((List.range k2).filter (· != k1)).foldl (aJ P (words P) C ops.toList s.nx) s=sq) (hok:sq.ok) (hd:bB sq.n o1.dst=true)
  (hf:sq.ev f = .fn (.func fid) first caps) (hxg:(args.toList.map sq.ev).all sg=true) (hx:((args.toList.map sq.ev).map sd).map wk=xs) (hct:RCt P fid (first++xs++caps) sq.h (s.nx+k2) R)
  (hst : ∀ res h' n',R res h' n' -> ∀ (i:Nat) o,i<k2->i≠k1->((bK ops.toList []).getD k1 0).testBit i=false->ops.toList[i]? = some o ->
   aM P (words P) C ops.toList s.nx i o sq.n sq.ev sq.t h'=((aM P (words P) C ops.toList s.nx i o sq.n sq.ev sq.t sq.h).1,h',(aM P (words P) C ops.toList s.nx i o sq.n sq.ev sq.t sq.h).2.2))
  (hk : ∀ res h' n',R res h' n'->ax P ro ops k2 n' { n:=sq.n,t:=sq.put o1.dst res,h:=h',nx:=n'+ops.size,ok:=True,e:=sq.e } Q):DW P ro (.region id ops true) Q s :=
 KH (E:=Env.tt) k1 k2 R hmix hD ho hop hg hfin hok hd hf hxg rfl (fun _ _ _=>trivial) (RCt.i (by rw[hx];exact hct)) hst hk
theorem Ud [Glob P] {t:TypeId}{x ix:D}{h h':H}(hn : ∀ r,named r x=true->h' r=h r):fG P t x ix h'=fG P t x ix h:=by
 unfold fG
 cases bf P t with
 | none=>rfl
 | some e =>
  cases x with
  | mrow r off len =>
   have:=hn r (by simp[named])
   cases ix with
   | v y=>cases y<;>first|rfl|simp only[this]
   | _=>rfl
  | list f rows =>
   cases ix with
   | v y=>cases y<;>rfl
   | _=>rfl
  | _=>cases ix<;>rfl
theorem yQ [Glob P] {W:Words}{L:List Oper}{b i:Nat}{o:Oper}{ev:Operand->D}{t:Nat->D}{n:Nat}{h h':H}(hg:o.guard=none)
  (hq:aT C o.op = .none\/(match o.op with | .load .. | .indexAddr .. => True|_=>False) /\ ∀ d∈(aQ o.op).map ev,∀ r,named r (sd d)=true->h' r=h r) :
  aM P W C L b i o n ev t h'=((aM P W C L b i o n ev t h).1,h',(aM P W C L b i o n ev t h).2.2):=by
 rcases hq with hq|⟨hc,hn⟩
 .
  exact BQ hq
 cases ho:o.op with
 | load ty x =>
  rw[ho] at hn;have:=hn (ev x) (by simp[aQ])
  simp only[aM,hg,aL,ho,bX,Ym,Y9,aQ,Yb,Yt,aN,still,lN,SE this]
 | indexAddr ty x y =>
  rw[ho] at hn;have:=hn (ev x) (by simp[aQ])
  simp only[aM,hg,aL,ho,bX,Ym,Y9,aQ,Yb,Yt,aN,still,Ud this]
 | _=>rw[ho] at hc;exact hc.elim
theorem Qj {k1 k2:Nat}(h:k1<k2):(List.range k2).filter (· != k1)=List.range' 0 k1++List.range' (k1+1) (k2-(k1+1)):=by
 have e:List.range k2=List.range' 0 k1++(k1::List.range' (k1+1) (k2-(k1+1))):=by
  rw[Y4];have:k2=k1+((k2-(k1+1))+1):=by omega
  conv=>lhs;rw[this]
  rw[<- Ze,Y0]
  simp
 rw[e,List.filter_append,List.filter_cons]
 have p1:(List.range' 0 k1).filter (· != k1)=List.range' 0 k1:=ZA.2 fun j hj=>by simp[List.mem_range'] at hj;simp;omega
 have p2:(List.range' (k1+1) (k2-(k1+1))).filter (· != k1)=List.range' (k1+1) (k2-(k1+1)):=ZA.2 fun j hj=>by simp[List.mem_range'] at hj;simp;omega
 simp[p1,p2]
theorem tY [Glob P] {W:Words}{ops:Array Oper}{b k1 k2:Nat}{s s1 sq:S}(h1:k1<k2) (h2:k2<=ops.toList.length) (he1:aF P W C ops.toList b 0 (ops.toList.take k1) s=s1)
  (he2:aF P W C ops.toList b (k1+1) ((ops.toList.drop (k1+1)).take (k2-(k1+1))) s1=sq):((List.range k2).filter (· != k1)).foldl (aJ P W C ops.toList b) s=sq:=by
 rw[Qj h1,Zc,<- zQ k1 0 s (by omega),<- zQ (k2-(k1+1)) (k1+1) _ (by omega)]
 simp only[X7,he1,he2]
def Ab (C:Con) (L:List Oper) (k2:Nat):Bool :=
 decide (k2<=L.length)&&gF L
 && ((List.range L.length).all fun i=>decide (i<k2)||(List.range i).all fun j=>((bK L []).getD i 0).testBit j)
 && ((List.range k2).all fun i=>jZ C (L.getD i default)&&(List.range i).all fun j=>((bK L []).getD i 0).testBit j||fU L (L.getD j default) (L.getD i default))
 && ((List.range k2).all fun j=>(List.range (j+1)).all fun i=>match (L.getD j default).dst with
  | none=>true
  | some d=>!(looks L (L.getD i default)).contains d)
theorem Vx {ops:Array Oper}{k2:Nat}(h:Ab C ops.toList k2=true):Eg C ops k2 k2:=by
 unfold Ab at h
 simp only[XW,XX] at h
 obtain⟨⟨⟨⟨h2,h3⟩,h4⟩,h5⟩,h6⟩:=h
 have hat : ∀ (i:Nat) o,ops.toList[i]? = some o->ops.toList.getD i default=o:=fun i o ho=>by simp only[List.getD,ho,YT]
 simp only[YQ,Zp,Yd,XW,XX] at h4 h5 h6
 have hord : ∀ i,k2<=i->i<ops.size -> ∀ j,j<i->((bK ops.toList []).getD i 0).testBit j=true:=by
  intro i hi hs j hj
  rcases h4 i (by simpa using hs) with h|h
  .
   omega
  exact h j hj
 refine⟨by simpa using h2,?_,hord,?_,?_,?_,?_⟩
 .
  intro i o ho e he hb;unfold gF at h3;simp only[YQ,Zp,Yd,Ye,XX] at h3;have:=h3 i (Ya.1 ho).1 e (by rw[hat i o ho];exact he)
  rcases this with h|h
  .
   rw[hb] at h;cases h
  exact h
 .
  intro i o hi hne _ ho;have:=(h5 i hi).1;rw[hat i o ho] at this;exact this
 .
  intro i j x y hi hj hne hnj hx hy
  rcases (h5 i hi).2 j hj with h|h
  .
   exact .inl h
  have q1:=(h5 i hi).1;have q2:=(h5 j (by omega)).1
  rw[hat i y hy] at q1;rw[hat j x hx] at q2;rw[hat j x hx,hat i y hy] at h;refine .inr ?_;unfold iB;rw[Qu q2 q1 h];rfl
 .
  intro i x y hi hne hx hy;have hlt:=(Ya.1 hy).1;exact .inl (hord k2 (XY _) (by simpa using hlt) i hi)
 intro i j x y hij hj hne hnj hx hy z hz e
 have h:=h6 j hj i (by omega)
 rw[hat i x hx,hat j y hy,e] at h
 simp at h
 exact h hz
theorem Vn [Glob P] {ro:Option Nat}{Q:Exit->S->Prop}{s sq:S}{id:Nat}{ops:Array Oper}(k2:Nat) (hmix:P.follows .mixedOrders=true) (hD:Ab C ops.toList k2=true)
  (hfin:aF P (words P) C ops.toList s.nx 0 (ops.toList.take k2) s=sq) (hok:sq.ok)
  (hk:ax P ro ops k2 s.nx { n:=sq.n,t:=sq.t,h:=sq.h,nx:=s.nx+ops.size,ok:=True,e:=sq.e } Q):DW P ro (.region id ops true) Q s:=by
 intro B g a w hs hU
 refine wpIn_region_any hmix ?_
 obtain⟨hs1,hm1⟩:=zY hs
 have Dc:=Vx hD
 have hle:=Dc.le
 have hrep : ∀ i,(Array.replicate ops.size false).getD i false=false:=by
  intro i
  by_cases h:i<ops.size<;>simp[Array.getD,h]
 have htodo:todoQ k2 k2 (Array.replicate ops.size false)=List.range' 0 k2:=by
  unfold todoQ;rw[ZA.2 (fun i hi=>by have:=Zp.1 hi;rw[hrep];simp;omega),Y4]
 have hfold:(List.range' 0 k2).foldl (aJ P (words P) C ops.toList s.nx) s=sq:=by
  rw[<- hfin,<- zQ k2 0 s (by simpa using hle)]
  rfl
 have hse:sq.e=s.e:=by rw[<- hfold];exact (wI _ _).2
 refine Bb (B:=B) (C:=C) (g0:=g) (w0:=w) (b:=s.nx) (n:=0) Dc.le Dc.back Dc.ord Dc.comm ops.size _ s g a _ (by simp) (fun h=>absurd h (Nat.lt_irrefl _)) (fun j _=>hrep j) (by rw[htodo];simp;omega) (fun i o _ hi=>by rw[hrep] at hi;cases hi) hs1 hm1 (fun r hr=>.inl (hU r hr)) (by rw[htodo];exact hfold) hok (fun g' a' w' q1 q2 q3=>?_)
 have:=hk B g g' a' w w' ⟨q1.sz,q1.tm,q1.mem,q1.df,q1.en,q1.bd⟩ q2 q3
 simp only[hse] at this
 exact this
end Go.DL
namespace Go.DL
open Go.RowKit
variable {P : Program} {ro : Option Nat} {Q : Exit -> S -> Prop}
def sD (C:Con) (L:List Oper) (k1 k2:Nat) (fl:List (Nat×Nat)):Bool:=(List.range k2).all fun i=>i==k1||((bK L []).getD k1 0).testBit i||((L.getD i default).guard.isNone&&(aT C (L.getD i default).op == .none||fl.any fun p=>p.1==i&&match (L.getD i default).op with
 | .load _ (.tmp t)=>t==p.2
 | .indexAddr _ (.tmp t) (.tmp u)=>t==p.2&&fl.any fun q=>q.1==i&&u==q.2
 | _=>false))
theorem wK [Glob P] {C:Con}{L:List Oper}{k1 k2:Nat}{fl:List (Nat×Nat)}(h:sD C L k1 k2 fl=true) {h':H}{sq:S}{b:Nat}(hk : ∀ p∈fl,∀ r,named r (sd (sq.t p.2))=true->h' r=sq.h r) (i:Nat) (o:Oper) (hi:i<k2) (hne:i≠k1) (hb:((bK L []).getD k1 0).testBit i=false) (ho:L[i]? = some o) :
  aM P (words P) C L b i o sq.n sq.ev sq.t h'=((aM P (words P) C L b i o sq.n sq.ev sq.t sq.h).1,h',(aM P (words P) C L b i o sq.n sq.ev sq.t sq.h).2.2):=by
 have hat:L.getD i default=o:=by simp only[List.getD,ho,YT]
 unfold sD at h
 have h1:=YQ.1 h i (Zp.2 hi)
 rw[hat,hb] at h1
 simp only[ZR,Yd,YE,XW,List.any_eq_true] at h1
 rcases h1 with h1|⟨hg,h1|⟨p,hp,h2,h3⟩⟩
 .
  exact absurd h1 hne
 .
  exact yQ (Zb.1 hg) (.inl h1)
 refine yQ (Zb.1 hg) (.inr ?_)
 cases hop:o.op with
 | load ty x =>
  rw[hop] at h3
  cases x with
  | tmp t =>
   simp only[YE] at h3;subst h3;refine⟨trivial,fun d hd r hr=>?_⟩
   simp only[aQ,Yb,Yt,Yq] at hd;subst hd;exact hk p hp r hr
  | _=>simp at h3
 | indexAddr ty x y =>
  rw[hop] at h3
  cases x with
  | tmp t =>
   cases y with
   | tmp u =>
    simp only[YE,XW,List.any_eq_true] at h3;obtain⟨h3,p2,hp2,h4,h5⟩:=h3;subst h3;subst h5;refine⟨trivial,fun d hd r hr=>?_⟩
    simp only[aQ,Yb,Yt,YK,ZF,or_false] at hd
    rcases hd with rfl|rfl
    .
     exact hk p hp r hr
    exact hk p2 hp2 r hr
   | _=>simp at h3
  | _=>simp at h3
 | _=>rw[hop] at h3;simp at h3
section
variable [Glob P] (C : Con) {s s1 sq : S} {id : Nat} {ops : Array Oper} {o : Oper} {i b : Nat} {x y : Code}
theorem kM (h:ax P ro ops 0 s.nx { n:=s.n,t:=s.t,h:=s.h,nx:=s.nx+ops.size,ok:=True,e:=s.e } Q):DW P ro (.region id ops false) Q s:=uA h
theorem bq (h:ax P ro ops 0 s.nx { n:=s.n,t:=s.t,h:=s.h,nx:=s.nx+ops.size,ok:=True,e:=s.e } (thenS (DW P ro y Q) Q)):DW P ro (.seq (.region id ops false) y) Q s:=ae (uA h)
theorem dr0 (k2:Nat) (hk:ax P ro ops k2 s.nx { n:=sq.n,t:=sq.t,h:=sq.h,nx:=s.nx+ops.size,ok:=True,e:=sq.e } Q) (hmix:P.follows .mixedOrders=true:=by exact ik) (hD:Ab C ops.toList k2=true:=by kernel_rfl)
  (hfin:aF P (words P) C ops.toList s.nx 0 (ops.toList.take k2) s=sq:=by simp only[X4,Yf,go_sem,ff];first|done|exact rfl) (hok:sq.ok:=by (try simp only[go_sem,ff]);all_goals exact ok0):DW P ro (.region id ops true) Q s:=Vn k2 hmix hD hfin hok hk
theorem dr1 (k1 k2:Nat) (fl:List (Nat×Nat)) {o1:Oper}{f:Operand}{args:Array Operand}{ts:Array TypeId}{fid:FuncId}{first caps xs:List D}{R:D->H->Nat->Prop}
  (hmix:P.follows .mixedOrders=true:=by exact ik) (hD:sI C ops.toList k1 k2=true:=by kernel_rfl) (hfl:sD C ops.toList k1 k2 fl=true:=by kernel_rfl) (ho:ops[k1]? = some o1:=by exact bC rfl) (hop:o1.op = .call { callee:=.value f,args:=args,argTypes:=ts }:=by exact rfl) (hg:o1.guard=none:=by exact rfl)
  (hfin:((List.range k2).filter (· != k1)).foldl (aJ P (words P) C ops.toList s.nx) s=sq:=by exact tY (by decide) (by decide) (by simp only[X8,X7,X4,Yf,S.put,Yr,Nat.reduceSub,Nat.reduceAdd,go_sem,ff];exact rfl) (by simp only[X8,X7,X4,Yf,S.put,Yr,Nat.reduceSub,Nat.reduceAdd,go_sem,ff];exact rfl)) (hok:sq.ok:=by (try simp only[go_sem,ff]);all_goals exact ok0) (hd:bB sq.n o1.dst=true:=by (try simp only[go_sem,ff]);all_goals (first|done|rfl|decide|simp))
  (hf:sq.ev f = .fn (.func fid) first caps:=by simp only[go_sem,ff];first|done|exact rfl) (hxg:(args.toList.map sq.ev).all sg=true:=by simp only[go_sem,ff]) (hx:((args.toList.map sq.ev).map sd).map wk=xs:=by simp only[go_sem,ff];first|done|exact rfl)
  (hct:RCt P fid (first++xs++caps) sq.h (s.nx+k2) R)
  (hkeep : ∀ res h' n',R res h' n' -> ∀ p∈fl,∀ r,named r (sd (sq.t p.2))=true->h' r=sq.h r)
  (hk : ∀ res h' n',R res h' n'->ax P ro ops k2 n' { n:=sq.n,t:=sq.put o1.dst res,h:=h',nx:=n'+ops.size,ok:=True,e:=sq.e } Q):DW P ro (.region id ops true) Q s :=
 (KI k1 k2 R hmix hD ho hop hg hfin hok hd hf hxg hx hct (fun res h' n' hr i o hi hne hb ho=>wK hfl (hkeep res h' n' hr) i o hi hne hb ho) hk)
theorem dr1q (k1 k2:Nat) (fl:List (Nat×Nat)) {o1:Oper}{f:Operand}{args:Array Operand}{ts:Array TypeId}{fid:FuncId}{first caps xs:List D}{R:D->H->Nat->Prop}
  (hmix:P.follows .mixedOrders=true:=by exact ik) (hD:sI C ops.toList k1 k2=true:=by kernel_rfl) (hfl:sD C ops.toList k1 k2 fl=true:=by kernel_rfl) (ho:ops[k1]? = some o1:=by exact bC rfl) (hop:o1.op = .call { callee:=.value f,args:=args,argTypes:=ts }:=by exact rfl) (hg:o1.guard=none:=by exact rfl)
  (hfin:((List.range k2).filter (· != k1)).foldl (aJ P (words P) C ops.toList s.nx) s=sq:=by exact tY (by decide) (by decide) (by simp only[X8,X7,X4,Yf,S.put,Yr,Nat.reduceSub,Nat.reduceAdd,go_sem,ff];exact rfl) (by simp only[X8,X7,X4,Yf,S.put,Yr,Nat.reduceSub,Nat.reduceAdd,go_sem,ff];exact rfl)) (hok:sq.ok:=by (try simp only[go_sem,ff]);all_goals exact ok0) (hd:bB sq.n o1.dst=true:=by (try simp only[go_sem,ff]);all_goals (first|done|rfl|decide|simp))
  (hf:sq.ev f = .fn (.func fid) first caps:=by simp only[go_sem,ff];first|done|exact rfl) (hxg:(args.toList.map sq.ev).all sg=true:=by simp only[go_sem,ff]) (hx:((args.toList.map sq.ev).map sd).map wk=xs:=by simp only[go_sem,ff];first|done|exact rfl)
  (hct:RCt P fid (first++xs++caps) sq.h (s.nx+k2) R)
  (hkeep : ∀ res h' n',R res h' n' -> ∀ p∈fl,∀ r,named r (sd (sq.t p.2))=true->h' r=sq.h r)
  (hk : ∀ res h' n',R res h' n'->ax P ro ops k2 n' { n:=sq.n,t:=sq.put o1.dst res,h:=h',nx:=n'+ops.size,ok:=True,e:=sq.e } (thenS (DW P ro y Q) Q)):DW P ro (.seq (.region id ops true) y) Q s :=
 ae (KI k1 k2 R hmix hD ho hop hg hfin hok hd hf hxg hx hct (fun res h' n' hr i o hi hne hb ho=>wK hfl (hkeep res h' n' hr) i o hi hne hb ho) hk)
theorem KN (k1 k2:Nat) (fl:List (Nat×Nat)) {o1:Oper}{f:Operand}{args:Array Operand}{ts:Array TypeId}{fid:FuncId}{first caps xs:List D}{R:D->H->Nat->Prop}{E:Env}
  (hmix:P.follows .mixedOrders=true:=by exact ik) (hD:sI C ops.toList k1 k2=true:=by kernel_rfl) (hfl:sD C ops.toList k1 k2 fl=true:=by kernel_rfl) (ho:ops[k1]? = some o1:=by exact bC rfl) (hop:o1.op = .call { callee:=.value f,args:=args,argTypes:=ts }:=by exact rfl) (hg:o1.guard=none:=by exact rfl)
  (hfin:((List.range k2).filter (· != k1)).foldl (aJ P (words P) C ops.toList s.nx) s=sq:=by exact tY (by decide) (by decide) (by simp only[X8,X7,X4,Yf,S.put,Yr,Nat.reduceSub,Nat.reduceAdd,go_sem,ff];exact rfl) (by simp only[X8,X7,X4,Yf,S.put,Yr,Nat.reduceSub,Nat.reduceAdd,go_sem,ff];exact rfl)) (hok:sq.ok:=by (try simp only[go_sem,ff]);all_goals exact ok0) (hd:bB sq.n o1.dst=true:=by (try simp only[go_sem,ff]);all_goals (first|done|rfl|decide|simp))
  (hf:sq.ev f = .fn (.func fid) first caps:=by simp only[go_sem,ff];first|done|exact rfl) (hxg:(args.toList.map sq.ev).all sg=true:=by simp only[go_sem,ff]) (hx:(args.toList.map sq.ev).map sd=xs:=by simp only[go_sem,ff];first|done|exact rfl)
  (hE : ∀ g w,sq.e.p g w->E.p g w) (hct:uQ P fid (first++xs++caps) sq.h (s.nx+k2) E R)
  (hkeep : ∀ res h' n',R res h' n' -> ∀ p∈fl,∀ r,named r (sd (sq.t p.2))=true->h' r=sq.h r)
  (hk : ∀ res h' n',R res h' n'->ax P ro ops k2 n' { n:=sq.n,t:=sq.put o1.dst res,h:=h',nx:=n'+ops.size,ok:=True,e:=sq.e } Q):DW P ro (.region id ops true) Q s :=
 (KH k1 k2 R hmix hD ho hop hg hfin hok hd hf hxg hx hE hct (fun res h' n' hr i o hi hne hb ho=>wK hfl (hkeep res h' n' hr) i o hi hne hb ho) hk)
theorem aO {s2:S}(hq:Q .normal s2.clear) (hi:i<=ops.size:=by first|decide|simp) (he:aF P (words P) C ops.toList b i (ops.toList.drop i) s=s2:=by simp only[X8,X7,S.put,go_sem,ff];first|done|exact rfl) (hok:s2.ok:=by (try simp only[go_sem,ff]);all_goals exact ok0) (hn:s.nx=b+ops.size:=by rfl):ax P ro ops i b s Q:=tJ hi he hok hn hq
end
section
variable [Glob P] (C : Con) {s s1 : S} {ops : Array Oper} {i b : Nat} {o : Oper} (k : Nat)
theorem zz {x:Operand}{d:D}{t:TypeId}{v:Value}(hq:Q (.panic [{ v:=.iface t v,recovered:=false }]) { n:=s1.n,t:=s1.t,h:=s1.h,nx:=b+k,ok:=True,e:=s1.e }) (hv : ∀ (w:World) (g:Mem) u,Rep w g d u->u = .iface t v)
  (hik:i<=k:=by omega) (ho:ops[k]? = some o:=by exact bC rfl) (hop:o.op = .panic x:=by exact rfl) (hg:o.guard=none:=by exact rfl)
  (he:aF P (words P) C ops.toList b i ((ops.toList.drop i).take (k-i)) s=s1:=by simp only[X8,X7,X4,Yf,S.put,Yr,Nat.reduceSub,go_sem,ff];first|done|exact rfl) (hok:s1.ok:=by (try simp only[go_sem,ff]);all_goals exact ok0) (hx:s1.ev x=d:=by simp only[go_sem,ff];first|done|exact rfl):ax P ro ops i b s Q:=OQ k hik ho hop hg he hok hx hv hq
theorem CZ {t u e:TypeId}{x y:Operand}{r off len r2 off2 len2:Nat}(m:Nat) {rows rows2:List (List D)}(hk:ax P ro ops (k+1) b { n:=s1.n,t:=s1.put o.dst (.i m),h:=upd s1.h r (some ⟨e,rows.take off++(rows2.drop off2).take m++rows.drop (off+m)⟩),nx:=s1.nx,ok:=True,e:=s1.e } Q)
  (z9:dw P C ops i k o b s s1:=by exact pos) (hop:o.op = .call { callee:=.builtin .copy,args:=#[x,y],argTypes:=#[t,u] }:=by exact rfl) (ht:P.underlying t=some (.slice e):=by kernel_rfl)
  (hx:s1.ev x = .mrow r off len:=by simp only[go_sem,ff];first|done|exact rfl) (hy:s1.ev y = .mrow r2 off2 len2:=by simp only[go_sem,ff];first|done|exact rfl) (hr:s1.h r=some ⟨e,rows⟩:=by simp only[go_sem,ff];first|done|exact rfl) (hr2:s1.h r2=some ⟨e,rows2⟩:=by simp only[go_sem,ff];first|done|exact rfl) (hm:m=min len2 len:=by first|omega|(simp;done)|(simp;omega)) (h0:0<m:=by first|omega|(simp;done)|(simp;omega)) (hlo:off<=rows.length:=by first|omega|(simp;done)|(simp;omega)) (hl:off2+m<=rows2.length:=by first|omega|(simp;done)|(simp;omega)):ax P ro ops i b s Q:=O0 k m z9 hop ht hx hy hr hr2 hm h0 hlo hl hk
theorem JP {t e:TypeId}{x:Operand}{r off len:Nat}{rows:List (List D)}(hk : ∀ c:Nat,len<=c->c<=maxLen->ax P ro ops (k+1) b { n:=s1.n,t:=s1.put o.dst (.i c),h:=s1.h,nx:=s1.nx,ok:=True,e:=Env.lim s1.e r (off+c) } Q)
  (z9:dw P C ops i k o b s s1:=by exact pos) (hop:o.op = .call { callee:=.builtin .cap,args:=#[x],argTypes:=#[t] }:=by exact rfl) (ht:P.underlying t=some (.slice e):=by kernel_rfl)
  (hx:s1.ev x = .mrow r off len:=by simp only[go_sem,ff];first|done|exact rfl) (hr:s1.h r=some ⟨e,rows⟩:=by simp only[go_sem,ff];first|done|exact rfl):ax P ro ops i b s Q:=O5 k z9 hop ht hx hr hk
theorem JE {t e:TypeId}{x hi:Operand}{r off len c:Nat}{E:Env}(m:Nat) {rows:List (List D)}(hE:s1.e=Env.lim E r c) (hc:off+m<=c) (hk:ax P ro ops (k+1) b { n:=s1.n,t:=s1.put o.dst (.mrow r off m),h:=s1.h,nx:=s1.nx,ok:=True,e:=s1.e } Q)
  (z9:dw P C ops i k o b s s1:=by exact pos) (hop:o.op = .slice t x none (some hi) none:=by exact rfl) (ht:P.underlying t=some (.slice e):=by kernel_rfl)
  (hx:s1.ev x = .mrow r off len:=by simp only[go_sem,ff];first|done|exact rfl) (hh:s1.ev hi = .i m:=by simp only[go_sem,ff];first|done|exact rfl) (hr:s1.h r=some ⟨e,rows⟩:=by simp only[go_sem,ff];first|done|exact rfl) (h0:0<m:=by first|omega|(simp;done)|(simp;omega)) (hl:off<rows.length:=by first|omega|(simp;done)|(simp;omega)):ax P ro ops i b s Q:=OP k z9 hop ht hx hh hr hE hc h0 hl hk
end
end Go.DL
namespace Go.DL
open Go.RowKit
variable {P : Program} {ro : Option Nat} {Q : Exit -> S -> Prop}
def w9 (P:Program) (K:World->Prop):List Deferred->World->Prop
 | [],w=>K w
 | d::ds,w=>∃ r w',d.target = .collected r/\(Instr.takeDeferred r).run P w = .ok [] w'/\w9 P K ds w'
theorem Sj {K:World->Prop}{B:Nat}{g:Mem}:∀ (ds:List Deferred) (w:World),Marks B g ds w ->
  (∀ w',w'.drawn=w.drawn->w'.os=w.os->w'.tape=w.tape->w'.output=w.output->w'.heap.size=w.heap.size->(∀ k:Nat,k<B->w'.heap[k]? = w.heap[k]?)->(∀ k:Nat,g.I k->w'.heap[k]? = w.heap[k]?)->(∀ (k:Nat) o,w.heap[k]? = some o->wZ o->w'.heap[k]? = w.heap[k]?)->K w') ->
  w9 P K ds w:=by
 intro ds
 induction ds with
 | nil =>
  intro w _ h;exact h w rfl rfl rfl rfl rfl (fun _ _=>rfl) (fun _ _=>rfl) (fun _ _ _ _=>rfl)
 | cons d ds ih =>
  rintro w ⟨⟨D,h1,h2,h3,h4,h5⟩,h6⟩ h;refine⟨D,w.putObj D (.deferred none),h1,run_takeDeferred h2,?_⟩;have hne : ∀ k,k≠D->(w.putObj D (.deferred none)).heap[k]? = w.heap[k]? := fun k hk=>World.putObj_heap_other hk
  have hms : ∀ ds:List Deferred,(∀ d'∈ds,d'.target ≠ .collected D)->Marks B g ds w->Marks B g ds (w.putObj D (.deferred none)):=by
   intro ds
   induction ds with
   | nil=>intro _ _;trivial
   | cons e ds ihd =>
    rintro hds ⟨⟨D',k1,k2,k3,k4,k5⟩,k6⟩;refine⟨⟨D',k1,?_,k3,k4,k5⟩,ihd (fun d' hd'=>hds d' (by simp[hd'])) k6⟩
    rw[hne D' (fun e'=>by subst e';exact hds e (by simp) k1)]
    exact k2
  refine ih _ (hms ds h3 h6) fun w' e0 e1 e2 e3 e4 e5 e6 e7=>?_
  refine h w' (by rw[e0];rfl) (by rw[e1];rfl) (by rw[e2];rfl) (by rw[e3];rfl) (by rw[e4];simp) (fun k hk=>?_) (fun k hk=>?_) (fun k o hk ho=>?_)
  .
   rw[e5 k hk,hne k (by omega)]
  .
   rw[e6 k hk,hne k (fun e=>by subst e;exact h5 hk)]
  have:k≠D:=fun e'=>by subst e';rw[h2] at hk;cases hk;exact ho
  rw[e7 k o (by rw[hne k this];exact hk) ho,hne k this]
theorem IG {F:Fence}{n:Nat}{K:World->Prop}:∀ (ds:List Deferred) (w:World) (fr:Frame) (cs:List Frame),fr.mode ≠ .run->fr.defers=ds->F.fn fr.fn->F.room (cs.length+1+n)->w9 P K ds w ->
  ∃ w',K w'/\StepsIn (Machine.fenced P F) P (lone fr cs w) (lone { fr with defers:=[] } cs w'):=by
 intro ds
 induction ds with
 | nil =>
  intro w fr cs hm hd hb hr h;refine⟨w,h,?_⟩;have:({ fr with defers:=[] }:Frame)=fr:=by cases fr;simp only at hd;subst hd;rfl
  rw[this];exact .refl _
 | cons d ds ih =>
  intro w fr cs hm hd hb hr ⟨r,w',htar,htake,hrest⟩;have h1:=step_collected (cs:=cs) hm hd htar htake;have i1:(lone fr cs w).fenced P F:=fenced_out hb hr hm hd (fun g hg=>by rw[htar] at hg;simp[Target.leads] at hg)
  obtain⟨w2,hk,hs⟩:=ih w' { fr with defers:=[]++ds } cs hm rfl hb hr hrest
  exact⟨w2,hk,StepsIn.trans (.one i1 h1) hs⟩
def LQ (P:Program) (fn:Func) (c₀:Frame) (cs:List Frame) (R:Ending->FrameMode->World->Prop):Exit->Act->List Frame->World->Prop
 | .normal,a,cs',w | .ret,a,cs',w=>∃ u',cs'={ c₀ with mode:=u' }::cs/\w9 P (fun w2=>∃ v,(results fn a.tmps).run P w2 = .ok v w2/\R (.returned v) u' w2) a.defers w
 | _,_,_,_=>False
theorem Wy {F:Fence}{n:Nat}{f:FuncId}{fn:Func}{c:Code}{args:Array Value}{u:FrameMode}{w:World}{R:Ending->FrameMode->World->Prop}
  (hf:P.funcs[f]? = some fn) (hb:fn.body=some c) (hF:F.fn f)
  (h : ∀ (c₀:Frame) (cs:List Frame),c₀.mode=u ->
   c.wpSIn F n P (LQ P fn c₀ cs R) { tmps:=args++Array.replicate (fn.ntmps-args.size) undef,defers:=[] } (c₀::cs) w) :
  CallsDIn F n P f args u w R:=by
 refine⟨hF,fun c₀ cs hu hroom=>?_⟩
 let b:Frame:={ (default:Frame) with fn:=f,kind:=.deferred,roundOf:=none }
 have henter:Frame.enter P f args .deferred =
   b.atR { tmps:=args++Array.replicate (fn.ntmps-args.size) undef,defers:=[] } [.code c]:=by
  simp[Frame.enter,Frame.atR,hf,hb,b]
 obtain⟨e,a',cs',w',hl,hq,harr⟩:=h c₀ cs hu b [] rfl rfl hF hroom
 rw[<- henter] at harr
 cases e with
 | normal =>
  obtain⟨u',rfl,hm⟩:=hq;obtain⟨w2,⟨v,hr,hR⟩,hs⟩:=IG (F:=F) (n:=n) a'.defers w' { b.atR a' [] with mode:=.returning } ({ c₀ with mode:=u' }::cs) (by simp) rfl hF hroom hm
  exact⟨.returned v,u',w2,_,hR,StepsIn.trans (StepsIn.trans harr (.one (fenced_calm (fr:=b.atR a' []) hF hroom rfl) (stepR_end rfl))) hs,rfl,rfl,rfl,rfl,fn,hf,hr⟩
 | ret =>
  obtain⟨u',rfl,hm⟩:=hq;obtain⟨todo,hs₀⟩:=harr.1 rfl;obtain⟨w2,⟨v,hr,hR⟩,hs⟩:=IG (F:=F) (n:=n) a'.defers w' { b.atR a' todo with mode:=.returning } ({ c₀ with mode:=u' }::cs) (by simp) rfl hF hroom hm
  exact⟨.returned v,u',w2,_,hR,StepsIn.trans hs₀ hs,rfl,rfl,rfl,rfl,fn,hf,hr⟩
 | _=>exact hq.elim
theorem MS {F:Fence}{n:Nat}{Q:Exit->Act->List Frame->World->Prop}{a:Act}{cs cs1:List Frame}{w:World}{id:Nat}{ops:Array Oper}{o:Oper}{v:Value}(hro:F.round=none) (ho:ops[0]? = some o) (hg:o.guard=none)
  (habout : ∀ f,o.about P w a.eval=some f->F.fn f) (hrun:(execOp a.eval o).run P w = .ok .recover w) (hlen:cs1.length=cs.length) (hrec:recoverD cs=some (v,cs1)\/recoverD cs=none/\v = .nilIface/\cs1=cs)
  (h:wpOpsIn F n P ops (fun e a' w'=>Q e a' cs1 w') (List.range' 1 (ops.size-1)) (a.put o.dst v) w):(Code.region id ops false).wpSIn F n P Q a cs w:=by
 intro b k hb hr hF hroom
 have hlt:0<ops.size:=(Yk.1 ho).1
 have hrange:List.range ops.size=0::List.range' 1 (ops.size-1):=by
  rw[Y4];have:ops.size=(ops.size-1)+1:=by omega
  conv=>lhs;rw[this]
  rw[Y0]
 have hw:Region.wanted o (yielded ops a.tmps)=true:=by simp[Region.wanted,hg]
 have h0:(lone (b.atR a (.inRegion ops (0::List.range' 1 (ops.size-1))::k)) cs w).fenced P F:=fenced_oper hF hroom ho habout
 have hgs:=stepGR_op (P:=P) (b:=b) (k:=k) (cs:=cs) (w:=w) (a:=a) (rest:=List.range' 1 (ops.size-1)) ho hw
 rw[hr,Oper.semAt_none] at hgs
 have hfin : ∀ v,(b.atR a (.inRegion ops (0::List.range' 1 (ops.size-1))::k)).finish v=b.atR (a.put o.dst v) (.inRegion ops (List.range' 1 (ops.size-1))::k):=by
  intro v;rw[Frame.finish_atR,ho];rfl
 have hk:(b.atR a (.inRegion ops (0::List.range' 1 (ops.size-1))::k)).kind = .deferred:=hb
 have htr:=tryRecover_deferred hk cs
 have hstep:step P (lone (b.atR a (.inRegion ops (0::List.range' 1 (ops.size-1))::k)) cs w) = .next (lone (b.atR (a.put o.dst v) (.inRegion ops (List.range' 1 (ops.size-1))::k)) cs1 w):=by
  refine step_lone_go ?_;rw[hgs,<- hfin];simp only[Frame.atR,hr] at htr ⊢
  rcases hrec with hrec|⟨hrec,rfl,rfl⟩
  .
   simp[stepG.apply,hrun,htr,hrec]
  simp[stepG.apply,hrun,htr,hrec]
 obtain⟨e,a',w',hq,harr⟩:=wp_opsIn _ _ w h b k cs1 (hr.trans hro.symm) hF (by rw[hlen];exact hroom)
 refine⟨e,a',cs1,w',hlen,hq,.of_steps (.head (fenced_calm hF hroom rfl) stepR_region ?_) harr⟩
 rw[hrange]
 exact .one h0 hstep
def Ee (P:Program) [Glob P] (fn:Func) (R:H->Nat->Prop) (e:Exit) (s:S):Prop:=match e with
 | .normal | .ret=>jb P s fn.results.toList /\ ∃ h' n',(∀ r,h' r=s.h r\/h' r=none)/\s.nx<=n'/\R h' n'
 | _=>False
theorem wO [Glob P] {f:FuncId}{fn:Func}{args:List D}{h:H}{n:Nat}{u u':FrameMode}{R:H->Nat->Prop}{id:Nat}{ops:Array Oper}{y:Code}{o:Oper}{ts:Array TypeId}{d:D}{v:Value}
  (hf:P.funcs[f]? = some fn) (hb:fn.body=some (.seq (.region id ops false) y)) (hbd:bV P f=true) (hn:args.length<=fn.ntmps) (ho:ops[0]? = some o) (hg:o.guard=none) (hop:o.op = .call { callee:=.builtin .recover,args:=#[],argTypes:=ts }) (hd:bB fn.ntmps o.dst=true)
  (hu:(u = .returning/\u' = .returning/\v = .nilIface)\/(u = .panicking [{ v:=v,recovered:=false }]/\u' = .panicking [{ v:=v,recovered:=true }])) (hv : ∀ (w:World) (g:Mem),Rep w g d v)
  (hw:(∀ r,n<=r->h r=none)->ax P none ops 1 n { n:=fn.ntmps,t:=S.put { n:=fn.ntmps,t:=fun i=>args.getD i .junk,h:=h,nx:=n+ops.size } o.dst d,h:=h,nx:=n+ops.size } (thenS (DW P none y (Ee P fn R)) (Ee P fn R))):sP P f args h n u u' R:=by
 refine⟨hbd,fun w g vs hm hU hr=>Wy (F:=Fence.wide) hf hb trivial fun c₀ cs hc₀=>wpSIn_seq ?_⟩
 have hs0:=qw (P:=P) (n:=fn.ntmps) hr hn hm (nx:=n+ops.size)
 have hs1:St P (Bot.of w.heap.size) { n:=fn.ntmps,t:=S.put { n:=fn.ntmps,t:=fun i=>args.getD i .junk,h:=h,nx:=n+ops.size } o.dst d,h:=h,nx:=n+ops.size } g (Act.put { tmps:=vs.toArray++Array.replicate (fn.ntmps-vs.toArray.size) undef,defers:=[] } o.dst v) w :=
  gN hs0 (Mono.refl _ _) hs0.mem hd (hv w g) True
 have hseg:=hw (uk hm hU) (Bot.of w.heap.size) g g _ w w hs1 (Mono.refl _ _) (fun r hr=>by have:=hU r hr;omega)
 have hlen:({ c₀ with mode:=u' }::cs).length=(c₀::cs).length:=rfl
 have hrecd:recoverD (c₀::cs)=some (v,{ c₀ with mode:=u' }::cs)\/recoverD (c₀::cs)=none/\v = .nilIface/\({ c₀ with mode:=u' }::cs:List Frame)=c₀::cs:=by
  rcases hu with⟨hu1,hu2,hv0⟩|⟨hu1,hu2⟩
  .
   right
   refine⟨by simp[recoverD,hc₀,hu1],hv0,?_⟩
   have:({ c₀ with mode:=u' }:Frame)=c₀:=by cases c₀;simp only at hc₀;subst hc₀;rw[hu1,hu2]
   rw[this]
  left
  simp[recoverD,hc₀,hu1,hu2]
 refine MS (F:=Fence.wide) rfl ho hg (fun _ _=>trivial) (by simp[execOp,hop,resolve,invoke,builtin]) hlen hrecd ?_
 have fin : ∀ (e:Exit) (a':Act) (w':World) (s':S) (g':Mem),Ee P fn R e s'->St P (Bot.of w.heap.size) s' g' a' w'->Mono g g' w w'->(∀ r,g'.U r->r<s'.nx) ->
   LQ P fn c₀ cs (fun e u2 w'=>∃ v g' h' n',e = .returned v/\u2=u'/\HM P h' g' w'/\Mono g g' w w'/\(∀ r,g'.U r->r<n')/\R h' n') e a' ({ c₀ with mode:=u' }::cs) w':=by
  intro e a' w' s' g' hq hs' hm' hU';have key:(jb P s' fn.results.toList /\ ∃ h' n',(∀ r,h' r=s'.h r\/h' r=none)/\s'.nx<=n'/\R h' n')->w9 P (fun w2=>∃ v,(results fn a'.tmps).run P w2 = .ok v w2 /\ ∃ v2 g' h' n',Ending.returned v = .returned v2/\u'=u'/\HM P h' g' w2/\Mono g g' w w2/\(∀ r,g'.U r->r<n')/\R h' n') a'.defers w':=by
   rintro⟨hro,h4,n4,k1,k2,k3⟩;obtain⟨ms,hms,hmk⟩:=hs'.df;have hms:a'.defers=ms:=by rw[hms];simp[Bot.of]
   rw[hms];refine Sj (P:=P) ms w' hmk fun w2 e0 e1 e2 e3 e4 e5 e6 e7=>?_
   have hs2:=hs'.marks e4 e6 e7;have mono2:Mono g g' w w2:=by
    refine⟨by rw[e1,hm'.os],by rw[e2,hm'.tape],by rw[e3,hm'.output],by rw[e4];exact hm'.size,by rw[e0];exact hm'.drawn,hm'.U,hm'.M,hm'.new,hm'.I,hm'.inew,fun k hk hne=>?_⟩
    rw[e5 k hk];exact hm'.same k hk hne
   have hs3:St P (Bot.of w.heap.size) { s' with e:=Env.tt } g' { a' with defers:=[] } w2:=⟨hs2.sz,hs2.tm,hs2.mem,Dfs.start (B:=Bot.of w.heap.size),trivial,hs2.bd⟩
   obtain⟨v3,p1,p2⟩:=tQ (fn:=fn) hs3 hro;exact⟨v3,p1,v3,g'.only h4,h4,n4,rfl,rfl,hs3.mem.only k1,mono2.trans only_mono,fun r hr=>YB (hU' r hr) k2,k3⟩
  cases e with
  | normal=>exact⟨u',rfl,key hq⟩
  | ret=>exact⟨u',rfl,key hq⟩
  | _=>exact hq.elim
 refine uX (F:=Fence.wide) ?_ _ _ _ hseg
 rintro e a' w' ⟨s',g',hq,hs',hm',hU',hx'⟩
 have hm':Mono g g' w w':=hm'.out
 cases e with
 | normal =>
  refine wpSIn_of_wpIn rfl (wpIn_mono (F:=Fence.wide) (hq (Bot.of w.heap.size) g' a' w' hs' hU') ?_);rintro e2 a2 w2 ⟨s2,g2,hq2,hs2,hm2,hU2,hx2⟩;have hx3:s'.e.x=none:=by rw[hx'];rfl
  rw[hx3] at hm2;exact fin e2 a2 w2 s2 g2 hq2 hs2 (hm'.trans hm2.out) hU2
 | ret=>exact fin .ret a' w' s' g' hq hs' hm' hU'
 | _=>exact hq.elim
section
variable [Glob P] {C : Con} {s s1 : S} {ops : Array Oper} {i b : Nat} {o : Oper}
end
end Go.DL
namespace Go.DL
open Go.RowKit
variable {P : Program} {ro : Option Nat} {Q : Exit -> S -> Prop}
theorem We [Glob P] {h:H}{g:Mem}{w:World}(hm:HM P h g w) {t u e:TypeId}{r off len:Nat}{rows:List (List D)}{y:D}{vx vy:Value}(ht:P.underlying t=some (.slice e)) (hr:h r=some ⟨e,rows⟩)
  (hx:Rep w g (.mrow r off len) vx) (hy:Rep w g y vy) (hl:(rowsOf y h).length=aV y) (hs:gK P u h y=true) (hrl : ∀ q∈rowsOf y h,q.length=P.cellsOf e) (h0:0<aV y) (hk:aV y<=len) (ho:off<=rows.length) (ty:TypeId) :
  ∃ g' w',(Builtin.copy_ #[t,u] ty #[vx,vy]).run P w = .ok (.int .i64 (aV y:Nat)) w'/\HM P (upd h r (some ⟨e,rows.take off++rowsOf y h++rows.drop (off+aV y)⟩)) g' w'/\Mono g g' w w' /\ ∀ q,g'.U q->g.U q:=by
 obtain⟨blk,c,h1,h2,h3,h4,h5⟩:=hm.blk r _ hr
 simp only at h1 h2 h3
 obtain⟨news,r1,l1,f1,_⟩:=vD hm hy h2 hl hrl hs
 cases hx with|mrow _ _ _ _ hxx hU hvv =>
 obtain⟨p1,p2⟩:=hvv _ _ _ h1
 rcases p2 with⟨e0,a,rfl⟩|⟨e0,b,rfl,rfl⟩
 .
  obtain⟨a',c',e1,e2,_⟩:=hxx
  cases e1
  omega
 obtain⟨cur,c1,c2,c3⟩:=Az hm (off:=off) hr h1 p1.2 r1 ho (by rw[hl];exact Yc (Nat.add_le_add_left hk _) p1.1)
 obtain⟨g',q1,q2,q3,q4,q5⟩:=c3 _ rfl
 rw[hl] at q3
 have hst:=run_storeCells_at P b (off*P.cellsOf e) e news 0 cur w c1 (by simpa using c2) r1.one
 simp only[Zv] at hst
 have hmin:Nat.min (aV y) len=aV y:=ZW hk
 refine⟨g',_,?_,q3,q4,q5⟩
 simp[Builtin.copy_,run_underlying ht,l1,jX h2,hmin,f1,hst,goInt]
theorem OY [Glob P] {C:Con}{s s1:S}{ops:Array Oper}{i b:Nat}(k:Nat) {o:Oper}{t u e:TypeId}{x y:Operand}{r off len m:Nat}{yd:D}{rows news:List (List D)}(z9:dw P C ops i k o b s s1)
  (hop:o.op = .call { callee:=.builtin .copy,args:=#[x,y],argTypes:=#[t,u] }) (ht:P.underlying t=some (.slice e))
  (hx:s1.ev x = .mrow r off len) (hy:s1.ev y=yd) (hr:s1.h r=some ⟨e,rows⟩)
  (hnw:rowsOf yd s1.h=news) (hm:aV yd=m) (hl:news.length=m) (hs:gK P u s1.h yd=true) (hrl : ∀ q∈news,q.length=P.cellsOf e) (h0:0<m) (hml:m<=len) (hlo:off<=rows.length)
  (hk:ax P ro ops (k+1) b { n:=s1.n,t:=s1.put o.dst (.i m),h:=upd s1.h r (some ⟨e,rows.take off++news++rows.drop (off+m)⟩),nx:=s1.nx,ok:=True,e:=s1.e } Q):ax P ro ops i b s Q:=by
 obtain⟨hik,ho,hg,he,hok,hd⟩:=z9
 subst hy
 subst hnw
 subst hm
 refine jD (C:=C) k (fun d h'=>d = .i (aV (s1.ev y):Nat)/\h'=upd s1.h r (some ⟨e,rows.take off++rowsOf (s1.ev y) s1.h++rows.drop (off+aV (s1.ev y))⟩)) hik ho hg (fun c e=>by rw[hop] at e;cases e) he hok hd (fun B g a w hst _=>?_) (fun d h' ⟨hy,hh⟩=>by subst hy;subst hh;exact hk)
 have hv:=bI hst x
 rw[hx] at hv
 obtain⟨g',w',q1,q2,q3,q4⟩:=We (u:=u) hst.mem ht hr hv (bI hst y) hl hs hrl h0 hml hlo o.type
 refine⟨_,_,⟨rfl,rfl⟩,_,g',w',.inl ?_,.v _,q2,q3,fun r hr=>.inl (q4 r hr)⟩
 obtain⟨od,oo,oty,op,oa,og⟩:=o
 simp only at hop
 subst hop
 simp[Go.BigFrame.execOp_builtin,Go.BigFrame.builtin_copy,q1]
def CO:D->Bool
 | .list _ _ | .mrow _ _ _=>true
 | _=>false
theorem TK {w:World}{g:Mem}{x:D}{v:Value}(h:CO x=true) (hr:Rep w g x v):∃ a c,v = .slice a (aV x) c:=by
 cases hr with
 | empty full a cap=>exact⟨a,cap,rfl⟩
 | list full rows ad cap=>exact⟨some ad,cap,rfl⟩
 | mrow r off len v hx=>obtain⟨a,c,e,_⟩:=hx;exact⟨a,c,e⟩
 | _=>cases h
theorem OZ [Glob P] {C:Con}{s s1:S}{ops:Array Oper}{i b:Nat}(k:Nat) {o:Oper}{t u e:TypeId}{x y:Operand}{xd yd:D}(z9:dw P C ops i k o b s s1)
  (hop:o.op = .call { callee:=.builtin .copy,args:=#[x,y],argTypes:=#[t,u] }) (ht:P.underlying t=some (.slice e)) (hp:0<P.cellsOf e)
  (hx:s1.ev x=xd) (hy:s1.ev y=yd) (hxs:CO xd=true)
  (hm:aV yd=0) (hl:(rowsOf yd s1.h).length=0) (hs:gK P u s1.h yd=true)
  (hk:ax P ro ops (k+1) b { n:=s1.n,t:=s1.put o.dst (.i 0),h:=s1.h,nx:=s1.nx,ok:=True,e:=s1.e } Q):ax P ro ops i b s Q:=by
 obtain⟨hik,ho,hg,he,hok,hd⟩:=z9
 subst hx
 subst hy
 refine jD (C:=C) k (fun d h'=>d = .i 0/\h'=s1.h) hik ho hg (fun c e=>by rw[hop] at e;cases e) he hok hd (fun B g a w hst _=>?_) (fun d h' ⟨hy,hh⟩=>by subst hy;subst hh;exact hk)
 have hnil:rowsOf (s1.ev y) s1.h=[]:=X5 hl
 obtain⟨ad,c,hv⟩:=TK hxs (bI hst x)
 obtain⟨news,r1,l1,f1,_⟩:=vD hst.mem (bI hst y) hp (by rw[hl,hm]) (by rw[hnil];intro q hq;cases hq) hs
 rw[hm] at l1 f1
 have hnews:news=[]:=by
  have:=r1.1;rw[hnil] at this;exact X5 (by simpa using this)
 subst hnews
 have hf:=f1 w rfl
 have hrun:(Builtin.copy_ #[t,u] o.type #[a.eval x,a.eval y]).run P w = .ok (.int .i64 0) w:=by
  rw[hv];have hmin:Nat.min 0 (aV (s1.ev x))=0:=Nat.zero_min _
  cases ad<;>simp[Builtin.copy_,run_underlying ht,l1,jX hp,hmin,hf,goInt,storeCells]
 refine⟨_,_,⟨rfl,rfl⟩,_,g,w,.inl ?_,.v _,hst.mem,Mono.refl _ _,fun r hr=>.inl hr⟩
 obtain⟨od,oo,oty,op,oa,og⟩:=o
 simp only at hop
 subst hop
 simp[Go.BigFrame.execOp_builtin,Go.BigFrame.builtin_copy,hrun]
theorem Ny [Glob P] {h:H}{g:Mem}{w:World}(hm:HM P h g w) {e:TypeId}{r off len i:Nat}{rows:List (List D)}{x:D}{va vs vx:Value}(hr:h r=some ⟨e,rows⟩) (hs:Rep w g (.mrow r off len) vs) (ha:Rep w g (.mptr r i 0) va) (hx:Rep w g x vx)
  (hi:i=rows.length) (hl:i<off+len) (hc:x.cells.length=P.cellsOf e) (h1:x.cells.all D.one=true) :
  ∃ g' w',(Instr.storeAt e va vx).run P w = .ok () w'/\HM P (upd h r (some ⟨e,rows++[x.cells]⟩)) g' w'/\Mono g g' w w' /\ ∀ q,g'.U q->g.U q:=by
 obtain⟨blk,c,p1,p2,p3,p4,p5⟩:=hm.blk r _ hr
 simp only at p1 p2 p3
 cases hs with|mrow _ _ _ _ hxx hU hvv =>
 obtain⟨q1,q2⟩:=hvv _ _ _ p1
 cases ha with|mptr _ _ _ _ hax _ hv =>
 obtain⟨hcm,b,rfl,rfl⟩:=hv _ _ _ p1
 obtain⟨k1,k2,k3⟩:=hx.cells h1
 have r1:RowsIn w g (P.cellsOf e) [x.cells] vx.cells.toList:=by
  refine⟨by simp[k3,hc],fun j row hj=>?_⟩
  cases j with
  | succ j=>simp at hj
  | zero =>
   simp at hj
   subst hj;refine⟨hc,fun j d hd=>?_⟩
   have hjl:j<vx.cells.toList.length:=by rw[<- k1.1];exact (Ya.1 hd).1
   exact⟨vx.cells.toList[j],by simp[hjl],k2 _ (by simp),k1.2 j d _ hd (by simp[hjl])⟩
 obtain⟨cur,c1,c2,c3⟩:=Az hm (off:=i) hr p1 hcm r1 om (by simp;omega)
 obtain⟨g',q1',q2',q3',q4',q5'⟩:=c3 _ rfl
 have hrows:rows.take i++[x.cells]++rows.drop (i+[x.cells].length)=rows++[x.cells]:=by
  rw[hi,YG,YU (by simp),YC]
 rw[hrows] at q3'
 have hst:=run_storeCells_at P b (i*P.cellsOf e) e vx.cells.toList 0 cur w c1 (by simpa using c2) k2
 simp only[Zv] at hst
 refine⟨g',_,?_,q3',q4',q5'⟩
 have hq3:vx.cells.size=P.cellsOf e:=by simpa [hc] using k3
 simp[Instr.storeAt,Instr.sureAddr,storeVar,jX p2,hq3,hst]
theorem OL [Glob P] {C:Con}{s s1:S}{ops:Array Oper}{i b:Nat}(k:Nat) {o:Oper}{e:TypeId}{x y z:Operand}{r off len n:Nat}{rows:List (List D)}{yd:D}(z9:dw P C ops i k o b s s1)
  (hop:o.op = .store e x y) (hx:s1.ev x = .mptr r n 0) (hy:s1.ev y=yd) (hz:s1.ev z = .mrow r off len) (hr:s1.h r=some ⟨e,rows⟩)
  (hn:n=rows.length) (hl:n<off+len) (hc:yd.cells.length=P.cellsOf e) (h1:yd.cells.all D.one=true)
  (hk:ax P ro ops (k+1) b { n:=s1.n,t:=s1.put o.dst (.v undef),h:=upd s1.h r (some ⟨e,rows++[yd.cells]⟩),nx:=s1.nx,ok:=True,e:=s1.e } Q):ax P ro ops i b s Q:=by
 obtain⟨hik,ho,hg,he,hok,hd⟩:=z9
 subst hy
 refine jD (C:=C) k (fun d h'=>d = .v undef/\h'=upd s1.h r (some ⟨e,rows++[(s1.ev y).cells]⟩)) hik ho hg (fun c e=>by rw[hop] at e;cases e) he hok hd (fun B g a w hst _=>?_) (fun d h' ⟨hy,hh⟩=>by subst hy;subst hh;exact hk)
 have hv:=bI hst z
 rw[hz] at hv
 have hp:=bI hst x
 rw[hx] at hp
 obtain⟨g',w',q1,q2,q3,q4⟩:=Ny hst.mem hr hv hp (bI hst y) hn hl hc h1
 refine⟨_,_,⟨rfl,rfl⟩,undef,g',w',.inr ⟨?_,rfl⟩,.v _,q2,q3,fun r hr=>.inl (q4 r hr)⟩
 obtain⟨od,oo,oty,op,oa,og⟩:=o
 simp only at hop
 subst hop
 simp[execOp,q1]
theorem tH [Glob P] {C:Con}{s s1:S}{ops:Array Oper}{i b:Nat}(k:Nat) {o:Oper}(d:D) (v:Value) (hik:i<=k) (ho:ops[k]? = some o) (hg:o.guard=none) (hdef : ∀ c,o.op ≠ .defer c)
  (he:aF P (words P) C ops.toList b i ((ops.toList.drop i).take (k-i)) s=s1) (hok:s1.ok) (hd:bB s1.n o.dst=true)
  (hrun : ∀ (B:Bot) (g:Mem) (a:Act) (w:World),St P B s1 g a w->(execOp a.eval o).run P w = .ok (.value v) w/\Rep w g d v)
  (hk:ax P ro ops (k+1) b { n:=s1.n,t:=s1.put o.dst d,h:=s1.h,nx:=s1.nx,ok:=True,e:=s1.e } Q):ax P ro ops i b s Q :=
 jD (C:=C) k (fun d' h'=>d'=d/\h'=s1.h) hik ho hg hdef he hok hd (fun B g a w hst _=>by
  obtain⟨h1,h2⟩:=hrun B g a w hst;exact⟨_,_,⟨rfl,rfl⟩,v,g,w,.inl h1,h2,hst.mem,Mono.refl _ _,fun r hr=>.inl hr⟩) (fun d' h' ⟨hy,hh⟩=>by subst hy;subst hh;exact hk)
theorem O1 [Glob P] {C:Con}{s s1:S}{ops:Array Oper}{i b:Nat}(k:Nat) {o:Oper}{t e:TypeId}{x:Operand}(z9:dw P C ops i k o b s s1)
  (hop:o.op = .call { callee:=.builtin .cap,args:=#[x],argTypes:=#[t] }) (ht:P.underlying t=some (.slice e))
  (hx:s1.ev x = .list true [])
  (hk:ax P ro ops (k+1) b { n:=s1.n,t:=s1.put o.dst (.i 0),h:=s1.h,nx:=s1.nx,ok:=True,e:=s1.e } Q):ax P ro ops i b s Q:=by
 obtain⟨hik,ho,hg,he,hok,hd⟩:=z9
 refine tH (C:=C) k (.i 0) (.int .i64 0) hik ho hg (fun c e=>by rw[hop] at e;cases e) he hok hd (fun B g a w hst=>?_) hk
 have hv:=bI hst x
 rw[hx] at hv
 obtain⟨ad,hv'⟩:∃ ad,a.eval x = .slice ad 0 0:=by
  generalize a.eval x=v at hv
  cases hv with
  | empty full ad cap hf hm=>have:=hf rfl;subst this;exact⟨ad,rfl⟩
  | list full rows ad cap sz cv hI hlc hf hmx=>have:=hf rfl;subst this;exact⟨some ad,rfl⟩
 refine⟨?_,.v _⟩
 obtain⟨od,oo,oty,op,oa,og⟩:=o
 simp only at hop
 subst hop
 simp[Go.BigFrame.execOp_builtin,Go.BigFrame.builtin_cap,hv',Builtin.cap_,run_underlying ht,goInt]
theorem OV [Glob P] {C:Con}{s s1:S}{ops:Array Oper}{i b:Nat}(k:Nat) {o:Oper}{t e:TypeId}{x:Operand}{r off len:Nat}(z9:dw P C ops i k o b s s1)
  {t':TypeId} (hop:o.op = .binOp .eql t x (.const (.slice none 0 0)) t') (ht:P.underlying t=some (.slice e))
  (hx:s1.ev x = .mrow r off len) (h0:0<len)
  (hk:ax P ro ops (k+1) b { n:=s1.n,t:=s1.put o.dst (.b false),h:=s1.h,nx:=s1.nx,ok:=True,e:=s1.e } Q):ax P ro ops i b s Q:=by
 obtain⟨hik,ho,hg,he,hok,hd⟩:=z9
 refine tH (C:=C) k (.b false) (.bool false) hik ho hg (fun c e=>by rw[hop] at e;cases e) he hok hd (fun B g a w hst=>?_) hk
 have hv:=bI hst x
 rw[hx] at hv
 obtain⟨ad,c,hv',hp⟩:∃ ad c,a.eval x = .slice (some ad) len c/\True:=by
  generalize a.eval x=v at hv
  cases hv with|mrow _ _ _ _ hxx hU hvv =>
  obtain⟨a',c',e1,e2,e3⟩:=hxx;obtain⟨p,rfl⟩:=e3 h0;exact⟨p,c',e1,trivial⟩
 have hrun:=Go.Lib.run_eql_slice_nil (P:=P) w t e (some ad) len c 0 0 ht
 have hc:a.eval (.const (.slice none 0 0)) = .slice none 0 0:=rfl
 refine⟨?_,.v _⟩
 obtain⟨od,oo,oty,op,oa,og⟩:=o
 simp only at hop
 subst hop
 simp[execOp,hv',hc,eqGuard,hrun]
def Env.both (E F:Env):Env:=⟨fun g w=>E.p g w/\F.p g w,E.x,fun P _ h g g' w w' hm k ⟨h1,h2⟩=>⟨E.st P h g g' w w' hm k h1,F.st P h g g' w w' hm k h2⟩⟩
def Env.capLt (r k:Nat):Env where
 p:=fun g w=>g.U r /\ ∀ blk c sz,g.M r=some (blk,c,sz)->c<k
 x:=none
 st:=fun P _ h g g' w w' hm q ⟨h2,h3⟩=>⟨q.U r h2,fun blk c' sz he=>by
  rcases q.M r h2 with e|e
  .
   exact h3 blk c' sz (e ▸ he)
  .
   rw[e] at he;cases he⟩
def RCtE (P:Program) [Glob P] (f:FuncId) (args:List D) (h:H) (n:Nat) (E:Env) (R:D->H->Nat->Env->Prop):Prop :=
 bV P f=true /\ ∀ (w:World) (g:Mem) (vs:List Value),HM P h g w->(∀ r,g.U r->r<n)->E.p g w->Reps w g args vs ->
  CallsIn Fence.wide 0 P f vs.toArray w fun e w'=>∃ v g' res h' n' E',R res h' n' E'/\e = .returned v/\Rep w' g' res v/\HM P h' g' w'/\Mono g g' w w'/\(∀ r,g'.U r->r<n')/\E'.p g' w'
theorem Qg [Glob P] {f:FuncId}{fn:Func}{c:Code}{args:List D}{h:H}{n:Nat}{E:Env}{R:D->H->Nat->Env->Prop}(hEx:E.x=none) (hf:P.funcs[f]? = some fn) (hb:fn.body=some c) (hbd:bV P f=true) (hn:args.length<=fn.ntmps)
  (hw:(∀ r,n<=r->h r=none)->DW P none c (fun e s=>(e = .normal\/e = .ret)/\jb P s fn.results.toList /\ ∃ h' n',(∀ r,h' r=s.h r\/h' r=none)/\s.nx<=n' /\ ∃ E':Env,(∀ g w w2,s.e.p g w->E'.p g w2)/\R (jH P fn.results.toList s) h' n' E') { n:=fn.ntmps,t:=fun i=>args.getD i .junk,h:=h,nx:=n,e:=E }):RCtE P f args h n E R:=by
 refine⟨hbd,fun w g vs hm hU hE hr=>?_⟩
 have hs:=qw (P:=P) (n:=fn.ntmps) hr hn hm (nx:=n)
 have hs:St P (Bot.of w.heap.size) { n:=fn.ntmps,t:=fun i=>args.getD i .junk,h:=h,nx:=n,e:=E } g _ w:=⟨hs.sz,hs.tm,hs.mem,hs.df,hE,hs.bd⟩
 refine callsIn_of_wp_marks (n:=0) hf hb trivial (wpIn_mono (F:=Fence.wide) (hw (uk hm hU) (Bot.of w.heap.size) g _ w hs hU) ?_)
 rintro e a' w' ⟨s',g',⟨he,ho,h',n',hh,hn',E',hE',hR⟩,hs',hm',hU',hx'⟩
 rw[show ({ n:=fn.ntmps,t:=fun i=>args.getD i .junk,h:=h,nx:=n,e:=E }:S).e.x=none from hEx] at hm'
 have hm':=hm'.out
 have hlast:LeavesInM Fence.wide 0 P fn a'.tmps (fun e w'=>∃ v g' res h' n' E',R res h' n' E'/\e = .returned v/\Rep w' g' res v/\HM P h' g' w'/\Mono g g' w w'/\(∀ r,g'.U r->r<n')/\E'.p g' w') a'.defers .returning w':=by
  refine zb (P:=P) a'.defers w' hs'.df.marks fun w2 e0 e1 e2 e3 e4 e5 e6 e7=>?_
  have hs2:=hs'.marks e4 e6 e7;obtain⟨v,h1,h2⟩:=tQ (fn:=fn) hs2 ho;have mono2:Mono g g' w w2:=by
   refine⟨by rw[e1,hm'.os],by rw[e2,hm'.tape],by rw[e3,hm'.output],by rw[e4];exact hm'.size,by rw[e0];exact hm'.drawn,hm'.U,hm'.M,hm'.new,hm'.I,hm'.inew,fun k hk hne=>?_⟩
   rw[e5 k hk];exact hm'.same k hk hne
  exact⟨v,h1,v,g'.only h',_,h',n',E',hR,rfl,h2.only,hs2.mem.only hh,mono2.trans only_mono,fun r hr=>YB (hU' r hr) hn',E'.st P _ _ _ _ _ hs2.mem only_mono (hE' _ _ _ hs'.en)⟩
 rcases he with rfl|rfl<;>exact hlast
theorem Qf [Glob P] {C:Con}{f:FuncId}{fn:Func}{args:List D}{h:H}{n:Nat}{E:Env}{R:D->H->Nat->Prop}{id0:Nat}{ops0:Array Oper}{id:Nat}{ops:Array Oper}{y:Code}(hEx:E.x=none) (k:Nat) {o:Oper}{fop:Operand}{ts:Array TypeId}{fid:FuncId}{caps:List D}{s0 s1:S}
  (hf:P.funcs[f]? = some fn) (hb:fn.body=some (.seq (.region id0 ops0 false) (.seq (.region id ops false) y))) (hbd:bV P f=true) (hn:args.length<=fn.ntmps)
  (hgn0 : ∀ o∈ops0.toList,o.guard=none) (he0:aF P (words P) C ops0.toList n 0 ops0.toList { n:=fn.ntmps,t:=fun i=>args.getD i .junk,h:=h,nx:=n+ops0.size,e:=Env.tt }=s0) (hok0:s0.ok)
  (ho:ops[k]? = some o) (hg:o.guard=none) (hop:o.op = .defer { callee:=.value fop,args:=#[],argTypes:=ts }) (hgn : ∀ o∈ops.toList.take k,o.guard=none)
  (he:aF P (words P) C ops.toList (n+ops0.size) 0 (ops.toList.take k) { n:=s0.n,t:=s0.t,h:=s0.h,nx:=n+ops0.size+ops.size,e:=E }=s1) (hok:s1.ok) (hd:bB s1.n o.dst=true) (hfv:s1.ev fop = .fn (.func fid) [] caps)
  (hw:(∀ r,n<=r->h r=none)->ax P none ops (k+1) (n+ops0.size) { n:=s1.n,t:=s1.put o.dst .junk,h:=s1.h,nx:=s1.nx,ok:=True,e:=s1.e } (thenS (DW P none y (sO P fn fid caps R)) (sO P fn fid caps R))):RCtE P f args h n E (fun d h' n' E'=>E'=Env.tt/\R d h' n'):=by
 refine⟨hbd,fun w g vs hm hU hE hr=>?_⟩
 refine CallsIn.mono (callsIn_of_wp_marks (R:=fun e w'=>∃ v g' res h' n',R res h' n'/\e = .returned v/\Rep w' g' res v/\HM P h' g' w'/\Mono g g' w w' /\ ∀ r,g'.U r->r<n') (n:=0) hf hb trivial (wpIn_seq (wpIn_region ?_))) (fun e w' ⟨v,g',res,h',n',q1,q2,q3,q4,q5,q6⟩=>⟨v,g',res,h',n',Env.tt,⟨rfl,q1⟩,q2,q3,q4,q5,q6,trivial⟩)
 have hs:=qw (P:=P) (n:=fn.ntmps) hr hn hm (nx:=n+ops0.size)
 have hrg:List.range ops0.size=List.range' 0 ops0.size++[]:=by rw[YC,Y4]
 rw[hrg]
 have e0:(ops0.toList.drop 0).take ops0.size=ops0.toList:=by rw[X7];exact Yp (by simp)
 refine Dl (ro:=none) (C:=C) (b:=n) ops0.size 0 _ g _ w hs (Mono.refl _ _) (fun r hr=>by have:=hU r hr;omega) (by omega) (by rw[e0];exact hgn0) (by rw[e0];exact he0 ▸ hok0) fun g1 a1 w1 hs1 hm1 hU1 hdf=>?_
 rw[e0] at hs1
 have hs1:St P (Bot.of w.heap.size) s0 g1 a1 w1:=he0 ▸ hs1
 have hnx:s0.nx=n+ops0.size:=by rw[<- he0];exact Dm _ _ _ _ _
 rw[<- hnx] at he hw
 exact K8 (C:=C) (E:=E) k ho hg hop hgn hEx (Env.later hm hm1 hE) he hok hd hfv (hw (uk hm hU)) hs1 hm1 (fun r hr=>by rw[hnx];have:=hU1 r hr;omega) hdf
section
variable [Glob P] {C : Con} {s s1 : S} {ops : Array Oper} {i b : Nat}
theorem O6 (k:Nat) {o:Oper}{f:Operand}{args:Array Operand}{ts:Array TypeId}{fid:FuncId}{first caps xs:List D}{E:Env}(R:D->H->Nat->Env->Prop) (hik:i<=k)
  (ho:ops[k]? = some o) (hop:o.op = .call { callee:=.value f,args:=args,argTypes:=ts }) (hg:o.guard=none)
  (he:aF P (words P) C ops.toList b i ((ops.toList.drop i).take (k-i)) s=s1) (hok:s1.ok) (hd:bB s1.n o.dst=true)
  (hf:s1.ev f = .fn (.func fid) first caps) (hxg:(args.toList.map s1.ev).all sg=true) (hx:(args.toList.map s1.ev).map sd=xs) (hct:RCtE P fid (first++xs++caps) s1.h (b+k) E R) (hE : ∀ g w,s1.e.p g w->E.p g w)
  (hk : ∀ res h' n' E',R res h' n' E'->ax P ro ops (k+1) n' { n:=s1.n,t:=s1.put o.dst res,h:=h',nx:=n'+ops.size,ok:=True,e:=Env.both s1.e E' } Q):ax P ro ops i b s Q:=by
 intro B g0 g a w0 w hs hm hU
 have hlt:k<ops.size:=(Yk.1 ho).1
 have hr:List.range' i (ops.size-i)=List.range' i (k-i)++(k::List.range' (k+1) (ops.size-(k+1))):=by
  have:ops.size-i=(k-i)+((ops.size-(k+1))+1):=by omega
  rw[this,<- Ze,Y0];have e1:i+(k-i)=k:=by omega
  rw[e1]
 rw[hr]
 refine kE (C:=C) (b:=b) (k-i) i s g a w hs hm hU (by omega) (by rw[he];exact hok) fun g1 a1 w1 hs1 hm1 hU1=>?_
 rw[he] at hs1
 have hU1 : ∀ r,g1.U r->r<b+k:=fun r hr=>by have:=hU1 r hr;omega
 have hse:s1.e=s.e:=by rw[<- he];exact kY _ _ _ _ _
 rw[wpOpsIn_cons]
 unfold wpOpIn
 rw[ho]
 simp only
 have hw:Region.wanted o (yielded ops a1.tmps)=true:=by simp[Region.wanted,hg]
 rw[X6 hw]
 have hdef : ∀ c,o.op ≠ .defer c:=by intro c e;rw[e] at hop;cases hop
 have hsem:o.semAt (Fw ro).round a1.eval=execOp a1.eval o:=Oper.semAt_eq _ _ _ hdef
 refine⟨fun _ _=>trivial,?_⟩
 rw[hsem]
 obtain⟨hbd,hct⟩:=hct
 have hfr:=bI hs1 f
 rw[hf] at hfr
 have hxr:=mg (lX hs1 args.toList) hxg
 rw[hx] at hxr
 generalize hv:a1.eval f=vf at hfr
 cases hfr with|fn _ _ _ fs cs l1 l2 r1 r2 =>
 have hrun:(execOp a1.eval o).run P w1 = .ok (.enter fid (fs++args.map a1.eval++cs)) w1:=by
  simp[execOp,hop,resolve,Deferred.ofValue,hv,invoke,lZ hbd]
 rw[hrun,Oper.uponIn_enter]
 have e:fs++args.map a1.eval++cs=(fs.toList++args.toList.map a1.eval++cs.toList).toArray:=by apply Zl;simp
 rw[e]
 refine⟨fun h=>by simp[Fw,Fence.wide] at h,o7 ((hct w1 g1 _ hs1.mem hU1 (hE _ _ hs1.en) (Reps.append (Reps.append ⟨by simpa using l1,fun i d x h1 h2=>r1 i d x h1 (by simpa using h2)⟩ hxr) ⟨by simpa using l2,fun i d x h1 h2=>r2 i d x h1 (by simpa using h2)⟩)).mono ?_)⟩
 rintro e w' ⟨v,g',res,h',n',E',hR,rfl,q1,q2,q3,q4,q5⟩
 have hs2:=gN hs1 q3 q2 hd q1 True
 have:=hk res h' n' E' hR B g0 g' (a1.put o.dst v) w0 w' ⟨hs2.sz,hs2.tm,hs2.mem,hs2.df,⟨hs2.en,q5⟩,hs2.bd⟩ (hm1.trans q3) (fun r hr=>by have:=q4 r hr;omega)
 rw[show (Env.both s1.e E').x=s.e.x by rw[<- hse];rfl] at this
 exact this
theorem zP {A B:Prop}{Hs:H->Prop}{Ns:Nat->Prop}{Es:Env->Prop}{R:H->Nat->Env->Prop}{n':Nat}(h':H) (E':Env) (hE:Es E') (hn:Ns n':=by first|exact XY _|omega) (hr:R h' n' E':=by (try simp only[go_sem,ff]);all_goals simp) (hh:Hs h':=by exact fun _=>.inl rfl)
  (ha:A:=by first|exact .inr rfl|exact .inl rfl|trivial|simp) (hb:B:=by simp only[go_sem,ff]):A/\B /\ ∃ h' n',Hs h'/\Ns n' /\ ∃ E',Es E'/\R h' n' E':=⟨ha,hb,h',n',hh,hn,E',hE,hr⟩
theorem Vp {c:Code}{E:Env}{r k m:Nat}{e:TypeId}{rows:List (List D)}{t:Nat->D}{h:H}{n nx:Nat}{ok:Prop}(hr:h r=some ⟨e,rows⟩) (hE : ∀ g w,E.p g w->(Env.capLt r k).p g w)
  (h0:m<k->DW P ro c Q ⟨n,t,h,nx,ok,Env.lim E r m⟩):DW P ro c Q ⟨n,t,h,nx,ok,Env.lim E r m⟩:=by
 intro B g a w hs hU
 obtain⟨blk,c0,h1,_⟩:=hs.mem.blk r _ hr
 have h2:=hs.en.2.2 _ _ _ h1
 have h3:=(hE g w hs.en.1).2 _ _ _ h1
 exact h0 om B g a w hs hU
theorem Dr {c:Code}{r:Nat}{e:TypeId}{rows:List (List D)}(k:Nat) (hr:s.h r=some ⟨e,rows⟩) (h:DW P ro c Q { n:=s.n,t:=s.t,h:=upd s.h r (some ⟨e,rows.take k⟩),nx:=s.nx,ok:=s.ok,e:=s.e }):DW P ro c Q s :=
 fun B g a w hs hU=>h B g a w ⟨hs.sz,hs.tm,hs.mem.shrink hr k,hs.df,hs.en,hs.bd⟩ hU
end
theorem Xp [Glob P] {h:H}{g:Mem}{w:World}(hm:HM P h g w) {t u e:TypeId}{kk:IntKind}{m b:Nat}(hb : ¬ g.U b) (ht:P.underlying t=some (.slice e)) (hu:P.underlying u=some (.int kk)) (hp:0<P.cellsOf e)
  (hz:aC P e=true) (h1z:(zeroCells P e).all D.one=true) (hdef:(zeroCells P e).length=P.cellsOf e) (hm0:0<m) (hby:m*P.bytesOf e<=140737488355328) (h63:m<=4611686018427387904) (ty:TypeId) :
  ∃ v g' w',(Builtin.append_ #[t,u] ty #[.slice none 0 0,.int .i64 m]).run P w = .ok v w'/\Rep w' g' (.mrow b 0 m) v/\HM P (upd h b (some ⟨e,List.replicate m (zeroCells P e)⟩)) g' w'/\Mono g g' w w' /\ ∀ q,g'.U q->g.U q\/q=b:=by
 obtain⟨i,hi,hs⟩:=si hp
 have hz':=hz
 unfold aC at hz'
 cases hzz:i.zero with
 | none=>simp[hi,hzz] at hz'
 | some z =>
 simp only[hi,hzz,Option.bind_some,YE] at hz'
 have hbyi:i.bytes=P.bytesOf e:=by simp[Program.bytesOf,hi]
 have hrep:RowsIn w g (P.cellsOf e) (List.replicate m (zeroCells P e)) (Builtin.zeroCells z.cells m).toList:=by
  refine⟨by simp[size_zeroCells,hz'],fun j row hj=>?_⟩
  obtain⟨hjl,hje⟩:=Ya.1 hj;simp only[List.length_replicate] at hjl;simp only[List.getElem_replicate] at hje;subst hje;refine⟨hdef,fun q d hq=>?_⟩
  obtain⟨hrz,hone,hcl⟩:=uU (P:=P) hi hzz w g h1z;have hql:q<P.cellsOf e:=by have:=(Ya.1 hq).1;omega
  refine⟨z.cells[q]!,?_,?_,?_⟩
  .
   simp only[Zh];have hlt:=uu hjl hql;unfold Builtin.zeroCells;simp only[Array.getElem?_map,hz'];rw[Array.getElem?_range,X6 hlt];simp only[YR];rw[ZE,Z0,Zw hql]
  .
   have hq':q<z.cells.size:=by omega
   rw[getElem!_pos z.cells q hq'];exact hone _ (by simp)
  have hq':q<z.cells.size:=by omega
  rw[getElem!_pos z.cells q hq'];exact hrz.2 q d _ hq (by simp[hq'])
 have hge:=grownCap_ge w m 0 e
 obtain⟨g',k1,k2,k3,k4⟩:=CS (h':=upd h b (some ⟨e,List.replicate m (zeroCells P e)⟩)) hm hb hrep hp hz' (upd_same _ _ _) (fun r hr=>.inl (upd_ne _ _ _ _ hr)) (grownCap w m 0 e) (by rw[List.length_replicate];exact hge) (by omega)
  (grownCap_le_maxLen _ _ _ _ (by simp only[maxLen];omega))
 rw[List.length_replicate] at k1 k2 k3
 have hap:(Builtin.append_ #[t,u] ty #[.slice none 0 0,.int .i64 m]).run P w = .ok (.slice (some ⟨w.heap.size,0,none⟩) m (grownCap w m 0 e))
   (w.drew.alloc (.cells ((Builtin.zeroCells z.cells m).toList.toArray++Builtin.zeroCells z.cells (grownCap w m 0 e-m)) e)):=by
  have e1 : ¬ (m<=0):=by omega
  have e1':m≠0:=by omega
  have e2:IntKind.i64.wrap (m:Int)=m:=by rw[IntKind.wrap_i64];omega
  have e3 : ¬ ((m:Int)<0):=by omega
  have e4 : ¬ (281474976710656<(m:Int)*(i.bytes:Int)):=by
   rw[hbyi];have e9:((m*P.bytesOf e:Nat):Int)=(m:Int)*(P.bytesOf e:Int):=by simp
   omega
  have e5 : ¬ (9223372036854775807<(m:Int)):=by omega
  have h48 : ¬ (281474976710656<Builtin.nextslicecap m 0*i.bytes):=by have:=growslice_fits (need:=m) (old:=0) (bytes:=i.bytes) hm0 (by rw[hbyi];exact hby);omega
  have e6 : ¬ (m*P.cellsOf e=0):=by
   intro h
   rcases Nat.mul_eq_zero.1 h with h|h<;>omega
  have e7 : ¬ (m*i.size=0):=by rw[hs];exact e6
  simp[Builtin.append_,run_underlying ht,run_underlying hu,sizeOf,typeInfo,zeroValue,hi,hzz,asInt,asIntOf,e1,e1',e2,e3,e4,e5,e7,h48,Question.forced,run_firstCells_none,newRow,grownCap]
 exact⟨_,g',_,hap,k1,k2,k3,k4⟩
section
variable [Glob P] {C : Con} {s s1 : S} {ops : Array Oper} {i b : Nat}
theorem O9 (k:Nat) {o:Oper}{t u e:TypeId}{kk:IntKind}{y:Operand}{m:Nat}(z9:dw P C ops i k o b s s1)
  (hop:o.op = .call { callee:=.builtin .append,args:=#[.const (.slice none 0 0),y],argTypes:=#[t,u] }) (ht:P.underlying t=some (.slice e)) (hu:P.underlying u=some (.int kk)) (hp:0<P.cellsOf e) (hz:aC P e=true) (h1z:(zeroCells P e).all D.one=true) (hdef:(zeroCells P e).length=P.cellsOf e)
  (hy:s1.ev y = .i m) (hm0:0<m) (hby:m*P.bytesOf e<=140737488355328) (h63:m<=4611686018427387904)
  (hk:ax P ro ops (k+1) b { n:=s1.n,t:=s1.put o.dst (.mrow (b+k) 0 m),h:=upd s1.h (b+k) (some ⟨e,List.replicate m (zeroCells P e)⟩),nx:=s1.nx,ok:=True,e:=s1.e } Q):ax P ro ops i b s Q:=by
 obtain⟨hik,ho,hg,he,hok,hd⟩:=z9
 refine jD (C:=C) k (fun d h'=>d = .mrow (b+k) 0 m/\h'=upd s1.h (b+k) (some ⟨e,List.replicate m (zeroCells P e)⟩)) hik ho hg (fun c e=>by rw[hop] at e;cases e) he hok hd (fun B g a w hst hbk=>?_) (fun d h' ⟨hy,hh⟩=>by subst hy;subst hh;exact hk)
 have hvy:=bI hst y
 rw[hy] at hvy
 have hvy:=hvy.v_inv
 obtain⟨v,g',w',q1,q2,q3,q4,q5⟩:=Xp hst.mem hbk ht hu hp hz h1z hdef hm0 hby h63 o.type
 refine⟨_,_,⟨rfl,rfl⟩,v,g',w',.inl ?_,q2,q3,q4,q5⟩
 have hc:a.eval (.const (.slice none 0 0)) = .slice none 0 0:=rfl
 obtain⟨od,oo,oty,op,oa,og⟩:=o
 simp only at hop
 subst hop
 simp[Go.BigFrame.execOp_builtin,Go.BigFrame.builtin_append,hvy,hc,q1]
theorem OO (k:Nat) {o:Oper}{t e:TypeId}{x hi:Operand}{r off len m:Nat}{rows:List (List D)}(z9:dw P C ops i k o b s s1)
  (hop:o.op = .slice t x none (some hi) none) (ht:P.underlying t=some (.slice e))
  (hx:s1.ev x = .mrow r off len) (hh:s1.ev hi = .i m) (hr:s1.h r=some ⟨e,rows⟩) (h0:0<m) (hl:off+m<=rows.length)
  (hk:ax P ro ops (k+1) b { n:=s1.n,t:=s1.put o.dst (.mrow r off m),h:=s1.h,nx:=s1.nx,ok:=True,e:=s1.e } Q):ax P ro ops i b s Q:=by
 obtain⟨hik,ho,hg,he,hok,hd⟩:=z9
 refine jD (C:=C) k (fun d h'=>d = .mrow r off m/\h'=s1.h) hik ho hg (fun c e=>by rw[hop] at e;cases e) he hok hd (fun B g a w hst _=>?_) (fun d h' ⟨hy,hh⟩=>by subst hy;subst hh;exact hk)
 have hv:=bI hst x
 rw[hx] at hv
 have hvh:=(bI hst hi)
 rw[hh] at hvh
 have hvh:=hvh.v_inv
 obtain⟨blk,c0,h1,h2,h3,h4,h5⟩:=hst.mem.blk r _ hr
 simp only at h2 h3
 generalize hvx:a.eval x=v at hv
 cases hv with|mrow _ _ _ _ hxx hU hvv =>
 obtain⟨p1,p2⟩:=hvv _ _ _ h1
 rcases p2 with⟨e0,_⟩|⟨e0,b0,rfl,rfl⟩
 .
  omega
 have r2:=kH (P:=P) (o:=some (.i m)) (vo:=some (a.eval hi)) (d:=len) (y:=c0-off) (w:=w) (g:=g) (by rw[hvh];exact .v _) rfl (by simp[bnd]) (by simp only[bnd];omega) (if true then .sliceAcap else .sliceAlen)
 have r1:=kH (P:=P) (o:=none) (vo:=none) (d:=0) (y:=(bnd (some (.i m)) len).toNat) (w:=w) (g:=g) trivial rfl (by simp[bnd]) (by simp[bnd]) .sliceB
 have hrun:=vw ht h2 (a:=some ⟨b0,off*P.cellsOf e,none⟩) (len:=len) (vm:=none) (wX (P:=P) (len:=len) r2 r1)
 have hz : ¬ (c0-off=0):=by omega
 simp only[bnd,Int.toNat_natCast,hz,Y9,Nat.zero_mul,Nat.sub_zero,YR,jy,Zv] at hrun
 have hmc:m<=c0-off:=by omega
 refine⟨_,_,⟨rfl,rfl⟩,.slice (some ⟨b0,off*P.cellsOf e,none⟩) m (c0-off),g,w,.inl ?_,.mrow r off m _ ⟨_,_,rfl,hmc,fun _=>⟨_,rfl⟩⟩ hU fun blk c' sz hq=>?_,hst.mem,Mono.refl _ _,fun r hr=>.inl hr⟩
 .
  obtain⟨od,oo,oty,op,oa,og⟩:=o;simp only at hop;subst hop
  simp[execOp,hvx,hrun]
 rw[h1] at hq
 simp only[Yh,YI] at hq
 obtain⟨rfl,rfl,rfl⟩:=hq
 exact⟨om,.inr ⟨e0,b0,rfl,rfl⟩⟩
end
theorem Pp {t:TypeId}{ms:Array (String×TypeId)}(ht:P.underlying t=some (.interface ms)) (w:World):(Op.equal t .nilIface .nilIface).run P w = .ok true w /\ ∀ T v,(Op.equal t (.iface T v) .nilIface).run P w = .ok false w/\(Op.equal t .nilIface (.iface T v)).run P w = .ok false w:=by
 have k1 : ∀ d:Nat,(Op.equalIn (d+1) t .nilIface .nilIface).run P w = .ok true w:=fun d=>by simp[Op.equalIn,run_underlying ht]
 have k2 : ∀ (d:Nat) T v,(Op.equalIn (d+1) t (.iface T v) .nilIface).run P w = .ok false w:=fun d T v=>by simp[Op.equalIn,run_underlying ht]
 have k3 : ∀ (d:Nat) T v,(Op.equalIn (d+1) t .nilIface (.iface T v)).run P w = .ok false w:=fun d T v=>by simp[Op.equalIn,run_underlying ht]
 exact⟨by simp[Op.equal,Op.maxDepth,k1 9999],fun T v=>⟨by simp[Op.equal,Op.maxDepth,k2 9999],by simp[Op.equal,Op.maxDepth,k3 9999]⟩⟩
theorem OX [Glob P] {C:Con}{s s1:S}{ops:Array Oper}{i b:Nat}(k:Nat) {o:Oper}{t t':TypeId}{ms:Array (String×TypeId)}{bo:BinOp}{x:Operand}{v:Value}(y:Bool) (z9:dw P C ops i k o b s s1)
  (hop:o.op = .binOp bo t x (.const .nilIface) t') (ht:P.underlying t=some (.interface ms)) (hbo:bo = .eql\/bo = .neq)
  (hx:s1.ev x = .v v) (hv:(v = .nilIface/\y=true)\/(∃ T u,v = .iface T u)/\y=false)
  (hk:ax P ro ops (k+1) b { n:=s1.n,t:=s1.put o.dst (.b (if bo = .eql then y else !y)),h:=s1.h,nx:=s1.nx,ok:=True,e:=s1.e } Q):ax P ro ops i b s Q:=by
 obtain⟨hik,ho,hg,he,hok,hd⟩:=z9
 refine tH (C:=C) k (.b (if bo = .eql then y else !y)) (.bool (if bo = .eql then y else !y)) hik ho hg (fun c e=>by rw[hop] at e;cases e) he hok hd (fun B g a w hst=>?_) hk
 have hr:=bI hst x
 rw[hx] at hr
 have hr:=hr.v_inv
 have hc:a.eval (.const .nilIface) = .nilIface:=rfl
 obtain⟨h1,h2⟩:=Pp (P:=P) ht w
 refine⟨?_,.v _⟩
 obtain⟨od,oo,oty,op,oa,og⟩:=o
 simp only at hop
 subst hop
 rcases hv with⟨rfl,rfl⟩|⟨⟨T,u,rfl⟩,rfl⟩
 .
  rcases hbo with rfl|rfl<;>simp[execOp,hr,hc,eqGuard,binOp,h1]
 obtain⟨h3,_⟩:=h2 T u
 rcases hbo with rfl|rfl<;>simp[execOp,hr,hc,eqGuard,binOp,h3]
theorem O4 [Glob P] {C:Con}{s s1:S}{ops:Array Oper}{i b:Nat}(k:Nat) {o:Oper}{t e:TypeId}{x:Operand}{r off len kk:Nat}{rows:List (List D)}(z9:dw P C ops i k o b s s1)
  (hop:o.op = .call { callee:=.builtin .cap,args:=#[x],argTypes:=#[t] }) (ht:P.underlying t=some (.slice e)) (hE : ∀ g w,s1.e.p g w->(Env.capLt r kk).p g w)
  (hx:s1.ev x = .mrow r off len) (hr:s1.h r=some ⟨e,rows⟩)
  (hk : ∀ c:Nat,len<=c->off+c<kk->ax P ro ops (k+1) b { n:=s1.n,t:=s1.put o.dst (.i c),h:=s1.h,nx:=s1.nx,ok:=True,e:=Env.lim s1.e r (off+c) } Q):ax P ro ops i b s Q:=by
 obtain⟨hik,ho,hg,he,hok,hd⟩:=z9
 refine FN (C:=C) k (fun d h' E=>∃ c:Nat,d = .i c/\h'=s1.h/\E=Env.lim s1.e r (off+c)/\len<=c/\off+c<kk) hik ho hg (fun c e=>by rw[hop] at e;cases e) he hok hd (fun B g a w hst _=>?_) (fun d h' E ⟨c,h1,h2,h3,h4,h5⟩=>by subst h1;subst h2;subst h3;exact hk c h4 h5)
 have hv:=bI hst x
 rw[hx] at hv
 obtain⟨blk,c0,h1,h2,h3,h4,h5⟩:=hst.mem.blk r _ hr
 have hb:=(hE g w hst.en).2 _ _ _ h1
 have key : ∃ (ad:Option Addr) (c:Nat),a.eval x = .slice ad len c/\len<=c/\c0=off+c/\g.U r:=by
  generalize a.eval x=v at hv
  cases hv with|mrow _ _ _ _ hxx hU hvv =>
  obtain⟨p1,p2⟩:=hvv _ _ _ h1;obtain⟨a',c',e1,e2,_⟩:=hxx
  rcases p2 with⟨e0,a,rfl⟩|⟨e0,b0,rfl,rfl⟩
  .
   cases e1
   exact⟨a',0,rfl,om,om,hU⟩
  cases e1
  exact⟨_,_,rfl,e2,om,hU⟩
 obtain⟨ad,c,k1,k2,k4,k5⟩:=key
 refine⟨_,_,_,.int .i64 c,g,w,⟨c,rfl,rfl,rfl,k2,om⟩,rfl,?_,.v _,hst.mem,Mono.refl _ _,fun r hr=>.inl hr,hst.en,k5,fun blk c' sz hq=>?_⟩
 .
  obtain⟨od,oo,oty,op,oa,og⟩:=o;simp only at hop;subst hop
  simp[Go.BigFrame.execOp_builtin,Go.BigFrame.builtin_cap,k1,Builtin.cap_,run_underlying ht,goInt]
 rw[h1] at hq
 simp only[Yh,YI] at hq
 obtain⟨rfl,rfl,rfl⟩:=hq
 exact k4
theorem O3 [Glob P] {C:Con}{s s1:S}{ops:Array Oper}{i b:Nat}(k:Nat) {o:Oper}{t e:TypeId}{x:Operand}{r off len c0:Nat}{E:Env}{rows:List (List D)}(z9:dw P C ops i k o b s s1)
  (hop:o.op = .call { callee:=.builtin .cap,args:=#[x],argTypes:=#[t] }) (ht:P.underlying t=some (.slice e)) (hE:s1.e=Env.lim E r c0)
  (hx:s1.ev x = .mrow r off len) (hr:s1.h r=some ⟨e,rows⟩)
  (hk:ax P ro ops (k+1) b { n:=s1.n,t:=s1.put o.dst (.i (c0-off:Nat)),h:=s1.h,nx:=s1.nx,ok:=True,e:=s1.e } Q):ax P ro ops i b s Q:=by
 obtain⟨hik,ho,hg,he,hok,hd⟩:=z9
 refine tH (C:=C) k (.i (c0-off:Nat)) (.int .i64 (c0-off:Nat)) hik ho hg (fun c e=>by rw[hop] at e;cases e) he hok hd (fun B g a w hst=>?_) hk
 have hv:=bI hst x
 rw[hx] at hv
 obtain⟨blk,c1,h1,h2,h3,h4,h5⟩:=hst.mem.blk r _ hr
 have hen:=hst.en
 rw[hE] at hen
 have hc:=hen.2.2 _ _ _ h1
 subst hc
 have key : ∃ (ad:Option Addr),a.eval x = .slice ad len (c1-off):=by
  generalize a.eval x=v at hv
  cases hv with|mrow _ _ _ _ hxx hU hvv =>
  obtain⟨p1,p2⟩:=hvv _ _ _ h1;obtain⟨a',c',e1,e2,_⟩:=hxx
  rcases p2 with⟨e0,a,rfl⟩|⟨e0,b0,rfl,rfl⟩
  .
   cases e1
   exact⟨a',by congr 1;omega⟩
  exact⟨_,rfl⟩
 obtain⟨ad,k1⟩:=key
 refine⟨?_,.v _⟩
 obtain⟨od,oo,oty,op,oa,og⟩:=o
 simp only at hop
 subst hop
 simp[Go.BigFrame.execOp_builtin,Go.BigFrame.builtin_cap,k1,Builtin.cap_,run_underlying ht,goInt]
theorem R7 [Glob P] {h:H}{g:Mem}{w:World}(hm:HM P h g w) {b:Nat}(hb : ¬ g.U b) {t e:TypeId}{k k':IntKind}{n m:Nat}(ht:P.underlying t=some (.slice e)) (c0:0<n) (c1:n<=m) (c2:P.bytesOf e*(m:Int)<=281474976710656) (c3:(m:Int)<=9223372036854775807) (c4:aC P e=true) (c5:(zeroCells P e).length=P.cellsOf e) (c6:(zeroCells P e).all D.one=true) (c7:0<P.cellsOf e) :
  ∃ v g' w',(Instr.makeSlice t (.int k n) (.int k' m)).run P w = .ok v w'/\Rep w' g' (.mrow b 0 n) v/\HM P (upd h b (some ⟨e,List.replicate m (zeroCells P e)⟩)) g' w'/\Mono g g' w w' /\ ∀ r,g'.U r->g.U r\/r=b:=by
 obtain⟨i,hi,hs⟩:=si c7
 obtain⟨i',z,hi',hz⟩:=xq (P:=P) (t:=e) om
 rw[hi] at hi'
 cases hi'
 obtain⟨z1,z2,z3⟩:=uU hi hz w g c6
 have hby:(i.bytes:Int)*m<=281474976710656:=by
  have:P.bytesOf e=i.bytes:=by simp[Program.bytesOf,hi]
  rw[<- this];exact c2
 have hrun:=run_make (P:=P) w t e i z ht hi hz k k' n m (by omega) (by omega) hby c3
 have hzs:z.cells.size=P.cellsOf e:=by omega
 rw[hs,<- hzs] at hrun
 simp only[Int.toNat_natCast] at hrun
 obtain⟨g',h2,h3,h4,h5,h6⟩:=hm.put (h':=upd h b (some ⟨e,List.replicate m (zeroCells P e)⟩)) (w':=w.alloc (.cells (madeCells z.cells (m*z.cells.size)) e)) b w.heap.size m ⟨e,List.replicate m (zeroCells P e)⟩ (madeCells z.cells (m*z.cells.size)) (.inl hb) (upd_same _ _ _)
  (fun r hr=>.inl (upd_ne _ _ _ _ hr)) (.inl (XY _)) (heap_alloc_new w _) (by rw[size_madeCells,hzs]) c7 (by simp) (by simp only[maxLen];omega)
  (by
   intro p row hp;have hpl:p<m:=by have:=(Ya.1 hp).1;simpa using this
   rw[List.getElem?_replicate,X6 hpl] at hp
   cases hp
   refine⟨c5,fun j d hj=>?_⟩
   have hjl:j<z.cells.size:=by have:=(Ya.1 hj).1;omega
   refine⟨z.cells[j],?_,z2 _ (by simp),z1.2 j d _ hj (by simp[hjl])⟩
   show (madeCells z.cells (m*z.cells.size))[p*P.cellsOf e+j]? = _
   rw[<- hzs];exact IJ hpl hjl)
  (World.grownBy_alloc w _ _)
 refine⟨_,g',_,hrun,?_,h5,h6,fun r hr=>(h3 r).1 hr⟩
 refine .mrow b 0 n _ ⟨_,_,rfl,c1,fun _=>⟨_,rfl⟩⟩ ((h3 b).2 (.inr rfl)) fun blk c sz he=>?_
 rw[h2] at he
 simp only[Yh,YI] at he
 obtain⟨rfl,rfl,rfl⟩:=he
 exact⟨⟨om,by simp only[maxLen];omega⟩,.inr ⟨om,w.heap.size,rfl,by simp⟩⟩
theorem OW [Glob P] {C:Con}{s s1:S}{ops:Array Oper}{i b:Nat}(k:Nat) {o:Oper}{t e:TypeId}{x y:Operand}{q q':IntKind}{n m:Nat}(z9:dw P C ops i k o b s s1)
  (hop:o.op = .makeSlice t x y) (ht:P.underlying t=some (.slice e)) (c2:P.bytesOf e*(m:Int)<=281474976710656) (c4:aC P e=true) (c5:(zeroCells P e).length=P.cellsOf e) (c6:(zeroCells P e).all D.one=true) (c7:0<P.cellsOf e)
  (hx:s1.ev x = .v (.int q n)) (hy:s1.ev y = .v (.int q' m)) (c0:0<n) (c1:n<=m) (c3:(m:Int)<=9223372036854775807)
  (hk:ax P ro ops (k+1) b { n:=s1.n,t:=s1.put o.dst (.mrow (b+k) 0 n),h:=upd s1.h (b+k) (some ⟨e,List.replicate m (zeroCells P e)⟩),nx:=s1.nx,ok:=True,e:=s1.e } Q):ax P ro ops i b s Q:=by
 obtain⟨hik,ho,hg,he,hok,hd⟩:=z9
 refine jD (C:=C) k (fun d h'=>d = .mrow (b+k) 0 n/\h'=upd s1.h (b+k) (some ⟨e,List.replicate m (zeroCells P e)⟩)) hik ho hg (fun c e=>by rw[hop] at e;cases e) he hok hd (fun B g a w hst hbk=>?_) (fun d h' ⟨hy,hh⟩=>by subst hy;subst hh;exact hk)
 have hvx:=bI hst x
 rw[hx] at hvx
 have hvx:=hvx.v_inv
 have hvy:=bI hst y
 rw[hy] at hvy
 have hvy:=hvy.v_inv
 obtain⟨v,g',w',q1,q2,q3,q4,q5⟩:=R7 (k:=q) (k':=q') hst.mem hbk ht c0 c1 c2 c3 c4 c5 c6 c7
 refine⟨_,_,⟨rfl,rfl⟩,v,g',w',.inl ?_,q2,q3,q4,q5⟩
 obtain⟨od,oo,oty,op,oa,og⟩:=o
 simp only at hop
 subst hop
 simp[execOp,hvx,hvy,q1]
theorem RCtE.i [Glob P] {f:FuncId}{args:List D}{h:H}{n:Nat}{E:Env}{R:D->H->Nat->Env->Prop}(k:RCtE P f args h n E R):uQ P f args h n E (fun d h' n'=>∃ E',R d h' n' E') :=
 ⟨k.1,fun w g vs h1 h2 h3 h4=>(k.2 w g vs h1 h2 h3 h4).mono fun _ _ ⟨v,g',res,h',n',E',q1,q2,q3,q4,q5,q6,q7⟩=>⟨v,g',res,h',n',⟨E',q1⟩,q2,q3,q4,q5,q6⟩⟩
theorem RCt.ie [Glob P] {f:FuncId}{args:List D}{h:H}{n:Nat}{R:D->H->Nat->Prop}(k:RCt P f args h n R):uQ P f args h n Env.tt R:=⟨k.1,fun w g vs h1 h2 _ h4=>k.2 w g vs h1 h2 h4⟩
section
variable [Glob P] (C : Con) {s s1 : S} {ops : Array Oper} {i b : Nat} {o : Oper} (k : Nat)
theorem C8 {t e:TypeId}{x:Operand}(hk:ax P ro ops (k+1) b { n:=s1.n,t:=s1.put o.dst (.i 0),h:=s1.h,nx:=s1.nx,ok:=True,e:=s1.e } Q)
  (z9:dw P C ops i k o b s s1:=by exact pos) (hop:o.op = .call { callee:=.builtin .cap,args:=#[x],argTypes:=#[t] }:=by exact rfl) (ht:P.underlying t=some (.slice e):=by kernel_rfl)
  (hx:s1.ev x = .list true []:=by simp only[go_sem,ff];first|done|exact rfl):ax P ro ops i b s Q:=O1 k z9 hop ht hx hk
theorem Uo {t e t':TypeId}{x:Operand}{r off len:Nat}(hk:ax P ro ops (k+1) b { n:=s1.n,t:=s1.put o.dst (.b false),h:=s1.h,nx:=s1.nx,ok:=True,e:=s1.e } Q)
  (z9:dw P C ops i k o b s s1:=by exact pos) (hop:o.op = .binOp .eql t x (.const (.slice none 0 0)) t':=by exact rfl) (ht:P.underlying t=some (.slice e):=by kernel_rfl)
  (hx:s1.ev x = .mrow r off len:=by simp only[go_sem,ff];first|done|exact rfl) (h0:0<len:=by first|omega|(simp;done)|(simp;omega)):ax P ro ops i b s Q:=OV k z9 hop ht hx h0 hk
theorem UB {t e t':TypeId}{x:Operand}{f:Bool}{rows:List (List D)}(hk : ∀ y:Bool,(y=true->rows=[])->ax P ro ops (k+1) b { n:=s1.n,t:=s1.put o.dst (.b y),h:=s1.h,nx:=s1.nx,ok:=True,e:=s1.e } Q)
  (hik:i<=k:=by omega) (ho:ops[k]? = some o:=by exact bC rfl) (hg:o.guard=none:=by exact rfl) (hop:o.op = .binOp .eql t x (.const (.slice none 0 0)) t':=by exact rfl) (ht:P.underlying t=some (.slice e):=by kernel_rfl)
  (he:aF P (words P) C ops.toList b i ((ops.toList.drop i).take (k-i)) s=s1:=by simp only[X8,X7,X4,Yf,S.put,Yr,Nat.reduceSub,go_sem,ff];first|done|exact rfl) (hok:s1.ok:=by (try simp only[go_sem,ff]);all_goals exact ok0) (hd:bB s1.n o.dst=true:=by (try simp only[go_sem,ff]);all_goals (first|done|rfl|decide|simp)) (hx:s1.ev x = .list f rows:=by simp only[go_sem,ff];first|done|exact rfl):ax P ro ops i b s Q:=xY k hik ho hg hop ht he hok hd hx hk
theorem JO {t u e:TypeId}{x y:Operand}{r off len m:Nat}{yd:D}{rows news:List (List D)}(hk:ax P ro ops (k+1) b { n:=s1.n,t:=s1.put o.dst (.i m),h:=upd s1.h r (some ⟨e,rows.take off++news++rows.drop (off+m)⟩),nx:=s1.nx,ok:=True,e:=s1.e } Q)
  (z9:dw P C ops i k o b s s1:=by exact pos) (hop:o.op = .call { callee:=.builtin .copy,args:=#[x,y],argTypes:=#[t,u] }:=by exact rfl) (ht:P.underlying t=some (.slice e):=by kernel_rfl)
  (hx:s1.ev x = .mrow r off len:=by simp only[go_sem,ff];first|done|exact rfl) (hy:s1.ev y=yd:=by simp only[go_sem,ff];first|done|exact rfl) (hr:s1.h r=some ⟨e,rows⟩:=by simp only[go_sem,ff];first|done|exact rfl) (hnw:rowsOf yd s1.h=news:=by simp only[rowsOf,go_sem,ff];first|done|exact rfl) (hm:aV yd=m:=by first|rfl|(simp only[aV,go_sem,ff];done)|(simp[aV];done)|(simp[aV];omega)) (hl:news.length=m:=by first|(simp only[go_sem,ff];done)|(simp;done)|(simp;omega)) (hs:gK P u s1.h yd=true:=by simp only[go_sem,ff])
  (hrl : ∀ q∈news,q.length=P.cellsOf e:=by simp only[go_sem,ff]) (h0:0<m:=by first|omega|(simp;done)|(simp;omega)) (hml:m<=len:=by first|omega|(simp;done)|(simp;omega)) (hlo:off<=rows.length:=by first|omega|(simp;done)|(simp;omega)):ax P ro ops i b s Q:=OY k z9 hop ht hx hy hr hnw hm hl hs hrl h0 hml hlo hk
theorem wE {t u e:TypeId}{x y:Operand}{xd yd:D}(hk:ax P ro ops (k+1) b { n:=s1.n,t:=s1.put o.dst (.i 0),h:=s1.h,nx:=s1.nx,ok:=True,e:=s1.e } Q)
  (z9:dw P C ops i k o b s s1:=by exact pos) (hop:o.op = .call { callee:=.builtin .copy,args:=#[x,y],argTypes:=#[t,u] }:=by exact rfl) (ht:P.underlying t=some (.slice e):=by kernel_rfl) (hp:0<P.cellsOf e:=by exact Zj (by kernel_rfl))
  (hx:s1.ev x=xd:=by simp only[go_sem,ff];first|done|exact rfl) (hy:s1.ev y=yd:=by simp only[go_sem,ff];first|done|exact rfl) (hxs:CO xd=true:=by rfl) (hm:aV yd=0:=by first|rfl|(simp only[aV,go_sem,ff];done)|(simp[aV];done)) (hl:(rowsOf yd s1.h).length=0:=by first|rfl|(simp only[rowsOf,go_sem,ff];done)|(simp[rowsOf];done)) (hs:gK P u s1.h yd=true:=by simp only[go_sem,ff]):ax P ro ops i b s Q:=OZ k z9 hop ht hp hx hy hxs hm hl hs hk
theorem Ui {e:TypeId}{x y z:Operand}{r off len n:Nat}{rows:List (List D)}{yd:D}(hk:ax P ro ops (k+1) b { n:=s1.n,t:=s1.put o.dst (.v undef),h:=upd s1.h r (some ⟨e,rows++[yd.cells]⟩),nx:=s1.nx,ok:=True,e:=s1.e } Q)
  (z9:dw P C ops i k o b s s1:=by exact pos) (hop:o.op = .store e x y:=by exact rfl)
  (hx:s1.ev x = .mptr r n 0:=by simp only[go_sem,ff];first|done|exact rfl) (hz:s1.ev z = .mrow r off len:=by simp only[go_sem,ff];first|done|exact rfl) (hy:s1.ev y=yd:=by simp only[go_sem,ff];first|done|exact rfl) (hr:s1.h r=some ⟨e,rows⟩:=by simp only[go_sem,ff];first|done|exact rfl) (hn:n=rows.length:=by first|omega|(simp;done)|(simp;omega)) (hl:n<off+len:=by first|omega|(simp;done)|(simp;omega)) (hc:yd.cells.length=P.cellsOf e:=by simp only[go_sem,ff]) (h1:yd.cells.all D.one=true:=by rfl):ax P ro ops i b s Q:=OL k z9 hop hx hy hz hr hn hl hc h1 hk
theorem CV {t u e:TypeId}{kk:IntKind}{y:Operand}(m:Nat) (hm0:0<m) (hby:m*P.bytesOf e<=140737488355328) (h63:m<=4611686018427387904) (hk:ax P ro ops (k+1) b { n:=s1.n,t:=s1.put o.dst (.mrow (b+k) 0 m),h:=upd s1.h (b+k) (some ⟨e,List.replicate m (zeroCells P e)⟩),nx:=s1.nx,ok:=True,e:=s1.e } Q)
  (z9:dw P C ops i k o b s s1:=by exact pos) (hop:o.op = .call { callee:=.builtin .append,args:=#[.const (.slice none 0 0),y],argTypes:=#[t,u] }:=by exact rfl) (ht:P.underlying t=some (.slice e):=by kernel_rfl) (hu:P.underlying u=some (.int kk):=by kernel_rfl) (hp:0<P.cellsOf e:=by exact Zj (by kernel_rfl)) (hz:aC P e=true:=by kernel_rfl) (h1z:(zeroCells P e).all D.one=true:=by kernel_rfl) (hdef:(zeroCells P e).length=P.cellsOf e:=by kernel_rfl)
  (hy:s1.ev y = .i m:=by simp only[go_sem,ff];first|done|exact rfl):ax P ro ops i b s Q:=O9 k z9 hop ht hu hp hz h1z hdef hy hm0 hby h63 hk
theorem JD {t e:TypeId}{x hi:Operand}{r off len:Nat}(m:Nat) {rows:List (List D)}(hk:ax P ro ops (k+1) b { n:=s1.n,t:=s1.put o.dst (.mrow r off m),h:=s1.h,nx:=s1.nx,ok:=True,e:=s1.e } Q)
  (z9:dw P C ops i k o b s s1:=by exact pos) (hop:o.op = .slice t x none (some hi) none:=by exact rfl) (ht:P.underlying t=some (.slice e):=by kernel_rfl)
  (hx:s1.ev x = .mrow r off len:=by simp only[go_sem,ff];first|done|exact rfl) (hh:s1.ev hi = .i m:=by simp only[go_sem,ff];first|done|exact rfl) (hr:s1.h r=some ⟨e,rows⟩:=by simp only[go_sem,ff];first|done|exact rfl) (h0:0<m:=by first|omega|(simp;done)|(simp;omega)) (hl:off+m<=rows.length:=by first|omega|(simp;done)|(simp;omega)):ax P ro ops i b s Q:=OO k z9 hop ht hx hh hr h0 hl hk
theorem Us {t t':TypeId}{ms:Array (String×TypeId)}{bo:BinOp}{x:Operand}{v:Value}(y:Bool) (hk:ax P ro ops (k+1) b { n:=s1.n,t:=s1.put o.dst (.b (if bo = .eql then y else !y)),h:=s1.h,nx:=s1.nx,ok:=True,e:=s1.e } Q)
  (hv:(v = .nilIface/\y=true)\/(∃ T u,v = .iface T u)/\y=false:=by first|exact .inl ⟨rfl,rfl⟩|exact .inr ⟨⟨_,_,rfl⟩,rfl⟩) (z9:dw P C ops i k o b s s1:=by exact pos) (hop:o.op = .binOp bo t x (.const .nilIface) t':=by exact rfl) (ht:P.underlying t=some (.interface ms):=by kernel_rfl) (hbo:bo = .eql\/bo = .neq:=by first|exact .inl rfl|exact .inr rfl)
  (hx:s1.ev x = .v v:=by simp only[go_sem,ff];first|done|exact rfl):ax P ro ops i b s Q:=OX k y z9 hop ht hbo hx hv hk
theorem UD {t e:TypeId}{x:Operand}{r off len:Nat}(kk:Nat) {rows:List (List D)}(hE : ∀ g w,s1.e.p g w->(Env.capLt r kk).p g w) (hk : ∀ c:Nat,len<=c->off+c<kk->ax P ro ops (k+1) b { n:=s1.n,t:=s1.put o.dst (.i c),h:=s1.h,nx:=s1.nx,ok:=True,e:=Env.lim s1.e r (off+c) } Q)
  (z9:dw P C ops i k o b s s1:=by exact pos) (hop:o.op = .call { callee:=.builtin .cap,args:=#[x],argTypes:=#[t] }:=by exact rfl) (ht:P.underlying t=some (.slice e):=by kernel_rfl)
  (hx:s1.ev x = .mrow r off len:=by simp only[go_sem,ff];first|done|exact rfl) (hr:s1.h r=some ⟨e,rows⟩:=by simp only[go_sem,ff];first|done|exact rfl):ax P ro ops i b s Q:=O4 k z9 hop ht hE hx hr hk
theorem UC {t e:TypeId}{x:Operand}{r off len c0:Nat}{E:Env}{rows:List (List D)}(hE:s1.e=Env.lim E r c0) (hk:ax P ro ops (k+1) b { n:=s1.n,t:=s1.put o.dst (.i (c0-off:Nat)),h:=s1.h,nx:=s1.nx,ok:=True,e:=s1.e } Q)
  (z9:dw P C ops i k o b s s1:=by exact pos) (hop:o.op = .call { callee:=.builtin .cap,args:=#[x],argTypes:=#[t] }:=by exact rfl) (ht:P.underlying t=some (.slice e):=by kernel_rfl)
  (hx:s1.ev x = .mrow r off len:=by simp only[go_sem,ff];first|done|exact rfl) (hr:s1.h r=some ⟨e,rows⟩:=by simp only[go_sem,ff];first|done|exact rfl):ax P ro ops i b s Q:=O3 k z9 hop ht hE hx hr hk
theorem gmkC {t e:TypeId}{x y:Operand}(n m:Nat) (c0:0<n) (c1:n<=m) (c3:(m:Int)<=9223372036854775807) (c2:P.bytesOf e*(m:Int)<=281474976710656) (hk:ax P ro ops (k+1) b { n:=s1.n,t:=s1.put o.dst (.mrow (b+k) 0 n),h:=upd s1.h (b+k) (some ⟨e,List.replicate m (zeroCells P e)⟩),nx:=s1.nx,ok:=True,e:=s1.e } Q)
  (z9:dw P C ops i k o b s s1:=by exact pos) (hop:o.op = .makeSlice t x y:=by exact rfl) (ht:P.underlying t=some (.slice e):=by kernel_rfl) (c4:aC P e=true:=by kernel_rfl) (c5:(zeroCells P e).length=P.cellsOf e:=by kernel_rfl) (c6:(zeroCells P e).all D.one=true:=by kernel_rfl) (c7:0<P.cellsOf e:=by exact Zj (by kernel_rfl))
  (hx:s1.ev x = .i n:=by simp only[go_sem,ff];first|done|exact rfl) (hy:s1.ev y = .i m:=by simp only[go_sem,ff];first|done|exact rfl):ax P ro ops i b s Q:=OW k z9 hop ht c2 c4 c5 c6 c7 hx hy c0 c1 c3 hk
end
theorem KD [Glob P] {c:Code}{s:S}(fx:List (Nat×D)) (h2:H) (n2 nx2:Nat) (e2:Env) (h:DW P ro c Q { n:=n2,t:=tab fx,h:=h2,nx:=nx2,e:=e2 }) (hfx:fx.map (fun p=>s.t p.1)=fx.map Prod.snd:=by rfl) (hh:s.h=h2:=by rfl) (hn:s.n=n2:=by rfl) (hx:s.nx=nx2:=by rfl) (he:s.e=e2:=by rfl):DW P ro c Q s:=by
 subst hh
 subst hn
 subst hx
 subst he
 have key : ∀ l:List (Nat×D),l.map (fun p=>s.t p.1)=l.map Prod.snd -> ∀ p∈l,s.t p.1=p.2:=by
  intro l
  induction l with
  | nil=>intro _ p hp;cases hp
  | cons q l ih =>
   intro e p hp;simp only[Yb,YP] at e
   rcases YK.1 hp with rfl|hp
   .
    exact e.1
   exact ih e.2 p hp
 exact Dq fx s.h s.nx (fun p hp=>Or.inl (key fx hfx p hp)) (fun _=>.inl rfl) (XY _) h
theorem dM {A:S->Prop}{c:List PanicEntry}{s:S}:thenS A Q (.panic c) s=Q (.panic c) s:=rfl
theorem dR {i:Nat}{c:List PanicEntry}{s:S}:DU i Q (.panic c) s=Q (.panic c) s:=rfl
theorem uy [Glob P] {fn:Func}{R:D->H->Nat->Prop}{X:List PanicEntry->H->Nat->Prop}{s:S}{n':Nat}{e:Exit}(he:e = .normal\/e = .ret) (h':H) (hn:s.nx<=n':=by first|exact XY _|omega) (hr:R (jH P fn.results.toList s) h' n':=by (try simp only[go_sem,ff]);all_goals simp)
  (hh : ∀ r,h' r=s.h r\/h' r=none:=by exact fun _=>.inl rfl) (hb:jb P s fn.results.toList:=by simp only[go_sem,ff]):Eb P fn R X e s:=by
 rcases he with rfl|rfl<;>exact⟨hb,h',n',hh,hn,hr⟩
theorem eH [Glob P] {fn:Func}{R:D->H->Nat->Prop}{X:List PanicEntry->H->Nat->Prop}{s:S}{n':Nat}{c:List PanicEntry}(h':H) (hx:X c h' n') (hn:s.nx<=n':=by first|exact XY _|omega) (hh : ∀ r,h' r=s.h r\/h' r=none:=by exact fun _=>.inl rfl):Eb P fn R X (.panic c) s:=⟨h',n',hh,hn,hx⟩
theorem OU [Glob P] {C:Con}{s s1:S}{ops:Array Oper}{i b:Nat}(k:Nat) {o:Oper}{t t':TypeId}{x y:Operand}{q:IntKind}{m n v:Int}(hv:q.wrap (m*n)=v) (z9:dw P C ops i k o b s s1)
  (hop:o.op = .binOp .mul t x y t') (hq:q.signed=false)
  (hx:s1.ev x = .v (.int q m)) (hy:s1.ev y = .v (.int q n))
  (hk:ax P ro ops (k+1) b { n:=s1.n,t:=s1.put o.dst (.v (.int q v)),h:=s1.h,nx:=s1.nx,ok:=True,e:=s1.e } Q):ax P ro ops i b s Q:=by
 obtain⟨hik,ho,hg,he,hok,hd⟩:=z9
 refine tH (C:=C) k (.v (.int q v)) (.int q v) hik ho hg (fun c e=>by rw[hop] at e;cases e) he hok hd (fun B g a w hst=>?_) hk
 have h1:=bI hst x
 rw[hx] at h1
 have h1:=h1.v_inv
 have h2:=bI hst y
 rw[hy] at h2
 have h2:=h2.v_inv
 refine⟨?_,.v _⟩
 obtain⟨od,oo,oty,op,oa,og⟩:=o
 simp only at hop
 subst hop
 simp[execOp,h1,h2,eqGuard,binOp,Op.intArith,hv]
section
variable [Glob P] (C : Con) {s s1 : S} {ops : Array Oper} {i b : Nat} {o : Oper} (k : Nat)
theorem JI {t t':TypeId}{x y:Operand}{q:IntKind}{m n v:Int}(hv:q.wrap (m*n)=v) (hk:ax P ro ops (k+1) b { n:=s1.n,t:=s1.put o.dst (.v (.int q v)),h:=s1.h,nx:=s1.nx,ok:=True,e:=s1.e } Q)
  (z9:dw P C ops i k o b s s1:=by exact pos) (hop:o.op = .binOp .mul t x y t':=by exact rfl) (hq:q.signed=false:=by rfl)
  (hx:s1.ev x = .v (.int q m):=by simp only[go_sem,ff];first|done|exact rfl) (hy:s1.ev y = .v (.int q n):=by simp only[go_sem,ff];first|done|exact rfl):ax P ro ops i b s Q:=OU k hv z9 hop hq hx hy hk
end
theorem O8 [Glob P] {C:Con}{s s1:S}{ops:Array Oper}{i b:Nat}(k:Nat) {o:Oper}{x:Operand}{d:D}(hik:i<=k) (ho:ops[k]? = some o) (hg:o.guard=none) (hop:o.op = .assign x)
  (he:aF P (words P) C ops.toList b i ((ops.toList.drop i).take (k-i)) s=s1) (hok:s1.ok) (hd:bB s1.n o.dst=true) (hx:s1.ev x=d)
  (hk:ax P ro ops (k+1) b { n:=s1.n,t:=s1.put o.dst d,h:=s1.h,nx:=s1.nx,ok:=True,e:=s1.e } Q):ax P ro ops i b s Q:=by
 refine jD (C:=C) k (fun d' h'=>d'=d/\h'=s1.h) hik ho hg (fun c e=>by rw[hop] at e;cases e) he hok hd (fun B g a w hst _=>?_) (fun d h' ⟨hy,hh⟩=>by subst hy;subst hh;exact hk)
 have h1:=bI hst x
 rw[hx] at h1
 refine⟨_,_,⟨rfl,rfl⟩,_,g,w,.inl ?_,h1,hst.mem,Mono.refl _ _,fun r hr=>.inl hr⟩
 obtain⟨od,oo,oty,op,oa,og⟩:=o
 simp only at hop
 subst hop
 simp[execOp]
theorem OT [Glob P] {C:Con}{s s1:S}{ops:Array Oper}{i b:Nat}(k:Nat) {o:Oper}{x:Operand}{r j off:Nat}(hik:i<=k) (ho:ops[k]? = some o) (hg:o.guard=none) (hop:o.op = .nilCheck x)
  (he:aF P (words P) C ops.toList b i ((ops.toList.drop i).take (k-i)) s=s1) (hok:s1.ok) (hd:bB s1.n o.dst=true) (hx:s1.ev x = .mptr r j off)
  (hk:ax P ro ops (k+1) b { n:=s1.n,t:=s1.put o.dst (.mptr r j off),h:=s1.h,nx:=s1.nx,ok:=True,e:=s1.e } Q):ax P ro ops i b s Q:=by
 refine jD (C:=C) k (fun d' h'=>d' = .mptr r j off/\h'=s1.h) hik ho hg (fun c e=>by rw[hop] at e;cases e) he hok hd (fun B g a w hst _=>?_) (fun d h' ⟨hy,hh⟩=>by subst hy;subst hh;exact hk)
 have h1:=bI hst x
 rw[hx] at h1
 have h2:=h1
 generalize hv:a.eval x=v at h2
 cases h2 with|mptr _ _ _ _ hxx _ _ =>
 obtain⟨p,rfl⟩:=hxx
 refine⟨_,_,⟨rfl,rfl⟩,_,g,w,.inl ?_,h1,hst.mem,Mono.refl _ _,fun r hr=>.inl hr⟩
 obtain⟨od,oo,oty,op,oa,og⟩:=o
 simp only at hop
 subst hop
 simp[execOp,hv]
theorem OM [Glob P] {C:Con}{s s1:S}{ops:Array Oper}{i b:Nat}(k:Nat) {o:Oper}{t e:TypeId}{x y:Operand}{r:Nat}{c d:D}(hik:i<=k) (ho:ops[k]? = some o) (hg:o.guard=none) (hop:o.op = .store t x y)
  (he:aF P (words P) C ops.toList b i ((ops.toList.drop i).take (k-i)) s=s1) (hok:s1.ok) (hd:bB s1.n o.dst=true) (hx:s1.ev x = .mptr r 0 0) (hy:s1.ev y=d) (hr:s1.h r=some ⟨e,[[c]]⟩) (ht:P.cellsOf t=1) (hc:d.cells=[d]) (h1:d.one=true)
  (hk:ax P ro ops (k+1) b { n:=s1.n,t:=s1.put o.dst (.v undef),h:=upd s1.h r (some ⟨e,[[d]]⟩),nx:=s1.nx,ok:=True,e:=s1.e } Q):ax P ro ops i b s Q:=by
 have hst1:(lH P t (.mptr r 0 0) d s1.h).1=upd s1.h r (some ⟨e,[[d]]⟩):=by
  unfold lH;simp only[hr,hc];rfl
 refine jD (C:=C) k (fun d' h'=>d' = .v undef/\h'=upd s1.h r (some ⟨e,[[d]]⟩)) hik ho hg (fun c e=>by rw[hop] at e;cases e) he hok hd (fun B g a w hst _=>?_) (fun d h' ⟨hy,hh⟩=>by subst hy;subst hh;exact hk)
 have q1:=bI hst x
 rw[hx] at q1
 have q2:=bI hst y
 rw[hy] at q2
 obtain⟨g',w',k1,k2,k3,k4⟩:=EX (t:=t) hst.mem q1 q2 (by unfold lH;simp only[hr,hc];exact⟨by simp[ht],om,by simp,by simp,by simp[h1]⟩)
 rw[hst1] at k2
 refine⟨_,_,⟨rfl,rfl⟩,undef,g',w',.inr ⟨?_,rfl⟩,.v _,k2,k3,fun r hr=>.inl (k4 r hr)⟩
 obtain⟨od,oo,oty,op,oa,og⟩:=o
 simp only at hop
 subst hop
 simp[execOp,k1]
section
variable [Glob P] (C : Con) {s s1 : S} {ops : Array Oper} {i b : Nat} {o : Oper} (k : Nat)
theorem UE {x:Operand}{d:D}(hk:ax P ro ops (k+1) b { n:=s1.n,t:=s1.put o.dst d,h:=s1.h,nx:=s1.nx,ok:=True,e:=s1.e } Q)
  (hik:i<=k:=by omega) (ho:ops[k]? = some o:=by exact bC rfl) (hg:o.guard=none:=by exact rfl) (hop:o.op = .assign x:=by exact rfl) (he:aF P (words P) C ops.toList b i ((ops.toList.drop i).take (k-i)) s=s1:=by first|rfl|(simp only[X8,X7,X4,Yf,S.put,Yr,Nat.reduceSub,go_sem,ff];first|done|exact rfl)) (hok:s1.ok:=by (try simp only[go_sem,ff]);all_goals exact ok0) (hd:bB s1.n o.dst=true:=by (try simp only[go_sem,ff]);all_goals (first|done|rfl|decide|simp)) (hx:s1.ev x=d:=by first|rfl|(simp only[go_sem,ff];first|done|exact rfl)):ax P ro ops i b s Q:=O8 k hik ho hg hop he hok hd hx hk
theorem Um {x:Operand}{r j off:Nat}(hk:ax P ro ops (k+1) b { n:=s1.n,t:=s1.put o.dst (.mptr r j off),h:=s1.h,nx:=s1.nx,ok:=True,e:=s1.e } Q)
  (hik:i<=k:=by omega) (ho:ops[k]? = some o:=by exact bC rfl) (hg:o.guard=none:=by exact rfl) (hop:o.op = .nilCheck x:=by exact rfl) (he:aF P (words P) C ops.toList b i ((ops.toList.drop i).take (k-i)) s=s1:=by first|rfl|(simp only[X8,X7,X4,Yf,S.put,Yr,Nat.reduceSub,go_sem,ff];first|done|exact rfl)) (hok:s1.ok:=by (try simp only[go_sem,ff]);all_goals exact ok0) (hd:bB s1.n o.dst=true:=by (try simp only[go_sem,ff]);all_goals (first|done|rfl|decide|simp)) (hx:s1.ev x = .mptr r j off:=by first|rfl|(simp only[go_sem,ff];first|done|exact rfl)):ax P ro ops i b s Q:=OT k hik ho hg hop he hok hd hx hk
theorem gst1 {t e:TypeId}{x y:Operand}{r:Nat}{c d:D}(hk:ax P ro ops (k+1) b { n:=s1.n,t:=s1.put o.dst (.v undef),h:=upd s1.h r (some ⟨e,[[d]]⟩),nx:=s1.nx,ok:=True,e:=s1.e } Q)
  (hik:i<=k:=by omega) (ho:ops[k]? = some o:=by exact bC rfl) (hg:o.guard=none:=by exact rfl) (hop:o.op = .store t x y:=by exact rfl) (he:aF P (words P) C ops.toList b i ((ops.toList.drop i).take (k-i)) s=s1:=by first|rfl|(simp only[X8,X7,X4,Yf,S.put,Yr,Nat.reduceSub,go_sem,ff];first|done|exact rfl)) (hok:s1.ok:=by (try simp only[go_sem,ff]);all_goals exact ok0) (hd:bB s1.n o.dst=true:=by (try simp only[go_sem,ff]);all_goals (first|done|rfl|decide|simp)) (hx:s1.ev x = .mptr r 0 0:=by first|rfl|(simp only[go_sem,ff];first|done|exact rfl)) (hy:s1.ev y=d:=by first|rfl|(simp only[go_sem,ff];first|done|exact rfl)) (hr:s1.h r=some ⟨e,[[c]]⟩:=by first|(simp only[upd_same];done)|(simp only[go_sem,ff];first|done|exact rfl)) (ht:P.cellsOf t=1:=by kernel_rfl) (hc:d.cells=[d]:=by rfl) (h1:d.one=true:=by rfl):ax P ro ops i b s Q:=OM k hik ho hg hop he hok hd hx hy hr ht hc h1 hk
theorem JN (C:Con) (hq:Q .normal s.clear) (hi:i=ops.size:=by rfl) (hok:s.ok:=by trivial) (hn:s.nx=b+ops.size:=by rfl):ax P ro ops i b s Q:=by
 subst hi
 exact tJ (C:=C) (XY _) (by rw[List.drop_of_length_le (by simp)];rfl) hok hn hq
end
end Go.DL
namespace Go.DL
open Go.RowKit
variable {P : Program} {C : Con} {B : Bot}
theorem O7 [Glob P] {C:Con}{ro:Option Nat}{Q:Exit->S->Prop}{s s1:S}{ops:Array Oper}{i b:Nat}(k:Nat) {o:Oper}{p:BinOp}{t t':TypeId}{x y:Operand}{vx vy v:Value}(hv:(bY P t p vx vy).1=v) (hp:(bY P t p vx vy).2) (z9:dw P C ops i k o b s s1)
  (hop:o.op = .binOp p t x y t')
  (hx:s1.ev x = .v vx) (hy:s1.ev y = .v vy)
  (hk:ax P ro ops (k+1) b { n:=s1.n,t:=s1.put o.dst (.v v),h:=s1.h,nx:=s1.nx,ok:=True,e:=s1.e } Q):ax P ro ops i b s Q:=by
 obtain⟨hik,ho,hg,he,hok,hd⟩:=z9
 refine tH (C:=C) k (.v v) v hik ho hg (fun c e=>by rw[hop] at e;cases e) he hok hd (fun B g a w hst=>?_) hk
 have h1:=bI hst x
 rw[hx] at h1
 have h1:=h1.v_inv
 have h2:=bI hst y
 rw[hy] at h2
 have h2:=h2.v_inv
 have hb:=LY hp x y w
 rw[hv] at hb
 refine⟨?_,.v _⟩
 obtain⟨od,oo,oty,op,oa,og⟩:=o
 simp only at hop
 subst hop
 rw[<- h1,<- h2] at hb
 have:execOp a.eval ⟨od,.binOp p t x y t',oty,op,oa,og⟩=(do let v <- (do eqGuard p t x y (a.eval x) (a.eval y);binOp p t (a.eval x) (a.eval y):Sem Value);return .value v):=by
  simp[execOp]
 rw[this,Sem.run_bind,hb]
 rfl
section
variable [Glob P] (C : Con) {ro : Option Nat} {Q : Exit -> S -> Prop} {s sq : S} {ops : Array Oper} {id : Nat} {y : Code}
theorem JQ {s1:S}{o:Oper}{i b:Nat}(k:Nat) {p:BinOp}{t t':TypeId}{x y:Operand}{vx vy:Value}(v:Value) (hk:ax P ro ops (k+1) b { n:=s1.n,t:=s1.put o.dst (.v v),h:=s1.h,nx:=s1.nx,ok:=True,e:=s1.e } Q)
  (z9:dw P C ops i k o b s s1:=by exact pos) (hop:o.op = .binOp p t x y t':=by exact rfl)
  (hx:s1.ev x = .v vx:=by simp only[go_sem,ff];first|done|exact rfl) (hy:s1.ev y = .v vy:=by simp only[go_sem,ff];first|done|exact rfl) (hv:(bY P t p vx vy).1=v:=by rfl) (hp:(bY P t p vx vy).2:=by trivial):ax P ro ops i b s Q:=O7 k hv hp z9 hop hx hy hk
end
end Go.DL
namespace Go.DL
open Go.RowKit
variable {P : Program} {C : Con} {B : Bot}
structure MC (C:Con) (ops:Array Oper) (k1 k3 k2:Nat):Prop where
 lt:k1<k3
 le3:k3<=k2
 le:k2<=ops.size
 back : ∀ (i:Nat) o,ops.toList[i]? = some o -> ∀ e∈o.after.toList,Region.binds .any e=true->e.on<i
 ord : ∀ i,k2<=i->i<ops.size -> ∀ j,j<i->((bK ops.toList []).getD i 0).testBit j=true
 quiet : ∀ (i:Nat) o,i<k3->i≠k1->((bK ops.toList []).getD k1 0).testBit i=false->ops.toList[i]? = some o->jZ C o=true
 wait : ∀ i,k3<=i->i<k2->((bK ops.toList []).getD i 0).testBit k1=true
 comm : ∀ (i j:Nat) x y,i<k2->j<i->i≠k1->j≠k1->ops.toList[j]? = some x->ops.toList[i]? = some y->((bK ops.toList []).getD i 0).testBit j=true\/iB C ops.toList x y=true
 call : ∀ (i:Nat) x y,i<k3->i≠k1->ops.toList[i]? = some x->ops.toList[k1]? = some y->((bK ops.toList []).getD k1 0).testBit i=true\/fU ops.toList x y=true
 late : ∀ (i j:Nat) x y,i<=j->j<k3->i≠k1->j≠k1->ops.toList[i]? = some x->ops.toList[j]? = some y -> ∀ z∈looks ops.toList x,y.dst≠some z
theorem Nc {k1 k3 k2:Nat}{listed:Array Bool}(h1:k1<k3) (h2:k3<=k2) (h3 : ∀ j,k3<=j->listed.getD j false=false):todoQ k1 k2 listed=todoQ k1 k3 listed++List.range' k3 (k2-k3):=by
 have e:List.range k2=List.range k3++List.range' k3 (k2-k3):=by
  rw[Y4,Y4];have:k2=k3+(k2-k3):=by omega
  conv=>lhs;rw[this]
  rw[<- Ze]
  simp
 unfold todoQ
 rw[e,List.filter_append]
 congr 1
 refine ZA.2 fun j hj=>?_
 simp only[List.mem_range'_1] at hj
 rw[h3 j hj.1]
 simp
 omega
theorem NM [Glob P] {ops:Array Oper}{k1 k3 k2 b n:Nat}{ro:Option Nat}{Q:Exit->Act->World->Prop}{w0:World}{g0:Mem}{sq:S}{F:D->H->Nat->S}(Dc:MC C ops k1 k3 k2)
  {o1:Oper} {f:Operand} {args:Array Operand} {ts:Array TypeId} {fid:FuncId} {first caps xs:List D} {R:D->H->Nat->Prop} {X:List PanicEntry->H->Nat->Prop}
  (ho:ops[k1]? = some o1) (hop:o1.op = .call { callee:=.value f,args:=args,argTypes:=ts }) (hg:o1.guard=none) (hd:bB sq.n o1.dst=true)
  (hf:sq.ev f = .fn (.func fid) first caps) (hxg:(args.toList.map sq.ev).all sg=true) (hx:(args.toList.map sq.ev).map sd=xs) (hct:gJ P fid (first++xs++caps) sq.h (b+k2) R X) (hok:sq.ok)
  (hst : ∀ res h' n',R res h' n' -> ∀ (i:Nat) o,i<k3->i≠k1->((bK ops.toList []).getD k1 0).testBit i=false->ops.toList[i]? = some o ->
   aM P (words P) C ops.toList b i o sq.n sq.ev sq.t h'=((aM P (words P) C ops.toList b i o sq.n sq.ev sq.t sq.h).1,h',(aM P (words P) C ops.toList b i o sq.n sq.ev sq.t sq.h).2.2))
  (hF : ∀ res h' n',R res h' n'->(List.range' k3 (k2-k3)).foldl (aJ P (words P) C ops.toList n') { n:=sq.n,t:=sq.put o1.dst res,h:=h',nx:=n'+ops.size,ok:=True,e:=sq.e }=F res h' n'/\(F res h' n').ok)
  (hQ : ∀ res h' n',R res h' n' -> ∀ g' a' w',St P B (F res h' n') g' a' w'->Mono g0 g' w0 w'->(∀ r,g'.U r->r<n'+k2)->wpOpsIn (Fw ro) n P ops Q (List.range' k2 (ops.size-k2)) a' w')
  (hp : ∀ c h' n',X c h' n' -> ∀ (t:Nat->D) g' a' w',St P B { n:=sq.n,t:=t,h:=h',nx:=n',ok:=True,e:=sq.e } g' a' w'->Mono g0 g' w0 w'->(∀ r,g'.U r->r<n')->Q (.panic c) a' w') :
  ∀ (fuel:Nat) (listed:Array Bool) (s:S) (g:Mem) (a:Act) (w:World),listed.size=ops.size->listed.getD k1 false=false->(∀ j,k3<=j->listed.getD j false=false)->(todoQ k1 k3 listed).length+(k2-k3)+1+(ops.size-k2)<=fuel->Closed ops listed ->
   St P B s g a w->Mono g0 g w0 w->(∀ r,g.U r->r<b \/ ∃ j,listed.getD j false=true/\j<k3/\r=b+j)->(todoQ k1 k3 listed).foldl (aJ P (words P) C ops.toList b) s=sq ->
   wpAnyIn (Fw ro) n P .any ops Q fuel listed a w:=by
 intro fuel
 have hle:=Dc.le
 have hlt1:=Dc.lt
 have hle3:=Dc.le3
 induction fuel with
 | zero=>intro listed s g a w hsz hk1 hk2 hfu;omega
 | succ fuel ih =>
  intro listed s g a w hsz hk1 hk2 hfu hX hs hm hU hfin;refine⟨fun hr=>?_,fun i hi=>?_⟩
  .
   exfalso
   have:=Gh hsz Dc.back hr k1 om;rw[hk1] at this;cases this
  obtain⟨hlt,h1f,hpred⟩:=(mq hsz).1 hi;have hik:i<k2:=by
   by_cases q:i<k2
   .
    exact q
   exfalso
   have:=pg (L:=ops.toList) (X:=fun k=>listed.getD k false=true) hX i ops[i] (by simp[hlt]) hpred k1 (Dc.ord i om hlt k1 om)
   rw[hk1] at this;cases this
  have hik3:i<k3:=by
   by_cases q:i<k3
   .
    exact q
   exfalso
   have:=pg (L:=ops.toList) (X:=fun k=>listed.getD k false=true) hX i ops[i] (by simp[hlt]) hpred k1 (Dc.wait i om hik)
   rw[hk1] at this;cases this
  by_cases hne:i=k1
  .
   subst hne;have ho':ops.toList[i]? = some o1:=by rw[Zh];exact ho
   have hoi:ops[i]=o1:=by
    have:ops[i]? = some ops[i]:=by simp[hlt]
    rw[ho] at this;exact (Z8 this).symm
   have hslot : ∀ j∈todoQ i k3 listed,∀ x,ops.toList[j]? = some x->((bK ops.toList []).getD i 0).testBit j=false/\fU ops.toList x o1=true:=by
    intro j hj x hxj;obtain⟨j1,j2,j3⟩:=mem_todoQ.1 hj;have hnb:((bK ops.toList []).getD i 0).testBit j=false:=by
     cases q:((bK ops.toList []).getD i 0).testBit j with
     | false=>rfl
     | true =>
      have:=pg (L:=ops.toList) (X:=fun k=>listed.getD k false=true) hX i ops[i] (by simp[hlt]) hpred j q
      rw[j3] at this;cases this
    rcases Dc.call j x o1 j1 j2 hxj ho' with h|h
    .
     rw[hnb] at h;cases h
    exact⟨hnb,h⟩
   have hlk:=wJ (P:=P) (W:=words P) (C:=C) (L:=ops.toList) (b:=b) (y:=o1) (todoQ i k3 listed) s fun j hj x hxj=>(hslot j hj x hxj).2
   rw[hfin,hop] at hlk;simp only[aQ,Yb,YP] at hlk;have hsqh:sq.h=s.h:=by
    rw[<- hfin];exact zK _ _ fun j hj o ho=>Dc.quiet j o (mem_todoQ.1 hj).1 (mem_todoQ.1 hj).2.1 (hslot j hj o ho).1 ho
   have hsqn:sq.n=s.n/\sq.e=s.e:=by rw[<- hfin];exact wI _ _
   rw[hsqh] at hct;rw[hlk.2] at hxg hx;have hf':s.ev f = .fn (.func fid) first caps:=by rw[<- hlk.1];exact hf
   have hU1 : ∀ r,g.U r->r<b+k2:=fun r hr=>by rcases hU r hr with h|⟨j,_,h,rfl⟩<;>omega
   unfold wpOpIn;rw[ho];simp only;have hw:Region.wanted o1 (yielded ops a.tmps)=true:=by simp[Region.wanted,hg]
   rw[X6 hw];have hdef : ∀ c,o1.op ≠ .defer c:=by intro c e;rw[e] at hop;cases hop
   have hsem:o1.semAt (Fw ro).round a.eval=execOp a.eval o1:=Oper.semAt_eq _ _ _ hdef;refine⟨fun _ _=>trivial,?_⟩
   rw[hsem];obtain⟨hbd,hct⟩:=hct;have hfr:=bI hs f;rw[hf'] at hfr;have hxr:=mg (lX hs args.toList) hxg;rw[hx] at hxr;generalize hv:a.eval f=vf at hfr
   cases hfr with|fn _ _ _ fs cs l1 l2 r1 r2 =>
   have hrun:(execOp a.eval o1).run P w = .ok (.enter fid (fs++args.map a.eval++cs)) w:=by
    simp[execOp,hop,resolve,Deferred.ofValue,hv,invoke,lZ hbd]
   rw[hrun,Oper.uponIn_enter];have e:fs++args.map a.eval++cs=(fs.toList++args.toList.map a.eval++cs.toList).toArray:=by apply Zl;simp
   rw[e];refine⟨fun h=>by simp[Fw,Fence.wide] at h,o7 ((hct w g _ hs.mem hU1 (Reps.append (Reps.append ⟨by simpa using l1,fun i d x h1 h2=>r1 i d x h1 (by simpa using h2)⟩ hxr) ⟨by simpa using l2,fun i d x h1 h2=>r2 i d x h1 (by simpa using h2)⟩)).mono ?_)⟩
   rintro e w' ⟨g',h',n',q2,q3,q4,⟨v,res,hR,rfl,q1⟩|⟨c,hXp,rfl⟩⟩
   .
    have hs2:=gN hs q3 q2 (show bB s.n o1.dst=true by rw[<- hsqn.1];exact hd) q1 True
    have htodo:todoQ i k3 (listed.setIfInBounds i true)=todoQ i k3 listed:=by
     unfold todoQ;refine Z6 fun k _=>?_
     rw[getD_set (by omega) k]
     by_cases e:k=i
     .
      simp[e]
     have e2:(k==i)=false:=by simpa using e
     rw[e2,ZR]
    have hsorted:(todoQ i k3 listed).Pairwise (· < ·):=Z7 _ ZX;have hff:=zM (P:=P) (W:=words P) (C:=C) (L:=ops.toList) (b:=b) (b':=n') (m:=n'+ops.size) (d:=o1.dst) (res:=res) (h':=h') (sq:=sq) (todoQ i k3 listed) s hsorted (fun j hj o hoj=>by
     obtain⟨j1,j2,j3⟩:=mem_todoQ.1 hj;obtain⟨v3,k4⟩:=hslot j hj o hoj;refine⟨Dc.quiet j o j1 j2 v3 hoj,fun z hz=>?_,fun m hm hjm y hy=>Dc.late j m o y hjm (mem_todoQ.1 hm).1 j2 (mem_todoQ.1 hm).2.1 hoj hy,hst res h' n' hR j o j1 j2 v3 hoj⟩
     simp only[fU,XW,hz] at k4;refine⟨by simpa using k4.2,fun e=>?_⟩
     have:=k4.1;rw[e] at this
     simp at this) hfin hok
    have hk9 : ∀ j,k3<=j->(listed.setIfInBounds i true).getD j false=false:=fun j hj=>by
     rw[getD_set (by omega),hk2 j hj]
     have:(j==i)=false:=by simp;omega
     rw[this];rfl
    have hsp:todoQ i k2 (listed.setIfInBounds i true)=todoQ i k3 listed++List.range' k3 (k2-k3):=by rw[Nc hlt1 hle3 hk9,htodo]
    obtain⟨hF1,hF2⟩:=hF res h' n' hR;refine Bb (B:=B) (g0:=g0) (w0:=w0) (b:=n') (k1:=i) (k2:=k2) (fin:=F res h' n') Dc.le Dc.back Dc.ord Dc.comm fuel (listed.setIfInBounds i true) { n:=s.n,t:=s.put o1.dst res,h:=h',nx:=n'+ops.size,ok:=True,e:=s.e } g' _ w' (by simp[hsz]) (fun _=>by rw[getD_set (by omega)];simp) (fun j hj=>hk9 j (by omega)) (by rw[hsp,XV,List.length_range'];omega) (hX.set hsz hi)
     ⟨hs2.sz,hs2.tm,hs2.mem,hs2.df,hs2.en,hs2.bd⟩ (hm.trans q3) (fun r hr=>.inl (q4 r hr)) (by rw[hsp,Zc,hff];exact hF1) hF2 (hQ res h' n' hR)
   have hs2:=gN (dst:=none) hs q3 q2 rfl (.junk undef) True;exact hp c h' n' hXp s.t g' _ w' (by rw[hsqn.1,hsqn.2];exact⟨hs2.sz,hs2.tm,hs2.mem,hs2.df,hs2.en,hs2.bd⟩) (hm.trans q3) q4
  refine BI om (fun i j x y q1 q2=>Dc.comm i j x y om q2) hsz hX hs hU hfin hok hi hik3 hne fun g' a' w' s' q1 q2 q3 q4 q5=>?_
  refine ih _ s' g' a' w' (by simp[hsz]) (by rw[getD_set (by omega),hk1];simp;exact fun h=>hne h.symm) (fun j hj=>?_) (by omega) (hX.set hsz hi) q1 (hm.trans q2) q3 q4
  rw[getD_set (by omega),hk2 j hj]
  have:(j==i)=false:=by simp;omega
  rw[this];rfl
def uE (C:Con) (L:List Oper) (k1 k3 k2:Nat):Bool :=
 decide (k1<k3)&&decide (k3<=k2)&&decide (k2<=L.length)&&gF L
 && ((List.range L.length).all fun i=>decide (i<k2)||(List.range i).all fun j=>((bK L []).getD i 0).testBit j)
 && ((List.range k2).all fun i=>decide (i<k3)||((bK L []).getD i 0).testBit k1)
 && ((List.range k3).all fun i=>i==k1||((jZ C (L.getD i default)||((bK L []).getD k1 0).testBit i)&&(((bK L []).getD k1 0).testBit i||fU L (L.getD i default) (L.getD k1 default))))
 && ((List.range k2).all fun i=>i==k1||(List.range i).all fun j=>j==k1||((bK L []).getD i 0).testBit j||iB C L (L.getD j default) (L.getD i default))
 && ((List.range k3).all fun j=>j==k1||(List.range (j+1)).all fun i=>i==k1||match (L.getD j default).dst with
  | none=>true
  | some d=>!(looks L (L.getD i default)).contains d)
theorem Vw {ops:Array Oper}{k1 k3 k2:Nat}(h:uE C ops.toList k1 k3 k2=true):MC C ops k1 k3 k2:=by
 unfold uE at h
 simp only[XW,XX] at h
 obtain⟨⟨⟨⟨⟨⟨⟨⟨h1,h12⟩,h2⟩,h3⟩,h4⟩,h7⟩,h5⟩,h8⟩,h6⟩:=h
 have hat : ∀ (i:Nat) o,ops.toList[i]? = some o->ops.toList.getD i default=o:=fun i o ho=>by simp only[List.getD,ho,YT]
 simp only[YQ,Zp,Yd,XW,YE,XX] at h4 h5 h6 h7 h8
 refine⟨h1,h12,by simpa using h2,?_,?_,?_,?_,?_,?_,?_⟩
 .
  intro i o ho e he hb;unfold gF at h3;simp only[YQ,Zp,Yd,Ye,XX] at h3;have:=h3 i (Ya.1 ho).1 e (by rw[hat i o ho];exact he)
  rcases this with h|h
  .
   rw[hb] at h;cases h
  exact h
 .
  intro i hi hs j hj
  rcases h4 i (by simpa using hs) with h|h
  .
   omega
  exact h j hj
 .
  intro i o hi hne hnb ho
  rcases h5 i hi with h|h
  .
   exact absurd h hne
  have:=h.1;rw[hat i o ho,hnb] at this;exact this.resolve_right (by simp)
 .
  intro i hi hs
  rcases h7 i hs with h|h
  .
   omega
  exact h
 .
  intro i j x y hi hj hne hnj hx hy
  rcases h8 i hi with h|h
  .
   exact absurd h hne
  rcases h j hj with (h|h)|h
  .
   exact absurd h hnj
  .
   exact .inl h
  rw[hat j x hx,hat i y hy] at h;exact .inr h
 .
  intro i x y hi hne hx hy
  rcases h5 i hi with h|h
  .
   exact absurd h hne
  have:=h.2;rw[hat i x hx,hat k1 y hy] at this;exact this
 intro i j x y hij hj hne hnj hx hy z hz e
 rcases h6 j hj with h|h
 .
  exact absurd h hnj
 rcases h i om with h|h
 .
  exact absurd h hne
 rw[hat i x hx,hat j y hy,e] at h
 simp at h
 exact h hz
theorem Du [Glob P] {ro:Option Nat}{Q:Exit->S->Prop}{s sq:S}{id:Nat}{ops:Array Oper}(k1 k3 k2:Nat) {F:D->H->Nat->S}{o1:Oper}{f:Operand}{args:Array Operand}{ts:Array TypeId}{fid:FuncId}{first caps xs:List D}(R:D->H->Nat->Prop) (X:List PanicEntry->H->Nat->Prop)
  (hmix:P.follows .mixedOrders=true) (hD:uE C ops.toList k1 k3 k2=true) (ho:ops[k1]? = some o1) (hop:o1.op = .call { callee:=.value f,args:=args,argTypes:=ts }) (hg:o1.guard=none)
  (hfin:((List.range k3).filter (· != k1)).foldl (aJ P (words P) C ops.toList s.nx) s=sq) (hok:sq.ok) (hd:bB sq.n o1.dst=true)
  (hf:sq.ev f = .fn (.func fid) first caps) (hxg:(args.toList.map sq.ev).all sg=true) (hx:(args.toList.map sq.ev).map sd=xs) (hct:gJ P fid (first++xs++caps) sq.h (s.nx+k2) R X)
  (hst : ∀ res h' n',R res h' n' -> ∀ (i:Nat) o,i<k3->i≠k1->((bK ops.toList []).getD k1 0).testBit i=false->ops.toList[i]? = some o ->
   aM P (words P) C ops.toList s.nx i o sq.n sq.ev sq.t h'=((aM P (words P) C ops.toList s.nx i o sq.n sq.ev sq.t sq.h).1,h',(aM P (words P) C ops.toList s.nx i o sq.n sq.ev sq.t sq.h).2.2))
  (hF : ∀ res h' n',R res h' n'->aF P (words P) C ops.toList n' k3 ((ops.toList.drop k3).take (k2-k3)) { n:=sq.n,t:=sq.put o1.dst res,h:=h',nx:=n'+ops.size,ok:=True,e:=sq.e }=F res h' n')
  (hFo : ∀ res h' n',R res h' n'->(F res h' n').ok) (hFe : ∀ res h' n',R res h' n'->(F res h' n').e=sq.e)
  (hk : ∀ res h' n',R res h' n'->ax P ro ops k2 n' (F res h' n') Q)
  (hp : ∀ c h' n',X c h' n' -> ∀ t,Q (.panic c) { n:=sq.n,t:=t,h:=h',nx:=n',ok:=True,e:=sq.e }):DW P ro (.region id ops true) Q s:=by
 intro B g a w hs hU
 refine wpIn_region_any hmix ?_
 obtain⟨hs1,hm1⟩:=zY hs
 have Dc:=Vw hD
 have hlt:=Dc.lt
 have hle3:=Dc.le3
 have hle:=Dc.le
 have hrep : ∀ i,(Array.replicate ops.size false).getD i false=false:=by
  intro i
  by_cases h:i<ops.size<;>simp[Array.getD,h]
 have htodo:todoQ k1 k3 (Array.replicate ops.size false)=(List.range k3).filter (· != k1):=by
  unfold todoQ;exact Z6 fun i _=>by rw[hrep];simp
 have hlen:(todoQ k1 k3 (Array.replicate ops.size false)).length<k3:=by
  rw[htodo];have:=(List.length_filter_lt_length_iff_exists (p:=fun x=>x != k1) (l:=List.range k3)).2 ⟨k1,by simpa using hlt,by simp⟩
  simpa using this
 have hse:sq.e=s.e:=by rw[<- hfin];exact (wI _ _).2
 refine NM (B:=B) (C:=C) (g0:=g) (w0:=w) (b:=s.nx) (n:=0) (F:=F) Dc ho hop hg hd hf hxg hx hct hok hst (fun res h' n' hR=>⟨?_,hFo res h' n' hR⟩) (fun res h' n' hR g' a' w' q1 q2 q3=>?_) (fun c h' n' hXp t g' a' w' q1 q2 q3=>⟨_,g',hp c h' n' hXp t,q1,by rw[<- hse];exact q2.toX,q3,by rw[<- hse]⟩) ops.size _ s g a _ (by simp) (hrep k1) (fun j _=>hrep j) (by omega) (fun i o _ hi=>by rw[hrep] at hi;cases hi) hs1 hm1 (fun r hr=>.inl (hU r hr)) (by rw[htodo];exact hfin)
 .
  rw[<- hF res h' n' hR];exact (zQ (k2-k3) k3 _ (by simp;omega)).symm
 have:=hk res h' n' hR B g g' a' w w' q1 q2 q3
 simp only[hFe res h' n' hR,hse] at this
 exact this
theorem FM [Glob P] {ro:Option Nat}{Q:Exit->S->Prop}{ops:Array Oper}{i b:Nat}{s:S}(h:ax P ro ops i b { n:=s.n,t:=s.t,h:=s.h,nx:=s.nx,ok:=True,e:=s.e } Q):ax P ro ops i b s Q :=
 fun B g0 g a w0 w hs hm hU=>h B g0 g a w0 w ⟨hs.sz,hs.tm,hs.mem,hs.df,hs.en,hs.bd⟩ hm hU
section
variable [Glob P] (C : Con) {ro : Option Nat} {Q : Exit -> S -> Prop} {s sq : S} {ops : Array Oper} {id : Nat} {y : Code}
theorem zZ (k1 k3 k2:Nat) (fl:List (Nat×Nat)) {o1:Oper}{f:Operand}{args:Array Operand}{ts:Array TypeId}{fid:FuncId}{first caps xs:List D}{R:D->H->Nat->Prop}{X:List PanicEntry->H->Nat->Prop}
  (hmix:P.follows .mixedOrders=true:=by exact ik) (hD:uE C ops.toList k1 k3 k2=true:=by kernel_rfl) (hfl:sD C ops.toList k1 k3 fl=true:=by kernel_rfl) (ho:ops[k1]? = some o1:=by exact bC rfl) (hop:o1.op = .call { callee:=.value f,args:=args,argTypes:=ts }:=by exact rfl) (hg:o1.guard=none:=by exact rfl)
  (hfin:((List.range k3).filter (· != k1)).foldl (aJ P (words P) C ops.toList s.nx) s=sq:=by exact tY (by decide) (by decide) (by simp only[X8,X7,X4,Yf,S.put,Yr,Nat.reduceSub,Nat.reduceAdd,go_sem,ff];exact rfl) (by simp only[X8,X7,X4,Yf,S.put,Yr,Nat.reduceSub,Nat.reduceAdd,go_sem,ff];exact rfl)) (hok:sq.ok:=by (try simp only[go_sem,ff]);all_goals exact ok0) (hd:bB sq.n o1.dst=true:=by (try simp only[go_sem,ff]);all_goals (first|done|rfl|decide|simp))
  (hf:sq.ev f = .fn (.func fid) first caps:=by simp only[go_sem,ff];first|done|exact rfl) (hxg:(args.toList.map sq.ev).all sg=true:=by simp only[go_sem,ff]) (hx:(args.toList.map sq.ev).map sd=xs:=by simp only[go_sem,ff];first|done|exact rfl)
  (hct:gJ P fid (first++xs++caps) sq.h (s.nx+k2) R X)
  (hkeep : ∀ res h' n',R res h' n' -> ∀ p∈fl,∀ r,named r (sd (sq.t p.2))=true->h' r=sq.h r)
  (hFo : ∀ res h' n',R res h' n'->(aF P (words P) C ops.toList n' k3 ((ops.toList.drop k3).take (k2-k3)) { n:=sq.n,t:=sq.put o1.dst res,h:=h',nx:=n'+ops.size,ok:=True,e:=sq.e }).ok)
  (hk : ∀ res h' n',R res h' n'->ax P ro ops k2 n' (aF P (words P) C ops.toList n' k3 ((ops.toList.drop k3).take (k2-k3)) { n:=sq.n,t:=sq.put o1.dst res,h:=h',nx:=n'+ops.size,ok:=True,e:=sq.e }) Q)
  (hp : ∀ c h' n',X c h' n' -> ∀ t,Q (.panic c) { n:=sq.n,t:=t,h:=h',nx:=n',ok:=True,e:=sq.e }):DW P ro (.region id ops true) Q s :=
 (Du (F:=fun res h' n'=>(aF P (words P) C ops.toList n' k3 ((ops.toList.drop k3).take (k2-k3)) { n:=sq.n,t:=sq.put o1.dst res,h:=h',nx:=n'+ops.size,ok:=True,e:=sq.e })) k1 k3 k2 R X hmix hD ho hop hg hfin hok hd hf hxg hx hct (fun res h' n' hr i o hi hne hb ho=>wK hfl (hkeep res h' n' hr) i o hi hne hb ho) (fun _ _ _ _=>rfl) hFo (fun _ _ _ _=>kY _ _ _ _ _) hk hp)
theorem VA (k1 k3 k2:Nat) (fl:List (Nat×Nat)) {o1:Oper}{f:Operand}{args:Array Operand}{ts:Array TypeId}{fid:FuncId}{first caps xs:List D}{R:D->H->Nat->Prop}{X:List PanicEntry->H->Nat->Prop}
  (hmix:P.follows .mixedOrders=true:=by exact ik) (hD:uE C ops.toList k1 k3 k2=true:=by kernel_rfl) (hfl:sD C ops.toList k1 k3 fl=true:=by kernel_rfl) (ho:ops[k1]? = some o1:=by exact bC rfl) (hop:o1.op = .call { callee:=.value f,args:=args,argTypes:=ts }:=by exact rfl) (hg:o1.guard=none:=by exact rfl)
  (hfin:((List.range k3).filter (· != k1)).foldl (aJ P (words P) C ops.toList s.nx) s=sq:=by exact tY (by decide) (by decide) (by simp only[X8,X7,X4,Yf,S.put,Yr,Nat.reduceSub,Nat.reduceAdd,go_sem,ff];exact rfl) (by simp only[X8,X7,X4,Yf,S.put,Yr,Nat.reduceSub,Nat.reduceAdd,go_sem,ff];exact rfl)) (hok:sq.ok:=by (try simp only[go_sem,ff]);all_goals exact ok0) (hd:bB sq.n o1.dst=true:=by (try simp only[go_sem,ff]);all_goals (first|done|rfl|decide|simp))
  (hf:sq.ev f = .fn (.func fid) first caps:=by simp only[go_sem,ff];first|done|exact rfl) (hxg:(args.toList.map sq.ev).all sg=true:=by simp only[go_sem,ff]) (hx:(args.toList.map sq.ev).map sd=xs:=by simp only[go_sem,ff];first|done|exact rfl)
  (hct:gJ P fid (first++xs++caps) sq.h (s.nx+k2) R X)
  (hkeep : ∀ res h' n',R res h' n' -> ∀ p∈fl,∀ r,named r (sd (sq.t p.2))=true->h' r=sq.h r)
  (hFo : ∀ res h' n',R res h' n'->(aF P (words P) C ops.toList n' k3 ((ops.toList.drop k3).take (k2-k3)) { n:=sq.n,t:=sq.put o1.dst res,h:=h',nx:=n'+ops.size,ok:=True,e:=sq.e }).ok)
  (hk : ∀ res h' n',R res h' n'->ax P ro ops k2 n' (aF P (words P) C ops.toList n' k3 ((ops.toList.drop k3).take (k2-k3)) { n:=sq.n,t:=sq.put o1.dst res,h:=h',nx:=n'+ops.size,ok:=True,e:=sq.e }) (thenS (DW P ro y Q) Q))
  (hp : ∀ c h' n',X c h' n' -> ∀ t,(thenS (DW P ro y Q) Q) (.panic c) { n:=sq.n,t:=t,h:=h',nx:=n',ok:=True,e:=sq.e }):DW P ro (.seq (.region id ops true) y) Q s :=
 ae (Du (F:=fun res h' n'=>(aF P (words P) C ops.toList n' k3 ((ops.toList.drop k3).take (k2-k3)) { n:=sq.n,t:=sq.put o1.dst res,h:=h',nx:=n'+ops.size,ok:=True,e:=sq.e })) k1 k3 k2 R X hmix hD ho hop hg hfin hok hd hf hxg hx hct (fun res h' n' hr i o hi hne hb ho=>wK hfl (hkeep res h' n' hr) i o hi hne hb ho) (fun _ _ _ _=>rfl) hFo (fun _ _ _ _=>kY _ _ _ _ _) hk hp)
theorem wC {s s1:S}{i b:Nat}(hk:ax P ro ops i b { n:=s1.n,t:=s1.t,h:=s1.h,nx:=s1.nx,ok:=True,e:=s1.e } Q) (he:s=s1:=by simp only[X8,X7,X4,Yf,S.put,Yr,Nat.reduceSub,Nat.reduceAdd,go_sem,ff];first|done|exact rfl):ax P ro ops i b s Q:=by
 subst he
 exact FM hk
end
end Go.DL
namespace Go.Cmp
variable {α : Type} [Inhabited α] {c : α -> α -> Int}
theorem flat_len {n:Nat}:∀ {L:List (List α)},(∀ x∈L,x.length=n)->L.flatten.length=n*L.length
 | [],_=>by simp
 | x::L,h=>by
  rw[List.flatten_cons,XV,h x (by simp),flat_len fun y hy=>h y (by simp[hy]),YH,Nat.mul_succ,Nat.add_comm]
end Go.Cmp
namespace Go.Rec
open Go.DL Go.Str Go.Cmp
def mR (y x:RSet):RSet:=⟨y.name,y.ty,min y.life x.life,canon (y.data++x.data)⟩
end Go.Rec
namespace Go.Rec
open Go.DL Go.Str Go.Cmp
end Go.Rec
namespace Go.Jn
open Go.DL Go.Str Go.Rec Go.Cmp Go.Zon
def dZ:Nat->List Str->List Nat
 | _,[]=>[]
 | n,p::l=>(n+p.length)::dZ (n+p.length) l
theorem catB_cons (p:Str) (l:List Str):catB (p::l)=p++catB l:=by simp[catB]
theorem pJ : ∀ (n:Nat) (l:List Str),(dZ n l).length=l.length
 | _,[]=>rfl
 | n,p::l=>by simp[dZ,pJ (n+p.length) l]
theorem zV : ∀ (n:Nat) (l:List (Zon×Nat)),(cZ n l).length=l.length
 | _,[]=>rfl
 | n,p::l=>by simp[cZ,zV (n+p.2) l]
theorem Kz : ∀ (n:Nat) (l m:List (Zon×Nat)),cZ n (l++m)=cZ n l++cZ (n+sumL l) m
 | n,[],m=>by simp[cZ,sumL]
 | n,x::l,m=>by
  show (n+x.2)::cZ (n+x.2) (l++m)=_
  rw[Kz (n+x.2) l m,iX,Nat.add_assoc];rfl
theorem wH (c:Cnt):fr c []=[]:=by
 cases h:stepC c [] with
 | none=>exact iw h
 | some x=>have:=iD (z:=x.1) (n:=x.2) h;simp at this;omega
theorem ul {c:Cnt}{p:Str}{y:Zon}{n:Nat}(h:stepC c p=some (y,n)):nextF c p=(some y,n):=by unfold nextF;rw[h]
theorem rR {c:Cnt}{p:Str}(h:stepC c p=none):nextF c p=(c,0):=by unfold nextF;rw[h]
theorem SK (c:Cnt):∀ (l m:List (Zon×Nat)),ji c (l++m)=ji (ji c l) m:=by
 intro l m
 induction l generalizing c with
 | nil=>rfl
 | cons x l ih=>rw[X0,ql,ql];exact ih _
theorem BN : ∀ (l:List Str) (c:Cnt) (n:Nat),(∃ c',fB c l=some c') ↔ ((∀ p∈l,p≠[])/\cZ n (fr c (catB l))=dZ n l)
 | [],c,n=>by
  simp only[fB,Yh,exists_eq',true_iff];refine⟨fun p hp=>(by cases hp),?_⟩
  show cZ n (fr c [])=[]
  rw[wH];rfl
 | p::l,c,n=>by
  rw[catB_cons]
  constructor
  .
   rintro⟨c',h⟩;unfold fB at h
   split at h
   .
    rename_i q
    cases hs:stepC c p with
    | none=>rw[rR hs] at q;exact absurd rfl q.1
    | some x =>
     obtain⟨y,k⟩:=x;rw[ul hs] at q h;obtain⟨q1,q2⟩:=q;simp only at q1 q2 h;subst q2;obtain⟨i1,i2⟩:=(BN l (some y) (n+p.length)).1 ⟨c',h⟩;have hl:=rz (r:=catB l) hs;rw[YG] at hl;refine⟨fun q hq=>?_,?_⟩
     .
      rcases YK.1 hq with e|e
      .
       subst e;intro e;subst e;exact q1 rfl
      exact i1 q e
     rw[gI hl,List.drop_left' rfl]
     show (n+p.length)::cZ (n+p.length) _=_
     rw[i2];rfl
   cases h
  rintro⟨h1,h2⟩
  cases hs:stepC c (p++catB l) with
  | none=>rw[iw hs] at h2;cases h2
  | some x =>
   obtain⟨y,k⟩:=x;rw[gI hs] at h2;simp only[cZ,dZ,YP] at h2;obtain⟨h3,h4⟩:=h2;have hk:k=p.length:=by omega
   subst hk;have hp:=rz (r:=[]) hs;rw[List.take_left' rfl,YC] at hp;rw[List.drop_left' rfl] at h4;have h0:p.length≠0:=fun e=>h1 p (by simp) (X5 e)
   obtain⟨c',i⟩:=(BN l (some y) (n+p.length)).2 ⟨fun q hq=>h1 q (by simp[hq]),h4⟩
   refine⟨c',?_⟩;unfold fB;rw[ul hp,X6 ⟨h0,rfl⟩];exact i
theorem Hl : ∀ (l:List Str) (c c':Cnt),fB c l=some c'->c'=ji c (fr c (catB l))/\sumL (fr c (catB l))=(catB l).length
 | [],c,c',h=>by
  simp only[fB,Yh] at h;subst h;have:catB []=[]:=rfl;rw[this,wH];exact⟨rfl,rfl⟩
 | p::l,c,c',h=>by
  unfold fB at h
  split at h
  .
   rename_i q
   cases hs:stepC c p with
   | none=>rw[rR hs] at q;exact absurd rfl q.1
   | some x =>
    obtain⟨y,k⟩:=x;rw[ul hs] at q h;obtain⟨q1,q2⟩:=q;simp only at q1 q2 h;subst q2;obtain⟨i1,i2⟩:=Hl l (some y) c' h;have hl:=rz (r:=catB l) hs;rw[YG] at hl;rw[catB_cons,gI hl,List.drop_left' rfl,ql,iX,XV];exact⟨i1,by rw[i2]⟩
  cases h
theorem zI (b:Str):frs b=fr none b:=rfl
theorem pI (b:Str):wholeC b=ji none (frs b):=by
 unfold wholeC ji
 cases h:(frs b).getLast? <;> rfl
theorem uf (b:Str):(partB b).length=sumL (frs b):=by
 have:=wG _ none b (XY _)
 unfold partB
 rw[Yu]
 exact ZW this
theorem BP (b:Str):frs (partB b)=frs b:=UG _ none b (XY _)
theorem C9 (b r:Str):frs (partB b++r)=frs b++fr (wholeC b) r:=by
 have h:=UJ _ none (partB b) r (XY _) (by show sumL (frs (partB b))=_;rw[BP,uf])
 have e:fr none (partB b)=frs b:=BP b
 rw[e,<- pI] at h
 exact h
def uO (d:Dsk):Bool:=decide (d.safe.length<=1000000)&&decide (d.pend.length<=200)&&decide (∀ p∈d.pend,p≠[])&&decide (endsB (partB d.safe++catB d.pend)=endsB (partB d.safe)++dZ (partB d.safe).length d.pend)
theorem Ku (d:Dsk):endsB (partB d.safe++catB d.pend)=endsB (partB d.safe)++cZ (partB d.safe).length (fr (wholeC d.safe) (catB d.pend)):=by
 unfold endsB
 rw[C9,BP,Kz,Nat.zero_add,<- uf]
theorem Xz (d:Dsk):uO d=(openF d).isSome:=by
 unfold uO openF
 rw[Ku]
 by_cases h:1000000<d.safe.length\/200<d.pend.length
 .
  rw[X6 h]
  rcases h with h|h
  .
   rw[Y6 (show ¬ d.safe.length<=1000000 by omega)];simp
  rw[Y6 (show ¬ d.pend.length<=200 by omega)];simp
 rw[XZ h]
 have h1:d.safe.length<=1000000:=by omega
 have h2:d.pend.length<=200:=by omega
 rw[Y1 h1,Y1 h2,Zu,Zu]
 have k:=BN d.pend (wholeC d.safe) (partB d.safe).length
 cases hp:fB (wholeC d.safe) d.pend with
 | none =>
  rw[hp] at k;have : ¬ ((∀ p∈d.pend,p≠[])/\cZ (partB d.safe).length (fr (wholeC d.safe) (catB d.pend))=dZ (partB d.safe).length d.pend):=fun q=>by obtain⟨c',h⟩:=k.2 q;cases h
  show _=false
  rw[YA,X9,X9]
  by_cases q : ∀ p∈d.pend,p≠[]
  .
   exact .inr fun e=>this ⟨q,List.append_cancel_left e⟩
  exact .inl q
 | some c =>
  obtain⟨q1,q2⟩:=k.1 ⟨c,hp⟩
  show _=true
  rw[XW,decide_eq_true_iff,decide_eq_true_iff];exact⟨q1,by rw[q2]⟩
theorem lI {d:Dsk}{o:Opn}(h:openF d=some o):d.safe.length<=1000000/\d.pend.length<=200/\o.whole=partB d.safe/\o.size=((partB d.safe).length+(catB d.pend).length:Nat)/\o.saved=wholeC d.safe/\fB (wholeC d.safe) d.pend=some o.all:=by
 unfold openF at h
 split at h
 .
  cases h
 rename_i q
 split at h
 .
  cases h
 rename_i c hc
 cases h
 exact⟨om,om,rfl,by push_cast;rfl,rfl,hc⟩
theorem Rt {d:Dsk}{o:Opn}(h:openF d=some o):o.all=wholeC (partB d.safe++catB d.pend)/\partB (partB d.safe++catB d.pend)=partB d.safe++catB d.pend:=by
 obtain⟨_,_,_,_,_,h6⟩:=lI h
 obtain⟨h7,h8⟩:=Hl _ _ _ h6
 constructor
 .
  rw[pI,C9,SK,<- pI,h7]
 have e:partB (partB d.safe++catB d.pend)=(partB d.safe++catB d.pend).take (sumL (frs (partB d.safe++catB d.pend))):=rfl
 rw[e,C9]
 have:sumL (frs d.safe++fr (wholeC d.safe) (catB d.pend))=(partB d.safe++catB d.pend).length:=by
  rw[XV,uf,<- h8]
  simp[sumL]
 rw[this,YG]
theorem D7 (d:Dsk):allR d=if uO d=true then some (partB d.safe++catB d.pend) else none:=by
 rw[Xz]
 unfold allR
 cases h:openF d with
 | none=>rfl
 | some o=>obtain⟨_,_,h3,_⟩:=lI h;rw[YR,h3];rfl
def mG (w:Str):Zon:=if (cz (w,false)).2.2=true then zon0 else (cz (w,false)).1
def jK (w:Str):Dlt:=if (bA (w,false)).2.2=true then dlt0 else (bA (w,false)).1
def val1:D->Value
 | .v x=>x
 | _=>undef
@[go_sem] theorem val1_v (x:Value):val1 (.v x)=x:=rfl
def isE:Value->Bool
 | .nilIface=>false
 | _=>true
def Opn.d (o:Opn):List D:=.list false (o.whole.map bD) :: .i o.size::(o.saved.d++o.all.d)
def opn0:Opn:=⟨[],0,none,none⟩
def opnOf (d:Dsk):Opn:=(openF d).getD opn0
@[go_sem] theorem cnt_d (c:Cnt):c.d=[.v (.bool c.isSome),.v (.string (bs (c.getD zon0).apex)),.list false ((c.getD zon0).sets.map Sgd.d)]:=rfl
def mkC (b:Bool) (z:Zon):Cnt:=if b then some z else none
@[go_sem] theorem mkC_t (z:Zon):mkC true z=some z:=rfl
@[go_sem] theorem mkC_f (z:Zon):mkC false z=none:=rfl
@[go_sem] theorem mkC_c (c:Cnt):mkC c.isSome (c.getD zon0)=c:=by
 cases c<;>rfl
@[go_sem] theorem cnt1_agg {b:Bool}{s:ByteArray}{f:Bool}{rows:List (List D)}:cnt1 (.agg [.v (.bool b),.v (.string s),.list f rows])=mkC b (zon1 (.agg [.v (.string s),.list f rows])):=by
 cases b<;>rfl
attribute [go_sem] Option.isSome_some Option.isSome_none Option.getD_some Option.getD_none
@[go_sem] theorem dsk_d (x:Dsk):x.d=[.list false (x.safe.map bD),.list false (x.pend.map byR)]:=rfl
@[go_sem] theorem dsk1_agg {f g:Bool}{rows rows2:List (List D)}:dsk1 (.agg [.list f rows,.list g rows2])=⟨bytes1 (.list f rows),pend1 (.list g rows2)⟩:=rfl
@[go_sem] theorem ZaN {f:Bool}{l:List Str}:pend1 (.list f (l.map byR))=l:=lL (f:=byR) (g:=ofBy) (fun x=>by show bytes1 (.list false (x.map bD))=x;exact WC) l
@[go_sem] theorem ZaM {f:Bool}:pend1 (.list f [])=[]:=rfl
@[go_sem] theorem opn_d (o:Opn):o.d=[.list false (o.whole.map bD),.i o.size,.v (.bool o.saved.isSome),.v (.string (bs (o.saved.getD zon0).apex)),.list false ((o.saved.getD zon0).sets.map Sgd.d),.v (.bool o.all.isSome),.v (.string (bs (o.all.getD zon0).apex)),.list false ((o.all.getD zon0).sets.map Sgd.d)]:=rfl
@[go_sem] theorem Im {l:List Str}:aS (l.map byR)=true:=by
 induction l with
 | nil=>rfl
 | cons x l ih=>simp[go_sem,byR,aS,aZ,D.nr,ih]
@[go_sem] theorem dsk_eta (x:Dsk):(⟨x.safe,x.pend⟩:Dsk)=x:=rfl
end Go.Jn
namespace Go.DL
open Go.RowKit
variable {P : Program} {ro : Option Nat} {Q : Exit -> S -> Prop}
theorem xZ [Glob P] {C:Con}{s s1:S}{ops:Array Oper}{i b:Nat}(k:Nat) {o:Oper}{x:Operand}{d r:D}{xT t:TypeId}{v v':Value}(hrun : ∀ w:World,(Instr.typeAssert v xT t true).run P w = .ok v' w) (hv : ∀ (w:World) (g:Mem) q,Rep w g d q->q=v) (hr : ∀ (w:World) (g:Mem),Rep w g r v') (hik:i<=k) (ho:ops[k]? = some o) (hg:o.guard=none) (hop:o.op = .typeAssert x xT t true)
  (he:aF P (words P) C ops.toList b i ((ops.toList.drop i).take (k-i)) s=s1) (hok:s1.ok) (hd:bB s1.n o.dst=true) (hx:s1.ev x=d)
  (hk:ax P ro ops (k+1) b { n:=s1.n,t:=s1.put o.dst r,h:=s1.h,nx:=s1.nx,ok:=True,e:=s1.e } Q):ax P ro ops i b s Q:=by
 refine jD (C:=C) k (fun d h'=>d=r/\h'=s1.h) hik ho hg (fun c e=>by rw[hop] at e;cases e) he hok hd (fun B g a w hst _=>?_) (fun d h' ⟨hy,hh⟩=>by subst hy;subst hh;exact hk)
 have hxr:=bI hst x
 rw[hx] at hxr
 have hxv:=hv _ _ _ hxr
 refine⟨_,_,⟨rfl,rfl⟩,_,g,w,.inl ?_,hr w g,hst.mem,Mono.refl _ _,fun r hr=>.inl hr⟩
 obtain⟨od,oo,oty,op,oa,og⟩:=o
 simp only at hop
 subst hop
 simp[execOp,hxv,hrun]
theorem Mf {xT t:TypeId}{want:Array (String×TypeId)}{z:Value}{ti:TypeInfo}(hu:P.underlying t=some (.interface want)) (hti:P.info? t=some ti) (hz:ti.zero=some z) (w:World):(Instr.typeAssert .nilIface xT t true).run P w = .ok (.tuple #[z,.bool false]) w:=by
 simp[Instr.typeAssert,run_underlying hu,zeroValue,typeInfo,hti,hz]
theorem G7 [Glob P] {f:FuncId}{args:List D}{res:D}(hnr:args.all D.nr=true) (hc:RCt P f args (fun _=>none) 0 (fun d h' n'=>∃ k,cu h' k d/\wk (bN h' k d)=res)):PureCt P f args res:=by
 refine⟨hc.1,hnr,fun w I vs hI hgr hr=>?_⟩
 have hm:HM P (fun _=>none) (dK I) w:=by
  refine⟨fun _ _=>rfl,?_,?_,?_,hI,hgr⟩
  .
   intro r bl h;cases h
  .
   intro r r' b c c' s s' h;cases h
  intro r h;exact absurd rfl h
 refine (hc.2 w (dK I) vs hm (fun r h=>False.elim h) hr).mono ?_
 rintro e w' ⟨v,g',d,h',n',⟨k,hk,hres⟩,rfl,h2,hmem,hm',hU⟩
 refine⟨v,rfl,⟨hm'.os,hm'.tape,hm'.output,hm'.size,hm'.drawn,fun b hb=>hm'.same b hb (fun r c s h=>by cases h)⟩,?_⟩
 obtain⟨q1,q2⟩:=xN hmem k _ v (lJ h2) hk
 have q1:=q1.wk
 have q2:=xx _ q2
 rw[hres] at q1 q2
 refine q1.clean q2 fun b hb=>?_
 rcases hb with hb|⟨r,c,s,hb⟩
 .
  rcases hm'.inew b hb with h|h|⟨r,c,s,h⟩
  .
   exact .inl h
  .
   exact .inr ⟨h,hmem.imm b hb⟩
  cases h
 rcases hm'.new r b c s hb with⟨r',c',s',h⟩|h
 .
  cases h
 exact .inr ⟨h,(iQ hmem hb).1⟩
theorem Og [Glob P] {t:TypeId}{x:D}{a b c:Option D}{h h':H}(hn : ∀ r,named r x=true->h' r=h r):iY P t x a b c h'=iY P t x a b c h:=by
 cases x with
 | mrow r off len =>
  have:=hn r (by simp[named])
  unfold iY;simp only[this]
 | v x=>cases x<;>rfl
 | _=>rfl
theorem Rk [Glob P] {C:Con}{W:Words}{L:List Oper}{b i:Nat}{o:Oper}{ev:Operand->D}{t:Nat->D}{n:Nat}{h h':H}{ty:TypeId}{x:Operand}{l hi m:Option Operand}(hg:o.guard=none) (ho:o.op = .slice ty x l hi m)
  (hn : ∀ r,named r (sd (ev x))=true->h' r=h r):aM P W C L b i o n ev t h'=((aM P W C L b i o n ev t h).1,h',(aM P W C L b i o n ev t h).2.2):=by
 simp only[aM,hg,aL,ho,bX,Ym,Y9,aQ,Yb,aN,still,Og hn]
def Dg (C:Con) (L:List Oper) (k1 k2:Nat) (fl:List (Nat×Nat)):Bool:=(List.range k2).all fun i=>i==k1||((bK L []).getD k1 0).testBit i||((L.getD i default).guard.isNone&&(aT C (L.getD i default).op == .none||fl.any fun p=>p.1==i&&match (L.getD i default).op with
 | .load _ (.tmp t)=>t==p.2
 | .slice _ (.tmp t) _ _ _=>t==p.2
 | _=>false))
theorem UN [Glob P] {C:Con}{L:List Oper}{k1 k2:Nat}{fl:List (Nat×Nat)}(h:Dg C L k1 k2 fl=true) {h':H}{sq:S}{b:Nat}(hk : ∀ p∈fl,∀ r,named r (sd (sq.t p.2))=true->h' r=sq.h r) (i:Nat) (o:Oper) (hi:i<k2) (hne:i≠k1) (hb:((bK L []).getD k1 0).testBit i=false) (ho:L[i]? = some o) :
  aM P (words P) C L b i o sq.n sq.ev sq.t h'=((aM P (words P) C L b i o sq.n sq.ev sq.t sq.h).1,h',(aM P (words P) C L b i o sq.n sq.ev sq.t sq.h).2.2):=by
 have hat:L.getD i default=o:=by simp only[List.getD,ho,YT]
 unfold Dg at h
 have h1:=YQ.1 h i (Zp.2 hi)
 rw[hat,hb] at h1
 simp only[ZR,Yd,YE,XW,List.any_eq_true] at h1
 rcases h1 with h1|⟨hg,h1|⟨p,hp,h2,h3⟩⟩
 .
  exact absurd h1 hne
 .
  exact yQ (Zb.1 hg) (.inl h1)
 cases hop:o.op with
 | load ty x =>
  rw[hop] at h3
  cases x with
  | tmp t =>
   simp only[YE] at h3;subst h3;refine yQ (Zb.1 hg) (.inr ?_);rw[hop];refine⟨trivial,fun d hd r hr=>?_⟩
   simp only[aQ,Yb,Yt,Yq] at hd;subst hd;exact hk p hp r hr
  | _=>simp at h3
 | slice ty x l hh m =>
  rw[hop] at h3
  cases x with
  | tmp t =>
   simp only[YE] at h3;subst h3;exact Rk (Zb.1 hg) hop fun r hr=>hk p hp r hr
  | _=>simp at h3
 | _=>rw[hop] at h3;simp at h3
section
variable [Glob P] (C : Con) {s sq : S} {ops : Array Oper} {id : Nat} {y : Code}
theorem Vz (k1 k3 k2:Nat) (fl:List (Nat×Nat)) {o1:Oper}{f:Operand}{args:Array Operand}{ts:Array TypeId}{fid:FuncId}{first caps xs:List D}{R:D->H->Nat->Prop}{X:List PanicEntry->H->Nat->Prop}
  (hmix:P.follows .mixedOrders=true:=by exact ik) (hD:uE C ops.toList k1 k3 k2=true:=by kernel_rfl) (hfl:Dg C ops.toList k1 k3 fl=true:=by kernel_rfl) (ho:ops[k1]? = some o1:=by exact bC rfl) (hop:o1.op = .call { callee:=.value f,args:=args,argTypes:=ts }:=by exact rfl) (hg:o1.guard=none:=by exact rfl)
  (hfin:((List.range k3).filter (· != k1)).foldl (aJ P (words P) C ops.toList s.nx) s=sq:=by exact tY (by decide) (by decide) (by simp only[X8,X7,X4,Yf,S.put,Yr,Nat.reduceSub,Nat.reduceAdd,go_sem,ff];exact rfl) (by simp only[X8,X7,X4,Yf,S.put,Yr,Nat.reduceSub,Nat.reduceAdd,go_sem,ff];exact rfl)) (hok:sq.ok:=by (try simp only[go_sem,ff]);all_goals exact ok0) (hd:bB sq.n o1.dst=true:=by (try simp only[go_sem,ff]);all_goals (first|done|rfl|decide|simp))
  (hf:sq.ev f = .fn (.func fid) first caps:=by simp only[go_sem,ff];first|done|exact rfl) (hxg:(args.toList.map sq.ev).all sg=true:=by simp only[go_sem,ff]) (hx:(args.toList.map sq.ev).map sd=xs:=by simp only[go_sem,ff];first|done|exact rfl)
  (hct:gJ P fid (first++xs++caps) sq.h (s.nx+k2) R X)
  (hkeep : ∀ res h' n',R res h' n' -> ∀ p∈fl,∀ r,named r (sd (sq.t p.2))=true->h' r=sq.h r)
  (hFo : ∀ res h' n',R res h' n'->(aF P (words P) C ops.toList n' k3 ((ops.toList.drop k3).take (k2-k3)) { n:=sq.n,t:=sq.put o1.dst res,h:=h',nx:=n'+ops.size,ok:=True,e:=sq.e }).ok)
  (hk : ∀ res h' n',R res h' n'->ax P ro ops k2 n' (aF P (words P) C ops.toList n' k3 ((ops.toList.drop k3).take (k2-k3)) { n:=sq.n,t:=sq.put o1.dst res,h:=h',nx:=n'+ops.size,ok:=True,e:=sq.e }) (thenS (DW P ro y Q) Q))
  (hp : ∀ c h' n',X c h' n' -> ∀ t,(thenS (DW P ro y Q) Q) (.panic c) { n:=sq.n,t:=t,h:=h',nx:=n',ok:=True,e:=sq.e }):DW P ro (.seq (.region id ops true) y) Q s :=
 ae (Du (F:=fun res h' n'=>(aF P (words P) C ops.toList n' k3 ((ops.toList.drop k3).take (k2-k3)) { n:=sq.n,t:=sq.put o1.dst res,h:=h',nx:=n'+ops.size,ok:=True,e:=sq.e })) k1 k3 k2 R X hmix hD ho hop hg hfin hok hd hf hxg hx hct (fun res h' n' hr i o hi hne hb ho=>UN hfl (hkeep res h' n' hr) i o hi hne hb ho) (fun _ _ _ _=>rfl) hFo (fun _ _ _ _=>kY _ _ _ _ _) hk hp)
end
end Go.DL
namespace Go.Zon
open Go.DL
def semS (f:D):Sgd->Option Sgd:=match f with
 | .fn (.func k) _ [d]=>if k=1000000 then d2S (mapc1 d) else eY (mapc1 d)
 | _=>some
@[go_sem] theorem semS_54:semS (.fn (.func 54) [] [])=some:=rfl
@[go_sem] theorem semS_157:semS (.fn (.func 157) [] [])=some:=rfl
end Go.Zon
namespace Go.Proofs.YtjngdcldglkolaaGreatDoor
open Go.DL Go.Str Go.Rec Go.Cmp Go.Zon
set_option maxRecDepth 10000
variable [Glob Tryz.prog] [Told]
end Go.Proofs.YtjngdcldglkolaaGreatDoor
namespace Go.Proofs.YtjngdcldglkolaaGreatDoor
open Go.DL Go.Str Go.Rec Go.Cmp Go.Zon
set_option maxRecDepth 10000
variable [Glob Tryz.prog] [Told]
end Go.Proofs.YtjngdcldglkolaaGreatDoor
namespace Go.Proofs.YtjngdcldglkolaaGreatDoor
open Go.DL Go.Str Go.Rec Go.Cmp Go.Zon
set_option maxRecDepth 10000
variable [Glob Tryz.prog] [Told]
end Go.Proofs.YtjngdcldglkolaaGreatDoor
namespace Go.DL
open Go.RowKit
variable {P : Program}
def Ec (cf:List D->List D->Int) (rows:List (List D)):Prop:=rows.Pairwise fun x y=>¬ cf y x<0
structure XG (cf:List D->List D->Int) (rows:List (List D)):Prop where
 irrefl : ∀ x∈rows,¬ cf x x<0
 trans : ∀ x∈rows,∀ y∈rows,∀ z∈rows,cf x y<0->cf y z<0->cf x z<0
 ntrans : ∀ x∈rows,∀ y∈rows,∀ z∈rows,¬ cf x y<0 -> ¬ cf y z<0 -> ¬ cf x z<0
theorem Bg (enc:Nat->List Value) (k:Nat) (w:World) (b m:Nat) (d:Array Nat) (os:Array Obj) (i:Nat) (hi:i<w.heap.size) (hb:i≠b):(Go.Proofs.sortWorldK enc k w b 0 m d os).heap[i]? = w.heap[i]? := by
 unfold Go.Proofs.sortWorldK Go.Sort.putRowK Go.Sort.putRow Go.Sort.mapBlock Go.Sort.grow
 simp only[Go.Sort.ahead]
 rw[Array.getElem?_append_left (by simpa using hi),Array.getElem?_modify,XZ (Ne.symm hb)]
theorem NY (enc:Nat->List Value) (k:Nat) (w:World) (b m:Nat) (d:Array Nat) (os:Array Obj) {cur:Array Value}{ty:TypeId}(hb:w.heap[b]? = some (.cells cur ty (0,0))) :
  (Go.Proofs.sortWorldK enc k w b 0 m d os).heap[b]? = some (.cells (Go.Sort.putCells id 0 (Go.Sort.flatK enc k d) cur) ty (0,0)):=by
 have hi:b<w.heap.size:=(Yk.1 hb).1
 unfold Go.Proofs.sortWorldK Go.Sort.putRowK Go.Sort.putRow Go.Sort.mapBlock Go.Sort.grow
 simp only[Go.Sort.ahead]
 rw[Array.getElem?_append_left (by simpa using hi),Array.getElem?_modify,X6 rfl,hb]
 rfl
theorem Fa (enc:Nat->List Value) (k:Nat) (w:World) (b m:Nat) (d:Array Nat) (os:Array Obj):(Go.Proofs.sortWorldK enc k w b 0 m d os).heap.size=w.heap.size+os.size:=by
 unfold Go.Proofs.sortWorldK Go.Sort.putRowK Go.Sort.putRow Go.Sort.mapBlock Go.Sort.grow
 simp[Go.Sort.ahead]
theorem W9 {w w':World}(h:xh w w'):∃ q os,w'=Go.Sort.grow (w.drewN q) os:=by
 refine⟨w'.drawn-w.drawn,w'.heap.extract w.heap.size w'.heap.size,?_⟩
 obtain⟨h1,h2,h3,h4,h5,h6⟩:=h
 have hh:w'.heap=w.heap++w'.heap.extract w.heap.size w'.heap.size:=by
  apply Array.ext_getElem?
  intro i
  by_cases hi:i<w.heap.size
  .
   rw[Array.getElem?_append_left hi,h6 i hi]
  rw[Array.getElem?_append_right (by omega),Array.getElem?_extract]
  by_cases hj:i<w'.heap.size
  .
   rw[X6 (by omega)]
   congr 1
   omega
  rw[XZ (by omega),Array.getElem?_eq_none (by omega)]
 cases w'
 cases w
 simp only at h1 h2 h3 h5 hh
 simp only[Go.Sort.grow,World.drewN,World.mk.injEq]
 refine⟨hh,h2,?_,h1,h3⟩
 omega
theorem NW [Glob P] {ρ:Go.Shelf.Ren}(L:Go.Proofs.SlLaysF0.n6 P ρ) {fS ty:Nat}(hfS:ρ.f 6=fS) (hty:ρ.t 24=ty) (aE : ∀ w,(isAgg ty).run P w = .ok true w) (zE : ∀ w,(Go.sizeOf ty).run P w = .ok (P.cellsOf ty) w)
  {r nf g:Nat} {rows:List (List D)} {h:H} {caps:List D} (cf:List D->List D->Int) (hbS:bV P fS=true) (hr:h r=some ⟨ty,rows⟩) (hnr:aS rows=true) (hcn:caps.all D.nr=true) (hmax:rows.length<4611686018427387904)
  (hcmp : ∀ x∈rows,∀ y∈rows,PureCt P g ([.agg x,.agg y]++caps) (.i (cf x y))) (hO:XG cf rows) :
  RCt P fS [.mrow r 0 rows.length,.fn (.func g) [] caps] h nf (fun d h' n'=>d = .tuple []/\n'=nf /\ ∃ rows',rows'.Perm rows/\Ec cf rows'/\h'=upd h r (some ⟨ty,rows'⟩)):=by
 refine⟨hbS,fun w gm vs hm hU hrs=>?_⟩
 obtain⟨x,vs1,rfl,hx,h1⟩:=hrs.of_cons
 obtain⟨f,vs2,rfl,hf,h2⟩:=h1.of_cons
 rw[h2.of_nil]
 cases hf with|fn _ _ _ fs cs l1 l2 r1 r2 =>
 have hfs:fs = #[]:=ZP (by simpa using l1.symm)
 subst hfs
 cases hx with|mrow _ _ _ _ _ hUr hv =>
 obtain⟨blk,c,q1,q2,q3,q4,q5⟩:=hm.blk r _ hr
 obtain⟨v1,v2⟩:=hv _ _ _ q1
 by_cases hne:rows=[]
 .
  subst hne;have hx' : ∃ p cap,x = .slice p 0 cap:=by
   rcases v2 with⟨_,a,rfl⟩|⟨_,b,_,rfl⟩
   .
    exact⟨a,0,rfl⟩
   exact⟨_,_,rfl⟩
  obtain⟨p,cap,rfl⟩:=hx';have key:=Go.Proofs.AnyF.slices_SortFunc_none L p cap (.func (.func g) #[] cs) w;rw[hfS] at key;refine callsIn_wide.2 (key.mono ?_);rintro e w' ⟨rfl,rfl⟩;refine⟨_,gm,_,h,nf,⟨rfl,rfl,[],.refl _,.nil,?_⟩,rfl,.mk_tuple (vs:=#[]) .nil,hm,Mono.refl _ _,hU⟩
  funext i
  unfold upd
  split
  .
   rename_i e;subst e;exact hr
  rfl
 have hn0:0<rows.length:=Zr.2 hne
 rcases q5 with⟨_,q5⟩|⟨b,cur,rfl,q6,q7,q8,q9⟩
 .
  simp only at q3;omega
 have q6:=q6.cells v1.2
 have q7:=q7 v1.2
 have q4:=v1.2
 rcases v2 with⟨e0,a,rfl⟩|⟨hc0,b',hb',rfl⟩
 .
  simp only at q3;omega
 cases hb'
 have hbw:b<w.heap.size:=(Yk.1 q6).1
 generalize hk:P.cellsOf ty=k at *
 simp only at q3
 let ix:Nat->Nat:=fun i=>if i<rows.length then i else 0
 have hix : ∀ i,ix i<rows.length:=fun i=>by simp only[ix];split<;>assumption
 have hixs : ∀ i,i<rows.length->ix i=i:=fun i hi=>by simp only[ix];rw[X6 hi]
 let enc:Nat->List Value:=fun i=>(List.range k).map fun j=>cur.getD (ix i*k+j) undef
 have hklen : ∀ i,(enc i).length=k:=fun i=>by simp[enc]
 have hrow : ∀ i,i<rows.length->(rows.getD i []).length=k /\ ∀ (j:Nat) d,(rows.getD i [])[j]? = some d->(enc i)[j]? = some (cur.getD (i*k+j) undef)/\cur[i*k+j]? = some (cur.getD (i*k+j) undef)/\(cur.getD (i*k+j) undef).oneCell'=true/\Rep w gm d (cur.getD (i*k+j) undef):=by
  intro i hi;have e1:rows[i]? = some (rows.getD i []):=by simp[List.getD,hi]
  obtain⟨p1,p2⟩:=q9 i _ e1;simp only[hk] at p1 p2;refine⟨p1,fun j d hd=>?_⟩
  obtain⟨u,u1,u2,u3⟩:=p2 j d hd;have e2:cur.getD (i*k+j) undef=u:=by simp[Zq,u1]
  have hj:j<k:=by rw[<- p1];exact (Ya.1 hd).1
  rw[e2];refine⟨by simp[enc,hj,hixs i hi];rw[<- e2];simp[Zq],u1,u2,u3⟩
 have hencI : ∀ i,enc i=enc (ix i):=fun i=>by simp only[enc];rw[hixs (ix i) (hix i)]
 have hone : ∀ i,∀ v∈enc i,v.oneCell'=true:=by
  intro i v hv;rw[hencI] at hv;obtain⟨j,hj⟩:=Zf hv;have hjk:j<k:=by rw[<- hklen (ix i)];exact (Ya.1 hj).1
  obtain⟨p1,p2⟩:=hrow (ix i) (hix i);have hd:(rows.getD (ix i) [])[j]? = some ((rows.getD (ix i) [])[j]'(by omega)):=by simp
  obtain⟨u1,_,u2,_⟩:=p2 j _ hd;rw[u1] at hj
  cases hj
  exact u2
 let rw':Nat->List D:=fun i=>rows.getD (ix i) []
 have hmem : ∀ i,rw' i∈rows:=fun i=>by
  have:rw' i=rows[ix i]'(hix i):=by simp[rw',List.getD,hix i]
  rw[this];exact Yv _
 let cn:Nat->Nat->Int:=fun i j=>cf (rw' i) (rw' j)
 have hswo:Go.Sort.SWO (Go.Proofs.ltOf cn):=by
  refine⟨fun x=>?_,fun x y z p1 p2=>?_,fun x y z p1 p2=>?_⟩
  .
   simp only[Go.Proofs.ltOf,cn,X9];exact hO.irrefl _ (hmem x)
  .
   simp only[Go.Proofs.ltOf,cn,XX] at *;exact hO.trans _ (hmem x) _ (hmem y) _ (hmem z) p1 p2
  simp only[Go.Proofs.ltOf,cn,X9] at *;exact hO.ntrans _ (hmem x) _ (hmem y) _ (hmem z) p1 p2
 let d:Array Nat:=Array.range rows.length
 have hds:d.size=rows.length:=by simp[d]
 have hdg : ∀ i,i<rows.length->d[i]! = i:=fun i hi=>by simp[d,hi]
 have hmodlt : ∀ t,t<rows.length*k->t / k<rows.length/\t % k<k:=fun t ht=>⟨Nat.div_lt_of_lt_mul (by rw[ZE];exact ht),Nat.mod_lt _ q2⟩
 have hget : ∀ i j,i<rows.length->j<k->(enc i)[j]! = cur.getD (i*k+j) undef:=by
  intro i j hi hj;obtain⟨p1,p2⟩:=hrow i hi;have hd:(rows.getD i [])[j]? = some ((rows.getD i [])[j]'(by omega)):=by simp
  rw[List.getElem!_eq_getElem?_getD,(p2 j _ hd).1];rfl
 have hH:Go.Sort.HoldsK enc k w b 0 d:=by
  intro t ht;simp only[Go.Sort.size_flatK,hds] at ht;rw[Go.Sort.get_flatK _ _ _ _ (by rw[hds];exact ht)]
  obtain⟨t1,t2⟩:=hmodlt t ht;rw[hdg _ t1,hget _ _ t1 t2];have e:t / k*k+t % k=t:=by rw[ZE];exact Nat.div_add_mod t k
  rw[e,Nat.zero_add];have hlt:t<cur.size:=by rw[q7];exact YB ht (Y3 k q3)
  refine⟨?_,?_⟩
  .
   simp[World.cell?,q6,hlt,id,Zq]
  simp[World.frozen?,q6]
 have hcl:Go.Proofs.CmpLays P g cs enc k cn b 0 d.size w:=by
  intro m os dk hdk x y;obtain⟨hbd,_,hct⟩:=hcmp _ (hmem x) _ (hmem y);have hW:=Fa enc k w b m dk os;have hI : ∀ b',gm.I b'->b'<(Go.Proofs.sortWorldK enc k w b 0 m dk os).heap.size:=fun b' hb'=>by rw[hW];have:=hm.imm b' hb';omega
  have hrep : ∀ {d:D} {v:Value},d.nr=true->Rep w gm d v->Rep (Go.Proofs.sortWorldK enc k w b 0 m dk os) (dK gm.I) d v:=by
   intro d v hd hv;have h1:=Rep.clean (g':=dK gm.I) hv hd (fun b hb=>hb)
   refine Rep.mono (g:=dK gm.I) (g':=dK gm.I) (fun b' hb'=>⟨hb',?_⟩) (fun _ h=>h) (fun _ h=>.inl rfl) h1
   exact Bg enc k w b m dk os b' (hm.imm b' hb') (fun e=>q8 (e ▸ hb'))
  have hagg : ∀ i,Rep (Go.Proofs.sortWorldK enc k w b 0 m dk os) (dK gm.I) (.agg (rw' i)) (.agg (enc i).toArray):=by
   intro i;rw[hencI i];obtain⟨p1,p2⟩:=hrow (ix i) (hix i);refine .mk_agg ⟨by rw[p1,hklen],fun j d v e1 e2=>?_⟩
   obtain⟨u1,_,_,u4⟩:=p2 j d e1;rw[u1] at e2
   cases e2
   exact hrep (jL (ui hnr (hmem i)) (Yl e1)) u4
  have hargs:Reps (Go.Proofs.sortWorldK enc k w b 0 m dk os) (dK gm.I) ([.agg (rw' x),.agg (rw' y)]++caps) ([.agg (enc x).toArray,.agg (enc y).toArray]++cs.toList):=by
   refine Reps.append (.cons (hagg x) (.cons (hagg y) .nil)) ⟨by simpa using l2,fun i d v e1 e2=>?_⟩
   exact hrep (YQ.1 hcn d (Yl e1)) (r2 i d v e1 (by simpa using e2))
  have:=callsIn_wide.1 (hct _ gm.I _ hI (hm.gr.later fun b' hb'=>⟨hb',Bg enc k w b m dk os b' (hm.imm b' hb') (fun e=>q8 (e ▸ hb'))⟩) hargs)
  have ea:([.agg (enc x).toArray,.agg (enc y).toArray]++cs.toList:List Value).toArray = #[.agg (enc x).toArray,.agg (enc y).toArray]++cs:=by apply Zl;simp
  rw[ea] at this;refine this.mono ?_;rintro e w' ⟨v,rfl,hb,hv⟩;refine⟨?_,W9 hb⟩;rw[hv.v_inv]
 have key:=Go.Proofs.AnyQ.slices_SortFunc L k (by rw[hty];exact aE) (by rw[hty];exact zE) enc hklen hone cn hswo g cs b 0 c d w (fun args w=>lZ (hcmp _ (hmem 0) _ (hmem 0)).1 args w) hcl hH hbw (by rw[hds];exact hmax)
 rw[hfS,hds] at key
 have ev:(Value.slice (some ⟨b,0*k,Option.none⟩) rows.length (c-0))=Value.slice (some ⟨b,0,Option.none⟩) rows.length c:=by simp
 rw[ev]
 refine callsIn_wide.2 (key.mono ?_)
 rintro e w' ⟨rfl,d',n',os,hperm,hsort,rfl⟩
 obtain⟨hsz,_,hpm⟩:=hperm
 rw[hds] at hsz
 have hex : ∀ a:Array Nat,a.size=rows.length->a.extract 0 rows.length=a:=fun a ha=>by rw[<- ha];exact Array.extract_size
 rw[hex d' hsz,hex d hds] at hpm
 have hlt' : ∀ i,i<rows.length->d'[i]! < rows.length:=by
  intro i hi;have h1:d'[i]! ∈ d'.toList:=by
   rw[getElem!_pos d' i (by omega)]
   simp
  have:=hpm.mem_iff.1 h1
  simpa [d] using this
 let rows':List (List D):=d'.toList.map rw'
 have hrows:d.toList.map rw'=rows:=by
  apply List.ext_getElem?
  intro i
  by_cases hi:i<rows.length
  .
   simp[d,hi,rw',hixs i hi,List.getD]
  simp[d,hi]
 have hP:rows'.Perm rows:=by rw[<- hrows];exact hpm.map rw'
 have hS:Ec cf rows':=by
  unfold Ec;rw[ZM];intro i j hi hj hij;have hj':j<rows.length:=by simpa [rows',hsz] using hj
  have:=hsort i j (Yo _) hij hj';simp only[Go.Proofs.ltOf,cn,X9] at this;rw[getElem!_pos d' i (by omega),getElem!_pos d' j (by omega)] at this
  simpa [rows'] using this
 have hl':rows'.length=rows.length:=by simp[rows',hsz]
 have hput:=hm.put (h':=upd h r (some ⟨ty,rows'⟩)) (w':=Go.Proofs.sortWorldK enc k w b 0 n' d' os) r b c ⟨ty,rows'⟩ (Go.Sort.putCells id 0 (Go.Sort.flatK enc k d') cur)
  (.inr (by simp only[hk];exact q1)) (upd_same _ _ _) (fun r' hr'=>.inl (upd_ne _ _ _ _ hr')) (.inr ⟨r,c,_,q1,.inl rfl⟩) (NY enc k w b n' d' os q6) (by simp[Go.Sort.putCells,q7,hk]) (by simp only[hk];exact q2)
  (by simp only[hl'];exact q3) q4 (by
   intro i row hi;have hil:i<rows.length:=by rw[<- hl'];exact (Ya.1 hi).1
   have e1:row=rows.getD (d'[i]!) []:=by
    simp only[rows',YJ] at hi;rw[getElem!_pos d' i (by omega)]
    have:d'.toList[i]? = some d'[i]:=by simp
    rw[this] at hi;simp only[YR,Yh] at hi;rw[<- hi];simp only[rw'];rw[hixs _ (by have:=hlt' i hil;rwa [getElem!_pos d' i (by omega)] at this)]
   obtain⟨p1,p2⟩:=hrow _ (hlt' i hil);rw[<- e1] at p1 p2;simp only[hk];refine⟨p1,fun j dd hd=>?_⟩
   have hjk:j<k:=by rw[<- p1];exact (Ya.1 hd).1
   obtain⟨u1,u2,u3,u4⟩:=p2 j dd hd;have hbound:i*k+j<rows.length*k:=by
    have:=Y3 k (show i+1<=rows.length from hil)
    rw[Zo,Nat.one_mul] at this;omega
   have hcs:i*k+j<cur.size:=by rw[q7];exact YB hbound (Y3 k q3)
   refine⟨_,?_,u3,u4⟩;have hdiv:(i*k+j) / k=i:=by rw[ZE,Nat.mul_add_div q2,Nat.div_eq_of_lt hjk];rfl
   have hmod:(i*k+j) % k=j:=by rw[ZE,Z0,Zw hjk]
   simp only[Go.Sort.putCells,Array.getElem?_mapIdx,ZN hcs,YR];rw[X6 ⟨Yo _,by simp only[Go.Sort.size_flatK,hsz];omega⟩,Nat.sub_zero,Go.Sort.get_flatK _ _ _ _ (by rw[hsz];exact hbound),hdiv,hmod,hget _ _ (hlt' i hil) hjk]
   rfl)
  ⟨rfl,rfl,rfl,by rw[Fa];omega,fun i hi hne=>Bg enc k w b n' d' os i hi (fun e=>hne (by rw[e]))⟩ (by unfold Go.Proofs.sortWorldK Go.Sort.putRowK Go.Sort.putRow Go.Sort.mapBlock Go.Sort.grow Go.Sort.ahead;exact ZJ _ _)
 obtain⟨g',g1,g2,g3,g4,g5⟩:=hput
 exact⟨_,g',_,_,nf,⟨rfl,rfl,rows',hP,hS,rfl⟩,rfl,.mk_tuple (vs:=#[]) .nil,g4,g5,fun r' hr'=>by
  rcases (g2 r').1 hr' with h|h
  .
   exact hU _ h
  subst h;exact hU _ hUr⟩
end Go.DL
namespace Go.Zon
open Go.DL Go.Str Go.Rec Go.Cmp
def DJ (l:List Qst):Nat->List Qst
 | 0=>[]
 | k+1=>if k=0\/l[k]! ≠ l[k-1]! then DJ l k++[l[k]!] else DJ l k
def cpF (l:List Qst):List Qst:=DJ l l.length
def NJ (d e:Dlt):List Sgd:=bU ⟨d.apex,d.put⟩ e
def BK (d e:Dlt):List Sgd:=dV (NJ d e++e.put)
def KM (d e:Dlt):List Qst:=(cpF (N8 (d.drop++e.drop))).filterMap (j3S (mapP (BK d e)))
def uniP (d e:Dlt):Dlt:=⟨d.apex,d.frm,e.too,KM d e,BK d e⟩
def joinP (d e:Dlt):Dlt×Int :=
 if dltOk d=false\/dltOk e=false\/d.apex≠e.apex then (dlt0,1) else if d.too≠e.frm\/befB d.frm e.too=false then (dlt0,23) else
 if 20000<(KM d e).length\/20000<(BK d e).length then (dlt0,2) else (uniP d e,0)
theorem new_mem {z:Zon}{d:Dlt}{x:Sgd}:x∈(ig z d).sets ↔ (x∈z.sets/\x.q ∉ d.drop /\ ∀ s∈d.put,s.q≠x.q)\/x∈d.put:=by
 show x∈dV _ ↔ _
 rw[sortS_mem,Yx,stay_mem]
theorem Ao {z:Zon}{d:Dlt}{x:Zon}(h:applyP z d=(x,0)):x=ig z d/\AOk z d:=by
 rcases Xl z d with ha|⟨ha,_⟩|ha|ha|⟨ha,hk⟩
 .
  rw[ha] at h;cases h
 .
  rw[ha] at h;cases h
 .
  rw[ha] at h;cases h
 .
  rw[ha] at h;cases h
 rw[ha] at h;exact⟨(YI _ _ _ _ ▸ h).1.symm,hk⟩
theorem Js {α:Type}[Inhabited α] {c:α->α->Int}(h:Cm c) {gt:α->Bool}{l:List α}{s:α}(hl:jA c l) (hg : ∀ x∈l,gt x=decide (0<c x s)) (hn : ∀ x∈l,c x s≠0):∀ k,k<=l.length ->
  jA c (cO gt l s k).1/\(∀ x∈(cO gt l s k).1,∀ j,k<=j->j<l.length->c x l[j]! < 0)/\((cO gt l s k).2=false -> ∀ x∈(cO gt l s k).1,c x s<0)/\(∀ x,x∈(cO gt l s k).1 ↔ x∈l.take k\/((cO gt l s k).2=true/\x=s))
 | 0,_=>⟨.nil,by simp[cO],by simp[cO],by simp[cO]⟩
 | k+1,hk=>by
  obtain⟨h1,h2,h3,h4⟩:=Js h hl hg hn k om;have hm:l[k]! ∈ l:=dW om;have hgk:=hg _ hm;have hnk:=hn _ hm;have hat : ∀ j,k+1<=j->j<l.length->c l[k]! l[j]! < 0:=fun j h5 h6=>lG hl om h6
  by_cases e:(cO gt l s k).2=false/\gt l[k]! = true
  .
   rw[Jr e];obtain⟨e1,e2⟩:=e;rw[e2] at hgk;have hgt:0<c l[k]! s:=Zj hgk.symm;have hlt:c s l[k]! < 0:=by have:=h.anti l[k]! s;omega
   refine⟨?_,fun x hx j h5 h6=>?_,fun q=>by simp at q,fun x=>?_⟩
   .
    refine Zi.2 ⟨Zi.2 ⟨h1,ZC _ _,fun x hx y hy=>?_⟩,ZC _ _,fun x hx y hy=>?_⟩
    .
     rw[Yq] at hy;subst hy;exact h3 e1 x hx
    rw[Yq] at hy;subst hy
    rcases Yx.1 hx with q|q
    .
     exact h2 x q k (XY _) om
    rw[Yq] at q;subst q;exact hlt
   .
    have h7:=hat j h5 h6
    rcases Yx.1 hx with q|q
    .
     rcases Yx.1 q with q|q
     .
      exact h2 x q j om h6
     rw[Yq] at q;subst q;exact h.lt_le hlt (by omega)
    rw[Yq] at q;subst q;exact h7
   rw[Yx,Yx,h4,u7! (by omega),Yx,e1]
   simp only[Ym,false_and,or_false,true_and,Yq]
   constructor
   .
    rintro ((q|q)|q)
    .
     exact .inl (.inl q)
    .
     exact .inr q
    exact .inl (.inr q)
   rintro ((q|q)|q)
   .
    exact .inl (.inl q)
   .
    exact .inr q
   exact .inl (.inr q)
  rw[Jt e];refine⟨?_,fun x hx j h5 h6=>?_,fun q x hx=>?_,fun x=>?_⟩
  .
   refine Zi.2 ⟨h1,ZC _ _,fun x hx y hy=>?_⟩
   rw[Yq] at hy;subst hy;exact h2 x hx k (XY _) (by omega)
  .
   rcases Yx.1 hx with q|q
   .
    exact h2 x q j om h6
   rw[Yq] at q;subst q;exact hat j h5 h6
  .
   simp only at q
   rcases Yx.1 hx with q2|q2
   .
    exact h3 q x q2
   rw[Yq] at q2;subst q2;have:gt l[k]! ≠ true:=fun k=>e ⟨q,k⟩
   rw[hgk] at this;have : ¬ 0<c l[k]! s:=fun k=>this (Y1 k)
   omega
  rw[Yx,h4,u7! (by omega),Yx]
  constructor
  .
   rintro ((q|q)|q)
   .
    exact .inl (.inl q)
   .
    exact .inr q
   exact .inl (.inr q)
  rintro ((q|q)|q)
  .
   exact .inl (.inl q)
  .
   exact .inr q
  exact .inl (.inr q)
theorem TV {α:Type}[Inhabited α] {c:α->α->Int}(h:Cm c) {gt:α->Bool}{l:List α}{s:α}(hl:jA c l) (hg : ∀ x∈l,gt x=decide (0<c x s)) (hn : ∀ x∈l,c x s≠0):jA c (ou gt l s) /\ ∀ x,x∈ou gt l s ↔ x=s\/x∈l:=by
 obtain⟨h1,h2,h3,h4⟩:=Js h hl hg hn _ (XY _)
 rw[YG] at h4
 unfold ou
 split
 .
  rename_i e
  refine⟨Zi.2 ⟨h1,ZC _ _,fun x hx y hy=>?_⟩,fun x=>?_⟩
  .
   rw[Yq] at hy;subst hy;exact h3 e x hx
  rw[Yx,h4,e,Yq];simp only[Ym,false_and,or_false];exact⟨fun q=>q.symm,fun q=>q.symm⟩
 rename_i e
 have e:(cO gt l s l.length).2=true:=by simpa using e
 refine⟨h1,fun x=>?_⟩
 rw[h4,e]
 simp only[true_and]
 exact⟨fun q=>q.symm,fun q=>q.symm⟩
theorem NV {l:List Sgd}{s:Sgd}(hl:Ord l) (hn : ∀ x∈l,nameOk x.q.name=true) (hs:nameOk s.q.name=true) (hne : ∀ x∈l,x.q≠s.q):Ord (sortedF l s) /\ ∀ x,x∈sortedF l s ↔ x=s\/x∈l :=
 TV cm_s hl (fun x hx=>by rw[pX (hn x hx) hs];rfl) fun x hx e=>hne x hx (qp_eq.1 e)
theorem Nr {α:Type}{l:List α}{k:Nat}{x:α}(h:x∈l.take k):x∈l:=List.mem_of_mem_take h
theorem Rv {l:List Sgd}(h:Ord l) {k:Nat}(hk:k<l.length) {x:Sgd}(hx:x∈l.take k):x.q≠l[k]!.q:=by
 obtain⟨i,hi,rfl⟩:=mem_ix.1 hx
 have hi':i<k:=by simp at hi;omega
 rw[show (l.take k)[i]! = l[i]! from by rw[getElem!_pos _ i hi,getElem!_pos l i (by omega),List.getElem_take]]
 intro e
 have h2:sp l[i]! l[k]! < 0:=lG h hi' hk
 unfold sp at h2
 rw[qp_eq.2 e] at h2
 omega
theorem Mv {put l:List Sgd}(hl:Ord l) (hp:Ord put) (hn : ∀ x∈l,nameOk x.q.name=true) (hm : ∀ x∈put,nameOk x.q.name=true) (ha : ∀ x∈l,∀ y∈put,x.q≠y.q):∀ k,k<=put.length->Ord (eZ put l k) /\ ∀ x,x∈eZ put l k ↔ x∈l\/x∈put.take k
 | 0,_=>⟨hl,fun x=>by simp[eZ]⟩
 | k+1,hk=>by
  obtain⟨h1,h2⟩:=Mv hl hp hn hm ha k om;have hx:put[k]! ∈ put:=dW om;obtain⟨h3,h4⟩:=NV (s:=put[k]!) h1 (fun x hx=>((h2 x).1 hx).elim (hn x) fun q=>hm x (Nr q)) (hm _ hx) fun x hx2=>((h2 x).1 hx2).elim (fun q=>ha x q _ hx) fun q=>Rv hp om q
  refine⟨h3,fun x=>?_⟩
  show x∈sortedF _ _ ↔ _
  rw[h4,h2,u7! (by omega),Yx,Yq]
  constructor
  .
   rintro (q|q|q)
   .
    exact .inr (.inr q)
   .
    exact .inl q
   exact .inr (.inl q)
  rintro (q|q|q)
  .
   exact .inr (.inl q)
  .
   exact .inr (.inr q)
  exact .inl q
theorem RV {m:PM}{s:Sgd}:newB m s.q=true ↔ ¬ (eB m s.q).isSome=true:=by unfold newB;simp
theorem I9 {a:Zon}{d:Dlt}:∀ k,k<=a.sets.length->cK a d k=(a.sets.take k).filterMap (eY (mU d.put d.drop))
 | 0,_=>by simp[cK]
 | k+1,hk=>by
  have ih:=I9 (a:=a) (d:=d) k (by omega)
  have key:(askB d.drop a.sets[k]!.q=false/\atF d.put a.sets[k]!.q<0) ↔ newB (mU d.put d.drop) a.sets[k]!.q=true:=by
   rw[RV,JF,Xi,IE];unfold askB;rw[X9]
   constructor
   .
    rintro⟨h1,h2⟩ (h3|⟨s,h3,h4⟩)
    .
     exact h1 h3
    exact h2 s h3 h4
   intro h;exact⟨fun q=>h (.inl q),fun s hs e=>h (.inr ⟨s,hs,e⟩)⟩
  by_cases h:askB d.drop a.sets[k]!.q=false/\atF d.put a.sets[k]!.q<0
  .
   rw[Cy h,ih,Db (by omega) (show eY _ a.sets[k]! = some a.sets[k]! from X6 (key.1 h))]
  rw[Cz h,ih,De (by omega) (show eY _ a.sets[k]! = none from XZ fun q=>h (key.2 q))]
theorem Xm {z:Zon}{d:Dlt}(hz:ZOrd z) (hd:DOk d):uL z d=ig z d:=by
 unfold uL ig
 have e:cK z d z.sets.length=bU z d:=by rw[I9 _ (XY _),YG];rfl
 rw[e]
 obtain⟨h1,h2⟩:=Mv (EZ (d:=d) hz.ord) hd.pord (fun x hx=>hz.nms x (stay_mem.1 hx).1) (fun x hx=>(hd.pok x hx).name) (fun x hx y hy e=>(stay_mem.1 hx).2.2 y hy e.symm) d.put.length (XY _)
 rw[YG] at h2
 rw[Ba cm_s h1 (Fb (Iw hz.ord hd.pord)) fun x=>by rw[h2,sortS_mem,Yx]]
theorem D6 (z:Zon) (d:Dlt):applyR z d=applyP z d:=by
 unfold applyR applyP
 rw[<- qZ z]
 by_cases h1:zoneOk z=false\/dltOk d=false\/z.apex≠d.apex
 .
  rw[X6 h1,X6 h1]
 have hz:zoneOk z=true:=by cases q:zoneOk z with|true=>rfl|false=>exact absurd (.inl q) h1
 have hd:dltOk d=true:=by cases q:dltOk d with|true=>rfl|false=>exact absurd (.inr (.inl q)) h1
 have e:=Xm (kJ hz) (dlt_iff.1 hd)
 rw[XZ h1,XZ h1,e,RU,<- FK hz,<- qZ]
 by_cases h2:serialOf z≠d.frm
 .
  rw[X6 h2,X6 h2]
 rw[XZ h2,XZ h2]
 by_cases h3:20000<(bU z d).length+d.put.length
 .
  rw[X6 h3,X6 h3]
 rw[XZ h3,XZ h3]
 cases q:zoneOk (ig z d) with
 | false=>rw[X6 (.inl rfl),X6 (.inl rfl)]
 | true=>rw[<- FK q]
end Go.Zon
namespace Go.Zon
open Go.DL Go.Str Go.Rec Go.Cmp
end Go.Zon
namespace Go.Jn
open Go.DL Go.Str Go.Rec Go.Cmp Go.Zon
theorem IC {a b:Nat}(ha:a<18446744073709551616) (hb:b<18446744073709551616) (h:a*1099511628211 % 18446744073709551616=b*1099511628211 % 18446744073709551616):a=b:=by
 have key : ∀ a:Nat,a<18446744073709551616->(a*1099511628211 % 18446744073709551616)*14886173955864302971 % 18446744073709551616=a:=by
  intro a ha;rw[Nat.mod_mul_mod,Nat.mul_assoc,show 1099511628211*14886173955864302971=18446744073709551616*887285111055+1 from by decide,Nat.mul_add,Nat.mul_one,Nat.mul_left_comm,Z0,Zw ha]
 rw[<- key a ha,h,key b hb]
theorem xu {d:Nat}{c:UInt8}(h:d<18446744073709551616):d ^^^ c.toNat<18446744073709551616:=by
 have:=c.toNat_lt
 exact Nat.xor_lt_two_pow (n:=64) om om
theorem wN (d:Nat) (c:UInt8):dQ d c<18446744073709551616:=by unfold dQ;omega
theorem VL {a b:Nat}{c:UInt8}(ha:a<18446744073709551616) (hb:b<18446744073709551616) (h:dQ a c=dQ b c):a=b:=by
 unfold dQ at h
 have h1:=IC (xu ha) (xu hb) h
 have h2:=congrArg (· ^^^ c.toNat) h1
 simpa [Nat.xor_assoc] using h2
theorem VK {d:Nat}{a b:UInt8}(hd:d<18446744073709551616) (h:dQ d a=dQ d b):a=b:=by
 unfold dQ at h
 have h1:=IC (xu hd) (xu hd) h
 have h2:=congrArg (d ^^^ ·) h1
 simp only[<- Nat.xor_assoc,Nat.xor_self,Nat.zero_xor] at h2
 exact ZH.1 h2
theorem KZ : ∀ (l:Str) {a b:Nat},a<18446744073709551616->b<18446744073709551616->l.foldl dQ a=l.foldl dQ b->a=b
 | [],_,_,_,_,h=>h
 | c::l,a,b,ha,hb,h=>VL ha hb (KZ l (wN a c) (wN b c) h)
theorem K3 : ∀ (l:Str) {a:Nat},a<18446744073709551616->l.foldl dQ a<18446744073709551616
 | [],_,h=>h
 | c::l,a,_=>K3 l (wN a c)
theorem KW {l:Str}{j:Nat}{c:UInt8}(hj:j<l.length) (hc:c≠l[j]):dig (l.set j c)≠dig l:=by
 intro h
 have e1:l=l.take j++l[j]::l.drop (j+1):=by rw[<- Yy hj,Zm]
 have e2:l.set j c=l.take j++c::l.drop (j+1):=by rw[List.set_eq_take_append_cons_drop,X6 hj]
 unfold dig at h
 rw[e2,Zc,YO] at h
 conv at h=>rhs;rw[e1]
 rw[Zc,YO] at h
 have hd:=K3 (l.take j) (a:=qP) (by decide)
 exact hc (VK hd (KZ _ (wN _ _) (wN _ _) h))
theorem Ij {a b:Str}(ha:a.length=8) (hb:b.length=8) (h:cB a=cB b):a=b:=by
 rw[<- DY ha,<- DY hb]
 unfold numOf
 rw[h]
theorem ET {l:Str}{i n:Nat}{c:UInt8}:(l.set i c).take n=(l.take n).set i c:=List.take_set
theorem Vt {l:Str}{i n:Nat}{c:UInt8}(h:i<n):(l.set i c).drop n=l.drop n:=by rw[List.drop_set,X6 h]
theorem zX {l:Str}{i n:Nat}{c:UInt8}(h:n<=i):(l.set i c).drop n=(l.drop n).set (i-n) c:=by rw[List.drop_set,XZ (by omega)]
theorem AZ {l:Str}{i n:Nat}{c:UInt8}(h:n<=i):(l.set i c).take n=l.take n:=by
 rw[List.take_set,List.set_eq_of_length_le (by rw[Yu];omega)]
theorem Af {l:Str}{i a n:Nat}{c:UInt8}(h:i<a\/a+n<=i):((l.set i c).drop a).take n=(l.drop a).take n:=by
 rcases h with h|h
 .
  rw[Vt h]
 rw[zX (by omega),AZ (by omega)]
theorem DF {l:Str}{i a n:Nat}{c:UInt8}(h:a<=i):((l.set i c).drop a).take n=((l.drop a).take n).set (i-a) c:=by
 rw[zX h,ET]
theorem DI {l:Str}{i a n:Nat}(h1:a<=i) (h2:i<a+n) (h3:i<l.length):∃ h:i-a<((l.drop a).take n).length,((l.drop a).take n)[i-a]=l[i]:=by
 have h:i-a<((l.drop a).take n).length:=by rw[Yu,Yi];omega
 refine⟨h,?_⟩
 rw[List.getElem_take,List.getElem_drop]
 congr 1
 omega
theorem FD {l:Str}{j:Nat}{c:UInt8}(hj:j<l.length) (hc:c≠l[j]):l.set j c≠l:=by
 intro h
 have:=congrArg (fun x=>x[j]?) h
 simp[hj] at this
 exact hc this
theorem TP {k m m':Nat}{b:Str}{j:Nat}{c:UInt8}(h:mO k m b) (hl:21+m<=b.length) (hj:j<21+m) (hjl:j<b.length) (hc:c≠b[j]) (hl':21+m'<=b.length):¬ mO k m' (b.set j c):=by
 rintro⟨g1,g2,g3,g4⟩
 obtain⟨h1,h2,h3,h4⟩:=h
 by_cases j0:j=0
 .
  subst j0
  apply hc
  have e1:(b.set 0 c).getD 0 0=c:=by simp[List.getD,hjl]
  have e2:b.getD 0 0=b[0]:=by simp[List.getD,hjl]
  rw[e1] at g1;rw[e2] at h1;exact ZH.1 (g1.trans h1.symm)
 by_cases j5:j<5
 .
  rw[Af (.inl j5),h3] at g3;have e:(b.set j c).take 5=(b.take 5).set j c:=ET;rw[e] at g3;have hq:j<(b.take 5).length:=by rw[Yu];omega
  exact KW hq (by rw[List.getElem_take];exact hc) g3.symm
 have em:m'=m:=by rw[<- g2,Af (.inr (by omega)),h2]
 subst em
 have e5:(b.set j c).take 5=b.take 5:=AZ om
 by_cases j13:j<13
 .
  rw[e5,DF (by omega)] at g3
  obtain⟨q1,q2⟩:=DI (l:=b) (n:=8) (show 5<=j by omega) om hjl
  have gW:((b.drop 5).take 8).length=8:=by rw[Yu,Yi];omega
  exact FD q1 (by rw[q2];exact hc) (Ij (by rw[Z5];exact gW) gW (g3.trans h3.symm))
 by_cases jw:j<13+m'
 .
  rw[Af (.inl jw),DF (by omega),h4] at g4
  obtain⟨q1,q2⟩:=DI (l:=b) (n:=m') (show 13<=j by omega) om hjl
  exact KW q1 (by rw[q2];exact hc) g4.symm
 rw[DF (by omega),Af (.inr (by omega)),<- h4] at g4
 obtain⟨q1,q2⟩:=DI (l:=b) (n:=8) (show 13+m'<=j by omega) om hjl
 have gW:((b.drop (13+m')).take 8).length=8:=by rw[Yu,Yi];omega
 exact FD q1 (by rw[q2];exact hc) (Ij (by rw[Z5];exact gW) gW g4)
theorem UF {k:Nat}{b:Str}(h : ∀ m,21+m<=b.length -> ¬ mO k m b):fst1 k b=(0,[]):=by
 rcases sw k b with e|⟨m,h1,h2,_⟩
 .
  exact e
 exact absurd h2 (h m h1)
def zg (c:Cnt):Nat:=if c.isSome then 2 else 1
theorem NE {c:Cnt}{b:Str}{y:Zon}{n:Nat}(h:stepC c b=some (y,n)):∃ m,n=21+m/\21+m<=b.length/\mO (zg c) m b:=by
 have key : ∃ w,fst1 (zg c) b=(n,w)/\n≠0:=by
  cases c with
  | none=>obtain⟨h0,w,h1,_⟩:=stepZ_iff.1 (show fI b=_ from h);exact⟨w,h1,h0⟩
  | some z=>obtain⟨h0,w,d,h1,_⟩:=stepD_iff.1 (show dU z b=_ from h);exact⟨w,h1,h0⟩
 obtain⟨w,h1,h0⟩:=key
 rcases sw (zg c) b with e|⟨m,h2,h3,h4⟩
 .
  rw[h1] at e;cases e;exact absurd rfl h0
 rw[h1] at h4;cases h4;exact⟨m,rfl,h2,h3⟩
theorem NF {c:Cnt}{b:Str}(h:fst1 (zg c) b=(0,[])):stepC c b=none:=by
 cases c with
 | none =>
  show fI b=none
  unfold fI;rw[X6 (by rw[show fst1 1 b=_ from h])]
 | some z =>
  show dU z b=none
  unfold dU;rw[X6 (by rw[show fst1 2 b=_ from h])]
theorem NG {c:Cnt}{b:Str}{y:Zon}{n j:Nat}{x:UInt8}(h:stepC c b=some (y,n)) (hj:j<n) (hjl:j<b.length) (hx:x≠b[j]):stepC c (b.set j x)=none:=by
 obtain⟨m,rfl,h1,h2⟩:=NE h
 refine NF (UF fun m' h3=>?_)
 rw[Z5] at h3
 exact TP h2 h1 hj hjl hx h3
theorem J6 : ∀ (l1:List (Zon×Nat)) (c:Cnt) (b:Str) (y:Zon) (n:Nat) (l2:List (Zon×Nat)) (k:Nat) (x:UInt8) (hk:k<b.length),fr c b=l1++(y,n)::l2->sumL l1<=k->k<sumL l1+n->x≠b[k]->fr c (b.set k x)=l1
 | [],c,b,y,n,l2,k,x,hk,h,h1,h2,hx=>by
  cases hs:stepC c b with
  | none=>rw[iw hs] at h;cases h
  | some q =>
   obtain⟨y',n'⟩:=q;rw[gI hs] at h
   cases h
   refine iw (NG hs ?_ hk hx)
   simpa [sumL] using h2
 | (y1,n1)::l1,c,b,y,n,l2,k,x,hk,h,h1,h2,hx=>by
  cases hs:stepC c b with
  | none=>rw[iw hs] at h;cases h
  | some q =>
   obtain⟨y',n'⟩:=q;rw[gI hs,List.cons_append] at h;rw[iX] at h1 h2;simp only[List.cons.injEq,Prod.mk.injEq] at h;obtain⟨⟨rfl,rfl⟩,h⟩:=h;dsimp only at h1 h2;have e1:b.set k x=b.take n'++(b.drop n').set (k-n') x:=by
    rw[<- zX (by omega),<- AZ (i:=k) (c:=x) (by omega),Zm]
   have hl:=rz (r:=(b.drop n').set (k-n') x) hs;rw[<- e1] at hl;have hd:(b.set k x).drop n'=(b.drop n').set (k-n') x:=zX om;rw[gI hl,hd,J6 l1 (some y') (b.drop n') y n l2 (k-n') x (by rw[Yi];omega) h (by omega) (by omega) (by
    rw[List.getElem_drop];have e3:n'+(k-n')=k:=by omega
    simp only[e3];exact hx)]
theorem J3 {c:Cnt}{b:Str}{y:Zon}{n:Nat}{l:List (Zon×Nat)}(h:fr c b=(y,n)::l):stepC c b=some (y,n)/\fr (some y) (b.drop n)=l:=by
 cases hs:stepC c b with
 | none=>rw[iw hs] at h;cases h
 | some q =>
  obtain⟨y',n'⟩:=q;rw[gI hs] at h;simp only[YP,YI] at h;obtain⟨⟨rfl,rfl⟩,h⟩:=h;exact⟨rfl,h⟩
theorem J4 : ∀ (l1:List (Zon×Nat)) (c:Cnt) (b:Str) (l2:List (Zon×Nat)),fr c b=l1++l2->fr c (b.take (sumL l1))=l1
 | [],c,b,l2,_=>by
  show fr c (b.take 0)=[]
  rw[Yf,wH]
 | (y1,n1)::l1,c,b,l2,h=>by
  obtain⟨hs,h⟩:=J3 (by rw[X0] at h;exact h)
  rw[iX];have e:b.take (n1+sumL l1)=b.take n1++(b.drop n1).take (sumL l1):=List.take_add;have hl:=rz (r:=(b.drop n1).take (sumL l1)) hs;rw[<- e] at hl;have hd:(b.take (n1+sumL l1)).drop n1=(b.drop n1).take (sumL l1):=by rw[List.drop_take];congr 1;omega
  rw[show ((y1,n1):Zon×Nat).2=n1 from rfl,gI hl,hd,J4 l1 (some y1) (b.drop n1) l2 h]
def pu (k:Nat) (a:Nat) (l:List Nat):Nat:=l.foldl (fun m x=>if x<=k then x else m) a
theorem Mc {k:Nat}:∀ (l:List Nat) (a:Nat),(∀ x∈l,k<x)->pu k a l=a
 | [],_,_=>rfl
 | x::l,a,h=>by
  have h1:=h x (by simp)
  show pu k (if x<=k then x else a) l=a
  rw[XZ (by omega)]
  exact Mc l a fun y hy=>h y (by simp[hy])
theorem Ky : ∀ (l:List (Zon×Nat)) (a:Nat),∀ x∈cZ a l,a<=x
 | [],_,x,h=>by cases h
 | y::l,a,x,h=>by
  rcases YK.1 (show x∈(a+y.2)::cZ (a+y.2) l from h) with e|e
  .
   omega
  have:=Ky l (a+y.2) x e;omega
theorem L9 : ∀ (l:List (Zon×Nat)) (a k:Nat),a<=k->k<a+sumL l -> ∃ l1 y n l2,l=l1++(y,n)::l2/\a+sumL l1<=k/\k<a+sumL l1+n/\pu k a (cZ a l)=a+sumL l1
 | [],a,k,h1,h2=>by simp[sumL] at h2;omega
 | (y,n)::l,a,k,h1,h2=>by
  rw[iX] at h2;dsimp only at h2
  by_cases h:k<a+n
  .
   refine⟨[],y,n,l,rfl,by simpa [sumL] using h1,by simpa [sumL] using h,?_⟩
   rw[show a+sumL []=a from rfl]
   refine Mc _ _ fun x hx=>?_
   rcases YK.1 (show x∈(a+n)::cZ (a+n) l from hx) with e|e
   .
    omega
   have:=Ky l (a+n) x e;omega
  obtain⟨l1,y',n',l2,e1,e2,e3,e4⟩:=L9 l (a+n) k om om;refine⟨(y,n)::l1,y',n',l2,by rw[e1];rfl,by rw[iX];dsimp only;omega,by rw[iX];dsimp only;omega,?_⟩
  show pu k (if a+n<=k then a+n else a) (cZ (a+n) l)=_
  rw[X6 (by omega),e4,iX]
  dsimp only;omega
theorem Kw (b:Str) (h:endsB b≠[]):(endsB b)[(endsB b).length-1]! = sumL (frs b):=by
 have key : ∀ (l:List (Zon×Nat)) (a:Nat),l≠[]->(cZ a l)[(cZ a l).length-1]! = a+sumL l:=by
  intro l
  induction l with
  | nil=>intro a h;exact absurd rfl h
  | cons x l ih =>
   intro a _
   by_cases e:l=[]
   .
    subst e;simp[cZ,sumL]
   have h1:=ih (a+x.2) e;have h2:0<(cZ (a+x.2) l).length:=by rw[zV];exact Zr.2 e
   show ((a+x.2)::cZ (a+x.2) l)[((a+x.2)::cZ (a+x.2) l).length-1]! = _
   have e2:((a+x.2)::cZ (a+x.2) l).length-1=((cZ (a+x.2) l).length-1)+1:=by simp;omega
   rw[e2,List.getElem!_cons_succ,h1,iX];omega
 have:=key (frs b) 0 (by intro e;apply h;unfold endsB;rw[e];rfl)
 unfold endsB
 rw[this]
 omega
theorem ends_nil {b:Str}:endsB b=[] ↔ frs b=[]:=by
 unfold endsB
 cases frs b with
 | nil=>simp[cZ]
 | cons x l=>simp[cZ]
theorem damage {b:Str}{k:Nat}{x:UInt8}(h:endsB b≠[]) (hk:k<sumL (frs b)) (hkl:k<b.length) (hx:x≠b[k]) :
  wholeC (b.set k x)=wholeC (b.take (pu k 0 (endsB b)))/\(pu k 0 (endsB b)=0->wholeC (b.set k x)=none)/\(pu k 0 (endsB b)≠0->wholeC (b.set k x)≠none):=by
 obtain⟨l1,y,n,l2,e1,e2,e3,e4⟩:=L9 (frs b) 0 k om om
 have e4:pu k 0 (endsB b)=sumL l1:=by show pu k 0 (cZ 0 (frs b))=_;rw[e4];omega
 have f1:frs (b.set k x)=l1:=J6 l1 none b y n l2 k x hkl e1 om om hx
 have f2:frs (b.take (sumL l1))=l1:=J4 l1 none b ((y,n)::l2) e1
 rw[e4,pI,pI,f1,f2]
 refine⟨rfl,fun h0=>?_,fun h0 h9=>?_⟩
 .
  cases l1 with
  | nil=>rfl
  | cons q l1 =>
   exfalso
   obtain⟨hs,_⟩:=J3 (c:=none) (b:=b) (y:=q.1) (n:=q.2) (l:=l1++(y,n)::l2) e1;have:=(iD hs).2;rw[iX] at h0;omega
 cases l1 with
 | nil=>exact h0 rfl
 | cons q l1 =>
  unfold ji at h9
  cases hq:(q::l1).getLast? with
  | none=>simp at hq
  | some z=>rw[hq] at h9;cases h9
theorem whole_part {b:Str}:wholeC b=none ↔ endsB b=[]:=by
 rw[ends_nil]
 unfold wholeC
 cases h:(frs b).getLast? with
 | none=>simp at h;simp[h]
 | some z =>
  simp only[YR]
  constructor
  .
   intro q;cases q
  intro q;rw[q] at h;cases h
theorem AP (b:Str):wholeZ b=(wholeC b).getD zon0:=by
 unfold wholeZ Cw wholeC
 cases (frs b).getLast? <;> rfl
theorem BM : ∀ (l m:List Str) (c:Cnt),fB c (l++m)=(fB c l).bind fun c1=>fB c1 m
 | [],m,c=>rfl
 | p::l,m,c=>by
  show (if (nextF c p).2≠0/\(nextF c p).2=p.length then fB (nextF c p).1 (l++m) else none)=(if (nextF c p).2≠0/\(nextF c p).2=p.length then fB (nextF c p).1 l else none).bind fun c1=>fB c1 m
  split
  .
   exact BM l m _
  rfl
theorem LH (a b:List Str):catB (a++b)=catB a++catB b:=by simp[catB]
theorem wU {l:List Str}{i:Nat}(h:i<l.length):catB (l.take (i+1))=catB (l.take i)++l[i]! := by
 rw[Y8]
 have e:l[i]?.toList=[l[i]!]:=by simp[h,getElem!_pos]
 rw[e]
 simp[catB]
theorem za {d:Dsk}{o:Opn}(h:openF d=some o):loadF d=match wholeC d.safe with
  | none=>(zon0,42)
  | some z=>(z,0):=by
 unfold loadF
 rw[h]
 obtain⟨_,_,_,_,h5,_⟩:=lI h
 simp only[h5]
 cases wholeC d.safe<;>rfl
theorem qa (b:Str):(partB b).length<=b.length:=by
 unfold partB
 rw[Yu]
 exact Nat.min_le_right _ _
theorem uM {d:Dsk}{o:Opn}{z:Zon}{x:Dlt}{y:Zon}(h:openF d=some o) (ha:o.all=some z) (hy:applyP z x=(y,0)) :
  appendF d x=if 200<=d.pend.length then (dsk0,2) else if 1000000<o.size+(frmB 2 (dltB x)).length then (dsk0,41) else (⟨o.whole,d.pend++[frmB 2 (dltB x)]⟩,0):=by
 obtain⟨_,k⟩:=Ao hy
 unfold appendF
 simp only[h,ha,hy]
 rw[XZ (by rw[k.dok];simp),XZ (by simp)]
theorem Mh {d:Dsk}{o:Opn}{z:Zon}{x:Dlt}(h:openF d=some o) (ha:o.all=some z) (hy:(applyP z x).2≠0):appendF d x=(dsk0,if dltOk x=false then 1 else (applyP z x).2):=by
 unfold appendF
 simp only[h,ha]
 split<;>first|rfl|(rw[X6 hy])
theorem Mi {d:Dsk}{o:Opn}{x:Dlt}(h:openF d=some o) (ha:o.all=none):appendF d x=(dsk0,if dltOk x=false then 1 else 42):=by
 unfold appendF
 simp only[h,ha]
 split<;>rfl
def SumZ (z:Zon):Prop:=∀ s∈z.sets,∀ g∈s.sigs,0<=g.sum/\g.sum<18446744073709551616
def SumD (x:Dlt):Prop:=∀ s∈x.put,∀ g∈s.sigs,0<=g.sum/\g.sum<18446744073709551616
theorem Eo {z:Zon}(h:zoneOk z=true) {s:Sgd}(hs:s∈z.sets):s.sigs.length<=6 /\ ∀ g∈s.sigs,g.zone=z.apex/\i64 g.key/\i64 g.alg/\i64 g.frm/\i64 g.unt:=by
 simp only[zoneOk,XW] at h
 obtain⟨i,hi,rfl⟩:=Zd hs
 have h1:=(dL _ _ _).1 h.2 i (Yo _) hi
 have h1:kD z i=true:=h1
 unfold kD sigsOk at h1
 rw[XW] at h1
 rw[<- getElem!_pos z.sets i hi]
 refine⟨by have:=h1.1;simpa using this,fun g hg=>?_⟩
 obtain⟨j,hj,rfl⟩:=Zd hg
 have h2:=(dL _ _ _).1 h1.2 j (Yo _) hj
 simp only[gu,XW,XX,inR_iff,YE] at h2
 rw[<- getElem!_pos z.sets[i]!.sigs j hj]
 obtain⟨⟨⟨⟨⟨⟨a1,a2⟩,a3⟩,a4⟩,a5⟩,a6⟩,_⟩:=h2
 unfold i64
 exact⟨a1,om,om,om,om⟩
theorem Ep {z:Zon}(h:zoneOk z=true) {s:Sgd}(hs:s∈z.sets) (hu : ∀ g∈s.sigs,0<=g.sum/\g.sum<18446744073709551616):uP s:=by
 obtain⟨h1,h2⟩:=Eo h hs
 have ha:=dO (kJ h).apex
 exact⟨(kJ h).ok s hs,om,fun g hg=>by obtain⟨a,b,c,d,e⟩:=h2 g hg;exact⟨by rw[a];omega,b,c,d,e,hu g hg⟩⟩
theorem Em {z:Zon}(h:zoneOk z=true) (hu:SumZ z):Ea z:=by
 have ha:=dO (kJ h).apex
 have hl:=(kJ h).len
 exact⟨om,om,fun s hs=>Ep h hs (hu s hs)⟩
theorem FL {n:Int}(h:serB n=true):i64 n:=by
 simp only[serB,XW,XX] at h
 unfold i64
 omega
theorem QM {q:Qst}(h:qOk q=true):Ef q:=by
 have h1:=dO (mF h)
 simp only[qOk,XW,inR_iff] at h
 exact⟨om,om⟩
theorem KS {z y:Zon}{x:Dlt}(h:applyP z x=(y,0)) (hu:SumD x):Eh x:=by
 obtain⟨rfl,k⟩:=Ao h
 have hd:=dlt_iff.1 k.dok
 have ha:=dO hd.apex
 have h1:=hd.dlen
 have h2:=hd.plen
 exact⟨om,FL hd.frm,FL hd.too,om,fun q hq=>QM (hd.dok q hq),om,fun s hs=>Ep k.new (new_mem.2 (.inr hs)) (hu s hs)⟩
theorem Fv {z:Zon}(h:zoneOk z=true) {s:Sgd}(hs:s∈z.sets):(bP s).length<=1700:=by
 obtain⟨h1,h2⟩:=Eo h hs
 have ha:=dO (kJ h).apex
 have hb:=vC ((kJ h).ok s hs)
 have hf:=flat_len (f:=eu) (n:=101) (l:=s.sigs) fun g hg=>by
  have:=(h2 g hg).1;simp only[eu,ay,XV,YH,aX,this];omega
 simp only[bP,XV,YH,bF]
 omega
theorem KT {z y:Zon}{x:Dlt}(h:applyP z x=(y,0)):(dltB x).length<=100+x.drop.length*62+x.put.length*1700:=by
 obtain⟨rfl,k⟩:=Ao h
 have hd:=dlt_iff.1 k.dok
 have ha:=dO hd.apex
 have h1:=flat_len (f:=je) (n:=62) (l:=x.drop) fun q hq=>by
  have:=dO (mF (hd.dok q hq));simp only[je,ay,XV,YH,YF];omega
 have h2:=flat_len (f:=bP) (n:=1700) (l:=x.put) fun s hs=>Fv k.new (new_mem.2 (.inr hs))
 simp only[dltB,dB,ay,XV,YH,aX,bF]
 omega
theorem En {z:Zon}(h:zoneOk z=true):(zonB z).length<=100+z.sets.length*1700:=by
 have ha:=dO (kJ h).apex
 have h2:=flat_len (f:=bP) (n:=1700) (l:=z.sets) fun s hs=>Fv h hs
 simp only[zonB,dB,ay,XV,YH,bF]
 omega
def jV {α:Type}(f:RS->α×RS) (enc:α->Nat) (ok:α->Prop):Prop:=∀ st:RS,(f st).2.2=false->st.2=false/\st.1.length=enc (f st).1+(f st).2.1.length/\ok (f st).1
theorem CX (k:Nat):jV (aH k) (fun _=>k) (fun s=>s.length=k):=by
 intro st h
 cases hs:st.2 with
 | true=>rw[gq (.inl hs)] at h;cases h
 | false =>
  by_cases hk:k<=st.1.length
  .
   rw[iW hs hk];refine⟨rfl,?_,?_⟩
   .
    show st.1.length=k+(st.1.drop k).length
    rw[Yi];omega
   show (st.1.take k).length=k
   rw[Yu];omega
  rw[gq (.inr (by omega))] at h;cases h
theorem zA (k:Nat):jV (ag k) (fun _=>k) (fun u=>u<18446744073709551616):=by
 intro st h
 obtain⟨h1,h2,_⟩:=CX k st h
 exact⟨h1,h2,Ii _⟩
theorem CW:jV (ag 1) (fun _=>1) (fun u=>u<18446744073709551616):=zA 1
theorem Uv:jV (ag 2) (fun _=>2) (fun u=>u<18446744073709551616):=zA 2
theorem JJ:jV (ag 4) (fun _=>4) (fun u=>u<18446744073709551616):=zA 4
theorem su:jV (ag 8) (fun _=>8) (fun u=>u<18446744073709551616):=zA 8
theorem zB:jV aj (fun t=>(ay t).length) (fun _=>True):=by
 intro st h
 obtain⟨h1,h2,h3⟩:=CX (ag 1 st).1 (ag 1 st).2 h
 obtain⟨h4,h5,_⟩:=CW st h1
 refine⟨h4,?_,trivial⟩
 have e:(aj st).1.length=(ag 1 st).1:=h3
 have e2:(ag 1 st).2.1.length=(ag 1 st).1+(aj st).2.1.length:=h2
 show st.1.length=(aj st).1.length+1+_
 have e3:st.1.length=1+(ag 1 st).2.1.length:=h5
 omega
def Ed (g:RSig):Prop:=0<=g.sum/\g.sum<18446744073709551616
theorem Fp (g:RSig):(eu g).length=(ay g.zone).length+40:=by
 simp only[eu,XV,aX]
theorem Uw:jV eF (fun g=>(eu g).length) Ed:=by
 intro st h
 obtain⟨h1,a1,a2⟩:=su _ h
 obtain⟨h2,b1,_⟩:=su _ h1
 obtain⟨h3,c1,_⟩:=su _ h2
 obtain⟨h4,d1,_⟩:=su _ h3
 obtain⟨h5,e1,_⟩:=su _ h4
 obtain⟨h6,f1,_⟩:=zB _ h5
 have es:(eF st).1.sum=(((ag 8 (ag 8 (ag 8 (ag 8 (ag 8 (aj st).2).2).2).2).2).1:Nat):Int):=rfl
 refine⟨h6,?_,by unfold Ed;rw[es];omega⟩
 show st.1.length=(eu (eF st).1).length+(eF st).2.1.length
 rw[Fp]
 show st.1.length=(ay (aj st).1).length+40+_
 have g0:(eF st).2.1.length=(ag 8 (ag 8 (ag 8 (ag 8 (ag 8 (aj st).2).2).2).2).2).2.1.length:=rfl
 dsimp only at a1 b1 c1 d1 e1 f1
 rw[g0]
 omega
def ib {α:Type}(f:RS->α×RS):Nat->List α->RS->List α×RS
 | 0,out,st=>(out,st)
 | k+1,out,st=>if st.2 then (out,st) else ib f k (out++[(f st).1]) (f st).2
theorem zC {α:Type}{f:RS->α×RS}{enc:α->Nat}{ok:α->Prop}(hf:jV f enc ok):∀ (k:Nat) (out:List α) (st:RS),(ib f k out st).2.2=false ->
  st.2=false /\ ∃ l,(ib f k out st).1=out++l/\st.1.length=(l.map enc).sum+(ib f k out st).2.1.length/\(∀ x∈l,ok x)
 | 0,out,st,h=>⟨h,[],by simp[ib],by simp[ib],fun x hx=>by cases hx⟩
 | k+1,out,st,h=>by
  unfold ib at h ⊢
  split at h
  .
   rename_i q;rw[q] at h;cases h
  rename_i q
  rw[XZ q];obtain⟨h1,l,h2,h3,h4⟩:=zC hf k _ _ h;obtain⟨h5,h6,h7⟩:=hf st h1;refine⟨h5,(f st).1::l,by rw[h2];simp,?_,fun x hx=>?_⟩
  .
   rw[h6,h3];simp;omega
  rcases YK.1 hx with e|e
  .
   subst e;exact h7
  exact h4 x e
theorem xO : ∀ (k:Nat) (out:List RSig) (st:RS),eU k out st=ib eF k out st
 | 0,_,_=>rfl
 | k+1,out,st=>by unfold eU ib;rw[xO k]
theorem xS : ∀ (k:Nat) (out:List Sgd) (st:RS),fC k out st=ib dI k out st
 | 0,_,_=>rfl
 | k+1,out,st=>by unfold fC ib;rw[xS k]
theorem vK : ∀ (k:Nat) (out:List Qst) (st:RS),eG k out st=ib fV k out st
 | 0,_,_=>rfl
 | k+1,out,st=>by unfold eG ib;rw[vK k]
theorem zN {α:Type}(f:α->Str):∀ l:List α,(l.flatMap f).length=(l.map fun x=>(f x).length).sum
 | []=>rfl
 | x::l=>by rw[ZV,XV,Yb,List.sum_cons,zN f l]
def Mx (s:Sgd):Prop:=∀ g∈s.sigs,Ed g
theorem Ux:jV dI (fun s=>(bP s).length) Mx:=by
 intro st h
 have h:(eU (ag 1 (dC st).2).1 [] (ag 1 (dC st).2).2).2.2=false:=h
 rw[xO] at h
 obtain⟨h1,l,h2,h3,h4⟩:=zC Uw _ _ _ h
 obtain⟨h5,h6,_⟩:=CW _ h1
 have hr:(readF (dN st).1).2=0:=by
  apply YX
  intro q;unfold dC at h5;rw[XZ q] at h5
  cases h5
 have e2:dC st=((readF (dN st).1).1,(dN st).2):=by unfold dC;rw[X6 hr]
 rw[e2] at h5
 obtain⟨h7,h8,h9⟩:=CX (ag 2 st).1 (ag 2 st).2 h5
 obtain⟨h10,h11,_⟩:=Uv st h7
 have hb:=(WB hr).2
 have es:(dI st).1=⟨(readF (dN st).1).1,l⟩:=by
  show (⟨(dC st).1,(eU (ag 1 (dC st).2).1 [] (ag 1 (dC st).2).2).1⟩:Sgd)=_
  rw[xO,h2,e2];rfl
 have er:(dI st).2=(ib eF (ag 1 (dC st).2).1 [] (ag 1 (dC st).2).2).2:=by
  show (eU (ag 1 (dC st).2).1 [] (ag 1 (dC st).2).2).2=_
  rw[xO]
 refine⟨h10,?_,by rw[es];exact h4⟩
 rw[es,er]
 show st.1.length=(bg (setB (readF (dN st).1).1).length 2++setB (readF (dN st).1).1++bM l.length::l.flatMap eu).length+_
 rw[hb]
 simp only[XV,YH,bF,zN]
 have k1:(dN st).1.length=(ag 2 st).1:=h9
 have k2:(ag 2 st).2.1.length=(ag 2 st).1+(dN st).2.1.length:=h8
 have k3:st.1.length=2+(ag 2 st).2.1.length:=h11
 have k4:(dC st).2.1.length=1+(ag 1 (dC st).2).2.1.length:=h6
 have k5:(dC st).2.1.length=(dN st).2.1.length:=by rw[e2]
 omega
def XH (l:List Sgd):Prop:=∀ s∈l,Mx s
theorem xX (l:List Sgd):(dB l).length=4+(l.map fun s=>(bP s).length).sum:=by
 simp only[dB,XV,bF,zN]
theorem JK:jV ed (fun l=>(dB l).length) XH:=by
 intro st h
 have h:(fC (ag 4 st).1 [] (ag 4 st).2).2.2=false:=h
 rw[xS] at h
 obtain⟨h1,l,h2,h3,h4⟩:=zC Ux _ _ _ h
 obtain⟨h5,h6,_⟩:=JJ _ h1
 have es:(ed st).1=l:=by
  show (fC (ag 4 st).1 [] (ag 4 st).2).1=l
  rw[xS,h2];rfl
 have er:(ed st).2=(ib dI (ag 4 st).1 [] (ag 4 st).2).2:=by
  show (fC (ag 4 st).1 [] (ag 4 st).2).2=_
  rw[xS]
 refine⟨h5,?_,by rw[es];exact h4⟩
 rw[es,er]
 show st.1.length=(dB l).length+_
 rw[xX]
 have k3:st.1.length=4+(ag 4 st).2.1.length:=h6
 omega
theorem Uu:jV cz (fun z=>(zonB z).length) SumZ:=by
 intro st h
 obtain⟨h1,h2,h3⟩:=JK (aj st).2 h
 obtain⟨h4,h5,_⟩:=zB st h1
 refine⟨h4,?_,h3⟩
 dsimp only at h2 h5
 show st.1.length=(ay (aj st).1++dB (ed (aj st).2).1).length+(ed (aj st).2).2.1.length
 rw[XV]
 omega
theorem Uy:jV fV (fun q=>(je q).length) (fun _=>True):=by
 intro st h
 obtain⟨h1,h2,h3⟩:=CW (aj st).2 h
 obtain⟨h4,h5,_⟩:=zB st h1
 refine⟨h4,?_,trivial⟩
 dsimp only at h2 h5
 show st.1.length=(ay (aj st).1++[_]).length+(ag 1 (aj st).2).2.1.length
 rw[XV,List.length_singleton]
 have k:(aj st).2.1.length=1+(ag 1 (aj st).2).2.1.length:=h2
 omega
theorem Uz:jV bA (fun d=>(dltB d).length) SumD:=by
 intro st h
 obtain⟨h1,a1,a2⟩:=JK _ h
 rw[vK] at h1 a1
 obtain⟨h2,l,b1,b2,_⟩:=zC Uy _ _ _ h1
 obtain⟨h3,c1,_⟩:=JJ _ h2
 obtain⟨h4,d1,_⟩:=su _ h3
 obtain⟨h5,e1,_⟩:=su _ h4
 obtain⟨h6,f1,_⟩:=zB _ h5
 refine⟨h6,?_,a2⟩
 have es:(bA st).1.drop=l:=by
  show (eG _ [] _).1=l
  rw[vK,b1];rfl
 have hl:(dltB (bA st).1).length=(ay (aj st).1).length+20+(l.map fun x=>(je x).length).sum+(dB (bA st).1.put).length:=by
  unfold dltB;rw[es];simp only[XV,aX,bF,zN]
  show (ay (aj st).1).length+8+8+4+_+_=_
  omega
 dsimp only at *
 rw[hl]
 have g0:(bA st).2.1.length=(ed (ib fV (ag 4 (ag 8 (ag 8 (aj st).2).2).2).1 [] (ag 4 (ag 8 (ag 8 (aj st).2).2).2).2).2).2.1.length:=by
  rw[<- vK];rfl
 have g1:(dB (bA st).1.put).length=(dB (ed (ib fV (ag 4 (ag 8 (ag 8 (aj st).2).2).2).1 [] (ag 4 (ag 8 (ag 8 (aj st).2).2).2).2).2).1).length:=by
  rw[<- vK];rfl
 rw[g0,g1]
 omega
theorem P6 {w:Str}{z:Zon}(h:mr w=some z):(zonB z).length=w.length/\SumZ z:=by
 unfold mr at h
 split at h
 .
  cases h
 rename_i q
 cases h
 unfold dn at q
 simp only[Yd,XX,not_or,Bool.not_eq_true] at q
 obtain⟨_,h2,h3⟩:=Uu (w,false) q.1
 exact⟨by dsimp only at h2;omega,h3⟩
theorem Gq {w:Str}{d:Dlt}(h:mD w=some d):(dltB d).length=w.length/\SumD d:=by
 unfold mD at h
 split at h
 .
  cases h
 rename_i q
 cases h
 unfold dn at q
 simp only[Yd,XX,not_or,Bool.not_eq_true] at q
 obtain⟨_,h2,h3⟩:=Uz (w,false) q.1
 exact⟨by dsimp only at h2;omega,h3⟩
theorem EW {α:Type}(g:α->Nat) {f:α->Option α}(hf : ∀ x y,f x=some y->y=x):∀ l:List α,((l.filterMap f).map g).sum<=(l.map g).sum
 | []=>XY _
 | x::l=>by
  have:=EW g hf l;rw[List.filterMap_cons]
  cases h:f x with
  | none=>simp;omega
  | some y=>rw[hf x y h];simp;omega
theorem RQ (z:Zon) (d:Dlt):(zonB (ig z d)).length<=(zonB z).length+(dltB d).length:=by
 have h1:((dV (bU z d++d.put)).map fun s=>(bP s).length).sum=((bU z d++d.put).map fun s=>(bP s).length).sum:=((vv _).map _).sum_nat
 have h2:=EW (fun s:Sgd=>(bP s).length) (JH (mU d.put d.drop)) z.sets
 unfold zonB
 rw[XV,XV,xX,xX]
 show (ay z.apex).length+(4+((dV (bU z d++d.put)).map fun s=>(bP s).length).sum)<=_
 rw[h1,YM,List.sum_append]
 have h3:(dltB d).length=(ay d.apex).length+20+(d.drop.flatMap je).length+(dB d.put).length:=by
  simp only[dltB,XV,aX,bF]
 rw[h3,xX]
 show _+(4+(((z.sets.filterMap (eY (mU d.put d.drop))).map fun s=>(bP s).length).sum+_))<=_
 omega
theorem RP {z:Zon}{d:Dlt}(hz:SumZ z) (hd:SumD d):SumZ (ig z d):=by
 intro s hs g hg
 rcases new_mem.1 hs with⟨k,_⟩|k
 .
  exact hz s k g hg
 exact hd s k g hg
theorem JV {k n:Nat}{b w:Str}(h:fst1 k b=(n,w)) (h0:n≠0):n=21+w.length:=by
 rcases sw k b with e|⟨m,h1,h2,h3⟩
 .
  rw[h] at e;cases e;exact absurd rfl h0
 rw[h] at h3
 cases h3
 rw[Yu,Yi]
 omega
def uF (c:Cnt):Nat:=match c with
 | none=>0
 | some z=>(zonB z).length
def Av (c:Cnt):Prop:=∀ z,c=some z->SumZ z/\zoneOk z=true
theorem Nz {c:Cnt}{b:Str}{y:Zon}{n:Nat}(h:stepC c b=some (y,n)):(zonB y).length<=uF c+n/\(Av c->Av (some y)):=by
 cases c with
 | none =>
  obtain⟨h0,w,h1,h2,h3⟩:=stepZ_iff.1 (show fI b=_ from h)
  obtain⟨k1,k2⟩:=P6 h2;have:=JV h1 h0;exact⟨om,fun _ z e=>by cases e;exact⟨k2,h3⟩⟩
 | some z0 =>
  obtain⟨h0,w,d,h1,h2,h3⟩:=stepD_iff.1 (show dU z0 b=_ from h)
  obtain⟨k1,k2⟩:=Gq h2;have:=JV h1 h0;obtain⟨rfl,k⟩:=Ao h3;have:=RQ z0 d;refine⟨by show _<=(zonB z0).length+n;omega,fun hc z e=>?_⟩
  cases e
  exact⟨RP (hc z0 rfl).1 k2,k.new⟩
theorem UI : ∀ (n:Nat) (c:Cnt) (b:Str),b.length<=n->Av c->uF (ji c (fr c b))<=uF c+sumL (fr c b)/\Av (ji c (fr c b)):=by
 intro n
 induction n with
 | zero =>
  intro c b hb hc;have:b=[]:=X5 om;subst this;rw[wH];exact⟨ZJ _ _,hc⟩
 | succ n ih =>
  intro c b hb hc
  cases h:stepC c b with
  | none=>rw[iw h];exact⟨ZJ _ _,hc⟩
  | some x =>
   obtain⟨y,k⟩:=x;obtain⟨h1,h2⟩:=iD h;obtain⟨h3,h4⟩:=Nz h;obtain⟨h5,h6⟩:=ih (some y) (b.drop k) (by rw[Yi];omega) (h4 hc)
   rw[gI h,ql,iX];refine⟨?_,h6⟩;have:uF (some y)=(zonB y).length:=rfl;dsimp only;omega
theorem MX {b:Str}{z:Zon}(h:wholeC b=some z):(zonB z).length<=b.length/\SumZ z/\zoneOk z=true:=by
 rw[pI,zI] at h
 obtain⟨h1,h2⟩:=UI _ none b (XY _) (fun z e=>by cases e)
 have h3:=wG _ none b (XY _)
 rw[h] at h1 h2
 obtain⟨h4,h5⟩:=h2 z rfl
 have e1:uF (some z)=(zonB z).length:=rfl
 have e2:uF none=0:=rfl
 exact⟨om,h4,h5⟩
end Go.Jn
