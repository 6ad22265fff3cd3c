/-
  MANY TEXTS OF MINE IN ONE (a claim has a limit of files): DFrame, DFoot, DSh, DFs, DGrow, DSl, DPan, DDrawC, DSg, DRec, DBuf, DXc, DXl, Sym2, Rec9, Dp, Jno, Jp, DXm, Zsem, DlW3, DlW5, DlW7, DSort, Zdt, Zdu, Jlw, Jlx, Jly, Jr. Conditions: none.
-/
import Derived.Lib.SliceRun
import Derived.KernelRfl
import Derived.Shelf.Spec.SlicesGrow
import Derived.BigFrame
import Derived.Lib.Overlaps
import Derived.RecoverIn
import Derived.Laws.Externs
import Derived.Shelf.SlSortCmp.NoneTotal
import Derived.Test.YtjngdcldglkolaaGreatDoorMQU2
set_option linter.unusedVariables false
set_option linter.unusedSimpArgs false
set_option linter.unusedSectionVars false
set_option linter.defProp false
namespace Go.DL
variable {P : Program} {C : Con} {ro : Option Nat} {Q : Exit -> S -> Prop}
theorem Vs [Glob P] {c:Code}{s:S}{α:Type}(keep:List Nat) (A:α->Prop) (μ:α->Nat) (tb:α->List (Nat×D)) (hh:α->H) (nxx:α->Nat) (a0:α) {fx:List (Nat×D)}(hfx:keep.map (fun i=>(i,s.t i))=fx) (hA:A a0) (ht : ∀ p∈tb a0,Tb s.t p) (hq : ∀ r,hh a0 r=s.h r\/hh a0 r=none) (hn:s.nx<=nxx a0)
  (round : ∀ a,A a->DW P ro c (thenS (fun s'=>∃ a',A a'/\μ a'<μ a/\(∀ p∈tb a',Tb s'.t p)/\(∀ p∈fx,Tb s'.t p)/\(∀ r,hh a' r=s'.h r\/hh a' r=none)/\s'.nx<=nxx a'/\s'.n=s.n/\s'.e=s.e) Q) { n:=s.n,t:=tab (tb a++fx),h:=hh a,nx:=nxx a,e:=s.e }):DW P ro (.loop c) Q s :=
 KR A μ (fun a=>tb a++fx) hh nxx a0 hA (fun p hp=>(Yr.1 hp).elim (ht p) (Cs hfx p)) hq hn fun a ha=>(round a ha).mono fun e s' hq=>by
  cases e with
  | normal =>
   obtain⟨a',h1,h2,h3,h4,h5,h6,h7,h8⟩:=hq;exact⟨a',h1,h2,fun p hp=>(Yr.1 hp).elim (h3 p) (h4 p),h5,h6,h7,h8⟩
  | _=>exact hq
theorem Vv [Glob P] {x y:Code}{s:S}{α:Type}(keep:List Nat) (A:α->Prop) (tb:α->List (Nat×D)) (hh:α->H) (nxx:α->Nat) {fx:List (Nat×D)}(_hfx:keep.map (fun i=>(i,s.t i))=fx)
  (h:DW P ro x (thenS (fun s'=>∃ a,A a/\(∀ p∈tb a,Tb s'.t p)/\(∀ p∈fx,Tb s'.t p)/\(∀ r,hh a r=s'.h r\/hh a r=none)/\s'.nx<=nxx a/\s'.n=s.n/\s'.e=s.e) Q) s)
  (k : ∀ a,A a->DW P ro y Q { n:=s.n,t:=tab (tb a++fx),h:=hh a,nx:=nxx a,e:=s.e }):DW P ro (.seq x y) Q s:=by
 refine Vp _ h ?_
 rintro s' ⟨a,h1,h2,h3,h4,h5,h6,h7⟩
 refine Dv (tb a++fx) (hh a) (nxx a) (fun p hp=>(Yr.1 hp).elim (h2 p) (h3 p)) h4 h5 ?_
 rw[h6,h7]
 exact k a h1
def Less (h' h:H):Prop:=∀ q,h' q=h q\/h' q=none
theorem mE (h:H):Less h h:=fun _=>.inl rfl
theorem UZ {h:H}{r:Nat}{x:Blk}(hr:h r=some x):∀ q,upd (upd h r none) r (some x) q=h q\/upd (upd h r none) r (some x) q=none:=by
 intro q
 by_cases e:q=r
 .
  subst e;left;rw[upd_same,hr]
 left;rw[upd_ne _ _ _ _ e,upd_ne _ _ _ _ e]
theorem Ka {h:H}{r r1 r2:Nat}{x:Option Blk}{y:Option Blk}(h1:r1=r\/h r1=none):∀ q,upd (upd h r none) r2 y q=upd (upd (upd (upd h r none) r1 x) r1 none) r2 y q\/upd (upd h r none) r2 y q=none:=by
 intro q
 by_cases e:q=r2
 .
  subst e;left;rw[upd_same,upd_same]
 rw[upd_ne _ _ _ _ e,upd_ne _ _ _ _ e]
 by_cases e1:q=r1
 .
  subst e1
  right
  rcases h1 with rfl|h1
  .
   rw[upd_same]
  by_cases e2:q=r
  .
   subst e2;rw[upd_same]
  rw[upd_ne _ _ _ _ e2,h1]
 left;rw[upd_ne _ _ _ _ e1,upd_ne _ _ _ _ e1]
theorem HM.recell2 [Glob P] {h h1:H}{g g':Mem}{w:World}(hm:HM P h g w) (hm1:HM P h1 g' w) (mono:Mono g g' w w) {q:Nat}{ty:TypeId}{rows rows':List (List D)}(hq:h q=some ⟨ty,rows⟩) (hq1:h1 q=some ⟨ty,rows⟩) (hl:rows'.length=rows.length)
  (hc : ∀ (i:Nat) (row':List D),rows'[i]? = some row' -> ∃ row:List D,rows[i]? = some row/\row'.length=row.length /\ ∀ (j:Nat) (d':D),row'[j]? = some d' -> ∃ d,row[j]? = some d /\ ∀ v,Rep w g d v->Rep w g' d' v):HM P (upd h1 q (some ⟨ty,rows'⟩)) g' w:=by
 refine⟨fun x hx=>hm1.dead x ?_,fun x bl hx=>?_,hm1.inj,hm1.used,hm1.imm,hm1.gr⟩
 .
  by_cases e:x=q
  .
   subst e;rw[upd_same] at hx;cases hx
  rwa [upd_ne _ _ _ _ e] at hx
 by_cases e:x=q
 .
  subst e;rw[upd_same] at hx
  cases hx
  obtain⟨blk,c,e1,e2,e3,e4,e5⟩:=hm1.blk x _ hq1;obtain⟨blk2,c2,f1,f2,f3,f4,f5⟩:=hm.blk x _ hq;have eM:g'.M x=g.M x:=by
   rcases mono.M x (hm.used x (by rw[f1];simp)) with k|k
   .
    exact k
   rw[k] at e1;cases e1
  rw[eM,f1] at e1
  cases e1
  refine⟨blk,c,eM.trans f1,e2,by show rows'.length<=c;rw[hl];exact e3,e4,?_⟩
  rcases e5 with e5|⟨b,cur,rfl,h6,h7,h8,h9⟩
  .
   exact .inl e5
  refine .inr ⟨b,cur,rfl,h6,h7,h8,fun i row' hi=>?_⟩
  rcases f5 with⟨f5,_⟩|⟨b2,cur2,k5,k6,k7,k8,k9⟩
  .
   cases f5
  cases k5
  have k6:=h6.uniq k6;subst k6;obtain⟨row,r1,r2,r3⟩:=hc i row' hi;have hk:=k9 i row r1;refine⟨r2.trans hk.1,fun j d' hd=>?_⟩
  obtain⟨d,d1,d2⟩:=r3 j d' hd;obtain⟨u,u3,u4,u5⟩:=hk.2 j d d1;exact⟨u,u3,u4,d2 u u5⟩
 rw[upd_ne _ _ _ _ e] at hx
 exact hm1.blk x bl hx
theorem one_cell {row:List D}{j0:Nat}{d0 d1:D}(hj:row[j0]? = some d0) {w:World}{g g':Mem}(hd : ∀ v,Rep w g d0 v->Rep w g' d1 v) (ho : ∀ d v,Rep w g d v->Rep w g' d v) :
  ∀ (i:Nat) (row':List D),[row.set j0 d1][i]? = some row' -> ∃ rw0:List D,[row][i]? = some rw0/\row'.length=rw0.length /\ ∀ (j:Nat) (d':D),row'[j]? = some d' -> ∃ d,rw0[j]? = some d /\ ∀ v,Rep w g d v->Rep w g' d' v:=by
 intro i row' hi
 cases i with
 | succ i=>simp at hi
 | zero =>
  simp at hi
  subst hi;refine⟨row,rfl,by simp,fun j d' hd'=>?_⟩
  by_cases e:j=j0
  .
   subst e;rw[ZX (by exact (X7.1 hj).1)] at hd'
   cases hd'
   exact⟨d0,hj,hd⟩
  rw[List.getElem?_set_ne (Ne.symm e)] at hd';exact⟨d',hd',ho d'⟩
theorem mV [Glob P] {c:Code}{s:S}(r j:Nat) (ty0 ty:TypeId) {row:List D}(hr:s.h r=some ⟨ty0,[row]⟩) (hj:row[j]? = some (.list true [])) (hty:0<P.cellsOf ty) (h:DW P ro c Q { n:=s.n,t:=s.t,h:=upd (upd s.h s.nx (some ⟨ty,[]⟩)) r (some ⟨ty0,[row.set j (.mrow s.nx 0 0)]⟩),nx:=s.nx+1,e:=s.e }):DW P ro c Q s:=by
 intro B g a w hs hU
 have hnu : ¬ g.U s.nx:=fun h=>Nat.lt_irrefl _ (hU _ h)
 obtain⟨g',q1,q2,q3,q4,q5⟩:=hs.mem.putNone (h':=upd s.h s.nx (some ⟨ty,[]⟩)) s.nx ⟨ty,[]⟩ hnu (upd_same _ _ _) (fun r hr=>.inl (upd_ne _ _ _ _ hr)) hty rfl
 have hrn:r≠s.nx:=by
  intro e;subst e;obtain⟨blk,c,h1,_⟩:=hs.mem.blk _ _ hr;exact hnu (hs.mem.used _ (by rw[h1];simp))
 have hm:=HM.recell2 (rows':=[row.set j (.mrow s.nx 0 0)]) hs.mem q4 q5 hr (by rw[upd_ne _ _ _ _ hrn];exact hr) rfl (one_cell hj (fun v hv=>by
  obtain⟨x,rfl⟩:=Vk hv;refine .mrow _ _ _ _ ⟨x,0,rfl,XX _,fun h=>absurd h om⟩ ((q2 _).2 (.inr rfl)) fun blk c sz he=>?_
  rw[q1] at he
  cases he
  exact⟨⟨XX _,Ym _⟩,.inl ⟨rfl,x,rfl⟩⟩) fun d v hv=>hv.later hs.mem q5)
 have hst:St P B { n:=s.n,t:=s.t,h:=upd (upd s.h s.nx (some ⟨ty,[]⟩)) r (some ⟨ty0,[row.set j (.mrow s.nx 0 0)]⟩),nx:=s.nx+1,e:=s.e } g' a w :=
  ⟨hs.sz,fun j=>(hs.tm j).later hs.mem q5,hm,hs.df.later hs.mem q5,Env.later hs.mem q5 hs.en,hs.bd⟩
 exact wpIn_mono (h B g' a w hst (fun r hr=>by
  rcases (q2 r).1 hr with h|h
  .
   exact Nat.lt_succ_of_lt (hU r h)
  subst h;exact Nat.lt_succ_self _)) fun e a' w' ⟨s',g'',q,r,m,u,v⟩=>⟨s',g'',q,r,q5.toX.trans m,u,v⟩
theorem zS [Glob P] {c:Code}{s:S}(i r:Nat) {ty:TypeId}{rows:List (List D)}{off len:Nat}(hi:s.t i = .mrow r off len) (hr:s.h r=some ⟨ty,rows⟩) (hl:off+len<=rows.length) (hn:aR rows=true) (h:DW P ro c Q { n:=s.n,t:=upd s.t i (.list false ((rows.drop off).take len)),h:=upd s.h r none,nx:=s.nx,e:=s.e }):DW P ro c Q s:=by
 intro B g a w hs hU
 have mono:=wy g r w
 have hst:St P B { n:=s.n,t:=upd s.t i (.list false ((rows.drop off).take len)),h:=upd s.h r none,nx:=s.nx,e:=s.e } (iK g r) a w:=by
  refine⟨hs.sz,fun j=>?_,zA hs.mem r,hs.df.later hs.mem mono,Env.later hs.mem mono hs.en,hs.bd⟩
  by_cases e:j=i
  .
   subst e;simp only[upd_same];have hj:=hs.tm j;rw[hi] at hj;exact J7 hs.mem hr hn hl hj
  simp only[upd_ne _ _ _ _ e];exact (hs.tm j).later hs.mem mono
 exact wpIn_mono (h B (iK g r) a w hst hU) fun e a' w' ⟨s',g'',q,r,m,u,v⟩=>⟨s',g'',q,r,mono.toX.trans m,u,v⟩
theorem lV [Glob P] {c:Code}{s:S}(q j r:Nat) {ty ty0:TypeId}{rows:List (List D)}{row:List D}{off len:Nat}(hq:s.h q=some ⟨ty0,[row]⟩) (hj:row[j]? = some (.mrow r off len)) (hr:s.h r=some ⟨ty,rows⟩) (hqr:q≠r) (hl:off+len<=rows.length) (hn:aR rows=true)
  (h:DW P ro c Q { n:=s.n,t:=s.t,h:=upd (upd s.h r none) q (some ⟨ty0,[row.set j (.list false ((rows.drop off).take len))]⟩),nx:=s.nx,e:=s.e }):DW P ro c Q s:=by
 intro B g a w hs hU
 have mono:=wy g r w
 have hm:=HM.recell2 (rows':=[row.set j (.list false ((rows.drop off).take len))]) hs.mem (zA hs.mem r) mono hq (by rw[upd_ne _ _ _ _ hqr];exact hq) rfl (one_cell hj (fun v hv=>J7 hs.mem hr hn hl hv) fun d v hv=>hv.later hs.mem mono)
 have hst:St P B { n:=s.n,t:=s.t,h:=upd (upd s.h r none) q (some ⟨ty0,[row.set j (.list false ((rows.drop off).take len))]⟩),nx:=s.nx,e:=s.e } (iK g r) a w :=
  ⟨hs.sz,fun j=>(hs.tm j).later hs.mem mono,hm,hs.df.later hs.mem mono,Env.later hs.mem mono hs.en,hs.bd⟩
 exact wpIn_mono (h B (iK g r) a w hst hU) fun e a' w' ⟨s',g'',q,r,m,u,v⟩=>⟨s',g'',q,r,mono.toX.trans m,u,v⟩
theorem J9 [Glob P] {h:H}{g:Mem}{w:World}(hm:HM P h g w) {r:Nat}{bl:Blk}(hr:h r=some bl) {kv:List D}(hk:jh bl=some kv) (hn:aW kv=true) {v:Value}(hv:Rep w g (.mp r) v):Rep w (iK g r) (.fmap kv) v:=by
 obtain⟨b,es,clk,rfl,h1,h2,h3,_⟩:=Cu hm hv hr hk
 exact .fmap kv b es clk (.inr ⟨_,_,h3⟩) h1 h2.1 fun k d x e1 e2=>(h2.2 k d x e1 e2).clean (jK hn (Yk e1)) fun b hb=>.inl hb
theorem Dx [Glob P] {c:Code}{s:S}(i r:Nat) {d d':D}(hi:s.t i=d) (hd : ∀ (g:Mem) (w:World) (v:Value),HM P s.h g w->Rep w g d v->Rep w (iK g r) d' v) (h:DW P ro c Q { n:=s.n,t:=upd s.t i d',h:=upd s.h r none,nx:=s.nx,e:=s.e }):DW P ro c Q s:=by
 intro B g a w hs hU
 have mono:=wy g r w
 have hst:St P B { n:=s.n,t:=upd s.t i d',h:=upd s.h r none,nx:=s.nx,e:=s.e } (iK g r) a w:=by
  refine⟨hs.sz,fun j=>?_,zA hs.mem r,hs.df.later hs.mem mono,Env.later hs.mem mono hs.en,hs.bd⟩
  by_cases e:j=i
  .
   subst e;simp only[upd_same];have hj:=hs.tm j;rw[hi] at hj;exact hd g w _ hs.mem hj
  simp only[upd_ne _ _ _ _ e];exact (hs.tm j).later hs.mem mono
 exact wpIn_mono (h B (iK g r) a w hst hU) fun e a' w' ⟨s',g'',q,r,m,u,v⟩=>⟨s',g'',q,r,mono.toX.trans m,u,v⟩
theorem Vy [Glob P] {c:Code}{s:S}(i r:Nat) {bl:Blk}{kv:List D}(hi:s.t i = .mp r) (hr:s.h r=some bl) (hk:jh bl=some kv) (hn:aW kv=true) (h:DW P ro c Q { n:=s.n,t:=upd s.t i (.fmap kv),h:=upd s.h r none,nx:=s.nx,e:=s.e }):DW P ro c Q s :=
 Dx i r hi (fun _ _ _ hm hv=>J9 hm hr hk hn hv) h
theorem Vx [Glob P] {c:Code}{s:S}(q j r:Nat) {ty0:TypeId}{row:List D}{bl:Blk}{kv:List D}(hq:s.h q=some ⟨ty0,[row]⟩) (hj:row[j]? = some (.mp r)) (hr:s.h r=some bl) (hk:jh bl=some kv) (hqr:q≠r) (hn:aW kv=true)
  (h:DW P ro c Q { n:=s.n,t:=s.t,h:=upd (upd s.h r none) q (some ⟨ty0,[row.set j (.fmap kv)]⟩),nx:=s.nx,e:=s.e }):DW P ro c Q s:=by
 intro B g a w hs hU
 have mono:=wy g r w
 have hm:=HM.recell2 (rows':=[row.set j (.fmap kv)]) hs.mem (zA hs.mem r) mono hq (by rw[upd_ne _ _ _ _ hqr];exact hq) rfl (one_cell hj (fun v hv=>J9 hs.mem hr hk hn hv) fun d v hv=>hv.later hs.mem mono)
 have hst:St P B { n:=s.n,t:=s.t,h:=upd (upd s.h r none) q (some ⟨ty0,[row.set j (.fmap kv)]⟩),nx:=s.nx,e:=s.e } (iK g r) a w :=
  ⟨hs.sz,fun j=>(hs.tm j).later hs.mem mono,hm,hs.df.later hs.mem mono,Env.later hs.mem mono hs.en,hs.bd⟩
 exact wpIn_mono (h B (iK g r) a w hst hU) fun e a' w' ⟨s',g'',q,r,m,u,v⟩=>⟨s',g'',q,r,mono.toX.trans m,u,v⟩
theorem J8 [Glob P] {h:H}{g:Mem}{w:World}(hm:HM P h g w) {r:Nat}{ty:TypeId}{row:List D}(hr:h r=some ⟨ty,[row]⟩) (hn:aW row=true) {v:Value}(hv:Rep w g (.mptr r 0 0) v):Rep w (iK g r) (.eptr row) v:=by
 let h1:H:=fun x=>if x=r then h r else none
 have hsub : ∀ x,h1 x=h x\/h1 x=none:=fun x=>by
  by_cases e:x=r
  .
   subst e;exact .inl (X4 rfl)
  exact .inr (XZ e)
 have hm1:=hm.only hsub
 have e1:h1 r=some ⟨ty,[row]⟩:=by show (if r=r then h r else none)=_;rw[X4 rfl];exact hr
 have e2:dO (.mptr r 0 0) h1=row:=by simp only[dO,e1];rfl
 have h0 : ∀ d:D,d.nr=true->kF h1 d=d/\ll h1 d:=by
  intro d hd
  cases d<;>first|exact⟨rfl,trivial⟩|(simp[D.nr] at hd;done)
 have:=Dz hm1 (lG hv.only) ⟨by rw[e1];rfl,by rw[e2];exact fun c hc=>(h0 c (jK hn hc)).2⟩
 rw[e2] at this
 have e3:row.map (kF h1)=row:=by
  conv=>rhs;rw[<- List.map_id row]
  exact Zy fun c hc=>(h0 c (jK hn hc)).1
 rw[e3] at this
 refine this.clean hn fun b hb=>?_
 rcases hb with hb|⟨x,c,sz,hb⟩
 .
  exact .inl hb
 have hb2:(if (h1 x).isSome then g.M x else none)=some (some b,c,sz):=hb
 split at hb2
 .
  rename_i hx
  have:x=r:=by
   refine YW fun e=>?_
   have:h1 x=none:=XZ e;rw[this] at hx;cases hx
  subst this;exact .inr ⟨c,sz,hb2⟩
 cases hb2
theorem sI [Glob P] {c:Code}{s:S}(i r:Nat) {ty:TypeId}{row:List D}(hi:s.t i = .mptr r 0 0) (hr:s.h r=some ⟨ty,[row]⟩) (hn:aW row=true) (h:DW P ro c Q { n:=s.n,t:=upd s.t i (.eptr row),h:=upd s.h r none,nx:=s.nx,e:=s.e }):DW P ro c Q s :=
 Dx i r hi (fun _ _ _ hm hv=>J8 hm hr hn hv) h
def au (P:Program) [Glob P] (ro:Option Nat) (ops:Array Oper) (i b:Nat) (s:S) (Q:Exit->S->Prop):Prop :=
 ∀ (B:Bot) (g0 g:Mem) (a:Act) (w0 w:World),St P B s g a w->Mono g0 g w0 w->(∀ r,g.U r->r<b+i) ->
  wpOpsIn (Fw ro) 0 P ops (fun e a' w'=>∃ s' g',Q e s'/\St P B s' g' a' w'/\MonoX s.e.x g0 g' w0 w'/\(∀ r,g'.U r->r<s'.nx)/\s'.e.x=s.e.x) (List.range' i (ops.size-i)) a w
def dB (P:Program) [Glob P] (C:Con) (ops:Array Oper) (i k:Nat) (o:Oper) (b:Nat) (s s1:S):Prop:=i<=k/\ops[k]? = some o/\o.guard=none/\aH P (words P) C ops.toList b i ((ops.toList.drop i).take (k-i)) s=s1/\s1.ok/\bE s1.n o.dst=true
theorem uw [Glob P] {s:S}{id:Nat}{ops:Array Oper}(h:au P ro ops 0 s.nx { n:=s.n,t:=s.t,h:=s.h,nx:=s.nx+ops.size,ok:=True,e:=s.e } Q):DW P ro (.region id ops false) Q s:=by
 intro B g a w hs hU
 refine wpIn_region ?_
 rw[Y7]
 exact h B g g a w w ⟨hs.sz,hs.tm,hs.mem,hs.df,hs.en,hs.bd⟩ (Mono.refl _ _) (fun r hr=>by have:=hU r hr;omega)
theorem Dq [Glob P] (L:List Oper) (b:Nat):∀ (l:List Oper) (i:Nat) (u:S),(aH P (words P) C L b i l u).nx=u.nx:=by
 intro l
 induction l with
 | nil=>intro i u;rfl
 | cons x l ih=>intro i u;simp only[aH];rw[ih,exec1_n.2]
theorem lU [Glob P] (L:List Oper) (b:Nat):∀ (l:List Oper) (i:Nat) (u:S),(aH P (words P) C L b i l u).e=u.e:=by
 intro l
 induction l with
 | nil=>intro i u;rfl
 | cons x l ih =>
  intro i u;simp only[aH];rw[ih];unfold bq
  split<;>rfl
theorem tL [Glob P] {s s2:S}{ops:Array Oper}{i b:Nat}(hi:i<=ops.size) (he:aH P (words P) C ops.toList b i (ops.toList.drop i) s=s2) (hok:s2.ok) (hn:s.nx=b+ops.size) (hq:Q .normal s2.clear):au P ro ops i b s Q:=by
 intro B g0 g a w0 w hs hm hU
 have e3:(ops.toList.drop i).take (ops.size-i)=ops.toList.drop i:=Yq (by simp)
 have:=lT (ro:=ro) (P:=P) (C:=C) (B:=B) (ops:=ops) (b:=b) (n:=0) (rest:=[]) (g0:=g0) (w0:=w0) (Q:=fun e a' w'=>∃ s' g',Q e s'/\St P B s' g' a' w'/\MonoX s.e.x g0 g' w0 w'/\(∀ r,g'.U r->r<s'.nx)/\s'.e.x=s.e.x) (ops.size-i) i s g a w hs hm hU om
  (by rw[e3,he];exact hok) fun g'' a'' w'' p1 p2 p3=>by
   rw[e3,he] at p1;refine⟨_,g'',hq,p1.clear,p2.toX,fun r hr=>?_,?_⟩
   .
    have h3:=p3 r hr;have h4:=Dq (P:=P) (C:=C) ops.toList b (ops.toList.drop i) i s;rw[he] at h4
    show r<s2.nx
    rw[h4,hn];omega
   have h5:=lU (P:=P) (C:=C) ops.toList b (ops.toList.drop i) i s;rw[he] at h5
   show s2.e.x=s.e.x
   rw[h5]
 rw[YE] at this
 exact this
theorem nI [Glob P] {s s1:S}{ops:Array Oper}{i b:Nat}(k:Nat) {o:Oper}{f:Operand}{args:Array Operand}{ts:Array TypeId}{fid:FuncId}{first caps xs:List D}(R:D->H->Nat->Prop) (hik:i<=k)
  (ho:ops[k]? = some o) (hop:o.op = .call { callee:=.value f,args:=args,argTypes:=ts }) (hg:o.guard=none)
  (he:aH P (words P) C ops.toList b i ((ops.toList.drop i).take (k-i)) s=s1) (hok:s1.ok) (hd:bE s1.n o.dst=true)
  (hf:s1.ev f = .fn (.func fid) first caps) (hxg:(args.toList.map s1.ev).all sg=true) (hx:((args.toList.map s1.ev).map sd).map wk=xs) (hct:RCt P fid (first++xs++caps) s1.h (b+k) R)
  (hk : ∀ res h' n',R res h' n'->au P ro ops (k+1) n' { n:=s1.n,t:=s1.put o.dst res,h:=h',nx:=n'+ops.size,ok:=True,e:=s1.e } Q):au P ro ops i b s Q:=by
 intro B g0 g a w0 w hs hm hU
 have hlt:k<ops.size:=(Yl.1 ho).1
 have hr:List.range' i (ops.size-i)=List.range' i (k-i)++(k::List.range' (k+1) (ops.size-(k+1))):=by
  have:ops.size-i=(k-i)+((ops.size-(k+1))+1):=by omega
  rw[this,<- Zi,Y3];have e1:i+(k-i)=k:=by omega
  rw[e1]
 rw[hr]
 refine lT (C:=C) (b:=b) (k-i) i s g a w hs hm hU (by omega) (by rw[he];exact hok) fun g1 a1 w1 hs1 hm1 hU1=>?_
 rw[he] at hs1
 have hU1 : ∀ r,g1.U r->r<b+k:=fun r hr=>by have:=hU1 r hr;omega
 have hse:s1.e=s.e:=by rw[<- he];exact lU _ _ _ _ _
 rw[wpOpsIn_cons]
 unfold wpOpIn
 rw[ho]
 simp only
 have hw:Region.wanted o (yielded ops a1.tmps)=true:=by simp[Region.wanted,hg]
 rw[X4 hw]
 have hdef : ∀ c,o.op ≠ .defer c:=by intro c e;rw[e] at hop;cases hop
 have hsem:o.semAt (Fw ro).round a1.eval=execOp a1.eval o:=Oper.semAt_eq _ _ _ hdef
 refine⟨fun _ _=>trivial,?_⟩
 rw[hsem]
 obtain⟨hbd,hct⟩:=hct
 have hfr:=bC hs1 f
 rw[hf] at hfr
 have hxr:=Reps.wk (nC (mQ hs1 args.toList) hxg)
 rw[hx] at hxr
 generalize hv:a1.eval f=vf at hfr
 cases hfr with|fn _ _ _ fs cs l1 l2 r1 r2 =>
 have hrun:(execOp a1.eval o).run P w1 = .ok (.enter fid (fs++args.map a1.eval++cs)) w1:=by
  simp[execOp,hop,resolve,Deferred.ofValue,hv,invoke,mY hbd]
 rw[hrun,Oper.uponIn_enter]
 have e:fs++args.map a1.eval++cs=(fs.toList++args.toList.map a1.eval++cs.toList).toArray:=by apply Zo;simp
 rw[e]
 refine⟨fun h=>by simp[Fw,Fence.wide] at h,qU ((hct w1 g1 _ hs1.mem hU1 (Reps.append (Reps.append ⟨by simpa using l1,fun i d x h1 h2=>r1 i d x h1 (by simpa using h2)⟩ hxr) ⟨by simpa using l2,fun i d x h1 h2=>r2 i d x h1 (by simpa using h2)⟩)).mono ?_)⟩
 rintro e w' ⟨v,g',res,h',n',hR,rfl,q1,q2,q3,q4⟩
 have hs2:=ic hs1 q3 q2 hd q1 True
 have:=hk res h' n' hR B g0 g' (a1.put o.dst v) w0 w' ⟨hs2.sz,hs2.tm,hs2.mem,hs2.df,hs2.en,hs2.bd⟩ (hm1.trans q3) (fun r hr=>by have:=q4 r hr;omega)
 rw[hse] at this
 exact this
theorem jB [Glob P] {s s1:S}{ops:Array Oper}{i b:Nat}(k:Nat) {o:Oper}(A:D->H->Prop) (hik:i<=k) (ho:ops[k]? = some o) (hg:o.guard=none) (hdef : ∀ c,o.op ≠ .defer c)
  (he:aH P (words P) C ops.toList b i ((ops.toList.drop i).take (k-i)) s=s1) (hok:s1.ok) (hd:bE s1.n o.dst=true)
  (hdo : ∀ (B:Bot) (g:Mem) (a:Act) (w:World),St P B s1 g a w -> ¬ g.U (b+k) -> ∃ d h',A d h'/\Does P g w (b+k) ((execOp a.eval o).run P w) d h')
  (hk : ∀ d h',A d h'->au P ro ops (k+1) b { n:=s1.n,t:=s1.put o.dst d,h:=h',nx:=s1.nx,ok:=True,e:=s1.e } Q):au P ro ops i b s Q:=by
 intro B g0 g a w0 w hs hm hU
 have hlt:k<ops.size:=(Yl.1 ho).1
 have hr:List.range' i (ops.size-i)=List.range' i (k-i)++(k::List.range' (k+1) (ops.size-(k+1))):=by
  have:ops.size-i=(k-i)+((ops.size-(k+1))+1):=by omega
  rw[this,<- Zi,Y3];have e1:i+(k-i)=k:=by omega
  rw[e1]
 rw[hr]
 refine lT (C:=C) (b:=b) (k-i) i s g a w hs hm hU (by omega) (by rw[he];exact hok) fun g1 a1 w1 hs1 hm1 hU1=>?_
 rw[he] at hs1
 have hU1 : ∀ r,g1.U r->r<b+k:=fun r hr=>by have:=hU1 r hr;omega
 have hse:s1.e=s.e:=by rw[<- he];exact lU _ _ _ _ _
 rw[wpOpsIn_cons]
 unfold wpOpIn
 rw[ho]
 simp only
 have hw:Region.wanted o (yielded ops a1.tmps)=true:=by simp[Region.wanted,hg]
 rw[X4 hw]
 have hsem:o.semAt (Fw ro).round a1.eval=execOp a1.eval o:=Oper.semAt_eq _ _ _ hdef
 refine⟨fun _ _=>trivial,?_⟩
 rw[hsem]
 obtain⟨d,h',hA,v,g',w',hrun,q1,q2,q3,q4⟩:=hdo B g1 a1 w1 hs1 (fun h=>Nat.lt_irrefl _ (hU1 _ h))
 have hend : ∀ (v:Value) (g':Mem) (w':World),Rep w' g' d v->HM P h' g' w'->Mono g1 g' w1 w'->(∀ r,g'.U r->g1.U r\/r=b+k)->wpOpsIn (Fw ro) 0 P ops (fun e a' w'=>∃ s' g',Q e s'/\St P B s' g' a' w'/\MonoX s.e.x g0 g' w0 w'/\(∀ r,g'.U r->r<s'.nx)/\s'.e.x=s.e.x) (List.range' (k+1) (ops.size-(k+1))) (a1.put o.dst v) w':=by
  intro v g' w' q1 q2 q3 q4;have hs2:=ic hs1 q3 q2 hd q1 True;have:=hk d h' hA B g0 g' (a1.put o.dst v) w0 w' ⟨hs2.sz,hs2.tm,hs2.mem,hs2.df,hs2.en,hs2.bd⟩ (hm1.trans q3) (fun r hr=>by
   rcases q4 r hr with h|h
   .
    have:=hU1 r h;omega
   omega)
  rw[hse] at this;exact this
 rcases hrun with hrun|⟨hrun,rfl⟩
 .
  rw[hrun,Oper.uponIn_value];exact hend v g' w' q1 q2 q3 q4
 rw[hrun,Oper.uponIn_skip];exact hend undef g' w' q1 q2 q3 q4
theorem xV [Glob P] {s s1:S}{ops:Array Oper}{i b:Nat}(k:Nat) {o:Oper}{t e t':TypeId}{x:Operand}{f:Bool}{rows:List (List D)}(hik:i<=k) (ho:ops[k]? = some o) (hg:o.guard=none)
  (hop:o.op = .binOp .eql t x (.const (.slice none 0 0)) t') (ht:P.underlying t=some (.slice e))
  (he:aH P (words P) C ops.toList b i ((ops.toList.drop i).take (k-i)) s=s1) (hok:s1.ok) (hd:bE s1.n o.dst=true) (hx:s1.ev x = .list f rows)
  (hk : ∀ y:Bool,(y=true->rows=[])->au P ro ops (k+1) b { n:=s1.n,t:=s1.put o.dst (.b y),h:=s1.h,nx:=s1.nx,ok:=True,e:=s1.e } Q):au P ro ops i b s Q:=by
 refine jB (C:=C) k (fun d h'=>∃ y:Bool,d = .b y/\h'=s1.h/\(y=true->rows=[])) hik ho hg (fun c e=>by rw[hop] at e;cases e) he hok hd (fun B g a w hs _=>?_) (fun d h' ⟨y,hy,hh,hr⟩=>by subst hy;subst hh;exact hk y hr)
 have hr:=bC hs x
 rw[hx] at hr
 have key : ∃ (ad:Option Addr) (n c:Nat),a.eval x = .slice ad n c/\(ad=none->rows=[]):=by
  generalize a.eval x=v at hr
  cases hr with
  | empty _ ad cap hf hm=>exact⟨ad,0,cap,rfl,fun _=>rfl⟩
  | list _ _ ad cap size cv hI hl hf=>exact⟨some ad,_,cap,rfl,fun h=>by cases h⟩
 obtain⟨ad,n,c,hv,hn⟩:=key
 refine⟨.b ad.isNone,s1.h,⟨ad.isNone,rfl,rfl,fun h=>hn (Y9.1 h)⟩,.bool ad.isNone,g,w,.inl ?_,.v _,hs.mem,Mono.refl _ _,fun r hr=>.inl hr⟩
 have hrun:=Go.Lib.run_eql_slice_nil (P:=P) w t e ad n c 0 0 ht
 have hc:a.eval (.const (.slice none 0 0)) = .slice none 0 0:=rfl
 simp[execOp,hop,hv,hc,eqGuard,hrun]
end Go.DL

namespace Go.DL
variable {P : Program} {ro : Option Nat} {Q : Exit -> S -> Prop}
attribute [go_sem] List.take_length bne_self_eq_false
@[go_sem] theorem self_ne {n k:Nat}(h:0<k):(n=n+k)=False:=Y4 (by omega)
theorem ok0 {p:Prop}(h:p:=by first|done|(repeat' (with_reducible apply And.intro))<;>first|omega|(with_reducible assumption)|(intros;omega)|(intros;simp only[XW,X6,Yc,XV,Yh,Yd,Yt] at *;omega)|(simp_all;done)|(simp_all;omega)):p:=h
theorem ev {α:Sort _}{a b:α}(h:a=b:=by first|(simp only[go_sem,ff];exact rfl)|(simp only[go_sem,ff];done)|exact rfl):a=b:=h
theorem iv {p:Prop}(h:p:=by first|omega|(with_reducible assumption)|rfl|(simp_all;done)|(simp_all;omega)|(dsimp only;first|omega|(with_reducible assumption)|rfl|(simp_all;done)|(simp_all;omega))):p:=h
section
variable [Glob P] (C : Con) {s : S} {n nx : Nat} {t : Nat -> D} {h : H} {ok : Prop} {e : Env} {id : Nat} {ops : Array Oper} {draw : Bool} {x y c : Code}
theorem aa (hq:DW P ro y Q ⟨n,t,h,nx,True,e⟩) (he:exec P (words P) C ops.toList s=⟨n,t,h,nx,ok,e⟩:=by simp only[go_sem,ff];exact rfl) (hd:draw=true->P.follows .mixedOrders=true/\jl C ops.toList=true/\gH ops.toList=true:=by intro hdr;first|(cases hdr;done)|exact⟨jL,by kernel_rfl,by kernel_rfl⟩)
  (hok:ok:=by (try simp only[go_sem,ff]);all_goals exact ok0):DW P ro (.seq (.region id ops draw) y) Q s:=qN he hd hok hq
theorem ah (hq:Q .normal ⟨n,t,h,nx,True,e⟩) (he:exec P (words P) C ops.toList s=⟨n,t,h,nx,ok,e⟩:=by simp only[go_sem,ff];exact rfl) (hd:draw=true->P.follows .mixedOrders=true/\jl C ops.toList=true/\gH ops.toList=true:=by intro hdr;first|(cases hdr;done)|exact⟨jL,by kernel_rfl,by kernel_rfl⟩)
  (hok:ok:=by (try simp only[go_sem,ff]);all_goals exact ok0):DW P ro (.region id ops draw) Q s:=Vr he hd hok hq
end
section
variable [Glob P] {s : S} {x y c : Code}
theorem cd {o:Operand}{b:Bool}{p q:Prop}(ht:p->DW P ro x Q s) (hf:q->DW P ro y Q s) (hc:s.ev o = .v (.bool b):=by first|(simp only[go_sem,ff];exact rfl)|exact rfl)
  (hp:(b=true)=p:=by first|(simp only[XW,X6,Yc,XV,Yh,Yd,Yt,Yx,YF,Zx,ZL,Zw,ne_eq];exact rfl)|exact rfl)
  (hq:(b=false)=q:=by first|(simp only[XW,X6,Yc,XV,Yh,Yd,Yt,Yx,YF,Zx,ZL,Zw,ne_eq];exact rfl)|exact rfl):DW P ro (.cond o x y) Q s :=
 VC hc (fun h=>ht (Eq.mp hp h)) (fun h=>hf (Eq.mp hq h))
variable {α : Type} {fx : List (Nat × D)}
theorem lp (keep:List Nat) (A:α->Prop) (μ:α->Nat) (tb:α->List (Nat×D)) (hb:α->List (Nat×Blk)) (nxx:α->Nat) (a0:α) (hn:s.nx<=nxx a0:=by first|exact XX _|omega) (hA:A a0)
  (round : ∀ a,A a->DW P ro c (thenS (fun s'=>∃ a',A a'/\μ a'<μ a/\(∀ p∈tb a',Tb s'.t p)/\(∀ p∈fx,Tb s'.t p)/\(∀ p∈hb a',s'.h p.1=some p.2)/\s'.nx<=nxx a'/\s'.n=s.n/\s'.e=s.e) Q) { n:=s.n,t:=tab (tb a++fx),h:=htab (hb a),nx:=nxx a,e:=s.e })
  (hfx:keep.map (fun i=>(i,s.t i))=fx:=by simp only[X8,Yu,go_sem,ff];exact rfl)
  (ht : ∀ p∈tb a0,Tb s.t p:=by first|(simp only[go_sem,ff];done)|(simp[go_sem,ff];done)|(simp only[go_sem,ff];(repeat' (with_reducible apply And.intro))<;>first|(left;simp;done)|(right;simp[go_sem];done)))
  (hh : ∀ p∈hb a0,s.h p.1=some p.2:=by first|(simp only[go_sem,ff];done)|simp[go_sem,ff]):DW P ro (.loop c) Q s:=Vt keep A μ tb hb nxx a0 hfx hA ht hh hn round
theorem eG (keep:List Nat) (A:α->Prop) (μ:α->Nat) (tb:α->List (Nat×D)) (hh:α->H) (nxx:α->Nat) (a0:α) (hn:s.nx<=nxx a0:=by first|exact XX _|omega) (hA:A a0)
  (round : ∀ a,A a->DW P ro c (thenS (fun s'=>∃ a',A a'/\μ a'<μ a/\(∀ p∈tb a',Tb s'.t p)/\(∀ p∈fx,Tb s'.t p)/\(∀ r,hh a' r=s'.h r\/hh a' r=none)/\s'.nx<=nxx a'/\s'.n=s.n/\s'.e=s.e) Q) { n:=s.n,t:=tab (tb a++fx),h:=hh a,nx:=nxx a,e:=s.e })
  (hfx:keep.map (fun i=>(i,s.t i))=fx:=by simp only[X8,Yu,go_sem,ff];exact rfl)
  (ht : ∀ p∈tb a0,Tb s.t p:=by first|(simp only[go_sem,ff];done)|(simp[go_sem,ff];done)|(simp only[go_sem,ff];(repeat' (with_reducible apply And.intro))<;>first|(left;simp;done)|(right;simp[go_sem];done)))
  (hhh : ∀ r,hh a0 r=s.h r\/hh a0 r=none:=by exact mE _):DW P ro (.loop c) Q s:=Vs keep A μ tb hh nxx a0 hfx hA ht hhh hn round
theorem jnh (keep:List Nat) (A:α->Prop) (tb:α->List (Nat×D)) (hh:α->H) (nxx:α->Nat)
  (h:DW P ro x (thenS (fun s'=>∃ a,A a/\(∀ p∈tb a,Tb s'.t p)/\(∀ p∈fx,Tb s'.t p)/\(∀ r,hh a r=s'.h r\/hh a r=none)/\s'.nx<=nxx a/\s'.n=s.n/\s'.e=s.e) Q) s)
  (k : ∀ a,A a->DW P ro y Q { n:=s.n,t:=tab (tb a++fx),h:=hh a,nx:=nxx a,e:=s.e })
  (hfx:keep.map (fun i=>(i,s.t i))=fx:=by simp only[X8,Yu,go_sem,ff];exact rfl):DW P ro (.seq x y) Q s:=Vv keep A tb hh nxx hfx h k
end
theorem ak {α:Type}{A M T F B N E1 E2:α->Prop}(w:α) (h6:N w:=by first|exact XX _|omega) (h1:A w) (h2:M w:=by show (_:Nat)<_;first|omega|simp_all;omega)
  (h3:T w:=by (try simp only[go_sem,ff]);all_goals (first|done|(simp;done)|(simp;omega)|((repeat' (with_reducible apply And.intro))<;>first|(left;simp;done)|(right;simp[go_sem];done))))
  (h4:F w:=by (try simp only[go_sem,ff]);all_goals (first|done|(simp;done)|(simp;omega)|((repeat' (with_reducible apply And.intro))<;>first|(left;simp;done)|(right;simp[go_sem];done))))
  (h5:B w:=by first|exact mE _|((try simp only[go_sem,ff]);all_goals (first|done|(simp;done)|(simp;omega)|((repeat' (with_reducible apply And.intro))<;>first|(left;simp;done)|(right;simp[go_sem];done)))))
  (h7:E1 w:=by exact rfl) (h8:E2 w:=by exact rfl):∃ a,A a/\M a/\T a/\F a/\B a/\N a/\E1 a/\E2 a:=⟨w,h1,h2,h3,h4,h5,h6,h7,h8⟩
theorem pV {α:Type}{A T F B N E1 E2:α->Prop}(w:α) (h6:N w:=by first|exact XX _|omega) (h1:A w)
  (h3:T w:=by (try simp only[go_sem,ff]);all_goals (first|done|(simp;done)|(simp;omega)|((repeat' (with_reducible apply And.intro))<;>first|(left;simp;done)|(right;simp[go_sem];done))))
  (h4:F w:=by (try simp only[go_sem,ff]);all_goals (first|done|(simp;done)|(simp;omega)|((repeat' (with_reducible apply And.intro))<;>first|(left;simp;done)|(right;simp[go_sem];done))))
  (h5:B w:=by first|exact mE _|((try simp only[go_sem,ff]);all_goals (first|done|(simp;done)|(simp;omega)|((repeat' (with_reducible apply And.intro))<;>first|(left;simp;done)|(right;simp[go_sem];done)))))
  (h7:E1 w:=by exact rfl) (h8:E2 w:=by exact rfl):∃ a,A a/\T a/\F a/\B a/\N a/\E1 a/\E2 a:=⟨w,h1,h3,h4,h5,h6,h7,h8⟩
theorem fin {A B:Prop}{Ks Rs:Nat->Prop}(K:Nat) (hr:Rs K:=by (try simp only[go_sem,ff]);all_goals simp) (hk:Ks K:=by (try simp only[go_sem,ff]);all_goals simp)
  (ha:A:=by first|exact .inr rfl|exact .inl rfl|trivial|simp) (hb:B:=by simp only[go_sem,ff]):A/\B /\ ∃ k,Ks k/\Rs k:=⟨ha,hb,K,hk,hr⟩
theorem bu {A B:Prop}{Hs:H->Prop}{Ns:Nat->Prop}{R:H->Nat->Prop}{n':Nat}(h':H) (hn:Ns n':=by first|exact XX _|omega) (hr:R h' n':=by (try simp only[go_sem,ff]);all_goals simp) (hh:Hs h':=by exact fun _=>.inl rfl)
  (ha:A:=by first|exact .inr rfl|exact .inl rfl|trivial|simp) (hb:B:=by simp only[go_sem,ff]):A/\B /\ ∃ h' n',Hs h'/\Ns n'/\R h' n':=⟨ha,hb,h',n',hh,hn,hr⟩
section
variable [Glob P] (C : Con) {s s1 : S} {id : Nat} {ops : Array Oper} {o : Oper} {f : Operand} {args : Array Operand} {ts : Array TypeId} {fid : FuncId} {first caps xs : List D} {R : D -> H -> Nat -> Prop}
def Nxt (P:Program) [Glob P] (C:Con) (L:List Oper) (b i:Nat) (l:List Oper) (u:S) (Q:Exit->S->Prop):Prop:=∃ s2,aH P (words P) C L b i l u=s2/\s2.ok/\Q .normal s2.clear
theorem aA (k:Nat) (ho:ops[k]? = some o:=by exact bM rfl) (hop:o.op = .call { callee:=.value f,args:=args,argTypes:=ts }:=by exact rfl) (hg:o.guard=none:=by exact rfl)
  (he:aH P (words P) C ops.toList s.nx 0 (ops.toList.take k) { n:=s.n,t:=s.t,h:=s.h,nx:=s.nx+k,ok:=s.ok,e:=s.e }=s1:=by simp only[Ya,Yj,go_sem,ff];exact rfl) (hok:s1.ok:=by (try simp only[go_sem,ff]);all_goals exact ok0) (hd:bE s1.n o.dst=true:=by (try simp only[go_sem,ff]);all_goals (first|done|rfl|decide|simp))
  (hf:s1.ev f = .fn (.func fid) first caps:=by simp only[go_sem,ff];exact rfl) (hxg:(args.toList.map s1.ev).all sg=true:=by simp only[go_sem,ff]) (hx:((args.toList.map s1.ev).map sd).map wk=xs:=by simp only[go_sem,ff];exact rfl) (hct:RCt P fid (first++xs++caps) s1.h (s.nx+k) R)
  (hk : ∀ res h' n',R res h' n'->Nxt P C ops.toList n' (k+1) (ops.toList.drop (k+1)) { n:=s1.n,t:=s1.put o.dst res,h:=h',nx:=n'+ops.size,ok:=True,e:=s1.e } Q) :
  DW P ro (.region id ops false) Q s:=VE k R ho hop hg he hok hd hf hxg hx hct hk
theorem az {L:List Oper}{b i:Nat}{l:List Oper}{u:S}{n nx:Nat}{t:Nat->D}{h:H}{ok:Prop}{e:Env}(hq:Q .normal ⟨n,t,h,nx,True,e⟩) (he:aH P (words P) C L b i l u=⟨n,t,h,nx,ok,e⟩:=by simp only[Yf,X9,S.put,go_sem,ff];exact rfl) (hok:ok:=by (try simp only[go_sem,ff]);all_goals exact ok0) :
  Nxt P C L b i l u Q:=⟨_,he,hok,hq⟩
end
theorem qA {p0 p1:Prop}(a0:p0) (a1:p1):p0/\p1:=⟨a0,a1⟩
theorem qB {p0 p1 p2:Prop}(a0:p0) (a1:p1) (a2:p2):p0/\p1/\p2:=⟨a0,a1,a2⟩
theorem qD {p0 p1 p2 p3:Prop}(a0:p0) (a1:p1) (a2:p2) (a3:p3):p0/\p1/\p2/\p3:=⟨a0,a1,a2,a3⟩
theorem qE {p0 p1 p2 p3 p4:Prop}(a0:p0) (a1:p1) (a2:p2) (a3:p3) (a4:p4):p0/\p1/\p2/\p3/\p4:=⟨a0,a1,a2,a3,a4⟩
theorem qF {p0 p1 p2 p3 p4 p5:Prop}(a0:p0) (a1:p1) (a2:p2) (a3:p3) (a4:p4) (a5:p5):p0/\p1/\p2/\p3/\p4/\p5:=⟨a0,a1,a2,a3,a4,a5⟩
theorem qG {p0 p1 p2 p3 p4 p5 p6:Prop}(a0:p0) (a1:p1) (a2:p2) (a3:p3) (a4:p4) (a5:p5) (a6:p6):p0/\p1/\p2/\p3/\p4/\p5/\p6:=⟨a0,a1,a2,a3,a4,a5,a6⟩
theorem qH {p0 p1 p2 p3 p4 p5 p6 p7:Prop}(a0:p0) (a1:p1) (a2:p2) (a3:p3) (a4:p4) (a5:p5) (a6:p6) (a7:p7):p0/\p1/\p2/\p3/\p4/\p5/\p6/\p7:=⟨a0,a1,a2,a3,a4,a5,a6,a7⟩
theorem qI {p0 p1 p2 p3 p4 p5 p6 p7 p8:Prop}(a0:p0) (a1:p1) (a2:p2) (a3:p3) (a4:p4) (a5:p5) (a6:p6) (a7:p7) (a8:p8):p0/\p1/\p2/\p3/\p4/\p5/\p6/\p7/\p8:=⟨a0,a1,a2,a3,a4,a5,a6,a7,a8⟩
theorem nG (a b:Nat) (h:a<b:=by omega):(∀ k:Nat,(a=b+k)=False) /\ ∀ k:Nat,(b+k=a)=False:=⟨fun k=>Y4 om,fun k=>Y4 om⟩
theorem nH (a b:Nat) (h:a≠b:=by omega):((a=b)=False)/\((b=a)=False):=⟨Y4 h,Y4 h.symm⟩
theorem oF {p q:Prop}(k:q) (h:p=q:=by first|(simp only[go_sem,ff];exact rfl)|(simp only[go_sem,ff];done)|exact rfl):p:=h ▸ k
theorem oS {p q:Prop}(h:p=q:=by first|(simp only[go_sem,ff];exact rfl)|(simp only[go_sem,ff];done)|exact rfl) (k:q):p:=h ▸ k
theorem oR {p:Prop}(h:p:=by (try simp only[go_sem,ff]);all_goals (first|rfl|(simp;done))):p:=h
theorem oH {p r1:Prop}(x1:r1) (h:r1->p:=by intro c1;(try simp only[go_sem,ff]);all_goals (first|done|((repeat' (with_reducible apply And.intro))<;>first|exact c1|exact c1 _|exact c1 _ _|exact c1 _ _ _|(intros;exact c1)|(intros;exact c1 _)|(intros;exact c1 _ _)|omega|(intros;omega)|(intro h;cases h)|(intro h;simp at h;done)|(intros;simp;done)|skip))):p:=h x1
theorem oI {p r1 r2:Prop}(x1:r1) (x2:r2) (h:r1->r2->p:=by intro c1 c2;(try simp only[go_sem,ff]);all_goals (first|done|((repeat' (with_reducible apply And.intro))<;>first|exact c1|exact c1 _|exact c1 _ _|exact c1 _ _ _|(intros;exact c1)|(intros;exact c1 _)|(intros;exact c1 _ _)|exact c2|exact c2 _|exact c2 _ _|exact c2 _ _ _|(intros;exact c2)|(intros;exact c2 _)|(intros;exact c2 _ _)|omega|(intros;omega)|(intro h;cases h)|(intro h;simp at h;done)|(intros;simp;done)|skip))):p:=h x1 x2
theorem oJ {p r1 r2 r3:Prop}(x1:r1) (x2:r2) (x3:r3) (h:r1->r2->r3->p:=by intro c1 c2 c3;(try simp only[go_sem,ff]);all_goals (first|done|((repeat' (with_reducible apply And.intro))<;>first|exact c1|exact c1 _|exact c1 _ _|exact c1 _ _ _|(intros;exact c1)|(intros;exact c1 _)|(intros;exact c1 _ _)|exact c2|exact c2 _|exact c2 _ _|exact c2 _ _ _|(intros;exact c2)|(intros;exact c2 _)|(intros;exact c2 _ _)|exact c3|exact c3 _|exact c3 _ _|exact c3 _ _ _|(intros;exact c3)|(intros;exact c3 _)|(intros;exact c3 _ _)|omega|(intros;omega)|(intro h;cases h)|(intro h;simp at h;done)|(intros;simp;done)|skip))):p:=h x1 x2 x3
theorem oN [Glob P] {s:S}(h:Q .ret s):DW P ro .ret Q s:=aI h
section
variable [Glob P] (C : Con) {s : S} {n nx : Nat} {t : Nat -> D} {h : H} {ok : Prop} {e : Env} {id : Nat} {ops : Array Oper} {draw : Bool} {x y c : Code} {o : Operand} {b : Bool} {p q : Prop}
theorem oK (ht:p->DW P ro x (thenS (DW P ro y Q) Q) ⟨n,t,h,nx,True,e⟩) (hf:q->DW P ro y Q ⟨n,t,h,nx,True,e⟩) (he:exec P (words P) C ops.toList s=⟨n,t,h,nx,ok,e⟩:=by simp only[go_sem,ff];exact rfl) (hd:draw=true->P.follows .mixedOrders=true/\jl C ops.toList=true/\gH ops.toList=true:=by intro hdr;first|(cases hdr;done)|exact⟨jL,by kernel_rfl,by kernel_rfl⟩)
  (hok:ok:=by (try simp only[go_sem,ff]);all_goals exact ok0) (hc:S.ev ⟨n,t,h,nx,True,e⟩ o = .v (.bool b):=by first|(simp only[go_sem,ff];exact rfl)|exact rfl) (hp:(b=true)=p:=by first|(simp only[XW,X6,Yc,XV,Yh,Yd,Yt,Yx,YF,Zx,ZL,Zw,ne_eq];exact rfl)|exact rfl) (hq:(b=false)=q:=by first|(simp only[XW,X6,Yc,XV,Yh,Yd,Yt,Yx,YF,Zx,ZL,Zw,ne_eq];exact rfl)|exact rfl):DW P ro (.seq (.seq (.region id ops draw) (.cond o x .skip)) y) Q s :=
 ae (qN he hd hok (cd ht (fun k=>dw_skip (hf k)) hc hp hq))
theorem oL (ht:p->DW P ro y Q ⟨n,t,h,nx,True,e⟩) (hf:q->DW P ro x (thenS (DW P ro y Q) Q) ⟨n,t,h,nx,True,e⟩) (he:exec P (words P) C ops.toList s=⟨n,t,h,nx,ok,e⟩:=by simp only[go_sem,ff];exact rfl) (hd:draw=true->P.follows .mixedOrders=true/\jl C ops.toList=true/\gH ops.toList=true:=by intro hdr;first|(cases hdr;done)|exact⟨jL,by kernel_rfl,by kernel_rfl⟩)
  (hok:ok:=by (try simp only[go_sem,ff]);all_goals exact ok0) (hc:S.ev ⟨n,t,h,nx,True,e⟩ o = .v (.bool b):=by first|(simp only[go_sem,ff];exact rfl)|exact rfl) (hp:(b=true)=p:=by first|(simp only[XW,X6,Yc,XV,Yh,Yd,Yt,Yx,YF,Zx,ZL,Zw,ne_eq];exact rfl)|exact rfl) (hq:(b=false)=q:=by first|(simp only[XW,X6,Yc,XV,Yh,Yd,Yt,Yx,YF,Zx,ZL,Zw,ne_eq];exact rfl)|exact rfl):DW P ro (.seq (.seq (.region id ops draw) (.cond o .skip x)) y) Q s :=
 ae (qN he hd hok (cd (fun k=>dw_skip (ht k)) hf hc hp hq))
end
theorem oO [Glob P] {f:FuncId}{fn:Func}{c:Code}{args:List D}{res:D}(hf:P.funcs[f]? = some fn)
  (h:True->DW P none c (fun e s=>(e = .normal\/e = .ret)/\iY P s fn.results.toList /\ ∃ k,cB s.h k (jF P fn.results.toList s)/\wk (bK s.h k (jF P fn.results.toList s))=res) { n:=fn.ntmps,t:=fun i=>args.getD i .junk,h:=fun _=>none,nx:=0,ok:=True,e:=Env.tt })
  (hb:fn.body=some c:=by exact rfl) (hbd:bT P f=true:=by kernel_rfl) (hnr:args.all D.nr=true:=by simp[go_sem,D.nr,aW,aR]) (hn:args.length<=fn.ntmps:=by exact Nat.le_of_ble_eq_true (by kernel_rfl)):PureCt P f args res:=BO hf hb hbd hnr hn (h trivial)
theorem oP [Glob P] {f:FuncId}{fn:Func}{c:Code}{args:List D}{h:H}{n:Nat}{R:D->H->Nat->Prop}(hf:P.funcs[f]? = some fn)
  (hw:(∀ r,n<=r->h r=none)->True->DW P none c (fun e s=>(e = .normal\/e = .ret)/\iY P s fn.results.toList /\ ∃ h' n',(∀ r,h' r=s.h r\/h' r=none)/\s.nx<=n'/\R (jF P fn.results.toList s) h' n') { n:=fn.ntmps,t:=fun i=>args.getD i .junk,h:=h,nx:=n })
  (hb:fn.body=some c:=by exact rfl) (hbd:bT P f=true:=by kernel_rfl) (hn:args.length<=fn.ntmps:=by exact Nat.le_of_ble_eq_true (by kernel_rfl)):RCt P f args h n R:=Qu hf hb hbd hn (fun k=>hw k trivial)
theorem oC [Glob P] (C:Con) {s:S}{n1 nx1:Nat}{t1:Nat->D}{h1:H}{ok1:Prop}{e1:Env}{id1:Nat}{ops1:Array Oper}{draw1:Bool}{n2 nx2:Nat}{t2:Nat->D}{h2:H}{ok2:Prop}{e2:Env}{id2:Nat}{ops2:Array Oper}{draw2:Bool}{y:Code}(hq:DW P ro y Q ⟨n2,t2,h2,nx2,True,e2⟩) (he1:exec P (words P) C ops1.toList s=⟨n1,t1,h1,nx1,ok1,e1⟩:=by simp only[go_sem,ff];exact rfl) (hd1:draw1=true->P.follows .mixedOrders=true/\jl C ops1.toList=true/\gH ops1.toList=true:=by intro hdr;first|(cases hdr;done)|exact⟨jL,by kernel_rfl,by kernel_rfl⟩) (hok1:ok1:=by (try simp only[go_sem,ff]);all_goals exact ok0) (he2:exec P (words P) C ops2.toList ⟨n1,t1,h1,nx1,True,e1⟩=⟨n2,t2,h2,nx2,ok2,e2⟩:=by simp only[go_sem,ff];exact rfl) (hd2:draw2=true->P.follows .mixedOrders=true/\jl C ops2.toList=true/\gH ops2.toList=true:=by intro hdr;first|(cases hdr;done)|exact⟨jL,by kernel_rfl,by kernel_rfl⟩) (hok2:ok2:=by (try simp only[go_sem,ff]);all_goals exact ok0):DW P ro (.seq (.region id1 ops1 draw1) (.seq (.region id2 ops2 draw2) y)) Q s:=(qN he1 hd1 hok1 (qN he2 hd2 hok2 hq))
theorem oD [Glob P] (C:Con) {s:S}{n1 nx1:Nat}{t1:Nat->D}{h1:H}{ok1:Prop}{e1:Env}{id1:Nat}{ops1:Array Oper}{draw1:Bool}{n2 nx2:Nat}{t2:Nat->D}{h2:H}{ok2:Prop}{e2:Env}{id2:Nat}{ops2:Array Oper}{draw2:Bool}{n3 nx3:Nat}{t3:Nat->D}{h3:H}{ok3:Prop}{e3:Env}{id3:Nat}{ops3:Array Oper}{draw3:Bool}{y:Code}(hq:DW P ro y Q ⟨n3,t3,h3,nx3,True,e3⟩) (he1:exec P (words P) C ops1.toList s=⟨n1,t1,h1,nx1,ok1,e1⟩:=by simp only[go_sem,ff];exact rfl) (hd1:draw1=true->P.follows .mixedOrders=true/\jl C ops1.toList=true/\gH ops1.toList=true:=by intro hdr;first|(cases hdr;done)|exact⟨jL,by kernel_rfl,by kernel_rfl⟩) (hok1:ok1:=by (try simp only[go_sem,ff]);all_goals exact ok0) (he2:exec P (words P) C ops2.toList ⟨n1,t1,h1,nx1,True,e1⟩=⟨n2,t2,h2,nx2,ok2,e2⟩:=by simp only[go_sem,ff];exact rfl) (hd2:draw2=true->P.follows .mixedOrders=true/\jl C ops2.toList=true/\gH ops2.toList=true:=by intro hdr;first|(cases hdr;done)|exact⟨jL,by kernel_rfl,by kernel_rfl⟩) (hok2:ok2:=by (try simp only[go_sem,ff]);all_goals exact ok0) (he3:exec P (words P) C ops3.toList ⟨n2,t2,h2,nx2,True,e2⟩=⟨n3,t3,h3,nx3,ok3,e3⟩:=by simp only[go_sem,ff];exact rfl) (hd3:draw3=true->P.follows .mixedOrders=true/\jl C ops3.toList=true/\gH ops3.toList=true:=by intro hdr;first|(cases hdr;done)|exact⟨jL,by kernel_rfl,by kernel_rfl⟩) (hok3:ok3:=by (try simp only[go_sem,ff]);all_goals exact ok0):DW P ro (.seq (.region id1 ops1 draw1) (.seq (.region id2 ops2 draw2) (.seq (.region id3 ops3 draw3) y))) Q s:=(qN he1 hd1 hok1 (qN he2 hd2 hok2 (qN he3 hd3 hok3 hq)))
theorem oV {p r:Prop}(x:r) (h:r->p:=by intro c1;(try simp only[go_sem,ff] at c1);(try simp only[go_sem,ff]);exact c1):p:=h x
section
variable [Glob P] {s : S} {A B q : Prop} {Ks Rs : Nat -> Prop}
theorem fo (K:Nat) (e:Q .ret s=(A/\B /\ ∃ k,Ks k/\Rs k):=by exact rfl) (h:Rs K=q:=by first|(simp only[go_sem,ff];exact rfl)|(simp only[go_sem,ff];done)|exact rfl) (k:q) (hk:Ks K:=by (try simp only[go_sem,ff]);all_goals simp) (ha:A:=by first|exact .inr rfl|exact .inl rfl|trivial|simp) (hb:B:=by simp only[go_sem,ff]):DW P ro .ret Q s:=aI (e ▸ ⟨ha,hb,K,hk,h ▸ k⟩)
theorem fp (K:Nat) (e:Q .ret s=(A/\B /\ ∃ k,Ks k/\Rs k):=by exact rfl) (h:Rs K:=by (try simp only[go_sem,ff]);all_goals (first|rfl|(simp;done))) (hk:Ks K:=by (try simp only[go_sem,ff]);all_goals simp) (ha:A:=by first|exact .inr rfl|exact .inl rfl|trivial|simp) (hb:B:=by simp only[go_sem,ff]):DW P ro .ret Q s:=aI (e ▸ ⟨ha,hb,K,hk,h⟩)
end
theorem pos [Glob P] {C:Con}{ops:Array Oper}{i k b:Nat}{o:Oper}{s s1:S}(hik:i<=k:=by omega) (ho:ops[k]? = some o:=by exact bM rfl) (hg:o.guard=none:=by exact rfl) (he:aH P (words P) C ops.toList b i ((ops.toList.drop i).take (k-i)) s=s1:=by simp only[Yf,X9,Ya,Yj,S.put,YB,Nat.reduceSub,go_sem,ff];first|done|exact rfl)
  (hok:s1.ok:=by (try simp only[go_sem,ff]);all_goals exact ok0) (hd:bE s1.n o.dst=true:=by (try simp only[go_sem,ff]);all_goals (first|done|rfl|decide|simp)):dB P C ops i k o b s s1:=⟨hik,ho,hg,he,hok,hd⟩
end Go.DL

namespace Go.DL
open Go.RowKit
variable {P : Program} {ro : Option Nat} {Q : Exit -> S -> Prop}
theorem HM.shrink [Glob P] {h:H}{g:Mem}{w:World}(hm:HM P h g w) {r:Nat}{bl:Blk}(hr:h r=some bl) (k:Nat):HM P (upd h r (some ⟨bl.ty,bl.rows.take k⟩)) g w:=by
 refine⟨fun q hq=>?_,fun q bl' hq=>?_,hm.inj,hm.used,hm.imm,hm.gr⟩
 .
  by_cases e:q=r
  .
   subst e;rw[upd_same] at hq;cases hq
  rw[upd_ne _ _ _ _ e] at hq;exact hm.dead q hq
 by_cases e:q=r
 .
  subst e;rw[upd_same] at hq
  cases hq
  obtain⟨blk,c,h1,h2,h3,h4,h5⟩:=hm.blk q bl hr;refine⟨blk,c,h1,h2,Yb (by simp;omega) h3,h4,h5.imp id ?_⟩
  rintro⟨b,cur,e1,e2,e3,e4,e5⟩;refine⟨b,cur,e1,e2,e3,e4,fun i row hi=>?_⟩
  simp only[YY] at hi
  split at hi
  .
   exact e5 i row hi
  cases hi
 rw[upd_ne _ _ _ _ e] at hq;exact hm.blk q bl' hq
section
variable {C : Con}
end
section
variable [Glob P] (C : Con) {s s1 : S} {id : Nat} {ops : Array Oper} {o : Oper} {f : Operand} {args : Array Operand} {ts : Array TypeId} {fid : FuncId} {first caps xs : List D} {R : D -> H -> Nat -> Prop}
end
end Go.DL
namespace Go.DL
open Go.RowKit
variable {P : Program} {ro : Option Nat} {Q : Exit -> S -> Prop}
theorem AB [Glob P] {h:H}{g:Mem}{w:World}(hm:HM P h g w) {e:TypeId}{r off c b:Nat}{rows news:List (List D)}{cs:List Value}(hr:h r=some ⟨e,rows⟩) (hM:g.M r=some (some b,c,P.cellsOf e)) (hcm:c<=maxLen)
  (hR:RowsIn w g (P.cellsOf e) news cs) (ho:off<=rows.length) (hc:off+news.length<=c) :
  ∃ cur:Array Value,w.heap[b]? = some (.cells cur e (0,0))/\off*P.cellsOf e+cs.length<=cur.size /\ ∀ new:Array Value,new=(cur.toList.take (off*P.cellsOf e)++cs++cur.toList.drop (off*P.cellsOf e+cs.length)).toArray ->
   ∃ g',g'.M r=g.M r/\g'.U r/\HM P (upd h r (some ⟨e,rows.take off++news++rows.drop (off+news.length)⟩)) g' (w.setRow b new)/\Mono g g' w (w.setRow b new) /\ ∀ q,g'.U q->g.U q:=by
 obtain⟨blk,c',h1,h2,h3,h4,h5⟩:=hm.blk r _ hr
 rw[hM] at h1
 simp only[Yg,YG] at h1
 obtain⟨rfl,rfl,_⟩:=h1
 rcases h5 with⟨h5,_⟩|⟨b',cur,h5,k1,k2,_,k4⟩
 .
  cases h5
 cases h5
 have k1:=k1.cells hcm
 have k2:=k2 hcm
 simp only at h2 h3 k1 k2 k4
 have hcl:cs.length=news.length*P.cellsOf e:=hR.1
 have hfit:off*P.cellsOf e+cs.length<=cur.size:=by
  rw[hcl,k2,<- Zp];exact Y2 _ hc
 refine⟨cur,k1,hfit,fun new hnew=>?_⟩
 have e1:cur.toList.length=cur.size:=Array.length_toList
 have hsize:new.size=cur.size:=by rw[hnew];simp;omega
 have hA:=k4.rowsIn 0 off (by show 0+off<=rows.length;omega) (by rw[k2];exact Y2 _ h3)
 have hB:=hA.append hR
 have hend:off+news.length+(rows.length-(off+news.length))<=rows.length\/rows.length-(off+news.length)=0:=by omega
 have hC:RowsIn w g (P.cellsOf e) (rows.drop (off+news.length)) ((cur.toList.drop ((off+news.length)*P.cellsOf e)).take ((rows.length-(off+news.length))*P.cellsOf e)):=by
  rcases hend with hl|hl
  .
   have:=k4.rowsIn (off+news.length) (rows.length-(off+news.length)) hl (by rw[k2];exact Y2 _ h3)
   have e2:(rows.drop (off+news.length)).take (rows.length-(off+news.length))=rows.drop (off+news.length):=Yq (by simp)
   rw[e2] at this;exact this
  have e2:rows.drop (off+news.length)=[]:=YT om;rw[e2,hl]
  simpa using RowsIn.nil
 have hAll:=hB.append hC
 simp only[X9,Nat.zero_mul] at hAll
 have hnl:(rows.take off++news++rows.drop (off+news.length)).length<=c:=by simp;omega
 have hdrop:off*P.cellsOf e+cs.length=(off+news.length)*P.cellsOf e:=by rw[hcl,Zp]
 obtain⟨g',g1,g2,g3,g4,g5⟩:=hm.put (h':=upd h r (some ⟨e,rows.take off++news++rows.drop (off+news.length)⟩)) (w':=w.setRow b new) r b c ⟨e,rows.take off++news++rows.drop (off+news.length)⟩ new (.inr hM) (upd_same _ _ _) (fun q hq=>.inl (upd_ne _ _ _ _ hq)) (.inr ⟨r,c,_,hM,.inl rfl⟩)
  (setRow_heap w b cur _ e _ k1) (by rw[hsize,k2]) h2 hnl hcm (hAll.holds (by
   rw[hnew];simp only[hdrop];generalize List.take (off*P.cellsOf e) cur.toList++cs=X;rw[XY,List.take_append,Yq (by omega),Nat.add_sub_cancel_left,Yv]
   congr 1
   rw[List.take_eq_take_iff];omega))
  ⟨rfl,rfl,rfl,by simp,fun k _ hk=>setRow_other w b k _ (fun e=>hk (by rw[e]))⟩
 refine⟨g',by rw[g1,hM],(g2 r).2 (.inr rfl),g4,g5,fun q hq=>?_⟩
 rcases (g2 q).1 hq with k|k
 .
  exact k
 subst k;exact hm.used q (by rw[hM];simp)
theorem Sm [Glob P] {h:H}{g:Mem}{w:World}(hm:HM P h g w) {e:TypeId}{r off len k:Nat}{rows:List (List D)}{v:Value}(hr:h r=some ⟨e,rows⟩) (hv:Rep w g (.mrow r off len) v) (hk:k<=len) (hl:off+k<=rows.length) :
  ∃ cs,RowsIn w g (P.cellsOf e) ((rows.drop off).take k) cs/\(∀ w',(Builtin.lenOf v).run P w' = .ok len w') /\ ∀ w',w'.heap=w.heap->(Builtin.firstCells (P.cellsOf e) k v).run P w' = .ok cs.toArray w':=by
 obtain⟨blk,c,h1,h2,h3,h4,h5⟩:=hm.blk r _ hr
 cases hv with|mrow _ _ _ _ hx hU hvv =>
 obtain⟨p1,p2⟩:=hvv _ _ _ h1
 simp only at h2 h3 h5
 by_cases hk0:k=0
 .
  subst hk0;obtain⟨a,c',rfl,_,_⟩:=hx;refine⟨[],by simpa using RowsIn.nil,fun w'=>by simp[Builtin.lenOf],fun w' _=>?_⟩
  cases a<;>simp[Builtin.firstCells,loadCells,loadCellsFrom]
 rcases p2 with⟨_,a,rfl⟩|⟨hne,b,rfl,rfl⟩
 .
  obtain⟨a',c',e1,e2,_⟩:=hx
  cases e1
  omega
 rcases h5 with⟨h5,_⟩|⟨b',cur,h5,k1,k2,_,k4⟩
 .
  cases h5
 cases h5
 have k1:=k1.cells p1.2
 have k2:=k2 p1.2
 have hR:RowsIn w g (P.cellsOf e) ((rows.drop off).take k) ((cur.toList.drop (off*P.cellsOf e)).take (k*P.cellsOf e)):=k4.rowsIn off k hl (by rw[k2];exact Y2 _ h3)
 refine⟨_,hR,fun w'=>by simp[Builtin.lenOf],fun w' hw=>?_⟩
 have hlen:=hR.1
 have hkl:((rows.drop off).take k).length=k:=by rw[Yv,Yi];omega
 rw[hkl] at hlen
 refine run_firstCells_some (P:=P) w' (P.cellsOf e) k _ len _ _ hlen fun j v hj=>?_
 rw[jo,cell_of_row w' b _ cur e (0,0) (by rw[hw];exact k1)]
 rw[YY] at hj
 split at hj
 .
  rw[YZ] at hj;simpa using hj
 cases hj
theorem Wy [Glob P] {h:H}{g:Mem}{w:World}(hm:HM P h g w) {t u e:TypeId}{r off len r2 off2 len2 k:Nat}{rows rows2:List (List D)}{vx vy:Value}(ht:P.underlying t=some (.slice e)) (hr:h r=some ⟨e,rows⟩) (hr2:h r2=some ⟨e,rows2⟩)
  (hx:Rep w g (.mrow r off len) vx) (hy:Rep w g (.mrow r2 off2 len2) vy) (hk:k=min len2 len) (h0:0<k) (ho:off<=rows.length) (hl:off2+k<=rows2.length) (ty:TypeId) :
  ∃ g' w',(Builtin.copy_ #[t,u] ty #[vx,vy]).run P w = .ok (.int .i64 k) w'/\HM P (upd h r (some ⟨e,rows.take off++(rows2.drop off2).take k++rows.drop (off+k)⟩)) g' w'/\Mono g g' w w' /\ ∀ q,g'.U q->g.U q:=by
 obtain⟨blk,c,h1,h2,h3,h4,h5⟩:=hm.blk r _ hr
 simp only at h1 h2 h3
 have hkl:k<=len:=by omega
 obtain⟨cs,r1,l1,f1⟩:=Sm hm hr2 hy (k:=k) om hl
 have hnl:((rows2.drop off2).take k).length=k:=by rw[Yv,Yi];omega
 cases hx with|mrow _ _ _ _ hxx hU hvv =>
 obtain⟨p1,p2⟩:=hvv _ _ _ h1
 rcases p2 with⟨e0,a,rfl⟩|⟨e0,b,rfl,rfl⟩
 .
  obtain⟨a',c',e1,e2,_⟩:=hxx
  cases e1
  omega
 obtain⟨cur,c1,c2,c3⟩:=AB hm (off:=off) hr h1 p1.2 r1 ho (by rw[hnl];exact Yb (Nat.add_le_add_left hkl _) p1.1)
 obtain⟨g',q1,q2,q3,q4,q5⟩:=c3 _ rfl
 rw[hnl] at q3
 have hst:=run_storeCells_at P b (off*P.cellsOf e) e cs 0 cur w c1 (by simpa using c2) r1.one
 simp only[Zu] at hst
 have hmin:Nat.min len2 len=k:=hk.symm
 refine⟨g',_,?_,q3,q4,q5⟩
 simp[Builtin.copy_,run_underlying ht,l1,jX h2,hmin,f1,hst,goInt]
def Env.lim (E:Env) (r c:Nat):Env where
 p:=fun g w=>E.p g w/\g.U r /\ ∀ blk c' sz,g.M r=some (blk,c',sz)->c'=c
 x:=E.x
 st:=fun P _ h g g' w w' hm k ⟨h1,h2,h3⟩=>⟨E.st P h g g' w w' hm k h1,k.U r h2,fun blk c' sz he=>by
  rcases k.M r h2 with e|e
  .
   exact h3 blk c' sz (e ▸ he)
  .
   rw[e] at he;cases he⟩
theorem FZ [Glob P] {C:Con}{s s1:S}{ops:Array Oper}{i b:Nat}(k:Nat) {o:Oper}(A:D->H->Env->Prop) (hik:i<=k) (ho:ops[k]? = some o) (hg:o.guard=none) (hdef : ∀ c,o.op ≠ .defer c)
  (he:aH P (words P) C ops.toList b i ((ops.toList.drop i).take (k-i)) s=s1) (hok:s1.ok) (hd:bE s1.n o.dst=true)
  (hdo : ∀ (B:Bot) (g:Mem) (a:Act) (w:World),St P B s1 g a w -> ¬ g.U (b+k) -> ∃ d h' E v g' w',A d h' E/\E.x=s1.e.x/\(execOp a.eval o).run P w = .ok (.value v) w'/\Rep w' g' d v/\HM P h' g' w'/\Mono g g' w w'/\(∀ r,g'.U r->g.U r\/r=b+k)/\E.p g' w')
  (hk : ∀ d h' E,A d h' E->au P ro ops (k+1) b { n:=s1.n,t:=s1.put o.dst d,h:=h',nx:=s1.nx,ok:=True,e:=E } Q):au P ro ops i b s Q:=by
 intro B g0 g a w0 w hs hm hU
 have hlt:k<ops.size:=(Yl.1 ho).1
 have hr:List.range' i (ops.size-i)=List.range' i (k-i)++(k::List.range' (k+1) (ops.size-(k+1))):=by
  have:ops.size-i=(k-i)+((ops.size-(k+1))+1):=by omega
  rw[this,<- Zi,Y3];have e1:i+(k-i)=k:=by omega
  rw[e1]
 rw[hr]
 refine lT (C:=C) (b:=b) (k-i) i s g a w hs hm hU (by omega) (by rw[he];exact hok) fun g1 a1 w1 hs1 hm1 hU1=>?_
 rw[he] at hs1
 have hU1 : ∀ r,g1.U r->r<b+k:=fun r hr=>by have:=hU1 r hr;omega
 have hse:s1.e=s.e:=by rw[<- he];exact lU _ _ _ _ _
 rw[wpOpsIn_cons]
 unfold wpOpIn
 rw[ho]
 simp only
 have hw:Region.wanted o (yielded ops a1.tmps)=true:=by simp[Region.wanted,hg]
 rw[X4 hw]
 have hsem:o.semAt (Fw ro).round a1.eval=execOp a1.eval o:=Oper.semAt_eq _ _ _ hdef
 refine⟨fun _ _=>trivial,?_⟩
 rw[hsem]
 obtain⟨d,h',E,v,g',w',hA,hx,hrun,q1,q2,q3,q4,q5⟩:=hdo B g1 a1 w1 hs1 (fun h=>Nat.lt_irrefl _ (hU1 _ h))
 have hs2:=ic hs1 q3 q2 hd q1 True
 have:=hk d h' E hA B g0 g' (a1.put o.dst v) w0 w' ⟨hs2.sz,hs2.tm,hs2.mem,hs2.df,q5,hs2.bd⟩ (hm1.trans q3) (fun r hr=>by
  rcases q4 r hr with h|h
  .
   have:=hU1 r h;omega
  omega)
 simp only[hx,hse] at this
 rw[hrun,Oper.uponIn_value]
 exact this
section
variable [Glob P] {C : Con} {s s1 : S} {ops : Array Oper} {i b : Nat} {o : Oper}
theorem Pq (k:Nat) {t u e:TypeId}{x y:Operand}{r off len r2 off2 len2:Nat}(m:Nat) {rows rows2:List (List D)}(z9:dB P C ops i k o b s s1)
  (hop:o.op = .call { callee:=.builtin .copy,args:=#[x,y],argTypes:=#[t,u] }) (ht:P.underlying t=some (.slice e))
  (hx:s1.ev x = .mrow r off len) (hy:s1.ev y = .mrow r2 off2 len2) (hr:s1.h r=some ⟨e,rows⟩) (hr2:s1.h r2=some ⟨e,rows2⟩)
  (hm:m=min len2 len) (h0:0<m) (hlo:off<=rows.length) (hl:off2+m<=rows2.length)
  (hk:au P ro ops (k+1) b { n:=s1.n,t:=s1.put o.dst (.i m),h:=upd s1.h r (some ⟨e,rows.take off++(rows2.drop off2).take m++rows.drop (off+m)⟩),nx:=s1.nx,ok:=True,e:=s1.e } Q):au P ro ops i b s Q:=by
 obtain⟨hik,ho,hg,he,hok,hd⟩:=z9
 refine jB (C:=C) k (fun d h'=>d = .i m/\h'=upd s1.h r (some ⟨e,rows.take off++(rows2.drop off2).take m++rows.drop (off+m)⟩)) hik ho hg (fun c e=>by rw[hop] at e;cases e) he hok hd (fun B g a w hst _=>?_) (fun d h' ⟨hy,hh⟩=>by subst hy;subst hh;exact hk)
 have hv:=bC hst x
 rw[hx] at hv
 have hv2:=bC hst y
 rw[hy] at hv2
 obtain⟨g',w',q1,q2,q3,q4⟩:=Wy (u:=u) hst.mem ht hr hr2 hv hv2 hm h0 hlo hl o.type
 refine⟨_,_,⟨rfl,rfl⟩,_,g',w',.inl ?_,.v _,q2,q3,fun r hr=>.inl (q4 r hr)⟩
 obtain⟨od,oo,oty,op,oa,og⟩:=o
 simp only at hop
 subst hop
 simp[Go.BigFrame.execOp_builtin,Go.BigFrame.builtin_copy,q1]
theorem Pg (k:Nat) {t e:TypeId}{x hi:Operand}{r off len m c:Nat}{rows:List (List D)}{E:Env}(z9:dB P C ops i k o b s s1)
  (hop:o.op = .slice t x none (some hi) none) (ht:P.underlying t=some (.slice e))
  (hx:s1.ev x = .mrow r off len) (hh:s1.ev hi = .i m) (hr:s1.h r=some ⟨e,rows⟩) (hE:s1.e=Env.lim E r c) (hc:off+m<=c) (h0:0<m) (hl:off<rows.length)
  (hk:au P ro ops (k+1) b { n:=s1.n,t:=s1.put o.dst (.mrow r off m),h:=s1.h,nx:=s1.nx,ok:=True,e:=s1.e } Q):au P ro ops i b s Q:=by
 obtain⟨hik,ho,hg,he,hok,hd⟩:=z9
 refine jB (C:=C) k (fun d h'=>d = .mrow r off m/\h'=s1.h) hik ho hg (fun c e=>by rw[hop] at e;cases e) he hok hd (fun B g a w hst _=>?_) (fun d h' ⟨hy,hh⟩=>by subst hy;subst hh;exact hk)
 have hv:=bC hst x
 rw[hx] at hv
 have hvh:=(bC hst hi)
 rw[hh] at hvh
 have hvh:=hvh.v_inv
 have hen:=hst.en
 rw[hE] at hen
 obtain⟨_,hU,hcap⟩:=hen
 obtain⟨blk,c0,h1,h2,h3,h4,h5⟩:=hst.mem.blk r _ hr
 have hc0:=hcap _ _ _ h1
 subst hc0
 simp only at h2 h3
 generalize hvx:a.eval x=v at hv
 cases hv with|mrow _ _ _ _ hxx _ hvv =>
 obtain⟨p1,p2⟩:=hvv _ _ _ h1
 rcases p2 with⟨e0,_⟩|⟨e0,b0,rfl,rfl⟩
 .
  omega
 have r2:=kH (P:=P) (o:=some (.i m)) (vo:=some (a.eval hi)) (d:=len) (y:=c0-off) (w:=w) (g:=g) (by rw[hvh];exact .v _) rfl (by simp[bnd]) (by simp only[bnd];omega) (if true then .sliceAcap else .sliceAlen)
 have r1:=kH (P:=P) (o:=none) (vo:=none) (d:=0) (y:=(bnd (some (.i m)) len).toNat) (w:=w) (g:=g) trivial rfl (by simp[bnd]) (by simp[bnd]) .sliceB
 have hrun:=ve ht h2 (a:=some ⟨b0,off*P.cellsOf e,none⟩) (len:=len) (vm:=none) (wS (P:=P) (len:=len) r2 r1)
 have hz : ¬ (c0-off=0):=by omega
 simp only[bnd,Int.toNat_natCast,hz,Y6,Nat.zero_mul,Nat.sub_zero,YP,jo,Zu] at hrun
 have hmc:m<=c0-off:=by omega
 refine⟨_,_,⟨rfl,rfl⟩,.slice (some ⟨b0,off*P.cellsOf e,none⟩) m (c0-off),g,w,.inl ?_,.mrow r off m _ ⟨_,_,rfl,hmc,fun _=>⟨_,rfl⟩⟩ hU fun blk c' sz hq=>?_,hst.mem,Mono.refl _ _,fun r hr=>.inl hr⟩
 .
  obtain⟨od,oo,oty,op,oa,og⟩:=o;simp only at hop;subst hop
  simp[execOp,hvx,hrun]
 rw[h1] at hq
 simp only[Yg,YG] at hq
 obtain⟨rfl,rfl,rfl⟩:=hq
 exact⟨om,.inr ⟨e0,b0,rfl,rfl⟩⟩
theorem Pw (k:Nat) {t e:TypeId}{x:Operand}{r off len:Nat}{rows:List (List D)}(z9:dB P C ops i k o b s s1)
  (hop:o.op = .call { callee:=.builtin .cap,args:=#[x],argTypes:=#[t] }) (ht:P.underlying t=some (.slice e))
  (hx:s1.ev x = .mrow r off len) (hr:s1.h r=some ⟨e,rows⟩)
  (hk : ∀ c:Nat,len<=c->c<=maxLen->au P ro ops (k+1) b { n:=s1.n,t:=s1.put o.dst (.i c),h:=s1.h,nx:=s1.nx,ok:=True,e:=Env.lim s1.e r (off+c) } Q):au P ro ops i b s Q:=by
 obtain⟨hik,ho,hg,he,hok,hd⟩:=z9
 refine FZ (C:=C) k (fun d h' E=>∃ c:Nat,d = .i c/\h'=s1.h/\E=Env.lim s1.e r (off+c)/\len<=c/\c<=maxLen) hik ho hg (fun c e=>by rw[hop] at e;cases e) he hok hd (fun B g a w hst _=>?_) (fun d h' E ⟨c,h1,h2,h3,h4,h5⟩=>by subst h1;subst h2;subst h3;exact hk c h4 h5)
 have hv:=bC hst x
 rw[hx] at hv
 obtain⟨blk,c0,h1,h2,h3,h4,h5⟩:=hst.mem.blk r _ hr
 have key : ∃ (ad:Option Addr) (c:Nat),a.eval x = .slice ad len c/\len<=c/\c<=maxLen/\c0=off+c/\g.U r:=by
  generalize a.eval x=v at hv
  cases hv with|mrow _ _ _ _ hxx hU hvv =>
  obtain⟨p1,p2⟩:=hvv _ _ _ h1;obtain⟨a',c',e1,e2,_⟩:=hxx
  rcases p2 with⟨e0,a,rfl⟩|⟨e0,b0,rfl,rfl⟩
  .
   cases e1
   exact⟨a',0,rfl,om,Ym _,om,hU⟩
  cases e1
  exact⟨_,_,rfl,e2,om,om,hU⟩
 obtain⟨ad,c,k1,k2,k3,k4,k5⟩:=key
 refine⟨_,_,_,.int .i64 c,g,w,⟨c,rfl,rfl,rfl,k2,k3⟩,rfl,?_,.v _,hst.mem,Mono.refl _ _,fun r hr=>.inl hr,hst.en,k5,fun blk c' sz hq=>?_⟩
 .
  obtain⟨od,oo,oty,op,oa,og⟩:=o;simp only at hop;subst hop
  simp[Go.BigFrame.execOp_builtin,Go.BigFrame.builtin_cap,k1,Builtin.cap_,run_underlying ht,goInt]
 rw[h1] at hq
 simp only[Yg,YG] at hq
 obtain⟨rfl,rfl,rfl⟩:=hq
 exact k4
end
end Go.DL
namespace Go.DL
open Go.RowKit
variable {P : Program} {ro : Option Nat} {Q : Exit -> S -> Prop}
theorem I4 [Glob P] {fn:Func}{tmps:Array Value}{R:Ending->World->Prop}{n B:Nat}{g:Mem}{u:FrameMode}(hu:u ≠ .run) {ds0:List Deferred}:∀ (ds:List Deferred) (w:World),Marks B g ds w ->
  (∀ w',w'.drawn=w.drawn->w'.os=w.os->w'.tape=w.tape->w'.output=w.output->w'.heap.size=w.heap.size->(∀ k:Nat,k<B->w'.heap[k]? = w.heap[k]?)->(∀ k:Nat,g.I k->w'.heap[k]? = w.heap[k]?)->(∀ (k:Nat) o,w.heap[k]? = some o->wV o->w'.heap[k]? = w.heap[k]?)->LeavesInM Fence.wide n P fn tmps R ds0 u w') ->
  LeavesInM Fence.wide n P fn tmps R (ds++ds0) u w:=by
 intro ds
 induction ds with
 | nil =>
  intro w _ h;exact h w rfl rfl rfl rfl rfl (fun _ _=>rfl) (fun _ _=>rfl) (fun _ _ _ _=>rfl)
 | cons d ds ih =>
  rintro w ⟨⟨D,h1,h2,h3,h4,h5⟩,h6⟩ h;refine⟨hu,.inl ⟨D,w.putObj D (.deferred none),h1,run_takeDeferred h2,?_⟩⟩;have hne : ∀ k,k≠D->(w.putObj D (.deferred none)).heap[k]? = w.heap[k]? := fun k hk=>World.putObj_heap_other hk
  have hms : ∀ ds:List Deferred,(∀ d'∈ds,d'.target ≠ .collected D)->Marks B g ds w->Marks B g ds (w.putObj D (.deferred none)):=by
   intro ds
   induction ds with
   | nil=>intro _ _;trivial
   | cons e ds ihd =>
    rintro hds ⟨⟨D',k1,k2,k3,k4,k5⟩,k6⟩;refine⟨⟨D',k1,?_,k3,k4,k5⟩,ihd (fun d' hd'=>hds d' (by simp[hd'])) k6⟩
    rw[hne D' (fun e'=>by subst e';exact hds e (by simp) k1)]
    exact k2
  refine ih _ (hms ds h3 h6) fun w' e0 e1 e2 e3 e4 e5 e6 e7=>?_
  refine h w' (by rw[e0];rfl) (by rw[e1];rfl) (by rw[e2];rfl) (by rw[e3];rfl) (by rw[e4];simp) (fun k hk=>?_) (fun k hk=>?_) (fun k o hk ho=>?_)
  .
   rw[e5 k hk,hne k (by omega)]
  .
   rw[e6 k hk,hne k (fun e=>by subst e;exact h5 hk)]
  have:k≠D:=fun e'=>by subst e';rw[h2] at hk;cases hk;exact ho
  rw[e7 k o (by rw[hne k this];exact hk) ho,hne k this]
def gX (P:Program) [Glob P] (f:FuncId) (args:List D) (h:H) (n:Nat) (R:D->H->Nat->Prop) (X:List PanicEntry->H->Nat->Prop):Prop :=
 bT P f=true /\ ∀ (w:World) (g:Mem) (vs:List Value),HM P h g w->(∀ r,g.U r->r<n)->Reps w g args vs ->
  CallsIn Fence.wide 0 P f vs.toArray w fun e w'=>∃ g' h' n',HM P h' g' w'/\Mono g g' w w'/\(∀ r,g'.U r->r<n')/\((∃ v res,R res h' n'/\e = .returned v/\Rep w' g' res v) \/ ∃ c,X c h' n'/\e = .panicked c)
theorem RCt.xct [Glob P] {f:FuncId}{args:List D}{h:H}{n:Nat}{R:D->H->Nat->Prop}{X:List PanicEntry->H->Nat->Prop}(k:RCt P f args h n R):gX P f args h n R X :=
 ⟨k.1,fun w g vs h1 h2 h3=>(k.2 w g vs h1 h2 h3).mono fun _ _ ⟨v,g',res,h',n',q1,q2,q3,q4,q5,q6⟩=>⟨g',h',n',q4,q5,q6,.inl ⟨v,res,q1,q2,q3⟩⟩⟩
def Ed (P:Program) [Glob P] (fn:Func) (R:D->H->Nat->Prop) (X:List PanicEntry->H->Nat->Prop):Exit->S->Prop
 | .normal,s | .ret,s=>iY P s fn.results.toList /\ ∃ h' n',(∀ r,h' r=s.h r\/h' r=none)/\s.nx<=n'/\R (jF P fn.results.toList s) h' n'
 | .panic c,s=>∃ h' n',(∀ r,h' r=s.h r\/h' r=none)/\s.nx<=n'/\X c h' n'
 | _,_=>False
theorem sZ [Glob P] {f:FuncId}{fn:Func}{c:Code}{args:List D}{h:H}{n:Nat}{R:D->H->Nat->Prop}{X:List PanicEntry->H->Nat->Prop}(hf:P.funcs[f]? = some fn) (hb:fn.body=some c) (hbd:bT P f=true) (hn:args.length<=fn.ntmps)
  (hw:(∀ r,n<=r->h r=none)->DW P none c (Ed P fn R X) { n:=fn.ntmps,t:=fun i=>args.getD i .junk,h:=h,nx:=n }):gX P f args h n R X:=by
 refine⟨hbd,fun w g vs hm hU hr=>?_⟩
 have hs:=qy (P:=P) (n:=fn.ntmps) hr hn hm (nx:=n)
 refine callsIn_of_wp_marks (n:=0) hf hb trivial (wpIn_mono (F:=Fence.wide) (hw (uj hm hU) (Bot.of w.heap.size) g _ w hs hU) ?_)
 rintro e a' w' ⟨s',g',hq,hs',hm',hU',_⟩
 have hm':=hm'.out
 have key : ∀ u:FrameMode,u ≠ .run->(∀ w2,w2.drawn=w'.drawn->w2.os=w'.os->w2.tape=w'.tape->w2.output=w'.output->w2.heap.size=w'.heap.size->Mono g g' w w2->St P (Bot.of w.heap.size) { s' with e:=Env.tt } g' { a' with defers:=[] } w2 ->
   LeavesIn Fence.wide 0 P fn a'.tmps (fun e w'=>∃ g' h' n',HM P h' g' w'/\Mono g g' w w'/\(∀ r,g'.U r->r<n')/\((∃ v res,R res h' n'/\e = .returned v/\Rep w' g' res v) \/ ∃ c,X c h' n'/\e = .panicked c)) [] u w2) ->
   LeavesInM Fence.wide 0 P fn a'.tmps (fun e w'=>∃ g' h' n',HM P h' g' w'/\Mono g g' w w'/\(∀ r,g'.U r->r<n')/\((∃ v res,R res h' n'/\e = .returned v/\Rep w' g' res v) \/ ∃ c,X c h' n'/\e = .panicked c)) a'.defers u w':=by
  intro u hu hk;obtain⟨ms,e,hms⟩:=hs'.df;rw[e];refine I4 (P:=P) hu ms w' hms fun w2 e0 e1 e2 e3 e4 e5 e6 e7=>?_
  refine hk w2 e0 e1 e2 e3 e4 ?_ (hs'.marks e4 e6 e7);refine⟨by rw[e1,hm'.os],by rw[e2,hm'.tape],by rw[e3,hm'.output],by rw[e4];exact hm'.size,by rw[e0];exact hm'.drawn,hm'.U,hm'.M,hm'.new,hm'.I,hm'.inew,fun k hk hne=>?_⟩
  rw[e5 k hk];exact hm'.same k hk hne
 have ret:(iY P s' fn.results.toList /\ ∃ h' n',(∀ r,h' r=s'.h r\/h' r=none)/\s'.nx<=n'/\R (jF P fn.results.toList s') h' n')->LeavesInM Fence.wide 0 P fn a'.tmps (fun e w'=>∃ g' h' n',HM P h' g' w'/\Mono g g' w w'/\(∀ r,g'.U r->r<n')/\((∃ v res,R res h' n'/\e = .returned v/\Rep w' g' res v) \/ ∃ c,X c h' n'/\e = .panicked c)) a'.defers .returning w':=by
  rintro⟨ho,h',n',hh,hn',hR⟩;refine key .returning (by simp) fun w2 _ _ _ _ _ mono2 hs2=>?_
  obtain⟨v,h1,h2⟩:=tX (fn:=fn) hs2 ho;exact⟨v,h1,g'.only h',h',n',hs2.mem.only hh,mono2.trans only_mono,fun r hr=>Yz (hU' r hr) hn',.inl ⟨v,_,hR,rfl,h2.only⟩⟩
 cases e with
 | normal=>exact ret hq
 | ret=>exact ret hq
 | panic c =>
  obtain⟨h',n',hh,hn',hX⟩:=hq;exact key (.panicking c) (by simp) fun w2 _ _ _ _ _ mono2 hs2=>⟨g'.only h',h',n',hs2.mem.only hh,mono2.trans only_mono,fun r hr=>Yz (hU' r hr) hn',.inr ⟨c,hX,rfl⟩⟩
 | _=>exact hq.elim
section
variable [Glob P] {C : Con} {s s1 : S} {ops : Array Oper} {i b : Nat} {o : Oper}
theorem Pb (k:Nat) {f:Operand}{args:Array Operand}{ts:Array TypeId}{fid:FuncId}{first caps xs:List D}(R:D->H->Nat->Prop) (X:List PanicEntry->H->Nat->Prop) (hik:i<=k)
  (ho:ops[k]? = some o) (hop:o.op = .call { callee:=.value f,args:=args,argTypes:=ts }) (hg:o.guard=none)
  (he:aH P (words P) C ops.toList b i ((ops.toList.drop i).take (k-i)) s=s1) (hok:s1.ok) (hd:bE s1.n o.dst=true)
  (hf:s1.ev f = .fn (.func fid) first caps) (hxg:(args.toList.map s1.ev).all sg=true) (hx:((args.toList.map s1.ev).map sd).map wk=xs) (hct:gX P fid (first++xs++caps) s1.h (b+k) R X)
  (hk : ∀ res h' n',R res h' n'->au P ro ops (k+1) n' { n:=s1.n,t:=s1.put o.dst res,h:=h',nx:=n'+ops.size,ok:=True,e:=s1.e } Q)
  (hp : ∀ c h' n',X c h' n'->Q (.panic c) { n:=s1.n,t:=s1.t,h:=h',nx:=n',ok:=True,e:=s1.e }):au P ro ops i b s Q:=by
 intro B g0 g a w0 w hs hm hU
 have hlt:k<ops.size:=(Yl.1 ho).1
 have hr:List.range' i (ops.size-i)=List.range' i (k-i)++(k::List.range' (k+1) (ops.size-(k+1))):=by
  have:ops.size-i=(k-i)+((ops.size-(k+1))+1):=by omega
  rw[this,<- Zi,Y3];have e1:i+(k-i)=k:=by omega
  rw[e1]
 rw[hr]
 refine lT (C:=C) (b:=b) (k-i) i s g a w hs hm hU (by omega) (by rw[he];exact hok) fun g1 a1 w1 hs1 hm1 hU1=>?_
 rw[he] at hs1
 have hU1 : ∀ r,g1.U r->r<b+k:=fun r hr=>by have:=hU1 r hr;omega
 have hse:s1.e=s.e:=by rw[<- he];exact lU _ _ _ _ _
 rw[wpOpsIn_cons]
 unfold wpOpIn
 rw[ho]
 simp only
 have hw:Region.wanted o (yielded ops a1.tmps)=true:=by simp[Region.wanted,hg]
 rw[X4 hw]
 have hdef : ∀ c,o.op ≠ .defer c:=by intro c e;rw[e] at hop;cases hop
 have hsem:o.semAt (Fw ro).round a1.eval=execOp a1.eval o:=Oper.semAt_eq _ _ _ hdef
 refine⟨fun _ _=>trivial,?_⟩
 rw[hsem]
 obtain⟨hbd,hct⟩:=hct
 have hfr:=bC hs1 f
 rw[hf] at hfr
 have hxr:=Reps.wk (nC (mQ hs1 args.toList) hxg)
 rw[hx] at hxr
 generalize hv:a1.eval f=vf at hfr
 cases hfr with|fn _ _ _ fs cs l1 l2 r1 r2 =>
 have hrun:(execOp a1.eval o).run P w1 = .ok (.enter fid (fs++args.map a1.eval++cs)) w1:=by
  simp[execOp,hop,resolve,Deferred.ofValue,hv,invoke,mY hbd]
 rw[hrun,Oper.uponIn_enter]
 have e:fs++args.map a1.eval++cs=(fs.toList++args.toList.map a1.eval++cs.toList).toArray:=by apply Zo;simp
 rw[e]
 refine⟨fun h=>by simp[Fw,Fence.wide] at h,qU ((hct w1 g1 _ hs1.mem hU1 (Reps.append (Reps.append ⟨by simpa using l1,fun i d x h1 h2=>r1 i d x h1 (by simpa using h2)⟩ hxr) ⟨by simpa using l2,fun i d x h1 h2=>r2 i d x h1 (by simpa using h2)⟩)).mono ?_)⟩
 rintro e w' ⟨g',h',n',q2,q3,q4,⟨v,res,hR,rfl,q1⟩|⟨c,hX,rfl⟩⟩
 .
  have hs2:=ic hs1 q3 q2 hd q1 True;have:=hk res h' n' hR B g0 g' (a1.put o.dst v) w0 w' ⟨hs2.sz,hs2.tm,hs2.mem,hs2.df,hs2.en,hs2.bd⟩ (hm1.trans q3) (fun r hr=>by have:=q4 r hr;omega)
  rw[hse] at this;exact this
 have hs2:=ic (dst:=none) hs1 q3 q2 rfl (.junk undef) True
 exact⟨_,g',hp c h' n' hX,⟨hs2.sz,hs2.tm,hs2.mem,hs2.df,hs2.en,hs2.bd⟩,by rw[<- hse];exact (hm1.trans q3).toX,q4,by rw[<- hse]⟩
theorem eD (k:Nat) {f:Operand}{args:Array Operand}{ts:Array TypeId}{fid:FuncId}{first caps xs:List D}{R:D->H->Nat->Prop}{X:List PanicEntry->H->Nat->Prop}(ho:ops[k]? = some o:=by exact bM rfl) (hop:o.op = .call { callee:=.value f,args:=args,argTypes:=ts }:=by exact rfl) (hg:o.guard=none:=by exact rfl)
  (he:aH P (words P) C ops.toList b i ((ops.toList.drop i).take (k-i)) s=s1:=by simp only[Yf,X9,Ya,Yj,S.put,YB,Nat.reduceSub,go_sem,ff];first|done|exact rfl) (hok:s1.ok:=by (try simp only[go_sem,ff]);all_goals exact ok0) (hd:bE s1.n o.dst=true:=by (try simp only[go_sem,ff]);all_goals (first|done|rfl|decide|simp))
  (hf:s1.ev f = .fn (.func fid) first caps:=by simp only[go_sem,ff];first|done|exact rfl) (hxg:(args.toList.map s1.ev).all sg=true:=by simp only[go_sem,ff]) (hx:((args.toList.map s1.ev).map sd).map wk=xs:=by simp only[go_sem,ff];first|done|exact rfl) (hct:gX P fid (first++xs++caps) s1.h (b+k) R X)
  (hp : ∀ c h' n',X c h' n'->Q (.panic c) { n:=s1.n,t:=s1.t,h:=h',nx:=n',ok:=True,e:=s1.e })
  (hk : ∀ res h' n',R res h' n'->au P ro ops (k+1) n' { n:=s1.n,t:=s1.put o.dst res,h:=h',nx:=n'+ops.size,ok:=True,e:=s1.e } Q) (hik:i<=k:=by omega):au P ro ops i b s Q :=
 Pb k R X hik ho hop hg he hok hd hf hxg hx hct hk hp
theorem Ph (k:Nat) {x:Operand}{d:D}{t:TypeId}{v:Value}(hik:i<=k) (ho:ops[k]? = some o) (hop:o.op = .panic x) (hg:o.guard=none)
  (he:aH P (words P) C ops.toList b i ((ops.toList.drop i).take (k-i)) s=s1) (hok:s1.ok) (hx:s1.ev x=d) (hv : ∀ (w:World) (g:Mem) u,Rep w g d u->u = .iface t v)
  (hq:Q (.panic [{ v:=.iface t v,recovered:=false }]) { n:=s1.n,t:=s1.t,h:=s1.h,nx:=b+k,ok:=True,e:=s1.e }):au P ro ops i b s Q:=by
 intro B g0 g a w0 w hs hm hU
 have hlt:k<ops.size:=(Yl.1 ho).1
 have hr:List.range' i (ops.size-i)=List.range' i (k-i)++(k::List.range' (k+1) (ops.size-(k+1))):=by
  have:ops.size-i=(k-i)+((ops.size-(k+1))+1):=by omega
  rw[this,<- Zi,Y3];have e1:i+(k-i)=k:=by omega
  rw[e1]
 rw[hr]
 refine lT (C:=C) (b:=b) (k-i) i s g a w hs hm hU (by omega) (by rw[he];exact hok) fun g1 a1 w1 hs1 hm1 hU1=>?_
 rw[he] at hs1
 have hU1 : ∀ r,g1.U r->r<b+k:=fun r hr=>by have:=hU1 r hr;omega
 have hse:s1.e=s.e:=by rw[<- he];exact lU _ _ _ _ _
 rw[wpOpsIn_cons]
 unfold wpOpIn
 rw[ho]
 simp only
 have hw:Region.wanted o (yielded ops a1.tmps)=true:=by simp[Region.wanted,hg]
 rw[X4 hw]
 have hdef : ∀ c,o.op ≠ .defer c:=by intro c e;rw[e] at hop;cases hop
 have hsem:o.semAt (Fw ro).round a1.eval=execOp a1.eval o:=Oper.semAt_eq _ _ _ hdef
 refine⟨fun _ _=>trivial,?_⟩
 rw[hsem]
 have hxr:=bC hs1 x
 rw[hx] at hxr
 have hxv:=hv _ _ _ hxr
 have hrun:(execOp a1.eval o).run P w1 = .halt (.panic (.iface t v)) w1:=by
  simp[execOp,hop,hxv,Instr.panic]
 rw[hrun,Oper.uponIn_panic]
 exact⟨_,g1,hq,⟨hs1.sz,hs1.tm,hs1.mem,hs1.df,hs1.en,hs1.bd⟩,by rw[<- hse];exact hm1.toX,hU1,by rw[<- hse]⟩
end
def sV (P:Program) [Glob P] (f:FuncId) (args:List D) (h:H) (n:Nat) (u u':FrameMode) (R:H->Nat->Prop):Prop :=
 bT P f=true /\ ∀ (w:World) (g:Mem) (vs:List Value),HM P h g w->(∀ r,g.U r->r<n)->Reps w g args vs ->
  CallsDIn Fence.wide 0 P f vs.toArray u w fun e u2 w'=>∃ v g' h' n',e = .returned v/\u2=u'/\HM P h' g' w'/\Mono g g' w w'/\(∀ r,g'.U r->r<n')/\R h' n'
def sU (P:Program) [Glob P] (fn:Func) (fid:FuncId) (caps:List D) (R:D->H->Nat->Prop) (e:Exit) (s:S):Prop :=
 ∃ u u' Rd,(match e with | .normal | .ret=>u = .returning | .panic c=>u = .panicking c|_=>False)/\settle u' = .returning/\sV P fid caps s.h s.nx u u' Rd /\
  ∀ h1 n1,Rd h1 n1->iY P { s with h:=h1 } fn.results.toList /\ ∃ h' n',(∀ r,h' r=h1 r\/h' r=none)/\n1<=n'/\R (jF P fn.results.toList { s with h:=h1 }) h' n'
theorem Vf [Glob P] {C:Con}{B:Bot}{s:S}{g:Mem}{a:Act}{w:World}(hs:St P B s g a w) {b i N:Nat}(hb : ¬ g.U (b+i)) (hN : ∀ r,g.U r->r<N) {ops:Array Oper}{o:Oper}(hi:ops[i]? = some o) (hgn:o.guard=none) (hok:(bq P (words P) C ops.toList b i o s).ok)
  {ro:Option Nat} {n:Nat} {K:Act->World->Prop} {Q:Exit->Act->World->Prop}
  (hK : ∀ g' a' w',St P B (bq P (words P) C ops.toList b i o s) g' a' w'->Mono g g' w w'->(∀ r,g'.U r->g.U r\/r=b+i)->a'.defers=a.defers->K a' w'):wpOpIn (Fw ro) n P ops Q i K a w:=by
 unfold wpOpIn
 rw[hi]
 simp only
 unfold bq at hok hK
 rw[hgn] at hok hK
 simp only at hok hK
 obtain⟨_,h2,h3⟩:=hok
 have hw:Region.wanted o (yielded ops a.tmps)=true:=by simp[Region.wanted,hgn]
 rw[X4 hw]
 exact Du hs hb hN h3 fun v g' w' h4 h5 h6 h7=>hK g' _ w' (ic hs h6 h5 h2 h4 _) h6 h7 (by cases o.dst<;>rfl)
theorem Dp [Glob P] {C:Con}{B:Bot}{ops:Array Oper}{b:Nat}{n:Nat}{Q:Exit->Act->World->Prop}{w0:World}{g0:Mem}{rest:List Nat}:∀ (k i:Nat) (s:S) (g:Mem) (a:Act) (w:World),St P B s g a w->Mono g0 g w0 w->(∀ r,g.U r->r<b+i) ->
  i+k<=ops.size->(∀ o∈(ops.toList.drop i).take k,o.guard=none)->(aH P (words P) C ops.toList b i ((ops.toList.drop i).take k) s).ok ->
  (∀ g' a' w',St P B (aH P (words P) C ops.toList b i ((ops.toList.drop i).take k) s) g' a' w'->Mono g0 g' w0 w'->(∀ r,g'.U r->r<b+(i+k))->a'.defers=a.defers->wpOpsIn (Fw ro) n P ops Q rest a' w') ->
  wpOpsIn (Fw ro) n P ops Q (List.range' i k++rest) a w:=by
 intro k
 induction k with
 | zero =>
  intro i s g a w hs hm hU hk _ hok hQ;exact hQ g a w hs hm hU rfl
 | succ k ih =>
  intro i s g a w hs hm hU hk hgn hok hQ;have hlt:i<ops.size:=by omega
  have hd:(ops.toList.drop i).take (k+1)=ops[i]::(ops.toList.drop (i+1)).take k:=by rw[Yw (by simpa using hlt)];simp
  rw[hd] at hok hQ hgn;simp only[aH] at hok hQ;rw[Y3,X0,wpOpsIn_cons];refine Vf hs (b:=b) (N:=b+i) (fun h=>by have:=hU _ h;omega) hU (by simp[hlt]) (hgn _ (by simp)) (zN hok) fun g' a' w' h1 h2 h3 h4=>?_
  refine ih (i+1) _ g' a' w' h1 (hm.trans h2) (fun r hr=>by
   rcases h3 r hr with h|h
   .
    have:=hU r h;omega
   omega) om (fun o ho=>hgn o (by simp[ho])) hok fun g'' a'' w'' q1 q2 q3 q4=>hQ g'' a'' w'' q1 q2 (fun r hr=>by have:=q3 r hr;omega) (q4.trans h4)
theorem Ni {F:Fence}{n:Nat}{o:Oper}{a:Act}{next next':Act->World->Prop}{Q Q':Exit->Act->World->Prop}(hn : ∀ a w,next a w->next' a w) (hq : ∀ e a w,Q e a w->Q' e a w) (r:Result Next) (h:o.uponIn F n P a next Q r):o.uponIn F n P a next' Q' r:=by
 have hl:LetsOut Q->LetsOut Q':=fun ⟨a,w,h⟩=>⟨a,w,hq _ _ _ h⟩
 unfold Oper.uponIn at h ⊢
 split at h
 .
  exact hn _ _ h
 .
  exact hn _ _ h
 .
  exact hn _ _ h
 .
  exact⟨h.1,h.2.mono fun e w h=>by cases e with|returned v=>exact hn _ _ h|panicked c=>exact hq _ _ _ h|outgrown=>exact hl h⟩
 .
  exact⟨h.1,h.2.mono fun v w h=>hn _ _ h⟩
 .
  exact⟨h.1,h.2.mono fun e w h=>by cases e with|returned v=>exact hn _ _ h|panicked c=>exact hq _ _ _ h|outgrown=>exact hl h⟩
 .
  exact hq _ _ _ h
 exact h.elim
theorem uU {F:Fence}{n:Nat}{ops:Array Oper}{Q Q':Exit->Act->World->Prop}(hq : ∀ e a w,Q e a w->Q' e a w):∀ (l:List Nat) (a:Act) (w:World),wpOpsIn F n P ops Q l a w->wpOpsIn F n P ops Q' l a w
 | [],a,w,h=>hq _ _ _ h
 | i::l,a,w,h=>by
  unfold wpOpsIn at h ⊢
  cases hi:ops[i]? with
  | none=>rw[hi] at h;exact uU hq l a w h
  | some o =>
   rw[hi] at h;simp only at h ⊢
   split
   .
    rename_i hw
    rw[X4 hw] at h;exact⟨h.1,Ni (fun a w h=>uU hq l a w h) hq _ h.2⟩
   rename_i hw
   rw[XZ hw] at h;exact⟨h.1,uU hq l _ w h.2⟩
theorem Le [Glob P] {C:Con}{fn:Func}{R:D->H->Nat->Prop}{id:Nat}{ops:Array Oper}{y:Code}(k:Nat) {o:Oper}{fop:Operand}{ts:Array TypeId}{fid:FuncId}{caps:List D}{s0 s1:S}{g g0:Mem}{w w0:World}{a0:Act}
  (ho:ops[k]? = some o) (hg:o.guard=none) (hop:o.op = .defer { callee:=.value fop,args:=#[],argTypes:=ts }) (hgn : ∀ o∈ops.toList.take k,o.guard=none)
  {E:Env} (hEx:E.x=none) (hE:E.p g0 w0) (he:aH P (words P) C ops.toList s0.nx 0 (ops.toList.take k) { n:=s0.n,t:=s0.t,h:=s0.h,nx:=s0.nx+ops.size,e:=E }=s1) (hok:s1.ok) (hd:bE s1.n o.dst=true) (hfv:s1.ev fop = .fn (.func fid) [] caps)
  (hw:au P none ops (k+1) s0.nx { n:=s1.n,t:=s1.put o.dst .junk,h:=s1.h,nx:=s1.nx,ok:=True,e:=s1.e } (thenS (DW P none y (sU P fn fid caps R)) (sU P fn fid caps R)))
  (hs0:St P (Bot.of w.heap.size) s0 g0 a0 w0) (hm0:Mono g g0 w w0) (hU0 : ∀ r,g0.U r->r<s0.nx) (hdf0:a0.defers=[]) :
  (Code.seq (.region id ops false) y).wpIn Fence.wide 0 P (bodyPostM Fence.wide 0 P fn (fun e w'=>∃ v g' res h' n',R res h' n'/\e = .returned v/\Rep w' g' res v/\HM P h' g' w'/\Mono g g' w w' /\ ∀ r,g'.U r->r<n')) a0 w0:=by
 refine wpIn_seq (wpIn_region ?_)
 have hs:St P (Bot.of w.heap.size) { n:=s0.n,t:=s0.t,h:=s0.h,nx:=s0.nx+ops.size,e:=E } g0 a0 w0:=⟨hs0.sz,hs0.tm,hs0.mem,hs0.df,hE,hs0.bd⟩
 have hlt:k<ops.size:=(Yl.1 ho).1
 have hrg:List.range ops.size=List.range' 0 k++(k::List.range' (k+1) (ops.size-(k+1))):=by
  rw[Y7];have:ops.size=k+((ops.size-(k+1))+1):=by omega
  conv=>lhs;rw[this]
  rw[<- Zi,Y3]
  simp
 rw[hrg]
 have e0:(ops.toList.drop 0).take k=ops.toList.take k:=rfl
 refine Dp (ro:=none) (C:=C) (b:=s0.nx) k 0 _ g0 _ w0 hs hm0 (fun r hr=>by have:=hU0 r hr;omega) (by omega) hgn (by rw[e0];exact he ▸ hok) fun g1 a1 w1 hs1 hm1 hU1 hdf=>?_
 rw[e0] at hs1
 have hs1:St P (Bot.of w.heap.size) s1 g1 a1 w1:=he ▸ hs1
 have hdf:a1.defers=[]:=hdf.trans hdf0
 have hse:s1.e=E:=by rw[<- he];exact lU _ _ _ _ _
 rw[wpOpsIn_cons]
 unfold wpOpIn
 rw[ho]
 simp only
 have hwt:Region.wanted o (yielded ops a1.tmps)=true:=by simp[Region.wanted,hg]
 rw[X4 hwt]
 refine⟨fun _ _=>trivial,?_⟩
 have hfr:=bC hs1 fop
 rw[hfv] at hfr
 generalize hv:a1.eval fop=vf at hfr
 cases hfr with|fn _ _ _ fs cs l1 l2 r1 r2 =>
 have hfs:fs = #[]:=by
  apply ZQ
  simpa using l1.symm
 subst hfs
 have hrun:(o.semAt (Fw none).round a1.eval).run P w1 = .ok (.defer { target:=.fn (.func fid) cs,args:=#[] }) w1:=by
  have:o.semAt (Fw none).round a1.eval=execOp a1.eval o:=rfl;rw[this]
  simp[execOp,hop,resolve,Deferred.ofValue,hv]
 rw[hrun,Oper.uponIn_defer]
 have hcaps:Reps w1 g1 caps cs.toList:=⟨by simpa using l2,fun i d x h1 h2=>r2 i d x h1 (by simpa using h2)⟩
 let B':Bot:=⟨w.heap.size,[{ target:=.fn (.func fid) cs,args:=#[] }],fun d hd D=>by simp at hd;subst hd;simp⟩
 have hst:St P B' { n:=s1.n,t:=s1.put o.dst .junk,h:=s1.h,nx:=s1.nx,ok:=True,e:=s1.e } g1 ({ a1 with defers:={ target:=.fn (.func fid) cs,args:=#[] }::a1.defers }.put o.dst undef) w1:=by
  have hb0:St P B' { n:=s1.n,t:=s1.t,h:=s1.h,nx:=s1.nx,ok:=True,e:=s1.e } g1 { a1 with defers:={ target:=.fn (.func fid) cs,args:=#[] }::a1.defers } w1 :=
   ⟨hs1.sz,hs1.tm,hs1.mem,by rw[hdf];exact Dfs.start (B:=B'),hs1.en,hs1.bd⟩
  exact ic hb0 (Mono.refl _ _) hs1.mem hd (.junk undef) True
 have hseg:=hw B' g1 g1 _ w1 w1 hst (Mono.refl _ _) (fun r hr=>by have:=hU1 r hr;omega)
 have hx0:s1.e.x=none:=by rw[hse];exact hEx
 have fin : ∀ (e:Exit) (a':Act) (w':World) (s':S) (g':Mem),sU P fn fid caps R e s'->St P B' s' g' a' w'->Mono g1 g' w1 w'->(∀ r,g'.U r->r<s'.nx)->bodyPostM Fence.wide 0 P fn (fun e w'=>∃ v g' res h' n',R res h' n'/\e = .returned v/\Rep w' g' res v/\HM P h' g' w'/\Mono g g' w w' /\ ∀ r,g'.U r->r<n') e a' w':=by
  intro e a' w' s' g' ⟨u,u',Rd,hu,hset,hdc,hfin⟩ hs' hm' hU';have hne:u ≠ .run:=by
   intro hh;subst hh
   cases e<;>simp at hu
  have hlast:LeavesInM Fence.wide 0 P fn a'.tmps (fun e w'=>∃ v g' res h' n',R res h' n'/\e = .returned v/\Rep w' g' res v/\HM P h' g' w'/\Mono g g' w w' /\ ∀ r,g'.U r->r<n') a'.defers u w':=by
   obtain⟨ms,hms,hmk⟩:=hs'.df;rw[hms];refine I4 (P:=P) hne ms w' hmk fun w2 e0 e1 e2 e3 e4 e5 e6 e7=>?_
   have hs2:=hs'.marks e4 e6 e7;have hmF:Mono g g' w w':=hm1.trans hm';have mono2:Mono g g' w w2:=by
    refine⟨by rw[e1,hmF.os],by rw[e2,hmF.tape],by rw[e3,hmF.output],by rw[e4];exact hmF.size,by rw[e0];exact hmF.drawn,hmF.U,hmF.M,hmF.new,hmF.I,hmF.inew,fun k hk hne=>?_⟩
    rw[e5 k hk];exact hmF.same k hk hne
   have hc2:Reps w2 g' caps cs.toList:=(hcaps.later hs1.mem hm').mono (fun b hb=>⟨hb,e6 b hb⟩) (fun _ h=>h) (fun _ _=>.inl rfl)
   obtain⟨hbd2,hcall⟩:=hdc;have hcall:=hcall w2 g' cs.toList hs2.mem hU' hc2;refine⟨hne,.inr ⟨fun h=>by simp[Fence.wide] at h,.func fid,cs,fid,cs,rfl,by simp[invoke,mY hbd2],fun _ _=>trivial,?_⟩⟩
   have ecs:cs.toList.toArray=cs:=by simp
   rw[ecs] at hcall;refine hcall.mono ?_;rintro e3 u2 w3 ⟨v,g3,h3,n3,rfl,rfl,q1,q2,q3,q4⟩
   show LeavesInM Fence.wide 0 P fn a'.tmps _ [] (settle u2) w3
   rw[hset];obtain⟨ro,h4,n4,k1,k2,k3⟩:=hfin h3 n3 q4;have hs3:St P (Bot.of w.heap.size) { n:=s'.n,t:=s'.t,h:=h3,nx:=s'.nx,ok:=s'.ok,e:=Env.tt } g3 { a' with defers:=[] } w3 :=
    ⟨hs2.sz,fun i=>(hs2.tm i).later hs2.mem q2,q1,Dfs.start (B:=Bot.of w.heap.size),trivial,Yb hs2.bd q2.size⟩
   obtain⟨v3,p1,p2⟩:=tX (fn:=fn) (s:={ n:=s'.n,t:=s'.t,h:=h3,nx:=s'.nx,ok:=s'.ok,e:=s'.e }) hs3 ro;exact⟨v3,p1,v3,g3.only h4,_,h4,n4,k3,rfl,p2.only,q1.only k1,(mono2.trans q2).trans only_mono,fun r hr=>Yz (q3 r hr) k2⟩
  cases e with
  | normal=>simp only at hu;subst hu;exact hlast
  | ret=>simp only at hu;subst hu;exact hlast
  | panic c=>simp only at hu;subst hu;exact hlast
  | _=>simp at hu
 refine uU (F:=Fence.wide) ?_ _ _ _ hseg
 rintro e a' w' ⟨s',g',hq,hs',hm',hU',hx'⟩
 rw[hx0] at hm'
 cases e with
 | normal =>
  refine wpIn_mono (F:=Fence.wide) (hq B' g' a' w' hs' hU') ?_;rintro e2 a2 w2 ⟨s2,g2,hq2,hs2,hm2,hU2,hx2⟩;have hx3:s'.e.x=none:=by rw[hx'];exact hx0
  rw[hx3] at hm2;exact fin e2 a2 w2 s2 g2 hq2 hs2 (hm'.out.trans hm2.out) hU2
 | exit id=>exact fin (.exit id) a' w' s' g' hq hs' hm'.out hU'
 | goto l=>exact fin (.goto l) a' w' s' g' hq hs' hm'.out hU'
 | ret=>exact fin .ret a' w' s' g' hq hs' hm'.out hU'
 | panic c=>exact fin (.panic c) a' w' s' g' hq hs' hm'.out hU'
 | outgrown=>exact fin .outgrown a' w' s' g' hq hs' hm'.out hU'
theorem BF [Glob P] {C:Con}{f:FuncId}{fn:Func}{args:List D}{h:H}{n:Nat}{R:D->H->Nat->Prop}{id0:Nat}{ops0:Array Oper}{id:Nat}{ops:Array Oper}{y:Code}(k:Nat) {o:Oper}{fop:Operand}{ts:Array TypeId}{fid:FuncId}{caps:List D}{s0 s1:S}
  (hf:P.funcs[f]? = some fn) (hb:fn.body=some (.seq (.region id0 ops0 false) (.seq (.region id ops false) y))) (hbd:bT P f=true) (hn:args.length<=fn.ntmps)
  (hgn0 : ∀ o∈ops0.toList,o.guard=none) (he0:aH P (words P) C ops0.toList n 0 ops0.toList { n:=fn.ntmps,t:=fun i=>args.getD i .junk,h:=h,nx:=n+ops0.size,e:=Env.tt }=s0) (hok0:s0.ok)
  (ho:ops[k]? = some o) (hg:o.guard=none) (hop:o.op = .defer { callee:=.value fop,args:=#[],argTypes:=ts }) (hgn : ∀ o∈ops.toList.take k,o.guard=none)
  (he:aH P (words P) C ops.toList (n+ops0.size) 0 (ops.toList.take k) { n:=s0.n,t:=s0.t,h:=s0.h,nx:=n+ops0.size+ops.size,e:=Env.tt }=s1) (hok:s1.ok) (hd:bE s1.n o.dst=true) (hfv:s1.ev fop = .fn (.func fid) [] caps)
  (hw:(∀ r,n<=r->h r=none)->au P none ops (k+1) (n+ops0.size) { n:=s1.n,t:=s1.put o.dst .junk,h:=s1.h,nx:=s1.nx,ok:=True,e:=s1.e } (thenS (DW P none y (sU P fn fid caps R)) (sU P fn fid caps R))):RCt P f args h n R:=by
 refine⟨hbd,fun w g vs hm hU hr=>?_⟩
 refine callsIn_of_wp_marks (n:=0) hf hb trivial (wpIn_seq (wpIn_region ?_))
 have hs:=qy (P:=P) (n:=fn.ntmps) hr hn hm (nx:=n+ops0.size)
 have hrg:List.range ops0.size=List.range' 0 ops0.size++[]:=by rw[YE,Y7]
 rw[hrg]
 have e0:(ops0.toList.drop 0).take ops0.size=ops0.toList:=by rw[X9];exact Yq (by simp)
 refine Dp (ro:=none) (C:=C) (b:=n) ops0.size 0 _ g _ w hs (Mono.refl _ _) (fun r hr=>by have:=hU r hr;omega) (by omega) (by rw[e0];exact hgn0) (by rw[e0];exact he0 ▸ hok0) fun g1 a1 w1 hs1 hm1 hU1 hdf=>?_
 rw[e0] at hs1
 have hs1:St P (Bot.of w.heap.size) s0 g1 a1 w1:=he0 ▸ hs1
 have hnx:s0.nx=n+ops0.size:=by rw[<- he0];exact Dq _ _ _ _ _
 have hse:s0.e=Env.tt:=by rw[<- he0];exact lU _ _ _ _ _
 rw[<- hnx] at he hw
 exact Le (C:=C) (E:=Env.tt) k ho hg hop hgn rfl trivial he hok hd hfv (hw (uj hm hU)) hs1 hm1 (fun r hr=>by rw[hnx];have:=hU1 r hr;omega) hdf
end Go.DL
namespace Go.DL
open Go.RowKit
variable {P : Program} {C : Con} {B : Bot}
theorem mh {ops:Array Oper}{listed:Array Bool}(hsz:listed.size=ops.size) {i:Nat} :
  i∈Region.ready .any ops listed ↔ ∃ h:i<ops.size,listed.getD i false=false /\ ∀ e∈(ops[i]).after.toList,Region.binds .any e=true->listed.getD e.on false=true:=by
 unfold Region.ready
 simp only[Z4,Zq,XV,Yd]
 constructor
 .
  rintro⟨hlt,h1,h2⟩;have h3:ops[i]? = some ops[i]:=by simp[hlt]
  simp only[h3,YP,YS] at h2;have hil:i<listed.size:=by omega
  refine⟨hlt,by simp[Array.getD,hil] at h1 ⊢;exact h1,fun e he hb=>?_⟩
  rw[Array.all_eq_true] at h2;obtain⟨q,hq,rfl⟩:=Array.mem_iff_getElem.1 (Array.mem_toList_iff.1 he);have:=h2 q hq;simp only[hb,Bool.not_true,Bool.false_or] at this;exact this
 rintro⟨hlt,h1,h2⟩
 have h3:ops[i]? = some ops[i]:=by simp[hlt]
 have hil:i<listed.size:=by omega
 refine⟨hlt,by simp[Array.getD,hil] at h1 ⊢;exact h1,?_⟩
 simp only[h3,YP,YS]
 rw[Array.all_eq_true]
 intro q hq
 simp only[Yc,Yd]
 cases hb:Region.binds .any (ops[i].after[q]) with
 | false=>exact .inl rfl
 | true=>exact .inr (h2 _ (by simp) hb)
theorem Fa {ops:Array Oper}{F:Fence}{n k2:Nat}{Q:Exit->Act->World->Prop}(hback : ∀ (i:Nat) o,ops.toList[i]? = some o -> ∀ e∈o.after.toList,Region.binds .any e=true->e.on<i)
  (hord : ∀ i,k2<=i->i<ops.size -> ∀ j,j<i->((bF ops.toList []).getD i 0).testBit j=true) :
  ∀ (c m fuel:Nat) (listed:Array Bool) (a:Act) (w:World),m+c=ops.size->k2<=m->listed.size=ops.size->(∀ j,j<ops.size->listed.getD j false=decide (j<m))->c<=fuel ->
   wpOpsIn F n P ops Q (List.range' m c) a w->wpAnyIn F n P .any ops Q fuel listed a w:=by
 intro c
 induction c with
 | zero =>
  intro m fuel listed a w hm hk hsz hl hf h;have hr:Region.ready .any ops listed=[]:=by
   rw[List.eq_nil_iff_forall_not_mem];intro i hi;obtain⟨h1,h2,_⟩:=(mh hsz).1 hi;rw[hl i h1] at h2
   simp at h2;omega
  cases fuel with
  | zero=>exact⟨hr,h⟩
  | succ fuel=>exact⟨fun _=>h,fun i hi=>by rw[hr] at hi;cases hi⟩
 | succ c ih =>
  intro m fuel listed a w hm hk hsz hl hf h;have hlt:m<ops.size:=by omega
  cases fuel with
  | zero=>omega
  | succ fuel =>
   rw[Y3,wpOpsIn_cons] at h;refine⟨fun hr=>?_,fun i hi=>?_⟩
   .
    exfalso
    have:m∈Region.ready .any ops listed:=(mh hsz).2 ⟨hlt,by rw[hl m hlt];simp,fun e he hb=>by
     have:=hback m ops[m] (by simp[hlt]) e he hb
     rw[hl e.on (by omega)];simpa using this⟩
    rw[hr] at this;cases this
   obtain⟨h1,h2,h3⟩:=(mh hsz).1 hi;rw[hl i h1] at h2;have hmi:m<=i:=by simp at h2;omega
   have e:i=m:=by
    by_cases q:i=m
    .
     exact q
    exfalso
    have:=o9 (L:=ops.toList) (X:=fun k=>k<m) (fun k o ho hk e he hb=>by have:=hback k o ho e he hb;omega) i ops[i] (by simp[h1]) (fun e he hb=>by
     have h4:=h3 e he hb;have h5:=hback i ops[i] (by simp[h1]) e he hb
     rw[hl e.on (by omega)] at h4
     simpa using h4) m (hord i om h1 m om)
    omega
   subst e;refine wpOpIn_mono (fun a' w' h'=>ih (i+1) fuel _ a' w' om om (by simp[hsz]) (fun j hj=>?_) om h') h
   by_cases q:j=i
   .
    subst q;have hil:j<listed.size:=by omega
    simp[Array.getD,hil]
   rw[getD_set_ne false (Ne.symm q),hl j hj]
   by_cases q2:j<i
   .
    simp[q2];omega
   have : ¬ j<i+1:=by omega
   simp[q2,this]
def jZ (C:Con) (o:Oper):Bool:=o.guard.isNone&&(match aS C o.op with | .writes=>false|_=>true) && !rZ o.op
theorem yz {o:Oper}(h:jZ C o=true):o.guard=none/\aS C o.op ≠ .writes/\rZ o.op=false:=by
 simp only[jZ,XV,Y9,Yd] at h
 refine⟨h.1.1,fun e=>?_,h.2⟩
 have:=h.1.2
 rw[e] at this;cases this
theorem Vn [Glob P] {W:Words}{op:Op}{xs:List D}{h:H}{b b':Nat}(hc:aS C op ≠ .writes):aK P W C op xs h b=aK P W C op xs h b':=by
 unfold aK
 split<;>first
  | rfl
  | (exfalso;exact hc rfl)
  | skip
 have hb:C.bs=false:=by
  cases hb:C.bs with
  | false=>rfl
  | true=>exact absurd (by simp[aS,hb]) hc
 simp only[hb,Yo,Y6]
theorem Rz [Glob P] {W:Words}{L:List Oper}{b b' i:Nat}{o:Oper}{ev:Operand->D}{t:Nat->D}{n:Nat}{h:H}(hq:jZ C o=true) :
  aM P W C L b i o n ev t h=aM P W C L b' i o n ev t h:=by
 obtain⟨h1,h2,_⟩:=yz hq
 simp only[aM,h1,aG]
 split
 .
  rfl
 rw[Vn (b:=b+i) (b':=b'+i) h2]
theorem GV [Glob P] {W:Words}{L:List Oper}{b i:Nat}{o:Oper}{s:S}(hq:jZ C o=true):(bq P W C L b i o s).h=s.h:=by
 rw[jQ]
 exact uf (yz hq).2.1
theorem QJ {L:List Oper}{x y:Oper}(hx:jZ C x=true) (hy:jZ C y=true) (hs:gq L x y=true):qX C L x y=true:=by
 simp only[gq,XV] at hs
 simp only[qX,XV,Yd]
 refine⟨hs,?_⟩
 have h1:=(yz hx).2.1
 have h2:=(yz hy).2.1
 revert h1 h2
 generalize aS C x.op=a
 generalize aS C y.op=c
 intro h1 h2
 cases a<;>cases c<;>first|rfl|(exact absurd rfl h1)|(exact absurd rfl h2)
theorem zC [Glob P] {W:Words}{L:List Oper}{b:Nat}:∀ (l:List Nat) (s:S),(∀ i∈l,∀ o,L[i]? = some o->jZ C o=true)->(l.foldl (aJ P W C L b) s).h=s.h
 | [],s,_=>rfl
 | i::l,s,h=>by
  simp only[YI];rw[zC l _ fun k hk=>h k (by simp[hk])]
  unfold aJ
  cases hi:L[i]? with
  | none=>rfl
  | some o=>exact GV (h i (by simp) o hi)
theorem zF [Glob P] {W:Words}{L:List Oper}{b b' m:Nat}{d:Option Tmp}{res:D}{h':H}{sq:S}:∀ (l:List Nat) (s:S),l.Pairwise (· < ·) ->
  (∀ i∈l,∀ o,L[i]? = some o->jZ C o=true/\(∀ z,d=some z->z ∉ looks L o/\o.dst≠some z)/\(∀ j∈l,i<=j -> ∀ y,L[j]? = some y -> ∀ z∈looks L o,y.dst≠some z)
   /\ aM P W C L b i o sq.n sq.ev sq.t h'=((aM P W C L b i o sq.n sq.ev sq.t sq.h).1,h',(aM P W C L b i o sq.n sq.ev sq.t sq.h).2.2)) ->
  l.foldl (aJ P W C L b) s=sq->sq.ok ->
  l.foldl (aJ P W C L b') { n:=s.n,t:=s.put d res,h:=h',nx:=m,ok:=True,e:=s.e }={ n:=sq.n,t:=sq.put d res,h:=h',nx:=m,ok:=True,e:=sq.e }
 | [],s,_,_,hf,_=>by
  simp only[ZC] at hf ⊢;rw[hf]
 | i::l,s,hp,hh,hf,hok=>by
  simp only[YI] at hf ⊢;have hp':=Y1.1 hp
  cases hi:L[i]? with
  | none =>
   have e : ∀ c u,aJ P W C L c u i=u:=fun c u=>by simp only[aJ,hi]
   rw[e] at hf ⊢;exact zF l s hp'.2 (fun k hk o ho=>by
    obtain⟨q1,q2,q3,q4⟩:=hh k (by simp[hk]) o ho
    exact⟨q1,q2,fun j hj=>q3 j (by simp[hj]),q4⟩) hf hok
  | some o =>
   have e : ∀ c u,aJ P W C L c u i=bq P W C L c i o u:=fun c u=>by simp only[aJ,hi]
   obtain⟨q1,q2,q3,q4⟩:=hh i (by simp) o hi
   have hT : ∀ z∈looks L o,sq.t z=s.t z:=by
    intro z hz;rw[<- hf];have:=keeps (P:=P) (W:=W) (C:=C) (L:=L) (b:=b) (z:=z) (i::l) s (fun k hk y hy=>by
     rcases YK.1 hk with rfl|hk'
     .
      exact q3 k (by simp) (XX _) y hy z hz
     exact q3 k (by simp[hk']) (Nat.le_of_lt (hp'.1 k hk')) y hy z hz)
    simpa only[YI] using this
   have hn:sq.n=s.n/\sq.h=s.h:=by
    constructor
    .
     rw[<- hf];have : ∀ (l:List Nat) (u:S),(l.foldl (aJ P W C L b) u).n=u.n:=by
      intro l
      induction l with
      | nil=>intro u;rfl
      | cons k l ih =>
       intro u;simp only[YI];rw[ih];unfold aJ
       split
       .
        exact exec1_n.1
       rfl
     rw[this,e];exact exec1_n.1
    rw[<- hf,zC l _ fun k hk o ho=>(hh k (by simp[hk]) o ho).1,e];exact GV q1
   have e1:aM P W C L b i o s.n s.ev s.t h'=((aM P W C L b i o s.n s.ev s.t s.h).1,h',(aM P W C L b i o s.n s.ev s.t s.h).2.2):=by
    have:=q4;rw[hn.1,hn.2,vK (s:=sq) (s':=s) hT,vK (s:=sq) (s':=s) hT] at this;exact this
   have e2 : ∀ c,aM P W C L c i o s.n (S.ev { n:=s.n,t:=s.put d res,h:=h',nx:=m,ok:=True,e:=s.e }) (s.put d res) h'=aM P W C L b i o s.n s.ev s.t h':=by
    intro c;rw[Rz (b:=c) (b':=b) q1];refine vK (s:={ n:=s.n,t:=s.put d res,h:=h',nx:=m,ok:=True,e:=s.e }) (s':=s) fun z hz=>?_
    show s.put d res z=s.t z
    cases hd:d with
    | none=>rfl
    | some y=>exact upd_ne _ _ _ _ fun e=>(q2 y hd).1 (by rw[<- e];exact hz)
   have hok1:(bq P W C L b i o s).ok:=by rw[e] at hf;exact rD (by rw[hf];exact hok)
   have hp1:(aM P W C L b i o s.n s.ev s.t s.h).2.2:=by rw[jQ] at hok1;exact hok1.2
   have key:bq P W C L b' i o { n:=s.n,t:=s.put d res,h:=h',nx:=m,ok:=True,e:=s.e }={ n:=(bq P W C L b i o s).n,t:=(bq P W C L b i o s).put d res,h:=h',nx:=m,ok:=True,e:=(bq P W C L b i o s).e }:=by
    rw[jQ,jQ];simp only[e2,e1]
    congr 1
    .
     show S.put _ o.dst _=S.put _ d res
     cases hod:o.dst with
     | none=>rfl
     | some x =>
      cases hd:d with
      | none=>rfl
      | some y =>
       have hne:x≠y:=fun e=>(q2 y hd).2 (by rw[hod,e])
       funext z
       simp only[S.put,upd]
       by_cases h1:z=x
       .
        have:z≠y:=fun e=>hne (h1 ▸ e)
        simp[h1,hne]
       simp[h1]
    exact propext ⟨fun _=>trivial,fun _=>⟨trivial,hp1⟩⟩
   rw[e,key];rw[e] at hf;exact zF l _ hp'.2 (fun k hk o ho=>by
    obtain⟨q1,q2,q3,q4⟩:=hh k (by simp[hk]) o ho
    exact⟨q1,q2,fun j hj=>q3 j (by simp[hj]),q4⟩) hf hok
structure Ei (C:Con) (ops:Array Oper) (k1 k2:Nat):Prop where
 le:k2<=ops.size
 back : ∀ (i:Nat) o,ops.toList[i]? = some o -> ∀ e∈o.after.toList,Region.binds .any e=true->e.on<i
 ord : ∀ i,k2<=i->i<ops.size -> ∀ j,j<i->((bF ops.toList []).getD i 0).testBit j=true
 quiet : ∀ (i:Nat) o,i<k2->i≠k1->((bF ops.toList []).getD k1 0).testBit i=false->ops.toList[i]? = some o->jZ C o=true
 comm : ∀ (i j:Nat) x y,i<k2->j<i->i≠k1->j≠k1->ops.toList[j]? = some x->ops.toList[i]? = some y->((bF ops.toList []).getD i 0).testBit j=true\/iC C ops.toList x y=true
 call : ∀ (i:Nat) x y,i<k2->i≠k1->ops.toList[i]? = some x->ops.toList[k1]? = some y->((bF ops.toList []).getD k1 0).testBit i=true\/gq ops.toList x y=true
 late : ∀ (i j:Nat) x y,i<=j->j<k2->i≠k1->j≠k1->ops.toList[i]? = some x->ops.toList[j]? = some y -> ∀ z∈looks ops.toList x,y.dst≠some z
def todoQ (k1 k2:Nat) (listed:Array Bool):List Nat:=(List.range k2).filter fun i=>i != k1 && !listed.getD i false
theorem mem_todoQ {k1 k2 i:Nat}{listed:Array Bool}:i∈todoQ k1 k2 listed ↔ i<k2/\i≠k1/\listed.getD i false=false:=by
 simp only[todoQ,Z4,Zq,XV,ZL,Yd]
theorem getD_set {listed:Array Bool}{i:Nat}(hi:i<listed.size) (k:Nat):(listed.setIfInBounds i true).getD k false=(listed.getD k false||k==i):=by
 by_cases e:k=i
 .
  subst e;simp[Array.getD,hi]
 rw[getD_set_ne false (Ne.symm e)]
 have:(k==i)=false:=by simpa using e
 rw[this,ZR]
def Closed (ops:Array Oper) (listed:Array Bool):Prop:=∀ (i:Nat) o,ops.toList[i]? = some o->listed.getD i false=true -> ∀ e∈o.after.toList,Region.binds .any e=true->listed.getD e.on false=true
theorem Closed.set {ops:Array Oper}{listed:Array Bool}(h:Closed ops listed) (hsz:listed.size=ops.size) {i:Nat}(hi:i∈Region.ready .any ops listed):Closed ops (listed.setIfInBounds i true):=by
 obtain⟨h1,h2,h3⟩:=(mh hsz).1 hi
 intro k o hk hkl e he hb
 rw[getD_set (by omega)] at hkl ⊢
 simp only[Yc,YF] at hkl ⊢
 rcases hkl with hkl|rfl
 .
  exact .inl (h k o hk hkl e he hb)
 have:o=ops[k]:=by simp[h1] at hk;exact hk.symm
 subst this
 exact .inl (h3 e he hb)
theorem BK [Glob P] {ops:Array Oper}{k1 k2 b n:Nat}{ro:Option Nat}{Q:Exit->Act->World->Prop}(Dle:k2<=ops.size) (Dcomm : ∀ (i j:Nat) x y,i<k2->j<i->i≠k1->j≠k1->ops.toList[j]? = some x->ops.toList[i]? = some y->((bF ops.toList []).getD i 0).testBit j=true\/iC C ops.toList x y=true) {listed:Array Bool}{s fin:S}{g:Mem}{a:Act}{w:World}(hsz:listed.size=ops.size) (hX:Closed ops listed)
  (hs:St P B s g a w) (hU : ∀ r,g.U r->r<b \/ ∃ j,listed.getD j false=true/\j<k2/\r=b+j) (hfin:(todoQ k1 k2 listed).foldl (aJ P (words P) C ops.toList b) s=fin) (hok:fin.ok) {i:Nat} (hi:i∈Region.ready .any ops listed) (hik:i<k2) (hne:i≠k1) {K:Act->World->Prop}
  (hK : ∀ g' a' w' s',St P B s' g' a' w'->Mono g g' w w'->(∀ r,g'.U r->r<b \/ ∃ j,(listed.setIfInBounds i true).getD j false=true/\j<k2/\r=b+j) ->
   (todoQ k1 k2 (listed.setIfInBounds i true)).foldl (aJ P (words P) C ops.toList b) s'=fin->(todoQ k1 k2 (listed.setIfInBounds i true)).length<(todoQ k1 k2 listed).length->K a' w'):wpOpIn (Fw ro) n P ops Q i K a w:=by
 obtain⟨hlt,h1f,hpred⟩:=(mh hsz).1 hi
 have h3L:ops.toList[i]? = some ops[i]:=by simp[hlt]
 have hmem:i∈todoQ k1 k2 listed:=mem_todoQ.2 ⟨hik,hne,h1f⟩
 obtain⟨pre,post,hsplit⟩:=List.append_of_mem hmem
 have hsorted:(todoQ k1 k2 listed).Pairwise (· < ·):=Z7 _ ZW
 rw[hsplit] at hsorted
 have hpre : ∀ j∈pre,j<i:=fun j hj=>(Zj.1 hsorted).2.2 j hj i (by simp)
 have hpost : ∀ j∈post,i<j:=fun j hj=>(Y1.1 (Zj.1 hsorted).2.1).1 j hj
 have hap : ∀ j∈pre,j≠i /\ ∀ x,ops.toList[j]? = some x->iC C ops.toList x ops[i]=true:=by
  intro j hj;have hjl:=hpre j hj;refine⟨om,fun x hx=>?_⟩
  have hjm:j∈todoQ k1 k2 listed:=by rw[hsplit];simp[hj]
  obtain⟨j1,j2,j3⟩:=mem_todoQ.1 hjm
  rcases Dcomm i j x _ hik hjl hne j2 hx h3L with h|h
  .
   exfalso
   have:=o9 (L:=ops.toList) (X:=fun k=>listed.getD k false=true) hX i _ h3L hpred j h
   rw[j3] at this;cases this
  exact h
 have hnU : ∀ j,j∈todoQ k1 k2 listed -> ¬ g.U (b+j):=by
  intro j hjm hu;have hjn:=(mem_todoQ.1 hjm).2.2
  rcases hU _ hu with h|⟨k,hk,_,e⟩
  .
   omega
  have:k=j:=by omega
  subst this;rw[hjn] at hk;cases hk
 have hh0:s.h (b+i)=none:=by
  cases hq:s.h (b+i) with
  | none=>rfl
  | some bl =>
   obtain⟨blk,c',q1,_⟩:=hs.mem.blk _ bl hq;exact absurd (hs.mem.used _ (by rw[q1];simp)) (hnU i hmem)
 have hok0:=hok
 rw[<- hfin,hsplit,Zb,YI] at hok0
 have hok1:=rD hok0
 have hokp:(pre.foldl (aJ P (words P) C ops.toList b) s).ok:=by
  unfold aJ at hok1;rw[h3L] at hok1;exact zQ hok1
 have hnam:reader ops[i]=true -> ∀ j∈pre,∀ d∈(aN (ops[i]).op).map s.ev,named (b+j) (sd d)=false:=by
  intro hr j hj d hd;have hsg:sg d=true:=by
   have e:=wE (P:=P) (W:=words P) (C:=C) (L:=ops.toList) (b:=b) (y:=ops[i]) pre s fun k hk x hx=>Aq ((hap k hk).2 x hx)
   have hrun' : ∀ u,aJ P (words P) C ops.toList b u i=bq P (words P) C ops.toList b i ops[i] u:=fun u=>by simp[aJ,hlt]
   rw[hrun',jQ] at hok1;have h2:=hok1.2;obtain⟨r1,r2⟩:=yo hr;simp only[aM,r2,aG,BC r1,Yo,Y6] at h2;have h4:=h2.2.1 trivial;rw[show (aN (ops[i]).op).map (pre.foldl (aJ P (words P) C ops.toList b) s).ev=(aN (ops[i]).op).map s.ev from e] at h4
   exact YO.1 h4 d hd
  cases hq:named (b+j) (sd d) with
  | false=>rfl
  | true =>
   exfalso
   obtain⟨z,_,rfl⟩:=Y0.1 hd;exact hnU j (by rw[hsplit];simp[hj]) (Gp (bC hs z) hsg hq)
 have hrun:aJ P (words P) C ops.toList b s i=bq P (words P) C ops.toList b i ops[i] s:=by simp[aJ,hlt]
 have hfin':(pre++post).foldl (aJ P (words P) C ops.toList b) (bq P (words P) C ops.toList b i ops[i] s)=fin:=by
  rw[<- hrun,<- hfin,hsplit,Zb,Zb,YI,zD h3L pre s hap hnam hh0 hokp]
 have htodo:todoQ k1 k2 (listed.setIfInBounds i true)=pre++post:=by
  have e1:todoQ k1 k2 (listed.setIfInBounds i true)=(todoQ k1 k2 listed).filter (· != i):=by
   unfold todoQ;rw[List.filter_filter];refine Z6 fun k _=>?_
   rw[getD_set (by omega) k]
   by_cases e:k=i
   .
    simp[e]
   have e2:(k==i)=false:=by simpa using e
   have e3:(k != i)=true:=by simpa using e
   rw[e2,e3,ZR,Zt]
  rw[e1,hsplit,List.filter_append,List.filter_cons];have p1:pre.filter (· != i)=pre:=Zz.2 fun j hj=>by have:=hpre j hj;simp;omega
  have p2:post.filter (· != i)=post:=Zz.2 fun j hj=>by have:=hpost j hj;simp;omega
  simp[p1,p2]
 refine zP hs (b:=b) (N:=b+ops.size) (fun h=>?_) (fun r hr=>?_) (show ops[i]? = some ops[i] by simp[hlt]) (rD (by rw[hfin'];exact hok)) fun g' a' w' q1 q2 q3=>?_
 .
  rcases hU _ h with h|⟨k,hk,_,e⟩
  .
   omega
  have:k=i:=by omega
  subst this;rw[h1f] at hk;cases hk
 .
  have hle:=Dle
  rcases hU r hr with h|⟨k,_,h,rfl⟩<;>omega
 refine hK g' a' w' _ q1 q2 (fun r hr=>?_) (by rw[htodo];exact hfin') (by rw[htodo,hsplit];simp)
 rcases q3 r hr with h|rfl
 .
  rcases hU r h with h|⟨k,hk,hks,rfl⟩
  .
   exact .inl h
  exact .inr ⟨k,by rw[getD_set (by omega),hk];rfl,hks,rfl⟩
 exact .inr ⟨i,by rw[getD_set (by omega)];simp,hik,rfl⟩
theorem Be [Glob P] {ops:Array Oper}{k1 k2 b n:Nat}{ro:Option Nat}{Q:Exit->Act->World->Prop}{w0:World}{g0:Mem}{fin:S}(Dle:k2<=ops.size) (Dback : ∀ (i:Nat) o,ops.toList[i]? = some o -> ∀ e∈o.after.toList,Region.binds .any e=true->e.on<i) (Dord : ∀ i,k2<=i->i<ops.size -> ∀ j,j<i->((bF ops.toList []).getD i 0).testBit j=true) (Dcomm : ∀ (i j:Nat) x y,i<k2->j<i->i≠k1->j≠k1->ops.toList[j]? = some x->ops.toList[i]? = some y->((bF ops.toList []).getD i 0).testBit j=true\/iC C ops.toList x y=true) :
  ∀ (fuel:Nat) (listed:Array Bool) (s:S) (g:Mem) (a:Act) (w:World),listed.size=ops.size->(k1<k2->listed.getD k1 false=true)->(∀ j,k2<=j->listed.getD j false=false)->(todoQ k1 k2 listed).length+(ops.size-k2)<=fuel->Closed ops listed ->
   St P B s g a w->Mono g0 g w0 w->(∀ r,g.U r->r<b \/ ∃ j,listed.getD j false=true/\j<k2/\r=b+j)->(todoQ k1 k2 listed).foldl (aJ P (words P) C ops.toList b) s=fin->fin.ok ->
   (∀ g' a' w',St P B fin g' a' w'->Mono g0 g' w0 w'->(∀ r,g'.U r->r<b+k2)->wpOpsIn (Fw ro) n P ops Q (List.range' k2 (ops.size-k2)) a' w') ->
   wpAnyIn (Fw ro) n P .any ops Q fuel listed a w:=by
 intro fuel
 induction fuel with
 | zero =>
  intro listed s g a w hsz hk1 hk2 hfu hX hs hm hU hfin hok hQ;have hnil:todoQ k1 k2 listed=[]:=X5 om;rw[hnil] at hfin;simp only[ZC] at hfin;subst hfin;have hle:=Dle;refine Fa Dback Dord (ops.size-k2) k2 0 listed a w om (XX _) hsz (fun j hj=>?_) om (hQ g a w hs hm fun r hr=>by rcases hU r hr with h|⟨j,_,h,rfl⟩<;>omega)
  by_cases q:j<k2
  .
   rw[YU q]
   by_cases e:j=k1
   .
    rw[e];exact hk1 (by omega)
   cases hl:listed.getD j false with
   | true=>rfl
   | false=>have:=mem_todoQ.2 ⟨q,e,hl⟩;rw[hnil] at this;cases this
  rw[Zc q];exact hk2 j (by omega)
 | succ fuel ih =>
  intro listed s g a w hsz hk1 hk2 hfu hX hs hm hU hfin hok hQ;have hle:=Dle
  cases hnil:todoQ k1 k2 listed with
  | nil =>
   rw[hnil] at hfin;simp only[ZC] at hfin;subst hfin;refine Fa Dback Dord (ops.size-k2) k2 (fuel+1) listed a w om (XX _) hsz (fun j hj=>?_) om (hQ g a w hs hm fun r hr=>by rcases hU r hr with h|⟨j,_,h,rfl⟩<;>omega)
   by_cases q:j<k2
   .
    rw[YU q]
    by_cases e:j=k1
    .
     rw[e];exact hk1 (by omega)
    cases hl:listed.getD j false with
    | true=>rfl
    | false=>have:=mem_todoQ.2 ⟨q,e,hl⟩;rw[hnil] at this;cases this
   rw[Zc q];exact hk2 j (by omega)
  | cons i0 l0 =>
   have hi0:i0∈todoQ k1 k2 listed:=by rw[hnil];simp
   obtain⟨a1,a2,a3⟩:=mem_todoQ.1 hi0;have hsorted:(todoQ k1 k2 listed).Pairwise (· < ·):=Z7 _ ZW;rw[hnil] at hsorted;have hmin:=(Y1.1 hsorted).1;refine⟨fun hr=>?_,fun i hi=>?_⟩
   .
    exfalso
    have:i0∈Region.ready .any ops listed:=(mh hsz).2 ⟨om,a3,fun e he hb=>by
     have hlt:=Dback i0 ops[i0] (by simp) e he hb
     cases hl:listed.getD e.on false with
     | true=>rfl
     | false =>
      have hne:e.on≠k1:=fun q=>by rw[q,hk1 (by omega)] at hl;cases hl
      have:=mem_todoQ.2 ⟨show e.on<k2 by omega,hne,hl⟩
      rw[hnil] at this
      rcases YK.1 this with h|h
      .
       omega
      have:=hmin _ h;omega⟩
    rw[hr] at this;cases this
   obtain⟨hlt,h1f,hpred⟩:=(mh hsz).1 hi;have hik:i<k2:=by
    by_cases q:i<k2
    .
     exact q
    exfalso
    have:=o9 (L:=ops.toList) (X:=fun k=>listed.getD k false=true) hX i ops[i] (by simp[hlt]) hpred i0 (Dord i om hlt i0 om)
    rw[a3] at this;cases this
   have hne:i≠k1:=fun q=>by rw[q,hk1 (by omega)] at h1f;cases h1f
   refine BK Dle Dcomm hsz hX hs hU hfin hok hi hik hne fun g' a' w' s' q1 q2 q3 q4 q5=>?_
   refine ih _ s' g' a' w' (by simp[hsz]) (fun hq=>by rw[getD_set (by omega),hk1 hq];rfl) (fun j hj=>?_) (by omega) (hX.set hsz hi) q1 (hm.trans q2) q3 q4 hok hQ
   rw[getD_set (by omega),hk2 j hj]
   have:(j==i)=false:=by simp;omega
   rw[this];rfl
theorem Gt {ops:Array Oper}{listed:Array Bool}(hsz:listed.size=ops.size) (hback : ∀ (i:Nat) o,ops.toList[i]? = some o -> ∀ e∈o.after.toList,Region.binds .any e=true->e.on<i) (hr:Region.ready .any ops listed=[]) :
  ∀ k,k<ops.size->listed.getD k false=true:=by
 intro k
 induction k using Nat.strongRecOn with
 | _ k ih =>
  intro hk
  cases hl:listed.getD k false with
  | true=>rfl
  | false =>
   exfalso
   have:k∈Region.ready .any ops listed:=(mh hsz).2 ⟨hk,hl,fun e he hb=>by
    have h1:=hback k ops[k] (by simp) e he hb
    exact ih e.on h1 om⟩
   rw[hr] at this;cases this
theorem wD [Glob P] {W:Words}{L:List Oper}{b:Nat}:∀ (l:List Nat) (u:S),(l.foldl (aJ P W C L b) u).n=u.n/\(l.foldl (aJ P W C L b) u).e=u.e:=by
 intro l
 induction l with
 | nil=>intro u;exact⟨rfl,rfl⟩
 | cons k l ih =>
  intro u;simp only[YI];rw[(ih _).1,(ih _).2];unfold aJ
  split
  .
   exact⟨exec1_n.1,by unfold bq;split<;>rfl⟩
  exact⟨rfl,rfl⟩
def uL (P:Program) [Glob P] (f:FuncId) (args:List D) (h:H) (n:Nat) (E:Env) (R:D->H->Nat->Prop):Prop :=
 bT P f=true /\ ∀ (w:World) (g:Mem) (vs:List Value),HM P h g w->(∀ r,g.U r->r<n)->E.p g w->Reps w g args vs ->
  CallsIn Fence.wide 0 P f vs.toArray w fun e w'=>∃ v g' res h' n',R res h' n'/\e = .returned v/\Rep w' g' res v/\HM P h' g' w'/\Mono g g' w w' /\ ∀ r,g'.U r->r<n'
theorem Reps.wkMid {w:World}{g:Mem}{a xs c:List D}{vs:List Value}(h:Reps w g (a++xs++c) vs):Reps w g (a++xs.map DL.wk++c) vs:=by
 refine⟨by simpa using h.1,fun i d x h1 h2=>?_⟩
 rw[Yy] at h1
 by_cases q:i<a.length
 .
  rw[YV q] at h1;exact h.2 i d x (by rw[Yy,YV q];exact h1) h2
 rw[YQ (by omega)] at h1
 by_cases q2:i-a.length<xs.length
 .
  rw[YV (by simpa using q2),YH] at h1
  cases hx:xs[i-a.length]? with
  | none=>rw[hx] at h1;cases h1
  | some y =>
   rw[hx] at h1;simp only[YP,Yg] at h1;subst h1;exact (h.2 i y x (by rw[Yy,YQ (by omega),YV q2];exact hx) h2).wk
 rw[YQ (by simp;omega),Zh] at h1
 exact h.2 i d x (by rw[Yy,YQ (by omega),YQ (by omega)];exact h1) h2
theorem RCt.i [Glob P] {f:FuncId}{a xs c:List D}{h:H}{n:Nat}{R:D->H->Nat->Prop}(k:RCt P f (a++xs.map wk++c) h n R):uL P f (a++xs++c) h n Env.tt R :=
 ⟨k.1,fun w g vs h1 h2 _ h3=>k.2 w g vs h1 h2 h3.wkMid⟩
theorem Od [Glob P] {ops:Array Oper}{k1 k2 b n:Nat}{ro:Option Nat}{Q:Exit->Act->World->Prop}{w0:World}{g0:Mem}{sq:S}(Dc:Ei C ops k1 k2) (hlt1:k1<k2)
  {o1:Oper} {f:Operand} {args:Array Operand} {ts:Array TypeId} {fid:FuncId} {first caps xs:List D} {R:D->H->Nat->Prop}
  (ho:ops[k1]? = some o1) (hop:o1.op = .call { callee:=.value f,args:=args,argTypes:=ts }) (hg:o1.guard=none) (hd:bE sq.n o1.dst=true)
  (hf:sq.ev f = .fn (.func fid) first caps) (hxg:(args.toList.map sq.ev).all sg=true) (hx:(args.toList.map sq.ev).map sd=xs) {E:Env} (hE : ∀ g w,sq.e.p g w->E.p g w) (hct:uL P fid (first++xs++caps) sq.h (b+k2) E R) (hok:sq.ok)
  (hst : ∀ res h' n',R res h' n' -> ∀ (i:Nat) o,i<k2->i≠k1->((bF ops.toList []).getD k1 0).testBit i=false->ops.toList[i]? = some o ->
   aM P (words P) C ops.toList b i o sq.n sq.ev sq.t h'=((aM P (words P) C ops.toList b i o sq.n sq.ev sq.t sq.h).1,h',(aM P (words P) C ops.toList b i o sq.n sq.ev sq.t sq.h).2.2))
  (hQ : ∀ res h' n',R res h' n' -> ∀ g' a' w',St P B { n:=sq.n,t:=sq.put o1.dst res,h:=h',nx:=n'+ops.size,ok:=True,e:=sq.e } g' a' w'->Mono g0 g' w0 w'->(∀ r,g'.U r->r<n'+k2)->wpOpsIn (Fw ro) n P ops Q (List.range' k2 (ops.size-k2)) a' w') :
  ∀ (fuel:Nat) (listed:Array Bool) (s:S) (g:Mem) (a:Act) (w:World),listed.size=ops.size->listed.getD k1 false=false->(∀ j,k2<=j->listed.getD j false=false)->(todoQ k1 k2 listed).length+1+(ops.size-k2)<=fuel->Closed ops listed ->
   St P B s g a w->Mono g0 g w0 w->(∀ r,g.U r->r<b \/ ∃ j,listed.getD j false=true/\j<k2/\r=b+j)->(todoQ k1 k2 listed).foldl (aJ P (words P) C ops.toList b) s=sq ->
   wpAnyIn (Fw ro) n P .any ops Q fuel listed a w:=by
 intro fuel
 have hle:=Dc.le
 induction fuel with
 | zero=>intro listed s g a w hsz hk1 hk2 hfu;omega
 | succ fuel ih =>
  intro listed s g a w hsz hk1 hk2 hfu hX hs hm hU hfin;refine⟨fun hr=>?_,fun i hi=>?_⟩
  .
   exfalso
   have:=Gt hsz Dc.back hr k1 om;rw[hk1] at this;cases this
  obtain⟨hlt,h1f,hpred⟩:=(mh hsz).1 hi;have hik:i<k2:=by
   by_cases q:i<k2
   .
    exact q
   exfalso
   have:=o9 (L:=ops.toList) (X:=fun k=>listed.getD k false=true) hX i ops[i] (by simp[hlt]) hpred k1 (Dc.ord i om hlt k1 om)
   rw[hk1] at this;cases this
  by_cases hne:i=k1
  .
   subst hne;have ho':ops.toList[i]? = some o1:=by rw[Zg];exact ho
   have hoi:ops[i]=o1:=by
    have:ops[i]? = some ops[i]:=by simp[hlt]
    rw[ho] at this;exact (Z8 this).symm
   have hslot : ∀ j∈todoQ i k2 listed,∀ x,ops.toList[j]? = some x->((bF ops.toList []).getD i 0).testBit j=false/\gq ops.toList x o1=true:=by
    intro j hj x hxj;obtain⟨j1,j2,j3⟩:=mem_todoQ.1 hj;have hnb:((bF ops.toList []).getD i 0).testBit j=false:=by
     cases q:((bF ops.toList []).getD i 0).testBit j with
     | false=>rfl
     | true =>
      have:=o9 (L:=ops.toList) (X:=fun k=>listed.getD k false=true) hX i ops[i] (by simp[hlt]) hpred j q
      rw[j3] at this;cases this
    rcases Dc.call j x o1 j1 j2 hxj ho' with h|h
    .
     rw[hnb] at h;cases h
    exact⟨hnb,h⟩
   have hlk:=wE (P:=P) (W:=words P) (C:=C) (L:=ops.toList) (b:=b) (y:=o1) (todoQ i k2 listed) s fun j hj x hxj=>(hslot j hj x hxj).2
   rw[hfin,hop] at hlk;simp only[aN,X8,YN] at hlk;have hsqh:sq.h=s.h:=by
    rw[<- hfin];exact zC _ _ fun j hj o ho=>Dc.quiet j o (mem_todoQ.1 hj).1 (mem_todoQ.1 hj).2.1 (hslot j hj o ho).1 ho
   have hsqn:sq.n=s.n/\sq.e=s.e:=by rw[<- hfin];exact wD _ _
   rw[hsqh] at hct;rw[hlk.2] at hxg hx;have hf':s.ev f = .fn (.func fid) first caps:=by rw[<- hlk.1];exact hf
   have hU1 : ∀ r,g.U r->r<b+k2:=fun r hr=>by rcases hU r hr with h|⟨j,_,h,rfl⟩<;>omega
   unfold wpOpIn;rw[ho];simp only;have hw:Region.wanted o1 (yielded ops a.tmps)=true:=by simp[Region.wanted,hg]
   rw[X4 hw];have hdef : ∀ c,o1.op ≠ .defer c:=by intro c e;rw[e] at hop;cases hop
   have hsem:o1.semAt (Fw ro).round a.eval=execOp a.eval o1:=Oper.semAt_eq _ _ _ hdef;refine⟨fun _ _=>trivial,?_⟩
   rw[hsem];obtain⟨hbd,hct⟩:=hct;have hfr:=bC hs f;rw[hf'] at hfr;have hxr:=nC (mQ hs args.toList) hxg;rw[hx] at hxr;generalize hv:a.eval f=vf at hfr
   cases hfr with|fn _ _ _ fs cs l1 l2 r1 r2 =>
   have hrun:(execOp a.eval o1).run P w = .ok (.enter fid (fs++args.map a.eval++cs)) w:=by
    simp[execOp,hop,resolve,Deferred.ofValue,hv,invoke,mY hbd]
   rw[hrun,Oper.uponIn_enter];have e:fs++args.map a.eval++cs=(fs.toList++args.toList.map a.eval++cs.toList).toArray:=by apply Zo;simp
   rw[e];refine⟨fun h=>by simp[Fw,Fence.wide] at h,qU ((hct w g _ hs.mem hU1 (hE g w (by rw[hsqn.2];exact hs.en)) (Reps.append (Reps.append ⟨by simpa using l1,fun i d x h1 h2=>r1 i d x h1 (by simpa using h2)⟩ hxr) ⟨by simpa using l2,fun i d x h1 h2=>r2 i d x h1 (by simpa using h2)⟩)).mono ?_)⟩
   rintro e w' ⟨v,g',res,h',n',hR,rfl,q1,q2,q3,q4⟩;have hs2:=ic hs q3 q2 (show bE s.n o1.dst=true by rw[<- hsqn.1];exact hd) q1 True
   have htodo:todoQ i k2 (listed.setIfInBounds i true)=todoQ i k2 listed:=by
    unfold todoQ;refine Z6 fun k _=>?_
    rw[getD_set (by omega) k]
    by_cases e:k=i
    .
     simp[e]
    have e2:(k==i)=false:=by simpa using e
    rw[e2,ZR]
   have hsorted:(todoQ i k2 listed).Pairwise (· < ·):=Z7 _ ZW;have hff:=zF (P:=P) (W:=words P) (C:=C) (L:=ops.toList) (b:=b) (b':=n') (m:=n'+ops.size) (d:=o1.dst) (res:=res) (h':=h') (sq:=sq) (todoQ i k2 listed) s hsorted (fun j hj o hoj=>by
    obtain⟨j1,j2,j3⟩:=mem_todoQ.1 hj;obtain⟨k3,k4⟩:=hslot j hj o hoj;refine⟨Dc.quiet j o j1 j2 k3 hoj,fun z hz=>?_,fun m hm hjm y hy=>Dc.late j m o y hjm (mem_todoQ.1 hm).1 j2 (mem_todoQ.1 hm).2.1 hoj hy,hst res h' n' hR j o j1 j2 k3 hoj⟩
    simp only[gq,XV,hz] at k4;refine⟨by simpa using k4.2,fun e=>?_⟩
    have:=k4.1;rw[e] at this
    simp at this) hfin hok
   refine Be (B:=B) (g0:=g0) (w0:=w0) (b:=n') Dc.le Dc.back Dc.ord Dc.comm fuel (listed.setIfInBounds i true) { n:=s.n,t:=s.put o1.dst res,h:=h',nx:=n'+ops.size,ok:=True,e:=s.e } g' _ w' (by simp[hsz]) (fun _=>by rw[getD_set (by omega)];simp) (fun j hj=>?_) (by rw[htodo];omega) (hX.set hsz hi)
    ⟨hs2.sz,hs2.tm,hs2.mem,hs2.df,hs2.en,hs2.bd⟩ (hm.trans q3) (fun r hr=>.inl (q4 r hr)) (by rw[htodo];exact hff) trivial (hQ res h' n' hR)
   rw[getD_set (by omega),hk2 j hj]
   have:(j==i)=false:=by simp;omega
   rw[this];rfl
  refine BK Dc.le Dc.comm hsz hX hs hU hfin hok hi hik hne fun g' a' w' s' q1 q2 q3 q4 q5=>?_
  refine ih _ s' g' a' w' (by simp[hsz]) (by rw[getD_set (by omega),hk1];simp;exact fun h=>hne h.symm) (fun j hj=>?_) (by omega) (hX.set hsz hi) q1 (hm.trans q2) q3 q4
  rw[getD_set (by omega),hk2 j hj]
  have:(j==i)=false:=by simp;omega
  rw[this];rfl
def zZ (C:Con) (L:List Oper) (k1 k2:Nat):Bool :=
 decide (k1<k2)&&decide (k2<=L.length)&&gH L
 && ((List.range L.length).all fun i=>decide (i<k2)||(List.range i).all fun j=>((bF L []).getD i 0).testBit j)
 && ((List.range k2).all fun i=>i==k1||((jZ C (L.getD i default)||((bF L []).getD k1 0).testBit i)&&(((bF L []).getD k1 0).testBit i||gq L (L.getD i default) (L.getD k1 default))
  && (List.range i).all fun j=>j==k1||((bF L []).getD i 0).testBit j||iC C L (L.getD j default) (L.getD i default)))
 && ((List.range k2).all fun j=>j==k1||(List.range (j+1)).all fun i=>i==k1||match (L.getD j default).dst with
  | none=>true
  | some d=>!(looks L (L.getD i default)).contains d)
theorem VM {ops:Array Oper}{k1 k2:Nat}(h:zZ C ops.toList k1 k2=true):k1<k2/\Ei C ops k1 k2:=by
 unfold zZ at h
 simp only[XV,XW] at h
 obtain⟨⟨⟨⟨⟨h1,h2⟩,h3⟩,h4⟩,h5⟩,h6⟩:=h
 have hat : ∀ (i:Nat) o,ops.toList[i]? = some o->ops.toList.getD i default=o:=fun i o ho=>by simp only[List.getD,ho,YS]
 simp only[YO,Zq,Yc,XV,YF,XW] at h4 h5 h6
 refine⟨h1,by simpa using h2,?_,?_,?_,?_,?_,?_⟩
 .
  intro i o ho e he hb;unfold gH at h3;simp only[YO,Zq,Yc,Yd,XW] at h3;have:=h3 i (X7.1 ho).1 e (by rw[hat i o ho];exact he)
  rcases this with h|h
  .
   rw[hb] at h;cases h
  exact h
 .
  intro i hi hs j hj
  rcases h4 i (by simpa using hs) with h|h
  .
   omega
  exact h j hj
 .
  intro i o hi hne hnb ho
  rcases h5 i hi with h|h
  .
   exact absurd h hne
  have:=h.1.1;rw[hat i o ho,hnb] at this;exact this.resolve_right (by simp)
 .
  intro i j x y hi hj hne hnj hx hy
  rcases h5 i hi with h|h
  .
   exact absurd h hne
  rcases h.2 j hj with (h|h)|h
  .
   exact absurd h hnj
  .
   exact .inl h
  rw[hat j x hx,hat i y hy] at h;exact .inr h
 .
  intro i x y hi hne hx hy
  rcases h5 i hi with h|h
  .
   exact absurd h hne
  have:=h.1.2;rw[hat i x hx,hat k1 y hy] at this;exact this
 intro i j x y hij hj hne hnj hx hy z hz e
 rcases h6 j hj with h|h
 .
  exact absurd h hnj
 rcases h i om with h|h
 .
  exact absurd h hne
 rw[hat i x hx,hat j y hy,e] at h
 simp at h
 exact h hz
theorem VA [Glob P] {ro:Option Nat}{Q:Exit->S->Prop}{s sq:S}{id:Nat}{ops:Array Oper}(k1 k2:Nat) {o1:Oper}{f:Operand}{args:Array Operand}{ts:Array TypeId}{fid:FuncId}{first caps xs:List D}{E:Env}(R:D->H->Nat->Prop)
  (hmix:P.follows .mixedOrders=true) (hD:zZ C ops.toList k1 k2=true) (ho:ops[k1]? = some o1) (hop:o1.op = .call { callee:=.value f,args:=args,argTypes:=ts }) (hg:o1.guard=none)
  (hfin:((List.range k2).filter (· != k1)).foldl (aJ P (words P) C ops.toList s.nx) s=sq) (hok:sq.ok) (hd:bE sq.n o1.dst=true)
  (hf:sq.ev f = .fn (.func fid) first caps) (hxg:(args.toList.map sq.ev).all sg=true) (hx:(args.toList.map sq.ev).map sd=xs) (hE : ∀ g w,sq.e.p g w->E.p g w) (hct:uL P fid (first++xs++caps) sq.h (s.nx+k2) E R)
  (hst : ∀ res h' n',R res h' n' -> ∀ (i:Nat) o,i<k2->i≠k1->((bF ops.toList []).getD k1 0).testBit i=false->ops.toList[i]? = some o ->
   aM P (words P) C ops.toList s.nx i o sq.n sq.ev sq.t h'=((aM P (words P) C ops.toList s.nx i o sq.n sq.ev sq.t sq.h).1,h',(aM P (words P) C ops.toList s.nx i o sq.n sq.ev sq.t sq.h).2.2))
  (hk : ∀ res h' n',R res h' n'->au P ro ops k2 n' { n:=sq.n,t:=sq.put o1.dst res,h:=h',nx:=n'+ops.size,ok:=True,e:=sq.e } Q):DW P ro (.region id ops true) Q s:=by
 intro B g a w hs hU
 refine wpIn_region_any hmix ?_
 obtain⟨hs1,hm1⟩:=zV hs
 obtain⟨hlt,Dc⟩:=VM hD
 have hle:=Dc.le
 have hrep : ∀ i,(Array.replicate ops.size false).getD i false=false:=by
  intro i
  by_cases h:i<ops.size<;>simp[Array.getD,h]
 have htodo:todoQ k1 k2 (Array.replicate ops.size false)=(List.range k2).filter (· != k1):=by
  unfold todoQ;exact Z6 fun i _=>by rw[hrep];simp
 have hlen:(todoQ k1 k2 (Array.replicate ops.size false)).length<k2:=by
  rw[htodo];have:=(List.length_filter_lt_length_iff_exists (p:=fun x=>x != k1) (l:=List.range k2)).2 ⟨k1,by simpa using hlt,by simp⟩
  simpa using this
 have hse:sq.e=s.e:=by rw[<- hfin];exact (wD _ _).2
 refine Od (B:=B) (C:=C) (g0:=g) (w0:=w) (b:=s.nx) (n:=0) Dc hlt ho hop hg hd hf hxg hx hE hct hok hst (fun res h' n' hR g' a' w' q1 q2 q3=>?_) ops.size _ s g a _ (by simp) (hrep k1) (fun j _=>hrep j) (by omega) (fun i o _ hi=>by rw[hrep] at hi;cases hi) hs1 hm1 (fun r hr=>.inl (hU r hr)) (by rw[htodo];exact hfin)
 have:=hk res h' n' hR B g g' a' w w' q1 q2 q3
 simp only[hse] at this
 exact this
theorem Ur [Glob P] {t:TypeId}{x ix:D}{h h':H}(hn : ∀ r,named r x=true->h' r=h r):fI P t x ix h'=fI P t x ix h:=by
 unfold fI
 cases aX P t with
 | none=>rfl
 | some e =>
  cases x with
  | mrow r off len =>
   have:=hn r (by simp[named])
   cases ix with
   | v y=>cases y<;>first|rfl|simp only[this]
   | _=>rfl
  | list f rows =>
   cases ix with
   | v y=>cases y<;>rfl
   | _=>rfl
  | _=>cases ix<;>rfl
theorem yI [Glob P] {W:Words}{L:List Oper}{b i:Nat}{o:Oper}{ev:Operand->D}{t:Nat->D}{n:Nat}{h h':H}(hg:o.guard=none)
  (hq:aS C o.op = .none\/(match o.op with | .load .. | .indexAddr .. => True|_=>False) /\ ∀ d∈(aN o.op).map ev,∀ r,named r (sd d)=true->h' r=h r) :
  aM P W C L b i o n ev t h'=((aM P W C L b i o n ev t h).1,h',(aM P W C L b i o n ev t h).2.2):=by
 rcases hq with hq|⟨hc,hn⟩
 .
  exact BX hq
 cases ho:o.op with
 | load ty x =>
  rw[ho] at hn;have:=hn (ev x) (by simp[aN])
  simp only[aM,hg,aG,ho,cu,Yo,Y6,aN,X8,Yu,aK,still,lK,Ta this]
 | indexAddr ty x y =>
  rw[ho] at hn;have:=hn (ev x) (by simp[aN])
  simp only[aM,hg,aG,ho,cu,Yo,Y6,aN,X8,Yu,aK,still,Ur this]
 | _=>rw[ho] at hc;exact hc.elim
theorem QB {k1 k2:Nat}(h:k1<k2):(List.range k2).filter (· != k1)=List.range' 0 k1++List.range' (k1+1) (k2-(k1+1)):=by
 have e:List.range k2=List.range' 0 k1++(k1::List.range' (k1+1) (k2-(k1+1))):=by
  rw[Y7];have:k2=k1+((k2-(k1+1))+1):=by omega
  conv=>lhs;rw[this]
  rw[<- Zi,Y3]
  simp
 rw[e,List.filter_append,List.filter_cons]
 have p1:(List.range' 0 k1).filter (· != k1)=List.range' 0 k1:=Zz.2 fun j hj=>by simp[List.mem_range'] at hj;simp;omega
 have p2:(List.range' (k1+1) (k2-(k1+1))).filter (· != k1)=List.range' (k1+1) (k2-(k1+1)):=Zz.2 fun j hj=>by simp[List.mem_range'] at hj;simp;omega
 simp[p1,p2]
theorem BL [Glob P] {W:Words}{ops:Array Oper}{b k1 k2:Nat}{s s1 sq:S}(h1:k1<k2) (h2:k2<=ops.toList.length) (he1:aH P W C ops.toList b 0 (ops.toList.take k1) s=s1)
  (he2:aH P W C ops.toList b (k1+1) ((ops.toList.drop (k1+1)).take (k2-(k1+1))) s1=sq):((List.range k2).filter (· != k1)).foldl (aJ P W C ops.toList b) s=sq:=by
 rw[QB h1,Zb,<- zM k1 0 s (by omega),<- zM (k2-(k1+1)) (k1+1) _ (by omega)]
 simp only[X9,he1,he2]
def z8 (C:Con) (L:List Oper) (k2:Nat):Bool :=
 decide (k2<=L.length)&&gH L
 && ((List.range L.length).all fun i=>decide (i<k2)||(List.range i).all fun j=>((bF L []).getD i 0).testBit j)
 && ((List.range k2).all fun i=>jZ C (L.getD i default)&&(List.range i).all fun j=>((bF L []).getD i 0).testBit j||gq L (L.getD j default) (L.getD i default))
 && ((List.range k2).all fun j=>(List.range (j+1)).all fun i=>match (L.getD j default).dst with
  | none=>true
  | some d=>!(looks L (L.getD i default)).contains d)
theorem VL {ops:Array Oper}{k2:Nat}(h:z8 C ops.toList k2=true):Ei C ops k2 k2:=by
 unfold z8 at h
 simp only[XV,XW] at h
 obtain⟨⟨⟨⟨h2,h3⟩,h4⟩,h5⟩,h6⟩:=h
 have hat : ∀ (i:Nat) o,ops.toList[i]? = some o->ops.toList.getD i default=o:=fun i o ho=>by simp only[List.getD,ho,YS]
 simp only[YO,Zq,Yc,XV,XW] at h4 h5 h6
 have hord : ∀ i,k2<=i->i<ops.size -> ∀ j,j<i->((bF ops.toList []).getD i 0).testBit j=true:=by
  intro i hi hs j hj
  rcases h4 i (by simpa using hs) with h|h
  .
   omega
  exact h j hj
 refine⟨by simpa using h2,?_,hord,?_,?_,?_,?_⟩
 .
  intro i o ho e he hb;unfold gH at h3;simp only[YO,Zq,Yc,Yd,XW] at h3;have:=h3 i (X7.1 ho).1 e (by rw[hat i o ho];exact he)
  rcases this with h|h
  .
   rw[hb] at h;cases h
  exact h
 .
  intro i o hi hne _ ho;have:=(h5 i hi).1;rw[hat i o ho] at this;exact this
 .
  intro i j x y hi hj hne hnj hx hy
  rcases (h5 i hi).2 j hj with h|h
  .
   exact .inl h
  have q1:=(h5 i hi).1;have q2:=(h5 j (by omega)).1
  rw[hat i y hy] at q1;rw[hat j x hx] at q2;rw[hat j x hx,hat i y hy] at h;refine .inr ?_;unfold iC;rw[QJ q2 q1 h];rfl
 .
  intro i x y hi hne hx hy;have hlt:=(X7.1 hy).1;exact .inl (hord k2 (XX _) (by simpa using hlt) i hi)
 intro i j x y hij hj hne hnj hx hy z hz e
 have h:=h6 j hj i (by omega)
 rw[hat i x hx,hat j y hy,e] at h
 simp at h
 exact h hz
theorem VB [Glob P] {ro:Option Nat}{Q:Exit->S->Prop}{s sq:S}{id:Nat}{ops:Array Oper}(k2:Nat) (hmix:P.follows .mixedOrders=true) (hD:z8 C ops.toList k2=true)
  (hfin:aH P (words P) C ops.toList s.nx 0 (ops.toList.take k2) s=sq) (hok:sq.ok)
  (hk:au P ro ops k2 s.nx { n:=sq.n,t:=sq.t,h:=sq.h,nx:=s.nx+ops.size,ok:=True,e:=sq.e } Q):DW P ro (.region id ops true) Q s:=by
 intro B g a w hs hU
 refine wpIn_region_any hmix ?_
 obtain⟨hs1,hm1⟩:=zV hs
 have Dc:=VL hD
 have hle:=Dc.le
 have hrep : ∀ i,(Array.replicate ops.size false).getD i false=false:=by
  intro i
  by_cases h:i<ops.size<;>simp[Array.getD,h]
 have htodo:todoQ k2 k2 (Array.replicate ops.size false)=List.range' 0 k2:=by
  unfold todoQ;rw[Zz.2 (fun i hi=>by have:=Zq.1 hi;rw[hrep];simp;omega),Y7]
 have hfold:(List.range' 0 k2).foldl (aJ P (words P) C ops.toList s.nx) s=sq:=by
  rw[<- hfin,<- zM k2 0 s (by simpa using hle)]
  rfl
 have hse:sq.e=s.e:=by rw[<- hfold];exact (wD _ _).2
 refine Be (B:=B) (C:=C) (g0:=g) (w0:=w) (b:=s.nx) (n:=0) Dc.le Dc.back Dc.ord Dc.comm ops.size _ s g a _ (by simp) (fun h=>absurd h (Nat.lt_irrefl _)) (fun j _=>hrep j) (by rw[htodo];simp;omega) (fun i o _ hi=>by rw[hrep] at hi;cases hi) hs1 hm1 (fun r hr=>.inl (hU r hr)) (by rw[htodo];exact hfold) hok (fun g' a' w' q1 q2 q3=>?_)
 have:=hk B g g' a' w w' ⟨q1.sz,q1.tm,q1.mem,q1.df,q1.en,q1.bd⟩ q2 q3
 simp only[hse] at this
 exact this
end Go.DL
namespace Go.DL
open Go.RowKit
variable {P : Program} {ro : Option Nat} {Q : Exit -> S -> Prop}
def zI (C:Con) (L:List Oper) (k1 k2:Nat) (fl:List (Nat×Nat)):Bool:=(List.range k2).all fun i=>i==k1||((bF L []).getD k1 0).testBit i||((L.getD i default).guard.isNone&&(aS C (L.getD i default).op == .none||fl.any fun p=>p.1==i&&match (L.getD i default).op with
 | .load _ (.tmp t)=>t==p.2
 | .indexAddr _ (.tmp t) (.tmp u)=>t==p.2&&fl.any fun q=>q.1==i&&u==q.2
 | _=>false))
theorem Kq [Glob P] {C:Con}{L:List Oper}{k1 k2:Nat}{fl:List (Nat×Nat)}(h:zI C L k1 k2 fl=true) {h':H}{sq:S}{b:Nat}(hk : ∀ p∈fl,∀ r,named r (sd (sq.t p.2))=true->h' r=sq.h r) (i:Nat) (o:Oper) (hi:i<k2) (hne:i≠k1) (hb:((bF L []).getD k1 0).testBit i=false) (ho:L[i]? = some o) :
  aM P (words P) C L b i o sq.n sq.ev sq.t h'=((aM P (words P) C L b i o sq.n sq.ev sq.t sq.h).1,h',(aM P (words P) C L b i o sq.n sq.ev sq.t sq.h).2.2):=by
 have hat:L.getD i default=o:=by simp only[List.getD,ho,YS]
 unfold zI at h
 have h1:=YO.1 h i (Zq.2 hi)
 rw[hat,hb] at h1
 simp only[ZR,Yc,YF,XV,List.any_eq_true] at h1
 rcases h1 with h1|⟨hg,h1|⟨p,hp,h2,h3⟩⟩
 .
  exact absurd h1 hne
 .
  exact yI (Y9.1 hg) (.inl h1)
 refine yI (Y9.1 hg) (.inr ?_)
 cases hop:o.op with
 | load ty x =>
  rw[hop] at h3
  cases x with
  | tmp t =>
   simp only[YF] at h3;subst h3;refine⟨trivial,fun d hd r hr=>?_⟩
   simp only[aN,X8,Yu,Yp] at hd;subst hd;exact hk p hp r hr
  | _=>simp at h3
 | indexAddr ty x y =>
  rw[hop] at h3
  cases x with
  | tmp t =>
   cases y with
   | tmp u =>
    simp only[YF,XV,List.any_eq_true] at h3;obtain⟨h3,p2,hp2,h4,h5⟩:=h3;subst h3;subst h5;refine⟨trivial,fun d hd r hr=>?_⟩
    simp only[aN,X8,Yu,YK,ZJ,or_false] at hd
    rcases hd with rfl|rfl
    .
     exact hk p hp r hr
    exact hk p2 hp2 r hr
   | _=>simp at h3
  | _=>simp at h3
 | _=>rw[hop] at h3;simp at h3
section
variable [Glob P] (C : Con) {s s1 sq : S} {id : Nat} {ops : Array Oper} {o : Oper} {i b : Nat} {x y : Code}
theorem kN (h:au P ro ops 0 s.nx { n:=s.n,t:=s.t,h:=s.h,nx:=s.nx+ops.size,ok:=True,e:=s.e } Q):DW P ro (.region id ops false) Q s:=uw h
theorem bf (h:au P ro ops 0 s.nx { n:=s.n,t:=s.t,h:=s.h,nx:=s.nx+ops.size,ok:=True,e:=s.e } (thenS (DW P ro y Q) Q)):DW P ro (.seq (.region id ops false) y) Q s:=ae (uw h)
theorem dr0 (k2:Nat) (hk:au P ro ops k2 s.nx { n:=sq.n,t:=sq.t,h:=sq.h,nx:=s.nx+ops.size,ok:=True,e:=sq.e } Q) (hmix:P.follows .mixedOrders=true:=by exact jL) (hD:z8 C ops.toList k2=true:=by kernel_rfl)
  (hfin:aH P (words P) C ops.toList s.nx 0 (ops.toList.take k2) s=sq:=by simp only[Ya,Yj,go_sem,ff];first|done|exact rfl) (hok:sq.ok:=by (try simp only[go_sem,ff]);all_goals exact ok0):DW P ro (.region id ops true) Q s:=VB k2 hmix hD hfin hok hk
theorem KV (k1 k2:Nat) (fl:List (Nat×Nat)) {o1:Oper}{f:Operand}{args:Array Operand}{ts:Array TypeId}{fid:FuncId}{first caps xs:List D}{R:D->H->Nat->Prop}{E:Env}
  (hmix:P.follows .mixedOrders=true:=by exact jL) (hD:zZ C ops.toList k1 k2=true:=by kernel_rfl) (hfl:zI C ops.toList k1 k2 fl=true:=by kernel_rfl) (ho:ops[k1]? = some o1:=by exact bM rfl) (hop:o1.op = .call { callee:=.value f,args:=args,argTypes:=ts }:=by exact rfl) (hg:o1.guard=none:=by exact rfl)
  (hfin:((List.range k2).filter (· != k1)).foldl (aJ P (words P) C ops.toList s.nx) s=sq:=by exact BL (by decide) (by decide) (by simp only[Yf,X9,Ya,Yj,S.put,YB,Nat.reduceSub,Nat.reduceAdd,go_sem,ff];exact rfl) (by simp only[Yf,X9,Ya,Yj,S.put,YB,Nat.reduceSub,Nat.reduceAdd,go_sem,ff];exact rfl)) (hok:sq.ok:=by (try simp only[go_sem,ff]);all_goals exact ok0) (hd:bE sq.n o1.dst=true:=by (try simp only[go_sem,ff]);all_goals (first|done|rfl|decide|simp))
  (hf:sq.ev f = .fn (.func fid) first caps:=by simp only[go_sem,ff];first|done|exact rfl) (hxg:(args.toList.map sq.ev).all sg=true:=by simp only[go_sem,ff]) (hx:(args.toList.map sq.ev).map sd=xs:=by simp only[go_sem,ff];first|done|exact rfl)
  (hE : ∀ g w,sq.e.p g w->E.p g w) (hct:uL P fid (first++xs++caps) sq.h (s.nx+k2) E R)
  (hkeep : ∀ res h' n',R res h' n' -> ∀ p∈fl,∀ r,named r (sd (sq.t p.2))=true->h' r=sq.h r)
  (hk : ∀ res h' n',R res h' n'->au P ro ops k2 n' { n:=sq.n,t:=sq.put o1.dst res,h:=h',nx:=n'+ops.size,ok:=True,e:=sq.e } Q):DW P ro (.region id ops true) Q s :=
 (VA k1 k2 R hmix hD ho hop hg hfin hok hd hf hxg hx hE hct (fun res h' n' hr i o hi hne hb ho=>Kq hfl (hkeep res h' n' hr) i o hi hne hb ho) hk)
theorem aO {s2:S}(hq:Q .normal s2.clear) (hi:i<=ops.size:=by first|decide|simp) (he:aH P (words P) C ops.toList b i (ops.toList.drop i) s=s2:=by simp only[Yf,X9,S.put,go_sem,ff];first|done|exact rfl) (hok:s2.ok:=by (try simp only[go_sem,ff]);all_goals exact ok0) (hn:s.nx=b+ops.size:=by rfl):au P ro ops i b s Q:=tL hi he hok hn hq
end
section
variable [Glob P] (C : Con) {s s1 : S} {ops : Array Oper} {i b : Nat} {o : Oper} (k : Nat)
theorem zo {x:Operand}{d:D}{t:TypeId}{v:Value}(hq:Q (.panic [{ v:=.iface t v,recovered:=false }]) { n:=s1.n,t:=s1.t,h:=s1.h,nx:=b+k,ok:=True,e:=s1.e }) (hv : ∀ (w:World) (g:Mem) u,Rep w g d u->u = .iface t v)
  (hik:i<=k:=by omega) (ho:ops[k]? = some o:=by exact bM rfl) (hop:o.op = .panic x:=by exact rfl) (hg:o.guard=none:=by exact rfl)
  (he:aH P (words P) C ops.toList b i ((ops.toList.drop i).take (k-i)) s=s1:=by simp only[Yf,X9,Ya,Yj,S.put,YB,Nat.reduceSub,go_sem,ff];first|done|exact rfl) (hok:s1.ok:=by (try simp only[go_sem,ff]);all_goals exact ok0) (hx:s1.ev x=d:=by simp only[go_sem,ff];first|done|exact rfl):au P ro ops i b s Q:=Ph k hik ho hop hg he hok hx hv hq
theorem De {t u e:TypeId}{x y:Operand}{r off len r2 off2 len2:Nat}(m:Nat) {rows rows2:List (List D)}(hk:au P ro ops (k+1) b { n:=s1.n,t:=s1.put o.dst (.i m),h:=upd s1.h r (some ⟨e,rows.take off++(rows2.drop off2).take m++rows.drop (off+m)⟩),nx:=s1.nx,ok:=True,e:=s1.e } Q)
  (z9:dB P C ops i k o b s s1:=by exact pos) (hop:o.op = .call { callee:=.builtin .copy,args:=#[x,y],argTypes:=#[t,u] }:=by exact rfl) (ht:P.underlying t=some (.slice e):=by kernel_rfl)
  (hx:s1.ev x = .mrow r off len:=by simp only[go_sem,ff];first|done|exact rfl) (hy:s1.ev y = .mrow r2 off2 len2:=by simp only[go_sem,ff];first|done|exact rfl) (hr:s1.h r=some ⟨e,rows⟩:=by simp only[go_sem,ff];first|done|exact rfl) (hr2:s1.h r2=some ⟨e,rows2⟩:=by simp only[go_sem,ff];first|done|exact rfl) (hm:m=min len2 len:=by first|omega|(simp;done)|(simp;omega)) (h0:0<m:=by first|omega|(simp;done)|(simp;omega)) (hlo:off<=rows.length:=by first|omega|(simp;done)|(simp;omega)) (hl:off2+m<=rows2.length:=by first|omega|(simp;done)|(simp;omega)):au P ro ops i b s Q:=Pq k m z9 hop ht hx hy hr hr2 hm h0 hlo hl hk
theorem JX {t e:TypeId}{x:Operand}{r off len:Nat}{rows:List (List D)}(hk : ∀ c:Nat,len<=c->c<=maxLen->au P ro ops (k+1) b { n:=s1.n,t:=s1.put o.dst (.i c),h:=s1.h,nx:=s1.nx,ok:=True,e:=Env.lim s1.e r (off+c) } Q)
  (z9:dB P C ops i k o b s s1:=by exact pos) (hop:o.op = .call { callee:=.builtin .cap,args:=#[x],argTypes:=#[t] }:=by exact rfl) (ht:P.underlying t=some (.slice e):=by kernel_rfl)
  (hx:s1.ev x = .mrow r off len:=by simp only[go_sem,ff];first|done|exact rfl) (hr:s1.h r=some ⟨e,rows⟩:=by simp only[go_sem,ff];first|done|exact rfl):au P ro ops i b s Q:=Pw k z9 hop ht hx hr hk
theorem JL {t e:TypeId}{x hi:Operand}{r off len c:Nat}{E:Env}(m:Nat) {rows:List (List D)}(hE:s1.e=Env.lim E r c) (hc:off+m<=c) (hk:au P ro ops (k+1) b { n:=s1.n,t:=s1.put o.dst (.mrow r off m),h:=s1.h,nx:=s1.nx,ok:=True,e:=s1.e } Q)
  (z9:dB P C ops i k o b s s1:=by exact pos) (hop:o.op = .slice t x none (some hi) none:=by exact rfl) (ht:P.underlying t=some (.slice e):=by kernel_rfl)
  (hx:s1.ev x = .mrow r off len:=by simp only[go_sem,ff];first|done|exact rfl) (hh:s1.ev hi = .i m:=by simp only[go_sem,ff];first|done|exact rfl) (hr:s1.h r=some ⟨e,rows⟩:=by simp only[go_sem,ff];first|done|exact rfl) (h0:0<m:=by first|omega|(simp;done)|(simp;omega)) (hl:off<rows.length:=by first|omega|(simp;done)|(simp;omega)):au P ro ops i b s Q:=Pg k z9 hop ht hx hh hr hE hc h0 hl hk
end
end Go.DL
namespace Go.DL
open Go.RowKit
variable {P : Program} {ro : Option Nat} {Q : Exit -> S -> Prop}
def wX (P:Program) (K:World->Prop):List Deferred->World->Prop
 | [],w=>K w
 | d::ds,w=>∃ r w',d.target = .collected r/\(Instr.takeDeferred r).run P w = .ok [] w'/\wX P K ds w'
theorem SF {K:World->Prop}{B:Nat}{g:Mem}:∀ (ds:List Deferred) (w:World),Marks B g ds w ->
  (∀ w',w'.drawn=w.drawn->w'.os=w.os->w'.tape=w.tape->w'.output=w.output->w'.heap.size=w.heap.size->(∀ k:Nat,k<B->w'.heap[k]? = w.heap[k]?)->(∀ k:Nat,g.I k->w'.heap[k]? = w.heap[k]?)->(∀ (k:Nat) o,w.heap[k]? = some o->wV o->w'.heap[k]? = w.heap[k]?)->K w') ->
  wX P K ds w:=by
 intro ds
 induction ds with
 | nil =>
  intro w _ h;exact h w rfl rfl rfl rfl rfl (fun _ _=>rfl) (fun _ _=>rfl) (fun _ _ _ _=>rfl)
 | cons d ds ih =>
  rintro w ⟨⟨D,h1,h2,h3,h4,h5⟩,h6⟩ h;refine⟨D,w.putObj D (.deferred none),h1,run_takeDeferred h2,?_⟩;have hne : ∀ k,k≠D->(w.putObj D (.deferred none)).heap[k]? = w.heap[k]? := fun k hk=>World.putObj_heap_other hk
  have hms : ∀ ds:List Deferred,(∀ d'∈ds,d'.target ≠ .collected D)->Marks B g ds w->Marks B g ds (w.putObj D (.deferred none)):=by
   intro ds
   induction ds with
   | nil=>intro _ _;trivial
   | cons e ds ihd =>
    rintro hds ⟨⟨D',k1,k2,k3,k4,k5⟩,k6⟩;refine⟨⟨D',k1,?_,k3,k4,k5⟩,ihd (fun d' hd'=>hds d' (by simp[hd'])) k6⟩
    rw[hne D' (fun e'=>by subst e';exact hds e (by simp) k1)]
    exact k2
  refine ih _ (hms ds h3 h6) fun w' e0 e1 e2 e3 e4 e5 e6 e7=>?_
  refine h w' (by rw[e0];rfl) (by rw[e1];rfl) (by rw[e2];rfl) (by rw[e3];rfl) (by rw[e4];simp) (fun k hk=>?_) (fun k hk=>?_) (fun k o hk ho=>?_)
  .
   rw[e5 k hk,hne k (by omega)]
  .
   rw[e6 k hk,hne k (fun e=>by subst e;exact h5 hk)]
  have:k≠D:=fun e'=>by subst e';rw[h2] at hk;cases hk;exact ho
  rw[e7 k o (by rw[hne k this];exact hk) ho,hne k this]
theorem IL {F:Fence}{n:Nat}{K:World->Prop}:∀ (ds:List Deferred) (w:World) (fr:Frame) (cs:List Frame),fr.mode ≠ .run->fr.defers=ds->F.fn fr.fn->F.room (cs.length+1+n)->wX P K ds w ->
  ∃ w',K w'/\StepsIn (Machine.fenced P F) P (lone fr cs w) (lone { fr with defers:=[] } cs w'):=by
 intro ds
 induction ds with
 | nil =>
  intro w fr cs hm hd hb hr h;refine⟨w,h,?_⟩;have:({ fr with defers:=[] }:Frame)=fr:=by cases fr;simp only at hd;subst hd;rfl
  rw[this];exact .refl _
 | cons d ds ih =>
  intro w fr cs hm hd hb hr ⟨r,w',htar,htake,hrest⟩;have h1:=step_collected (cs:=cs) hm hd htar htake;have i1:(lone fr cs w).fenced P F:=fenced_out hb hr hm hd (fun g hg=>by rw[htar] at hg;simp[Target.leads] at hg)
  obtain⟨w2,hk,hs⟩:=ih w' { fr with defers:=[]++ds } cs hm rfl hb hr hrest
  exact⟨w2,hk,StepsIn.trans (.one i1 h1) hs⟩
def L6 (P:Program) (fn:Func) (c₀:Frame) (cs:List Frame) (R:Ending->FrameMode->World->Prop):Exit->Act->List Frame->World->Prop
 | .normal,a,cs',w | .ret,a,cs',w=>∃ u',cs'={ c₀ with mode:=u' }::cs/\wX P (fun w2=>∃ v,(results fn a.tmps).run P w2 = .ok v w2/\R (.returned v) u' w2) a.defers w
 | _,_,_,_=>False
theorem WO {F:Fence}{n:Nat}{f:FuncId}{fn:Func}{c:Code}{args:Array Value}{u:FrameMode}{w:World}{R:Ending->FrameMode->World->Prop}
  (hf:P.funcs[f]? = some fn) (hb:fn.body=some c) (hF:F.fn f)
  (h : ∀ (c₀:Frame) (cs:List Frame),c₀.mode=u ->
   c.wpSIn F n P (L6 P fn c₀ cs R) { tmps:=args++Array.replicate (fn.ntmps-args.size) undef,defers:=[] } (c₀::cs) w) :
  CallsDIn F n P f args u w R:=by
 refine⟨hF,fun c₀ cs hu hroom=>?_⟩
 let b:Frame:={ (default:Frame) with fn:=f,kind:=.deferred,roundOf:=none }
 have henter:Frame.enter P f args .deferred =
   b.atR { tmps:=args++Array.replicate (fn.ntmps-args.size) undef,defers:=[] } [.code c]:=by
  simp[Frame.enter,Frame.atR,hf,hb,b]
 obtain⟨e,a',cs',w',hl,hq,harr⟩:=h c₀ cs hu b [] rfl rfl hF hroom
 rw[<- henter] at harr
 cases e with
 | normal =>
  obtain⟨u',rfl,hm⟩:=hq;obtain⟨w2,⟨v,hr,hR⟩,hs⟩:=IL (F:=F) (n:=n) a'.defers w' { b.atR a' [] with mode:=.returning } ({ c₀ with mode:=u' }::cs) (by simp) rfl hF hroom hm
  exact⟨.returned v,u',w2,_,hR,StepsIn.trans (StepsIn.trans harr (.one (fenced_calm (fr:=b.atR a' []) hF hroom rfl) (stepR_end rfl))) hs,rfl,rfl,rfl,rfl,fn,hf,hr⟩
 | ret =>
  obtain⟨u',rfl,hm⟩:=hq;obtain⟨todo,hs₀⟩:=harr.1 rfl;obtain⟨w2,⟨v,hr,hR⟩,hs⟩:=IL (F:=F) (n:=n) a'.defers w' { b.atR a' todo with mode:=.returning } ({ c₀ with mode:=u' }::cs) (by simp) rfl hF hroom hm
  exact⟨.returned v,u',w2,_,hR,StepsIn.trans hs₀ hs,rfl,rfl,rfl,rfl,fn,hf,hr⟩
 | _=>exact hq.elim
theorem Na {F:Fence}{n:Nat}{Q:Exit->Act->List Frame->World->Prop}{a:Act}{cs cs1:List Frame}{w:World}{id:Nat}{ops:Array Oper}{o:Oper}{v:Value}(hro:F.round=none) (ho:ops[0]? = some o) (hg:o.guard=none)
  (habout : ∀ f,o.about P w a.eval=some f->F.fn f) (hrun:(execOp a.eval o).run P w = .ok .recover w) (hlen:cs1.length=cs.length) (hrec:recoverD cs=some (v,cs1)\/recoverD cs=none/\v = .nilIface/\cs1=cs)
  (h:wpOpsIn F n P ops (fun e a' w'=>Q e a' cs1 w') (List.range' 1 (ops.size-1)) (a.put o.dst v) w):(Code.region id ops false).wpSIn F n P Q a cs w:=by
 intro b k hb hr hF hroom
 have hlt:0<ops.size:=(Yl.1 ho).1
 have hrange:List.range ops.size=0::List.range' 1 (ops.size-1):=by
  rw[Y7];have:ops.size=(ops.size-1)+1:=by omega
  conv=>lhs;rw[this]
  rw[Y3]
 have hw:Region.wanted o (yielded ops a.tmps)=true:=by simp[Region.wanted,hg]
 have h0:(lone (b.atR a (.inRegion ops (0::List.range' 1 (ops.size-1))::k)) cs w).fenced P F:=fenced_oper hF hroom ho habout
 have hgs:=stepGR_op (P:=P) (b:=b) (k:=k) (cs:=cs) (w:=w) (a:=a) (rest:=List.range' 1 (ops.size-1)) ho hw
 rw[hr,Oper.semAt_none] at hgs
 have hfin : ∀ v,(b.atR a (.inRegion ops (0::List.range' 1 (ops.size-1))::k)).finish v=b.atR (a.put o.dst v) (.inRegion ops (List.range' 1 (ops.size-1))::k):=by
  intro v;rw[Frame.finish_atR,ho];rfl
 have hk:(b.atR a (.inRegion ops (0::List.range' 1 (ops.size-1))::k)).kind = .deferred:=hb
 have htr:=tryRecover_deferred hk cs
 have hstep:step P (lone (b.atR a (.inRegion ops (0::List.range' 1 (ops.size-1))::k)) cs w) = .next (lone (b.atR (a.put o.dst v) (.inRegion ops (List.range' 1 (ops.size-1))::k)) cs1 w):=by
  refine step_lone_go ?_;rw[hgs,<- hfin];simp only[Frame.atR,hr] at htr ⊢
  rcases hrec with hrec|⟨hrec,rfl,rfl⟩
  .
   simp[stepG.apply,hrun,htr,hrec]
  simp[stepG.apply,hrun,htr,hrec]
 obtain⟨e,a',w',hq,harr⟩:=wp_opsIn _ _ w h b k cs1 (hr.trans hro.symm) hF (by rw[hlen];exact hroom)
 refine⟨e,a',cs1,w',hlen,hq,.of_steps (.head (fenced_calm hF hroom rfl) stepR_region ?_) harr⟩
 rw[hrange]
 exact .one h0 hstep
def Eh (P:Program) [Glob P] (fn:Func) (R:H->Nat->Prop) (e:Exit) (s:S):Prop:=match e with
 | .normal | .ret=>iY P s fn.results.toList /\ ∃ h' n',(∀ r,h' r=s.h r\/h' r=none)/\s.nx<=n'/\R h' n'
 | _=>False
theorem wK [Glob P] {f:FuncId}{fn:Func}{args:List D}{h:H}{n:Nat}{u u':FrameMode}{R:H->Nat->Prop}{id:Nat}{ops:Array Oper}{y:Code}{o:Oper}{ts:Array TypeId}{d:D}{v:Value}
  (hf:P.funcs[f]? = some fn) (hb:fn.body=some (.seq (.region id ops false) y)) (hbd:bT P f=true) (hn:args.length<=fn.ntmps) (ho:ops[0]? = some o) (hg:o.guard=none) (hop:o.op = .call { callee:=.builtin .recover,args:=#[],argTypes:=ts }) (hd:bE fn.ntmps o.dst=true)
  (hu:(u = .returning/\u' = .returning/\v = .nilIface)\/(u = .panicking [{ v:=v,recovered:=false }]/\u' = .panicking [{ v:=v,recovered:=true }])) (hv : ∀ (w:World) (g:Mem),Rep w g d v)
  (hw:(∀ r,n<=r->h r=none)->au P none ops 1 n { n:=fn.ntmps,t:=S.put { n:=fn.ntmps,t:=fun i=>args.getD i .junk,h:=h,nx:=n+ops.size } o.dst d,h:=h,nx:=n+ops.size } (thenS (DW P none y (Eh P fn R)) (Eh P fn R))):sV P f args h n u u' R:=by
 refine⟨hbd,fun w g vs hm hU hr=>WO (F:=Fence.wide) hf hb trivial fun c₀ cs hc₀=>wpSIn_seq ?_⟩
 have hs0:=qy (P:=P) (n:=fn.ntmps) hr hn hm (nx:=n+ops.size)
 have hs1:St P (Bot.of w.heap.size) { n:=fn.ntmps,t:=S.put { n:=fn.ntmps,t:=fun i=>args.getD i .junk,h:=h,nx:=n+ops.size } o.dst d,h:=h,nx:=n+ops.size } g (Act.put { tmps:=vs.toArray++Array.replicate (fn.ntmps-vs.toArray.size) undef,defers:=[] } o.dst v) w :=
  ic hs0 (Mono.refl _ _) hs0.mem hd (hv w g) True
 have hseg:=hw (uj hm hU) (Bot.of w.heap.size) g g _ w w hs1 (Mono.refl _ _) (fun r hr=>by have:=hU r hr;omega)
 have hlen:({ c₀ with mode:=u' }::cs).length=(c₀::cs).length:=rfl
 have hrecd:recoverD (c₀::cs)=some (v,{ c₀ with mode:=u' }::cs)\/recoverD (c₀::cs)=none/\v = .nilIface/\({ c₀ with mode:=u' }::cs:List Frame)=c₀::cs:=by
  rcases hu with⟨hu1,hu2,hv0⟩|⟨hu1,hu2⟩
  .
   right
   refine⟨by simp[recoverD,hc₀,hu1],hv0,?_⟩
   have:({ c₀ with mode:=u' }:Frame)=c₀:=by cases c₀;simp only at hc₀;subst hc₀;rw[hu1,hu2]
   rw[this]
  left
  simp[recoverD,hc₀,hu1,hu2]
 refine Na (F:=Fence.wide) rfl ho hg (fun _ _=>trivial) (by simp[execOp,hop,resolve,invoke,builtin]) hlen hrecd ?_
 have fin : ∀ (e:Exit) (a':Act) (w':World) (s':S) (g':Mem),Eh P fn R e s'->St P (Bot.of w.heap.size) s' g' a' w'->Mono g g' w w'->(∀ r,g'.U r->r<s'.nx) ->
   L6 P fn c₀ cs (fun e u2 w'=>∃ v g' h' n',e = .returned v/\u2=u'/\HM P h' g' w'/\Mono g g' w w'/\(∀ r,g'.U r->r<n')/\R h' n') e a' ({ c₀ with mode:=u' }::cs) w':=by
  intro e a' w' s' g' hq hs' hm' hU';have key:(iY P s' fn.results.toList /\ ∃ h' n',(∀ r,h' r=s'.h r\/h' r=none)/\s'.nx<=n'/\R h' n')->wX P (fun w2=>∃ v,(results fn a'.tmps).run P w2 = .ok v w2 /\ ∃ v2 g' h' n',Ending.returned v = .returned v2/\u'=u'/\HM P h' g' w2/\Mono g g' w w2/\(∀ r,g'.U r->r<n')/\R h' n') a'.defers w':=by
   rintro⟨hro,h4,n4,k1,k2,k3⟩;obtain⟨ms,hms,hmk⟩:=hs'.df;have hms:a'.defers=ms:=by rw[hms];simp[Bot.of]
   rw[hms];refine SF (P:=P) ms w' hmk fun w2 e0 e1 e2 e3 e4 e5 e6 e7=>?_
   have hs2:=hs'.marks e4 e6 e7;have mono2:Mono g g' w w2:=by
    refine⟨by rw[e1,hm'.os],by rw[e2,hm'.tape],by rw[e3,hm'.output],by rw[e4];exact hm'.size,by rw[e0];exact hm'.drawn,hm'.U,hm'.M,hm'.new,hm'.I,hm'.inew,fun k hk hne=>?_⟩
    rw[e5 k hk];exact hm'.same k hk hne
   have hs3:St P (Bot.of w.heap.size) { s' with e:=Env.tt } g' { a' with defers:=[] } w2:=⟨hs2.sz,hs2.tm,hs2.mem,Dfs.start (B:=Bot.of w.heap.size),trivial,hs2.bd⟩
   obtain⟨v3,p1,p2⟩:=tX (fn:=fn) hs3 hro;exact⟨v3,p1,v3,g'.only h4,h4,n4,rfl,rfl,hs3.mem.only k1,mono2.trans only_mono,fun r hr=>Yz (hU' r hr) k2,k3⟩
  cases e with
  | normal=>exact⟨u',rfl,key hq⟩
  | ret=>exact⟨u',rfl,key hq⟩
  | _=>exact hq.elim
 refine uU (F:=Fence.wide) ?_ _ _ _ hseg
 rintro e a' w' ⟨s',g',hq,hs',hm',hU',hx'⟩
 have hm':Mono g g' w w':=hm'.out
 cases e with
 | normal =>
  refine wpSIn_of_wpIn rfl (wpIn_mono (F:=Fence.wide) (hq (Bot.of w.heap.size) g' a' w' hs' hU') ?_);rintro e2 a2 w2 ⟨s2,g2,hq2,hs2,hm2,hU2,hx2⟩;have hx3:s'.e.x=none:=by rw[hx'];rfl
  rw[hx3] at hm2;exact fin e2 a2 w2 s2 g2 hq2 hs2 (hm'.trans hm2.out) hU2
 | ret=>exact fin .ret a' w' s' g' hq hs' hm' hU'
 | _=>exact hq.elim
section
variable [Glob P] {C : Con} {s s1 : S} {ops : Array Oper} {i b : Nat} {o : Oper}
end
end Go.DL
namespace Go.DL
open Go.RowKit
variable {P : Program} {ro : Option Nat} {Q : Exit -> S -> Prop}
theorem Wx [Glob P] {h:H}{g:Mem}{w:World}(hm:HM P h g w) {t u e:TypeId}{r off len:Nat}{rows:List (List D)}{y:D}{vx vy:Value}(ht:P.underlying t=some (.slice e)) (hr:h r=some ⟨e,rows⟩)
  (hx:Rep w g (.mrow r off len) vx) (hy:Rep w g y vy) (hl:(rowsOf y h).length=aU y) (hs:gM P u h y=true) (hrl : ∀ q∈rowsOf y h,q.length=P.cellsOf e) (h0:0<aU y) (hk:aU y<=len) (ho:off<=rows.length) (ty:TypeId) :
  ∃ g' w',(Builtin.copy_ #[t,u] ty #[vx,vy]).run P w = .ok (.int .i64 (aU y:Nat)) w'/\HM P (upd h r (some ⟨e,rows.take off++rowsOf y h++rows.drop (off+aU y)⟩)) g' w'/\Mono g g' w w' /\ ∀ q,g'.U q->g.U q:=by
 obtain⟨blk,c,h1,h2,h3,h4,h5⟩:=hm.blk r _ hr
 simp only at h1 h2 h3
 obtain⟨news,r1,l1,f1,_⟩:=vw hm hy h2 hl hrl hs
 cases hx with|mrow _ _ _ _ hxx hU hvv =>
 obtain⟨p1,p2⟩:=hvv _ _ _ h1
 rcases p2 with⟨e0,a,rfl⟩|⟨e0,b,rfl,rfl⟩
 .
  obtain⟨a',c',e1,e2,_⟩:=hxx
  cases e1
  omega
 obtain⟨cur,c1,c2,c3⟩:=AB hm (off:=off) hr h1 p1.2 r1 ho (by rw[hl];exact Yb (Nat.add_le_add_left hk _) p1.1)
 obtain⟨g',q1,q2,q3,q4,q5⟩:=c3 _ rfl
 rw[hl] at q3
 have hst:=run_storeCells_at P b (off*P.cellsOf e) e news 0 cur w c1 (by simpa using c2) r1.one
 simp only[Zu] at hst
 have hmin:Nat.min (aU y) len=aU y:=ZM hk
 refine⟨g',_,?_,q3,q4,q5⟩
 simp[Builtin.copy_,run_underlying ht,l1,jX h2,hmin,f1,hst,goInt]
theorem Po [Glob P] {C:Con}{s s1:S}{ops:Array Oper}{i b:Nat}(k:Nat) {o:Oper}{t u e:TypeId}{x y:Operand}{r off len m:Nat}{yd:D}{rows news:List (List D)}(z9:dB P C ops i k o b s s1)
  (hop:o.op = .call { callee:=.builtin .copy,args:=#[x,y],argTypes:=#[t,u] }) (ht:P.underlying t=some (.slice e))
  (hx:s1.ev x = .mrow r off len) (hy:s1.ev y=yd) (hr:s1.h r=some ⟨e,rows⟩)
  (hnw:rowsOf yd s1.h=news) (hm:aU yd=m) (hl:news.length=m) (hs:gM P u s1.h yd=true) (hrl : ∀ q∈news,q.length=P.cellsOf e) (h0:0<m) (hml:m<=len) (hlo:off<=rows.length)
  (hk:au P ro ops (k+1) b { n:=s1.n,t:=s1.put o.dst (.i m),h:=upd s1.h r (some ⟨e,rows.take off++news++rows.drop (off+m)⟩),nx:=s1.nx,ok:=True,e:=s1.e } Q):au P ro ops i b s Q:=by
 obtain⟨hik,ho,hg,he,hok,hd⟩:=z9
 subst hy
 subst hnw
 subst hm
 refine jB (C:=C) k (fun d h'=>d = .i (aU (s1.ev y):Nat)/\h'=upd s1.h r (some ⟨e,rows.take off++rowsOf (s1.ev y) s1.h++rows.drop (off+aU (s1.ev y))⟩)) hik ho hg (fun c e=>by rw[hop] at e;cases e) he hok hd (fun B g a w hst _=>?_) (fun d h' ⟨hy,hh⟩=>by subst hy;subst hh;exact hk)
 have hv:=bC hst x
 rw[hx] at hv
 obtain⟨g',w',q1,q2,q3,q4⟩:=Wx (u:=u) hst.mem ht hr hv (bC hst y) hl hs hrl h0 hml hlo o.type
 refine⟨_,_,⟨rfl,rfl⟩,_,g',w',.inl ?_,.v _,q2,q3,fun r hr=>.inl (q4 r hr)⟩
 obtain⟨od,oo,oty,op,oa,og⟩:=o
 simp only at hop
 subst hop
 simp[Go.BigFrame.execOp_builtin,Go.BigFrame.builtin_copy,q1]
def CU:D->Bool
 | .list _ _ | .mrow _ _ _=>true
 | _=>false
theorem T9 {w:World}{g:Mem}{x:D}{v:Value}(h:CU x=true) (hr:Rep w g x v):∃ a c,v = .slice a (aU x) c:=by
 cases hr with
 | empty full a cap=>exact⟨a,cap,rfl⟩
 | list full rows ad cap=>exact⟨some ad,cap,rfl⟩
 | mrow r off len v hx=>obtain⟨a,c,e,_⟩:=hx;exact⟨a,c,e⟩
 | _=>cases h
theorem Pp [Glob P] {C:Con}{s s1:S}{ops:Array Oper}{i b:Nat}(k:Nat) {o:Oper}{t u e:TypeId}{x y:Operand}{xd yd:D}(z9:dB P C ops i k o b s s1)
  (hop:o.op = .call { callee:=.builtin .copy,args:=#[x,y],argTypes:=#[t,u] }) (ht:P.underlying t=some (.slice e)) (hp:0<P.cellsOf e)
  (hx:s1.ev x=xd) (hy:s1.ev y=yd) (hxs:CU xd=true)
  (hm:aU yd=0) (hl:(rowsOf yd s1.h).length=0) (hs:gM P u s1.h yd=true)
  (hk:au P ro ops (k+1) b { n:=s1.n,t:=s1.put o.dst (.i 0),h:=s1.h,nx:=s1.nx,ok:=True,e:=s1.e } Q):au P ro ops i b s Q:=by
 obtain⟨hik,ho,hg,he,hok,hd⟩:=z9
 subst hx
 subst hy
 refine jB (C:=C) k (fun d h'=>d = .i 0/\h'=s1.h) hik ho hg (fun c e=>by rw[hop] at e;cases e) he hok hd (fun B g a w hst _=>?_) (fun d h' ⟨hy,hh⟩=>by subst hy;subst hh;exact hk)
 have hnil:rowsOf (s1.ev y) s1.h=[]:=X5 hl
 obtain⟨ad,c,hv⟩:=T9 hxs (bC hst x)
 obtain⟨news,r1,l1,f1,_⟩:=vw hst.mem (bC hst y) hp (by rw[hl,hm]) (by rw[hnil];intro q hq;cases hq) hs
 rw[hm] at l1 f1
 have hnews:news=[]:=by
  have:=r1.1;rw[hnil] at this;exact X5 (by simpa using this)
 subst hnews
 have hf:=f1 w rfl
 have hrun:(Builtin.copy_ #[t,u] o.type #[a.eval x,a.eval y]).run P w = .ok (.int .i64 0) w:=by
  rw[hv];have hmin:Nat.min 0 (aU (s1.ev x))=0:=Nat.zero_min _
  cases ad<;>simp[Builtin.copy_,run_underlying ht,l1,jX hp,hmin,hf,goInt,storeCells]
 refine⟨_,_,⟨rfl,rfl⟩,_,g,w,.inl ?_,.v _,hst.mem,Mono.refl _ _,fun r hr=>.inl hr⟩
 obtain⟨od,oo,oty,op,oa,og⟩:=o
 simp only at hop
 subst hop
 simp[Go.BigFrame.execOp_builtin,Go.BigFrame.builtin_copy,hrun]
theorem NM [Glob P] {h:H}{g:Mem}{w:World}(hm:HM P h g w) {e:TypeId}{r off len i:Nat}{rows:List (List D)}{x:D}{va vs vx:Value}(hr:h r=some ⟨e,rows⟩) (hs:Rep w g (.mrow r off len) vs) (ha:Rep w g (.mptr r i 0) va) (hx:Rep w g x vx)
  (hi:i=rows.length) (hl:i<off+len) (hc:x.cells.length=P.cellsOf e) (h1:x.cells.all D.one=true) :
  ∃ g' w',(Instr.storeAt e va vx).run P w = .ok () w'/\HM P (upd h r (some ⟨e,rows++[x.cells]⟩)) g' w'/\Mono g g' w w' /\ ∀ q,g'.U q->g.U q:=by
 obtain⟨blk,c,p1,p2,p3,p4,p5⟩:=hm.blk r _ hr
 simp only at p1 p2 p3
 cases hs with|mrow _ _ _ _ hxx hU hvv =>
 obtain⟨q1,q2⟩:=hvv _ _ _ p1
 cases ha with|mptr _ _ _ _ hax _ hv =>
 obtain⟨hcm,b,rfl,rfl⟩:=hv _ _ _ p1
 obtain⟨k1,k2,k3⟩:=hx.cells h1
 have r1:RowsIn w g (P.cellsOf e) [x.cells] vx.cells.toList:=by
  refine⟨by simp[k3,hc],fun j row hj=>?_⟩
  cases j with
  | succ j=>simp at hj
  | zero =>
   simp at hj
   subst hj;refine⟨hc,fun j d hd=>?_⟩
   have hjl:j<vx.cells.toList.length:=by rw[<- k1.1];exact (X7.1 hd).1
   exact⟨vx.cells.toList[j],by simp[hjl],k2 _ (by simp),k1.2 j d _ hd (by simp[hjl])⟩
 obtain⟨cur,c1,c2,c3⟩:=AB hm (off:=i) hr p1 hcm r1 om (by simp;omega)
 obtain⟨g',q1',q2',q3',q4',q5'⟩:=c3 _ rfl
 have hrows:rows.take i++[x.cells]++rows.drop (i+[x.cells].length)=rows++[x.cells]:=by
  rw[hi,YA,YT (by simp),YE]
 rw[hrows] at q3'
 have hst:=run_storeCells_at P b (i*P.cellsOf e) e vx.cells.toList 0 cur w c1 (by simpa using c2) k2
 simp only[Zu] at hst
 refine⟨g',_,?_,q3',q4',q5'⟩
 have hq3:vx.cells.size=P.cellsOf e:=by simpa [hc] using k3
 simp[Instr.storeAt,Instr.sureAddr,storeVar,jX p2,hq3,hst]
theorem Pd [Glob P] {C:Con}{s s1:S}{ops:Array Oper}{i b:Nat}(k:Nat) {o:Oper}{e:TypeId}{x y z:Operand}{r off len n:Nat}{rows:List (List D)}{yd:D}(z9:dB P C ops i k o b s s1)
  (hop:o.op = .store e x y) (hx:s1.ev x = .mptr r n 0) (hy:s1.ev y=yd) (hz:s1.ev z = .mrow r off len) (hr:s1.h r=some ⟨e,rows⟩)
  (hn:n=rows.length) (hl:n<off+len) (hc:yd.cells.length=P.cellsOf e) (h1:yd.cells.all D.one=true)
  (hk:au P ro ops (k+1) b { n:=s1.n,t:=s1.put o.dst (.v undef),h:=upd s1.h r (some ⟨e,rows++[yd.cells]⟩),nx:=s1.nx,ok:=True,e:=s1.e } Q):au P ro ops i b s Q:=by
 obtain⟨hik,ho,hg,he,hok,hd⟩:=z9
 subst hy
 refine jB (C:=C) k (fun d h'=>d = .v undef/\h'=upd s1.h r (some ⟨e,rows++[(s1.ev y).cells]⟩)) hik ho hg (fun c e=>by rw[hop] at e;cases e) he hok hd (fun B g a w hst _=>?_) (fun d h' ⟨hy,hh⟩=>by subst hy;subst hh;exact hk)
 have hv:=bC hst z
 rw[hz] at hv
 have hp:=bC hst x
 rw[hx] at hp
 obtain⟨g',w',q1,q2,q3,q4⟩:=NM hst.mem hr hv hp (bC hst y) hn hl hc h1
 refine⟨_,_,⟨rfl,rfl⟩,undef,g',w',.inr ⟨?_,rfl⟩,.v _,q2,q3,fun r hr=>.inl (q4 r hr)⟩
 obtain⟨od,oo,oty,op,oa,og⟩:=o
 simp only at hop
 subst hop
 simp[execOp,q1]
theorem tK [Glob P] {C:Con}{s s1:S}{ops:Array Oper}{i b:Nat}(k:Nat) {o:Oper}(d:D) (v:Value) (hik:i<=k) (ho:ops[k]? = some o) (hg:o.guard=none) (hdef : ∀ c,o.op ≠ .defer c)
  (he:aH P (words P) C ops.toList b i ((ops.toList.drop i).take (k-i)) s=s1) (hok:s1.ok) (hd:bE s1.n o.dst=true)
  (hrun : ∀ (B:Bot) (g:Mem) (a:Act) (w:World),St P B s1 g a w->(execOp a.eval o).run P w = .ok (.value v) w/\Rep w g d v)
  (hk:au P ro ops (k+1) b { n:=s1.n,t:=s1.put o.dst d,h:=s1.h,nx:=s1.nx,ok:=True,e:=s1.e } Q):au P ro ops i b s Q :=
 jB (C:=C) k (fun d' h'=>d'=d/\h'=s1.h) hik ho hg hdef he hok hd (fun B g a w hst _=>by
  obtain⟨h1,h2⟩:=hrun B g a w hst;exact⟨_,_,⟨rfl,rfl⟩,v,g,w,.inl h1,h2,hst.mem,Mono.refl _ _,fun r hr=>.inl hr⟩) (fun d' h' ⟨hy,hh⟩=>by subst hy;subst hh;exact hk)
theorem Ps [Glob P] {C:Con}{s s1:S}{ops:Array Oper}{i b:Nat}(k:Nat) {o:Oper}{t e:TypeId}{x:Operand}(z9:dB P C ops i k o b s s1)
  (hop:o.op = .call { callee:=.builtin .cap,args:=#[x],argTypes:=#[t] }) (ht:P.underlying t=some (.slice e))
  (hx:s1.ev x = .list true [])
  (hk:au P ro ops (k+1) b { n:=s1.n,t:=s1.put o.dst (.i 0),h:=s1.h,nx:=s1.nx,ok:=True,e:=s1.e } Q):au P ro ops i b s Q:=by
 obtain⟨hik,ho,hg,he,hok,hd⟩:=z9
 refine tK (C:=C) k (.i 0) (.int .i64 0) hik ho hg (fun c e=>by rw[hop] at e;cases e) he hok hd (fun B g a w hst=>?_) hk
 have hv:=bC hst x
 rw[hx] at hv
 obtain⟨ad,hv'⟩:∃ ad,a.eval x = .slice ad 0 0:=by
  generalize a.eval x=v at hv
  cases hv with
  | empty full ad cap hf hm=>have:=hf rfl;subst this;exact⟨ad,rfl⟩
  | list full rows ad cap sz cv hI hlc hf hmx=>have:=hf rfl;subst this;exact⟨some ad,rfl⟩
 refine⟨?_,.v _⟩
 obtain⟨od,oo,oty,op,oa,og⟩:=o
 simp only at hop
 subst hop
 simp[Go.BigFrame.execOp_builtin,Go.BigFrame.builtin_cap,hv',Builtin.cap_,run_underlying ht,goInt]
theorem Pk [Glob P] {C:Con}{s s1:S}{ops:Array Oper}{i b:Nat}(k:Nat) {o:Oper}{t e:TypeId}{x:Operand}{r off len:Nat}(z9:dB P C ops i k o b s s1)
  {t':TypeId} (hop:o.op = .binOp .eql t x (.const (.slice none 0 0)) t') (ht:P.underlying t=some (.slice e))
  (hx:s1.ev x = .mrow r off len) (h0:0<len)
  (hk:au P ro ops (k+1) b { n:=s1.n,t:=s1.put o.dst (.b false),h:=s1.h,nx:=s1.nx,ok:=True,e:=s1.e } Q):au P ro ops i b s Q:=by
 obtain⟨hik,ho,hg,he,hok,hd⟩:=z9
 refine tK (C:=C) k (.b false) (.bool false) hik ho hg (fun c e=>by rw[hop] at e;cases e) he hok hd (fun B g a w hst=>?_) hk
 have hv:=bC hst x
 rw[hx] at hv
 obtain⟨ad,c,hv',hp⟩:∃ ad c,a.eval x = .slice (some ad) len c/\True:=by
  generalize a.eval x=v at hv
  cases hv with|mrow _ _ _ _ hxx hU hvv =>
  obtain⟨a',c',e1,e2,e3⟩:=hxx;obtain⟨p,rfl⟩:=e3 h0;exact⟨p,c',e1,trivial⟩
 have hrun:=Go.Lib.run_eql_slice_nil (P:=P) w t e (some ad) len c 0 0 ht
 have hc:a.eval (.const (.slice none 0 0)) = .slice none 0 0:=rfl
 refine⟨?_,.v _⟩
 obtain⟨od,oo,oty,op,oa,og⟩:=o
 simp only at hop
 subst hop
 simp[execOp,hv',hc,eqGuard,hrun]
def Env.both (E F:Env):Env:=⟨fun g w=>E.p g w/\F.p g w,E.x,fun P _ h g g' w w' hm k ⟨h1,h2⟩=>⟨E.st P h g g' w w' hm k h1,F.st P h g g' w w' hm k h2⟩⟩
def Env.capLt (r k:Nat):Env where
 p:=fun g w=>g.U r /\ ∀ blk c sz,g.M r=some (blk,c,sz)->c<k
 x:=none
 st:=fun P _ h g g' w w' hm q ⟨h2,h3⟩=>⟨q.U r h2,fun blk c' sz he=>by
  rcases q.M r h2 with e|e
  .
   exact h3 blk c' sz (e ▸ he)
  .
   rw[e] at he;cases he⟩
def RCtE (P:Program) [Glob P] (f:FuncId) (args:List D) (h:H) (n:Nat) (E:Env) (R:D->H->Nat->Env->Prop):Prop :=
 bT P f=true /\ ∀ (w:World) (g:Mem) (vs:List Value),HM P h g w->(∀ r,g.U r->r<n)->E.p g w->Reps w g args vs ->
  CallsIn Fence.wide 0 P f vs.toArray w fun e w'=>∃ v g' res h' n' E',R res h' n' E'/\e = .returned v/\Rep w' g' res v/\HM P h' g' w'/\Mono g g' w w'/\(∀ r,g'.U r->r<n')/\E'.p g' w'
theorem Qy [Glob P] {f:FuncId}{fn:Func}{c:Code}{args:List D}{h:H}{n:Nat}{E:Env}{R:D->H->Nat->Env->Prop}(hEx:E.x=none) (hf:P.funcs[f]? = some fn) (hb:fn.body=some c) (hbd:bT P f=true) (hn:args.length<=fn.ntmps)
  (hw:(∀ r,n<=r->h r=none)->DW P none c (fun e s=>(e = .normal\/e = .ret)/\iY P s fn.results.toList /\ ∃ h' n',(∀ r,h' r=s.h r\/h' r=none)/\s.nx<=n' /\ ∃ E':Env,(∀ g w w2,s.e.p g w->E'.p g w2)/\R (jF P fn.results.toList s) h' n' E') { n:=fn.ntmps,t:=fun i=>args.getD i .junk,h:=h,nx:=n,e:=E }):RCtE P f args h n E R:=by
 refine⟨hbd,fun w g vs hm hU hE hr=>?_⟩
 have hs:=qy (P:=P) (n:=fn.ntmps) hr hn hm (nx:=n)
 have hs:St P (Bot.of w.heap.size) { n:=fn.ntmps,t:=fun i=>args.getD i .junk,h:=h,nx:=n,e:=E } g _ w:=⟨hs.sz,hs.tm,hs.mem,hs.df,hE,hs.bd⟩
 refine callsIn_of_wp_marks (n:=0) hf hb trivial (wpIn_mono (F:=Fence.wide) (hw (uj hm hU) (Bot.of w.heap.size) g _ w hs hU) ?_)
 rintro e a' w' ⟨s',g',⟨he,ho,h',n',hh,hn',E',hE',hR⟩,hs',hm',hU',hx'⟩
 rw[show ({ n:=fn.ntmps,t:=fun i=>args.getD i .junk,h:=h,nx:=n,e:=E }:S).e.x=none from hEx] at hm'
 have hm':=hm'.out
 have hlast:LeavesInM Fence.wide 0 P fn a'.tmps (fun e w'=>∃ v g' res h' n' E',R res h' n' E'/\e = .returned v/\Rep w' g' res v/\HM P h' g' w'/\Mono g g' w w'/\(∀ r,g'.U r->r<n')/\E'.p g' w') a'.defers .returning w':=by
  refine yZ (P:=P) a'.defers w' hs'.df.marks fun w2 e0 e1 e2 e3 e4 e5 e6 e7=>?_
  have hs2:=hs'.marks e4 e6 e7;obtain⟨v,h1,h2⟩:=tX (fn:=fn) hs2 ho;have mono2:Mono g g' w w2:=by
   refine⟨by rw[e1,hm'.os],by rw[e2,hm'.tape],by rw[e3,hm'.output],by rw[e4];exact hm'.size,by rw[e0];exact hm'.drawn,hm'.U,hm'.M,hm'.new,hm'.I,hm'.inew,fun k hk hne=>?_⟩
   rw[e5 k hk];exact hm'.same k hk hne
  exact⟨v,h1,v,g'.only h',_,h',n',E',hR,rfl,h2.only,hs2.mem.only hh,mono2.trans only_mono,fun r hr=>Yz (hU' r hr) hn',E'.st P _ _ _ _ _ hs2.mem only_mono (hE' _ _ _ hs'.en)⟩
 rcases he with rfl|rfl<;>exact hlast
theorem Qx [Glob P] {C:Con}{f:FuncId}{fn:Func}{args:List D}{h:H}{n:Nat}{E:Env}{R:D->H->Nat->Prop}{id0:Nat}{ops0:Array Oper}{id:Nat}{ops:Array Oper}{y:Code}(hEx:E.x=none) (k:Nat) {o:Oper}{fop:Operand}{ts:Array TypeId}{fid:FuncId}{caps:List D}{s0 s1:S}
  (hf:P.funcs[f]? = some fn) (hb:fn.body=some (.seq (.region id0 ops0 false) (.seq (.region id ops false) y))) (hbd:bT P f=true) (hn:args.length<=fn.ntmps)
  (hgn0 : ∀ o∈ops0.toList,o.guard=none) (he0:aH P (words P) C ops0.toList n 0 ops0.toList { n:=fn.ntmps,t:=fun i=>args.getD i .junk,h:=h,nx:=n+ops0.size,e:=Env.tt }=s0) (hok0:s0.ok)
  (ho:ops[k]? = some o) (hg:o.guard=none) (hop:o.op = .defer { callee:=.value fop,args:=#[],argTypes:=ts }) (hgn : ∀ o∈ops.toList.take k,o.guard=none)
  (he:aH P (words P) C ops.toList (n+ops0.size) 0 (ops.toList.take k) { n:=s0.n,t:=s0.t,h:=s0.h,nx:=n+ops0.size+ops.size,e:=E }=s1) (hok:s1.ok) (hd:bE s1.n o.dst=true) (hfv:s1.ev fop = .fn (.func fid) [] caps)
  (hw:(∀ r,n<=r->h r=none)->au P none ops (k+1) (n+ops0.size) { n:=s1.n,t:=s1.put o.dst .junk,h:=s1.h,nx:=s1.nx,ok:=True,e:=s1.e } (thenS (DW P none y (sU P fn fid caps R)) (sU P fn fid caps R))):RCtE P f args h n E (fun d h' n' E'=>E'=Env.tt/\R d h' n'):=by
 refine⟨hbd,fun w g vs hm hU hE hr=>?_⟩
 refine CallsIn.mono (callsIn_of_wp_marks (R:=fun e w'=>∃ v g' res h' n',R res h' n'/\e = .returned v/\Rep w' g' res v/\HM P h' g' w'/\Mono g g' w w' /\ ∀ r,g'.U r->r<n') (n:=0) hf hb trivial (wpIn_seq (wpIn_region ?_))) (fun e w' ⟨v,g',res,h',n',q1,q2,q3,q4,q5,q6⟩=>⟨v,g',res,h',n',Env.tt,⟨rfl,q1⟩,q2,q3,q4,q5,q6,trivial⟩)
 have hs:=qy (P:=P) (n:=fn.ntmps) hr hn hm (nx:=n+ops0.size)
 have hrg:List.range ops0.size=List.range' 0 ops0.size++[]:=by rw[YE,Y7]
 rw[hrg]
 have e0:(ops0.toList.drop 0).take ops0.size=ops0.toList:=by rw[X9];exact Yq (by simp)
 refine Dp (ro:=none) (C:=C) (b:=n) ops0.size 0 _ g _ w hs (Mono.refl _ _) (fun r hr=>by have:=hU r hr;omega) (by omega) (by rw[e0];exact hgn0) (by rw[e0];exact he0 ▸ hok0) fun g1 a1 w1 hs1 hm1 hU1 hdf=>?_
 rw[e0] at hs1
 have hs1:St P (Bot.of w.heap.size) s0 g1 a1 w1:=he0 ▸ hs1
 have hnx:s0.nx=n+ops0.size:=by rw[<- he0];exact Dq _ _ _ _ _
 rw[<- hnx] at he hw
 exact Le (C:=C) (E:=E) k ho hg hop hgn hEx (Env.later hm hm1 hE) he hok hd hfv (hw (uj hm hU)) hs1 hm1 (fun r hr=>by rw[hnx];have:=hU1 r hr;omega) hdf
section
variable [Glob P] {C : Con} {s s1 : S} {ops : Array Oper} {i b : Nat}
theorem Px (k:Nat) {o:Oper}{f:Operand}{args:Array Operand}{ts:Array TypeId}{fid:FuncId}{first caps xs:List D}{E:Env}(R:D->H->Nat->Env->Prop) (hik:i<=k)
  (ho:ops[k]? = some o) (hop:o.op = .call { callee:=.value f,args:=args,argTypes:=ts }) (hg:o.guard=none)
  (he:aH P (words P) C ops.toList b i ((ops.toList.drop i).take (k-i)) s=s1) (hok:s1.ok) (hd:bE s1.n o.dst=true)
  (hf:s1.ev f = .fn (.func fid) first caps) (hxg:(args.toList.map s1.ev).all sg=true) (hx:(args.toList.map s1.ev).map sd=xs) (hct:RCtE P fid (first++xs++caps) s1.h (b+k) E R) (hE : ∀ g w,s1.e.p g w->E.p g w)
  (hk : ∀ res h' n' E',R res h' n' E'->au P ro ops (k+1) n' { n:=s1.n,t:=s1.put o.dst res,h:=h',nx:=n'+ops.size,ok:=True,e:=Env.both s1.e E' } Q):au P ro ops i b s Q:=by
 intro B g0 g a w0 w hs hm hU
 have hlt:k<ops.size:=(Yl.1 ho).1
 have hr:List.range' i (ops.size-i)=List.range' i (k-i)++(k::List.range' (k+1) (ops.size-(k+1))):=by
  have:ops.size-i=(k-i)+((ops.size-(k+1))+1):=by omega
  rw[this,<- Zi,Y3];have e1:i+(k-i)=k:=by omega
  rw[e1]
 rw[hr]
 refine lT (C:=C) (b:=b) (k-i) i s g a w hs hm hU (by omega) (by rw[he];exact hok) fun g1 a1 w1 hs1 hm1 hU1=>?_
 rw[he] at hs1
 have hU1 : ∀ r,g1.U r->r<b+k:=fun r hr=>by have:=hU1 r hr;omega
 have hse:s1.e=s.e:=by rw[<- he];exact lU _ _ _ _ _
 rw[wpOpsIn_cons]
 unfold wpOpIn
 rw[ho]
 simp only
 have hw:Region.wanted o (yielded ops a1.tmps)=true:=by simp[Region.wanted,hg]
 rw[X4 hw]
 have hdef : ∀ c,o.op ≠ .defer c:=by intro c e;rw[e] at hop;cases hop
 have hsem:o.semAt (Fw ro).round a1.eval=execOp a1.eval o:=Oper.semAt_eq _ _ _ hdef
 refine⟨fun _ _=>trivial,?_⟩
 rw[hsem]
 obtain⟨hbd,hct⟩:=hct
 have hfr:=bC hs1 f
 rw[hf] at hfr
 have hxr:=nC (mQ hs1 args.toList) hxg
 rw[hx] at hxr
 generalize hv:a1.eval f=vf at hfr
 cases hfr with|fn _ _ _ fs cs l1 l2 r1 r2 =>
 have hrun:(execOp a1.eval o).run P w1 = .ok (.enter fid (fs++args.map a1.eval++cs)) w1:=by
  simp[execOp,hop,resolve,Deferred.ofValue,hv,invoke,mY hbd]
 rw[hrun,Oper.uponIn_enter]
 have e:fs++args.map a1.eval++cs=(fs.toList++args.toList.map a1.eval++cs.toList).toArray:=by apply Zo;simp
 rw[e]
 refine⟨fun h=>by simp[Fw,Fence.wide] at h,qU ((hct w1 g1 _ hs1.mem hU1 (hE _ _ hs1.en) (Reps.append (Reps.append ⟨by simpa using l1,fun i d x h1 h2=>r1 i d x h1 (by simpa using h2)⟩ hxr) ⟨by simpa using l2,fun i d x h1 h2=>r2 i d x h1 (by simpa using h2)⟩)).mono ?_)⟩
 rintro e w' ⟨v,g',res,h',n',E',hR,rfl,q1,q2,q3,q4,q5⟩
 have hs2:=ic hs1 q3 q2 hd q1 True
 have:=hk res h' n' E' hR B g0 g' (a1.put o.dst v) w0 w' ⟨hs2.sz,hs2.tm,hs2.mem,hs2.df,⟨hs2.en,q5⟩,hs2.bd⟩ (hm1.trans q3) (fun r hr=>by have:=q4 r hr;omega)
 rw[show (Env.both s1.e E').x=s.e.x by rw[<- hse];rfl] at this
 exact this
theorem zJ {A B:Prop}{Hs:H->Prop}{Ns:Nat->Prop}{Es:Env->Prop}{R:H->Nat->Env->Prop}{n':Nat}(h':H) (E':Env) (hE:Es E') (hn:Ns n':=by first|exact XX _|omega) (hr:R h' n' E':=by (try simp only[go_sem,ff]);all_goals simp) (hh:Hs h':=by exact fun _=>.inl rfl)
  (ha:A:=by first|exact .inr rfl|exact .inl rfl|trivial|simp) (hb:B:=by simp only[go_sem,ff]):A/\B /\ ∃ h' n',Hs h'/\Ns n' /\ ∃ E',Es E'/\R h' n' E':=⟨ha,hb,h',n',hh,hn,E',hE,hr⟩
theorem VD {c:Code}{E:Env}{r k m:Nat}{e:TypeId}{rows:List (List D)}{t:Nat->D}{h:H}{n nx:Nat}{ok:Prop}(hr:h r=some ⟨e,rows⟩) (hE : ∀ g w,E.p g w->(Env.capLt r k).p g w)
  (h0:m<k->DW P ro c Q ⟨n,t,h,nx,ok,Env.lim E r m⟩):DW P ro c Q ⟨n,t,h,nx,ok,Env.lim E r m⟩:=by
 intro B g a w hs hU
 obtain⟨blk,c0,h1,_⟩:=hs.mem.blk r _ hr
 have h2:=hs.en.2.2 _ _ _ h1
 have h3:=(hE g w hs.en.1).2 _ _ _ h1
 exact h0 om B g a w hs hU
theorem Dw {c:Code}{r:Nat}{e:TypeId}{rows:List (List D)}(k:Nat) (hr:s.h r=some ⟨e,rows⟩) (h:DW P ro c Q { n:=s.n,t:=s.t,h:=upd s.h r (some ⟨e,rows.take k⟩),nx:=s.nx,ok:=s.ok,e:=s.e }):DW P ro c Q s :=
 fun B g a w hs hU=>h B g a w ⟨hs.sz,hs.tm,hs.mem.shrink hr k,hs.df,hs.en,hs.bd⟩ hU
end
theorem XE [Glob P] {h:H}{g:Mem}{w:World}(hm:HM P h g w) {t u e:TypeId}{kk:IntKind}{m b:Nat}(hb : ¬ g.U b) (ht:P.underlying t=some (.slice e)) (hu:P.underlying u=some (.int kk)) (hp:0<P.cellsOf e)
  (hz:ay P e=true) (h1z:(zeroCells P e).all D.one=true) (hdef:(zeroCells P e).length=P.cellsOf e) (hm0:0<m) (hby:m*P.bytesOf e<=140737488355328) (h63:m<=4611686018427387904) (ty:TypeId) :
  ∃ v g' w',(Builtin.append_ #[t,u] ty #[.slice none 0 0,.int .i64 m]).run P w = .ok v w'/\Rep w' g' (.mrow b 0 m) v/\HM P (upd h b (some ⟨e,List.replicate m (zeroCells P e)⟩)) g' w'/\Mono g g' w w' /\ ∀ q,g'.U q->g.U q\/q=b:=by
 obtain⟨i,hi,hs⟩:=si hp
 have hz':=hz
 unfold ay at hz'
 cases hzz:i.zero with
 | none=>simp[hi,hzz] at hz'
 | some z =>
 simp only[hi,hzz,Option.bind_some,YF] at hz'
 have hbyi:i.bytes=P.bytesOf e:=by simp[Program.bytesOf,hi]
 have hrep:RowsIn w g (P.cellsOf e) (List.replicate m (zeroCells P e)) (Builtin.zeroCells z.cells m).toList:=by
  refine⟨by simp[size_zeroCells,hz'],fun j row hj=>?_⟩
  obtain⟨hjl,hje⟩:=X7.1 hj;simp only[List.length_replicate] at hjl;simp only[List.getElem_replicate] at hje;subst hje;refine⟨hdef,fun q d hq=>?_⟩
  obtain⟨hrz,hone,hcl⟩:=uR (P:=P) hi hzz w g h1z;have hql:q<P.cellsOf e:=by have:=(X7.1 hq).1;omega
  refine⟨z.cells[q]!,?_,?_,?_⟩
  .
   simp only[Zg];have hlt:=uo hjl hql;unfold Builtin.zeroCells;simp only[Array.getElem?_map,hz'];rw[Array.getElem?_range,X4 hlt];simp only[YP];rw[ZE,Z0,Zv hql]
  .
   have hq':q<z.cells.size:=by omega
   rw[getElem!_pos z.cells q hq'];exact hone _ (by simp)
  have hq':q<z.cells.size:=by omega
  rw[getElem!_pos z.cells q hq'];exact hrz.2 q d _ hq (by simp[hq'])
 have hge:=grownCap_ge w m 0 e
 obtain⟨g',k1,k2,k3,k4⟩:=CY (h':=upd h b (some ⟨e,List.replicate m (zeroCells P e)⟩)) hm hb hrep hp hz' (upd_same _ _ _) (fun r hr=>.inl (upd_ne _ _ _ _ hr)) (grownCap w m 0 e) (by rw[List.length_replicate];exact hge) (by omega)
  (grownCap_le_maxLen _ _ _ _ (by simp only[maxLen];omega))
 rw[List.length_replicate] at k1 k2 k3
 have hap:(Builtin.append_ #[t,u] ty #[.slice none 0 0,.int .i64 m]).run P w = .ok (.slice (some ⟨w.heap.size,0,none⟩) m (grownCap w m 0 e))
   (w.drew.alloc (.cells ((Builtin.zeroCells z.cells m).toList.toArray++Builtin.zeroCells z.cells (grownCap w m 0 e-m)) e)):=by
  have e1 : ¬ (m<=0):=by omega
  have e1':m≠0:=by omega
  have e2:IntKind.i64.wrap (m:Int)=m:=by rw[IntKind.wrap_i64];omega
  have e3 : ¬ ((m:Int)<0):=by omega
  have e4 : ¬ (281474976710656<(m:Int)*(i.bytes:Int)):=by
   rw[hbyi];have e9:((m*P.bytesOf e:Nat):Int)=(m:Int)*(P.bytesOf e:Int):=by simp
   omega
  have e5 : ¬ (9223372036854775807<(m:Int)):=by omega
  have h48 : ¬ (281474976710656<Builtin.nextslicecap m 0*i.bytes):=by have:=growslice_fits (need:=m) (old:=0) (bytes:=i.bytes) hm0 (by rw[hbyi];exact hby);omega
  have e6 : ¬ (m*P.cellsOf e=0):=by
   intro h
   rcases Nat.mul_eq_zero.1 h with h|h<;>omega
  have e7 : ¬ (m*i.size=0):=by rw[hs];exact e6
  simp[Builtin.append_,run_underlying ht,run_underlying hu,sizeOf,typeInfo,zeroValue,hi,hzz,asInt,asIntOf,e1,e1',e2,e3,e4,e5,e7,h48,Question.forced,run_firstCells_none,newRow,grownCap]
 exact⟨_,g',_,hap,k1,k2,k3,k4⟩
section
variable [Glob P] {C : Con} {s s1 : S} {ops : Array Oper} {i b : Nat}
theorem PD (k:Nat) {o:Oper}{t u e:TypeId}{kk:IntKind}{y:Operand}{m:Nat}(z9:dB P C ops i k o b s s1)
  (hop:o.op = .call { callee:=.builtin .append,args:=#[.const (.slice none 0 0),y],argTypes:=#[t,u] }) (ht:P.underlying t=some (.slice e)) (hu:P.underlying u=some (.int kk)) (hp:0<P.cellsOf e) (hz:ay P e=true) (h1z:(zeroCells P e).all D.one=true) (hdef:(zeroCells P e).length=P.cellsOf e)
  (hy:s1.ev y = .i m) (hm0:0<m) (hby:m*P.bytesOf e<=140737488355328) (h63:m<=4611686018427387904)
  (hk:au P ro ops (k+1) b { n:=s1.n,t:=s1.put o.dst (.mrow (b+k) 0 m),h:=upd s1.h (b+k) (some ⟨e,List.replicate m (zeroCells P e)⟩),nx:=s1.nx,ok:=True,e:=s1.e } Q):au P ro ops i b s Q:=by
 obtain⟨hik,ho,hg,he,hok,hd⟩:=z9
 refine jB (C:=C) k (fun d h'=>d = .mrow (b+k) 0 m/\h'=upd s1.h (b+k) (some ⟨e,List.replicate m (zeroCells P e)⟩)) hik ho hg (fun c e=>by rw[hop] at e;cases e) he hok hd (fun B g a w hst hbk=>?_) (fun d h' ⟨hy,hh⟩=>by subst hy;subst hh;exact hk)
 have hvy:=bC hst y
 rw[hy] at hvy
 have hvy:=hvy.v_inv
 obtain⟨v,g',w',q1,q2,q3,q4,q5⟩:=XE hst.mem hbk ht hu hp hz h1z hdef hm0 hby h63 o.type
 refine⟨_,_,⟨rfl,rfl⟩,v,g',w',.inl ?_,q2,q3,q4,q5⟩
 have hc:a.eval (.const (.slice none 0 0)) = .slice none 0 0:=rfl
 obtain⟨od,oo,oty,op,oa,og⟩:=o
 simp only at hop
 subst hop
 simp[Go.BigFrame.execOp_builtin,Go.BigFrame.builtin_append,hvy,hc,q1]
theorem Pf (k:Nat) {o:Oper}{t e:TypeId}{x hi:Operand}{r off len m:Nat}{rows:List (List D)}(z9:dB P C ops i k o b s s1)
  (hop:o.op = .slice t x none (some hi) none) (ht:P.underlying t=some (.slice e))
  (hx:s1.ev x = .mrow r off len) (hh:s1.ev hi = .i m) (hr:s1.h r=some ⟨e,rows⟩) (h0:0<m) (hl:off+m<=rows.length)
  (hk:au P ro ops (k+1) b { n:=s1.n,t:=s1.put o.dst (.mrow r off m),h:=s1.h,nx:=s1.nx,ok:=True,e:=s1.e } Q):au P ro ops i b s Q:=by
 obtain⟨hik,ho,hg,he,hok,hd⟩:=z9
 refine jB (C:=C) k (fun d h'=>d = .mrow r off m/\h'=s1.h) hik ho hg (fun c e=>by rw[hop] at e;cases e) he hok hd (fun B g a w hst _=>?_) (fun d h' ⟨hy,hh⟩=>by subst hy;subst hh;exact hk)
 have hv:=bC hst x
 rw[hx] at hv
 have hvh:=(bC hst hi)
 rw[hh] at hvh
 have hvh:=hvh.v_inv
 obtain⟨blk,c0,h1,h2,h3,h4,h5⟩:=hst.mem.blk r _ hr
 simp only at h2 h3
 generalize hvx:a.eval x=v at hv
 cases hv with|mrow _ _ _ _ hxx hU hvv =>
 obtain⟨p1,p2⟩:=hvv _ _ _ h1
 rcases p2 with⟨e0,_⟩|⟨e0,b0,rfl,rfl⟩
 .
  omega
 have r2:=kH (P:=P) (o:=some (.i m)) (vo:=some (a.eval hi)) (d:=len) (y:=c0-off) (w:=w) (g:=g) (by rw[hvh];exact .v _) rfl (by simp[bnd]) (by simp only[bnd];omega) (if true then .sliceAcap else .sliceAlen)
 have r1:=kH (P:=P) (o:=none) (vo:=none) (d:=0) (y:=(bnd (some (.i m)) len).toNat) (w:=w) (g:=g) trivial rfl (by simp[bnd]) (by simp[bnd]) .sliceB
 have hrun:=ve ht h2 (a:=some ⟨b0,off*P.cellsOf e,none⟩) (len:=len) (vm:=none) (wS (P:=P) (len:=len) r2 r1)
 have hz : ¬ (c0-off=0):=by omega
 simp only[bnd,Int.toNat_natCast,hz,Y6,Nat.zero_mul,Nat.sub_zero,YP,jo,Zu] at hrun
 have hmc:m<=c0-off:=by omega
 refine⟨_,_,⟨rfl,rfl⟩,.slice (some ⟨b0,off*P.cellsOf e,none⟩) m (c0-off),g,w,.inl ?_,.mrow r off m _ ⟨_,_,rfl,hmc,fun _=>⟨_,rfl⟩⟩ hU fun blk c' sz hq=>?_,hst.mem,Mono.refl _ _,fun r hr=>.inl hr⟩
 .
  obtain⟨od,oo,oty,op,oa,og⟩:=o;simp only at hop;subst hop
  simp[execOp,hvx,hrun]
 rw[h1] at hq
 simp only[Yg,YG] at hq
 obtain⟨rfl,rfl,rfl⟩:=hq
 exact⟨om,.inr ⟨e0,b0,rfl,rfl⟩⟩
end
theorem PP {t:TypeId}{ms:Array (String×TypeId)}(ht:P.underlying t=some (.interface ms)) (w:World):(Op.equal t .nilIface .nilIface).run P w = .ok true w /\ ∀ T v,(Op.equal t (.iface T v) .nilIface).run P w = .ok false w/\(Op.equal t .nilIface (.iface T v)).run P w = .ok false w:=by
 have k1 : ∀ d:Nat,(Op.equalIn (d+1) t .nilIface .nilIface).run P w = .ok true w:=fun d=>by simp[Op.equalIn,run_underlying ht]
 have k2 : ∀ (d:Nat) T v,(Op.equalIn (d+1) t (.iface T v) .nilIface).run P w = .ok false w:=fun d T v=>by simp[Op.equalIn,run_underlying ht]
 have k3 : ∀ (d:Nat) T v,(Op.equalIn (d+1) t .nilIface (.iface T v)).run P w = .ok false w:=fun d T v=>by simp[Op.equalIn,run_underlying ht]
 exact⟨by simp[Op.equal,Op.maxDepth,k1 9999],fun T v=>⟨by simp[Op.equal,Op.maxDepth,k2 9999],by simp[Op.equal,Op.maxDepth,k3 9999]⟩⟩
theorem Pn [Glob P] {C:Con}{s s1:S}{ops:Array Oper}{i b:Nat}(k:Nat) {o:Oper}{t t':TypeId}{ms:Array (String×TypeId)}{bo:BinOp}{x:Operand}{v:Value}(y:Bool) (z9:dB P C ops i k o b s s1)
  (hop:o.op = .binOp bo t x (.const .nilIface) t') (ht:P.underlying t=some (.interface ms)) (hbo:bo = .eql\/bo = .neq)
  (hx:s1.ev x = .v v) (hv:(v = .nilIface/\y=true)\/(∃ T u,v = .iface T u)/\y=false)
  (hk:au P ro ops (k+1) b { n:=s1.n,t:=s1.put o.dst (.b (if bo = .eql then y else !y)),h:=s1.h,nx:=s1.nx,ok:=True,e:=s1.e } Q):au P ro ops i b s Q:=by
 obtain⟨hik,ho,hg,he,hok,hd⟩:=z9
 refine tK (C:=C) k (.b (if bo = .eql then y else !y)) (.bool (if bo = .eql then y else !y)) hik ho hg (fun c e=>by rw[hop] at e;cases e) he hok hd (fun B g a w hst=>?_) hk
 have hr:=bC hst x
 rw[hx] at hr
 have hr:=hr.v_inv
 have hc:a.eval (.const .nilIface) = .nilIface:=rfl
 obtain⟨h1,h2⟩:=PP (P:=P) ht w
 refine⟨?_,.v _⟩
 obtain⟨od,oo,oty,op,oa,og⟩:=o
 simp only at hop
 subst hop
 rcases hv with⟨rfl,rfl⟩|⟨⟨T,u,rfl⟩,rfl⟩
 .
  rcases hbo with rfl|rfl<;>simp[execOp,hr,hc,eqGuard,binOp,h1]
 obtain⟨h3,_⟩:=h2 T u
 rcases hbo with rfl|rfl<;>simp[execOp,hr,hc,eqGuard,binOp,h3]
theorem Pv [Glob P] {C:Con}{s s1:S}{ops:Array Oper}{i b:Nat}(k:Nat) {o:Oper}{t e:TypeId}{x:Operand}{r off len kk:Nat}{rows:List (List D)}(z9:dB P C ops i k o b s s1)
  (hop:o.op = .call { callee:=.builtin .cap,args:=#[x],argTypes:=#[t] }) (ht:P.underlying t=some (.slice e)) (hE : ∀ g w,s1.e.p g w->(Env.capLt r kk).p g w)
  (hx:s1.ev x = .mrow r off len) (hr:s1.h r=some ⟨e,rows⟩)
  (hk : ∀ c:Nat,len<=c->off+c<kk->au P ro ops (k+1) b { n:=s1.n,t:=s1.put o.dst (.i c),h:=s1.h,nx:=s1.nx,ok:=True,e:=Env.lim s1.e r (off+c) } Q):au P ro ops i b s Q:=by
 obtain⟨hik,ho,hg,he,hok,hd⟩:=z9
 refine FZ (C:=C) k (fun d h' E=>∃ c:Nat,d = .i c/\h'=s1.h/\E=Env.lim s1.e r (off+c)/\len<=c/\off+c<kk) hik ho hg (fun c e=>by rw[hop] at e;cases e) he hok hd (fun B g a w hst _=>?_) (fun d h' E ⟨c,h1,h2,h3,h4,h5⟩=>by subst h1;subst h2;subst h3;exact hk c h4 h5)
 have hv:=bC hst x
 rw[hx] at hv
 obtain⟨blk,c0,h1,h2,h3,h4,h5⟩:=hst.mem.blk r _ hr
 have hb:=(hE g w hst.en).2 _ _ _ h1
 have key : ∃ (ad:Option Addr) (c:Nat),a.eval x = .slice ad len c/\len<=c/\c0=off+c/\g.U r:=by
  generalize a.eval x=v at hv
  cases hv with|mrow _ _ _ _ hxx hU hvv =>
  obtain⟨p1,p2⟩:=hvv _ _ _ h1;obtain⟨a',c',e1,e2,_⟩:=hxx
  rcases p2 with⟨e0,a,rfl⟩|⟨e0,b0,rfl,rfl⟩
  .
   cases e1
   exact⟨a',0,rfl,om,om,hU⟩
  cases e1
  exact⟨_,_,rfl,e2,om,hU⟩
 obtain⟨ad,c,k1,k2,k4,k5⟩:=key
 refine⟨_,_,_,.int .i64 c,g,w,⟨c,rfl,rfl,rfl,k2,om⟩,rfl,?_,.v _,hst.mem,Mono.refl _ _,fun r hr=>.inl hr,hst.en,k5,fun blk c' sz hq=>?_⟩
 .
  obtain⟨od,oo,oty,op,oa,og⟩:=o;simp only at hop;subst hop
  simp[Go.BigFrame.execOp_builtin,Go.BigFrame.builtin_cap,k1,Builtin.cap_,run_underlying ht,goInt]
 rw[h1] at hq
 simp only[Yg,YG] at hq
 obtain⟨rfl,rfl,rfl⟩:=hq
 exact k4
theorem Pt [Glob P] {C:Con}{s s1:S}{ops:Array Oper}{i b:Nat}(k:Nat) {o:Oper}{t e:TypeId}{x:Operand}{r off len c0:Nat}{E:Env}{rows:List (List D)}(z9:dB P C ops i k o b s s1)
  (hop:o.op = .call { callee:=.builtin .cap,args:=#[x],argTypes:=#[t] }) (ht:P.underlying t=some (.slice e)) (hE:s1.e=Env.lim E r c0)
  (hx:s1.ev x = .mrow r off len) (hr:s1.h r=some ⟨e,rows⟩)
  (hk:au P ro ops (k+1) b { n:=s1.n,t:=s1.put o.dst (.i (c0-off:Nat)),h:=s1.h,nx:=s1.nx,ok:=True,e:=s1.e } Q):au P ro ops i b s Q:=by
 obtain⟨hik,ho,hg,he,hok,hd⟩:=z9
 refine tK (C:=C) k (.i (c0-off:Nat)) (.int .i64 (c0-off:Nat)) hik ho hg (fun c e=>by rw[hop] at e;cases e) he hok hd (fun B g a w hst=>?_) hk
 have hv:=bC hst x
 rw[hx] at hv
 obtain⟨blk,c1,h1,h2,h3,h4,h5⟩:=hst.mem.blk r _ hr
 have hen:=hst.en
 rw[hE] at hen
 have hc:=hen.2.2 _ _ _ h1
 subst hc
 have key : ∃ (ad:Option Addr),a.eval x = .slice ad len (c1-off):=by
  generalize a.eval x=v at hv
  cases hv with|mrow _ _ _ _ hxx hU hvv =>
  obtain⟨p1,p2⟩:=hvv _ _ _ h1;obtain⟨a',c',e1,e2,_⟩:=hxx
  rcases p2 with⟨e0,a,rfl⟩|⟨e0,b0,rfl,rfl⟩
  .
   cases e1
   exact⟨a',by congr 1;omega⟩
  exact⟨_,rfl⟩
 obtain⟨ad,k1⟩:=key
 refine⟨?_,.v _⟩
 obtain⟨od,oo,oty,op,oa,og⟩:=o
 simp only at hop
 subst hop
 simp[Go.BigFrame.execOp_builtin,Go.BigFrame.builtin_cap,k1,Builtin.cap_,run_underlying ht,goInt]
theorem Su [Glob P] {h:H}{g:Mem}{w:World}(hm:HM P h g w) {b:Nat}(hb : ¬ g.U b) {t e:TypeId}{k k':IntKind}{n m:Nat}(ht:P.underlying t=some (.slice e)) (c0:0<n) (c1:n<=m) (c2:P.bytesOf e*(m:Int)<=281474976710656) (c3:(m:Int)<=9223372036854775807) (c4:ay P e=true) (c5:(zeroCells P e).length=P.cellsOf e) (c6:(zeroCells P e).all D.one=true) (c7:0<P.cellsOf e) :
  ∃ v g' w',(Instr.makeSlice t (.int k n) (.int k' m)).run P w = .ok v w'/\Rep w' g' (.mrow b 0 n) v/\HM P (upd h b (some ⟨e,List.replicate m (zeroCells P e)⟩)) g' w'/\Mono g g' w w' /\ ∀ r,g'.U r->g.U r\/r=b:=by
 obtain⟨i,hi,hs⟩:=si c7
 obtain⟨i',z,hi',hz⟩:=xh (P:=P) (t:=e) om
 rw[hi] at hi'
 cases hi'
 obtain⟨z1,z2,z3⟩:=uR hi hz w g c6
 have hby:(i.bytes:Int)*m<=281474976710656:=by
  have:P.bytesOf e=i.bytes:=by simp[Program.bytesOf,hi]
  rw[<- this];exact c2
 have hrun:=run_make (P:=P) w t e i z ht hi hz k k' n m (by omega) (by omega) hby c3
 have hzs:z.cells.size=P.cellsOf e:=by omega
 rw[hs,<- hzs] at hrun
 simp only[Int.toNat_natCast] at hrun
 obtain⟨g',h2,h3,h4,h5,h6⟩:=hm.put (h':=upd h b (some ⟨e,List.replicate m (zeroCells P e)⟩)) (w':=w.alloc (.cells (madeCells z.cells (m*z.cells.size)) e)) b w.heap.size m ⟨e,List.replicate m (zeroCells P e)⟩ (madeCells z.cells (m*z.cells.size)) (.inl hb) (upd_same _ _ _)
  (fun r hr=>.inl (upd_ne _ _ _ _ hr)) (.inl (XX _)) (heap_alloc_new w _) (by rw[size_madeCells,hzs]) c7 (by simp) (by simp only[maxLen];omega)
  (by
   intro p row hp;have hpl:p<m:=by have:=(X7.1 hp).1;simpa using this
   rw[List.getElem?_replicate,X4 hpl] at hp
   cases hp
   refine⟨c5,fun j d hj=>?_⟩
   have hjl:j<z.cells.size:=by have:=(X7.1 hj).1;omega
   refine⟨z.cells[j],?_,z2 _ (by simp),z1.2 j d _ hj (by simp[hjl])⟩
   show (madeCells z.cells (m*z.cells.size))[p*P.cellsOf e+j]? = _
   rw[<- hzs];exact IP hpl hjl)
  (World.grownBy_alloc w _ _)
 refine⟨_,g',_,hrun,?_,h5,h6,fun r hr=>(h3 r).1 hr⟩
 refine .mrow b 0 n _ ⟨_,_,rfl,c1,fun _=>⟨_,rfl⟩⟩ ((h3 b).2 (.inr rfl)) fun blk c sz he=>?_
 rw[h2] at he
 simp only[Yg,YG] at he
 obtain⟨rfl,rfl,rfl⟩:=he
 exact⟨⟨om,by simp only[maxLen];omega⟩,.inr ⟨om,w.heap.size,rfl,by simp⟩⟩
theorem Pm [Glob P] {C:Con}{s s1:S}{ops:Array Oper}{i b:Nat}(k:Nat) {o:Oper}{t e:TypeId}{x y:Operand}{q q':IntKind}{n m:Nat}(z9:dB P C ops i k o b s s1)
  (hop:o.op = .makeSlice t x y) (ht:P.underlying t=some (.slice e)) (c2:P.bytesOf e*(m:Int)<=281474976710656) (c4:ay P e=true) (c5:(zeroCells P e).length=P.cellsOf e) (c6:(zeroCells P e).all D.one=true) (c7:0<P.cellsOf e)
  (hx:s1.ev x = .v (.int q n)) (hy:s1.ev y = .v (.int q' m)) (c0:0<n) (c1:n<=m) (c3:(m:Int)<=9223372036854775807)
  (hk:au P ro ops (k+1) b { n:=s1.n,t:=s1.put o.dst (.mrow (b+k) 0 n),h:=upd s1.h (b+k) (some ⟨e,List.replicate m (zeroCells P e)⟩),nx:=s1.nx,ok:=True,e:=s1.e } Q):au P ro ops i b s Q:=by
 obtain⟨hik,ho,hg,he,hok,hd⟩:=z9
 refine jB (C:=C) k (fun d h'=>d = .mrow (b+k) 0 n/\h'=upd s1.h (b+k) (some ⟨e,List.replicate m (zeroCells P e)⟩)) hik ho hg (fun c e=>by rw[hop] at e;cases e) he hok hd (fun B g a w hst hbk=>?_) (fun d h' ⟨hy,hh⟩=>by subst hy;subst hh;exact hk)
 have hvx:=bC hst x
 rw[hx] at hvx
 have hvx:=hvx.v_inv
 have hvy:=bC hst y
 rw[hy] at hvy
 have hvy:=hvy.v_inv
 obtain⟨v,g',w',q1,q2,q3,q4,q5⟩:=Su (k:=q) (k':=q') hst.mem hbk ht c0 c1 c2 c3 c4 c5 c6 c7
 refine⟨_,_,⟨rfl,rfl⟩,v,g',w',.inl ?_,q2,q3,q4,q5⟩
 obtain⟨od,oo,oty,op,oa,og⟩:=o
 simp only at hop
 subst hop
 simp[execOp,hvx,hvy,q1]
theorem RCtE.i [Glob P] {f:FuncId}{args:List D}{h:H}{n:Nat}{E:Env}{R:D->H->Nat->Env->Prop}(k:RCtE P f args h n E R):uL P f args h n E (fun d h' n'=>∃ E',R d h' n' E') :=
 ⟨k.1,fun w g vs h1 h2 h3 h4=>(k.2 w g vs h1 h2 h3 h4).mono fun _ _ ⟨v,g',res,h',n',E',q1,q2,q3,q4,q5,q6,q7⟩=>⟨v,g',res,h',n',⟨E',q1⟩,q2,q3,q4,q5,q6⟩⟩
theorem RCt.ie [Glob P] {f:FuncId}{args:List D}{h:H}{n:Nat}{R:D->H->Nat->Prop}(k:RCt P f args h n R):uL P f args h n Env.tt R:=⟨k.1,fun w g vs h1 h2 _ h4=>k.2 w g vs h1 h2 h4⟩
section
variable [Glob P] (C : Con) {s s1 : S} {ops : Array Oper} {i b : Nat} {o : Oper} (k : Nat)
theorem Df {t e:TypeId}{x:Operand}(hk:au P ro ops (k+1) b { n:=s1.n,t:=s1.put o.dst (.i 0),h:=s1.h,nx:=s1.nx,ok:=True,e:=s1.e } Q)
  (z9:dB P C ops i k o b s s1:=by exact pos) (hop:o.op = .call { callee:=.builtin .cap,args:=#[x],argTypes:=#[t] }:=by exact rfl) (ht:P.underlying t=some (.slice e):=by kernel_rfl)
  (hx:s1.ev x = .list true []:=by simp only[go_sem,ff];first|done|exact rfl):au P ro ops i b s Q:=Ps k z9 hop ht hx hk
theorem UB {t e t':TypeId}{x:Operand}{r off len:Nat}(hk:au P ro ops (k+1) b { n:=s1.n,t:=s1.put o.dst (.b false),h:=s1.h,nx:=s1.nx,ok:=True,e:=s1.e } Q)
  (z9:dB P C ops i k o b s s1:=by exact pos) (hop:o.op = .binOp .eql t x (.const (.slice none 0 0)) t':=by exact rfl) (ht:P.underlying t=some (.slice e):=by kernel_rfl)
  (hx:s1.ev x = .mrow r off len:=by simp only[go_sem,ff];first|done|exact rfl) (h0:0<len:=by first|omega|(simp;done)|(simp;omega)):au P ro ops i b s Q:=Pk k z9 hop ht hx h0 hk
theorem UO {t e t':TypeId}{x:Operand}{f:Bool}{rows:List (List D)}(hk : ∀ y:Bool,(y=true->rows=[])->au P ro ops (k+1) b { n:=s1.n,t:=s1.put o.dst (.b y),h:=s1.h,nx:=s1.nx,ok:=True,e:=s1.e } Q)
  (hik:i<=k:=by omega) (ho:ops[k]? = some o:=by exact bM rfl) (hg:o.guard=none:=by exact rfl) (hop:o.op = .binOp .eql t x (.const (.slice none 0 0)) t':=by exact rfl) (ht:P.underlying t=some (.slice e):=by kernel_rfl)
  (he:aH P (words P) C ops.toList b i ((ops.toList.drop i).take (k-i)) s=s1:=by simp only[Yf,X9,Ya,Yj,S.put,YB,Nat.reduceSub,go_sem,ff];first|done|exact rfl) (hok:s1.ok:=by (try simp only[go_sem,ff]);all_goals exact ok0) (hd:bE s1.n o.dst=true:=by (try simp only[go_sem,ff]);all_goals (first|done|rfl|decide|simp)) (hx:s1.ev x = .list f rows:=by simp only[go_sem,ff];first|done|exact rfl):au P ro ops i b s Q:=xV k hik ho hg hop ht he hok hd hx hk
theorem JW {t u e:TypeId}{x y:Operand}{r off len m:Nat}{yd:D}{rows news:List (List D)}(hk:au P ro ops (k+1) b { n:=s1.n,t:=s1.put o.dst (.i m),h:=upd s1.h r (some ⟨e,rows.take off++news++rows.drop (off+m)⟩),nx:=s1.nx,ok:=True,e:=s1.e } Q)
  (z9:dB P C ops i k o b s s1:=by exact pos) (hop:o.op = .call { callee:=.builtin .copy,args:=#[x,y],argTypes:=#[t,u] }:=by exact rfl) (ht:P.underlying t=some (.slice e):=by kernel_rfl)
  (hx:s1.ev x = .mrow r off len:=by simp only[go_sem,ff];first|done|exact rfl) (hy:s1.ev y=yd:=by simp only[go_sem,ff];first|done|exact rfl) (hr:s1.h r=some ⟨e,rows⟩:=by simp only[go_sem,ff];first|done|exact rfl) (hnw:rowsOf yd s1.h=news:=by simp only[rowsOf,go_sem,ff];first|done|exact rfl) (hm:aU yd=m:=by first|rfl|(simp only[aU,go_sem,ff];done)|(simp[aU];done)|(simp[aU];omega)) (hl:news.length=m:=by first|(simp only[go_sem,ff];done)|(simp;done)|(simp;omega)) (hs:gM P u s1.h yd=true:=by simp only[go_sem,ff])
  (hrl : ∀ q∈news,q.length=P.cellsOf e:=by simp only[go_sem,ff]) (h0:0<m:=by first|omega|(simp;done)|(simp;omega)) (hml:m<=len:=by first|omega|(simp;done)|(simp;omega)) (hlo:off<=rows.length:=by first|omega|(simp;done)|(simp;omega)):au P ro ops i b s Q:=Po k z9 hop ht hx hy hr hnw hm hl hs hrl h0 hml hlo hk
theorem wu {t u e:TypeId}{x y:Operand}{xd yd:D}(hk:au P ro ops (k+1) b { n:=s1.n,t:=s1.put o.dst (.i 0),h:=s1.h,nx:=s1.nx,ok:=True,e:=s1.e } Q)
  (z9:dB P C ops i k o b s s1:=by exact pos) (hop:o.op = .call { callee:=.builtin .copy,args:=#[x,y],argTypes:=#[t,u] }:=by exact rfl) (ht:P.underlying t=some (.slice e):=by kernel_rfl) (hp:0<P.cellsOf e:=by exact Zk (by kernel_rfl))
  (hx:s1.ev x=xd:=by simp only[go_sem,ff];first|done|exact rfl) (hy:s1.ev y=yd:=by simp only[go_sem,ff];first|done|exact rfl) (hxs:CU xd=true:=by rfl) (hm:aU yd=0:=by first|rfl|(simp only[aU,go_sem,ff];done)|(simp[aU];done)) (hl:(rowsOf yd s1.h).length=0:=by first|rfl|(simp only[rowsOf,go_sem,ff];done)|(simp[rowsOf];done)) (hs:gM P u s1.h yd=true:=by simp only[go_sem,ff]):au P ro ops i b s Q:=Pp k z9 hop ht hp hx hy hxs hm hl hs hk
theorem Uw {e:TypeId}{x y z:Operand}{r off len n:Nat}{rows:List (List D)}{yd:D}(hk:au P ro ops (k+1) b { n:=s1.n,t:=s1.put o.dst (.v undef),h:=upd s1.h r (some ⟨e,rows++[yd.cells]⟩),nx:=s1.nx,ok:=True,e:=s1.e } Q)
  (z9:dB P C ops i k o b s s1:=by exact pos) (hop:o.op = .store e x y:=by exact rfl)
  (hx:s1.ev x = .mptr r n 0:=by simp only[go_sem,ff];first|done|exact rfl) (hz:s1.ev z = .mrow r off len:=by simp only[go_sem,ff];first|done|exact rfl) (hy:s1.ev y=yd:=by simp only[go_sem,ff];first|done|exact rfl) (hr:s1.h r=some ⟨e,rows⟩:=by simp only[go_sem,ff];first|done|exact rfl) (hn:n=rows.length:=by first|omega|(simp;done)|(simp;omega)) (hl:n<off+len:=by first|omega|(simp;done)|(simp;omega)) (hc:yd.cells.length=P.cellsOf e:=by simp only[go_sem,ff]) (h1:yd.cells.all D.one=true:=by rfl):au P ro ops i b s Q:=Pd k z9 hop hx hy hz hr hn hl hc h1 hk
theorem C8 {t u e:TypeId}{kk:IntKind}{y:Operand}(m:Nat) (hm0:0<m) (hby:m*P.bytesOf e<=140737488355328) (h63:m<=4611686018427387904) (hk:au P ro ops (k+1) b { n:=s1.n,t:=s1.put o.dst (.mrow (b+k) 0 m),h:=upd s1.h (b+k) (some ⟨e,List.replicate m (zeroCells P e)⟩),nx:=s1.nx,ok:=True,e:=s1.e } Q)
  (z9:dB P C ops i k o b s s1:=by exact pos) (hop:o.op = .call { callee:=.builtin .append,args:=#[.const (.slice none 0 0),y],argTypes:=#[t,u] }:=by exact rfl) (ht:P.underlying t=some (.slice e):=by kernel_rfl) (hu:P.underlying u=some (.int kk):=by kernel_rfl) (hp:0<P.cellsOf e:=by exact Zk (by kernel_rfl)) (hz:ay P e=true:=by kernel_rfl) (h1z:(zeroCells P e).all D.one=true:=by kernel_rfl) (hdef:(zeroCells P e).length=P.cellsOf e:=by kernel_rfl)
  (hy:s1.ev y = .i m:=by simp only[go_sem,ff];first|done|exact rfl):au P ro ops i b s Q:=PD k z9 hop ht hu hp hz h1z hdef hy hm0 hby h63 hk
theorem JK {t e:TypeId}{x hi:Operand}{r off len:Nat}(m:Nat) {rows:List (List D)}(hk:au P ro ops (k+1) b { n:=s1.n,t:=s1.put o.dst (.mrow r off m),h:=s1.h,nx:=s1.nx,ok:=True,e:=s1.e } Q)
  (z9:dB P C ops i k o b s s1:=by exact pos) (hop:o.op = .slice t x none (some hi) none:=by exact rfl) (ht:P.underlying t=some (.slice e):=by kernel_rfl)
  (hx:s1.ev x = .mrow r off len:=by simp only[go_sem,ff];first|done|exact rfl) (hh:s1.ev hi = .i m:=by simp only[go_sem,ff];first|done|exact rfl) (hr:s1.h r=some ⟨e,rows⟩:=by simp only[go_sem,ff];first|done|exact rfl) (h0:0<m:=by first|omega|(simp;done)|(simp;omega)) (hl:off+m<=rows.length:=by first|omega|(simp;done)|(simp;omega)):au P ro ops i b s Q:=Pf k z9 hop ht hx hh hr h0 hl hk
theorem UE {t t':TypeId}{ms:Array (String×TypeId)}{bo:BinOp}{x:Operand}{v:Value}(y:Bool) (hk:au P ro ops (k+1) b { n:=s1.n,t:=s1.put o.dst (.b (if bo = .eql then y else !y)),h:=s1.h,nx:=s1.nx,ok:=True,e:=s1.e } Q)
  (hv:(v = .nilIface/\y=true)\/(∃ T u,v = .iface T u)/\y=false:=by first|exact .inl ⟨rfl,rfl⟩|exact .inr ⟨⟨_,_,rfl⟩,rfl⟩) (z9:dB P C ops i k o b s s1:=by exact pos) (hop:o.op = .binOp bo t x (.const .nilIface) t':=by exact rfl) (ht:P.underlying t=some (.interface ms):=by kernel_rfl) (hbo:bo = .eql\/bo = .neq:=by first|exact .inl rfl|exact .inr rfl)
  (hx:s1.ev x = .v v:=by simp only[go_sem,ff];first|done|exact rfl):au P ro ops i b s Q:=Pn k y z9 hop ht hbo hx hv hk
theorem UR {t e:TypeId}{x:Operand}{r off len:Nat}(kk:Nat) {rows:List (List D)}(hE : ∀ g w,s1.e.p g w->(Env.capLt r kk).p g w) (hk : ∀ c:Nat,len<=c->off+c<kk->au P ro ops (k+1) b { n:=s1.n,t:=s1.put o.dst (.i c),h:=s1.h,nx:=s1.nx,ok:=True,e:=Env.lim s1.e r (off+c) } Q)
  (z9:dB P C ops i k o b s s1:=by exact pos) (hop:o.op = .call { callee:=.builtin .cap,args:=#[x],argTypes:=#[t] }:=by exact rfl) (ht:P.underlying t=some (.slice e):=by kernel_rfl)
  (hx:s1.ev x = .mrow r off len:=by simp only[go_sem,ff];first|done|exact rfl) (hr:s1.h r=some ⟨e,rows⟩:=by simp only[go_sem,ff];first|done|exact rfl):au P ro ops i b s Q:=Pv k z9 hop ht hE hx hr hk
theorem UQ {t e:TypeId}{x:Operand}{r off len c0:Nat}{E:Env}{rows:List (List D)}(hE:s1.e=Env.lim E r c0) (hk:au P ro ops (k+1) b { n:=s1.n,t:=s1.put o.dst (.i (c0-off:Nat)),h:=s1.h,nx:=s1.nx,ok:=True,e:=s1.e } Q)
  (z9:dB P C ops i k o b s s1:=by exact pos) (hop:o.op = .call { callee:=.builtin .cap,args:=#[x],argTypes:=#[t] }:=by exact rfl) (ht:P.underlying t=some (.slice e):=by kernel_rfl)
  (hx:s1.ev x = .mrow r off len:=by simp only[go_sem,ff];first|done|exact rfl) (hr:s1.h r=some ⟨e,rows⟩:=by simp only[go_sem,ff];first|done|exact rfl):au P ro ops i b s Q:=Pt k z9 hop ht hE hx hr hk
theorem gmkC {t e:TypeId}{x y:Operand}(n m:Nat) (c0:0<n) (c1:n<=m) (c3:(m:Int)<=9223372036854775807) (c2:P.bytesOf e*(m:Int)<=281474976710656) (hk:au P ro ops (k+1) b { n:=s1.n,t:=s1.put o.dst (.mrow (b+k) 0 n),h:=upd s1.h (b+k) (some ⟨e,List.replicate m (zeroCells P e)⟩),nx:=s1.nx,ok:=True,e:=s1.e } Q)
  (z9:dB P C ops i k o b s s1:=by exact pos) (hop:o.op = .makeSlice t x y:=by exact rfl) (ht:P.underlying t=some (.slice e):=by kernel_rfl) (c4:ay P e=true:=by kernel_rfl) (c5:(zeroCells P e).length=P.cellsOf e:=by kernel_rfl) (c6:(zeroCells P e).all D.one=true:=by kernel_rfl) (c7:0<P.cellsOf e:=by exact Zk (by kernel_rfl))
  (hx:s1.ev x = .i n:=by simp only[go_sem,ff];first|done|exact rfl) (hy:s1.ev y = .i m:=by simp only[go_sem,ff];first|done|exact rfl):au P ro ops i b s Q:=Pm k z9 hop ht c2 c4 c5 c6 c7 hx hy c0 c1 c3 hk
end
theorem KO [Glob P] {c:Code}{s:S}(fx:List (Nat×D)) (h2:H) (n2 nx2:Nat) (e2:Env) (h:DW P ro c Q { n:=n2,t:=tab fx,h:=h2,nx:=nx2,e:=e2 }) (hfx:fx.map (fun p=>s.t p.1)=fx.map Prod.snd:=by rfl) (hh:s.h=h2:=by rfl) (hn:s.n=n2:=by rfl) (hx:s.nx=nx2:=by rfl) (he:s.e=e2:=by rfl):DW P ro c Q s:=by
 subst hh
 subst hn
 subst hx
 subst he
 have key : ∀ l:List (Nat×D),l.map (fun p=>s.t p.1)=l.map Prod.snd -> ∀ p∈l,s.t p.1=p.2:=by
  intro l
  induction l with
  | nil=>intro _ p hp;cases hp
  | cons q l ih =>
   intro e p hp;simp only[X8,YN] at e
   rcases YK.1 hp with rfl|hp
   .
    exact e.1
   exact ih e.2 p hp
 exact Dv fx s.h s.nx (fun p hp=>Or.inl (key fx hfx p hp)) (fun _=>.inl rfl) (XX _) h
theorem dK {A:S->Prop}{c:List PanicEntry}{s:S}:thenS A Q (.panic c) s=Q (.panic c) s:=rfl
theorem dQ {i:Nat}{c:List PanicEntry}{s:S}:DY i Q (.panic c) s=Q (.panic c) s:=rfl
theorem ut [Glob P] {fn:Func}{R:D->H->Nat->Prop}{X:List PanicEntry->H->Nat->Prop}{s:S}{n':Nat}{e:Exit}(he:e = .normal\/e = .ret) (h':H) (hn:s.nx<=n':=by first|exact XX _|omega) (hr:R (jF P fn.results.toList s) h' n':=by (try simp only[go_sem,ff]);all_goals simp)
  (hh : ∀ r,h' r=s.h r\/h' r=none:=by exact fun _=>.inl rfl) (hb:iY P s fn.results.toList:=by simp only[go_sem,ff]):Ed P fn R X e s:=by
 rcases he with rfl|rfl<;>exact⟨hb,h',n',hh,hn,hr⟩
theorem eQ [Glob P] {fn:Func}{R:D->H->Nat->Prop}{X:List PanicEntry->H->Nat->Prop}{s:S}{n':Nat}{c:List PanicEntry}(h':H) (hx:X c h' n') (hn:s.nx<=n':=by first|exact XX _|omega) (hh : ∀ r,h' r=s.h r\/h' r=none:=by exact fun _=>.inl rfl):Ed P fn R X (.panic c) s:=⟨h',n',hh,hn,hx⟩
theorem Pj [Glob P] {C:Con}{s s1:S}{ops:Array Oper}{i b:Nat}(k:Nat) {o:Oper}{t t':TypeId}{x y:Operand}{q:IntKind}{m n v:Int}(hv:q.wrap (m*n)=v) (z9:dB P C ops i k o b s s1)
  (hop:o.op = .binOp .mul t x y t') (hq:q.signed=false)
  (hx:s1.ev x = .v (.int q m)) (hy:s1.ev y = .v (.int q n))
  (hk:au P ro ops (k+1) b { n:=s1.n,t:=s1.put o.dst (.v (.int q v)),h:=s1.h,nx:=s1.nx,ok:=True,e:=s1.e } Q):au P ro ops i b s Q:=by
 obtain⟨hik,ho,hg,he,hok,hd⟩:=z9
 refine tK (C:=C) k (.v (.int q v)) (.int q v) hik ho hg (fun c e=>by rw[hop] at e;cases e) he hok hd (fun B g a w hst=>?_) hk
 have h1:=bC hst x
 rw[hx] at h1
 have h1:=h1.v_inv
 have h2:=bC hst y
 rw[hy] at h2
 have h2:=h2.v_inv
 refine⟨?_,.v _⟩
 obtain⟨od,oo,oty,op,oa,og⟩:=o
 simp only at hop
 subst hop
 simp[execOp,h1,h2,eqGuard,binOp,Op.intArith,hv]
section
variable [Glob P] (C : Con) {s s1 : S} {ops : Array Oper} {i b : Nat} {o : Oper} (k : Nat)
theorem JP {t t':TypeId}{x y:Operand}{q:IntKind}{m n v:Int}(hv:q.wrap (m*n)=v) (hk:au P ro ops (k+1) b { n:=s1.n,t:=s1.put o.dst (.v (.int q v)),h:=s1.h,nx:=s1.nx,ok:=True,e:=s1.e } Q)
  (z9:dB P C ops i k o b s s1:=by exact pos) (hop:o.op = .binOp .mul t x y t':=by exact rfl) (hq:q.signed=false:=by rfl)
  (hx:s1.ev x = .v (.int q m):=by simp only[go_sem,ff];first|done|exact rfl) (hy:s1.ev y = .v (.int q n):=by simp only[go_sem,ff];first|done|exact rfl):au P ro ops i b s Q:=Pj k hv z9 hop hq hx hy hk
end
theorem Pz [Glob P] {C:Con}{s s1:S}{ops:Array Oper}{i b:Nat}(k:Nat) {o:Oper}{x:Operand}{d:D}(hik:i<=k) (ho:ops[k]? = some o) (hg:o.guard=none) (hop:o.op = .assign x)
  (he:aH P (words P) C ops.toList b i ((ops.toList.drop i).take (k-i)) s=s1) (hok:s1.ok) (hd:bE s1.n o.dst=true) (hx:s1.ev x=d)
  (hk:au P ro ops (k+1) b { n:=s1.n,t:=s1.put o.dst d,h:=s1.h,nx:=s1.nx,ok:=True,e:=s1.e } Q):au P ro ops i b s Q:=by
 refine jB (C:=C) k (fun d' h'=>d'=d/\h'=s1.h) hik ho hg (fun c e=>by rw[hop] at e;cases e) he hok hd (fun B g a w hst _=>?_) (fun d h' ⟨hy,hh⟩=>by subst hy;subst hh;exact hk)
 have h1:=bC hst x
 rw[hx] at h1
 refine⟨_,_,⟨rfl,rfl⟩,_,g,w,.inl ?_,h1,hst.mem,Mono.refl _ _,fun r hr=>.inl hr⟩
 obtain⟨od,oo,oty,op,oa,og⟩:=o
 simp only at hop
 subst hop
 simp[execOp]
theorem Pi [Glob P] {C:Con}{s s1:S}{ops:Array Oper}{i b:Nat}(k:Nat) {o:Oper}{x:Operand}{r j off:Nat}(hik:i<=k) (ho:ops[k]? = some o) (hg:o.guard=none) (hop:o.op = .nilCheck x)
  (he:aH P (words P) C ops.toList b i ((ops.toList.drop i).take (k-i)) s=s1) (hok:s1.ok) (hd:bE s1.n o.dst=true) (hx:s1.ev x = .mptr r j off)
  (hk:au P ro ops (k+1) b { n:=s1.n,t:=s1.put o.dst (.mptr r j off),h:=s1.h,nx:=s1.nx,ok:=True,e:=s1.e } Q):au P ro ops i b s Q:=by
 refine jB (C:=C) k (fun d' h'=>d' = .mptr r j off/\h'=s1.h) hik ho hg (fun c e=>by rw[hop] at e;cases e) he hok hd (fun B g a w hst _=>?_) (fun d h' ⟨hy,hh⟩=>by subst hy;subst hh;exact hk)
 have h1:=bC hst x
 rw[hx] at h1
 have h2:=h1
 generalize hv:a.eval x=v at h2
 cases h2 with|mptr _ _ _ _ hxx _ _ =>
 obtain⟨p,rfl⟩:=hxx
 refine⟨_,_,⟨rfl,rfl⟩,_,g,w,.inl ?_,h1,hst.mem,Mono.refl _ _,fun r hr=>.inl hr⟩
 obtain⟨od,oo,oty,op,oa,og⟩:=o
 simp only at hop
 subst hop
 simp[execOp,hv]
theorem Pe [Glob P] {C:Con}{s s1:S}{ops:Array Oper}{i b:Nat}(k:Nat) {o:Oper}{t e:TypeId}{x y:Operand}{r:Nat}{c d:D}(hik:i<=k) (ho:ops[k]? = some o) (hg:o.guard=none) (hop:o.op = .store t x y)
  (he:aH P (words P) C ops.toList b i ((ops.toList.drop i).take (k-i)) s=s1) (hok:s1.ok) (hd:bE s1.n o.dst=true) (hx:s1.ev x = .mptr r 0 0) (hy:s1.ev y=d) (hr:s1.h r=some ⟨e,[[c]]⟩) (ht:P.cellsOf t=1) (hc:d.cells=[d]) (h1:d.one=true)
  (hk:au P ro ops (k+1) b { n:=s1.n,t:=s1.put o.dst (.v undef),h:=upd s1.h r (some ⟨e,[[d]]⟩),nx:=s1.nx,ok:=True,e:=s1.e } Q):au P ro ops i b s Q:=by
 have hst1:(lF P t (.mptr r 0 0) d s1.h).1=upd s1.h r (some ⟨e,[[d]]⟩):=by
  unfold lF;simp only[hr,hc];rfl
 refine jB (C:=C) k (fun d' h'=>d' = .v undef/\h'=upd s1.h r (some ⟨e,[[d]]⟩)) hik ho hg (fun c e=>by rw[hop] at e;cases e) he hok hd (fun B g a w hst _=>?_) (fun d h' ⟨hy,hh⟩=>by subst hy;subst hh;exact hk)
 have q1:=bC hst x
 rw[hx] at q1
 have q2:=bC hst y
 rw[hy] at q2
 obtain⟨g',w',k1,k2,k3,k4⟩:=Fe (t:=t) hst.mem q1 q2 (by unfold lF;simp only[hr,hc];exact⟨by simp[ht],om,by simp,by simp,by simp[h1]⟩)
 rw[hst1] at k2
 refine⟨_,_,⟨rfl,rfl⟩,undef,g',w',.inr ⟨?_,rfl⟩,.v _,k2,k3,fun r hr=>.inl (k4 r hr)⟩
 obtain⟨od,oo,oty,op,oa,og⟩:=o
 simp only at hop
 subst hop
 simp[execOp,k1]
section
variable [Glob P] (C : Con) {s s1 : S} {ops : Array Oper} {i b : Nat} {o : Oper} (k : Nat)
theorem UT {x:Operand}{d:D}(hk:au P ro ops (k+1) b { n:=s1.n,t:=s1.put o.dst d,h:=s1.h,nx:=s1.nx,ok:=True,e:=s1.e } Q)
  (hik:i<=k:=by omega) (ho:ops[k]? = some o:=by exact bM rfl) (hg:o.guard=none:=by exact rfl) (hop:o.op = .assign x:=by exact rfl) (he:aH P (words P) C ops.toList b i ((ops.toList.drop i).take (k-i)) s=s1:=by first|rfl|(simp only[Yf,X9,Ya,Yj,S.put,YB,Nat.reduceSub,go_sem,ff];first|done|exact rfl)) (hok:s1.ok:=by (try simp only[go_sem,ff]);all_goals exact ok0) (hd:bE s1.n o.dst=true:=by (try simp only[go_sem,ff]);all_goals (first|done|rfl|decide|simp)) (hx:s1.ev x=d:=by first|rfl|(simp only[go_sem,ff];first|done|exact rfl)):au P ro ops i b s Q:=Pz k hik ho hg hop he hok hd hx hk
theorem UA {x:Operand}{r j off:Nat}(hk:au P ro ops (k+1) b { n:=s1.n,t:=s1.put o.dst (.mptr r j off),h:=s1.h,nx:=s1.nx,ok:=True,e:=s1.e } Q)
  (hik:i<=k:=by omega) (ho:ops[k]? = some o:=by exact bM rfl) (hg:o.guard=none:=by exact rfl) (hop:o.op = .nilCheck x:=by exact rfl) (he:aH P (words P) C ops.toList b i ((ops.toList.drop i).take (k-i)) s=s1:=by first|rfl|(simp only[Yf,X9,Ya,Yj,S.put,YB,Nat.reduceSub,go_sem,ff];first|done|exact rfl)) (hok:s1.ok:=by (try simp only[go_sem,ff]);all_goals exact ok0) (hd:bE s1.n o.dst=true:=by (try simp only[go_sem,ff]);all_goals (first|done|rfl|decide|simp)) (hx:s1.ev x = .mptr r j off:=by first|rfl|(simp only[go_sem,ff];first|done|exact rfl)):au P ro ops i b s Q:=Pi k hik ho hg hop he hok hd hx hk
theorem gst1 {t e:TypeId}{x y:Operand}{r:Nat}{c d:D}(hk:au P ro ops (k+1) b { n:=s1.n,t:=s1.put o.dst (.v undef),h:=upd s1.h r (some ⟨e,[[d]]⟩),nx:=s1.nx,ok:=True,e:=s1.e } Q)
  (hik:i<=k:=by omega) (ho:ops[k]? = some o:=by exact bM rfl) (hg:o.guard=none:=by exact rfl) (hop:o.op = .store t x y:=by exact rfl) (he:aH P (words P) C ops.toList b i ((ops.toList.drop i).take (k-i)) s=s1:=by first|rfl|(simp only[Yf,X9,Ya,Yj,S.put,YB,Nat.reduceSub,go_sem,ff];first|done|exact rfl)) (hok:s1.ok:=by (try simp only[go_sem,ff]);all_goals exact ok0) (hd:bE s1.n o.dst=true:=by (try simp only[go_sem,ff]);all_goals (first|done|rfl|decide|simp)) (hx:s1.ev x = .mptr r 0 0:=by first|rfl|(simp only[go_sem,ff];first|done|exact rfl)) (hy:s1.ev y=d:=by first|rfl|(simp only[go_sem,ff];first|done|exact rfl)) (hr:s1.h r=some ⟨e,[[c]]⟩:=by first|(simp only[upd_same];done)|(simp only[go_sem,ff];first|done|exact rfl)) (ht:P.cellsOf t=1:=by kernel_rfl) (hc:d.cells=[d]:=by rfl) (h1:d.one=true:=by rfl):au P ro ops i b s Q:=Pe k hik ho hg hop he hok hd hx hy hr ht hc h1 hk
theorem JV (C:Con) (hq:Q .normal s.clear) (hi:i=ops.size:=by rfl) (hok:s.ok:=by trivial) (hn:s.nx=b+ops.size:=by rfl):au P ro ops i b s Q:=by
 subst hi
 exact tL (C:=C) (XX _) (by rw[List.drop_of_length_le (by simp)];rfl) hok hn hq
end
end Go.DL
namespace Go.DL
open Go.RowKit
variable {P : Program} {C : Con} {B : Bot}
theorem Py [Glob P] {C:Con}{ro:Option Nat}{Q:Exit->S->Prop}{s s1:S}{ops:Array Oper}{i b:Nat}(k:Nat) {o:Oper}{p:BinOp}{t t':TypeId}{x y:Operand}{vx vy v:Value}(hv:(cz P t p vx vy).1=v) (hp:(cz P t p vx vy).2) (z9:dB P C ops i k o b s s1)
  (hop:o.op = .binOp p t x y t')
  (hx:s1.ev x = .v vx) (hy:s1.ev y = .v vy)
  (hk:au P ro ops (k+1) b { n:=s1.n,t:=s1.put o.dst (.v v),h:=s1.h,nx:=s1.nx,ok:=True,e:=s1.e } Q):au P ro ops i b s Q:=by
 obtain⟨hik,ho,hg,he,hok,hd⟩:=z9
 refine tK (C:=C) k (.v v) v hik ho hg (fun c e=>by rw[hop] at e;cases e) he hok hd (fun B g a w hst=>?_) hk
 have h1:=bC hst x
 rw[hx] at h1
 have h1:=h1.v_inv
 have h2:=bC hst y
 rw[hy] at h2
 have h2:=h2.v_inv
 have hb:=Md hp x y w
 rw[hv] at hb
 refine⟨?_,.v _⟩
 obtain⟨od,oo,oty,op,oa,og⟩:=o
 simp only at hop
 subst hop
 rw[<- h1,<- h2] at hb
 have:execOp a.eval ⟨od,.binOp p t x y t',oty,op,oa,og⟩=(do let v <- (do eqGuard p t x y (a.eval x) (a.eval y);binOp p t (a.eval x) (a.eval y):Sem Value);return .value v):=by
  simp[execOp]
 rw[this,Sem.run_bind,hb]
 rfl
section
variable [Glob P] (C : Con) {ro : Option Nat} {Q : Exit -> S -> Prop} {s sq : S} {ops : Array Oper} {id : Nat} {y : Code}
theorem JY {s1:S}{o:Oper}{i b:Nat}(k:Nat) {p:BinOp}{t t':TypeId}{x y:Operand}{vx vy:Value}(v:Value) (hk:au P ro ops (k+1) b { n:=s1.n,t:=s1.put o.dst (.v v),h:=s1.h,nx:=s1.nx,ok:=True,e:=s1.e } Q)
  (z9:dB P C ops i k o b s s1:=by exact pos) (hop:o.op = .binOp p t x y t':=by exact rfl)
  (hx:s1.ev x = .v vx:=by simp only[go_sem,ff];first|done|exact rfl) (hy:s1.ev y = .v vy:=by simp only[go_sem,ff];first|done|exact rfl) (hv:(cz P t p vx vy).1=v:=by rfl) (hp:(cz P t p vx vy).2:=by trivial):au P ro ops i b s Q:=Py k hv hp z9 hop hx hy hk
end
end Go.DL
namespace Go.DL
open Go.RowKit
variable {P : Program} {C : Con} {B : Bot}
structure MK (C:Con) (ops:Array Oper) (k1 k3 k2:Nat):Prop where
 lt:k1<k3
 le3:k3<=k2
 le:k2<=ops.size
 back : ∀ (i:Nat) o,ops.toList[i]? = some o -> ∀ e∈o.after.toList,Region.binds .any e=true->e.on<i
 ord : ∀ i,k2<=i->i<ops.size -> ∀ j,j<i->((bF ops.toList []).getD i 0).testBit j=true
 quiet : ∀ (i:Nat) o,i<k3->i≠k1->((bF ops.toList []).getD k1 0).testBit i=false->ops.toList[i]? = some o->jZ C o=true
 wait : ∀ i,k3<=i->i<k2->((bF ops.toList []).getD i 0).testBit k1=true
 comm : ∀ (i j:Nat) x y,i<k2->j<i->i≠k1->j≠k1->ops.toList[j]? = some x->ops.toList[i]? = some y->((bF ops.toList []).getD i 0).testBit j=true\/iC C ops.toList x y=true
 call : ∀ (i:Nat) x y,i<k3->i≠k1->ops.toList[i]? = some x->ops.toList[k1]? = some y->((bF ops.toList []).getD k1 0).testBit i=true\/gq ops.toList x y=true
 late : ∀ (i j:Nat) x y,i<=j->j<k3->i≠k1->j≠k1->ops.toList[i]? = some x->ops.toList[j]? = some y -> ∀ z∈looks ops.toList x,y.dst≠some z
theorem Nw {k1 k3 k2:Nat}{listed:Array Bool}(h1:k1<k3) (h2:k3<=k2) (h3 : ∀ j,k3<=j->listed.getD j false=false):todoQ k1 k2 listed=todoQ k1 k3 listed++List.range' k3 (k2-k3):=by
 have e:List.range k2=List.range k3++List.range' k3 (k2-k3):=by
  rw[Y7,Y7];have:k2=k3+(k2-k3):=by omega
  conv=>lhs;rw[this]
  rw[<- Zi]
  simp
 unfold todoQ
 rw[e,List.filter_append]
 congr 1
 refine Zz.2 fun j hj=>?_
 simp only[List.mem_range'_1] at hj
 rw[h3 j hj.1]
 simp
 omega
theorem Oc [Glob P] {ops:Array Oper}{k1 k3 k2 b n:Nat}{ro:Option Nat}{Q:Exit->Act->World->Prop}{w0:World}{g0:Mem}{sq:S}{F:D->H->Nat->S}(Dc:MK C ops k1 k3 k2)
  {o1:Oper} {f:Operand} {args:Array Operand} {ts:Array TypeId} {fid:FuncId} {first caps xs:List D} {R:D->H->Nat->Prop} {X:List PanicEntry->H->Nat->Prop}
  (ho:ops[k1]? = some o1) (hop:o1.op = .call { callee:=.value f,args:=args,argTypes:=ts }) (hg:o1.guard=none) (hd:bE sq.n o1.dst=true)
  (hf:sq.ev f = .fn (.func fid) first caps) (hxg:(args.toList.map sq.ev).all sg=true) (hx:(args.toList.map sq.ev).map sd=xs) (hct:gX P fid (first++xs++caps) sq.h (b+k2) R X) (hok:sq.ok)
  (hst : ∀ res h' n',R res h' n' -> ∀ (i:Nat) o,i<k3->i≠k1->((bF ops.toList []).getD k1 0).testBit i=false->ops.toList[i]? = some o ->
   aM P (words P) C ops.toList b i o sq.n sq.ev sq.t h'=((aM P (words P) C ops.toList b i o sq.n sq.ev sq.t sq.h).1,h',(aM P (words P) C ops.toList b i o sq.n sq.ev sq.t sq.h).2.2))
  (hF : ∀ res h' n',R res h' n'->(List.range' k3 (k2-k3)).foldl (aJ P (words P) C ops.toList n') { n:=sq.n,t:=sq.put o1.dst res,h:=h',nx:=n'+ops.size,ok:=True,e:=sq.e }=F res h' n'/\(F res h' n').ok)
  (hQ : ∀ res h' n',R res h' n' -> ∀ g' a' w',St P B (F res h' n') g' a' w'->Mono g0 g' w0 w'->(∀ r,g'.U r->r<n'+k2)->wpOpsIn (Fw ro) n P ops Q (List.range' k2 (ops.size-k2)) a' w')
  (hp : ∀ c h' n',X c h' n' -> ∀ (t:Nat->D) g' a' w',St P B { n:=sq.n,t:=t,h:=h',nx:=n',ok:=True,e:=sq.e } g' a' w'->Mono g0 g' w0 w'->(∀ r,g'.U r->r<n')->Q (.panic c) a' w') :
  ∀ (fuel:Nat) (listed:Array Bool) (s:S) (g:Mem) (a:Act) (w:World),listed.size=ops.size->listed.getD k1 false=false->(∀ j,k3<=j->listed.getD j false=false)->(todoQ k1 k3 listed).length+(k2-k3)+1+(ops.size-k2)<=fuel->Closed ops listed ->
   St P B s g a w->Mono g0 g w0 w->(∀ r,g.U r->r<b \/ ∃ j,listed.getD j false=true/\j<k3/\r=b+j)->(todoQ k1 k3 listed).foldl (aJ P (words P) C ops.toList b) s=sq ->
   wpAnyIn (Fw ro) n P .any ops Q fuel listed a w:=by
 intro fuel
 have hle:=Dc.le
 have hlt1:=Dc.lt
 have hle3:=Dc.le3
 induction fuel with
 | zero=>intro listed s g a w hsz hk1 hk2 hfu;omega
 | succ fuel ih =>
  intro listed s g a w hsz hk1 hk2 hfu hX hs hm hU hfin;refine⟨fun hr=>?_,fun i hi=>?_⟩
  .
   exfalso
   have:=Gt hsz Dc.back hr k1 om;rw[hk1] at this;cases this
  obtain⟨hlt,h1f,hpred⟩:=(mh hsz).1 hi;have hik:i<k2:=by
   by_cases q:i<k2
   .
    exact q
   exfalso
   have:=o9 (L:=ops.toList) (X:=fun k=>listed.getD k false=true) hX i ops[i] (by simp[hlt]) hpred k1 (Dc.ord i om hlt k1 om)
   rw[hk1] at this;cases this
  have hik3:i<k3:=by
   by_cases q:i<k3
   .
    exact q
   exfalso
   have:=o9 (L:=ops.toList) (X:=fun k=>listed.getD k false=true) hX i ops[i] (by simp[hlt]) hpred k1 (Dc.wait i om hik)
   rw[hk1] at this;cases this
  by_cases hne:i=k1
  .
   subst hne;have ho':ops.toList[i]? = some o1:=by rw[Zg];exact ho
   have hoi:ops[i]=o1:=by
    have:ops[i]? = some ops[i]:=by simp[hlt]
    rw[ho] at this;exact (Z8 this).symm
   have hslot : ∀ j∈todoQ i k3 listed,∀ x,ops.toList[j]? = some x->((bF ops.toList []).getD i 0).testBit j=false/\gq ops.toList x o1=true:=by
    intro j hj x hxj;obtain⟨j1,j2,j3⟩:=mem_todoQ.1 hj;have hnb:((bF ops.toList []).getD i 0).testBit j=false:=by
     cases q:((bF ops.toList []).getD i 0).testBit j with
     | false=>rfl
     | true =>
      have:=o9 (L:=ops.toList) (X:=fun k=>listed.getD k false=true) hX i ops[i] (by simp[hlt]) hpred j q
      rw[j3] at this;cases this
    rcases Dc.call j x o1 j1 j2 hxj ho' with h|h
    .
     rw[hnb] at h;cases h
    exact⟨hnb,h⟩
   have hlk:=wE (P:=P) (W:=words P) (C:=C) (L:=ops.toList) (b:=b) (y:=o1) (todoQ i k3 listed) s fun j hj x hxj=>(hslot j hj x hxj).2
   rw[hfin,hop] at hlk;simp only[aN,X8,YN] at hlk;have hsqh:sq.h=s.h:=by
    rw[<- hfin];exact zC _ _ fun j hj o ho=>Dc.quiet j o (mem_todoQ.1 hj).1 (mem_todoQ.1 hj).2.1 (hslot j hj o ho).1 ho
   have hsqn:sq.n=s.n/\sq.e=s.e:=by rw[<- hfin];exact wD _ _
   rw[hsqh] at hct;rw[hlk.2] at hxg hx;have hf':s.ev f = .fn (.func fid) first caps:=by rw[<- hlk.1];exact hf
   have hU1 : ∀ r,g.U r->r<b+k2:=fun r hr=>by rcases hU r hr with h|⟨j,_,h,rfl⟩<;>omega
   unfold wpOpIn;rw[ho];simp only;have hw:Region.wanted o1 (yielded ops a.tmps)=true:=by simp[Region.wanted,hg]
   rw[X4 hw];have hdef : ∀ c,o1.op ≠ .defer c:=by intro c e;rw[e] at hop;cases hop
   have hsem:o1.semAt (Fw ro).round a.eval=execOp a.eval o1:=Oper.semAt_eq _ _ _ hdef;refine⟨fun _ _=>trivial,?_⟩
   rw[hsem];obtain⟨hbd,hct⟩:=hct;have hfr:=bC hs f;rw[hf'] at hfr;have hxr:=nC (mQ hs args.toList) hxg;rw[hx] at hxr;generalize hv:a.eval f=vf at hfr
   cases hfr with|fn _ _ _ fs cs l1 l2 r1 r2 =>
   have hrun:(execOp a.eval o1).run P w = .ok (.enter fid (fs++args.map a.eval++cs)) w:=by
    simp[execOp,hop,resolve,Deferred.ofValue,hv,invoke,mY hbd]
   rw[hrun,Oper.uponIn_enter];have e:fs++args.map a.eval++cs=(fs.toList++args.toList.map a.eval++cs.toList).toArray:=by apply Zo;simp
   rw[e];refine⟨fun h=>by simp[Fw,Fence.wide] at h,qU ((hct w g _ hs.mem hU1 (Reps.append (Reps.append ⟨by simpa using l1,fun i d x h1 h2=>r1 i d x h1 (by simpa using h2)⟩ hxr) ⟨by simpa using l2,fun i d x h1 h2=>r2 i d x h1 (by simpa using h2)⟩)).mono ?_)⟩
   rintro e w' ⟨g',h',n',q2,q3,q4,⟨v,res,hR,rfl,q1⟩|⟨c,hXp,rfl⟩⟩
   .
    have hs2:=ic hs q3 q2 (show bE s.n o1.dst=true by rw[<- hsqn.1];exact hd) q1 True
    have htodo:todoQ i k3 (listed.setIfInBounds i true)=todoQ i k3 listed:=by
     unfold todoQ;refine Z6 fun k _=>?_
     rw[getD_set (by omega) k]
     by_cases e:k=i
     .
      simp[e]
     have e2:(k==i)=false:=by simpa using e
     rw[e2,ZR]
    have hsorted:(todoQ i k3 listed).Pairwise (· < ·):=Z7 _ ZW;have hff:=zF (P:=P) (W:=words P) (C:=C) (L:=ops.toList) (b:=b) (b':=n') (m:=n'+ops.size) (d:=o1.dst) (res:=res) (h':=h') (sq:=sq) (todoQ i k3 listed) s hsorted (fun j hj o hoj=>by
     obtain⟨j1,j2,j3⟩:=mem_todoQ.1 hj;obtain⟨v3,k4⟩:=hslot j hj o hoj;refine⟨Dc.quiet j o j1 j2 v3 hoj,fun z hz=>?_,fun m hm hjm y hy=>Dc.late j m o y hjm (mem_todoQ.1 hm).1 j2 (mem_todoQ.1 hm).2.1 hoj hy,hst res h' n' hR j o j1 j2 v3 hoj⟩
     simp only[gq,XV,hz] at k4;refine⟨by simpa using k4.2,fun e=>?_⟩
     have:=k4.1;rw[e] at this
     simp at this) hfin hok
    have hk9 : ∀ j,k3<=j->(listed.setIfInBounds i true).getD j false=false:=fun j hj=>by
     rw[getD_set (by omega),hk2 j hj]
     have:(j==i)=false:=by simp;omega
     rw[this];rfl
    have hsp:todoQ i k2 (listed.setIfInBounds i true)=todoQ i k3 listed++List.range' k3 (k2-k3):=by rw[Nw hlt1 hle3 hk9,htodo]
    obtain⟨hF1,hF2⟩:=hF res h' n' hR;refine Be (B:=B) (g0:=g0) (w0:=w0) (b:=n') (k1:=i) (k2:=k2) (fin:=F res h' n') Dc.le Dc.back Dc.ord Dc.comm fuel (listed.setIfInBounds i true) { n:=s.n,t:=s.put o1.dst res,h:=h',nx:=n'+ops.size,ok:=True,e:=s.e } g' _ w' (by simp[hsz]) (fun _=>by rw[getD_set (by omega)];simp) (fun j hj=>hk9 j (by omega)) (by rw[hsp,XY,List.length_range'];omega) (hX.set hsz hi)
     ⟨hs2.sz,hs2.tm,hs2.mem,hs2.df,hs2.en,hs2.bd⟩ (hm.trans q3) (fun r hr=>.inl (q4 r hr)) (by rw[hsp,Zb,hff];exact hF1) hF2 (hQ res h' n' hR)
   have hs2:=ic (dst:=none) hs q3 q2 rfl (.junk undef) True;exact hp c h' n' hXp s.t g' _ w' (by rw[hsqn.1,hsqn.2];exact⟨hs2.sz,hs2.tm,hs2.mem,hs2.df,hs2.en,hs2.bd⟩) (hm.trans q3) q4
  refine BK om (fun i j x y q1 q2=>Dc.comm i j x y om q2) hsz hX hs hU hfin hok hi hik3 hne fun g' a' w' s' q1 q2 q3 q4 q5=>?_
  refine ih _ s' g' a' w' (by simp[hsz]) (by rw[getD_set (by omega),hk1];simp;exact fun h=>hne h.symm) (fun j hj=>?_) (by omega) (hX.set hsz hi) q1 (hm.trans q2) q3 q4
  rw[getD_set (by omega),hk2 j hj]
  have:(j==i)=false:=by simp;omega
  rw[this];rfl
def wM (C:Con) (L:List Oper) (k1 k3 k2:Nat):Bool :=
 decide (k1<k3)&&decide (k3<=k2)&&decide (k2<=L.length)&&gH L
 && ((List.range L.length).all fun i=>decide (i<k2)||(List.range i).all fun j=>((bF L []).getD i 0).testBit j)
 && ((List.range k2).all fun i=>decide (i<k3)||((bF L []).getD i 0).testBit k1)
 && ((List.range k3).all fun i=>i==k1||((jZ C (L.getD i default)||((bF L []).getD k1 0).testBit i)&&(((bF L []).getD k1 0).testBit i||gq L (L.getD i default) (L.getD k1 default))))
 && ((List.range k2).all fun i=>i==k1||(List.range i).all fun j=>j==k1||((bF L []).getD i 0).testBit j||iC C L (L.getD j default) (L.getD i default))
 && ((List.range k3).all fun j=>j==k1||(List.range (j+1)).all fun i=>i==k1||match (L.getD j default).dst with
  | none=>true
  | some d=>!(looks L (L.getD i default)).contains d)
theorem VK {ops:Array Oper}{k1 k3 k2:Nat}(h:wM C ops.toList k1 k3 k2=true):MK C ops k1 k3 k2:=by
 unfold wM at h
 simp only[XV,XW] at h
 obtain⟨⟨⟨⟨⟨⟨⟨⟨h1,h12⟩,h2⟩,h3⟩,h4⟩,h7⟩,h5⟩,h8⟩,h6⟩:=h
 have hat : ∀ (i:Nat) o,ops.toList[i]? = some o->ops.toList.getD i default=o:=fun i o ho=>by simp only[List.getD,ho,YS]
 simp only[YO,Zq,Yc,XV,YF,XW] at h4 h5 h6 h7 h8
 refine⟨h1,h12,by simpa using h2,?_,?_,?_,?_,?_,?_,?_⟩
 .
  intro i o ho e he hb;unfold gH at h3;simp only[YO,Zq,Yc,Yd,XW] at h3;have:=h3 i (X7.1 ho).1 e (by rw[hat i o ho];exact he)
  rcases this with h|h
  .
   rw[hb] at h;cases h
  exact h
 .
  intro i hi hs j hj
  rcases h4 i (by simpa using hs) with h|h
  .
   omega
  exact h j hj
 .
  intro i o hi hne hnb ho
  rcases h5 i hi with h|h
  .
   exact absurd h hne
  have:=h.1;rw[hat i o ho,hnb] at this;exact this.resolve_right (by simp)
 .
  intro i hi hs
  rcases h7 i hs with h|h
  .
   omega
  exact h
 .
  intro i j x y hi hj hne hnj hx hy
  rcases h8 i hi with h|h
  .
   exact absurd h hne
  rcases h j hj with (h|h)|h
  .
   exact absurd h hnj
  .
   exact .inl h
  rw[hat j x hx,hat i y hy] at h;exact .inr h
 .
  intro i x y hi hne hx hy
  rcases h5 i hi with h|h
  .
   exact absurd h hne
  have:=h.2;rw[hat i x hx,hat k1 y hy] at this;exact this
 intro i j x y hij hj hne hnj hx hy z hz e
 rcases h6 j hj with h|h
 .
  exact absurd h hnj
 rcases h i om with h|h
 .
  exact absurd h hne
 rw[hat i x hx,hat j y hy,e] at h
 simp at h
 exact h hz
theorem KS [Glob P] {ro:Option Nat}{Q:Exit->S->Prop}{s sq:S}{id:Nat}{ops:Array Oper}(k1 k3 k2:Nat) {F:D->H->Nat->S}{o1:Oper}{f:Operand}{args:Array Operand}{ts:Array TypeId}{fid:FuncId}{first caps xs:List D}(R:D->H->Nat->Prop) (X:List PanicEntry->H->Nat->Prop)
  (hmix:P.follows .mixedOrders=true) (hD:wM C ops.toList k1 k3 k2=true) (ho:ops[k1]? = some o1) (hop:o1.op = .call { callee:=.value f,args:=args,argTypes:=ts }) (hg:o1.guard=none)
  (hfin:((List.range k3).filter (· != k1)).foldl (aJ P (words P) C ops.toList s.nx) s=sq) (hok:sq.ok) (hd:bE sq.n o1.dst=true)
  (hf:sq.ev f = .fn (.func fid) first caps) (hxg:(args.toList.map sq.ev).all sg=true) (hx:(args.toList.map sq.ev).map sd=xs) (hct:gX P fid (first++xs++caps) sq.h (s.nx+k2) R X)
  (hst : ∀ res h' n',R res h' n' -> ∀ (i:Nat) o,i<k3->i≠k1->((bF ops.toList []).getD k1 0).testBit i=false->ops.toList[i]? = some o ->
   aM P (words P) C ops.toList s.nx i o sq.n sq.ev sq.t h'=((aM P (words P) C ops.toList s.nx i o sq.n sq.ev sq.t sq.h).1,h',(aM P (words P) C ops.toList s.nx i o sq.n sq.ev sq.t sq.h).2.2))
  (hF : ∀ res h' n',R res h' n'->aH P (words P) C ops.toList n' k3 ((ops.toList.drop k3).take (k2-k3)) { n:=sq.n,t:=sq.put o1.dst res,h:=h',nx:=n'+ops.size,ok:=True,e:=sq.e }=F res h' n')
  (hFo : ∀ res h' n',R res h' n'->(F res h' n').ok) (hFe : ∀ res h' n',R res h' n'->(F res h' n').e=sq.e)
  (hk : ∀ res h' n',R res h' n'->au P ro ops k2 n' (F res h' n') Q)
  (hp : ∀ c h' n',X c h' n' -> ∀ t,Q (.panic c) { n:=sq.n,t:=t,h:=h',nx:=n',ok:=True,e:=sq.e }):DW P ro (.region id ops true) Q s:=by
 intro B g a w hs hU
 refine wpIn_region_any hmix ?_
 obtain⟨hs1,hm1⟩:=zV hs
 have Dc:=VK hD
 have hlt:=Dc.lt
 have hle3:=Dc.le3
 have hle:=Dc.le
 have hrep : ∀ i,(Array.replicate ops.size false).getD i false=false:=by
  intro i
  by_cases h:i<ops.size<;>simp[Array.getD,h]
 have htodo:todoQ k1 k3 (Array.replicate ops.size false)=(List.range k3).filter (· != k1):=by
  unfold todoQ;exact Z6 fun i _=>by rw[hrep];simp
 have hlen:(todoQ k1 k3 (Array.replicate ops.size false)).length<k3:=by
  rw[htodo];have:=(List.length_filter_lt_length_iff_exists (p:=fun x=>x != k1) (l:=List.range k3)).2 ⟨k1,by simpa using hlt,by simp⟩
  simpa using this
 have hse:sq.e=s.e:=by rw[<- hfin];exact (wD _ _).2
 refine Oc (B:=B) (C:=C) (g0:=g) (w0:=w) (b:=s.nx) (n:=0) (F:=F) Dc ho hop hg hd hf hxg hx hct hok hst (fun res h' n' hR=>⟨?_,hFo res h' n' hR⟩) (fun res h' n' hR g' a' w' q1 q2 q3=>?_) (fun c h' n' hXp t g' a' w' q1 q2 q3=>⟨_,g',hp c h' n' hXp t,q1,by rw[<- hse];exact q2.toX,q3,by rw[<- hse]⟩) ops.size _ s g a _ (by simp) (hrep k1) (fun j _=>hrep j) (by omega) (fun i o _ hi=>by rw[hrep] at hi;cases hi) hs1 hm1 (fun r hr=>.inl (hU r hr)) (by rw[htodo];exact hfin)
 .
  rw[<- hF res h' n' hR];exact (zM (k2-k3) k3 _ (by simp;omega)).symm
 have:=hk res h' n' hR B g g' a' w w' q1 q2 q3
 simp only[hFe res h' n' hR,hse] at this
 exact this
theorem FY [Glob P] {ro:Option Nat}{Q:Exit->S->Prop}{ops:Array Oper}{i b:Nat}{s:S}(h:au P ro ops i b { n:=s.n,t:=s.t,h:=s.h,nx:=s.nx,ok:=True,e:=s.e } Q):au P ro ops i b s Q :=
 fun B g0 g a w0 w hs hm hU=>h B g0 g a w0 w ⟨hs.sz,hs.tm,hs.mem,hs.df,hs.en,hs.bd⟩ hm hU
section
variable [Glob P] (C : Con) {ro : Option Nat} {Q : Exit -> S -> Prop} {s sq : S} {ops : Array Oper} {id : Nat} {y : Code}
theorem zW (k1 k3 k2:Nat) (fl:List (Nat×Nat)) {o1:Oper}{f:Operand}{args:Array Operand}{ts:Array TypeId}{fid:FuncId}{first caps xs:List D}{R:D->H->Nat->Prop}{X:List PanicEntry->H->Nat->Prop}
  (hmix:P.follows .mixedOrders=true:=by exact jL) (hD:wM C ops.toList k1 k3 k2=true:=by kernel_rfl) (hfl:zI C ops.toList k1 k3 fl=true:=by kernel_rfl) (ho:ops[k1]? = some o1:=by exact bM rfl) (hop:o1.op = .call { callee:=.value f,args:=args,argTypes:=ts }:=by exact rfl) (hg:o1.guard=none:=by exact rfl)
  (hfin:((List.range k3).filter (· != k1)).foldl (aJ P (words P) C ops.toList s.nx) s=sq:=by exact BL (by decide) (by decide) (by simp only[Yf,X9,Ya,Yj,S.put,YB,Nat.reduceSub,Nat.reduceAdd,go_sem,ff];exact rfl) (by simp only[Yf,X9,Ya,Yj,S.put,YB,Nat.reduceSub,Nat.reduceAdd,go_sem,ff];exact rfl)) (hok:sq.ok:=by (try simp only[go_sem,ff]);all_goals exact ok0) (hd:bE sq.n o1.dst=true:=by (try simp only[go_sem,ff]);all_goals (first|done|rfl|decide|simp))
  (hf:sq.ev f = .fn (.func fid) first caps:=by simp only[go_sem,ff];first|done|exact rfl) (hxg:(args.toList.map sq.ev).all sg=true:=by simp only[go_sem,ff]) (hx:(args.toList.map sq.ev).map sd=xs:=by simp only[go_sem,ff];first|done|exact rfl)
  (hct:gX P fid (first++xs++caps) sq.h (s.nx+k2) R X)
  (hkeep : ∀ res h' n',R res h' n' -> ∀ p∈fl,∀ r,named r (sd (sq.t p.2))=true->h' r=sq.h r)
  (hFo : ∀ res h' n',R res h' n'->(aH P (words P) C ops.toList n' k3 ((ops.toList.drop k3).take (k2-k3)) { n:=sq.n,t:=sq.put o1.dst res,h:=h',nx:=n'+ops.size,ok:=True,e:=sq.e }).ok)
  (hk : ∀ res h' n',R res h' n'->au P ro ops k2 n' (aH P (words P) C ops.toList n' k3 ((ops.toList.drop k3).take (k2-k3)) { n:=sq.n,t:=sq.put o1.dst res,h:=h',nx:=n'+ops.size,ok:=True,e:=sq.e }) Q)
  (hp : ∀ c h' n',X c h' n' -> ∀ t,Q (.panic c) { n:=sq.n,t:=t,h:=h',nx:=n',ok:=True,e:=sq.e }):DW P ro (.region id ops true) Q s :=
 (KS (F:=fun res h' n'=>(aH P (words P) C ops.toList n' k3 ((ops.toList.drop k3).take (k2-k3)) { n:=sq.n,t:=sq.put o1.dst res,h:=h',nx:=n'+ops.size,ok:=True,e:=sq.e })) k1 k3 k2 R X hmix hD ho hop hg hfin hok hd hf hxg hx hct (fun res h' n' hr i o hi hne hb ho=>Kq hfl (hkeep res h' n' hr) i o hi hne hb ho) (fun _ _ _ _=>rfl) hFo (fun _ _ _ _=>lU _ _ _ _ _) hk hp)
theorem gto {s s1:S}{i b:Nat}(hk:au P ro ops i b { n:=s1.n,t:=s1.t,h:=s1.h,nx:=s1.nx,ok:=True,e:=s1.e } Q) (he:s=s1:=by simp only[Yf,X9,Ya,Yj,S.put,YB,Nat.reduceSub,Nat.reduceAdd,go_sem,ff];first|done|exact rfl):au P ro ops i b s Q:=by
 subst he
 exact FY hk
end
end Go.DL
namespace Go.Cmp
variable {α : Type} [Inhabited α] {c : α -> α -> Int}
theorem flat_len {n:Nat}:∀ {L:List (List α)},(∀ x∈L,x.length=n)->L.flatten.length=n*L.length
 | [],_=>by simp
 | x::L,h=>by
  rw[List.flatten_cons,XY,h x (by simp),flat_len fun y hy=>h y (by simp[hy]),YM,Nat.mul_succ,Nat.add_comm]
end Go.Cmp
namespace Go.Rec
open Go.DL Go.Str Go.Cmp
def mR (y x:RSet):RSet:=⟨y.name,y.ty,min y.life x.life,canon (y.data++x.data)⟩
end Go.Rec
namespace Go.Rec
open Go.DL Go.Str Go.Cmp
end Go.Rec
namespace Go.Jn
open Go.DL Go.Str Go.Rec Go.Cmp Go.Zon
def d9:Nat->List Str->List Nat
 | _,[]=>[]
 | n,p::l=>(n+p.length)::d9 (n+p.length) l
theorem catB_cons (p:Str) (l:List Str):catB (p::l)=p++catB l:=by simp[catB]
theorem pG : ∀ (n:Nat) (l:List Str),(d9 n l).length=l.length
 | _,[]=>rfl
 | n,p::l=>by simp[d9,pG (n+p.length) l]
theorem wH : ∀ (n:Nat) (l:List (Zon×Nat)),(dz n l).length=l.length
 | _,[]=>rfl
 | n,p::l=>by simp[dz,wH (n+p.2) l]
theorem KL : ∀ (n:Nat) (l m:List (Zon×Nat)),dz n (l++m)=dz n l++dz (n+sumL l) m
 | n,[],m=>by simp[dz,sumL]
 | n,x::l,m=>by
  show (n+x.2)::dz (n+x.2) (l++m)=_
  rw[KL (n+x.2) l m,iV,Nat.add_assoc];rfl
theorem wC (c:Cnt):fr c []=[]:=by
 cases h:stepC c [] with
 | none=>exact iy h
 | some x=>have:=gZ (z:=x.1) (n:=x.2) h;simp at this;omega
theorem qi {c:Cnt}{p:Str}{y:Zon}{n:Nat}(h:stepC c p=some (y,n)):nextF c p=(some y,n):=by unfold nextF;rw[h]
theorem qj {c:Cnt}{p:Str}(h:stepC c p=none):nextF c p=(c,0):=by unfold nextF;rw[h]
theorem Ja (c:Cnt):∀ (l m:List (Zon×Nat)),je c (l++m)=je (je c l) m:=by
 intro l m
 induction l generalizing c with
 | nil=>rfl
 | cons x l ih=>rw[X0,qo,qo];exact ih _
theorem BS : ∀ (l:List Str) (c:Cnt) (n:Nat),(∃ c',bN c l=some c') ↔ ((∀ p∈l,p≠[])/\dz n (fr c (catB l))=d9 n l)
 | [],c,n=>by
  simp only[bN,Yg,exists_eq',true_iff];refine⟨fun p hp=>(by cases hp),?_⟩
  show dz n (fr c [])=[]
  rw[wC];rfl
 | p::l,c,n=>by
  rw[catB_cons]
  constructor
  .
   rintro⟨c',h⟩;unfold bN at h
   split at h
   .
    rename_i q
    cases hs:stepC c p with
    | none=>rw[qj hs] at q;exact absurd rfl q.1
    | some x =>
     obtain⟨y,k⟩:=x;rw[qi hs] at q h;obtain⟨q1,q2⟩:=q;simp only at q1 q2 h;subst q2;obtain⟨i1,i2⟩:=(BS l (some y) (n+p.length)).1 ⟨c',h⟩;have hl:=rz (r:=catB l) hs;rw[YA] at hl;refine⟨fun q hq=>?_,?_⟩
     .
      rcases YK.1 hq with e|e
      .
       subst e;intro e;subst e;exact q1 rfl
      exact i1 q e
     rw[gL hl,List.drop_left' rfl]
     show (n+p.length)::dz (n+p.length) _=_
     rw[i2];rfl
   cases h
  rintro⟨h1,h2⟩
  cases hs:stepC c (p++catB l) with
  | none=>rw[iy hs] at h2;cases h2
  | some x =>
   obtain⟨y,k⟩:=x;rw[gL hs] at h2;simp only[dz,d9,YN] at h2;obtain⟨h3,h4⟩:=h2;have hk:k=p.length:=by omega
   subst hk;have hp:=rz (r:=[]) hs;rw[List.take_left' rfl,YE] at hp;rw[List.drop_left' rfl] at h4;have h0:p.length≠0:=fun e=>h1 p (by simp) (X5 e)
   obtain⟨c',i⟩:=(BS l (some y) (n+p.length)).2 ⟨fun q hq=>h1 q (by simp[hq]),h4⟩
   refine⟨c',?_⟩;unfold bN;rw[qi hp,X4 ⟨h0,rfl⟩];exact i
theorem BR : ∀ (l:List Str) (c c':Cnt),bN c l=some c'->c'=je c (fr c (catB l))/\sumL (fr c (catB l))=(catB l).length
 | [],c,c',h=>by
  simp only[bN,Yg] at h;subst h;have:catB []=[]:=rfl;rw[this,wC];exact⟨rfl,rfl⟩
 | p::l,c,c',h=>by
  unfold bN at h
  split at h
  .
   rename_i q
   cases hs:stepC c p with
   | none=>rw[qj hs] at q;exact absurd rfl q.1
   | some x =>
    obtain⟨y,k⟩:=x;rw[qi hs] at q h;obtain⟨q1,q2⟩:=q;simp only at q1 q2 h;subst q2;obtain⟨i1,i2⟩:=BR l (some y) c' h;have hl:=rz (r:=catB l) hs;rw[YA] at hl;rw[catB_cons,gL hl,List.drop_left' rfl,qo,iV,XY];exact⟨i1,by rw[i2]⟩
  cases h
theorem zB (b:Str):frs b=fr none b:=rfl
theorem kK (b:Str):wholeC b=je none (frs b):=by
 unfold wholeC je
 cases h:(frs b).getLast? <;> rfl
theorem qa (b:Str):(partB b).length=sumL (frs b):=by
 have:=wB _ none b (XX _)
 unfold partB
 rw[Yv]
 exact ZM this
theorem vJ (b:Str):frs (partB b)=frs b:=UW _ none b (XX _)
theorem Rm (b:Str):partB (partB b)=partB b:=by
 have e:partB (partB b)=(partB b).take (sumL (frs (partB b))):=rfl
 rw[e,vJ,<- qa,YA]
theorem BV (b:Str):wholeC (partB b)=wholeC b:=by rw[kK,kK,vJ]
theorem wz (b r:Str):frs (partB b++r)=frs b++fr (wholeC b) r:=by
 have h:=U0 _ none (partB b) r (XX _) (by show sumL (frs (partB b))=_;rw[vJ,qa])
 have e:fr none (partB b)=frs b:=vJ b
 rw[e,<- kK] at h
 exact h
def uK (d:Dsk):Bool:=decide (d.safe.length<=1000000)&&decide (d.pend.length<=200)&&decide (∀ p∈d.pend,p≠[])&&decide (endsB (partB d.safe++catB d.pend)=endsB (partB d.safe)++d9 (partB d.safe).length d.pend)
theorem KH (d:Dsk):endsB (partB d.safe++catB d.pend)=endsB (partB d.safe)++dz (partB d.safe).length (fr (wholeC d.safe) (catB d.pend)):=by
 unfold endsB
 rw[wz,vJ,KL,Nat.zero_add,<- qa]
theorem XM (d:Dsk):uK d=(openF d).isSome:=by
 unfold uK openF
 rw[KH]
 by_cases h:1000000<d.safe.length\/200<d.pend.length
 .
  rw[X4 h]
  rcases h with h|h
  .
   rw[Zc (show ¬ d.safe.length<=1000000 by omega)];simp
  rw[Zc (show ¬ d.pend.length<=200 by omega)];simp
 rw[XZ h]
 have h1:d.safe.length<=1000000:=by omega
 have h2:d.pend.length<=200:=by omega
 rw[YU h1,YU h2,Zt,Zt]
 have k:=BS d.pend (wholeC d.safe) (partB d.safe).length
 cases hp:bN (wholeC d.safe) d.pend with
 | none =>
  rw[hp] at k;have : ¬ ((∀ p∈d.pend,p≠[])/\dz (partB d.safe).length (fr (wholeC d.safe) (catB d.pend))=d9 (partB d.safe).length d.pend):=fun q=>by obtain⟨c',h⟩:=k.2 q;cases h
  show _=false
  rw[Yx,X6,X6]
  by_cases q : ∀ p∈d.pend,p≠[]
  .
   exact .inr fun e=>this ⟨q,List.append_cancel_left e⟩
  exact .inl q
 | some c =>
  obtain⟨q1,q2⟩:=k.1 ⟨c,hp⟩
  show _=true
  rw[XV,decide_eq_true_iff,decide_eq_true_iff];exact⟨q1,by rw[q2]⟩
theorem jJ {d:Dsk}{o:Opn}(h:openF d=some o):d.safe.length<=1000000/\d.pend.length<=200/\o.whole=partB d.safe/\o.size=((partB d.safe).length+(catB d.pend).length:Nat)/\o.saved=wholeC d.safe/\bN (wholeC d.safe) d.pend=some o.all:=by
 unfold openF at h
 split at h
 .
  cases h
 rename_i q
 split at h
 .
  cases h
 rename_i c hc
 cases h
 exact⟨om,om,rfl,by push_cast;rfl,rfl,hc⟩
theorem RI {d:Dsk}{o:Opn}(h:openF d=some o):o.all=wholeC (partB d.safe++catB d.pend)/\partB (partB d.safe++catB d.pend)=partB d.safe++catB d.pend:=by
 obtain⟨_,_,_,_,_,h6⟩:=jJ h
 obtain⟨h7,h8⟩:=BR _ _ _ h6
 constructor
 .
  rw[kK,wz,Ja,<- kK,h7]
 have e:partB (partB d.safe++catB d.pend)=(partB d.safe++catB d.pend).take (sumL (frs (partB d.safe++catB d.pend))):=rfl
 rw[e,wz]
 have:sumL (frs d.safe++fr (wholeC d.safe) (catB d.pend))=(partB d.safe++catB d.pend).length:=by
  rw[XY,qa,<- h8]
  simp[sumL]
 rw[this,YA]
theorem Ea (d:Dsk):allR d=if uK d=true then some (partB d.safe++catB d.pend) else none:=by
 rw[XM]
 unfold allR
 cases h:openF d with
 | none=>rfl
 | some o=>obtain⟨_,_,h3,_⟩:=jJ h;rw[YP,h3];rfl
def mq (w:Str):Zon:=if (cK (w,false)).2.2=true then zon0 else (cK (w,false)).1
def jI (w:Str):Dlt:=if (aZ (w,false)).2.2=true then dlt0 else (aZ (w,false)).1
def val1:D->Value
 | .v x=>x
 | _=>undef
@[go_sem] theorem val1_v (x:Value):val1 (.v x)=x:=rfl
def isE:Value->Bool
 | .nilIface=>false
 | _=>true
def Opn.d (o:Opn):List D:=.list false (o.whole.map bD) :: .i o.size::(o.saved.d++o.all.d)
def opn0:Opn:=⟨[],0,none,none⟩
def opnOf (d:Dsk):Opn:=(openF d).getD opn0
@[go_sem] theorem cnt_d (c:Cnt):c.d=[.v (.bool c.isSome),.v (.string (bs (c.getD zon0).apex)),.list false ((c.getD zon0).sets.map Sgd.d)]:=rfl
def mkC (b:Bool) (z:Zon):Cnt:=if b then some z else none
@[go_sem] theorem mkC_t (z:Zon):mkC true z=some z:=rfl
@[go_sem] theorem mkC_f (z:Zon):mkC false z=none:=rfl
@[go_sem] theorem mkC_c (c:Cnt):mkC c.isSome (c.getD zon0)=c:=by
 cases c<;>rfl
@[go_sem] theorem cnt1_agg {b:Bool}{s:ByteArray}{f:Bool}{rows:List (List D)}:cnt1 (.agg [.v (.bool b),.v (.string s),.list f rows])=mkC b (zon1 (.agg [.v (.string s),.list f rows])):=by
 cases b<;>rfl
attribute [go_sem] Option.isSome_some Option.isSome_none Option.getD_some Option.getD_none
@[go_sem] theorem dsk_d (x:Dsk):x.d=[.list false (x.safe.map bD),.list false (x.pend.map byR)]:=rfl
@[go_sem] theorem dsk1_agg {f g:Bool}{rows rows2:List (List D)}:dsk1 (.agg [.list f rows,.list g rows2])=⟨bytes1 (.list f rows),pend1 (.list g rows2)⟩:=rfl
@[go_sem] theorem ZaU {f:Bool}{l:List Str}:pend1 (.list f (l.map byR))=l:=lI (f:=byR) (g:=ofBy) (fun x=>by show bytes1 (.list false (x.map bD))=x;exact WS) l
@[go_sem] theorem ZaT {f:Bool}:pend1 (.list f [])=[]:=rfl
@[go_sem] theorem opn_d (o:Opn):o.d=[.list false (o.whole.map bD),.i o.size,.v (.bool o.saved.isSome),.v (.string (bs (o.saved.getD zon0).apex)),.list false ((o.saved.getD zon0).sets.map Sgd.d),.v (.bool o.all.isSome),.v (.string (bs (o.all.getD zon0).apex)),.list false ((o.all.getD zon0).sets.map Sgd.d)]:=rfl
@[go_sem] theorem R5 {l:List Str}:aR (l.map byR)=true:=by
 induction l with
 | nil=>rfl
 | cons x l ih=>simp[go_sem,byR,aR,aW,D.nr,ih]
@[go_sem] theorem dsk_eta (x:Dsk):(⟨x.safe,x.pend⟩:Dsk)=x:=rfl
end Go.Jn
namespace Go.DL
open Go.RowKit
variable {P : Program} {ro : Option Nat} {Q : Exit -> S -> Prop}
theorem xW [Glob P] {C:Con}{s s1:S}{ops:Array Oper}{i b:Nat}(k:Nat) {o:Oper}{x:Operand}{d r:D}{xT t:TypeId}{v v':Value}(hrun : ∀ w:World,(Instr.typeAssert v xT t true).run P w = .ok v' w) (hv : ∀ (w:World) (g:Mem) q,Rep w g d q->q=v) (hr : ∀ (w:World) (g:Mem),Rep w g r v') (hik:i<=k) (ho:ops[k]? = some o) (hg:o.guard=none) (hop:o.op = .typeAssert x xT t true)
  (he:aH P (words P) C ops.toList b i ((ops.toList.drop i).take (k-i)) s=s1) (hok:s1.ok) (hd:bE s1.n o.dst=true) (hx:s1.ev x=d)
  (hk:au P ro ops (k+1) b { n:=s1.n,t:=s1.put o.dst r,h:=s1.h,nx:=s1.nx,ok:=True,e:=s1.e } Q):au P ro ops i b s Q:=by
 refine jB (C:=C) k (fun d h'=>d=r/\h'=s1.h) hik ho hg (fun c e=>by rw[hop] at e;cases e) he hok hd (fun B g a w hst _=>?_) (fun d h' ⟨hy,hh⟩=>by subst hy;subst hh;exact hk)
 have hxr:=bC hst x
 rw[hx] at hxr
 have hxv:=hv _ _ _ hxr
 refine⟨_,_,⟨rfl,rfl⟩,_,g,w,.inl ?_,hr w g,hst.mem,Mono.refl _ _,fun r hr=>.inl hr⟩
 obtain⟨od,oo,oty,op,oa,og⟩:=o
 simp only at hop
 subst hop
 simp[execOp,hxv,hrun]
theorem Mm {xT t:TypeId}{want:Array (String×TypeId)}{z:Value}{ti:TypeInfo}(hu:P.underlying t=some (.interface want)) (hti:P.info? t=some ti) (hz:ti.zero=some z) (w:World):(Instr.typeAssert .nilIface xT t true).run P w = .ok (.tuple #[z,.bool false]) w:=by
 simp[Instr.typeAssert,run_underlying hu,zeroValue,typeInfo,hti,hz]
theorem Hf [Glob P] {f:FuncId}{args:List D}{res:D}(hnr:args.all D.nr=true) (hc:RCt P f args (fun _=>none) 0 (fun d h' n'=>∃ k,cB h' k d/\wk (bK h' k d)=res)):PureCt P f args res:=by
 refine⟨hc.1,hnr,fun w I vs hI hgr hr=>?_⟩
 have hm:HM P (fun _=>none) (dI I) w:=by
  refine⟨fun _ _=>rfl,?_,?_,?_,hI,hgr⟩
  .
   intro r bl h;cases h
  .
   intro r r' b c c' s s' h;cases h
  intro r h;exact absurd rfl h
 refine (hc.2 w (dI I) vs hm (fun r h=>False.elim h) hr).mono ?_
 rintro e w' ⟨v,g',d,h',n',⟨k,hk,hres⟩,rfl,h2,hmem,hm',hU⟩
 refine⟨v,rfl,⟨hm'.os,hm'.tape,hm'.output,hm'.size,hm'.drawn,fun b hb=>hm'.same b hb (fun r c s h=>by cases h)⟩,?_⟩
 obtain⟨q1,q2⟩:=xK hmem k _ v (lG h2) hk
 have q1:=q1.wk
 have q2:=xn _ q2
 rw[hres] at q1 q2
 refine q1.clean q2 fun b hb=>?_
 rcases hb with hb|⟨r,c,s,hb⟩
 .
  rcases hm'.inew b hb with h|h|⟨r,c,s,h⟩
  .
   exact .inl h
  .
   exact .inr ⟨h,hmem.imm b hb⟩
  cases h
 rcases hm'.new r b c s hb with⟨r',c',s',h⟩|h
 .
  cases h
 exact .inr ⟨h,(iQ hmem hb).1⟩
theorem OC [Glob P] {t:TypeId}{x:D}{a b c:Option D}{h h':H}(hn : ∀ r,named r x=true->h' r=h r):iW P t x a b c h'=iW P t x a b c h:=by
 cases x with
 | mrow r off len =>
  have:=hn r (by simp[named])
  unfold iW;simp only[this]
 | v x=>cases x<;>rfl
 | _=>rfl
theorem Ry [Glob P] {C:Con}{W:Words}{L:List Oper}{b i:Nat}{o:Oper}{ev:Operand->D}{t:Nat->D}{n:Nat}{h h':H}{ty:TypeId}{x:Operand}{l hi m:Option Operand}(hg:o.guard=none) (ho:o.op = .slice ty x l hi m)
  (hn : ∀ r,named r (sd (ev x))=true->h' r=h r):aM P W C L b i o n ev t h'=((aM P W C L b i o n ev t h).1,h',(aM P W C L b i o n ev t h).2.2):=by
 simp only[aM,hg,aG,ho,cu,Yo,Y6,aN,X8,aK,still,OC hn]
def Dj (C:Con) (L:List Oper) (k1 k2:Nat) (fl:List (Nat×Nat)):Bool:=(List.range k2).all fun i=>i==k1||((bF L []).getD k1 0).testBit i||((L.getD i default).guard.isNone&&(aS C (L.getD i default).op == .none||fl.any fun p=>p.1==i&&match (L.getD i default).op with
 | .load _ (.tmp t)=>t==p.2
 | .slice _ (.tmp t) _ _ _=>t==p.2
 | _=>false))
theorem U4 [Glob P] {C:Con}{L:List Oper}{k1 k2:Nat}{fl:List (Nat×Nat)}(h:Dj C L k1 k2 fl=true) {h':H}{sq:S}{b:Nat}(hk : ∀ p∈fl,∀ r,named r (sd (sq.t p.2))=true->h' r=sq.h r) (i:Nat) (o:Oper) (hi:i<k2) (hne:i≠k1) (hb:((bF L []).getD k1 0).testBit i=false) (ho:L[i]? = some o) :
  aM P (words P) C L b i o sq.n sq.ev sq.t h'=((aM P (words P) C L b i o sq.n sq.ev sq.t sq.h).1,h',(aM P (words P) C L b i o sq.n sq.ev sq.t sq.h).2.2):=by
 have hat:L.getD i default=o:=by simp only[List.getD,ho,YS]
 unfold Dj at h
 have h1:=YO.1 h i (Zq.2 hi)
 rw[hat,hb] at h1
 simp only[ZR,Yc,YF,XV,List.any_eq_true] at h1
 rcases h1 with h1|⟨hg,h1|⟨p,hp,h2,h3⟩⟩
 .
  exact absurd h1 hne
 .
  exact yI (Y9.1 hg) (.inl h1)
 cases hop:o.op with
 | load ty x =>
  rw[hop] at h3
  cases x with
  | tmp t =>
   simp only[YF] at h3;subst h3;refine yI (Y9.1 hg) (.inr ?_);rw[hop];refine⟨trivial,fun d hd r hr=>?_⟩
   simp only[aN,X8,Yu,Yp] at hd;subst hd;exact hk p hp r hr
  | _=>simp at h3
 | slice ty x l hh m =>
  rw[hop] at h3
  cases x with
  | tmp t =>
   simp only[YF] at h3;subst h3;exact Ry (Y9.1 hg) hop fun r hr=>hk p hp r hr
  | _=>simp at h3
 | _=>rw[hop] at h3;simp at h3
section
variable [Glob P] (C : Con) {s sq : S} {ops : Array Oper} {id : Nat} {y : Code}
theorem VN (k1 k3 k2:Nat) (fl:List (Nat×Nat)) {o1:Oper}{f:Operand}{args:Array Operand}{ts:Array TypeId}{fid:FuncId}{first caps xs:List D}{R:D->H->Nat->Prop}{X:List PanicEntry->H->Nat->Prop}
  (hmix:P.follows .mixedOrders=true:=by exact jL) (hD:wM C ops.toList k1 k3 k2=true:=by kernel_rfl) (hfl:Dj C ops.toList k1 k3 fl=true:=by kernel_rfl) (ho:ops[k1]? = some o1:=by exact bM rfl) (hop:o1.op = .call { callee:=.value f,args:=args,argTypes:=ts }:=by exact rfl) (hg:o1.guard=none:=by exact rfl)
  (hfin:((List.range k3).filter (· != k1)).foldl (aJ P (words P) C ops.toList s.nx) s=sq:=by exact BL (by decide) (by decide) (by simp only[Yf,X9,Ya,Yj,S.put,YB,Nat.reduceSub,Nat.reduceAdd,go_sem,ff];exact rfl) (by simp only[Yf,X9,Ya,Yj,S.put,YB,Nat.reduceSub,Nat.reduceAdd,go_sem,ff];exact rfl)) (hok:sq.ok:=by (try simp only[go_sem,ff]);all_goals exact ok0) (hd:bE sq.n o1.dst=true:=by (try simp only[go_sem,ff]);all_goals (first|done|rfl|decide|simp))
  (hf:sq.ev f = .fn (.func fid) first caps:=by simp only[go_sem,ff];first|done|exact rfl) (hxg:(args.toList.map sq.ev).all sg=true:=by simp only[go_sem,ff]) (hx:(args.toList.map sq.ev).map sd=xs:=by simp only[go_sem,ff];first|done|exact rfl)
  (hct:gX P fid (first++xs++caps) sq.h (s.nx+k2) R X)
  (hkeep : ∀ res h' n',R res h' n' -> ∀ p∈fl,∀ r,named r (sd (sq.t p.2))=true->h' r=sq.h r)
  (hFo : ∀ res h' n',R res h' n'->(aH P (words P) C ops.toList n' k3 ((ops.toList.drop k3).take (k2-k3)) { n:=sq.n,t:=sq.put o1.dst res,h:=h',nx:=n'+ops.size,ok:=True,e:=sq.e }).ok)
  (hk : ∀ res h' n',R res h' n'->au P ro ops k2 n' (aH P (words P) C ops.toList n' k3 ((ops.toList.drop k3).take (k2-k3)) { n:=sq.n,t:=sq.put o1.dst res,h:=h',nx:=n'+ops.size,ok:=True,e:=sq.e }) (thenS (DW P ro y Q) Q))
  (hp : ∀ c h' n',X c h' n' -> ∀ t,(thenS (DW P ro y Q) Q) (.panic c) { n:=sq.n,t:=t,h:=h',nx:=n',ok:=True,e:=sq.e }):DW P ro (.seq (.region id ops true) y) Q s :=
 ae (KS (F:=fun res h' n'=>(aH P (words P) C ops.toList n' k3 ((ops.toList.drop k3).take (k2-k3)) { n:=sq.n,t:=sq.put o1.dst res,h:=h',nx:=n'+ops.size,ok:=True,e:=sq.e })) k1 k3 k2 R X hmix hD ho hop hg hfin hok hd hf hxg hx hct (fun res h' n' hr i o hi hne hb ho=>U4 hfl (hkeep res h' n' hr) i o hi hne hb ho) (fun _ _ _ _=>rfl) hFo (fun _ _ _ _=>lU _ _ _ _ _) hk hp)
end
end Go.DL
namespace Go.Zon
open Go.DL
def semS (f:D):Sgd->Option Sgd:=match f with
 | .fn (.func k) _ [d]=>if k=1000000 then d2S (mapc1 d) else fq (mapc1 d)
 | _=>some
@[go_sem] theorem semS_54:semS (.fn (.func 54) [] [])=some:=rfl
@[go_sem] theorem semS_157:semS (.fn (.func 157) [] [])=some:=rfl
end Go.Zon
namespace Go.Proofs.YtjngdcldglkolaaGreatDoor
open Go.DL Go.Str Go.Rec Go.Cmp Go.Zon
set_option maxRecDepth 10000
variable [Glob Tryz.prog] [Told]
end Go.Proofs.YtjngdcldglkolaaGreatDoor
namespace Go.Proofs.YtjngdcldglkolaaGreatDoor
open Go.DL Go.Str Go.Rec Go.Cmp Go.Zon
set_option maxRecDepth 10000
variable [Glob Tryz.prog] [Told]
end Go.Proofs.YtjngdcldglkolaaGreatDoor
namespace Go.Proofs.YtjngdcldglkolaaGreatDoor
open Go.DL Go.Str Go.Rec Go.Cmp Go.Zon
set_option maxRecDepth 10000
variable [Glob Tryz.prog] [Told]
end Go.Proofs.YtjngdcldglkolaaGreatDoor
namespace Go.DL
open Go.RowKit
variable {P : Program}
def Ee (cf:List D->List D->Int) (rows:List (List D)):Prop:=rows.Pairwise fun x y=>¬ cf y x<0
structure XU (cf:List D->List D->Int) (rows:List (List D)):Prop where
 irrefl : ∀ x∈rows,¬ cf x x<0
 trans : ∀ x∈rows,∀ y∈rows,∀ z∈rows,cf x y<0->cf y z<0->cf x z<0
 ntrans : ∀ x∈rows,∀ y∈rows,∀ z∈rows,¬ cf x y<0 -> ¬ cf y z<0 -> ¬ cf x z<0
theorem Bj (enc:Nat->List Value) (k:Nat) (w:World) (b m:Nat) (d:Array Nat) (os:Array Obj) (i:Nat) (hi:i<w.heap.size) (hb:i≠b):(Go.Proofs.sortWorldK enc k w b 0 m d os).heap[i]? = w.heap[i]? := by
 unfold Go.Proofs.sortWorldK Go.Sort.putRowK Go.Sort.putRow Go.Sort.mapBlock Go.Sort.grow
 simp only[Go.Sort.ahead]
 rw[Array.getElem?_append_left (by simpa using hi),Array.getElem?_modify,XZ (Ne.symm hb)]
theorem Oq (enc:Nat->List Value) (k:Nat) (w:World) (b m:Nat) (d:Array Nat) (os:Array Obj) {cur:Array Value}{ty:TypeId}(hb:w.heap[b]? = some (.cells cur ty (0,0))) :
  (Go.Proofs.sortWorldK enc k w b 0 m d os).heap[b]? = some (.cells (Go.Sort.putCells id 0 (Go.Sort.flatK enc k d) cur) ty (0,0)):=by
 have hi:b<w.heap.size:=(Yl.1 hb).1
 unfold Go.Proofs.sortWorldK Go.Sort.putRowK Go.Sort.putRow Go.Sort.mapBlock Go.Sort.grow
 simp only[Go.Sort.ahead]
 rw[Array.getElem?_append_left (by simpa using hi),Array.getElem?_modify,X4 rfl,hb]
 rfl
theorem Fq (enc:Nat->List Value) (k:Nat) (w:World) (b m:Nat) (d:Array Nat) (os:Array Obj):(Go.Proofs.sortWorldK enc k w b 0 m d os).heap.size=w.heap.size+os.size:=by
 unfold Go.Proofs.sortWorldK Go.Sort.putRowK Go.Sort.putRow Go.Sort.mapBlock Go.Sort.grow
 simp[Go.Sort.ahead]
theorem Xm {w w':World}(h:w9 w w'):∃ q os,w'=Go.Sort.grow (w.drewN q) os:=by
 refine⟨w'.drawn-w.drawn,w'.heap.extract w.heap.size w'.heap.size,?_⟩
 obtain⟨h1,h2,h3,h4,h5,h6⟩:=h
 have hh:w'.heap=w.heap++w'.heap.extract w.heap.size w'.heap.size:=by
  apply Array.ext_getElem?
  intro i
  by_cases hi:i<w.heap.size
  .
   rw[Array.getElem?_append_left hi,h6 i hi]
  rw[Array.getElem?_append_right (by omega),Array.getElem?_extract]
  by_cases hj:i<w'.heap.size
  .
   rw[X4 (by omega)]
   congr 1
   omega
  rw[XZ (by omega),Array.getElem?_eq_none (by omega)]
 cases w'
 cases w
 simp only at h1 h2 h3 h5 hh
 simp only[Go.Sort.grow,World.drewN,World.mk.injEq]
 refine⟨hh,h2,?_,h1,h3⟩
 omega
theorem Oo [Glob P] {ρ:Go.Shelf.Ren}(L:Go.Proofs.SlLaysF0.n6 P ρ) {fS ty:Nat}(hfS:ρ.f 6=fS) (hty:ρ.t 24=ty) (aE : ∀ w,(isAgg ty).run P w = .ok true w) (zE : ∀ w,(Go.sizeOf ty).run P w = .ok (P.cellsOf ty) w)
  {r nf g:Nat} {rows:List (List D)} {h:H} {caps:List D} (cf:List D->List D->Int) (hbS:bT P fS=true) (hr:h r=some ⟨ty,rows⟩) (hnr:aR rows=true) (hcn:caps.all D.nr=true) (hmax:rows.length<4611686018427387904)
  (hcmp : ∀ x∈rows,∀ y∈rows,PureCt P g ([.agg x,.agg y]++caps) (.i (cf x y))) (hO:XU cf rows) :
  RCt P fS [.mrow r 0 rows.length,.fn (.func g) [] caps] h nf (fun d h' n'=>d = .tuple []/\n'=nf /\ ∃ rows',rows'.Perm rows/\Ee cf rows'/\h'=upd h r (some ⟨ty,rows'⟩)):=by
 refine⟨hbS,fun w gm vs hm hU hrs=>?_⟩
 obtain⟨x,vs1,rfl,hx,h1⟩:=hrs.of_cons
 obtain⟨f,vs2,rfl,hf,h2⟩:=h1.of_cons
 rw[h2.of_nil]
 cases hf with|fn _ _ _ fs cs l1 l2 r1 r2 =>
 have hfs:fs = #[]:=ZQ (by simpa using l1.symm)
 subst hfs
 cases hx with|mrow _ _ _ _ _ hUr hv =>
 obtain⟨blk,c,q1,q2,q3,q4,q5⟩:=hm.blk r _ hr
 obtain⟨v1,v2⟩:=hv _ _ _ q1
 by_cases hne:rows=[]
 .
  subst hne;have hx' : ∃ p cap,x = .slice p 0 cap:=by
   rcases v2 with⟨_,a,rfl⟩|⟨_,b,_,rfl⟩
   .
    exact⟨a,0,rfl⟩
   exact⟨_,_,rfl⟩
  obtain⟨p,cap,rfl⟩:=hx';have key:=Go.Proofs.AnyF.slices_SortFunc_none L p cap (.func (.func g) #[] cs) w;rw[hfS] at key;refine callsIn_wide.2 (key.mono ?_);rintro e w' ⟨rfl,rfl⟩;refine⟨_,gm,_,h,nf,⟨rfl,rfl,[],.refl _,.nil,?_⟩,rfl,.mk_tuple (vs:=#[]) .nil,hm,Mono.refl _ _,hU⟩
  funext i
  unfold upd
  split
  .
   rename_i e;subst e;exact hr
  rfl
 have hn0:0<rows.length:=Zm.2 hne
 rcases q5 with⟨_,q5⟩|⟨b,cur,rfl,q6,q7,q8,q9⟩
 .
  simp only at q3;omega
 have q6:=q6.cells v1.2
 have q7:=q7 v1.2
 have q4:=v1.2
 rcases v2 with⟨e0,a,rfl⟩|⟨hc0,b',hb',rfl⟩
 .
  simp only at q3;omega
 cases hb'
 have hbw:b<w.heap.size:=(Yl.1 q6).1
 generalize hk:P.cellsOf ty=k at *
 simp only at q3
 let ix:Nat->Nat:=fun i=>if i<rows.length then i else 0
 have hix : ∀ i,ix i<rows.length:=fun i=>by simp only[ix];split<;>assumption
 have hixs : ∀ i,i<rows.length->ix i=i:=fun i hi=>by simp only[ix];rw[X4 hi]
 let enc:Nat->List Value:=fun i=>(List.range k).map fun j=>cur.getD (ix i*k+j) undef
 have hklen : ∀ i,(enc i).length=k:=fun i=>by simp[enc]
 have hrow : ∀ i,i<rows.length->(rows.getD i []).length=k /\ ∀ (j:Nat) d,(rows.getD i [])[j]? = some d->(enc i)[j]? = some (cur.getD (i*k+j) undef)/\cur[i*k+j]? = some (cur.getD (i*k+j) undef)/\(cur.getD (i*k+j) undef).oneCell'=true/\Rep w gm d (cur.getD (i*k+j) undef):=by
  intro i hi;have e1:rows[i]? = some (rows.getD i []):=by simp[List.getD,hi]
  obtain⟨p1,p2⟩:=q9 i _ e1;simp only[hk] at p1 p2;refine⟨p1,fun j d hd=>?_⟩
  obtain⟨u,u1,u2,u3⟩:=p2 j d hd;have e2:cur.getD (i*k+j) undef=u:=by simp[Zr,u1]
  have hj:j<k:=by rw[<- p1];exact (X7.1 hd).1
  rw[e2];refine⟨by simp[enc,hj,hixs i hi];rw[<- e2];simp[Zr],u1,u2,u3⟩
 have hencI : ∀ i,enc i=enc (ix i):=fun i=>by simp only[enc];rw[hixs (ix i) (hix i)]
 have hone : ∀ i,∀ v∈enc i,v.oneCell'=true:=by
  intro i v hv;rw[hencI] at hv;obtain⟨j,hj⟩:=Ze hv;have hjk:j<k:=by rw[<- hklen (ix i)];exact (X7.1 hj).1
  obtain⟨p1,p2⟩:=hrow (ix i) (hix i);have hd:(rows.getD (ix i) [])[j]? = some ((rows.getD (ix i) [])[j]'(by omega)):=by simp
  obtain⟨u1,_,u2,_⟩:=p2 j _ hd;rw[u1] at hj
  cases hj
  exact u2
 let rw':Nat->List D:=fun i=>rows.getD (ix i) []
 have hmem : ∀ i,rw' i∈rows:=fun i=>by
  have:rw' i=rows[ix i]'(hix i):=by simp[rw',List.getD,hix i]
  rw[this];exact YC _
 let cn:Nat->Nat->Int:=fun i j=>cf (rw' i) (rw' j)
 have hswo:Go.Sort.SWO (Go.Proofs.ltOf cn):=by
  refine⟨fun x=>?_,fun x y z p1 p2=>?_,fun x y z p1 p2=>?_⟩
  .
   simp only[Go.Proofs.ltOf,cn,X6];exact hO.irrefl _ (hmem x)
  .
   simp only[Go.Proofs.ltOf,cn,XW] at *;exact hO.trans _ (hmem x) _ (hmem y) _ (hmem z) p1 p2
  simp only[Go.Proofs.ltOf,cn,X6] at *;exact hO.ntrans _ (hmem x) _ (hmem y) _ (hmem z) p1 p2
 let d:Array Nat:=Array.range rows.length
 have hds:d.size=rows.length:=by simp[d]
 have hdg : ∀ i,i<rows.length->d[i]! = i:=fun i hi=>by simp[d,hi]
 have hmodlt : ∀ t,t<rows.length*k->t / k<rows.length/\t % k<k:=fun t ht=>⟨Nat.div_lt_of_lt_mul (by rw[ZE];exact ht),Nat.mod_lt _ q2⟩
 have hget : ∀ i j,i<rows.length->j<k->(enc i)[j]! = cur.getD (i*k+j) undef:=by
  intro i j hi hj;obtain⟨p1,p2⟩:=hrow i hi;have hd:(rows.getD i [])[j]? = some ((rows.getD i [])[j]'(by omega)):=by simp
  rw[List.getElem!_eq_getElem?_getD,(p2 j _ hd).1];rfl
 have hH:Go.Sort.HoldsK enc k w b 0 d:=by
  intro t ht;simp only[Go.Sort.size_flatK,hds] at ht;rw[Go.Sort.get_flatK _ _ _ _ (by rw[hds];exact ht)]
  obtain⟨t1,t2⟩:=hmodlt t ht;rw[hdg _ t1,hget _ _ t1 t2];have e:t / k*k+t % k=t:=by rw[ZE];exact Nat.div_add_mod t k
  rw[e,Nat.zero_add];have hlt:t<cur.size:=by rw[q7];exact Yz ht (Y2 k q3)
  refine⟨?_,?_⟩
  .
   simp[World.cell?,q6,hlt,id,Zr]
  simp[World.frozen?,q6]
 have hcl:Go.Proofs.CmpLays P g cs enc k cn b 0 d.size w:=by
  intro m os dk hdk x y;obtain⟨hbd,_,hct⟩:=hcmp _ (hmem x) _ (hmem y);have hW:=Fq enc k w b m dk os;have hI : ∀ b',gm.I b'->b'<(Go.Proofs.sortWorldK enc k w b 0 m dk os).heap.size:=fun b' hb'=>by rw[hW];have:=hm.imm b' hb';omega
  have hrep : ∀ {d:D} {v:Value},d.nr=true->Rep w gm d v->Rep (Go.Proofs.sortWorldK enc k w b 0 m dk os) (dI gm.I) d v:=by
   intro d v hd hv;have h1:=Rep.clean (g':=dI gm.I) hv hd (fun b hb=>hb)
   refine Rep.mono (g:=dI gm.I) (g':=dI gm.I) (fun b' hb'=>⟨hb',?_⟩) (fun _ h=>h) (fun _ h=>.inl rfl) h1
   exact Bj enc k w b m dk os b' (hm.imm b' hb') (fun e=>q8 (e ▸ hb'))
  have hagg : ∀ i,Rep (Go.Proofs.sortWorldK enc k w b 0 m dk os) (dI gm.I) (.agg (rw' i)) (.agg (enc i).toArray):=by
   intro i;rw[hencI i];obtain⟨p1,p2⟩:=hrow (ix i) (hix i);refine .mk_agg ⟨by rw[p1,hklen],fun j d v e1 e2=>?_⟩
   obtain⟨u1,_,_,u4⟩:=p2 j d e1;rw[u1] at e2
   cases e2
   exact hrep (jK (uh hnr (hmem i)) (Yk e1)) u4
  have hargs:Reps (Go.Proofs.sortWorldK enc k w b 0 m dk os) (dI gm.I) ([.agg (rw' x),.agg (rw' y)]++caps) ([.agg (enc x).toArray,.agg (enc y).toArray]++cs.toList):=by
   refine Reps.append (.cons (hagg x) (.cons (hagg y) .nil)) ⟨by simpa using l2,fun i d v e1 e2=>?_⟩
   exact hrep (YO.1 hcn d (Yk e1)) (r2 i d v e1 (by simpa using e2))
  have:=callsIn_wide.1 (hct _ gm.I _ hI (hm.gr.later fun b' hb'=>⟨hb',Bj enc k w b m dk os b' (hm.imm b' hb') (fun e=>q8 (e ▸ hb'))⟩) hargs)
  have ea:([.agg (enc x).toArray,.agg (enc y).toArray]++cs.toList:List Value).toArray = #[.agg (enc x).toArray,.agg (enc y).toArray]++cs:=by apply Zo;simp
  rw[ea] at this;refine this.mono ?_;rintro e w' ⟨v,rfl,hb,hv⟩;refine⟨?_,Xm hb⟩;rw[hv.v_inv]
 have key:=Go.Proofs.AnyQ.slices_SortFunc L k (by rw[hty];exact aE) (by rw[hty];exact zE) enc hklen hone cn hswo g cs b 0 c d w (fun args w=>mY (hcmp _ (hmem 0) _ (hmem 0)).1 args w) hcl hH hbw (by rw[hds];exact hmax)
 rw[hfS,hds] at key
 have ev:(Value.slice (some ⟨b,0*k,Option.none⟩) rows.length (c-0))=Value.slice (some ⟨b,0,Option.none⟩) rows.length c:=by simp
 rw[ev]
 refine callsIn_wide.2 (key.mono ?_)
 rintro e w' ⟨rfl,d',n',os,hperm,hsort,rfl⟩
 obtain⟨hsz,_,hpm⟩:=hperm
 rw[hds] at hsz
 have hex : ∀ a:Array Nat,a.size=rows.length->a.extract 0 rows.length=a:=fun a ha=>by rw[<- ha];exact Array.extract_size
 rw[hex d' hsz,hex d hds] at hpm
 have hlt' : ∀ i,i<rows.length->d'[i]! < rows.length:=by
  intro i hi;have h1:d'[i]! ∈ d'.toList:=by
   rw[getElem!_pos d' i (by omega)]
   simp
  have:=hpm.mem_iff.1 h1
  simpa [d] using this
 let rows':List (List D):=d'.toList.map rw'
 have hrows:d.toList.map rw'=rows:=by
  apply List.ext_getElem?
  intro i
  by_cases hi:i<rows.length
  .
   simp[d,hi,rw',hixs i hi,List.getD]
  simp[d,hi]
 have hP:rows'.Perm rows:=by rw[<- hrows];exact hpm.map rw'
 have hS:Ee cf rows':=by
  unfold Ee;rw[ZN];intro i j hi hj hij;have hj':j<rows.length:=by simpa [rows',hsz] using hj
  have:=hsort i j (Ym _) hij hj';simp only[Go.Proofs.ltOf,cn,X6] at this;rw[getElem!_pos d' i (by omega),getElem!_pos d' j (by omega)] at this
  simpa [rows'] using this
 have hl':rows'.length=rows.length:=by simp[rows',hsz]
 have hput:=hm.put (h':=upd h r (some ⟨ty,rows'⟩)) (w':=Go.Proofs.sortWorldK enc k w b 0 n' d' os) r b c ⟨ty,rows'⟩ (Go.Sort.putCells id 0 (Go.Sort.flatK enc k d') cur)
  (.inr (by simp only[hk];exact q1)) (upd_same _ _ _) (fun r' hr'=>.inl (upd_ne _ _ _ _ hr')) (.inr ⟨r,c,_,q1,.inl rfl⟩) (Oq enc k w b n' d' os q6) (by simp[Go.Sort.putCells,q7,hk]) (by simp only[hk];exact q2)
  (by simp only[hl'];exact q3) q4 (by
   intro i row hi;have hil:i<rows.length:=by rw[<- hl'];exact (X7.1 hi).1
   have e1:row=rows.getD (d'[i]!) []:=by
    simp only[rows',YH] at hi;rw[getElem!_pos d' i (by omega)]
    have:d'.toList[i]? = some d'[i]:=by simp
    rw[this] at hi;simp only[YP,Yg] at hi;rw[<- hi];simp only[rw'];rw[hixs _ (by have:=hlt' i hil;rwa [getElem!_pos d' i (by omega)] at this)]
   obtain⟨p1,p2⟩:=hrow _ (hlt' i hil);rw[<- e1] at p1 p2;simp only[hk];refine⟨p1,fun j dd hd=>?_⟩
   have hjk:j<k:=by rw[<- p1];exact (X7.1 hd).1
   obtain⟨u1,u2,u3,u4⟩:=p2 j dd hd;have hbound:i*k+j<rows.length*k:=by
    have:=Y2 k (show i+1<=rows.length from hil)
    rw[Zp,Nat.one_mul] at this;omega
   have hcs:i*k+j<cur.size:=by rw[q7];exact Yz hbound (Y2 k q3)
   refine⟨_,?_,u3,u4⟩;have hdiv:(i*k+j) / k=i:=by rw[ZE,Nat.mul_add_div q2,Nat.div_eq_of_lt hjk];rfl
   have hmod:(i*k+j) % k=j:=by rw[ZE,Z0,Zv hjk]
   simp only[Go.Sort.putCells,Array.getElem?_mapIdx,ZO hcs,YP];rw[X4 ⟨Ym _,by simp only[Go.Sort.size_flatK,hsz];omega⟩,Nat.sub_zero,Go.Sort.get_flatK _ _ _ _ (by rw[hsz];exact hbound),hdiv,hmod,hget _ _ (hlt' i hil) hjk]
   rfl)
  ⟨rfl,rfl,rfl,by rw[Fq];omega,fun i hi hne=>Bj enc k w b n' d' os i hi (fun e=>hne (by rw[e]))⟩ (by unfold Go.Proofs.sortWorldK Go.Sort.putRowK Go.Sort.putRow Go.Sort.mapBlock Go.Sort.grow Go.Sort.ahead;exact ZI _ _)
 obtain⟨g',g1,g2,g3,g4,g5⟩:=hput
 exact⟨_,g',_,_,nf,⟨rfl,rfl,rows',hP,hS,rfl⟩,rfl,.mk_tuple (vs:=#[]) .nil,g4,g5,fun r' hr'=>by
  rcases (g2 r').1 hr' with h|h
  .
   exact hU _ h
  subst h;exact hU _ hUr⟩
end Go.DL
namespace Go.Zon
open Go.DL Go.Str Go.Rec Go.Cmp
def DR (l:List Qst):Nat->List Qst
 | 0=>[]
 | k+1=>if k=0\/l[k]! ≠ l[k-1]! then DR l k++[l[k]!] else DR l k
def cpF (l:List Qst):List Qst:=DR l l.length
def N9 (d e:Dlt):List Sgd:=bX ⟨d.apex,d.put⟩ e
def BN (d e:Dlt):List Sgd:=dS (N9 d e++e.put)
def KU (d e:Dlt):List Qst:=(cpF (Ov (d.drop++e.drop))).filterMap (j3S (mapP (BN d e)))
def uniP (d e:Dlt):Dlt:=⟨d.apex,d.frm,e.too,KU d e,BN d e⟩
def joinP (d e:Dlt):Dlt×Int :=
 if dltOk d=false\/dltOk e=false\/d.apex≠e.apex then (dlt0,1) else if d.too≠e.frm\/befB d.frm e.too=false then (dlt0,23) else
 if 20000<(KU d e).length\/20000<(BN d e).length then (dlt0,2) else (uniP d e,0)
theorem new_mem {z:Zon}{d:Dlt}{x:Sgd}:x∈(gU z d).sets ↔ (x∈z.sets/\x.q ∉ d.drop /\ ∀ s∈d.put,s.q≠x.q)\/x∈d.put:=by
 show x∈dS _ ↔ _
 rw[sortS_mem,Yr,stay_mem]
theorem wU {z:Zon}{d:Dlt}{x:Zon}(h:applyP z d=(x,0)):x=gU z d/\AOk z d:=by
 rcases Xz z d with ha|⟨ha,_⟩|ha|ha|⟨ha,hk⟩
 .
  rw[ha] at h;cases h
 .
  rw[ha] at h;cases h
 .
  rw[ha] at h;cases h
 .
  rw[ha] at h;cases h
 rw[ha] at h;exact⟨(YG _ _ _ _ ▸ h).1.symm,hk⟩
theorem Jz {α:Type}[Inhabited α] {c:α->α->Int}(h:Cm c) {gt:α->Bool}{l:List α}{s:α}(hl:jq c l) (hg : ∀ x∈l,gt x=decide (0<c x s)) (hn : ∀ x∈l,c x s≠0):∀ k,k<=l.length ->
  jq c (dn gt l s k).1/\(∀ x∈(dn gt l s k).1,∀ j,k<=j->j<l.length->c x l[j]! < 0)/\((dn gt l s k).2=false -> ∀ x∈(dn gt l s k).1,c x s<0)/\(∀ x,x∈(dn gt l s k).1 ↔ x∈l.take k\/((dn gt l s k).2=true/\x=s))
 | 0,_=>⟨.nil,by simp[dn],by simp[dn],by simp[dn]⟩
 | k+1,hk=>by
  obtain⟨h1,h2,h3,h4⟩:=Jz h hl hg hn k om;have hm:l[k]! ∈ l:=dX om;have hgk:=hg _ hm;have hnk:=hn _ hm;have hat : ∀ j,k+1<=j->j<l.length->c l[k]! l[j]! < 0:=fun j h5 h6=>lD hl om h6
  by_cases e:(dn gt l s k).2=false/\gt l[k]! = true
  .
   rw[Jy e];obtain⟨e1,e2⟩:=e;rw[e2] at hgk;have hgt:0<c l[k]! s:=Zk hgk.symm;have hlt:c s l[k]! < 0:=by have:=h.anti l[k]! s;omega
   refine⟨?_,fun x hx j h5 h6=>?_,fun q=>by simp at q,fun x=>?_⟩
   .
    refine Zj.2 ⟨Zj.2 ⟨h1,ZB _ _,fun x hx y hy=>?_⟩,ZB _ _,fun x hx y hy=>?_⟩
    .
     rw[Yp] at hy;subst hy;exact h3 e1 x hx
    rw[Yp] at hy;subst hy
    rcases Yr.1 hx with q|q
    .
     exact h2 x q k (XX _) om
    rw[Yp] at q;subst q;exact hlt
   .
    have h7:=hat j h5 h6
    rcases Yr.1 hx with q|q
    .
     rcases Yr.1 q with q|q
     .
      exact h2 x q j om h6
     rw[Yp] at q;subst q;exact h.lt_le hlt (by omega)
    rw[Yp] at q;subst q;exact h7
   rw[Yr,Yr,h4,uY! (by omega),Yr,e1]
   simp only[Yo,false_and,or_false,true_and,Yp]
   constructor
   .
    rintro ((q|q)|q)
    .
     exact .inl (.inl q)
    .
     exact .inr q
    exact .inl (.inr q)
   rintro ((q|q)|q)
   .
    exact .inl (.inl q)
   .
    exact .inr q
   exact .inl (.inr q)
  rw[JA e];refine⟨?_,fun x hx j h5 h6=>?_,fun q x hx=>?_,fun x=>?_⟩
  .
   refine Zj.2 ⟨h1,ZB _ _,fun x hx y hy=>?_⟩
   rw[Yp] at hy;subst hy;exact h2 x hx k (XX _) (by omega)
  .
   rcases Yr.1 hx with q|q
   .
    exact h2 x q j om h6
   rw[Yp] at q;subst q;exact hat j h5 h6
  .
   simp only at q
   rcases Yr.1 hx with q2|q2
   .
    exact h3 q x q2
   rw[Yp] at q2;subst q2;have:gt l[k]! ≠ true:=fun k=>e ⟨q,k⟩
   rw[hgk] at this;have : ¬ 0<c l[k]! s:=fun k=>this (YU k)
   omega
  rw[Yr,h4,uY! (by omega),Yr]
  constructor
  .
   rintro ((q|q)|q)
   .
    exact .inl (.inl q)
   .
    exact .inr q
   exact .inl (.inr q)
  rintro ((q|q)|q)
  .
   exact .inl (.inl q)
  .
   exact .inr q
  exact .inl (.inr q)
theorem Uj {α:Type}[Inhabited α] {c:α->α->Int}(h:Cm c) {gt:α->Bool}{l:List α}{s:α}(hl:jq c l) (hg : ∀ x∈l,gt x=decide (0<c x s)) (hn : ∀ x∈l,c x s≠0):jq c (oq gt l s) /\ ∀ x,x∈oq gt l s ↔ x=s\/x∈l:=by
 obtain⟨h1,h2,h3,h4⟩:=Jz h hl hg hn _ (XX _)
 rw[YA] at h4
 unfold oq
 split
 .
  rename_i e
  refine⟨Zj.2 ⟨h1,ZB _ _,fun x hx y hy=>?_⟩,fun x=>?_⟩
  .
   rw[Yp] at hy;subst hy;exact h3 e x hx
  rw[Yr,h4,e,Yp];simp only[Yo,false_and,or_false];exact⟨fun q=>q.symm,fun q=>q.symm⟩
 rename_i e
 have e:(dn gt l s l.length).2=true:=by simpa using e
 refine⟨h1,fun x=>?_⟩
 rw[h4,e]
 simp only[true_and]
 exact⟨fun q=>q.symm,fun q=>q.symm⟩
theorem Om {l:List Sgd}{s:Sgd}(hl:Ord l) (hn : ∀ x∈l,nameOk x.q.name=true) (hs:nameOk s.q.name=true) (hne : ∀ x∈l,x.q≠s.q):Ord (sortedF l s) /\ ∀ x,x∈sortedF l s ↔ x=s\/x∈l :=
 Uj cm_s hl (fun x hx=>by rw[pX (hn x hx) hs];rfl) fun x hx e=>hne x hx (qp_eq.1 e)
theorem NI {α:Type}{l:List α}{k:Nat}{x:α}(h:x∈l.take k):x∈l:=List.mem_of_mem_take h
theorem RL {l:List Sgd}(h:Ord l) {k:Nat}(hk:k<l.length) {x:Sgd}(hx:x∈l.take k):x.q≠l[k]!.q:=by
 obtain⟨i,hi,rfl⟩:=mem_ix.1 hx
 have hi':i<k:=by simp at hi;omega
 rw[show (l.take k)[i]! = l[i]! from by rw[getElem!_pos _ i hi,getElem!_pos l i (by omega),List.getElem_take]]
 intro e
 have h2:sp l[i]! l[k]! < 0:=lD h hi' hk
 unfold sp at h2
 rw[qp_eq.2 e] at h2
 omega
theorem MG {put l:List Sgd}(hl:Ord l) (hp:Ord put) (hn : ∀ x∈l,nameOk x.q.name=true) (hm : ∀ x∈put,nameOk x.q.name=true) (ha : ∀ x∈l,∀ y∈put,x.q≠y.q):∀ k,k<=put.length->Ord (fu put l k) /\ ∀ x,x∈fu put l k ↔ x∈l\/x∈put.take k
 | 0,_=>⟨hl,fun x=>by simp[fu]⟩
 | k+1,hk=>by
  obtain⟨h1,h2⟩:=MG hl hp hn hm ha k om;have hx:put[k]! ∈ put:=dX om;obtain⟨h3,h4⟩:=Om (s:=put[k]!) h1 (fun x hx=>((h2 x).1 hx).elim (hn x) fun q=>hm x (NI q)) (hm _ hx) fun x hx2=>((h2 x).1 hx2).elim (fun q=>ha x q _ hx) fun q=>RL hp om q
  refine⟨h3,fun x=>?_⟩
  show x∈sortedF _ _ ↔ _
  rw[h4,h2,uY! (by omega),Yr,Yp]
  constructor
  .
   rintro (q|q|q)
   .
    exact .inr (.inr q)
   .
    exact .inl q
   exact .inr (.inl q)
  rintro (q|q|q)
  .
   exact .inr (.inl q)
  .
   exact .inr (.inr q)
  exact .inl q
theorem Sj {m:PM}{s:Sgd}:newB m s.q=true ↔ ¬ (eF m s.q).isSome=true:=by unfold newB;simp
theorem Jh {a:Zon}{d:Dlt}:∀ k,k<=a.sets.length->di a d k=(a.sets.take k).filterMap (fq (mJ d.put d.drop))
 | 0,_=>by simp[di]
 | k+1,hk=>by
  have ih:=Jh (a:=a) (d:=d) k (by omega)
  have key:(askB d.drop a.sets[k]!.q=false/\atF d.put a.sets[k]!.q<0) ↔ newB (mJ d.put d.drop) a.sets[k]!.q=true:=by
   rw[Sj,JM,Xw,IK];unfold askB;rw[X6]
   constructor
   .
    rintro⟨h1,h2⟩ (h3|⟨s,h3,h4⟩)
    .
     exact h1 h3
    exact h2 s h3 h4
   intro h;exact⟨fun q=>h (.inl q),fun s hs e=>h (.inr ⟨s,hs,e⟩)⟩
  by_cases h:askB d.drop a.sets[k]!.q=false/\atF d.put a.sets[k]!.q<0
  .
   rw[CK h,ih,Dg (by omega) (show fq _ a.sets[k]! = some a.sets[k]! from X4 (key.1 h))]
  rw[CL h,ih,Dh (by omega) (show fq _ a.sets[k]! = none from XZ fun q=>h (key.2 q))]
theorem XB {z:Zon}{d:Dlt}(hz:ZOrd z) (hd:DOk d):uJ z d=gU z d:=by
 unfold uJ gU
 have e:di z d z.sets.length=bX z d:=by rw[Jh _ (XX _),YA];rfl
 rw[e]
 obtain⟨h1,h2⟩:=MG (Fg (d:=d) hz.ord) hd.pord (fun x hx=>hz.nms x (stay_mem.1 hx).1) (fun x hx=>(hd.pok x hx).name) (fun x hx y hy e=>(stay_mem.1 hx).2.2 y hy e.symm) d.put.length (XX _)
 rw[YA] at h2
 rw[Bd cm_s h1 (Fs (IA hz.ord hd.pord)) fun x=>by rw[h2,sortS_mem,Yr]]
theorem Mo (z:Zon) (d:Dlt):applyR z d=applyP z d:=by
 unfold applyR applyP
 rw[<- uO z]
 by_cases h1:zoneOk z=false\/dltOk d=false\/z.apex≠d.apex
 .
  rw[X4 h1,X4 h1]
 have hz:zoneOk z=true:=by cases q:zoneOk z with|true=>rfl|false=>exact absurd (.inl q) h1
 have hd:dltOk d=true:=by cases q:dltOk d with|true=>rfl|false=>exact absurd (.inr (.inl q)) h1
 have e:=XB (lw hz) (dlt_iff.1 hd)
 rw[XZ h1,XZ h1,e,Si,<- FW hz,<- uO]
 by_cases h2:serialOf z≠d.frm
 .
  rw[X4 h2,X4 h2]
 rw[XZ h2,XZ h2]
 by_cases h3:20000<(bX z d).length+d.put.length
 .
  rw[X4 h3,X4 h3]
 rw[XZ h3,XZ h3]
 cases q:zoneOk (gU z d) with
 | false=>rw[X4 (.inl rfl),X4 (.inl rfl)]
 | true=>rw[<- FW q]
end Go.Zon
namespace Go.Zon
open Go.DL Go.Str Go.Rec Go.Cmp
end Go.Zon
namespace Go.Jn
open Go.DL Go.Str Go.Rec Go.Cmp Go.Zon
theorem IJ {a b:Nat}(ha:a<18446744073709551616) (hb:b<18446744073709551616) (h:a*1099511628211 % 18446744073709551616=b*1099511628211 % 18446744073709551616):a=b:=by
 have key : ∀ a:Nat,a<18446744073709551616->(a*1099511628211 % 18446744073709551616)*14886173955864302971 % 18446744073709551616=a:=by
  intro a ha;rw[Nat.mod_mul_mod,Nat.mul_assoc,show 1099511628211*14886173955864302971=18446744073709551616*887285111055+1 from by decide,Nat.mul_add,Nat.mul_one,Nat.mul_left_comm,Z0,Zv ha]
 rw[<- key a ha,h,key b hb]
theorem xk {d:Nat}{c:UInt8}(h:d<18446744073709551616):d ^^^ c.toNat<18446744073709551616:=by
 have:=c.toNat_lt
 exact Nat.xor_lt_two_pow (n:=64) om om
theorem wJ (d:Nat) (c:UInt8):dP d c<18446744073709551616:=by unfold dP;omega
theorem V3 {a b:Nat}{c:UInt8}(ha:a<18446744073709551616) (hb:b<18446744073709551616) (h:dP a c=dP b c):a=b:=by
 unfold dP at h
 have h1:=IJ (xk ha) (xk hb) h
 have h2:=congrArg (· ^^^ c.toNat) h1
 simpa [Nat.xor_assoc] using h2
theorem VZ {d:Nat}{a b:UInt8}(hd:d<18446744073709551616) (h:dP d a=dP d b):a=b:=by
 unfold dP at h
 have h1:=IJ (xk hd) (xk hd) h
 have h2:=congrArg (d ^^^ ·) h1
 simp only[<- Nat.xor_assoc,Nat.xor_self,Nat.zero_xor] at h2
 exact ZG.1 h2
theorem K8 : ∀ (l:Str) {a b:Nat},a<18446744073709551616->b<18446744073709551616->l.foldl dP a=l.foldl dP b->a=b
 | [],_,_,_,_,h=>h
 | c::l,a,b,ha,hb,h=>V3 ha hb (K8 l (wJ a c) (wJ b c) h)
theorem K9 : ∀ (l:Str) {a:Nat},a<18446744073709551616->l.foldl dP a<18446744073709551616
 | [],_,h=>h
 | c::l,a,_=>K9 l (wJ a c)
theorem K5 {l:Str}{j:Nat}{c:UInt8}(hj:j<l.length) (hc:c≠l[j]):dig (l.set j c)≠dig l:=by
 intro h
 have e1:l=l.take j++l[j]::l.drop (j+1):=by rw[<- Yw hj,Zf]
 have e2:l.set j c=l.take j++c::l.drop (j+1):=by rw[List.set_eq_take_append_cons_drop,X4 hj]
 unfold dig at h
 rw[e2,Zb,YI] at h
 conv at h=>rhs;rw[e1]
 rw[Zb,YI] at h
 have hd:=K9 (l.take j) (a:=qR) (by decide)
 exact hc (VZ hd (K8 _ (wJ _ _) (wJ _ _) h))
theorem Io {a b:Str}(ha:a.length=8) (hb:b.length=8) (h:bO a=bO b):a=b:=by
 rw[<- D6 ha,<- D6 hb]
 unfold numOf
 rw[h]
theorem E9 {l:Str}{i n:Nat}{c:UInt8}:(l.set i c).take n=(l.take n).set i c:=List.take_set
theorem VG {l:Str}{i n:Nat}{c:UInt8}(h:i<n):(l.set i c).drop n=l.drop n:=by rw[List.drop_set,X4 h]
theorem zU {l:Str}{i n:Nat}{c:UInt8}(h:n<=i):(l.set i c).drop n=(l.drop n).set (i-n) c:=by rw[List.drop_set,XZ (by omega)]
theorem A8 {l:Str}{i n:Nat}{c:UInt8}(h:n<=i):(l.set i c).take n=l.take n:=by
 rw[List.take_set,List.set_eq_of_length_le (by rw[Yv];omega)]
theorem Ad {l:Str}{i a n:Nat}{c:UInt8}(h:i<a\/a+n<=i):((l.set i c).drop a).take n=(l.drop a).take n:=by
 rcases h with h|h
 .
  rw[VG h]
 rw[zU (by omega),A8 (by omega)]
theorem DK {l:Str}{i a n:Nat}{c:UInt8}(h:a<=i):((l.set i c).drop a).take n=((l.drop a).take n).set (i-a) c:=by
 rw[zU h,E9]
theorem DN {l:Str}{i a n:Nat}(h1:a<=i) (h2:i<a+n) (h3:i<l.length):∃ h:i-a<((l.drop a).take n).length,((l.drop a).take n)[i-a]=l[i]:=by
 have h:i-a<((l.drop a).take n).length:=by rw[Yv,Yi];omega
 refine⟨h,?_⟩
 rw[List.getElem_take,List.getElem_drop]
 congr 1
 omega
theorem FQ {l:Str}{j:Nat}{c:UInt8}(hj:j<l.length) (hc:c≠l[j]):l.set j c≠l:=by
 intro h
 have:=congrArg (fun x=>x[j]?) h
 simp[hj] at this
 exact hc this
theorem Ud {k m m':Nat}{b:Str}{j:Nat}{c:UInt8}(h:mH k m b) (hl:21+m<=b.length) (hj:j<21+m) (hjl:j<b.length) (hc:c≠b[j]) (hl':21+m'<=b.length):¬ mH k m' (b.set j c):=by
 rintro⟨g1,g2,g3,g4⟩
 obtain⟨h1,h2,h3,h4⟩:=h
 by_cases j0:j=0
 .
  subst j0
  apply hc
  have e1:(b.set 0 c).getD 0 0=c:=by simp[List.getD,hjl]
  have e2:b.getD 0 0=b[0]:=by simp[List.getD,hjl]
  rw[e1] at g1;rw[e2] at h1;exact ZG.1 (g1.trans h1.symm)
 by_cases j5:j<5
 .
  rw[Ad (.inl j5),h3] at g3;have e:(b.set j c).take 5=(b.take 5).set j c:=E9;rw[e] at g3;have hq:j<(b.take 5).length:=by rw[Yv];omega
  exact K5 hq (by rw[List.getElem_take];exact hc) g3.symm
 have em:m'=m:=by rw[<- g2,Ad (.inr (by omega)),h2]
 subst em
 have e5:(b.set j c).take 5=b.take 5:=A8 om
 by_cases j13:j<13
 .
  rw[e5,DK (by omega)] at g3
  obtain⟨q1,q2⟩:=DN (l:=b) (n:=8) (show 5<=j by omega) om hjl
  have iq:((b.drop 5).take 8).length=8:=by rw[Yv,Yi];omega
  exact FQ q1 (by rw[q2];exact hc) (Io (by rw[Z5];exact iq) iq (g3.trans h3.symm))
 by_cases jw:j<13+m'
 .
  rw[Ad (.inl jw),DK (by omega),h4] at g4
  obtain⟨q1,q2⟩:=DN (l:=b) (n:=m') (show 13<=j by omega) om hjl
  exact K5 q1 (by rw[q2];exact hc) g4.symm
 rw[DK (by omega),Ad (.inr (by omega)),<- h4] at g4
 obtain⟨q1,q2⟩:=DN (l:=b) (n:=8) (show 13+m'<=j by omega) om hjl
 have iq:((b.drop (13+m')).take 8).length=8:=by rw[Yv,Yi];omega
 exact FQ q1 (by rw[q2];exact hc) (Io (by rw[Z5];exact iq) iq g4)
theorem UU {k:Nat}{b:Str}(h : ∀ m,21+m<=b.length -> ¬ mH k m b):fst1 k b=(0,[]):=by
 rcases sF k b with e|⟨m,h1,h2,_⟩
 .
  exact e
 exact absurd h2 (h m h1)
def y8 (c:Cnt):Nat:=if c.isSome then 2 else 1
theorem NW {c:Cnt}{b:Str}{y:Zon}{n:Nat}(h:stepC c b=some (y,n)):∃ m,n=21+m/\21+m<=b.length/\mH (y8 c) m b:=by
 have key : ∃ w,fst1 (y8 c) b=(n,w)/\n≠0:=by
  cases c with
  | none=>obtain⟨h0,w,h1,_⟩:=stepZ_iff.1 (show fK b=_ from h);exact⟨w,h1,h0⟩
  | some z=>obtain⟨h0,w,d,h1,_⟩:=stepD_iff.1 (show dG z b=_ from h);exact⟨w,h1,h0⟩
 obtain⟨w,h1,h0⟩:=key
 rcases sF (y8 c) b with e|⟨m,h2,h3,h4⟩
 .
  rw[h1] at e;cases e;exact absurd rfl h0
 rw[h1] at h4;cases h4;exact⟨m,rfl,h2,h3⟩
theorem NY {c:Cnt}{b:Str}(h:fst1 (y8 c) b=(0,[])):stepC c b=none:=by
 cases c with
 | none =>
  show fK b=none
  unfold fK;rw[X4 (by rw[show fst1 1 b=_ from h])]
 | some z =>
  show dG z b=none
  unfold dG;rw[X4 (by rw[show fst1 2 b=_ from h])]
theorem NZ {c:Cnt}{b:Str}{y:Zon}{n j:Nat}{x:UInt8}(h:stepC c b=some (y,n)) (hj:j<n) (hjl:j<b.length) (hx:x≠b[j]):stepC c (b.set j x)=none:=by
 obtain⟨m,rfl,h1,h2⟩:=NW h
 refine NY (UU fun m' h3=>?_)
 rw[Z5] at h3
 exact Ud h2 h1 hj hjl hx h3
theorem Ke : ∀ (l1:List (Zon×Nat)) (c:Cnt) (b:Str) (y:Zon) (n:Nat) (l2:List (Zon×Nat)) (k:Nat) (x:UInt8) (hk:k<b.length),fr c b=l1++(y,n)::l2->sumL l1<=k->k<sumL l1+n->x≠b[k]->fr c (b.set k x)=l1
 | [],c,b,y,n,l2,k,x,hk,h,h1,h2,hx=>by
  cases hs:stepC c b with
  | none=>rw[iy hs] at h;cases h
  | some q =>
   obtain⟨y',n'⟩:=q;rw[gL hs] at h
   cases h
   refine iy (NZ hs ?_ hk hx)
   simpa [sumL] using h2
 | (y1,n1)::l1,c,b,y,n,l2,k,x,hk,h,h1,h2,hx=>by
  cases hs:stepC c b with
  | none=>rw[iy hs] at h;cases h
  | some q =>
   obtain⟨y',n'⟩:=q;rw[gL hs,List.cons_append] at h;rw[iV] at h1 h2;simp only[List.cons.injEq,Prod.mk.injEq] at h;obtain⟨⟨rfl,rfl⟩,h⟩:=h;dsimp only at h1 h2;have e1:b.set k x=b.take n'++(b.drop n').set (k-n') x:=by
    rw[<- zU (by omega),<- A8 (i:=k) (c:=x) (by omega),Zf]
   have hl:=rz (r:=(b.drop n').set (k-n') x) hs;rw[<- e1] at hl;have hd:(b.set k x).drop n'=(b.drop n').set (k-n') x:=zU om;rw[gL hl,hd,Ke l1 (some y') (b.drop n') y n l2 (k-n') x (by rw[Yi];omega) h (by omega) (by omega) (by
    rw[List.getElem_drop];have e3:n'+(k-n')=k:=by omega
    simp only[e3];exact hx)]
theorem Kb {c:Cnt}{b:Str}{y:Zon}{n:Nat}{l:List (Zon×Nat)}(h:fr c b=(y,n)::l):stepC c b=some (y,n)/\fr (some y) (b.drop n)=l:=by
 cases hs:stepC c b with
 | none=>rw[iy hs] at h;cases h
 | some q =>
  obtain⟨y',n'⟩:=q;rw[gL hs] at h;simp only[YN,YG] at h;obtain⟨⟨rfl,rfl⟩,h⟩:=h;exact⟨rfl,h⟩
theorem Kc : ∀ (l1:List (Zon×Nat)) (c:Cnt) (b:Str) (l2:List (Zon×Nat)),fr c b=l1++l2->fr c (b.take (sumL l1))=l1
 | [],c,b,l2,_=>by
  show fr c (b.take 0)=[]
  rw[Yj,wC]
 | (y1,n1)::l1,c,b,l2,h=>by
  obtain⟨hs,h⟩:=Kb (by rw[X0] at h;exact h)
  rw[iV];have e:b.take (n1+sumL l1)=b.take n1++(b.drop n1).take (sumL l1):=List.take_add;have hl:=rz (r:=(b.drop n1).take (sumL l1)) hs;rw[<- e] at hl;have hd:(b.take (n1+sumL l1)).drop n1=(b.drop n1).take (sumL l1):=by rw[List.drop_take];congr 1;omega
  rw[show ((y1,n1):Zon×Nat).2=n1 from rfl,gL hl,hd,Kc l1 (some y1) (b.drop n1) l2 h]
def pg (k:Nat) (a:Nat) (l:List Nat):Nat:=l.foldl (fun m x=>if x<=k then x else m) a
theorem Mi {k:Nat}:∀ (l:List Nat) (a:Nat),(∀ x∈l,k<x)->pg k a l=a
 | [],_,_=>rfl
 | x::l,a,h=>by
  have h1:=h x (by simp)
  show pg k (if x<=k then x else a) l=a
  rw[XZ (by omega)]
  exact Mi l a fun y hy=>h y (by simp[hy])
theorem KJ : ∀ (l:List (Zon×Nat)) (a:Nat),∀ x∈dz a l,a<=x
 | [],_,x,h=>by cases h
 | y::l,a,x,h=>by
  rcases YK.1 (show x∈(a+y.2)::dz (a+y.2) l from h) with e|e
  .
   omega
  have:=KJ l (a+y.2) x e;omega
theorem Mh : ∀ (l:List (Zon×Nat)) (a k:Nat),a<=k->k<a+sumL l -> ∃ l1 y n l2,l=l1++(y,n)::l2/\a+sumL l1<=k/\k<a+sumL l1+n/\pg k a (dz a l)=a+sumL l1
 | [],a,k,h1,h2=>by simp[sumL] at h2;omega
 | (y,n)::l,a,k,h1,h2=>by
  rw[iV] at h2;dsimp only at h2
  by_cases h:k<a+n
  .
   refine⟨[],y,n,l,rfl,by simpa [sumL] using h1,by simpa [sumL] using h,?_⟩
   rw[show a+sumL []=a from rfl]
   refine Mi _ _ fun x hx=>?_
   rcases YK.1 (show x∈(a+n)::dz (a+n) l from hx) with e|e
   .
    omega
   have:=KJ l (a+n) x e;omega
  obtain⟨l1,y',n',l2,e1,e2,e3,e4⟩:=Mh l (a+n) k om om;refine⟨(y,n)::l1,y',n',l2,by rw[e1];rfl,by rw[iV];dsimp only;omega,by rw[iV];dsimp only;omega,?_⟩
  show pg k (if a+n<=k then a+n else a) (dz (a+n) l)=_
  rw[X4 (by omega),e4,iV]
  dsimp only;omega
theorem KI (b:Str) (h:endsB b≠[]):(endsB b)[(endsB b).length-1]! = sumL (frs b):=by
 have key : ∀ (l:List (Zon×Nat)) (a:Nat),l≠[]->(dz a l)[(dz a l).length-1]! = a+sumL l:=by
  intro l
  induction l with
  | nil=>intro a h;exact absurd rfl h
  | cons x l ih =>
   intro a _
   by_cases e:l=[]
   .
    subst e;simp[dz,sumL]
   have h1:=ih (a+x.2) e;have h2:0<(dz (a+x.2) l).length:=by rw[wH];exact Zm.2 e
   show ((a+x.2)::dz (a+x.2) l)[((a+x.2)::dz (a+x.2) l).length-1]! = _
   have e2:((a+x.2)::dz (a+x.2) l).length-1=((dz (a+x.2) l).length-1)+1:=by simp;omega
   rw[e2,List.getElem!_cons_succ,h1,iV];omega
 have:=key (frs b) 0 (by intro e;apply h;unfold endsB;rw[e];rfl)
 unfold endsB
 rw[this]
 omega
theorem ends_nil {b:Str}:endsB b=[] ↔ frs b=[]:=by
 unfold endsB
 cases frs b with
 | nil=>simp[dz]
 | cons x l=>simp[dz]
theorem damage {b:Str}{k:Nat}{x:UInt8}(h:endsB b≠[]) (hk:k<sumL (frs b)) (hkl:k<b.length) (hx:x≠b[k]) :
  wholeC (b.set k x)=wholeC (b.take (pg k 0 (endsB b)))/\(pg k 0 (endsB b)=0->wholeC (b.set k x)=none)/\(pg k 0 (endsB b)≠0->wholeC (b.set k x)≠none):=by
 obtain⟨l1,y,n,l2,e1,e2,e3,e4⟩:=Mh (frs b) 0 k om om
 have e4:pg k 0 (endsB b)=sumL l1:=by show pg k 0 (dz 0 (frs b))=_;rw[e4];omega
 have f1:frs (b.set k x)=l1:=Ke l1 none b y n l2 k x hkl e1 om om hx
 have f2:frs (b.take (sumL l1))=l1:=Kc l1 none b ((y,n)::l2) e1
 rw[e4,kK,kK,f1,f2]
 refine⟨rfl,fun h0=>?_,fun h0 h9=>?_⟩
 .
  cases l1 with
  | nil=>rfl
  | cons q l1 =>
   exfalso
   obtain⟨hs,_⟩:=Kb (c:=none) (b:=b) (y:=q.1) (n:=q.2) (l:=l1++(y,n)::l2) e1;have:=(gZ hs).2;rw[iV] at h0;omega
 cases l1 with
 | nil=>exact h0 rfl
 | cons q l1 =>
  unfold je at h9
  cases hq:(q::l1).getLast? with
  | none=>simp at hq
  | some z=>rw[hq] at h9;cases h9
theorem whole_part {b:Str}:wholeC b=none ↔ endsB b=[]:=by
 rw[ends_nil]
 unfold wholeC
 cases h:(frs b).getLast? with
 | none=>simp at h;simp[h]
 | some z =>
  simp only[YP]
  constructor
  .
   intro q;cases q
  intro q;rw[q] at h;cases h
theorem AQ (b:Str):wholeZ b=(wholeC b).getD zon0:=by
 unfold wholeZ CG wholeC
 cases (frs b).getLast? <;> rfl
theorem Ri {c:Cnt}{p:Str}{y:Zon}{l:List Str}(h:stepC c p=some (y,p.length)):bN c (p::l)=bN (some y) l:=by
 have h0:=(gZ h).2
 show (if (nextF c p).2≠0/\(nextF c p).2=p.length then bN (nextF c p).1 l else none)=_
 rw[qi h,if_pos ⟨by dsimp only;omega,rfl⟩]
theorem Rh {c c':Cnt}{p:Str}{l:List Str}(h:bN c (p::l)=some c'):∃ y,stepC c p=some (y,p.length)/\bN (some y) l=some c':=by
 unfold bN at h
 split at h
 .
  rename_i q
  cases hs:stepC c p with
  | none=>rw[qj hs] at q;exact absurd rfl q.1
  | some x =>
   obtain⟨y,k⟩:=x;rw[qi hs] at q h;obtain⟨q1,q2⟩:=q;simp only at q1 q2 h;subst q2;exact⟨y,rfl,h⟩
 cases h
theorem vI : ∀ (l m:List Str) (c:Cnt),bN c (l++m)=(bN c l).bind fun c1=>bN c1 m
 | [],m,c=>rfl
 | p::l,m,c=>by
  show (if (nextF c p).2≠0/\(nextF c p).2=p.length then bN (nextF c p).1 (l++m) else none)=(if (nextF c p).2≠0/\(nextF c p).2=p.length then bN (nextF c p).1 l else none).bind fun c1=>bN c1 m
  split
  .
   exact vI l m _
  rfl
theorem Rf {c c':Cnt}{l:List Str}(h:bN c l=some c') (i:Nat):∃ ci,bN c (l.take i)=some ci/\bN ci (l.drop i)=some c':=by
 rw[<- Zf i l,vI] at h
 cases hq:bN c (l.take i) with
 | none=>rw[hq] at h;cases h
 | some ci=>rw[hq] at h;exact⟨ci,rfl,h⟩
theorem Ht {c c':Cnt}:∀ {l:List Str},bN c l=some c'->(c'.isSome=(c.isSome||decide (0<l.length)))
 | [],h=>by cases h;simp
 | p::l,h=>by
  obtain⟨y,_,h2⟩:=Rh h;rw[Ht h2]
  simp
theorem EI {b:Str}{l:List Str}{c:Cnt}(h:bN (wholeC b) l=some c):wholeC (partB b++catB l)=c/\partB (partB b++catB l)=partB b++catB l:=by
 obtain⟨h7,h8⟩:=BR _ _ _ h
 constructor
 .
  rw[kK,wz,Ja,<- kK,<- h7]
 have e:partB (partB b++catB l)=(partB b++catB l).take (sumL (frs (partB b++catB l))):=rfl
 rw[e,wz]
 have:sumL (frs b++fr (wholeC b) (catB l))=(partB b++catB l).length:=by
  rw[XY,qa,<- h8]
  simp[sumL]
 rw[this,YA]
theorem LV (a b:List Str):catB (a++b)=catB a++catB b:=by simp[catB]
theorem Ai {l:List Str}{i:Nat}(h:i<l.length):catB (l.take (i+1))=catB (l.take i)++l[i]! := by
 rw[Y5]
 have e:l[i]?.toList=[l[i]!]:=by simp[h,getElem!_pos]
 rw[e]
 simp[catB]
def lX (d:Dsk) (i:Nat):Cnt:=wholeC (partB d.safe++catB (d.pend.take i))
theorem Eu (d:Dsk):lX d 0=wholeC d.safe:=by
 unfold lX
 rw[Yj,show catB []=[] from rfl,YE,BV]
theorem MU {d:Dsk}{o:Opn}(h:openF d=some o) (i:Nat):bN (wholeC d.safe) (d.pend.take i)=some (lX d i):=by
 obtain⟨_,_,_,_,_,h6⟩:=jJ h
 obtain⟨ci,h1,_⟩:=Rf h6 i
 rw[h1,lX,(EI h1).1]
theorem MV {d:Dsk}{o:Opn}(h:openF d=some o):lX d d.pend.length=o.all:=by
 unfold lX
 rw[YA]
 exact (RI h).1.symm
theorem MS {d:Dsk}{o:Opn}(h:openF d=some o) {i:Nat}(hi:i<=d.pend.length):(lX d i).isSome=((wholeC d.safe).isSome||decide (0<i)):=by
 rw[Ht (MU h i),Yv,ZM hi]
theorem Cx {s:Str}(h:s.length<=1000000):loadF ⟨s,[]⟩=match wholeC s with
  | none=>(zon0,42)
  | some z=>(z,0):=by
 unfold loadF openF
 rw[XZ (fun q=>q.elim (fun q=>absurd q (show ¬ 1000000<s.length by omega)) (fun q=>by simp at q))]
 rfl
theorem IU {d:Dsk}{o:Opn}(h:openF d=some o):loadF d=match wholeC d.safe with
  | none=>(zon0,42)
  | some z=>(z,0):=by
 unfold loadF
 rw[h]
 obtain⟨_,_,_,_,h5,_⟩:=jJ h
 simp only[h5]
 cases wholeC d.safe<;>rfl
theorem nO (b:Str):(partB b).length<=b.length:=by
 unfold partB
 rw[Yv]
 exact Nat.min_le_right _ _
theorem NQ {z y:Zon}{x:Dlt}(hx:sQ x) (hl:(dltB x).length<4294967296) (h:applyP z x=(y,0)):dG z (frmB 2 (dltB x))=some (y,(frmB 2 (dltB x)).length):=by
 have h1:=UV (k:=2) (w:=dltB x) (r:=[]) hl
 rw[YE] at h1
 exact stepD_iff.2 ⟨by rw[qK];omega,dltB x,x,by rw[qK];exact h1,Qr hx,h⟩
theorem NV (z:Zon) (b:Str):stepC (some z) b=dG z b:=rfl
theorem NP {z y:Zon}{x:Dlt}(hx:sQ x) (hl:(dltB x).length<4294967296) (h:applyP z x=(y,0)):stepC (some z) (frmB 2 (dltB x))=some (y,(frmB 2 (dltB x)).length):=(NV _ _).trans (NQ hx hl h)
theorem Mq {d:Dsk}{o:Opn}{z y:Zon}{x:Dlt}(h:openF d=some o) (ha:o.all=some z) (hx:sQ x) (hl:(dltB x).length<4294967296) (hy:applyP z x=(y,0)) (hp:d.pend.length<200) :
  openF ⟨o.whole,d.pend++[frmB 2 (dltB x)]⟩=some ⟨o.whole,o.size+(frmB 2 (dltB x)).length,o.saved,some y⟩:=by
 obtain⟨k1,k2,k3,k4,k5,k6⟩:=jJ h
 have hw:=nO d.safe
 unfold openF
 rw[XZ (by rintro (q|q);rw[k3] at q;simp only at q;omega;simp at q;omega)]
 have e1:bN (wholeC o.whole) (d.pend++[frmB 2 (dltB x)])=some (some y):=by
  rw[k3,BV,vI,k6,ha]
  show bN (some z) [frmB 2 (dltB x)]=_
  rw[Ri (c:=some z) (p:=frmB 2 (dltB x)) (y:=y) (l:=[]) (NP hx hl hy)];rfl
 simp only[e1]
 rw[k3,Rm,BV,k4,k5]
 have e2:catB (d.pend++[frmB 2 (dltB x)])=catB d.pend++frmB 2 (dltB x):=by simp[catB]
 rw[e2,XY]
 push_cast
 rw[Int.add_assoc]
theorem sP {d:Dsk}{o:Opn}{z:Zon}{x:Dlt}{y:Zon}(h:openF d=some o) (ha:o.all=some z) (hy:applyP z x=(y,0)) :
  appendF d x=if 200<=d.pend.length then (dsk0,2) else if 1000000<o.size+(frmB 2 (dltB x)).length then (dsk0,41) else (⟨o.whole,d.pend++[frmB 2 (dltB x)]⟩,0):=by
 obtain⟨_,k⟩:=wU hy
 unfold appendF
 simp only[h,ha,hy]
 rw[XZ (by rw[k.dok];simp),XZ (by simp)]
theorem Ao {d:Dsk}{o:Opn}{z:Zon}{x:Dlt}(h:openF d=some o) (ha:o.all=some z) (hy:(applyP z x).2≠0):appendF d x=(dsk0,if dltOk x=false then 1 else (applyP z x).2):=by
 unfold appendF
 simp only[h,ha]
 split<;>first|rfl|(rw[X4 hy])
theorem D9 {d:Dsk}{o:Opn}{x:Dlt}(h:openF d=some o) (ha:o.all=none):appendF d x=(dsk0,if dltOk x=false then 1 else 42):=by
 unfold appendF
 simp only[h,ha]
 split<;>rfl
def pu (z:Zon):Prop:=∀ s∈z.sets,∀ g∈s.sigs,0<=g.sum/\g.sum<18446744073709551616
def SumD (x:Dlt):Prop:=∀ s∈x.put,∀ g∈s.sigs,0<=g.sum/\g.sum<18446744073709551616
theorem Er {z:Zon}(h:zoneOk z=true) {s:Sgd}(hs:s∈z.sets):s.sigs.length<=6 /\ ∀ g∈s.sigs,g.zone=z.apex/\i64 g.key/\i64 g.alg/\i64 g.frm/\i64 g.unt:=by
 simp only[zoneOk,XV] at h
 obtain⟨i,hi,rfl⟩:=Zd hs
 have h1:=(dJ _ _ _).1 h.2 i (Ym _) hi
 have h1:kD z i=true:=h1
 unfold kD sigsOk at h1
 rw[XV] at h1
 rw[<- getElem!_pos z.sets i hi]
 refine⟨by have:=h1.1;simpa using this,fun g hg=>?_⟩
 obtain⟨j,hj,rfl⟩:=Zd hg
 have h2:=(dJ _ _ _).1 h1.2 j (Ym _) hj
 simp only[gB,XV,XW,inR_iff,YF] at h2
 rw[<- getElem!_pos z.sets[i]!.sigs j hj]
 obtain⟨⟨⟨⟨⟨⟨a1,a2⟩,a3⟩,a4⟩,a5⟩,a6⟩,_⟩:=h2
 unfold i64
 exact⟨a1,om,om,om,om⟩
theorem Et {z:Zon}(h:zoneOk z=true) {s:Sgd}(hs:s∈z.sets) (hu : ∀ g∈s.sigs,0<=g.sum/\g.sum<18446744073709551616):qZ s:=by
 obtain⟨h1,h2⟩:=Er h hs
 have ha:=dN (lw h).apex
 exact⟨(lw h).ok s hs,om,fun g hg=>by obtain⟨a,b,c,d,e⟩:=h2 g hg;exact⟨by rw[a];omega,b,c,d,e,hu g hg⟩⟩
theorem MQ {z:Zon}(h:zoneOk z=true) (hu:pu z):MH z:=by
 have ha:=dN (lw h).apex
 have hl:=(lw h).len
 exact⟨om,om,fun s hs=>Et h hs (hu s hs)⟩
theorem FX {n:Int}(h:serB n=true):i64 n:=by
 simp only[serB,XV,XW] at h
 unfold i64
 omega
theorem QU {q:Qst}(h:qOk q=true):wW q:=by
 have h1:=dN (mo h)
 simp only[qOk,XV,inR_iff] at h
 exact⟨om,om⟩
theorem Dy {z y:Zon}{x:Dlt}(h:applyP z x=(y,0)) (hu:SumD x):sQ x:=by
 obtain⟨rfl,k⟩:=wU h
 have hd:=dlt_iff.1 k.dok
 have ha:=dN hd.apex
 have h1:=hd.dlen
 have h2:=hd.plen
 exact⟨om,FX hd.frm,FX hd.too,om,fun q hq=>QU (hd.dok q hq),om,fun s hs=>Et k.new (new_mem.2 (.inr hs)) (hu s hs)⟩
theorem FJ {z:Zon}(h:zoneOk z=true) {s:Sgd}(hs:s∈z.sets):(bJ s).length<=1700:=by
 obtain⟨h1,h2⟩:=Er h hs
 have ha:=dN (lw h).apex
 have hb:=xU ((lw h).ok s hs)
 have hf:=flat_len (f:=dU) (n:=101) (l:=s.sigs) fun g hg=>by
  have:=(h2 g hg).1;simp only[dU,aQ,XY,YM,eB,this];omega
 simp only[bJ,XY,YM,bZ]
 omega
theorem VP {z y:Zon}{x:Dlt}(h:applyP z x=(y,0)):(dltB x).length<=100+x.drop.length*62+x.put.length*1700:=by
 obtain⟨rfl,k⟩:=wU h
 have hd:=dlt_iff.1 k.dok
 have ha:=dN hd.apex
 have h1:=flat_len (f:=gu) (n:=62) (l:=x.drop) fun q hq=>by
  have:=dN (mo (hd.dok q hq));simp only[gu,aQ,XY,YM,YX];omega
 have h2:=flat_len (f:=bJ) (n:=1700) (l:=x.put) fun s hs=>FJ k.new (new_mem.2 (.inr hs))
 simp only[dltB,eO,aQ,XY,YM,eB,bZ]
 omega
theorem MR {z:Zon}(h:zoneOk z=true):(zonB z).length<=100+z.sets.length*1700:=by
 have ha:=dN (lw h).apex
 have h2:=flat_len (f:=bJ) (n:=1700) (l:=z.sets) fun s hs=>FJ h hs
 simp only[zonB,eO,aQ,XY,YM,bZ]
 omega
def jW {α:Type}(f:RS->α×RS) (enc:α->Nat) (ok:α->Prop):Prop:=∀ st:RS,(f st).2.2=false->st.2=false/\st.1.length=enc (f st).1+(f st).2.1.length/\ok (f st).1
theorem Da (k:Nat):jW (aB k) (fun _=>k) (fun s=>s.length=k):=by
 intro st h
 cases hs:st.2 with
 | true=>rw[gz (.inl hs)] at h;cases h
 | false =>
  by_cases hk:k<=st.1.length
  .
   rw[gy hs hk];refine⟨rfl,?_,?_⟩
   .
    show st.1.length=k+(st.1.drop k).length
    rw[Yi];omega
   show (st.1.take k).length=k
   rw[Yv];omega
  rw[gz (.inr (by omega))] at h;cases h
theorem zq (k:Nat):jW (ag k) (fun _=>k) (fun u=>u<18446744073709551616):=by
 intro st h
 obtain⟨h1,h2,_⟩:=Da k st h
 exact⟨h1,h2,Im _⟩
theorem C9:jW (ag 1) (fun _=>1) (fun u=>u<18446744073709551616):=zq 1
theorem UH:jW (ag 2) (fun _=>2) (fun u=>u<18446744073709551616):=zq 2
theorem JQ:jW (ag 4) (fun _=>4) (fun u=>u<18446744073709551616):=zq 4
theorem sw:jW (ag 8) (fun _=>8) (fun u=>u<18446744073709551616):=zq 8
theorem zu:jW aj (fun t=>(aQ t).length) (fun _=>True):=by
 intro st h
 obtain⟨h1,h2,h3⟩:=Da (ag 1 st).1 (ag 1 st).2 h
 obtain⟨h4,h5,_⟩:=C9 st h1
 refine⟨h4,?_,trivial⟩
 have e:(aj st).1.length=(ag 1 st).1:=h3
 have e2:(ag 1 st).2.1.length=(ag 1 st).1+(aj st).2.1.length:=h2
 show st.1.length=(aj st).1.length+1+_
 have e3:st.1.length=1+(ag 1 st).2.1.length:=h5
 omega
def Ef (g:RSig):Prop:=0<=g.sum/\g.sum<18446744073709551616
theorem FD (g:RSig):(dU g).length=(aQ g.zone).length+40:=by
 simp only[dU,XY,eB]
theorem UI:jW ek (fun g=>(dU g).length) Ef:=by
 intro st h
 obtain⟨h1,a1,a2⟩:=sw _ h
 obtain⟨h2,b1,_⟩:=sw _ h1
 obtain⟨h3,c1,_⟩:=sw _ h2
 obtain⟨h4,d1,_⟩:=sw _ h3
 obtain⟨h5,e1,_⟩:=sw _ h4
 obtain⟨h6,f1,_⟩:=zu _ h5
 have es:(ek st).1.sum=(((ag 8 (ag 8 (ag 8 (ag 8 (ag 8 (aj st).2).2).2).2).2).1:Nat):Int):=rfl
 refine⟨h6,?_,by unfold Ef;rw[es];omega⟩
 show st.1.length=(dU (ek st).1).length+(ek st).2.1.length
 rw[FD]
 show st.1.length=(aQ (aj st).1).length+40+_
 have g0:(ek st).2.1.length=(ag 8 (ag 8 (ag 8 (ag 8 (ag 8 (aj st).2).2).2).2).2).2.1.length:=rfl
 dsimp only at a1 b1 c1 d1 e1 f1
 rw[g0]
 omega
def ig {α:Type}(f:RS->α×RS):Nat->List α->RS->List α×RS
 | 0,out,st=>(out,st)
 | k+1,out,st=>if st.2 then (out,st) else ig f k (out++[(f st).1]) (f st).2
theorem zw {α:Type}{f:RS->α×RS}{enc:α->Nat}{ok:α->Prop}(hf:jW f enc ok):∀ (k:Nat) (out:List α) (st:RS),(ig f k out st).2.2=false ->
  st.2=false /\ ∃ l,(ig f k out st).1=out++l/\st.1.length=(l.map enc).sum+(ig f k out st).2.1.length/\(∀ x∈l,ok x)
 | 0,out,st,h=>⟨h,[],by simp[ig],by simp[ig],fun x hx=>by cases hx⟩
 | k+1,out,st,h=>by
  unfold ig at h ⊢
  split at h
  .
   rename_i q;rw[q] at h;cases h
  rename_i q
  rw[XZ q];obtain⟨h1,l,h2,h3,h4⟩:=zw hf k _ _ h;obtain⟨h5,h6,h7⟩:=hf st h1;refine⟨h5,(f st).1::l,by rw[h2];simp,?_,fun x hx=>?_⟩
  .
   rw[h6,h3];simp;omega
  rcases YK.1 hx with e|e
  .
   subst e;exact h7
  exact h4 x e
theorem xN : ∀ (k:Nat) (out:List RSig) (st:RS),dV k out st=ig ek k out st
 | 0,_,_=>rfl
 | k+1,out,st=>by unfold dV ig;rw[xN k]
theorem xQ : ∀ (k:Nat) (out:List Sgd) (st:RS),dW k out st=ig dC k out st
 | 0,_,_=>rfl
 | k+1,out,st=>by unfold dW ig;rw[xQ k]
theorem vF : ∀ (k:Nat) (out:List Qst) (st:RS),dM k out st=ig fE k out st
 | 0,_,_=>rfl
 | k+1,out,st=>by unfold dM ig;rw[vF k]
theorem zG {α:Type}(f:α->Str):∀ l:List α,(l.flatMap f).length=(l.map fun x=>(f x).length).sum
 | []=>rfl
 | x::l=>by rw[ZV,XY,X8,List.sum_cons,zG f l]
def MI (s:Sgd):Prop:=∀ g∈s.sigs,Ef g
theorem UJ:jW dC (fun s=>(bJ s).length) MI:=by
 intro st h
 have h:(dV (ag 1 (dA st).2).1 [] (ag 1 (dA st).2).2).2.2=false:=h
 rw[xN] at h
 obtain⟨h1,l,h2,h3,h4⟩:=zw UI _ _ _ h
 obtain⟨h5,h6,_⟩:=C9 _ h1
 have hr:(readF (dE st).1).2=0:=by
  apply YW
  intro q;unfold dA at h5;rw[XZ q] at h5
  cases h5
 have e2:dA st=((readF (dE st).1).1,(dE st).2):=by unfold dA;rw[X4 hr]
 rw[e2] at h5
 obtain⟨h7,h8,h9⟩:=Da (ag 2 st).1 (ag 2 st).2 h5
 obtain⟨h10,h11,_⟩:=UH st h7
 have hb:=(WR hr).2
 have es:(dC st).1=⟨(readF (dE st).1).1,l⟩:=by
  show (⟨(dA st).1,(dV (ag 1 (dA st).2).1 [] (ag 1 (dA st).2).2).1⟩:Sgd)=_
  rw[xN,h2,e2];rfl
 have er:(dC st).2=(ig ek (ag 1 (dA st).2).1 [] (ag 1 (dA st).2).2).2:=by
  show (dV (ag 1 (dA st).2).1 [] (ag 1 (dA st).2).2).2=_
  rw[xN]
 refine⟨h10,?_,by rw[es];exact h4⟩
 rw[es,er]
 show st.1.length=(bB (setB (readF (dE st).1).1).length 2++setB (readF (dE st).1).1++eZ l.length::l.flatMap dU).length+_
 rw[hb]
 simp only[XY,YM,bZ,zG]
 have k1:(dE st).1.length=(ag 2 st).1:=h9
 have k2:(ag 2 st).2.1.length=(ag 2 st).1+(dE st).2.1.length:=h8
 have k3:st.1.length=2+(ag 2 st).2.1.length:=h11
 have k4:(dA st).2.1.length=1+(ag 1 (dA st).2).2.1.length:=h6
 have k5:(dA st).2.1.length=(dE st).2.1.length:=by rw[e2]
 omega
def SgdsS (l:List Sgd):Prop:=∀ s∈l,MI s
theorem xS (l:List Sgd):(eO l).length=4+(l.map fun s=>(bJ s).length).sum:=by
 simp only[eO,XY,bZ,zG]
theorem JR:jW dL (fun l=>(eO l).length) SgdsS:=by
 intro st h
 have h:(dW (ag 4 st).1 [] (ag 4 st).2).2.2=false:=h
 rw[xQ] at h
 obtain⟨h1,l,h2,h3,h4⟩:=zw UJ _ _ _ h
 obtain⟨h5,h6,_⟩:=JQ _ h1
 have es:(dL st).1=l:=by
  show (dW (ag 4 st).1 [] (ag 4 st).2).1=l
  rw[xQ,h2];rfl
 have er:(dL st).2=(ig dC (ag 4 st).1 [] (ag 4 st).2).2:=by
  show (dW (ag 4 st).1 [] (ag 4 st).2).2=_
  rw[xQ]
 refine⟨h5,?_,by rw[es];exact h4⟩
 rw[es,er]
 show st.1.length=(eO l).length+_
 rw[xS]
 have k3:st.1.length=4+(ag 4 st).2.1.length:=h6
 omega
theorem UG:jW cK (fun z=>(zonB z).length) pu:=by
 intro st h
 obtain⟨h1,h2,h3⟩:=JR (aj st).2 h
 obtain⟨h4,h5,_⟩:=zu st h1
 refine⟨h4,?_,h3⟩
 dsimp only at h2 h5
 show st.1.length=(aQ (aj st).1++eO (dL (aj st).2).1).length+(dL (aj st).2).2.1.length
 rw[XY]
 omega
theorem UK:jW fE (fun q=>(gu q).length) (fun _=>True):=by
 intro st h
 obtain⟨h1,h2,h3⟩:=C9 (aj st).2 h
 obtain⟨h4,h5,_⟩:=zu st h1
 refine⟨h4,?_,trivial⟩
 dsimp only at h2 h5
 show st.1.length=(aQ (aj st).1++[_]).length+(ag 1 (aj st).2).2.1.length
 rw[XY,List.length_singleton]
 have k:(aj st).2.1.length=1+(ag 1 (aj st).2).2.1.length:=h2
 omega
theorem UL:jW aZ (fun d=>(dltB d).length) SumD:=by
 intro st h
 obtain⟨h1,a1,a2⟩:=JR _ h
 rw[vF] at h1 a1
 obtain⟨h2,l,b1,b2,_⟩:=zw UK _ _ _ h1
 obtain⟨h3,c1,_⟩:=JQ _ h2
 obtain⟨h4,d1,_⟩:=sw _ h3
 obtain⟨h5,e1,_⟩:=sw _ h4
 obtain⟨h6,f1,_⟩:=zu _ h5
 refine⟨h6,?_,a2⟩
 have es:(aZ st).1.drop=l:=by
  show (dM _ [] _).1=l
  rw[vF,b1];rfl
 have hl:(dltB (aZ st).1).length=(aQ (aj st).1).length+20+(l.map fun x=>(gu x).length).sum+(eO (aZ st).1.put).length:=by
  unfold dltB;rw[es];simp only[XY,eB,bZ,zG]
  show (aQ (aj st).1).length+8+8+4+_+_=_
  omega
 dsimp only at *
 rw[hl]
 have g0:(aZ st).2.1.length=(dL (ig fE (ag 4 (ag 8 (ag 8 (aj st).2).2).2).1 [] (ag 4 (ag 8 (ag 8 (aj st).2).2).2).2).2).2.1.length:=by
  rw[<- vF];rfl
 have g1:(eO (aZ st).1.put).length=(eO (dL (ig fE (ag 4 (ag 8 (ag 8 (aj st).2).2).2).1 [] (ag 4 (ag 8 (ag 8 (aj st).2).2).2).2).2).1).length:=by
  rw[<- vF];rfl
 rw[g0,g1]
 omega
theorem Qn {w:Str}{z:Zon}(h:mi w=some z):(zonB z).length=w.length/\pu z:=by
 unfold mi at h
 split at h
 .
  cases h
 rename_i q
 cases h
 unfold cZ at q
 simp only[Yc,XW,not_or,Bool.not_eq_true] at q
 obtain⟨_,h2,h3⟩:=UG (w,false) q.1
 exact⟨by dsimp only at h2;omega,h3⟩
theorem GA {w:Str}{d:Dlt}(h:kQ w=some d):(dltB d).length=w.length/\SumD d:=by
 unfold kQ at h
 split at h
 .
  cases h
 rename_i q
 cases h
 unfold cZ at q
 simp only[Yc,XW,not_or,Bool.not_eq_true] at q
 obtain⟨_,h2,h3⟩:=UL (w,false) q.1
 exact⟨by dsimp only at h2;omega,h3⟩
theorem Fb {α:Type}(g:α->Nat) {f:α->Option α}(hf : ∀ x y,f x=some y->y=x):∀ l:List α,((l.filterMap f).map g).sum<=(l.map g).sum
 | []=>XX _
 | x::l=>by
  have:=Fb g hf l;rw[List.filterMap_cons]
  cases h:f x with
  | none=>simp;omega
  | some y=>rw[hf x y h];simp;omega
theorem Sg (z:Zon) (d:Dlt):(zonB (gU z d)).length<=(zonB z).length+(dltB d).length:=by
 have h1:((dS (bX z d++d.put)).map fun s=>(bJ s).length).sum=((bX z d++d.put).map fun s=>(bJ s).length).sum:=((u7 _).map _).sum_nat
 have h2:=Fb (fun s:Sgd=>(bJ s).length) (JO (mJ d.put d.drop)) z.sets
 unfold zonB
 rw[XY,XY,xS,xS]
 show (aQ z.apex).length+(4+((dS (bX z d++d.put)).map fun s=>(bJ s).length).sum)<=_
 rw[h1,YR,List.sum_append]
 have h3:(dltB d).length=(aQ d.apex).length+20+(d.drop.flatMap gu).length+(eO d.put).length:=by
  simp only[dltB,XY,eB,bZ]
 rw[h3,xS]
 show _+(4+(((z.sets.filterMap (fq (mJ d.put d.drop))).map fun s=>(bJ s).length).sum+_))<=_
 omega
theorem Sd {z:Zon}{d:Dlt}(hz:pu z) (hd:SumD d):pu (gU z d):=by
 intro s hs g hg
 rcases new_mem.1 hs with⟨k,_⟩|k
 .
  exact hz s k g hg
 exact hd s k g hg
theorem J4 {k n:Nat}{b w:Str}(h:fst1 k b=(n,w)) (h0:n≠0):n=21+w.length:=by
 rcases sF k b with e|⟨m,h1,h2,h3⟩
 .
  rw[h] at e;cases e;exact absurd rfl h0
 rw[h] at h3
 cases h3
 rw[Yv,Yi]
 omega
def uB (c:Cnt):Nat:=match c with
 | none=>0
 | some z=>(zonB z).length
def Aw (c:Cnt):Prop:=∀ z,c=some z->pu z/\zoneOk z=true
theorem NN {c:Cnt}{b:Str}{y:Zon}{n:Nat}(h:stepC c b=some (y,n)):(zonB y).length<=uB c+n/\(Aw c->Aw (some y)):=by
 cases c with
 | none =>
  obtain⟨h0,w,h1,h2,h3⟩:=stepZ_iff.1 (show fK b=_ from h)
  obtain⟨k1,k2⟩:=Qn h2;have:=J4 h1 h0;exact⟨om,fun _ z e=>by cases e;exact⟨k2,h3⟩⟩
 | some z0 =>
  obtain⟨h0,w,d,h1,h2,h3⟩:=stepD_iff.1 (show dG z0 b=_ from h)
  obtain⟨k1,k2⟩:=GA h2;have:=J4 h1 h0;obtain⟨rfl,k⟩:=wU h3;have:=Sg z0 d;refine⟨by show _<=(zonB z0).length+n;omega,fun hc z e=>?_⟩
  cases e
  exact⟨Sd (hc z0 rfl).1 k2,k.new⟩
theorem UY : ∀ (n:Nat) (c:Cnt) (b:Str),b.length<=n->Aw c->uB (je c (fr c b))<=uB c+sumL (fr c b)/\Aw (je c (fr c b)):=by
 intro n
 induction n with
 | zero =>
  intro c b hb hc;have:b=[]:=X5 om;subst this;rw[wC];exact⟨ZI _ _,hc⟩
 | succ n ih =>
  intro c b hb hc
  cases h:stepC c b with
  | none=>rw[iy h];exact⟨ZI _ _,hc⟩
  | some x =>
   obtain⟨y,k⟩:=x;obtain⟨h1,h2⟩:=gZ h;obtain⟨h3,h4⟩:=NN h;obtain⟨h5,h6⟩:=ih (some y) (b.drop k) (by rw[Yi];omega) (h4 hc)
   rw[gL h,qo,iV];refine⟨?_,h6⟩;have:uB (some y)=(zonB y).length:=rfl;dsimp only;omega
theorem Ng {b:Str}{z:Zon}(h:wholeC b=some z):(zonB z).length<=b.length/\pu z/\zoneOk z=true:=by
 rw[kK,zB] at h
 obtain⟨h1,h2⟩:=UY _ none b (XX _) (fun z e=>by cases e)
 have h3:=wB _ none b (XX _)
 rw[h] at h1 h2
 obtain⟨h4,h5⟩:=h2 z rfl
 have e1:uB (some z)=(zonB z).length:=rfl
 have e2:uB none=0:=rfl
 exact⟨om,h4,h5⟩
theorem Bb {d:Dsk}{o:Opn}(h:openF d=some o) (hs:o.size<=1000000):syncF d=(⟨o.whole++catB d.pend,[]⟩,0)/\wholeC (o.whole++catB d.pend)=o.all/\(o.whole++catB d.pend).length<=1000000:=by
 obtain⟨_,_,h3,h4,_,h6⟩:=jJ h
 refine⟨?_,?_,?_⟩
 .
  unfold syncF;rw[h];simp only;rw[XZ (by omega)]
 .
  rw[h3,(EI h6).1]
 rw[h3,XY];omega
theorem Kz {d:Dsk}{o:Opn}(h:openF d=some o) (hf:d.safe.length+(catB d.pend).length<=60000):o.size<=60000/\0<=o.size:=by
 obtain⟨_,_,_,h4,_,_⟩:=jJ h
 have:=nO d.safe
 rw[h4]
 omega
theorem zx (k:Nat) (b:Str):(fst1 k b).2.length<=b.length/\(fst1 k b).1<=b.length:=by
 rcases sF k b with e|⟨m,h1,h2,h3⟩
 .
  rw[e];exact⟨Ym _,Ym _⟩
 rw[h3,Yv,Yi]
 dsimp only
 omega
theorem Ig {w:Str}(h:cZ (cK (w,false)).2=false):mi w=some (mq w):=by
 unfold mi mq
 rw[XZ (by rw[h];simp)]
 unfold cZ at h
 simp only[Yh] at h
 rw[XZ (by rw[h.1];simp)]
theorem Cc {w:Str}(h:cZ (aZ (w,false)).2=false):kQ w=some (jI w):=by
 unfold kQ jI
 rw[XZ (by rw[h];simp)]
 unfold cZ at h
 simp only[Yh] at h
 rw[XZ (by rw[h.1];simp)]
theorem R8 {w:Str}(h:(fst1 1 w).1=0\/cZ (cK ((fst1 1 w).2,false)).2=true\/zoneOk (mq (fst1 1 w).2)=false):nextF none w=(none,0):=by
 refine qj ?_
 show fK w=none
 unfold fK
 by_cases h0:(fst1 1 w).1=0
 .
  rw[X4 h0]
 rw[XZ h0]
 cases ho:cZ (cK ((fst1 1 w).2,false)).2 with
 | true =>
  have:mi (fst1 1 w).2=none:=by unfold mi;rw[X4 ho]
  simp only[this]
 | false =>
  simp only[Ig ho]
  rcases h with h|h|h
  .
   exact absurd h h0
  .
   rw[ho] at h;cases h
  rw[XZ (by rw[h];simp)]
theorem R7 {w:Str}(h0:(fst1 1 w).1≠0) (h1:cZ (cK ((fst1 1 w).2,false)).2=false) (h2:zoneOk (mq (fst1 1 w).2)=true):nextF none w=(some (mq (fst1 1 w).2),(fst1 1 w).1):=by
 refine qi ?_
 show fK w=_
 unfold fK
 rw[XZ h0]
 simp only[Ig h1]
 rw[X4 h2]
theorem Sc {z:Zon}{w:Str}(h:(fst1 2 w).1=0):nextF (some z) w=(some z,0):=by
 refine qj ?_
 show dG z w=none
 unfold dG
 rw[X4 h]
theorem Sa {z:Zon}{w:Str}(h:cZ (aZ ((fst1 2 w).2,false)).2=true):nextF (some z) w=(some z,0):=by
 refine qj ?_
 show dG z w=none
 unfold dG
 split
 .
  rfl
 have:kQ (fst1 2 w).2=none:=by unfold kQ;rw[X4 h]
 simp only[this]
theorem Sb {z:Zon}{w:Str}(h1:cZ (aZ ((fst1 2 w).2,false)).2=false) (h:(applyP z (jI (fst1 2 w).2)).2≠0):nextF (some z) w=(some z,0):=by
 refine qj ?_
 show dG z w=none
 unfold dG
 split
 .
  rfl
 simp only[Cc h1]
 rw[XZ h]
theorem R9 {z:Zon}{w:Str}(h0:(fst1 2 w).1≠0) (h1:cZ (aZ ((fst1 2 w).2,false)).2=false) (h:(applyP z (jI (fst1 2 w).2)).2=0):nextF (some z) w=(some (applyP z (jI (fst1 2 w).2)).1,(fst1 2 w).1):=by
 refine qi ?_
 show dG z w=_
 unfold dG
 rw[XZ h0]
 simp only[Cc h1]
 rw[X4 h]
theorem zH {α:Type}{f:α->Str}{n:Nat}:∀ {l:List α},(∀ x∈l,n<=(f x).length)->l.length*n<=(l.flatMap f).length
 | [],_=>by simp
 | x::l,h=>by
  rw[ZV,XY,YM,Zp,Nat.one_mul];have h1:=h x (by simp)
  have h2:=zH (f:=f) (n:=n) (l:=l) fun y hy=>h y (by simp[hy])
  omega
theorem Sz {α:Type}{f:α->Str}{l:List α}{x:α}(h:x∈l):(f x).length<=(l.flatMap f).length:=by
 induction l with
 | nil=>cases h
 | cons y l ih =>
  rw[ZV,XY]
  rcases YK.1 h with e|e
  .
   subst e;omega
  have:=ih e;omega
theorem O1 {l:List Sgd}(h:(eO l).length<=1000000):dY l:=by
 have e:(eO l).length=4+(l.flatMap bJ).length:=by simp only[eO,XY,bZ]
 have h1:=zH (f:=bJ) (n:=1) (l:=l) fun s _=>by simp[bJ];omega
 refine Kt om fun s hs=>?_
 have h2:=Sz (f:=bJ) hs
 have h3:=zH (f:=dU) (n:=40) (l:=s.sigs) fun g _=>by rw[FD];omega
 have h4:=zH (f:=fV) (n:=16) (l:=s.set.data) fun d _=>by simp[fV,eB]
 have h5:(bJ s).length=2+(setB s.set).length+1+(s.sigs.flatMap dU).length:=by
  simp only[bJ,XY,YM,bZ];omega
 have h6:(s.set.data.flatMap fV).length<=(setB s.set).length:=by
  simp only[setB,XY,YM];omega
 exact OW om om
theorem Q0 {w:Str}(hw:w.length<=1000000) (h:cZ (aZ (w,false)).2=false):dY (jI w).put:=by
 obtain⟨h1,_⟩:=GA (Cc h)
 refine O1 ?_
 have:(eO (jI w).put).length<=(dltB (jI w)).length:=by
  simp only[dltB,XY];omega
 omega
theorem Iy (c:Cnt) (w:Str):(stepC c w=none/\nextF c w=(c,0)) \/ ∃ y n,stepC c w=some (y,n)/\nextF c w=(some y,n)/\0<n/\n<=w.length:=by
 cases h:stepC c w with
 | none=>exact .inl ⟨rfl,qj h⟩
 | some x =>
  obtain⟨y,n⟩:=x;obtain⟨h1,h2⟩:=gZ h;exact .inr ⟨y,n,rfl,qi h,h2,h1⟩
def wY (w:Str) (at_:Nat) (c:Cnt):Prop:=at_<=w.length/\sumL (frs w)=at_+sumL (fr c (w.drop at_))/\wholeC w=je c (fr c (w.drop at_))
theorem KX (w:Str):wY w 0 none:=by
 refine⟨Ym _,?_,?_⟩
 .
  rw[X9,Nat.zero_add];rfl
 rw[X9,kK];rfl
theorem KW {w:Str}{a n:Nat}{c:Cnt}{y:Zon}(h:wY w a c) (hs:stepC c (w.drop a)=some (y,n)):wY w (a+n) (some y):=by
 obtain⟨h1,h2,h3⟩:=h
 have h4:=(gZ hs).1
 rw[Yi] at h4
 rw[gL hs,Zl] at h2 h3
 rw[iV] at h2
 rw[qo] at h3
 exact⟨om,by dsimp only at h2;omega,h3⟩
theorem VO {w:Str}{a:Nat}{c:Cnt}(h:wY w a c) (hs:stepC c (w.drop a)=none):sumL (frs w)=a/\wholeC w=c:=by
 obtain⟨h1,h2,h3⟩:=h
 rw[iy hs] at h2 h3
 exact⟨h2,h3⟩
def rJ (c:Cnt) (l:List Str) (k:Nat):Option Cnt:=bN c (l.take k)
theorem BU {c ck:Cnt}{l:List Str}{k:Nat}(h:rJ c l k=some ck) (hk:k<l.length):rJ c l (k+1)=if (nextF ck l[k]!).2≠0/\(nextF ck l[k]!).2=l[k]!.length then some (nextF ck l[k]!).1 else none:=by
 unfold rJ at h ⊢
 rw[Y5,vI,h]
 have e:l[k]?.toList=[l[k]!]:=by simp[hk,getElem!_pos]
 rw[e]
 rfl
theorem Hu {c:Cnt}{l:List Str}{k:Nat}(h:rJ c l k=none):bN c l=none:=by
 rw[<- Zf k l,vI,show bN c (l.take k)=none from h]
 rfl
theorem Rj {c:Cnt}{l:List Str}:rJ c l l.length=bN c l:=by unfold rJ;rw[YA]
theorem sK {l:List Str}{k:Nat}(hk:k<l.length):(catB (l.take (k+1))).length=(catB (l.take k)).length+l[k]!.length:=by
 rw[Ai hk,XY]
theorem uC {l:List Str}(k:Nat):(catB (l.take k)).length<=(catB l).length:=by
 conv=>rhs;rw[<- Zf k l,LV,XY]
 omega
@[go_sem] theorem wkr_byR {l:List Str}:bW (l.map byR)=l.map byR:=by
 induction l with
 | nil=>rfl
 | cons x l ih =>
  rw[X8]
  show bV (byR x)::bW (l.map byR)=_
  rw[ih];have:bV (byR x)=byR x:=by simp[byR,bV,go_sem]
  rw[this]
@[go_sem] theorem all_byR {l:List Str}:(∀ r∈l.map byR,r.length=1)=True:=by
 apply eq_true
 intro r hr
 obtain⟨x,_,rfl⟩:=Y0.1 hr
 rfl
theorem RH {d:Dsk}{c:Cnt}(h1:d.safe.length<=1000000) (h2:d.pend.length<=200) (h:bN (wholeC d.safe) d.pend=some c):openF d=some ⟨partB d.safe,(partB d.safe).length+(catB d.pend).length,wholeC d.safe,c⟩:=by
 unfold openF
 rw[XZ (by omega),h]
theorem H7 {d:Dsk}(h:bN (wholeC d.safe) d.pend=none):openF d=none:=by
 unfold openF
 split
 .
  rfl
 rw[h]
theorem H8 {d:Dsk}(h:1000000<d.safe.length\/200<d.pend.length):openF d=none:=by
 unfold openF
 rw[X4 h]
structure DskSz (d:Dsk):Prop where
 pend : ∀ p∈d.pend,p.length<=1000000
 safe:d.safe.length<=1000000000
 many:d.pend.length<=1000000
theorem DskSz.at {d:Dsk}(h:DskSz d) {k:Nat}(hk:k<d.pend.length):d.pend[k]!.length<=1000000:=by
 rw[getElem!_pos d.pend k hk]
 exact h.pend _ (YC hk)
theorem wQ {d:Dsk}(h:DskSz d) (k:Nat) (h2:d.pend.length<=200):(catB (d.pend.take k)).length<=200000000:=by
 have key : ∀ l:List Str,(∀ p∈l,p.length<=1000000)->(catB l).length<=l.length*1000000:=by
  intro l
  induction l with
  | nil=>intro _;simp[catB]
  | cons p l ih =>
   intro hp;have h1:=hp p (by simp)
   have h2:=ih fun q hq=>hp q (by simp[hq])
   rw[catB_cons,XY,YM];omega
 have:=key (d.pend.take k) fun p hp=>h.pend p (List.mem_of_mem_take hp)
 rw[Yv] at this
 omega
theorem Jp {d:Dlt}(h:dltOk d=false):joinP d d=(dlt0,1):=by unfold joinP;rw[X4 (.inl h)]
theorem Jo {d:Dlt}(h:dltOk d=true):joinP d d=(dlt0,23):=by
 have hd:=dlt_iff.1 h
 have hne:d.too≠d.frm:=D5 hd.bef hd.too
 unfold joinP
 rw[XZ (by rintro (q|q|q);rw[h] at q;cases q;rw[h] at q;cases q;exact q rfl),X4 (.inl hne)]
theorem mO {l:List Str}{n:Nat}(h:n<l.length):(l.map byR).getD n []=[.list false (l[n]!.map bD)]:=by
 simp[List.getD,h,byR,getElem!_pos]
def nD (n:Nat):List D:=[.i n]
def nD.of:List D->Nat
 | [.v (.int _ n)]=>n.toNat
 | _=>0
theorem Db {l:List Nat}{n:Nat}(h:n<l.length):(l.map nD).getD n []=[.i l[n]!]:=by
 simp[List.getD,h,nD,getElem!_pos]
@[go_sem] theorem nrr_nD {l:List Nat}:aR (l.map nD)=true:=by
 induction l with
 | nil=>rfl
 | cons x l ih=>simp only[X8,aR,ih,nD,aW,D.nr];rfl
@[go_sem] theorem wkr_nD {l:List Nat}:bW (l.map nD)=l.map nD:=by
 induction l with
 | nil=>rfl
 | cons x l ih=>simp only[X8,bW,ih,nD,wk,bV]
@[go_sem] theorem all_nD {l:List Nat}:(∀ r∈l.map nD,r.length=1)=True:=by
 apply eq_true
 intro r hr
 obtain⟨x,_,rfl⟩:=Y0.1 hr
 rfl
theorem J6 {k:Nat}{b:Str}(h1:13<=b.length) (h2:(b.getD 0 0).toNat=k):fst1 k b=(if (ag 8 (aB (ag 4 (b.drop 1,false)).1 (ag 8 (ag 4 (b.drop 1,false)).2).2).2).2.2=true\/(ag 8 (ag 4 (b.drop 1,false)).2).1≠dig (b.take 5)\/(ag 8 (aB (ag 4 (b.drop 1,false)).1 (ag 8 (ag 4 (b.drop 1,false)).2).2).2).1≠dig (aB (ag 4 (b.drop 1,false)).1 (ag 8 (ag 4 (b.drop 1,false)).2).2).1 then (0,[]) else (13+(ag 4 (b.drop 1,false)).1+8,(aB (ag 4 (b.drop 1,false)).1 (ag 8 (ag 4 (b.drop 1,false)).2).2).1)):=by
 unfold fst1
 rw[XZ (by omega)]
theorem JZ {k:Nat}{b:Str}(h:b.length<13\/(b.getD 0 0).toNat≠k):fst1 k b=(0,[]):=by
 unfold fst1
 rw[X4 h]
structure wZ (w:Str) (a:Nat) (z:Zon) (E:List Nat):Prop where
 le:a<=w.length
 who:wholeC w=je (some z) (fr (some z) (w.drop a))
 ends:endsB w=E++dz a (fr (some z) (w.drop a))
theorem KZ {w:Str}{z:Zon}{n:Nat}(h:fK w=some (z,n)):wZ w n z [n]:=by
 have hs:stepC none w=some (z,n):=h
 have hl:=(gZ hs).1
 have hf:=gL hs
 refine⟨hl,?_,?_⟩
 .
  rw[kK,zB,hf,qo]
 unfold endsB
 rw[zB,hf]
 show (0+n)::dz (0+n) _=_
 rw[Nat.zero_add]
 rfl
theorem KY {w:Str}{a n:Nat}{z y:Zon}{E:List Nat}(h:wZ w a z E) (hs:dG z (w.drop a)=some (y,n)):wZ w (a+n) y (E++[a+n]):=by
 have hs2:stepC (some z) (w.drop a)=some (y,n):=hs
 have hl:=(gZ hs2).1
 have hf:=gL hs2
 rw[Yi] at hl
 rw[Zl] at hf
 refine⟨by have:=h.le;omega,?_,?_⟩
 .
  rw[h.who,hf,qo]
 rw[h.ends,hf,Yy]
 rfl
theorem zX {w:Str}{a:Nat}{z:Zon}{E:List Nat}(h:wZ w a z E) (hs:dG z (w.drop a)=none):wholeZ w=z/\endsB w=E:=by
 have hs2:stepC (some z) (w.drop a)=none:=hs
 have hf:=iy hs2
 refine⟨?_,?_⟩
 .
  rw[AQ,h.who,hf];rfl
 rw[h.ends,hf];simp[dz]
theorem Nf {w:Str}(h:fK w=none):wholeZ w=zon0/\endsB w=[]:=by
 have hf:frs w=[]:=iy (c:=none) h
 refine⟨?_,?_⟩
 .
  unfold wholeZ CG;rw[hf];rfl
 unfold endsB;rw[hf];rfl
theorem NT {w:Str}(h:(fst1 1 w).1=0\/(cK ((fst1 1 w).2,false)).2.2=true\/0<(cK ((fst1 1 w).2,false)).2.1.length\/zoneOk (cK ((fst1 1 w).2,false)).1=false):fK w=none:=by
 unfold fK
 split
 .
  rfl
 rename_i h0
 unfold mi cZ
 by_cases q:((cK ((fst1 1 w).2,false)).2.2||decide (0<(cK ((fst1 1 w).2,false)).2.1.length))=true
 .
  rw[X4 q]
 rw[XZ q]
 simp only[Yc,XW,not_or] at q
 simp only
 rw[XZ]
 rcases h with h|h|h|h
 .
  exact absurd h h0
 .
  exact absurd h q.1
 .
  exact absurd h q.2
 rw[h];simp
theorem NS {w:Str}(h1:(fst1 1 w).1≠0) (h2:(cK ((fst1 1 w).2,false)).2.2=false) (h3 : ¬ 0<(cK ((fst1 1 w).2,false)).2.1.length) (h4:zoneOk (cK ((fst1 1 w).2,false)).1=true):fK w=some ((cK ((fst1 1 w).2,false)).1,(fst1 1 w).1):=by
 unfold fK mi cZ
 rw[XZ h1,XZ (by rw[h2];simp[h3])]
 simp only
 rw[X4 h4]
theorem xG {z:Zon}{w:Str}(h:(fst1 2 w).1=0\/(aZ ((fst1 2 w).2,false)).2.2=true\/0<(aZ ((fst1 2 w).2,false)).2.1.length\/(applyP z (aZ ((fst1 2 w).2,false)).1).2≠0):dG z w=none:=by
 unfold dG
 split
 .
  rfl
 rename_i h0
 unfold kQ cZ
 by_cases q:((aZ ((fst1 2 w).2,false)).2.2||decide (0<(aZ ((fst1 2 w).2,false)).2.1.length))=true
 .
  rw[X4 q]
 rw[XZ q]
 simp only[Yc,XW,not_or] at q
 simp only
 rw[XZ]
 rcases h with h|h|h|h
 .
  exact absurd h h0
 .
  exact absurd h q.1
 .
  exact absurd h q.2
 exact h
theorem Ff {z y:Zon}{w:Str}(h1:(fst1 2 w).1≠0) (h2:(aZ ((fst1 2 w).2,false)).2.2=false) (h3 : ¬ 0<(aZ ((fst1 2 w).2,false)).2.1.length) (h4:applyP z (aZ ((fst1 2 w).2,false)).1=(y,0)):dG z w=some (y,(fst1 2 w).1):=by
 unfold dG kQ cZ
 rw[XZ h1,XZ (by rw[h2];simp[h3])]
 simp only[h4]
 exact X4 trivial
theorem UX : ∀ (n:Nat) (c:Cnt) (b:Str),b.length<=n->(fr c b).length<=b.length:=by
 intro n
 induction n with
 | zero =>
  intro c b hb;have:b=[]:=X5 om;subst this;rw[wC];exact XX _
 | succ n ih =>
  intro c b hb
  cases h:stepC c b with
  | none=>rw[iy h];exact Ym _
  | some x =>
   obtain⟨y,k⟩:=x;obtain⟨h1,h2⟩:=gZ h;rw[gL h,YM];have:=ih (some y) (b.drop k) (by rw[Yi];omega)
   rw[Yi] at this;omega
theorem Dr (w:Str) (h:w.length<=3000000):(frs w).length<=1000000000000:=by
 have:=UX _ none w (XX _)
 rw[<- zB] at this
 omega
def fewK (d:Dsk):Bool:=decide (d.pend.length<=20)&&decide (d.safe.length+(catB (d.pend.take 21)).length<=60000)
theorem zL {d:Dsk}(h:fewK d=true):d.pend.length<=20/\d.safe.length+(catB d.pend).length<=60000:=by
 unfold fewK at h
 simp only[XV,XW] at h
 rw[Yq (by omega)] at h
 exact h
theorem Ra {l:List Str}{p:Str}(h:p∈l):p.length<=(catB l).length:=by
 induction l with
 | nil=>cases h
 | cons x l ih =>
  rw[catB_cons,XY]
  rcases YK.1 h with e|e
  .
   subst e;omega
  have:=ih e;omega
theorem zK {d:Dsk}(h:fewK d=true):DskSz d:=by
 obtain⟨h1,h2⟩:=zL h
 exact⟨fun p hp=>by have:=Ra hp;omega,om,om⟩
end Go.Jn
