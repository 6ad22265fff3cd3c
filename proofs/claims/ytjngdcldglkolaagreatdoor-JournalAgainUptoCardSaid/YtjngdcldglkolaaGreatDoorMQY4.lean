/-
  MANY TEXTS OF MINE IN ONE (a claim has a limit of files): Jr, Jgh, Je, Jo, DClaim, DLaid, DUpto, Jla, JlCon, NmW1, NmW2, NmW3, NmW4, NmW5, NmW6, RcW1, RcW3, RcW4, RcW5, RcW6, RcW7, RcW8, RcW12, RcW18, RcW19, JbW1, JbW2, JbW3, JbW4, JbW5, JbW6, JkW1, JkW2, JkW3, JkW4, JkW5, Jis, ZoW1, ZoW2. Conditions: none.
-/
import Derived.Carry
import Derived.RowKit
import Derived.ChangeSame
import Derived.OpenShut
import Derived.LaidMore
import Derived.Lay
import Derived.Test.YtjngdcldglkolaaGreatDoorRows
import Derived.Stop.LaidErr
import Derived.WalkKit
import Derived.LaidEql
import Derived.Stop.Asserts
import Derived.RowKitTokens
import Derived.Test.YtjngdcldglkolaaGreatDoorMQY3
set_option linter.unusedVariables false
set_option linter.unusedSimpArgs false
set_option linter.unusedSectionVars false
set_option linter.defProp false
namespace Go.Jn
open Go.DL Go.Str Go.Rec Go.Cmp Go.Zon
def nD (n:Nat):List D:=[.i n]
def nD.of:List D->Nat
 | [.v (.int _ n)]=>n.toNat
 | _=>0
theorem wE {l:List Nat}{n:Nat}(h:n<l.length):(l.map nD).getD n []=[.i l[n]!]:=by
 simp[List.getD,h,nD,getElem!_pos]
@[go_sem] theorem nrr_nD {l:List Nat}:aR (l.map nD)=true:=by
 induction l with
 | nil=>rfl
 | cons x l ih=>simp only[X9,aR,ih,nD,aW,D.nr];rfl
@[go_sem] theorem wkr_nD {l:List Nat}:bV (l.map nD)=l.map nD:=by
 induction l with
 | nil=>rfl
 | cons x l ih=>simp only[X9,bV,ih,nD,wk,bU]
@[go_sem] theorem all_nD {l:List Nat}:(∀ r∈l.map nD,r.length=1)=True:=by
 apply eq_true
 intro r hr
 obtain⟨x,_,rfl⟩:=Y2.1 hr
 rfl
theorem Ke {k:Nat}{b:Str}(h1:13<=b.length) (h2:(b.getD 0 0).toNat=k):fst1 k b=(if (ag 8 (aC (ag 4 (b.drop 1,false)).1 (ag 8 (ag 4 (b.drop 1,false)).2).2).2).2.2=true\/(ag 8 (ag 4 (b.drop 1,false)).2).1≠dig (b.take 5)\/(ag 8 (aC (ag 4 (b.drop 1,false)).1 (ag 8 (ag 4 (b.drop 1,false)).2).2).2).1≠dig (aC (ag 4 (b.drop 1,false)).1 (ag 8 (ag 4 (b.drop 1,false)).2).2).1 then (0,[]) else (13+(ag 4 (b.drop 1,false)).1+8,(aC (ag 4 (b.drop 1,false)).1 (ag 8 (ag 4 (b.drop 1,false)).2).2).1)):=by
 unfold fst1
 rw[XZ (by omega)]
theorem J7 {k:Nat}{b:Str}(h:b.length<13\/(b.getD 0 0).toNat≠k):fst1 k b=(0,[]):=by
 unfold fst1
 rw[X4 h]
structure xk (w:Str) (a:Nat) (z:Zon) (E:List Nat):Prop where
 le:a<=w.length
 who:wholeC w=jh (some z) (fr (some z) (w.drop a))
 ends:endsB w=E++dn a (fr (some z) (w.drop a))
theorem K8 {w:Str}{z:Zon}{n:Nat}(h:eX w=some (z,n)):xk w n z [n]:=by
 have hs:stepC none w=some (z,n):=h
 have hl:=(gN hs).1
 have hf:=gL hs
 refine⟨hl,?_,?_⟩
 .
  rw[kI,wH,hf,qm]
 unfold endsB
 rw[wH,hf]
 show (0+n)::dn (0+n) _=_
 rw[Nat.zero_add]
 rfl
theorem K7 {w:Str}{a n:Nat}{z y:Zon}{E:List Nat}(h:xk w a z E) (hs:dF z (w.drop a)=some (y,n)):xk w (a+n) y (E++[a+n]):=by
 have hs2:stepC (some z) (w.drop a)=some (y,n):=hs
 have hl:=(gN hs2).1
 have hf:=gL hs2
 rw[Yi] at hl
 rw[Zm] at hf
 refine⟨by have:=h.le;omega,?_,?_⟩
 .
  rw[h.who,hf,qm]
 rw[h.ends,hf,Yw]
 rfl
theorem Ad {w:Str}{a:Nat}{z:Zon}{E:List Nat}(h:xk w a z E) (hs:dF z (w.drop a)=none):wholeZ w=z/\endsB w=E:=by
 have hs2:stepC (some z) (w.drop a)=none:=hs
 have hf:=gY hs2
 refine⟨?_,?_⟩
 .
  rw[AX,h.who,hf];rfl
 rw[h.ends,hf];simp[dn]
theorem Nw {w:Str}(h:eX w=none):wholeZ w=zon0/\endsB w=[]:=by
 have hf:frs w=[]:=gY (c:=none) h
 refine⟨?_,?_⟩
 .
  unfold wholeZ CJ;rw[hf];rfl
 unfold endsB;rw[hf];rfl
theorem Og {w:Str}(h:(fst1 1 w).1=0\/(bX ((fst1 1 w).2,false)).2.2=true\/0<(bX ((fst1 1 w).2,false)).2.1.length\/zoneOk (bX ((fst1 1 w).2,false)).1=false):eX w=none:=by
 unfold eX
 split
 .
  rfl
 rename_i h0
 unfold kN cu
 by_cases q:((bX ((fst1 1 w).2,false)).2.2||decide (0<(bX ((fst1 1 w).2,false)).2.1.length))=true
 .
  rw[X4 q]
 rw[XZ q]
 simp only[Yc,XW,not_or] at q
 simp only
 rw[XZ]
 rcases h with h|h|h|h
 .
  exact absurd h h0
 .
  exact absurd h q.1
 .
  exact absurd h q.2
 rw[h];simp
theorem Oe {w:Str}(h1:(fst1 1 w).1≠0) (h2:(bX ((fst1 1 w).2,false)).2.2=false) (h3 : ¬ 0<(bX ((fst1 1 w).2,false)).2.1.length) (h4:zoneOk (bX ((fst1 1 w).2,false)).1=true):eX w=some ((bX ((fst1 1 w).2,false)).1,(fst1 1 w).1):=by
 unfold eX kN cu
 rw[XZ h1,XZ (by rw[h2];simp[h3])]
 simp only
 rw[X4 h4]
theorem xN {z:Zon}{w:Str}(h:(fst1 2 w).1=0\/(aZ ((fst1 2 w).2,false)).2.2=true\/0<(aZ ((fst1 2 w).2,false)).2.1.length\/(applyP z (aZ ((fst1 2 w).2,false)).1).2≠0):dF z w=none:=by
 unfold dF
 split
 .
  rfl
 rename_i h0
 unfold kP cu
 by_cases q:((aZ ((fst1 2 w).2,false)).2.2||decide (0<(aZ ((fst1 2 w).2,false)).2.1.length))=true
 .
  rw[X4 q]
 rw[XZ q]
 simp only[Yc,XW,not_or] at q
 simp only
 rw[XZ]
 rcases h with h|h|h|h
 .
  exact absurd h h0
 .
  exact absurd h q.1
 .
  exact absurd h q.2
 exact h
theorem Fg {z y:Zon}{w:Str}(h1:(fst1 2 w).1≠0) (h2:(aZ ((fst1 2 w).2,false)).2.2=false) (h3 : ¬ 0<(aZ ((fst1 2 w).2,false)).2.1.length) (h4:applyP z (aZ ((fst1 2 w).2,false)).1=(y,0)):dF z w=some (y,(fst1 2 w).1):=by
 unfold dF kP cu
 rw[XZ h1,XZ (by rw[h2];simp[h3])]
 simp only[h4]
 exact X4 trivial
theorem U4 : ∀ (n:Nat) (c:Cnt) (b:Str),b.length<=n->(fr c b).length<=b.length:=by
 intro n
 induction n with
 | zero =>
  intro c b hb;have:b=[]:=X5 om;subst this;rw[uw];exact XX _
 | succ n ih =>
  intro c b hb
  cases h:stepC c b with
  | none=>rw[gY h];exact Yl _
  | some x =>
   obtain⟨y,k⟩:=x;obtain⟨h1,h2⟩:=gN h;rw[gL h,YN];have:=ih (some y) (b.drop k) (by rw[Yi];omega)
   rw[Yi] at this;omega
theorem zY (w:Str) (h:w.length<=3000000):(frs w).length<=1000000000000:=by
 have:=U4 _ none w (XX _)
 rw[<- wH] at this
 omega
def fewK (d:Dsk):Bool:=decide (d.pend.length<=20)&&decide (d.safe.length+(catB (d.pend.take 21)).length<=60000)
theorem wL {d:Dsk}(h:fewK d=true):d.pend.length<=20/\d.safe.length+(catB d.pend).length<=60000:=by
 unfold fewK at h
 simp only[XV,XW] at h
 rw[Yp (by omega)] at h
 exact h
theorem Rq {l:List Str}{p:Str}(h:p∈l):p.length<=(catB l).length:=by
 induction l with
 | nil=>cases h
 | cons x l ih =>
  rw[catB_cons,XY]
  rcases YL.1 h with e|e
  .
   subst e;omega
  have:=ih e;omega
theorem Dt {d:Dsk}(h:fewK d=true):DskSz d:=by
 obtain⟨h1,h2⟩:=wL h
 exact⟨fun p hp=>by have:=Rq hp;omega,om,om⟩
end Go.Jn
namespace Go.DL
open Go.RowKit
variable {P : Program} {ro : Option Nat} {Q : Exit -> S -> Prop}
def mP (n:Nat):Nat->D->D
 | _,.v x=>.v x
 | _,.list _ rows=>.mrow n 0 rows.length
 | k+1,.agg cs=>.agg (cs.map (mP n k))
 | k+1,.tuple cs=>.tuple (cs.map (mP n k))
 | _,_=>.junk
theorem UN {w:World}{g g':Mem}{n:Nat}(hU:g'.U n) (hM:g'.M n=none):∀ (k:Nat) {d:D}{v:Value},Rep w g d v->Rep w g' (mP n k d) v:=by
 intro k
 induction k with
 | zero =>
  intro d v h
  cases h<;>simp only[mP]<;>first
   | exact .junk _
   | exact .v _
   | skip
  .
   exact .mrow n 0 0 _ ⟨_,_,rfl,Yl _,fun h=>absurd h (by omega)⟩ hU fun blk c sz e=>by rw[hM] at e;cases e
  rename_i hl _ _ _ _ _
  exact .mrow n 0 _ _ ⟨_,_,rfl,hl,fun _=>⟨_,rfl⟩⟩ hU fun blk c sz e=>by rw[hM] at e;cases e
 | succ k ih =>
  intro d v h;have hq : ∀ {ds:List D} {vs:Array Value},(∀ (i:Nat) d x,ds[i]? = some d->vs[i]? = some x->Rep w g d x) -> ∀ (i:Nat) d x,(ds.map (mP n k))[i]? = some d->vs[i]? = some x->Rep w g' d x:=by
   intro ds vs h i d x h1 h2;obtain⟨y,h3,rfl⟩:=fT h1;exact ih (h i y x h3 h2)
  cases h<;>simp only[mP]<;>first
   | exact .junk _
   | exact .v _
   | skip
  .
   rename_i hn hh
   exact .agg _ _ (by simpa using hn) (hq hh)
  .
   rename_i hn hh
   exact .tuple _ _ (by simpa using hn) (hq hh)
  .
   exact .mrow n 0 0 _ ⟨_,_,rfl,Yl _,fun h=>absurd h (by omega)⟩ hU fun blk c sz e=>by rw[hM] at e;cases e
  rename_i hl _ _ _ _ _
  exact .mrow n 0 _ _ ⟨_,_,rfl,hl,fun _=>⟨_,rfl⟩⟩ hU fun blk c sz e=>by rw[hM] at e;cases e
theorem QL [Glob P] {fid:FuncId}{zs xs:List D}{res:D}(K k:Nat) {h:H}{n:Nat}(hso : ∀ d∈xs,cK h K d) (hz:xs.map (fun d=>wk (bL h K d))=zs) (hct:PureCt P fid zs res):RCt P fid xs h n (fun d h' n'=>d=mP n k res/\h'=h/\n'=n+1):=by
 obtain⟨hbd,hnr,hct⟩:=hct
 refine⟨hbd,fun w g vs hm hU hr=>?_⟩
 have hds:Reps w (Cy g) zs vs:=by
  rw[<- hz];refine⟨by simpa using hr.1,fun i d x h1 h2=>?_⟩
  obtain⟨y,h3,rfl⟩:=fT h1;exact (xR hm K y x (kW (hr.2 i y x h3 h2)) (hso y (Yk h3))).1.wk
 refine (hct w (fun b=>g.I b \/ ∃ r c s,g.M r=some (some b,c,s)) _ (fun b hb=>?_) (hm.gr.later fun b hb=>⟨.inl hb,rfl⟩) hds).mono ?_
 .
  rcases hb with hb|⟨r,c,s,hb⟩
  .
   exact hm.imm b hb
  exact (iF hm hb).1
 rintro e w' ⟨v,rfl,hbel,hv⟩
 let g':Mem:={ M:=g.M,U:=fun r=>g.U r\/r=n,I:=g.I }
 have hMn:g'.M n=none:=by
  refine YV fun e=>?_
  have:=hU n (hm.used n e);omega
 have hUn:g'.U n:=Or.inr rfl
 have mono:Mono g g' w w':=⟨hbel.os,hbel.tape,hbel.output,hbel.size,hbel.drawn,fun _ h=>.inl h,fun _ _=>.inl rfl,fun r b c s h=>.inl ⟨r,c,s,h⟩,fun _ h=>h,fun _ h=>.inl h,fun b hb _=>hbel.block b hb⟩
 refine⟨v,g',mP n k res,h,n+1,⟨rfl,rfl,rfl⟩,rfl,UN hUn hMn k hv,⟨hm.dead,fun r bl hr=>?_,hm.inj,fun r hr=>.inl (hm.used r hr),fun b hb=>YA (hm.imm b hb) hbel.size,hm.gr.later (hm.kept mono)⟩,mono,fun r hr=>?_⟩
 .
  obtain⟨blk,c,h1,h2,h3,h4,h5⟩:=hm.blk r bl hr;refine⟨blk,c,h1,h2,h3,h4,?_⟩
  rcases h5 with h5|⟨b,cur,rfl,h6,h7,h8,h9⟩
  .
   exact .inl h5
  refine .inr ⟨b,cur,rfl,by rw[hbel.block b (iF hm h1).1];exact h6,h7,h8,fun i row hi=>⟨(h9 i row hi).1,fun j d hd=>?_⟩⟩
  obtain⟨u,k3,k4,k5⟩:=(h9 i row hi).2 j d hd;exact⟨u,k3,k4,k5.later hm mono⟩
 rcases hr with hr|rfl
 .
  exact Nat.lt_succ_of_lt (hU r hr)
 exact Nat.lt_succ_self _
theorem QK [Glob P] {fid:FuncId}{r len:Nat}{ty:TypeId}{rows:List (List D)}{res:D}(k:Nat) {h:H}{n:Nat}(hr:h r=some ⟨ty,rows⟩) (hl:len=rows.length) (hn:aR rows=true) (hw:bV rows=rows) (hct:PureCt P fid [.list false rows] res):RCt P fid [.mrow r 0 len] h n (fun d h' n'=>d=mP n k res/\h'=h/\n'=n+1):=by
 subst hl
 have e2:rowsOf (.mrow r 0 rows.length) h=rows:=by simp only[rowsOf,hr];simp
 refine QL 1 k (fun d hd=>?_) ?_ hct
 .
  simp only[Yq] at hd;subst hd;refine⟨⟨by rw[hr];rfl,by rw[e2]⟩,fun row hrow c hc=>?_⟩
  rw[e2] at hrow;exact jK (uh hn hrow) hc
 have e3:(rows.map fun row=>row.map (bL h 0))=rows:=by
  refine (Zy (g:=id) fun row _=>?_).trans (List.map_id _)
  exact (Zy (g:=id) fun _ _=>rfl).trans (List.map_id _)
 have e4:bL h 1 (.mrow r 0 rows.length) = .list false rows:=by
  show D.list false ((rowsOf (.mrow r 0 rows.length) h).map fun row=>row.map (bL h 0))=_
  rw[e2,e3]
 show [wk (bL h 1 (.mrow r 0 rows.length))]=_
 rw[e4]
 simp only[wk,hw]
end Go.DL
namespace Go.Jn
open Go.DL Go.Str Go.Rec Go.Cmp Go.Zon
def mQ (s:Str) (k:Int) (t:Dat):Sgd:=⟨⟨s,k,9,[t]⟩,[]⟩
def exZ:Zon:=⟨[120],[mQ [120] 2 ⟨[97],0,0⟩,mQ [120] 4 ⟨[],1,0⟩]⟩
def exX:Dlt:=⟨[120],1,2,[],[mQ [120] 4 ⟨[],2,0⟩,mQ [116,46,120] 5 ⟨[116],0,0⟩]⟩
def kH (d:Dsk) (k:Nat):List Zon:=(List.range (k+1)).map fun i=>if i=0 then wholeZ d.safe else wholeZ (partB d.safe++catB (d.pend.take i))
theorem M0 (d:Dsk) (k:Nat):kH d (k+1)=kH d k++[wholeZ (partB d.safe++catB (d.pend.take (k+1)))]:=by
 unfold kH
 rw[List.range_succ,YS]
 rfl
theorem pu (d:Dsk) (k:Nat):(kH d k).length=k+1:=by
 unfold kH
 rw[Za,List.length_range]
def iW (d:Dsk):List Zon:=kH d d.pend.length
theorem AL (d:Dsk):(iW d).length=d.pend.length+1:=pu d _
theorem M4 {d:Dsk}{i:Nat}(h:i<=d.pend.length):(iW d)[i]! = (lH d i).getD zon0:=by
 rw[getElem!_pos (iW d) i (by rw[AL];omega)]
 unfold iW kH
 rw[List.getElem_map,List.getElem_range]
 by_cases h0:i=0
 .
  subst h0;rw[X4 rfl,M8,AX]
 rw[XZ h0,lH,AX]
theorem M3 {d:Dsk}{i:Nat}{z:Zon}(h:i<=d.pend.length) (hz:lH d i=some z):(iW d)[i]! = z:=by
 rw[M4 h,hz]
 rfl
def zR (z:Zon):List D:=z.d
theorem UW {l:List Zon}{n:Nat}(h:n<l.length):(l.map zR).getD n []=[.v (.string (bs l[n]!.apex)),.list false (l[n]!.sets.map Sgd.d)]:=by
 simp[List.getD,h,zR,getElem!_pos,Zon.d]
theorem EP {d:Dsk}(h:(allR d).isSome=true):∃ o,openF d=some o:=by
 unfold allR at h
 cases ho:openF d with
 | none=>rw[ho] at h;cases h
 | some o=>exact⟨o,rfl⟩
theorem Te {d m:Dsk}{o p:Opn}(h:openF d=some o) (h2:openF m=some p) (e:p.saved=o.saved):loadF m=loadF d:=by
 unfold loadF
 rw[h,h2]
 simp only[e]
theorem Zab {d:Dsk}{o:Opn}{y z:Zon}{x:Dlt}(ho:openF d=some o) (ha:o.all=some y) (hA:applyP y x=(z,0)) (hu:SumD x) (hp:d.pend.length<200) (hs : ∀ p∈d.pend,p.length<=1000000)
  (hl : ¬ 1000000<o.size+(frmB 2 (dltB x)).length) (h0:0<=o.size) :
  ∃ m n,appendF d x=(m,0)/\DskSz m/\loadF m=loadF d/\syncF m=(n,0)/\DskSz n/\loadF n=(z,0):=by
 have hfl:=lh 2 (dltB x)
 have hop:=XR ho ha (K9 hA hu) (by omega) hA hp
 obtain⟨q1,q2,q3⟩:=Fb hop (by show o.size+_<=_;omega)
 refine⟨_,_,by rw[Av ho ha hA,XZ (by omega),XZ hl],⟨fun p hp2=>?_,?_,?_⟩,Te ho hop rfl,q1,⟨fun p hp=>(by cases hp),by (show List.length (_++_)<=_;omega),Yl _⟩,?_⟩
 .
  rcases Yt.1 hp2 with q|q
  .
   exact hs p q
  rw[Yq.1 q];omega
 .
  have h1:=(kV ho).2.2.1;have h2:=nP d.safe;have h3:=(kV ho).1
  show o.whole.length<=_
  rw[h1];omega
 .
  show (d.pend++[_]).length<=_
  rw[XY,List.length_singleton];omega
 rw[uk q3,q2]
theorem LK {d:Dsk}(hf:fewK d=true) (hv:(allR d).isSome=true) (n c:Int) :
  (∃ e,crashF d n c=(dsk0,e)/\(e=1\/e=41)) \/ ∃ t k,crashF d n c=(⟨t,[]⟩,0)/\DskSz ⟨t,[]⟩/\0<=n/\n<=d.pend.length/\k=(if n<d.pend.length/\c=(gM d n).length then n.toNat+1 else n.toNat)/\k<=d.pend.length /\
   ((k=0/\wholeC d.safe=none/\loadF ⟨t,[]⟩=(zon0,42)) \/ ∃ y,loadF ⟨t,[]⟩=(y,0)/\(iW d)[k]! = y/\((wholeC d.safe).isSome=true\/0<k)):=by
 obtain⟨o,ho⟩:=EP hv
 obtain⟨hp,hs⟩:=wL hf
 have htl:=EX ho n c
 unfold crashF
 rw[ho]
 simp only
 by_cases h1:n<0\/(d.pend.length:Int)<n
 .
  rw[X4 h1];exact .inl ⟨1,rfl,.inl rfl⟩
 rw[XZ h1]
 by_cases h2:c<0\/((gM d n).length:Int)<c
 .
  rw[X4 h2];exact .inl ⟨1,rfl,.inl rfl⟩
 rw[XZ h2]
 by_cases h3:1000000<(iX o d n c).length
 .
  rw[X4 h3];exact .inl ⟨41,rfl,.inr rfl⟩
 rw[XZ h3]
 have hz:=WI ho (n:=n) (c:=c) (by omega) (by omega) (by omega) (by omega)
 obtain⟨k,hk⟩:∃ k,k=(if n<d.pend.length/\c=(gM d n).length then n.toNat+1 else n.toNat):=⟨_,rfl⟩
 rw[<- hk] at hz
 have hkl:k<=d.pend.length:=by rw[hk];split<;>omega
 have hsm:=M6 ho hkl
 refine .inr ⟨_,k,rfl,⟨fun p hp=>(by cases hp),by (show (iX o d n c).length<=_;omega),Yl _⟩,om,om,hk,hkl,?_⟩
 rw[uk (by omega),hz]
 cases hy:lH d k with
 | none =>
  rw[hy] at hsm;have h9:=hsm.symm;simp only[Option.isSome_none,Yh,X6] at h9;exact .inl ⟨om,by simpa using h9.1,rfl⟩
 | some y =>
  rw[hy] at hsm;have h9:=hsm.symm;simp only[Option.isSome_some,Yc,XW] at h9;exact .inr ⟨y,rfl,M3 hkl hy,h9⟩
theorem WJ {d:Dsk}(h:DskSz d) (h1:d.safe.length<=60000) (h2:d.pend=[]):∃ o,openF d=some o/\o.all=o.saved/\o.size<=60000/\0<=o.size/\o.saved=wholeC d.safe:=by
 obtain⟨s,p⟩:=d
 cases h2
 have h1:s.length<=60000:=h1
 have:=nP s
 exact⟨_,RZ om,rfl,by (show ((partB s).length:Int)+0<=_;omega),by (show 0<=((partB s).length:Int)+0;omega),rfl⟩
theorem Zan {d:Dsk}{x:Dlt}(hf:fewK d=true) (hv:(allR d).isSome=true) (hx:fewD x=true) (hu:SumD x) (n c:Int) :
  (∃ e,crashF d n c=(dsk0,e)/\e≠0) \/ ∃ s,crashF d n c=(s,0)/\DskSz s/\(loadF s=(zon0,42) \/ ∃ a,loadF s=(a,0)/\((∃ w g,applyP a x=(w,g)/\g≠0) \/
   ∃ w m k,applyP a x=(w,0)/\appendF s x=(m,0)/\DskSz m/\syncF m=(k,0)/\DskSz k/\loadF k=(w,0)/\lF w /\ ∃ o p,beginF w=(o,0)/\DskSz o/\syncF o=(p,0)/\DskSz p/\loadF p=(w,0))):=by
 rcases LK hf hv n c with⟨e,h1,h2⟩|⟨t,k,h1,h2,h3,h4,h5,h6,h7⟩
 .
  exact .inl ⟨e,h1,om⟩
 refine .inr ⟨_,h1,h2,?_⟩
 obtain⟨o,ho⟩:=EP hv
 obtain⟨hp,hs⟩:=wL hf
 have htl:t.length<=60000:=by
  have ht:=EX ho n c;have h9:(crashF d n c).1.safe.length<=60000:=by
   unfold crashF;rw[ho];simp only
   repeat' split
   all_goals first|exact Yl _|(show (iX o d n c).length<=_;omega)
  rw[h1] at h9;exact h9
 rcases h7 with⟨_,_,h7⟩|⟨y,h7,_,_⟩
 .
  exact .inl h7
 refine .inr ⟨y,h7,?_⟩
 rcases hA:applyP y x with⟨w,e⟩
 by_cases he:e=0
 .
  subst he
  right
  obtain⟨p,hp1,hp2,hp3,hp4,hp5⟩:=WJ (d:=⟨t,[]⟩) h2 htl rfl;have hw:wholeC t=some y:=by
   rw[uk (by omega)] at h7
   cases hq:wholeC t with
   | none=>rw[hq] at h7;cases h7
   | some z=>rw[hq] at h7;cases h7;rfl
  have hall:p.all=some y:=by rw[hp2,hp5];exact hw
  have hxs:=La hA;obtain⟨_,k1⟩:=uQ hA;have hfx:x.drop.length<=50/\x.put.length<=50:=by
   unfold fewD at hx;simp only[XV,XW] at hx;omega
  have hfl:=lh 2 (dltB x);obtain⟨m,k9,g1,g2,_,g4,g5,g6⟩:=Zab hp1 hall hA hu (by simp) (fun p hp=>(by cases hp)) om hp4
  obtain⟨hy1,hy2,hy3⟩:=EH hw;have hwz:lF w/\zoneOk w=true/\(zonB w).length<=900000:=by
   obtain⟨rfl,k1⟩:=uQ hA;have:=IM y x;exact⟨IJ hy2 hu,k1.new,om⟩
  obtain⟨b1,ob,b2,b3,b4,b5,b6⟩:=XG hwz.2.1 hwz.1 hwz.2.2;obtain⟨c1,c2,c3⟩:=Fb b2 b6;refine⟨w,m,k9,rfl,g1,g2,g4,g5,g6,hwz.1,_,_,b1,⟨fun p hp=>?_,Yl _,by (show 1<=1000000;decide)⟩,c1,⟨fun p hp=>(by cases hp),by (show List.length (_++_)<=_;omega),Yl _⟩,?_⟩
  .
   have:=lh 1 (zonB w);rw[Yq.1 hp];omega
  rw[uk c3,c2,b3]
 exact .inl ⟨w,e,rfl,he⟩
theorem NY {b:Str}(h:endsB b≠[]):0<sumL (frs b):=by
 have h1:frs b≠[]:=fun e=>h (ends_nil.2 e)
 cases hq:frs b with
 | nil=>exact absurd hq h1
 | cons q l =>
  obtain⟨hs,_⟩:=Di (c:=none) (b:=b) (y:=q.1) (n:=q.2) (l:=l) hq;have:=(gN hs).2;rw[iG];omega
theorem WE {d:Dsk}(hf:fewK d=true) (he:endsB d.safe≠[]) {k:Nat}(hk:k<sumL (frs d.safe)) {b:UInt8}(hb:b≠0) :
  k<d.safe.length/\DskSz ⟨d.safe.set k (d.safe[k]! ^^^ b),[]⟩/\dI k 0 (endsB d.safe)<=d.safe.length/\DskSz ⟨d.safe.take (dI k 0 (endsB d.safe)),[]⟩ /\
   ((dI k 0 (endsB d.safe)=0/\loadF ⟨d.safe.set k (d.safe[k]! ^^^ b),[]⟩=(zon0,42))\/dI k 0 (endsB d.safe)≠0 /\ ∃ a,loadF ⟨d.safe.set k (d.safe[k]! ^^^ b),[]⟩=(a,0)/\loadF ⟨d.safe.take (dI k 0 (endsB d.safe)),[]⟩=(a,0)):=by
 obtain⟨hp,hs⟩:=wL hf
 have hsl:=uu _ none d.safe (XX _)
 rw[<- wH] at hsl
 have hkl:k<d.safe.length:=by omega
 have hne:d.safe[k]! ^^^ b≠d.safe[k]:=by
  rw[getElem!_pos d.safe k hkl];intro e
  apply hb
  have h1:d.safe[k] ^^^ (d.safe[k] ^^^ b)=d.safe[k] ^^^ d.safe[k]:=by rw[e]
  rw[<- UInt8.xor_assoc,UInt8.xor_self,UInt8.zero_xor] at h1;exact h1
 obtain⟨d1,d2,d3⟩:=WF he hk hkl hne
 have hbl:dI k 0 (endsB d.safe)<=k:=by
  have key : ∀ (l:List Nat) (a:Nat),a<=k->dI k a l<=k:=by
   intro l
   induction l with
   | nil=>intro a h;exact h
   | cons x l ih =>
    intro a h
    show dI k (if x<=k then x else a) l<=k
    refine ih _ ?_
    split<;>omega
  exact key _ 0 (Yl _)
 refine⟨hkl,⟨fun p hp=>(by cases hp),by (show (d.safe.set _ _).length<=_;rw[ZE];omega),Yl _⟩,om,⟨fun p hp=>(by cases hp),by (show (d.safe.take _).length<=_;rw[Yr];omega),Yl _⟩,?_⟩
 rw[uk (by rw[ZE];omega),uk (by rw[Yr];omega),<- d1]
 by_cases h0:dI k 0 (endsB d.safe)=0
 .
  exact .inl ⟨h0,by rw[d2 h0]⟩
 refine .inr ⟨h0,?_⟩
 cases hw:wholeC (d.safe.set k (d.safe[k]! ^^^ b)) with
 | none=>exact absurd hw (d3 h0)
 | some a=>exact⟨a,rfl,rfl⟩
end Go.Jn
namespace Go.DL
open Go.RowKit Go.ChangeShapes Go.WideShapes
variable {P : Program}
def AB (Q:TypeId->List D->Prop):List Field->List D->Prop
 | [],ds=>ds=[]
 | f::fs,ds=>∃ a b,ds=a++b/\Q f.type a/\AB Q fs b
def Sh (P:Program) [Glob P]:Nat->TypeId->List D->Prop
 | 0,_,_=>False
 | k+1,t,ds=>match P.underlying t with
  | some .bool=>∃ b,ds=[.v (.bool b)]
  | some (.int q)=>∃ n,ds=[.v (.int q n)]/\(Lit.int q n).wf=true
  | some .string=>∃ s,ds=[.v (.string s)]/\s.size<=maxLen
  | some (.slice e)=>∃ rows,ds=[.list false rows] /\ ∀ r∈rows,Sh P k e r
  | some (.struct fs)=>AB (Sh P k) fs.toList ds
  | _=>False
def mo (P:Program) [Glob P]:Nat->TypeId->Bool
 | 0,_=>false
 | k+1,t=>match P.underlying t with
  | some .bool|some (.int _)|some .string=>true
  | some (.slice e)=>decide (0<P.cellsOf e)&&decide (e<P.types.size)&&mo P k e
  | some (.struct fs)=>fs.toList.all fun f=>decide (f.type<P.types.size)&&mo P k f.type
  | _=>false
def RepC (w:World) (g:Mem) (ds:List D) (cs:List Value):Prop:=Reps w g ds cs /\ ∀ v∈cs,v.oneCell'=true
theorem RepC.nil {w:World}{g:Mem}:RepC w g [] []:=⟨.nil,fun v h=>by cases h⟩
theorem RepC.one {w:World}{g:Mem}{d:D}{v:Value}(h:Rep w g d v) (h1:v.oneCell'=true):RepC w g [d] [v] :=
 ⟨.cons h .nil,fun u hu=>by rw[Yq] at hu;subst hu;exact h1⟩
theorem RepC.append {w:World}{g:Mem}{ds es:List D}{cs us:List Value}(h:RepC w g ds cs) (k:RepC w g es us):RepC w g (ds++es) (cs++us) :=
 ⟨h.1.append k.1,fun v hv=>(Yt.1 hv).elim (h.2 v) (k.2 v)⟩
theorem Ao {w:World}{a:Addr}{v:Value}(h:w.cell? a=some v):a.block<w.heap.size:=by
 unfold World.cell? at h
 split at h
 .
  rename_i c _ _ hb;exact (Ym.1 hb).1
 cases h
theorem Mc {w:World}{base:Nat}{a:Addr}{n:Nat}{cs:List Value}(h:w.cells? base a n=some cs):cs.length=n /\ ∀ j,j<n->w.cell? (a.add j)=cs[j]? := by
 unfold World.cells? at h
 split at h
 .
  have key : ∀ (l:List Nat) (cs:List Value),l.mapM (fun i=>w.cell? (a.add i))=some cs->cs.length=l.length /\ ∀ (j i:Nat),l[j]? = some i->w.cell? (a.add i)=cs[j]? := by
   intro l
   induction l with
   | nil=>intro cs h;simp at h;subst h;exact⟨rfl,fun j i h=>by simp at h⟩
   | cons i l ih =>
    intro cs h;rw[List.mapM_cons] at h
    cases hc:w.cell? (a.add i) with
    | none=>rw[hc] at h;simp at h
    | some v =>
     rw[hc] at h;simp only[Option.bind_eq_bind,Option.bind_some] at h
     cases hr:l.mapM (fun i=>w.cell? (a.add i)) with
     | none=>rw[hr] at h;simp at h
     | some r =>
      rw[hr] at h
      simp at h
      subst h;obtain⟨h1,h2⟩:=ih r hr;refine⟨by simp[h1],fun j i' hj=>?_⟩
      cases j with
      | zero=>simp at hj;subst hj;simpa using hc
      | succ j=>simp at hj;simpa using h2 j i' hj
  obtain⟨h1,h2⟩:=key _ _ h;exact⟨by simpa using h1,fun j hj=>h2 j j (by simp[hj])⟩
 cases h
theorem xJ {α:Type}(l:List α) (m n:Nat):(l.drop m).take n++(l.drop (m+n))=l.drop m:=by
 rw[<- Zm];exact Ze n (l.drop m)
theorem reads [Glob P] {H:Type}{enc:TypeId×Value->H}{w:World}{base:Nat}{spare:Nat->Bool}{held:Bool}(hl:laidOutB P=true) :
  ∀ (k:Nat) (t:TypeId) (cs:List Value) (fuel:Nat) (x:DataW H×List MemPlace),t<P.types.size->mo P k t=true->DataW.trod enc P w base spare held fuel t cs=some x ->
   ∃ ds,Sh P k t ds/\RepC w (dH fun b=>b<w.heap.size) ds cs:=by
 intro k
 induction k with
 | zero=>intro t cs fuel x _ h;cases h
 | succ k ih =>
  intro t cs fuel x htl hs hr;unfold mo at hs;unfold Sh
  split at hs
  .
   rename_i hu
   obtain⟨b,rfl,_⟩:=DataW.trod_bool hu hr;exact⟨_,⟨b,rfl⟩,.one (.v _) rfl⟩
  .
   rename_i q hu
   obtain⟨n,rfl,_,hw⟩:=DataW.trod_int hu hr;exact⟨_,⟨n,rfl,hw⟩,.one (.v _) rfl⟩
  .
   rename_i hu
   obtain⟨s,rfl,_,hw⟩:=DataW.trod_string hu hr;exact⟨_,⟨s,rfl,hw⟩,.one (.v _) rfl⟩
  .
   rename_i e hu
   simp only[XV,XW] at hs;obtain⟨⟨hpos,hel⟩,hs⟩:=hs
   rcases DataW.trod_slice hu hr with⟨rfl,_⟩|⟨a,len,cap,elems,rest,n,_,rfl,_,_,hlc,hcm,hlen,hrd,_,_⟩
   .
    exact⟨_,⟨[],rfl,fun r h=>by cases h⟩,.one (.empty false none 0 (fun h=>by cases h) (by simp[maxLen])) rfl⟩
   have hrow : ∀ i,i<len -> ∃ ds,Sh P k e ds/\ds.length=P.cellsOf e /\ ∀ (j:Nat) d,ds[j]? = some d -> ∃ v,w.cell? (a.add (i*P.cellsOf e+j))=some v/\v.oneCell'=true/\Rep w (dH fun b=>b<w.heap.size) d v:=by
    intro i hi;have h1:=hrd i hi;have h2:elems[i]? = some (elems[i]'(by omega)):=Ye _
    rw[h2] at h1;rw[Option.bind_eq_some_iff] at h1;obtain⟨cs',hc,ht⟩:=h1;obtain⟨hcl,hcg⟩:=Mc hc;obtain⟨ds,hsh,⟨hrl,hrr⟩,ho⟩:=ih e cs' n _ hel hs ht;refine⟨ds,hsh,by rw[hrl,hcl],fun j d hd=>?_⟩
    have hj:j<cs'.length:=by rw[<- hrl];exact (X7.1 hd).1
    have hcj:=hcg j (by omega)
    rw[add_add'] at hcj;have hg:cs'[j]? = some (cs'[j]'hj):=Ye _;exact⟨cs'[j]'hj,by rw[hcj,hg],ho _ (YD _),hrr j d _ hd hg⟩
   have hch : ∃ rows:List (List D),rows.length=len /\ ∀ i r,rows[i]? = some r->Sh P k e r/\r.length=P.cellsOf e /\ ∀ (j:Nat) d,r[j]? = some d -> ∃ v,w.cell? (a.add (i*P.cellsOf e+j))=some v/\v.oneCell'=true/\Rep w (dH fun b=>b<w.heap.size) d v:=by
    refine⟨(List.range len).map fun i=>if h:i<len then Classical.choose (hrow i h) else [],by simp,fun i r hr=>?_⟩
    rw[YI] at hr
    by_cases hi:i<len
    .
     rw[List.getElem?_range hi] at hr;simp only[YQ,Yg] at hr;rw[dif_pos hi] at hr;subst hr;exact ZA (hrow i hi)
    rw[ZQ (by simpa using hi)] at hr;cases hr
   obtain⟨rows,hrl,hrr⟩:=hch;refine⟨_,⟨rows,rfl,fun r h=>by obtain⟨i,hi⟩:=Zg h;exact (hrr i r hi).1⟩,.one ?_ rfl⟩
   cases hz:len with
   | zero =>
    subst hz;have:rows=[]:=X5 hrl;subst this;exact .empty false _ _ (fun h=>by cases h) hcm
   | succ m =>
    rw[<- hz,<- hrl];have hcv : ∀ i j,∃ u,∀ row d,rows[i]? = some row->row[j]? = some d->w.cell? (a.add (i*P.cellsOf e+j))=some u/\u.oneCell'=true/\Rep w (dH fun b=>b<w.heap.size) d u:=by
     intro i j
     by_cases hh : ∃ row d,rows[i]? = some row/\row[j]? = some d
     .
      obtain⟨row,d,q1,q2⟩:=hh;obtain⟨u,q3⟩:=(hrr i row q1).2.2 j d q2;refine⟨u,fun row' d' q1' q2'=>?_⟩
      rw[q1] at q1';cases q1'
      rw[q2] at q2';cases q2'
      exact q3
     exact⟨undef,fun row d q1 q2=>absurd ⟨row,d,q1,q2⟩ hh⟩
    have hcs : ∀ i j row d,rows[i]? = some row->row[j]? = some d->w.cell? (a.add (i*P.cellsOf e+j))=some (Classical.choose (hcv i j))/\(Classical.choose (hcv i j)).oneCell'=true/\Rep w (dH fun b=>b<w.heap.size) d (Classical.choose (hcv i j)):=fun i j row d h1 h2=>ZA (hcv i j) row d h1 h2
    refine .list false rows a cap (P.cellsOf e) (fun i j=>Classical.choose (hcv i j)) ?_ om (fun h=>by cases h) hcm (fun r hr=>?_) (fun i j r d h1 h2=>⟨(hcs i j r d h1 h2).1,(hcs i j r d h1 h2).2.1⟩) fun i j r d h1 h2=>(hcs i j r d h1 h2).2.2
    .
     show a.block<w.heap.size
     have h0:rows[0]? = some (rows[0]'(by omega)):=Ye _
     obtain⟨_,q2,q3⟩:=hrr 0 _ h0;have h1:(rows[0]'(by omega))[0]? = some ((rows[0]'(by omega))[0]'(by omega)):=Ye _
     obtain⟨v,hv,_⟩:=q3 0 _ h1;have:=Ao hv;rwa [block_add] at this
    obtain⟨i,hi⟩:=Zg hr;exact (hrr i r hi).2.1
  .
   rename_i fs hu
   obtain⟨xs,n,_,_,hcl,hxl,hf⟩:=DataW.trod_struct hu hr;obtain⟨_,hsum,hoff⟩:=kid_struct hl htl hu;simp only[YP,XV,XW] at hs;have key : ∀ (fl:List Field) (i off:Nat),fs.toList.drop i=fl->off=((fs.toList.take i).map fun f=>P.cellsOf f.type).sum -> ∃ ds,AB (Sh P k) fl ds/\RepC w (dH fun b=>b<w.heap.size) ds (cs.drop off):=by
    intro fl
    induction fl with
    | nil =>
     intro i off hd ho;have hil:fs.toList.length<=i:=by
      have:=congrArg List.length hd;simp only[Yi,YW] at this;omega
     have:off=cs.length:=by rw[hcl,hsum,ho,Yp hil]
     rw[this,ZG];exact⟨[],rfl,.nil⟩
    | cons f fl ihf =>
     intro i off hd ho;have hil:i<fs.toList.length:=by
      have:=congrArg List.length hd;simp only[Yi,YN] at this;omega
     have hfi:fs.toList[i]? = some f:=by
      have:(fs.toList.drop i)[0]? = some f:=by rw[hd];rfl
      simpa using this
     have hofs:=hoff i f hfi;have hxi:xs[i]? = some (xs[i]'(by rw[hxl];simpa using hil)):=Ye _
     have hrd:=hf i f (by simpa using hfi)
     rw[hxi,hofs,<- ho] at hrd;have hmem:=Yk hfi;obtain⟨ds1,h1,h2⟩:=ih f.type _ n _ (hs f hmem).1 (hs f hmem).2 hrd;have htk:fs.toList.take (i+1)=fs.toList.take i++[f]:=by rw[Y1,hfi];rfl
     obtain⟨ds2,h3,h4⟩:=ihf (i+1) (off+P.cellsOf f.type) (by rw[<- Zm,hd];rfl) (by rw[htk,YS,List.sum_append,<- ho];simp)
     refine⟨ds1++ds2,⟨ds1,ds2,rfl,h1,h3⟩,?_⟩;rw[<- xJ cs off (P.cellsOf f.type)];exact h2.append h4
   obtain⟨ds,h1,h2⟩:=key fs.toList 0 0 rfl (by simp)
   exact⟨ds,h1,by simpa using h2⟩
  cases hs
def shFuel:Nat:=12
def ShV (P:Program) [Glob P] (t:TypeId) (x:D):Prop:=match P.underlying t with
 | some (.struct _)=>∃ cs,x = .agg cs/\Sh P shFuel t cs
 | _=>Sh P shFuel t [x]
def ShArgs (P:Program) [Glob P]:List TypeId->List D->Prop
 | [],xs=>xs=[]
 | t::ts,xs=>∃ x ys,xs=x::ys/\ShV P t x/\ShArgs P ts ys
theorem Xz {W W':World}(hb:xm W W') (may:MemPlace->Prop):W.keptBut W' may:=by
 refine⟨hb.os,hb.output,fun i hi=>?_⟩
 rw[hb.block i hi]
 cases h:W.heap[i]? with
 | none=>trivial
 | some o =>
  cases o<;>first
   | exact⟨rfl,rfl,rfl,fun _ _=>rfl⟩
   | exact .inr ⟨rfl,rfl⟩
   | rfl
theorem EW [Glob P] {H:Type}{enc:TypeId×Value->H}{W W':World}(hl:laidOutB P=true) (hb:xm W W'):∀ (ts:List TypeId) (vs:List Value) (ds:List (DataW H)) (ps:List MemPlace),(∀ t∈ts,P.readableRec t=true/\t<P.types.size) ->
  DataW.TrodAll enc P W 0 (fun _=>true) true ts vs ds ps->(∀ x∈ps,x.block<W.heap.size) -> ∀ sp:Nat->Bool,(∀ x∈ps,sp x.block=true)->DataW.TrodAll enc P W' 0 sp true ts vs ds ps
 | [],[],[],_,_,h,_,_,_=>h
 | t::ts,v::vs,d::ds,ps,ht,⟨p,q,h1,h2,e⟩,hlt,sp,hsp=>by
  subst e;have hbe:Below W.heap.size W W':=⟨hb.os,hb.tape,hb.output,hb.size,hb.block⟩;exact⟨p,q,WideElems.Trod_stays hl (ht t (by simp)).1 (ht t (by simp)).2 h1 (fun x hx=>hbe.same (hlt x (ZW _ hx))) (fun x hx=>hsp x (ZW _ hx)),
   EW hl hb ts vs ds q (fun t' h=>ht t' (by simp[h])) h2 (fun x hx=>hlt x (List.mem_append_right _ hx)) sp (fun x hx=>hsp x (List.mem_append_right _ hx)),rfl⟩
end Go.DL
namespace Go.DL
open Go.RowKit Go.ChangeShapes Go.WideShapes
variable {P : Program}
def litV:Lit->Value
 | .bool b=>.bool b
 | .int k n=>.int k n
 | .string s=>.string ⟨s.toArray⟩
 | _=>undef
def ql {H:Type}:Nat->DataW H->List Value
 | 0,_=>[]
 | k+1,d=>match d with
  | .lit l=>[litV l]
  | .agg ds=>ds.flatMap (ql k)
  | _=>[]
def vY (P:Program):Nat->TypeId->Bool
 | 0,_=>false
 | k+1,t=>match P.underlying t with
  | some .bool|some (.int _)|some .string=>true
  | some (.array _ e)=>decide (e<P.types.size)&&vY P k e
  | some (.struct fs)=>fs.toList.all fun f=>decide (f.type<P.types.size)&&vY P k f.type
  | _=>false
theorem lits {H:Type}{enc:TypeId×Value->H}{w:World}{base:Nat}{spare:Nat->Bool}{held:Bool}(hl:laidOutB P=true) :
  ∀ (k:Nat) (t:TypeId) (cs:List Value) (fuel:Nat) (x:DataW H×List MemPlace),t<P.types.size->vY P k t=true->DataW.trod enc P w base spare held fuel t cs=some x->cs=ql k x.1:=by
 intro k
 induction k with
 | zero=>intro t cs fuel x _ h;cases h
 | succ k ih =>
  intro t cs fuel x htl hs hr;unfold vY at hs
  split at hs
  .
   rename_i hu
   obtain⟨b,rfl,rfl⟩:=DataW.trod_bool hu hr;rfl
  .
   rename_i q hu
   obtain⟨n,rfl,rfl,_⟩:=DataW.trod_int hu hr;rfl
  .
   rename_i hu
   obtain⟨s,rfl,rfl,_⟩:=DataW.trod_string hu hr
   show [Value.string s]=[Value.string ⟨s.data.toList.toArray⟩]
   simp
  .
   rename_i n e hu
   simp only[XV,XW] at hs;obtain⟨xs,m,_,rfl,hcl,hxl,hel⟩:=DataW.trod_array hu hr;obtain⟨_,hcn⟩:=kid_array hl htl hu;have key : ∀ (j i:Nat),i+j=n->cs.drop (i*P.cellsOf e)=((xs.drop i).map (·.1)).flatMap (ql k):=by
    intro j
    induction j with
    | zero =>
     intro i hi;have hi':i=n:=by omega
     subst hi';rw[<- hcn,<- hcl,ZG,<- hxl,ZG];rfl
    | succ j ihj =>
     intro i hi;have hlt:i<xs.length:=by omega
     have h1:=hel i (by omega)
     rw[Ye hlt] at h1;have h2:=ih e _ m _ hs.1 hs.2 h1;have h3:=ihj (i+1) (by omega)
     have e1:(i+1)*P.cellsOf e=i*P.cellsOf e+P.cellsOf e:=by rw[Nat.succ_mul]
     rw[e1] at h3;rw[Yu hlt,X9,ZX,<- h3,<- h2];exact (xJ cs _ _).symm
   have:=key n 0 om
   simpa [ql] using this
  .
   rename_i fs hu
   obtain⟨xs,n,_,rfl,hcl,hxl,hf⟩:=DataW.trod_struct hu hr;obtain⟨_,hsum,hoff⟩:=kid_struct hl htl hu;simp only[YP,XV,XW] at hs;have hxl':xs.length=fs.toList.length:=by simpa using hxl
   have key : ∀ (j i:Nat),i+j=fs.toList.length->cs.drop ((fs.toList.take i).map fun f=>P.cellsOf f.type).sum=((xs.drop i).map (·.1)).flatMap (ql k):=by
    intro j
    induction j with
    | zero =>
     intro i hi;have hi':i=fs.toList.length:=by omega
     subst hi';rw[YB,<- hsum,<- hcl,ZG,<- hxl',ZG];rfl
    | succ j ihj =>
     intro i hi;have hlt:i<fs.toList.length:=by omega
     have hltx:i<xs.length:=by omega
     have hfi:fs.toList[i]? = some fs.toList[i]:=Ye hlt;have h1:=hf i fs.toList[i] (by simp)
     rw[hoff i _ hfi,Ye hltx] at h1;have hm:=hs _ (YD hlt);have h2:=ih _ _ n _ hm.1 hm.2 h1;have h3:=ihj (i+1) (by omega)
     have htk:fs.toList.take (i+1)=fs.toList.take i++[fs.toList[i]]:=by rw[Y1,hfi];rfl
     rw[htk,YS,List.sum_append] at h3;simp only[X9,Yx,List.sum_cons,List.sum_nil,Zu] at h3;rw[Yu hltx,X9,ZX,<- h3,<- h2];exact (xJ cs _ _).symm
   have:=key fs.toList.length 0 om
   simpa [ql] using this
  cases hs
end Go.DL
namespace Go.DL
open Go.RowKit Go.ChangeShapes Go.WideShapes Go.Proofs.YtjngdcldglkolaaGreatDoor
variable {P : Program}
def vg:Value->Nat
 | .string s=>s.size+1
 | _=>1
mutual
def D.cnt:D->Nat
 | .v x=>vg x
 | .agg cs=>cnts cs
 | .list _ rows=>cntr rows+1
 | _=>0
def cnts:List D->Nat
 | []=>0
 | d::ds=>d.cnt+cnts ds
def cntr:List (List D)->Nat
 | []=>0
 | r::rs=>cnts r+cntr rs
end
theorem LV : ∀ (a b:List D),cnts (a++b)=cnts a+cnts b
 | [],b=>by simp[cnts]
 | x::a,b=>by simp only[X0,cnts,LV a b];omega
theorem LW {H:Type}:∀ (rows:List (List D)) (es:List (DataW H)),rows.length=es.length->(∀ (i:Nat) r y,rows[i]? = some r->es[i]? = some y->cnts r<=Rows.uptoBulk y)->cntr rows<=Rows.uptoBulkAll es
 | [],[],_,_=>XX _
 | r::rows,y::es,hl,h=>by
  have h1:=h 0 r y rfl rfl;have h2:=LW rows es (by simpa using hl) fun i r' y' e1 e2=>h (i+1) r' y' (by simpa using e1) (by simpa using e2)
  simp only[cntr,Rows.uptoBulkAll];omega
theorem Qx [Glob P] {H:Type}{enc:TypeId×Value->H}{w:World}{base:Nat}{spare:Nat->Bool}{held:Bool}(hl:laidOutB P=true) :
  ∀ (k:Nat) (t:TypeId) (cs:List Value) (fuel:Nat) (x:DataW H×List MemPlace),t<P.types.size->mo P k t=true->DataW.trod enc P w base spare held fuel t cs=some x ->
   ∃ ds,Sh P k t ds/\RepC w (dH fun b=>b<w.heap.size) ds cs/\cnts ds<=Rows.uptoBulk x.1:=by
 intro k
 induction k with
 | zero=>intro t cs fuel x _ h;cases h
 | succ k ih =>
  intro t cs fuel x htl hs hr;unfold mo at hs;unfold Sh
  split at hs
  .
   rename_i hu
   obtain⟨b,rfl,rfl⟩:=DataW.trod_bool hu hr;exact⟨_,⟨b,rfl⟩,.one (.v _) rfl,by simp[cnts,D.cnt,vg,Rows.uptoBulk]⟩
  .
   rename_i q hu
   obtain⟨n,rfl,rfl,hw⟩:=DataW.trod_int hu hr;exact⟨_,⟨n,rfl,hw⟩,.one (.v _) rfl,by simp[cnts,D.cnt,vg,Rows.uptoBulk]⟩
  .
   rename_i hu
   obtain⟨s,rfl,rfl,hw⟩:=DataW.trod_string hu hr;exact⟨_,⟨s,rfl,hw⟩,.one (.v _) rfl,by simp[cnts,D.cnt,vg,Rows.uptoBulk]⟩
  .
   rename_i e hu
   simp only[XV,XW] at hs;obtain⟨⟨hpos,hel⟩,hs⟩:=hs
   rcases DataW.trod_slice hu hr with⟨rfl,rfl⟩|⟨a,len,cap,elems,rest,n,_,rfl,rfl,_,hlc,hcm,hlen,hrd,_,_⟩
   .
    exact⟨_,⟨[],rfl,fun r h=>by cases h⟩,.one (.empty false none 0 (fun h=>by cases h) (by simp[maxLen])) rfl,by simp[cnts,D.cnt,cntr,Rows.uptoBulk]⟩
   have hrow : ∀ i,i<len -> ∃ ds,Sh P k e ds/\(ds.length=P.cellsOf e /\ ∀ y,elems[i]? = some y->cnts ds<=Rows.uptoBulk y.1) /\ ∀ (j:Nat) d,ds[j]? = some d -> ∃ v,w.cell? (a.add (i*P.cellsOf e+j))=some v/\v.oneCell'=true/\Rep w (dH fun b=>b<w.heap.size) d v:=by
    intro i hi;have h1:=hrd i hi;have h2:elems[i]? = some (elems[i]'(by omega)):=Ye _
    rw[h2] at h1;rw[Option.bind_eq_some_iff] at h1;obtain⟨cs',hc,ht⟩:=h1;obtain⟨hcl,hcg⟩:=Mc hc;obtain⟨ds,hsh,⟨⟨hrl,hrr⟩,ho⟩,hb⟩:=ih e cs' n _ hel hs ht;refine⟨ds,hsh,⟨by rw[hrl,hcl],fun y hy=>by rw[h2] at hy;cases hy;exact hb⟩,fun j d hd=>?_⟩
    have hj:j<cs'.length:=by rw[<- hrl];exact (X7.1 hd).1
    have hcj:=hcg j (by omega)
    rw[add_add'] at hcj;have hg:cs'[j]? = some (cs'[j]'hj):=Ye _;exact⟨cs'[j]'hj,by rw[hcj,hg],ho _ (YD _),hrr j d _ hd hg⟩
   have hch : ∃ rows:List (List D),rows.length=len /\ ∀ i r,rows[i]? = some r->Sh P k e r/\(r.length=P.cellsOf e /\ ∀ y,elems[i]? = some y->cnts r<=Rows.uptoBulk y.1) /\ ∀ (j:Nat) d,r[j]? = some d -> ∃ v,w.cell? (a.add (i*P.cellsOf e+j))=some v/\v.oneCell'=true/\Rep w (dH fun b=>b<w.heap.size) d v:=by
    refine⟨(List.range len).map fun i=>if h:i<len then Classical.choose (hrow i h) else [],by simp,fun i r hr=>?_⟩
    rw[YI] at hr
    by_cases hi:i<len
    .
     rw[List.getElem?_range hi] at hr;simp only[YQ,Yg] at hr;rw[dif_pos hi] at hr;subst hr;exact ZA (hrow i hi)
    rw[ZQ (by simpa using hi)] at hr;cases hr
   obtain⟨rows,hrl,hrr⟩:=hch;refine⟨_,⟨rows,rfl,fun r h=>by obtain⟨i,hi⟩:=Zg h;exact (hrr i r hi).1⟩,.one ?_ rfl,?_⟩
   rotate_left
   .
    have hk:=LW rows (elems.map (·.1)) (by rw[Za,hrl,hlen]) fun i r y h1 h2=>by
     rw[YI] at h2
     cases hy:elems[i]? with
     | none=>rw[hy] at h2;cases h2
     | some z=>rw[hy] at h2;cases h2;exact (hrr i r h1).2.1.2 z hy
    have e0:cnts [D.list false rows]=cntr rows+1:=by simp[cnts,D.cnt]
    rw[e0];simp only[Rows.uptoBulk];omega
   cases hz:len with
   | zero =>
    subst hz;have:rows=[]:=X5 hrl;subst this;exact .empty false _ _ (fun h=>by cases h) hcm
   | succ m =>
    rw[<- hz,<- hrl];have hcv : ∀ i j,∃ u,∀ row d,rows[i]? = some row->row[j]? = some d->w.cell? (a.add (i*P.cellsOf e+j))=some u/\u.oneCell'=true/\Rep w (dH fun b=>b<w.heap.size) d u:=by
     intro i j
     by_cases hh : ∃ row d,rows[i]? = some row/\row[j]? = some d
     .
      obtain⟨row,d,q1,q2⟩:=hh;obtain⟨u,q3⟩:=(hrr i row q1).2.2 j d q2;refine⟨u,fun row' d' q1' q2'=>?_⟩
      rw[q1] at q1';cases q1'
      rw[q2] at q2';cases q2'
      exact q3
     exact⟨undef,fun row d q1 q2=>absurd ⟨row,d,q1,q2⟩ hh⟩
    have hcs : ∀ i j row d,rows[i]? = some row->row[j]? = some d->w.cell? (a.add (i*P.cellsOf e+j))=some (Classical.choose (hcv i j))/\(Classical.choose (hcv i j)).oneCell'=true/\Rep w (dH fun b=>b<w.heap.size) d (Classical.choose (hcv i j)):=fun i j row d h1 h2=>ZA (hcv i j) row d h1 h2
    refine .list false rows a cap (P.cellsOf e) (fun i j=>Classical.choose (hcv i j)) ?_ om (fun h=>by cases h) hcm (fun r hr=>?_) (fun i j r d h1 h2=>⟨(hcs i j r d h1 h2).1,(hcs i j r d h1 h2).2.1⟩) fun i j r d h1 h2=>(hcs i j r d h1 h2).2.2
    .
     show a.block<w.heap.size
     have h0:rows[0]? = some (rows[0]'(by omega)):=Ye _
     obtain⟨_,q2,q3⟩:=hrr 0 _ h0;have h1:(rows[0]'(by omega))[0]? = some ((rows[0]'(by omega))[0]'(by omega)):=Ye _
     obtain⟨v,hv,_⟩:=q3 0 _ h1;have:=Ao hv;rwa [block_add] at this
    obtain⟨i,hi⟩:=Zg hr;exact (hrr i r hi).2.1.1
  .
   rename_i fs hu
   obtain⟨xs,n,_,rfl,hcl,hxl,hf⟩:=DataW.trod_struct hu hr;obtain⟨_,hsum,hoff⟩:=kid_struct hl htl hu;simp only[YP,XV,XW] at hs;have key : ∀ (fl:List Field) (i off:Nat),fs.toList.drop i=fl->off=((fs.toList.take i).map fun f=>P.cellsOf f.type).sum -> ∃ ds,AB (Sh P k) fl ds/\RepC w (dH fun b=>b<w.heap.size) ds (cs.drop off)/\cnts ds<=Rows.uptoBulkAll ((xs.drop i).map (·.1)):=by
    intro fl
    induction fl with
    | nil =>
     intro i off hd ho;have hil:fs.toList.length<=i:=by
      have:=congrArg List.length hd;simp only[Yi,YW] at this;omega
     have:off=cs.length:=by rw[hcl,hsum,ho,Yp hil]
     rw[this,ZG];exact⟨[],rfl,.nil,Yl _⟩
    | cons f fl ihf =>
     intro i off hd ho;have hil:i<fs.toList.length:=by
      have:=congrArg List.length hd;simp only[Yi,YN] at this;omega
     have hfi:fs.toList[i]? = some f:=by
      have:(fs.toList.drop i)[0]? = some f:=by rw[hd];rfl
      simpa using this
     have hofs:=hoff i f hfi;have hxi:xs[i]? = some (xs[i]'(by rw[hxl];simpa using hil)):=Ye _
     have hrd:=hf i f (by simpa using hfi)
     rw[hxi,hofs,<- ho] at hrd;have hmem:=Yk hfi;obtain⟨ds1,h1,h2,hb1⟩:=ih f.type _ n _ (hs f hmem).1 (hs f hmem).2 hrd;have htk:fs.toList.take (i+1)=fs.toList.take i++[f]:=by rw[Y1,hfi];rfl
     obtain⟨ds2,h3,h4,hb2⟩:=ihf (i+1) (off+P.cellsOf f.type) (by rw[<- Zm,hd];rfl) (by rw[htk,YS,List.sum_append,<- ho];simp)
     refine⟨ds1++ds2,⟨ds1,ds2,rfl,h1,h3⟩,?_,?_⟩
     rotate_left
     .
      rw[LV,Yu (show i<xs.length by rw[hxl];simpa using hil),X9]
      simp only[Rows.uptoBulkAll];exact Nat.add_le_add hb1 hb2
     rw[<- xJ cs off (P.cellsOf f.type)];exact h2.append h4
   obtain⟨ds,h1,h2,hb⟩:=key fs.toList 0 0 rfl (by simp)
   refine⟨ds,h1,by simpa using h2,Yb hb ?_⟩
   simp only[Rows.uptoBulk,X8];omega
  cases hs
theorem QD [Glob P] {H:Type}{enc:TypeId×Value->H}{w:World}{spare:Nat->Bool}{held:Bool}{b0:Nat}{t:TypeId}{v:Value}{d:DataW H}{ps:List MemPlace}(hl:laidOutB P=true) (htl:t<P.types.size) (hs:mo P shFuel t=true) (hv:Value.okWide P w .any b0 t v) (h:DataW.Trod enc P w 0 spare held t v d ps) :
  ∃ x,(ShV P t x/\x.cnt<=Rows.uptoBulk d)/\Rep w (dH fun b=>b<w.heap.size) x v:=by
 obtain⟨fuel,h⟩:=h
 obtain⟨ds,h1,h2,hb⟩:=Qx hl shFuel t v.cells.toList fuel _ htl hs h
 have one:v.cells = #[v]->(ShV P t (ds.headD .junk)/\(ds.headD .junk).cnt<=Rows.uptoBulk d)/\Rep w (dH fun b=>b<w.heap.size) (ds.headD .junk) v\/(∃ fs,P.underlying t=some (.struct fs)):=by
  intro hc;rw[hc] at h2;have hlen:ds.length=1:=h2.1.1
  match ds,hlen with
  | [x],_ =>
   by_cases hst : ∃ fs,P.underlying t=some (.struct fs)
   .
    exact .inr hst
   refine .inl ⟨⟨?_,by simpa [cnts] using hb⟩,h2.1.head⟩
   unfold ShV
   split
   .
    rename_i fs hu;exact absurd ⟨fs,hu⟩ hst
   exact h1
 unfold shFuel mo at hs
 split at hs
 .
  rename_i hu
  obtain⟨b,rfl⟩:=okWide_bool hu hv
  rcases one rfl with h|⟨fs,h⟩
  .
   exact⟨_,h⟩
  rw[hu] at h;cases h
 .
  rename_i q hu
  obtain⟨n,rfl⟩:=okWide_int hu hv
  rcases one rfl with h|⟨fs,h⟩
  .
   exact⟨_,h⟩
  rw[hu] at h;cases h
 .
  rename_i hu
  obtain⟨s,rfl⟩:=okWide_string hu hv
  rcases one rfl with h|⟨fs,h⟩
  .
   exact⟨_,h⟩
  rw[hu] at h;cases h
 .
  rename_i e hu
  obtain⟨a,len,cap,rfl⟩:=okWide_slice hu hv
  rcases one rfl with h|⟨fs,h⟩
  .
   exact⟨_,h⟩
  rw[hu] at h;cases h
 .
  rename_i fs hu
  obtain⟨cs,rfl,_⟩:=okWide_struct hu hv;refine⟨.agg ds,⟨?_,by simpa [D.cnt] using hb⟩,.mk_agg ?_⟩
  .
   unfold ShV;rw[hu];exact⟨ds,rfl,h1⟩
  have:(Value.agg cs).cells=cs:=rfl;rw[this] at h2;exact h2.1
 cases hs
theorem GI [Glob P] {H:Type}{enc:TypeId×Value->H}{w:World}{spare:Nat->Bool}{held:Bool}{b0:Nat}(hl:laidOutB P=true):∀ (ts:List TypeId) (vs:List Value) (ds:List (DataW H)) (ps:List MemPlace),(∀ t∈ts,t<P.types.size/\mo P shFuel t=true) ->
  (∀ (j:Nat) t v,ts[j]? = some t->vs[j]? = some v->Value.okWide P w .any b0 t v)->DataW.TrodAll enc P w 0 spare held ts vs ds ps -> ∃ xs,(ShArgs P ts xs/\cnts xs<=Rows.uptoBulkAll ds)/\Reps w (dH fun b=>b<w.heap.size) xs vs
 | [],[],[],_,_,_,_=>⟨[],⟨rfl,Yl _⟩,.nil⟩
 | t::ts,v::vs,d::ds,ps,ht,hv,⟨p,q,h1,h2,_⟩=>by
  obtain⟨x,⟨hx1,hb1⟩,hx2⟩:=QD hl (ht t (by simp)).1 (ht t (by simp)).2 (hv 0 t v rfl rfl) h1
  obtain⟨xs,⟨hy1,hb2⟩,hy2⟩:=GI hl ts vs ds q (fun t' h=>ht t' (by simp[h])) (fun j t' v' e1 e2=>hv (j+1) t' v' (by simpa using e1) (by simpa using e2)) h2
  exact⟨x::xs,⟨⟨x,xs,rfl,hx1,hy1⟩,by simp only[cnts,Rows.uptoBulkAll];exact Nat.add_le_add hb1 hb2⟩,.cons hx2 hy2⟩
theorem law_contract_u [Glob P] {H:Type}{enc:TypeId×Value->H}{f:FuncId}{fn:Func}{s:ChangeSpec}{tb:TypeId}{apart fresh handsOn again:Bool}(hl:laidOutB P=true) (hvars:s.vars=[]) (hrt:fn.resultTypes = #[tb]) (hbool:P.underlying tb=some .bool)
  (hpar:(fn.params.toList.all fun t=>P.readableRec t&&decide (t<P.types.size)&&mo P shFuel t)=true)
  (hfn : ∀ ds:List (DataW H),ds.length=fn.params.toList.length->s.fn H ds={ results:=[.lit (.bool true)],args:=ds })
  (hct : ∀ xs:List D,ShArgs P fn.params.toList xs->cnts xs<=1048576->PureCt P f xs (.b true)) :
  ∀ (W:World) (base:Nat) (args:Array Value) (ds gs:List (DataW H)) (before:List MemPlace),Rows.uptoBulkAll ds<=1048576->Gr P (fun b=>b<W.heap.size) W->(∀ (j:Nat) t v,fn.params[j]? = some t->args[j]? = some v->Value.okWide P W .any base t v) ->
   DataW.Whole enc P fn.params.toList s.vars apart W args.toList ds gs before ->
   Calls P f args W fun e W'=>∃ v,e = .returned v/\s.post enc P fn apart fresh handsOn again W args v W':=by
 intro W base args ds gs before hbulk hgr hval hW
 simp only[YP,XV,XW] at hpar
 have hW':=hW
 obtain⟨p,q,hA,hV,hpq,hfz,hnd⟩:=hW
 rw[hvars] at hV
 obtain⟨rfl,rfl⟩:gs=[]/\q=[]:=by
  cases gs with
  | nil=>exact⟨rfl,hV⟩
  | cons g gs=>exact False.elim hV
 rw[Yy] at hpq
 obtain⟨xs,⟨hx1,hxb⟩,hx2⟩:=GI hl _ _ _ _ (fun t ht=>⟨(hpar t ht).1.2,(hpar t ht).2⟩) (fun j t v h1 h2=>hval j t v (by simpa using h1) (by simpa using h2)) hA
 obtain⟨_,_,hct⟩:=hct xs hx1 (Yb hxb hbulk)
 have hlen : ∀ {ts:List TypeId} {vs:List Value} {ds:List (DataW H)} {ps:List MemPlace},DataW.TrodAll enc P W 0 (fun _=>true) true ts vs ds ps->ds.length=ts.length:=by
  intro ts
  induction ts with
  | nil=>intro vs ds ps h;cases vs<;>cases ds<;>first|rfl|exact False.elim h
  | cons t ts ih =>
   intro vs ds ps h
   cases vs<;>cases ds<;>first|exact False.elim h|skip
   obtain⟨_,_,_,h2,_⟩:=h
   simp[ih h2]
 have hres:=hfn ds (hlen hA)
 have:=callsIn_wide.1 (hct W (fun b=>b<W.heap.size) _ (fun b h=>h) hgr hx2)
 have ea:args.toList.toArray=args:=by simp
 rw[ea] at this
 refine this.mono ?_
 rintro e W' ⟨v,rfl,hb,hv⟩
 rw[hv.v_inv]
 refine⟨_,rfl,?_⟩
 have hlt : ∀ x∈before,x.block<W.heap.size:=fun x hx=>hW'.lt x hx
 have hsp : ∀ sp:Nat->Bool,(∀ x∈before,sp x.block=true)->DataW.TrodAll enc P W' 0 sp true fn.params.toList args.toList ds before:=by
  intro sp h;rw[hpq] at h hlt ⊢;exact EW hl hb _ _ _ _ (fun t ht=>(hpar t ht).1) hA hlt sp h
 have hfn':s.fn H (ds++[])={ results:=[.lit (.bool true)],args:=ds }:=by rw[Yy];exact hres
 have hrs : ∀ (b:Nat) (sp:Nat->Bool) (hd:Bool),DataW.TrodAll enc P W' b sp hd fn.resultTypes.toList ((Value.bool true).resultList fn.resultTypes.size) [.lit (.bool true)] []:=by
  intro b sp hd;rw[hrt];exact trodAll_cons_mk (shut_bool hbool _) trodAll_mk0
 have hold : ∀ x∈before,(fun b=>decide (b<W.heap.size)) x.block=true:=fun x hx=>by simpa using hlt x hx
 have hvs : ∀ sp:Nat->Bool,DataW.TrodVars enc P W' sp s.vars [] []:=fun sp=>by rw[hvars];exact rfl
 have hfz' : ∀ x∈before,∀ b off,x=MemPlace.cell b off->W'.frozen? ⟨b,off,none⟩=false:=by
  intro x hx b off e;subst e;have hbl:b<W.heap.size:=hlt _ hx;have e2:W'.frozen? ⟨b,off,none⟩=W.frozen? ⟨b,off,none⟩:=World.frozen?_of_block (hb.block b hbl);rw[e2];exact hfz b off hx
 unfold ChangeSpec.post
 refine⟨ds,[],before,[],before,[],hW',?_,?_,?_,World.keptBut_mono (fun x hx=>⟨hx,.inr (.inl hx)⟩) (Xz hb (· ∈ before)),fun _=>⟨?_,?_⟩⟩
 .
  rw[hfn'];exact hrs _ _ _
 .
  rw[hfn'];exact hsp _ hold
 .
  rw[hfn'];exact hvs _
 .
  exact ok_one hrt rfl (okWide_bool_mk hbool _)
 refine⟨_,[],([]++before)++[],⟨[]++before,[],trodAll_append (hsp _ fun _ _=>rfl) (hrs _ _ _),hvs _,rfl,?_,?_⟩,?_⟩
 .
  intro b off hx;exact hfz' _ (by simpa using hx) b off rfl
 .
  intro ha
  simpa using hnd ha
 intro x hx _
 simpa using hx
end Go.DL
namespace Go.Proofs.YtjngdcldglkolaaGreatDoor
open Go.DL Go.RowKit Go.ChangeShapes
def jlaid : List (String × DataW Unit) := [("bytes.ErrTooLarge", Rows.laid_bytes_ErrTooLarge), ("nameplan/record.rules", Rows.laid_nameplan_record_rules), ("nameplan/journal.errBroken", Rows.laid_nameplan_journal_errBroken)]
theorem Js : ("*errors.errorString" : String) = "*" ++ "errors.errorString" := by decide
theorem jrow (u : TypeId) (h : Tryz.prog.typeName? 3 u = some "*errors.errorString") : u = 290 :=
 typeName_ptr_named (nm := "errors.errorString") (by rw [<- Js]; kernel_rfl) (by kernel_rfl) (by decide) u (by rw [<- Js]; exact h)
theorem Tu {P:Program}{nm:String}{d:DataW Unit}{r:List (String×DataW Unit)}{W:World}{g:Nat}{t:TypeId}{k:Nat}{cells:List Value}(hl:laidOutB P=true) (h:laidMet P ((nm,d)::r) W)
  (hg:P.globalNamed nm=some g) (ht:(P.globals[g]?).map (·.type)=some t) (htl:t<P.types.size) (hb:vY P k t=true) (hc:ql k d=cells) (j:Nat) (v:Value) (hv':cells[j]? = some v):W.cell? ⟨g,j,none⟩=some v:=by
 obtain⟨ps,⟨g0,t0,cs,fuel,p,q,hg0,ht0,hv,hd,_,_⟩,_,_⟩:=h
 obtain rfl:=Z8 (hg.symm.trans hg0)
 obtain rfl:=Z8 (ht.symm.trans ht0)
 have hcs:=lits hl k t _ _ _ htl hb hd
 rw[show ql k (d,p).1=cells from hc] at hcs
 rw[World.var?_cell hg0 hv j]
 obtain⟨l⟩:=cs
 simp only at hcs
 subst hcs
 simp[hv']
set_option maxRecDepth 100000 in
theorem told_cells {W:World}(h:laidMetH Tryz.prog jlaid W):∃ a:Addr,∀ x cs,toldF a x=some cs->x<W.heap.size /\ ∀ (j:Nat) v,cs[j]? = some v->W.cell? ⟨x,j,none⟩=some v:=by
 unfold jlaid at h
 rw[MakeChecks.laidMetH_plain _ _ _ (by kernel_rfl)] at h
 have h2:=h.tail
 have h3:=h2.tail
 obtain ⟨a, s, hv, _, _, _⟩ := laid_sentinel (g := 0) (n := "nameplan/journal.errBroken") (nm := "*errors.errorString") h3 (by kernel_rfl) (by kernel_rfl) Tryz.underlying125 jrow Tryz.underlying290 Tryz.underlying313 rfl rfl Tryz.underlying9 (by kernel_rfl) (by kernel_rfl)
 have hr:=Tu (g:=1) (t:=215) (k:=3) (cells:=rulesTab) (by kernel_rfl) h2 (by kernel_rfl) (by kernel_rfl) (Zl (by kernel_rfl)) (by kernel_rfl) (by kernel_rfl)
 have he:W.cell? ⟨0,0,none⟩=some (fJ a):=by
  rw[World.var?_cell (by kernel_rfl) hv 0]
  rfl
 refine⟨a,fun x cs hx=>?_⟩
 unfold toldF at hx
 split at hx
 .
  rename_i e
  subst e
  cases hx
  exact⟨Ao (hr 0 _ rfl),hr⟩
 split at hx
 .
  rename_i e
  subst e
  cases hx
  refine⟨Ao he,fun j v hj=>?_⟩
  match j,hj with
  | 0,hj=>cases hj;exact he
  | j+1,hj=>simp at hj
 cases hx
theorem cntr_bD : ∀ l:List UInt8,cntr (l.map Go.Str.bD)=l.length
 | []=>rfl
 | b::l=>by
  rw[X9,YN]
  show cnts (Go.Str.bD b)+cntr (l.map Go.Str.bD)=_
  rw[cntr_bD l]
  simp[Go.Str.bD,cnts,D.cnt,vg]
  omega
end Go.Proofs.YtjngdcldglkolaaGreatDoor
namespace Go.Proofs.YtjngdcldglkolaaGreatDoor
open Go.DL Go.Str Go.Rec Go.Zon Go.Jn
def Jl:Con where
 pure:=fun k=>[243,231,204,120,119,59,161,103,188,233,206,190,180,163,165,234,122,207,235,164,210,162,104,166,60,208,181,125,167,124,209,168,108,65,123,121,158,134,222,179,219,182,126,136,135,127,107,128,138,129,141,63,101,45,24,160,159,102,69,70,72,73,74,75,71,31,46,137,84,85,86,221,189,139,87,140,88,34,96,61,105,62,106,66,51,64,97,67,98,29,12,41,112,113,55,48,50,54,157,150,154,49,53,111,153,47,27,94,33,38,32,79,116,146,143,93,92,36,37,39,44,13,16,18,20,22,56,28,43,40,10,68,30,25,9,5,6,7,26].contains k
 pf:=fun k xs=>match k,xs with
  | 243,[x0,x1]=>.i (lastIx (str1 x0) (int1 x1))
  | 231,[x0,x1]=>.i (lastIx (str1 x0) (int1 x1))
  | 204,[x0]=>.b (labelOk (str1 x0))
  | 120,[x0]=>.b (labelOk (str1 x0))
  | 119,[x0]=>.list false ((splitF (str1 x0)).map sR)
  | 59,[x0]=>.b (nameOk (str1 x0))
  | 161,[x0]=>.b (nameOk (str1 x0))
  | 103,[x0]=>.b (nameOk (str1 x0))
  | 188,[x0]=>.list false ((partsOf (str1 x0)).map sR)
  | 233,[x0,x1]=>.i (Go.Lib.compareBytes (str1 x0) (str1 x1))
  | 206,[x0,x1]=>.i (Go.Lib.compareBytes (str1 x0) (str1 x1))
  | 190,[x0,x1]=>.i (nmOrd (str1 x0) (str1 x1))
  | 180,[x0,x1]=>.tuple [.i (if nameOk (str1 x0)&&nameOk (str1 x1) then nmCmp (str1 x0) (str1 x1) else 0),.i (if nameOk (str1 x0)&&nameOk (str1 x1) then 0 else 11)]
  | 163,[x0,x1]=>.tuple [.i (if nameOk (str1 x0)&&nameOk (str1 x1) then nmCmp (str1 x0) (str1 x1) else 0),.i (if nameOk (str1 x0)&&nameOk (str1 x1) then 0 else 11)]
  | 165,[x0,x1,x2]=>.b (inR (int1 x0) (int1 x1) (int1 x2))
  | 234,[x0,x1,x2]=>.b (inR (int1 x0) (int1 x1) (int1 x2))
  | 122,[x0,x1,x2]=>.b (inR (int1 x0) (int1 x1) (int1 x2))
  | 207,[x0]=>.b ((int1 x0) != (int1 x0))
  | 235,[x0]=>.b ((str1 x0) != (str1 x0))
  | 164,[x0,x1]=>.i (cmpI (int1 x0) (int1 x1))
  | 210,[x0,x1]=>.i (cmpS (str1 x0) (str1 x1))
  | 162,[x0,x1]=>.b (hasPre (str1 x0) (str1 x1))
  | 104,[x0,x1]=>.b (hasPre (str1 x0) (str1 x1))
  | 166,[x0]=>.b (wildB (str1 x0))
  | 60,[x0]=>.b (wildB (str1 x0))
  | 208,[x0]=>.b (freeB (str1 x0))
  | 181,[x0]=>.b (freeB (str1 x0))
  | 125,[x0,x1]=>.b (less (dat1 x0) (dat1 x1))
  | 167,[x0,x1]=>.b (datOk (rule1 x0) (dat1 x1))
  | 124,[x0,x1]=>.b (rDatOk (int1 x0) (dat1 x1))
  | 209,[x0]=>.i (orFrom (ints1 x0) 0)
  | 168,[x0,x1]=>.i (datC (dat1 x0) (dat1 x1))
  | 108,[x0]=>.b (setOk (set1 x0))
  | 65,[x0]=>.b (setOk (set1 x0))
  | 123,[x0]=>.b (singleB (int1 x0))
  | 121,[x0,x1]=>.i (rOrd (set1 x0) (set1 x1))
  | 158,[x0,x1]=>.b (sameB (set1 x0) (set1 x1))
  | 134,[x0]=>.tuple [.list false ((bytesF (set1 x0)).1.map bD),.i (bytesF (set1 x0)).2]
  | 222,[x0]=>.tuple [.agg (readF (bytes1 x0)).1.d,.i (readF (bytes1 x0)).2]
  | 179,[x0]=>.tuple [.agg (readF (bytes1 x0)).1.d,.i (readF (bytes1 x0)).2]
  | 219,[x0,x1]=>.b (hasSuf (str1 x0) (str1 x1))
  | 182,[x0,x1]=>.b (hasSuf (str1 x0) (str1 x1))
  | 126,[x0,x1]=>.tuple [.b (underV (str1 x0) (str1 x1)),.i (if nameOk (str1 x0)&&nameOk (str1 x1) then 0 else 11)]
  | 136,[x0,x1]=>.b (inB (str1 x0) (str1 x1))
  | 135,[x0]=>.b (wild1 (str1 x0))
  | 127,[x0,x1,x2,x3]=>.i (qC ⟨(str1 x0),(int1 x1)⟩ ⟨(str1 x2),(int1 x3)⟩)
  | 107,[x0,x1]=>.i (qC (qst1 x0) (qst1 x1))
  | 128,[x0,x1]=>.b (fits (int1 x0) (bool1 x1))
  | 138,[x0,x1]=>.b (fits (int1 x0) (bool1 x1))
  | 129,[x0,x1]=>.b (sigsOk (sigs1 x0) (str1 x1))
  | 141,[x0,x1]=>.b (sigsOk (sigs1 x0) (str1 x1))
  | 63,[x0]=>.b (qOk (qst1 x0))
  | 101,[x0,x1]=>.b (sameSgd (sgd1 x0) (sgd1 x1))
  | 45,[x0,x1]=>.b (sameList (sgds1 x0) (sgds1 x1))
  | 24,[x0,x1]=>.b (sameZ (zon1 x0) (zon1 x1))
  | 160,[x0,x1]=>.i (qC (sgd1 x0).q (qst1 x1))
  | 159,[x0,x1,x2]=>.tuple [.i (findIx (sgds1 x0) (qst1 x1)),.b (findOk (sgds1 x0) (qst1 x1))]
  | 102,[x0,x1]=>.tuple [.i (findIx (zon1 x0).sets (qst1 x1)),.b (findOk (zon1 x0).sets (qst1 x1))]
  | 69,[x0]=>.b (ordered (zon1 x0))
  | 70,[x0]=>.b (apexHolds (zon1 x0))
  | 72,[x0]=>.b (aliasB (lay1 x0))
  | 73,[x0]=>.b (cutB (lay1 x0))
  | 74,[x0]=>.b (glueB (lay1 x0))
  | 75,[x0]=>.b (formB (lay1 x0))
  | 71,[x0]=>.agg (layOf (zon1 x0)).d
  | 31,[x0]=>.b (zoneOk (zon1 x0))
  | 46,[x0]=>.tuple [.i (if zoneOk (zon1 x0) then serialOf (zon1 x0) else 0),.i (if zoneOk (zon1 x0) then 0 else 1)]
  | 137,[x0,x1]=>.i (atF (zon1 x0).sets (qst1 x1))
  | 84,[x0]=>.b (oneB (zon1 x0))
  | 85,[x0]=>.b (twoB (zon1 x0))
  | 86,[x0]=>.b (threeB (zon1 x0))
  | 221,[x0]=>.list false ((cutsF (zon1 x0)).map sR)
  | 189,[x0]=>.list false ((highF (zon1 x0)).map sR)
  | 139,[x0]=>.list false ((behR (zon1 x0)).map sR)
  | 87,[x0]=>.b (fourB (zon1 x0))
  | 140,[x0]=>.list false ((ownF (zon1 x0)).map bR)
  | 88,[x0]=>.b (fiveB (zon1 x0))
  | 34,[x0]=>.b (refOk (zon1 x0))
  | 96,[x0]=>.i (serialR (zon1 x0))
  | 61,[x0]=>.b (serB (int1 x0))
  | 105,[x0]=>.b (serB (int1 x0))
  | 62,[x0,x1]=>.b (befB (int1 x0) (int1 x1))
  | 106,[x0,x1]=>.b (befB (int1 x0) (int1 x1))
  | 66,[x0]=>.agg (sgd1 x0).q.d
  | 51,[x0]=>.agg (sgd1 x0).q.d
  | 64,[x0,x1]=>.i (qO (qst1 x0) (qst1 x1))
  | 97,[x0,x1]=>.i (atF (sgds1 x0) (qst1 x1))
  | 67,[x0,x1]=>.b (askB (qsts1 x0) (qst1 x1))
  | 98,[x0,x1]=>.list false ((sortedF (sgds1 x0) (sgd1 x1)).map Sgd.d)
  | 29,[x0]=>.b (dltOk (dlt1 x0))
  | 12,[x0]=>.b (fewD (dlt1 x0))
  | 41,[x0,x1]=>.tuple [.agg (applyR (zon1 x0) (dlt1 x1)).1.d,.i (applyR (zon1 x0) (dlt1 x1)).2]
  | 112,[x0]=>.list false ((dats1 x0).map Dat.d)
  | 113,[x0]=>.list false ((sigs1 x0).map RSig.d)
  | 55,[x0]=>.agg (sgd1 x0).d
  | 48,[x0]=>.fmap (kvP (mapP (sgds1 x0)))
  | 50,[x0,x1]=>.tuple [.agg (sgd1 x0).d,.b (newB (mapc1 x1) (sgd1 x0).q)]
  | 54,[x0]=>.tuple [.agg (sgd1 x0).d,.b true]
  | 157,[x0]=>.tuple [.agg (sgd1 x0).d,.b true]
  | 150,[x0]=>.agg (qst1 x0).d
  | 154,[x0,x1]=>.list false (((qsts1 x0).filterMap (j3S (capm1 x1))).map Qst.d)
  | 49,[x0,x1]=>.list false (((sgds1 x0).filterMap (semS (x1))).map Sgd.d)
  | 53,[x0]=>.fn (.func 111) [] [.eptr [.fn (.func 51) [] []]]
  | 111,[x0,x1,x2]=>.i (qC (sgd1 x0).q (sgd1 x1).q)
  | 153,[x0]=>.fn (.func 202) [] [.eptr [.fn (.func 150) [] []]]
  | 47,[x0]=>.b (dltOk (dlt1 x0))
  | 27,[x0,x1]=>.tuple [.agg (applyP (zon1 x0) (dlt1 x1)).1.d,.i (applyP (zon1 x0) (dlt1 x1)).2]
  | 94,[x0,x1]=>.tuple [.agg (joinP (dlt1 x0) (dlt1 x1)).1.d,.i (joinP (dlt1 x0) (dlt1 x1)).2]
  | 33,[x0]=>.list false ((zonB (zon1 x0)).map bD)
  | 38,[x0]=>.list false ((dltB (dlt1 x0)).map bD)
  | 32,[x0,x1]=>.list false ((frmB (byte1 x0) (bytes1 x1)).map bD)
  | 79,[x0]=>.v (.int .u64 ((dig (bytes1 x0):Nat):Int))
  | 116,[x0]=>.v (.int .u64 ((dig (bytes1 x0):Nat):Int))
  | 146,[x0,x1]=>.b (isE (val1 x0))
  | 143,[x0,x1]=>.tuple [.list false ((fst1 (byte1 x0).toNat (bytes1 x1)).2.map bD),.i (fst1 (byte1 x0).toNat (bytes1 x1)).1]
  | 93,[x0,x1]=>.tuple [.agg (nextF (cnt1 x0) (bytes1 x1)).1.d,.i (nextF (cnt1 x0) (bytes1 x1)).2]
  | 92,[x0]=>.tuple [.agg (wholeC (bytes1 x0)).d,.i (sumL (frs (bytes1 x0)))]
  | 36,[x0]=>.tuple [.agg (opnOf (dsk1 x0)).d,.b (openF (dsk1 x0)).isSome]
  | 37,[x0]=>.b (dltOk (dlt1 x0))
  | 39,[x0]=>.list false ((bytes1 x0).map bD)
  | 44,[x0,x1,x2]=>.list false (((bytes1 x0)++catB (pend1 x1)++(bytes1 x2)).map bD)
  | 13,[x0]=>.tuple [.agg (beginF (zon1 x0)).1.d,.i (beginF (zon1 x0)).2]
  | 16,[x0,x1]=>.tuple [.agg (appendF (dsk1 x0) (dlt1 x1)).1.d,.i (appendF (dsk1 x0) (dlt1 x1)).2]
  | 18,[x0]=>.tuple [.agg (syncF (dsk1 x0)).1.d,.i (syncF (dsk1 x0)).2]
  | 20,[x0,x1,x2]=>.tuple [.agg (crashF (dsk1 x0) (int1 x1) (int1 x2)).1.d,.i (crashF (dsk1 x0) (int1 x1) (int1 x2)).2]
  | 22,[x0]=>.tuple [.agg (loadF (dsk1 x0)).1.d,.i (loadF (dsk1 x0)).2]
  | 56,[x0,x1]=>.tuple [.i (fst1 (int1 x1).toNat (bytes1 x0)).1,.list false ((fst1 (int1 x1).toNat (bytes1 x0)).2.map bD)]
  | 28,[x0]=>.tuple [.agg (wholeZ (bytes1 x0)).d,.list false ((endsB (bytes1 x0)).map nD)]
  | 43,[x0]=>.list false ((partB (bytes1 x0)).map bD)
  | 40,[x0]=>.tuple [.list false (((allR (dsk1 x0)).getD []).map bD),.b (allR (dsk1 x0)).isSome]
  | 10,[x0]=>.b (fewK (dsk1 x0))
  | 68,[x0,x1,x2]=>.agg (mQ (str1 x0) (int1 x1) (dat1 x2)).d
  | 30,[]=>.tuple [.agg exZ.d,.agg exX.d]
  | 25,[x0]=>.b (fewK (dsk1 x0)&&(allR (dsk1 x0)).isSome)
  | 9,[]=>.b true
  | 5,[x0,x1,x2]=>.b true
  | 6,[x0,x1,x2,x3]=>.b true
  | 7,[x0,x1,x2]=>.b true
  | 26,[x0]=>.tuple [.list false ((iW (dsk1 x0)).map zR),.b (wholeC (dsk1 x0).safe).isSome]
  | _,_=>.junk
@[go_sem] theorem jlp243:Jl.pure 243=true:=rfl
@[go_sem] theorem jlf243 {x0 x1:D}:Jl.pf 243 [x0,x1] = .i (lastIx (str1 x0) (int1 x1)):=rfl
@[go_sem] theorem jlp231:Jl.pure 231=true:=rfl
@[go_sem] theorem jlf231 {x0 x1:D}:Jl.pf 231 [x0,x1] = .i (lastIx (str1 x0) (int1 x1)):=rfl
@[go_sem] theorem jlp204:Jl.pure 204=true:=rfl
@[go_sem] theorem jlf204 {x0:D}:Jl.pf 204 [x0] = .b (labelOk (str1 x0)):=rfl
@[go_sem] theorem jlp120:Jl.pure 120=true:=rfl
@[go_sem] theorem jlf120 {x0:D}:Jl.pf 120 [x0] = .b (labelOk (str1 x0)):=rfl
@[go_sem] theorem jlp119:Jl.pure 119=true:=rfl
@[go_sem] theorem jlf119 {x0:D}:Jl.pf 119 [x0] = .list false ((splitF (str1 x0)).map sR):=rfl
@[go_sem] theorem jlp59:Jl.pure 59=true:=rfl
@[go_sem] theorem jlf59 {x0:D}:Jl.pf 59 [x0] = .b (nameOk (str1 x0)):=rfl
@[go_sem] theorem jlp161:Jl.pure 161=true:=rfl
@[go_sem] theorem jlf161 {x0:D}:Jl.pf 161 [x0] = .b (nameOk (str1 x0)):=rfl
@[go_sem] theorem jlp103:Jl.pure 103=true:=rfl
@[go_sem] theorem jlf103 {x0:D}:Jl.pf 103 [x0] = .b (nameOk (str1 x0)):=rfl
@[go_sem] theorem jlp188:Jl.pure 188=true:=rfl
@[go_sem] theorem jlf188 {x0:D}:Jl.pf 188 [x0] = .list false ((partsOf (str1 x0)).map sR):=rfl
@[go_sem] theorem jlp233:Jl.pure 233=true:=rfl
@[go_sem] theorem jlf233 {x0 x1:D}:Jl.pf 233 [x0,x1] = .i (Go.Lib.compareBytes (str1 x0) (str1 x1)):=rfl
@[go_sem] theorem jlp206:Jl.pure 206=true:=rfl
@[go_sem] theorem jlf206 {x0 x1:D}:Jl.pf 206 [x0,x1] = .i (Go.Lib.compareBytes (str1 x0) (str1 x1)):=rfl
@[go_sem] theorem jlp190:Jl.pure 190=true:=rfl
@[go_sem] theorem jlf190 {x0 x1:D}:Jl.pf 190 [x0,x1] = .i (nmOrd (str1 x0) (str1 x1)):=rfl
@[go_sem] theorem jlp180:Jl.pure 180=true:=rfl
@[go_sem] theorem jlf180 {x0 x1:D}:Jl.pf 180 [x0,x1] = .tuple [.i (if nameOk (str1 x0)&&nameOk (str1 x1) then nmCmp (str1 x0) (str1 x1) else 0),.i (if nameOk (str1 x0)&&nameOk (str1 x1) then 0 else 11)]:=rfl
@[go_sem] theorem jlp163:Jl.pure 163=true:=rfl
@[go_sem] theorem jlf163 {x0 x1:D}:Jl.pf 163 [x0,x1] = .tuple [.i (if nameOk (str1 x0)&&nameOk (str1 x1) then nmCmp (str1 x0) (str1 x1) else 0),.i (if nameOk (str1 x0)&&nameOk (str1 x1) then 0 else 11)]:=rfl
@[go_sem] theorem jlp165:Jl.pure 165=true:=rfl
@[go_sem] theorem jlf165 {x0 x1 x2:D}:Jl.pf 165 [x0,x1,x2] = .b (inR (int1 x0) (int1 x1) (int1 x2)):=rfl
@[go_sem] theorem jlp234:Jl.pure 234=true:=rfl
@[go_sem] theorem jlf234 {x0 x1 x2:D}:Jl.pf 234 [x0,x1,x2] = .b (inR (int1 x0) (int1 x1) (int1 x2)):=rfl
@[go_sem] theorem jlp122:Jl.pure 122=true:=rfl
@[go_sem] theorem jlf122 {x0 x1 x2:D}:Jl.pf 122 [x0,x1,x2] = .b (inR (int1 x0) (int1 x1) (int1 x2)):=rfl
@[go_sem] theorem jlp207:Jl.pure 207=true:=rfl
@[go_sem] theorem jlf207 {x0:D}:Jl.pf 207 [x0] = .b ((int1 x0) != (int1 x0)):=rfl
@[go_sem] theorem jlp235:Jl.pure 235=true:=rfl
@[go_sem] theorem jlf235 {x0:D}:Jl.pf 235 [x0] = .b ((str1 x0) != (str1 x0)):=rfl
@[go_sem] theorem jlp164:Jl.pure 164=true:=rfl
@[go_sem] theorem jlf164 {x0 x1:D}:Jl.pf 164 [x0,x1] = .i (cmpI (int1 x0) (int1 x1)):=rfl
@[go_sem] theorem jlp210:Jl.pure 210=true:=rfl
@[go_sem] theorem jlf210 {x0 x1:D}:Jl.pf 210 [x0,x1] = .i (cmpS (str1 x0) (str1 x1)):=rfl
@[go_sem] theorem jlp162:Jl.pure 162=true:=rfl
@[go_sem] theorem jlf162 {x0 x1:D}:Jl.pf 162 [x0,x1] = .b (hasPre (str1 x0) (str1 x1)):=rfl
@[go_sem] theorem jlp104:Jl.pure 104=true:=rfl
@[go_sem] theorem jlf104 {x0 x1:D}:Jl.pf 104 [x0,x1] = .b (hasPre (str1 x0) (str1 x1)):=rfl
@[go_sem] theorem jlp166:Jl.pure 166=true:=rfl
@[go_sem] theorem jlf166 {x0:D}:Jl.pf 166 [x0] = .b (wildB (str1 x0)):=rfl
@[go_sem] theorem jlp60:Jl.pure 60=true:=rfl
@[go_sem] theorem jlf60 {x0:D}:Jl.pf 60 [x0] = .b (wildB (str1 x0)):=rfl
@[go_sem] theorem jlp208:Jl.pure 208=true:=rfl
@[go_sem] theorem jlf208 {x0:D}:Jl.pf 208 [x0] = .b (freeB (str1 x0)):=rfl
@[go_sem] theorem jlp181:Jl.pure 181=true:=rfl
@[go_sem] theorem jlf181 {x0:D}:Jl.pf 181 [x0] = .b (freeB (str1 x0)):=rfl
@[go_sem] theorem jlp125:Jl.pure 125=true:=rfl
@[go_sem] theorem jlf125 {x0 x1:D}:Jl.pf 125 [x0,x1] = .b (less (dat1 x0) (dat1 x1)):=rfl
@[go_sem] theorem jlp167:Jl.pure 167=true:=rfl
@[go_sem] theorem jlf167 {x0 x1:D}:Jl.pf 167 [x0,x1] = .b (datOk (rule1 x0) (dat1 x1)):=rfl
@[go_sem] theorem jlp124:Jl.pure 124=true:=rfl
@[go_sem] theorem jlf124 {x0 x1:D}:Jl.pf 124 [x0,x1] = .b (rDatOk (int1 x0) (dat1 x1)):=rfl
@[go_sem] theorem jlp209:Jl.pure 209=true:=rfl
@[go_sem] theorem jlf209 {x0:D}:Jl.pf 209 [x0] = .i (orFrom (ints1 x0) 0):=rfl
@[go_sem] theorem jlp168:Jl.pure 168=true:=rfl
@[go_sem] theorem jlf168 {x0 x1:D}:Jl.pf 168 [x0,x1] = .i (datC (dat1 x0) (dat1 x1)):=rfl
@[go_sem] theorem jlp108:Jl.pure 108=true:=rfl
@[go_sem] theorem jlf108 {x0:D}:Jl.pf 108 [x0] = .b (setOk (set1 x0)):=rfl
@[go_sem] theorem jlp65:Jl.pure 65=true:=rfl
@[go_sem] theorem jlf65 {x0:D}:Jl.pf 65 [x0] = .b (setOk (set1 x0)):=rfl
@[go_sem] theorem jlp123:Jl.pure 123=true:=rfl
@[go_sem] theorem jlf123 {x0:D}:Jl.pf 123 [x0] = .b (singleB (int1 x0)):=rfl
@[go_sem] theorem jlp121:Jl.pure 121=true:=rfl
@[go_sem] theorem jlf121 {x0 x1:D}:Jl.pf 121 [x0,x1] = .i (rOrd (set1 x0) (set1 x1)):=rfl
@[go_sem] theorem jlp158:Jl.pure 158=true:=rfl
@[go_sem] theorem jlf158 {x0 x1:D}:Jl.pf 158 [x0,x1] = .b (sameB (set1 x0) (set1 x1)):=rfl
@[go_sem] theorem jlp134:Jl.pure 134=true:=rfl
@[go_sem] theorem jlf134 {x0:D}:Jl.pf 134 [x0] = .tuple [.list false ((bytesF (set1 x0)).1.map bD),.i (bytesF (set1 x0)).2]:=rfl
@[go_sem] theorem jlp222:Jl.pure 222=true:=rfl
@[go_sem] theorem jlf222 {x0:D}:Jl.pf 222 [x0] = .tuple [.agg (readF (bytes1 x0)).1.d,.i (readF (bytes1 x0)).2]:=rfl
@[go_sem] theorem jlp179:Jl.pure 179=true:=rfl
@[go_sem] theorem jlf179 {x0:D}:Jl.pf 179 [x0] = .tuple [.agg (readF (bytes1 x0)).1.d,.i (readF (bytes1 x0)).2]:=rfl
@[go_sem] theorem jlp219:Jl.pure 219=true:=rfl
@[go_sem] theorem jlf219 {x0 x1:D}:Jl.pf 219 [x0,x1] = .b (hasSuf (str1 x0) (str1 x1)):=rfl
@[go_sem] theorem jlp182:Jl.pure 182=true:=rfl
@[go_sem] theorem jlf182 {x0 x1:D}:Jl.pf 182 [x0,x1] = .b (hasSuf (str1 x0) (str1 x1)):=rfl
@[go_sem] theorem jlp126:Jl.pure 126=true:=rfl
@[go_sem] theorem jlf126 {x0 x1:D}:Jl.pf 126 [x0,x1] = .tuple [.b (underV (str1 x0) (str1 x1)),.i (if nameOk (str1 x0)&&nameOk (str1 x1) then 0 else 11)]:=rfl
@[go_sem] theorem jlp136:Jl.pure 136=true:=rfl
@[go_sem] theorem jlf136 {x0 x1:D}:Jl.pf 136 [x0,x1] = .b (inB (str1 x0) (str1 x1)):=rfl
@[go_sem] theorem jlp135:Jl.pure 135=true:=rfl
@[go_sem] theorem jlf135 {x0:D}:Jl.pf 135 [x0] = .b (wild1 (str1 x0)):=rfl
@[go_sem] theorem jlp127:Jl.pure 127=true:=rfl
@[go_sem] theorem jlf127 {x0 x1 x2 x3:D}:Jl.pf 127 [x0,x1,x2,x3] = .i (qC ⟨(str1 x0),(int1 x1)⟩ ⟨(str1 x2),(int1 x3)⟩):=rfl
@[go_sem] theorem jlp107:Jl.pure 107=true:=rfl
@[go_sem] theorem jlf107 {x0 x1:D}:Jl.pf 107 [x0,x1] = .i (qC (qst1 x0) (qst1 x1)):=rfl
@[go_sem] theorem jlp128:Jl.pure 128=true:=rfl
@[go_sem] theorem jlf128 {x0 x1:D}:Jl.pf 128 [x0,x1] = .b (fits (int1 x0) (bool1 x1)):=rfl
@[go_sem] theorem jlp138:Jl.pure 138=true:=rfl
@[go_sem] theorem jlf138 {x0 x1:D}:Jl.pf 138 [x0,x1] = .b (fits (int1 x0) (bool1 x1)):=rfl
@[go_sem] theorem jlp129:Jl.pure 129=true:=rfl
@[go_sem] theorem jlf129 {x0 x1:D}:Jl.pf 129 [x0,x1] = .b (sigsOk (sigs1 x0) (str1 x1)):=rfl
@[go_sem] theorem jlp141:Jl.pure 141=true:=rfl
@[go_sem] theorem jlf141 {x0 x1:D}:Jl.pf 141 [x0,x1] = .b (sigsOk (sigs1 x0) (str1 x1)):=rfl
@[go_sem] theorem jlp63:Jl.pure 63=true:=rfl
@[go_sem] theorem jlf63 {x0:D}:Jl.pf 63 [x0] = .b (qOk (qst1 x0)):=rfl
@[go_sem] theorem jlp101:Jl.pure 101=true:=rfl
@[go_sem] theorem jlf101 {x0 x1:D}:Jl.pf 101 [x0,x1] = .b (sameSgd (sgd1 x0) (sgd1 x1)):=rfl
@[go_sem] theorem jlp45:Jl.pure 45=true:=rfl
@[go_sem] theorem jlf45 {x0 x1:D}:Jl.pf 45 [x0,x1] = .b (sameList (sgds1 x0) (sgds1 x1)):=rfl
@[go_sem] theorem jlp24:Jl.pure 24=true:=rfl
@[go_sem] theorem jlf24 {x0 x1:D}:Jl.pf 24 [x0,x1] = .b (sameZ (zon1 x0) (zon1 x1)):=rfl
@[go_sem] theorem jlp160:Jl.pure 160=true:=rfl
@[go_sem] theorem jlf160 {x0 x1:D}:Jl.pf 160 [x0,x1] = .i (qC (sgd1 x0).q (qst1 x1)):=rfl
@[go_sem] theorem jlp159:Jl.pure 159=true:=rfl
@[go_sem] theorem jlf159 {x0 x1 x2:D}:Jl.pf 159 [x0,x1,x2] = .tuple [.i (findIx (sgds1 x0) (qst1 x1)),.b (findOk (sgds1 x0) (qst1 x1))]:=rfl
@[go_sem] theorem jlp102:Jl.pure 102=true:=rfl
@[go_sem] theorem jlf102 {x0 x1:D}:Jl.pf 102 [x0,x1] = .tuple [.i (findIx (zon1 x0).sets (qst1 x1)),.b (findOk (zon1 x0).sets (qst1 x1))]:=rfl
@[go_sem] theorem jlp69:Jl.pure 69=true:=rfl
@[go_sem] theorem jlf69 {x0:D}:Jl.pf 69 [x0] = .b (ordered (zon1 x0)):=rfl
@[go_sem] theorem jlp70:Jl.pure 70=true:=rfl
@[go_sem] theorem jlf70 {x0:D}:Jl.pf 70 [x0] = .b (apexHolds (zon1 x0)):=rfl
@[go_sem] theorem jlp72:Jl.pure 72=true:=rfl
@[go_sem] theorem jlf72 {x0:D}:Jl.pf 72 [x0] = .b (aliasB (lay1 x0)):=rfl
@[go_sem] theorem jlp73:Jl.pure 73=true:=rfl
@[go_sem] theorem jlf73 {x0:D}:Jl.pf 73 [x0] = .b (cutB (lay1 x0)):=rfl
@[go_sem] theorem jlp74:Jl.pure 74=true:=rfl
@[go_sem] theorem jlf74 {x0:D}:Jl.pf 74 [x0] = .b (glueB (lay1 x0)):=rfl
@[go_sem] theorem jlp75:Jl.pure 75=true:=rfl
@[go_sem] theorem jlf75 {x0:D}:Jl.pf 75 [x0] = .b (formB (lay1 x0)):=rfl
@[go_sem] theorem jlp71:Jl.pure 71=true:=rfl
@[go_sem] theorem jlf71 {x0:D}:Jl.pf 71 [x0] = .agg (layOf (zon1 x0)).d:=rfl
@[go_sem] theorem jlp31:Jl.pure 31=true:=rfl
@[go_sem] theorem jlf31 {x0:D}:Jl.pf 31 [x0] = .b (zoneOk (zon1 x0)):=rfl
@[go_sem] theorem jlp46:Jl.pure 46=true:=rfl
@[go_sem] theorem jlf46 {x0:D}:Jl.pf 46 [x0] = .tuple [.i (if zoneOk (zon1 x0) then serialOf (zon1 x0) else 0),.i (if zoneOk (zon1 x0) then 0 else 1)]:=rfl
@[go_sem] theorem jlp137:Jl.pure 137=true:=rfl
@[go_sem] theorem jlf137 {x0 x1:D}:Jl.pf 137 [x0,x1] = .i (atF (zon1 x0).sets (qst1 x1)):=rfl
@[go_sem] theorem jlp84:Jl.pure 84=true:=rfl
@[go_sem] theorem jlf84 {x0:D}:Jl.pf 84 [x0] = .b (oneB (zon1 x0)):=rfl
@[go_sem] theorem jlp85:Jl.pure 85=true:=rfl
@[go_sem] theorem jlf85 {x0:D}:Jl.pf 85 [x0] = .b (twoB (zon1 x0)):=rfl
@[go_sem] theorem jlp86:Jl.pure 86=true:=rfl
@[go_sem] theorem jlf86 {x0:D}:Jl.pf 86 [x0] = .b (threeB (zon1 x0)):=rfl
@[go_sem] theorem jlp221:Jl.pure 221=true:=rfl
@[go_sem] theorem jlf221 {x0:D}:Jl.pf 221 [x0] = .list false ((cutsF (zon1 x0)).map sR):=rfl
@[go_sem] theorem jlp189:Jl.pure 189=true:=rfl
@[go_sem] theorem jlf189 {x0:D}:Jl.pf 189 [x0] = .list false ((highF (zon1 x0)).map sR):=rfl
@[go_sem] theorem jlp139:Jl.pure 139=true:=rfl
@[go_sem] theorem jlf139 {x0:D}:Jl.pf 139 [x0] = .list false ((behR (zon1 x0)).map sR):=rfl
@[go_sem] theorem jlp87:Jl.pure 87=true:=rfl
@[go_sem] theorem jlf87 {x0:D}:Jl.pf 87 [x0] = .b (fourB (zon1 x0)):=rfl
@[go_sem] theorem jlp140:Jl.pure 140=true:=rfl
@[go_sem] theorem jlf140 {x0:D}:Jl.pf 140 [x0] = .list false ((ownF (zon1 x0)).map bR):=rfl
@[go_sem] theorem jlp88:Jl.pure 88=true:=rfl
@[go_sem] theorem jlf88 {x0:D}:Jl.pf 88 [x0] = .b (fiveB (zon1 x0)):=rfl
@[go_sem] theorem jlp34:Jl.pure 34=true:=rfl
@[go_sem] theorem jlf34 {x0:D}:Jl.pf 34 [x0] = .b (refOk (zon1 x0)):=rfl
@[go_sem] theorem jlp96:Jl.pure 96=true:=rfl
@[go_sem] theorem jlf96 {x0:D}:Jl.pf 96 [x0] = .i (serialR (zon1 x0)):=rfl
@[go_sem] theorem jlp61:Jl.pure 61=true:=rfl
@[go_sem] theorem jlf61 {x0:D}:Jl.pf 61 [x0] = .b (serB (int1 x0)):=rfl
@[go_sem] theorem jlp105:Jl.pure 105=true:=rfl
@[go_sem] theorem jlf105 {x0:D}:Jl.pf 105 [x0] = .b (serB (int1 x0)):=rfl
@[go_sem] theorem jlp62:Jl.pure 62=true:=rfl
@[go_sem] theorem jlf62 {x0 x1:D}:Jl.pf 62 [x0,x1] = .b (befB (int1 x0) (int1 x1)):=rfl
@[go_sem] theorem jlp106:Jl.pure 106=true:=rfl
@[go_sem] theorem jlf106 {x0 x1:D}:Jl.pf 106 [x0,x1] = .b (befB (int1 x0) (int1 x1)):=rfl
@[go_sem] theorem jlp66:Jl.pure 66=true:=rfl
@[go_sem] theorem jlf66 {x0:D}:Jl.pf 66 [x0] = .agg (sgd1 x0).q.d:=rfl
@[go_sem] theorem jlp51:Jl.pure 51=true:=rfl
@[go_sem] theorem jlf51 {x0:D}:Jl.pf 51 [x0] = .agg (sgd1 x0).q.d:=rfl
@[go_sem] theorem jlp64:Jl.pure 64=true:=rfl
@[go_sem] theorem jlf64 {x0 x1:D}:Jl.pf 64 [x0,x1] = .i (qO (qst1 x0) (qst1 x1)):=rfl
@[go_sem] theorem jlp97:Jl.pure 97=true:=rfl
@[go_sem] theorem jlf97 {x0 x1:D}:Jl.pf 97 [x0,x1] = .i (atF (sgds1 x0) (qst1 x1)):=rfl
@[go_sem] theorem jlp67:Jl.pure 67=true:=rfl
@[go_sem] theorem jlf67 {x0 x1:D}:Jl.pf 67 [x0,x1] = .b (askB (qsts1 x0) (qst1 x1)):=rfl
@[go_sem] theorem jlp98:Jl.pure 98=true:=rfl
@[go_sem] theorem jlf98 {x0 x1:D}:Jl.pf 98 [x0,x1] = .list false ((sortedF (sgds1 x0) (sgd1 x1)).map Sgd.d):=rfl
@[go_sem] theorem jlp29:Jl.pure 29=true:=rfl
@[go_sem] theorem jlf29 {x0:D}:Jl.pf 29 [x0] = .b (dltOk (dlt1 x0)):=rfl
@[go_sem] theorem jlp12:Jl.pure 12=true:=rfl
@[go_sem] theorem jlf12 {x0:D}:Jl.pf 12 [x0] = .b (fewD (dlt1 x0)):=rfl
@[go_sem] theorem jlp41:Jl.pure 41=true:=rfl
@[go_sem] theorem jlf41 {x0 x1:D}:Jl.pf 41 [x0,x1] = .tuple [.agg (applyR (zon1 x0) (dlt1 x1)).1.d,.i (applyR (zon1 x0) (dlt1 x1)).2]:=rfl
@[go_sem] theorem jlp112:Jl.pure 112=true:=rfl
@[go_sem] theorem jlf112 {x0:D}:Jl.pf 112 [x0] = .list false ((dats1 x0).map Dat.d):=rfl
@[go_sem] theorem jlp113:Jl.pure 113=true:=rfl
@[go_sem] theorem jlf113 {x0:D}:Jl.pf 113 [x0] = .list false ((sigs1 x0).map RSig.d):=rfl
@[go_sem] theorem jlp55:Jl.pure 55=true:=rfl
@[go_sem] theorem jlf55 {x0:D}:Jl.pf 55 [x0] = .agg (sgd1 x0).d:=rfl
@[go_sem] theorem jlp48:Jl.pure 48=true:=rfl
@[go_sem] theorem jlf48 {x0:D}:Jl.pf 48 [x0] = .fmap (kvP (mapP (sgds1 x0))):=rfl
@[go_sem] theorem jlp50:Jl.pure 50=true:=rfl
@[go_sem] theorem jlf50 {x0 x1:D}:Jl.pf 50 [x0,x1] = .tuple [.agg (sgd1 x0).d,.b (newB (mapc1 x1) (sgd1 x0).q)]:=rfl
@[go_sem] theorem jlp54:Jl.pure 54=true:=rfl
@[go_sem] theorem jlf54 {x0:D}:Jl.pf 54 [x0] = .tuple [.agg (sgd1 x0).d,.b true]:=rfl
@[go_sem] theorem jlp157:Jl.pure 157=true:=rfl
@[go_sem] theorem jlf157 {x0:D}:Jl.pf 157 [x0] = .tuple [.agg (sgd1 x0).d,.b true]:=rfl
@[go_sem] theorem jlp150:Jl.pure 150=true:=rfl
@[go_sem] theorem jlf150 {x0:D}:Jl.pf 150 [x0] = .agg (qst1 x0).d:=rfl
@[go_sem] theorem jlp154:Jl.pure 154=true:=rfl
@[go_sem] theorem jlf154 {x0 x1:D}:Jl.pf 154 [x0,x1] = .list false (((qsts1 x0).filterMap (j3S (capm1 x1))).map Qst.d):=rfl
@[go_sem] theorem jlp49:Jl.pure 49=true:=rfl
@[go_sem] theorem jlf49 {x0 x1:D}:Jl.pf 49 [x0,x1] = .list false (((sgds1 x0).filterMap (semS (x1))).map Sgd.d):=rfl
@[go_sem] theorem jlp53:Jl.pure 53=true:=rfl
@[go_sem] theorem jlf53 {x0:D}:Jl.pf 53 [x0] = .fn (.func 111) [] [.eptr [.fn (.func 51) [] []]]:=rfl
@[go_sem] theorem jlp111:Jl.pure 111=true:=rfl
@[go_sem] theorem jlf111 {x0 x1 x2:D}:Jl.pf 111 [x0,x1,x2] = .i (qC (sgd1 x0).q (sgd1 x1).q):=rfl
@[go_sem] theorem jlp153:Jl.pure 153=true:=rfl
@[go_sem] theorem jlf153 {x0:D}:Jl.pf 153 [x0] = .fn (.func 202) [] [.eptr [.fn (.func 150) [] []]]:=rfl
@[go_sem] theorem jlp47:Jl.pure 47=true:=rfl
@[go_sem] theorem jlf47 {x0:D}:Jl.pf 47 [x0] = .b (dltOk (dlt1 x0)):=rfl
@[go_sem] theorem jlp27:Jl.pure 27=true:=rfl
@[go_sem] theorem jlf27 {x0 x1:D}:Jl.pf 27 [x0,x1] = .tuple [.agg (applyP (zon1 x0) (dlt1 x1)).1.d,.i (applyP (zon1 x0) (dlt1 x1)).2]:=rfl
@[go_sem] theorem jlp94:Jl.pure 94=true:=rfl
@[go_sem] theorem jlf94 {x0 x1:D}:Jl.pf 94 [x0,x1] = .tuple [.agg (joinP (dlt1 x0) (dlt1 x1)).1.d,.i (joinP (dlt1 x0) (dlt1 x1)).2]:=rfl
@[go_sem] theorem jlp33:Jl.pure 33=true:=rfl
@[go_sem] theorem jlf33 {x0:D}:Jl.pf 33 [x0] = .list false ((zonB (zon1 x0)).map bD):=rfl
@[go_sem] theorem jlp38:Jl.pure 38=true:=rfl
@[go_sem] theorem jlf38 {x0:D}:Jl.pf 38 [x0] = .list false ((dltB (dlt1 x0)).map bD):=rfl
@[go_sem] theorem jlp32:Jl.pure 32=true:=rfl
@[go_sem] theorem jlf32 {x0 x1:D}:Jl.pf 32 [x0,x1] = .list false ((frmB (byte1 x0) (bytes1 x1)).map bD):=rfl
@[go_sem] theorem jlp79:Jl.pure 79=true:=rfl
@[go_sem] theorem jlf79 {x0:D}:Jl.pf 79 [x0] = .v (.int .u64 ((dig (bytes1 x0):Nat):Int)):=rfl
@[go_sem] theorem jlp116:Jl.pure 116=true:=rfl
@[go_sem] theorem jlf116 {x0:D}:Jl.pf 116 [x0] = .v (.int .u64 ((dig (bytes1 x0):Nat):Int)):=rfl
@[go_sem] theorem jlp146:Jl.pure 146=true:=rfl
@[go_sem] theorem jlf146 {x0 x1:D}:Jl.pf 146 [x0,x1] = .b (isE (val1 x0)):=rfl
@[go_sem] theorem jlp143:Jl.pure 143=true:=rfl
@[go_sem] theorem jlf143 {x0 x1:D}:Jl.pf 143 [x0,x1] = .tuple [.list false ((fst1 (byte1 x0).toNat (bytes1 x1)).2.map bD),.i (fst1 (byte1 x0).toNat (bytes1 x1)).1]:=rfl
@[go_sem] theorem jlp93:Jl.pure 93=true:=rfl
@[go_sem] theorem jlf93 {x0 x1:D}:Jl.pf 93 [x0,x1] = .tuple [.agg (nextF (cnt1 x0) (bytes1 x1)).1.d,.i (nextF (cnt1 x0) (bytes1 x1)).2]:=rfl
@[go_sem] theorem jlp92:Jl.pure 92=true:=rfl
@[go_sem] theorem jlf92 {x0:D}:Jl.pf 92 [x0] = .tuple [.agg (wholeC (bytes1 x0)).d,.i (sumL (frs (bytes1 x0)))]:=rfl
@[go_sem] theorem jlp36:Jl.pure 36=true:=rfl
@[go_sem] theorem jlf36 {x0:D}:Jl.pf 36 [x0] = .tuple [.agg (opnOf (dsk1 x0)).d,.b (openF (dsk1 x0)).isSome]:=rfl
@[go_sem] theorem jlp37:Jl.pure 37=true:=rfl
@[go_sem] theorem jlf37 {x0:D}:Jl.pf 37 [x0] = .b (dltOk (dlt1 x0)):=rfl
@[go_sem] theorem jlp39:Jl.pure 39=true:=rfl
@[go_sem] theorem jlf39 {x0:D}:Jl.pf 39 [x0] = .list false ((bytes1 x0).map bD):=rfl
@[go_sem] theorem jlp44:Jl.pure 44=true:=rfl
@[go_sem] theorem jlf44 {x0 x1 x2:D}:Jl.pf 44 [x0,x1,x2] = .list false (((bytes1 x0)++catB (pend1 x1)++(bytes1 x2)).map bD):=rfl
@[go_sem] theorem jlp13:Jl.pure 13=true:=rfl
@[go_sem] theorem jlf13 {x0:D}:Jl.pf 13 [x0] = .tuple [.agg (beginF (zon1 x0)).1.d,.i (beginF (zon1 x0)).2]:=rfl
@[go_sem] theorem jlp16:Jl.pure 16=true:=rfl
@[go_sem] theorem jlf16 {x0 x1:D}:Jl.pf 16 [x0,x1] = .tuple [.agg (appendF (dsk1 x0) (dlt1 x1)).1.d,.i (appendF (dsk1 x0) (dlt1 x1)).2]:=rfl
@[go_sem] theorem jlp18:Jl.pure 18=true:=rfl
@[go_sem] theorem jlf18 {x0:D}:Jl.pf 18 [x0] = .tuple [.agg (syncF (dsk1 x0)).1.d,.i (syncF (dsk1 x0)).2]:=rfl
@[go_sem] theorem jlp20:Jl.pure 20=true:=rfl
@[go_sem] theorem jlf20 {x0 x1 x2:D}:Jl.pf 20 [x0,x1,x2] = .tuple [.agg (crashF (dsk1 x0) (int1 x1) (int1 x2)).1.d,.i (crashF (dsk1 x0) (int1 x1) (int1 x2)).2]:=rfl
@[go_sem] theorem jlp22:Jl.pure 22=true:=rfl
@[go_sem] theorem jlf22 {x0:D}:Jl.pf 22 [x0] = .tuple [.agg (loadF (dsk1 x0)).1.d,.i (loadF (dsk1 x0)).2]:=rfl
@[go_sem] theorem jlp56:Jl.pure 56=true:=rfl
@[go_sem] theorem jlf56 {x0 x1:D}:Jl.pf 56 [x0,x1] = .tuple [.i (fst1 (int1 x1).toNat (bytes1 x0)).1,.list false ((fst1 (int1 x1).toNat (bytes1 x0)).2.map bD)]:=rfl
@[go_sem] theorem jlp28:Jl.pure 28=true:=rfl
@[go_sem] theorem jlf28 {x0:D}:Jl.pf 28 [x0] = .tuple [.agg (wholeZ (bytes1 x0)).d,.list false ((endsB (bytes1 x0)).map nD)]:=rfl
@[go_sem] theorem jlp43:Jl.pure 43=true:=rfl
@[go_sem] theorem jlf43 {x0:D}:Jl.pf 43 [x0] = .list false ((partB (bytes1 x0)).map bD):=rfl
@[go_sem] theorem jlp40:Jl.pure 40=true:=rfl
@[go_sem] theorem jlf40 {x0:D}:Jl.pf 40 [x0] = .tuple [.list false (((allR (dsk1 x0)).getD []).map bD),.b (allR (dsk1 x0)).isSome]:=rfl
@[go_sem] theorem jlp10:Jl.pure 10=true:=rfl
@[go_sem] theorem jlf10 {x0:D}:Jl.pf 10 [x0] = .b (fewK (dsk1 x0)):=rfl
@[go_sem] theorem jlp68:Jl.pure 68=true:=rfl
@[go_sem] theorem jlf68 {x0 x1 x2:D}:Jl.pf 68 [x0,x1,x2] = .agg (mQ (str1 x0) (int1 x1) (dat1 x2)).d:=rfl
@[go_sem] theorem jlp30:Jl.pure 30=true:=rfl
@[go_sem] theorem jlf30:Jl.pf 30 [] = .tuple [.agg exZ.d,.agg exX.d]:=rfl
@[go_sem] theorem jlp25:Jl.pure 25=true:=rfl
@[go_sem] theorem jlf25 {x0:D}:Jl.pf 25 [x0] = .b (fewK (dsk1 x0)&&(allR (dsk1 x0)).isSome):=rfl
@[go_sem] theorem jlp9:Jl.pure 9=true:=rfl
@[go_sem] theorem jlf9:Jl.pf 9 [] = .b true:=rfl
@[go_sem] theorem jlp5:Jl.pure 5=true:=rfl
@[go_sem] theorem jlf5 {x0 x1 x2:D}:Jl.pf 5 [x0,x1,x2] = .b true:=rfl
@[go_sem] theorem jlp6:Jl.pure 6=true:=rfl
@[go_sem] theorem jlf6 {x0 x1 x2 x3:D}:Jl.pf 6 [x0,x1,x2,x3] = .b true:=rfl
@[go_sem] theorem jlp7:Jl.pure 7=true:=rfl
@[go_sem] theorem jlf7 {x0 x1 x2:D}:Jl.pf 7 [x0,x1,x2] = .b true:=rfl
@[go_sem] theorem jlp26:Jl.pure 26=true:=rfl
@[go_sem] theorem jlf26 {x0:D}:Jl.pf 26 [x0] = .tuple [.list false ((iW (dsk1 x0)).map zR),.b (wholeC (dsk1 x0).safe).isSome]:=rfl
def JlB:Con:={ Jl with bs:=true }
@[go_sem] theorem jlB_p {k:FuncId}:JlB.pure k=Jl.pure k:=rfl
@[go_sem] theorem jlB_f {k:FuncId}{xs:List D}:JlB.pf k xs=Jl.pf k xs:=rfl
@[go_sem] theorem jlB_b:JlB.bs=true:=rfl
@[go_sem] theorem jl_b:Jl.bs=false:=rfl
@[go_sem] theorem jl_c:Jl.cf=false:=rfl
@[go_sem] theorem jlB_c:JlB.cf=false:=rfl
def JlF:Con:={ Jl with cf:=true }
@[go_sem] theorem jlF_p {k:FuncId}:JlF.pure k=Jl.pure k:=rfl
@[go_sem] theorem jlF_f {k:FuncId}{xs:List D}:JlF.pf k xs=Jl.pf k xs:=rfl
@[go_sem] theorem jlF_b:JlF.bs=false:=rfl
@[go_sem] theorem jlF_c:JlF.cf=true:=rfl
@[go_sem] theorem jl_s:Jl.dp=false:=rfl
@[go_sem] theorem jlB_s:JlB.dp=false:=rfl
end Go.Proofs.YtjngdcldglkolaaGreatDoor
namespace Go.Proofs.YtjngdcldglkolaaGreatDoor
open Go.DL Go.Str
set_option maxRecDepth 10000
variable [Glob Tryz.prog] [Told]
theorem Tq (s:Str) (c:Int) (hs:s.length<=9223372036854775806):PureCt Tryz.prog 243 [.v (.string (bs s)),.v (.int .u8 c)] (.i (lastIx s c)):=by
 rw[lastIx]
 refine oO Tryz.func243 fun ff=>?_
 unfold Tryz.f243
 refine aa Jl ?_
 refine ae ?_
 refine aa Jl ?_
 refine ai ?_
 refine lp (α:=(Nat)×Nat) [0,1] (fun ⟨k,nx⟩=>(k<=s.length)/\(gW s c s.length=gW s c k)/\True) (fun ⟨k,nx⟩=>k) (fun ⟨k,nx⟩=>[(5,.i ((k:Int)-1))]) (fun ⟨k,nx⟩=>[]) (fun ⟨k,nx⟩=>nx) (s.length,_) (hA:=⟨iv,rfl,trivial⟩) (round:=?_)
 rintro⟨k,nx⟩ ⟨hk,hv, -⟩
 simp only[X0,X3]
 refine oL Jl (fun c1=>?_) (fun c1=>?_) (hp:=rfl) (hq:=rfl)
 .
  have hk2:0<k:=by have h7:(0:Int)<=(k:Int)-1:=(by simpa using c1);omega
  have e1:((k:Int)-1).toNat=k-1:=by omega
  have ff:=qA @e1 ff;refine ae ?_;refine ai ?_;refine aa Jl ?_;refine cd (fun c2=>?_) (fun c2=>?_)
  .
   refine aa Jl ?_;exact fo 0 (k:=by rw[hv,Jf hk2,X4 c2];congr 2;omega)
  refine dw_skip ?_;refine ah Jl ?_
  show ∃ _,_
  exact ak (k-1,_) (h1:=⟨iv,(by (try dsimp only);rw[hv,Jf hk2,if_neg c2]),trivial⟩)
 have hk2:k=0:=by have h7 : ¬ (0:Int)<=(k:Int)-1:=(by simpa using c1);omega
 refine aB ?_
 refine aa Jl ?_
 exact fo 0 (k:=by rw[hv,hk2];rfl)
theorem CG (s:Str) (c:Int) (hs:s.length<=9223372036854775806):PureCt Tryz.prog 231 [.v (.string (bs s)),.v (.int .u8 c)] (.i (lastIx s c)):=by
 refine oO Tryz.func231 fun ff=>?_
 unfold Tryz.f231
 refine aa Jl ?_
 refine aa Jl ?_ (hok:=oF (Tq _ _ hs))
 exact fp 0
theorem Ub (s:Str):PureCt Tryz.prog 204 [.v (.string (bs s))] (.b (labelOk s)):=by
 rw[Tv]
 refine oO Tryz.func204 fun ff=>?_
 unfold Tryz.f204
 have e1:((s.length:Int)-1).toNat=s.length-1:=by omega
 have ff:=qA @e1 ff
 refine aa Jl ?_
 refine oK Jl (fun c1=>?_) (fun c1=>?_)
 .
  refine aa Jl ?_;exact fo 0 (k:=by (repeat' split)<;>first|rfl|(exfalso;omega))
 refine ae ?_
 refine aa Jl ?_
 refine ai ?_
 refine lp (α:=(Nat)×Nat) [0,27] (fun ⟨k,nx⟩=>(k<=s.length)/\(av s.length (nR s) 0=av s.length (nR s) k)/\True) (fun ⟨k,nx⟩=>s.length-k) (fun ⟨k,nx⟩=>[(28,.i k)]) (fun ⟨k,nx⟩=>[]) (fun ⟨k,nx⟩=>nx) (0,_) (hA:=⟨iv,rfl,trivial⟩) (round:=?_)
 rintro⟨k,nx⟩ ⟨hk,hv, -⟩
 simp only[X0,X3]
 refine aa Jl ?_
 refine ae ?_
 refine cd (fun c2=>?_) (fun c2=>?_) (hp:=rfl)
 .
  have hk2:k<s.length:=by simpa using c2
  refine dw_skip ?_;refine ae ?_;refine ai ?_;refine oD Jl ?_;refine cd (fun c3=>?_) (fun c3=>?_)
  .
   refine aa Jl ?_;exact fo 0 (k:=by have h8:nR s k=false:=(by simp only[nR,jT,Yh,Yz,X6];omega);rw[hv,dR,X4 hk2,h8];(repeat' split)<;>rfl)
  refine dw_skip ?_;refine ah Jl ?_
  show ∃ _,_
  exact ak (k+1,_) (h1:=⟨iv,(by (try dsimp only);have h8:nR s k=true:=(by simp only[nR,jT,Bool.or_eq_true,Bool.and_eq_true,decide_eq_true_eq];omega);rw[hv,dR,if_pos hk2,h8];rfl),trivial⟩)
 refine aB ?_
 refine aa Jl ?_
 exact fo 0 (k:=by rw[hv,dR,XZ (by omega),XZ (by omega),XZ (by omega),XZ (by omega),XZ (by omega)])
theorem Gl (s:Str) (hs:s.length<=9223372036854775806):PureCt Tryz.prog 120 [.v (.string (bs s))] (.b (labelOk s)):=by
 rw[labelOk]
 refine oO Tryz.func120 fun ff=>?_
 unfold Tryz.f120
 refine aa Jl ?_
 refine ae ?_
 refine aa Jl ?_
 refine ai ?_
 refine lp (α:=(Nat)×Nat) [0] (fun ⟨k,nx⟩=>(k<=s.length)/\(av s.length (jf s) 0=av s.length (jf s) k)/\True) (fun ⟨k,nx⟩=>s.length-k) (fun ⟨k,nx⟩=>[(3,.i k)]) (fun ⟨k,nx⟩=>[]) (fun ⟨k,nx⟩=>nx) (0,_) (hA:=⟨iv,rfl,trivial⟩) (round:=?_)
 rintro⟨k,nx⟩ ⟨hk,hv, -⟩
 simp only[X0,X3]
 refine oL Jl (fun c1=>?_) (fun c1=>?_) (hp:=rfl)
 .
  have hk2:k<s.length:=by simpa using c1
  refine ae ?_;refine ai ?_;refine oD Jl ?_;refine cd (fun c2=>?_) (fun c2=>?_)
  .
   refine aa Jl ?_;exact fo 0 (k:=by have h8:jf s k=false:=(by simp only[jf,jT,Yh,Yz,X6];omega);rw[hv,dR,X4 hk2,h8];rfl)
  refine dw_skip ?_;refine ah Jl ?_
  show ∃ _,_
  exact ak (k+1,_) (h1:=⟨iv,(by (try dsimp only);have h8:jf s k=true:=(by simp only[jf,jT,Bool.or_eq_true,Bool.and_eq_true,decide_eq_true_eq];omega);rw[hv,dR,if_pos hk2,h8];rfl),trivial⟩)
 refine aB ?_
 refine aa Jl ?_
 exact fo 0 (k:=by rw[hv,dR,XZ (by omega)];congr 2;rw[Zb];simp only[XV,XW,Zt];omega)
theorem Gb (s:Str) (hs:s.length<=1000):PureCt Tryz.prog 119 [.v (.string (bs s))] (.list false ((splitF s).map sR)):=by
 rw[splitF]
 refine oO Tryz.func119 fun ff=>?_
 unfold Tryz.f119
 refine aa Jl ?_
 refine aa JlB ?_
 refine ae ?_
 refine aa Jl ?_
 refine ai ?_
 refine lp (α:=(Nat)×(List Str)×(Nat)×Nat) [0] (fun ⟨k,out,r,nx⟩=>(k<=s.length)/\(1<=out.length)/\(out.length<=k+1)/\(∀ x∈out,x.length<=k)/\(mi s 0 [[]]=mi s k out)/\(r<nx)/\True) (fun ⟨k,out,r,nx⟩=>s.length-k) (fun ⟨k,out,r,nx⟩=>[(3,.mrow r 0 out.length),(4,.i k)]) (fun ⟨k,out,r,nx⟩=>[(r,⟨9,out.map sR⟩)]) (fun ⟨k,out,r,nx⟩=>nx) (0,[[]],1,_) (hA:=⟨iv,(by first|(simp)|(dsimp only;simp)),(by first|(simp)|(dsimp only;simp)),(by first|(simp)|(dsimp only;simp)),rfl,iv,trivial⟩) (round:=?_)
 rintro⟨k,out,r,nx⟩ ⟨hk,ho1,ho,hl,hv,hr, -⟩
 simp only[X0,X3]
 have ff:=qA @hr ff
 refine oL Jl (fun c1=>?_) (fun c1=>?_) (hp:=rfl)
 .
  have hk2:k<s.length:=by simpa using c1
  have hk3:out.length-1<out.length:=by omega
  have e1:((out.length:Int)-1).toNat=out.length-1:=by omega
  have e5:((k:Int)+1).toNat=k+1:=by omega
  have hl3:out[out.length-1]!.length<=k:=hl _ (by rw[getElem!_pos out _ hk3];exact YD _)
  have ff:=qE @e1 @e5 (iA hk3) (R3 hk2) ff;refine ae ?_;refine ai ?_;refine aa Jl ?_;refine cd (fun c2=>?_) (fun c2=>?_)
  .
   have e2:=Oz (out:=out) (c:=s.getD k 0) c2;refine ah Jl ?_;refine ah Jl ?_
   show ∃ _,_
   exact ak (k+1,out++[[]],(nx+10),_) (h1:=⟨iv,(by first|(simp)|(dsimp only;simp)),(by first|(simp;omega)|(dsimp only;simp;omega)),(by (try dsimp only);intro x hx;rcases List.mem_append.1 hx with h|h;exact Nat.le_succ_of_le (hl x h);simp at h;subst h;exact Nat.zero_le _),(by (try dsimp only);rw[hv,vB,if_pos hk2,e2]),iv,trivial⟩) (h3:=by (try simp only[go_sem,ff]);all_goals (first|done|(simp[sR];done)|(simp[sR];omega)|((repeat' (with_reducible apply And.intro))<;>first|(left;simp[sR];done)|(right;simp[go_sem,sR];done)))) (h4:=by (try simp only[go_sem,ff]);all_goals (first|done|(simp[sR];done)|(simp[sR];omega)|((repeat' (with_reducible apply And.intro))<;>first|(left;simp[sR];done)|(right;simp[go_sem,sR];done)))) (h5:=by (try simp only[go_sem,ff]);all_goals (first|done|(simp[sR];done)|(simp[sR];omega)|((repeat' (with_reducible apply And.intro))<;>first|(left;simp[sR];done)|(right;simp[go_sem,sR];done))))
  have e2:=OB (out:=out) (c:=s.getD k 0) c2;refine ah Jl ?_;refine ah Jl ?_
  show ∃ _,_
  exact ak (k+1,out.set (out.length-1) (out[out.length-1]! ++ [s.getD k 0]),r,_) (h1:=⟨iv,(by first|(simp;omega)|(dsimp only;simp;omega)),(by first|(simp;omega)|(dsimp only;simp;omega)),(by (try dsimp only);intro x hx;rcases List.mem_or_eq_of_mem_set hx with h|h;exact Nat.le_succ_of_le (hl x h);subst h;rw[List.length_append];exact Nat.succ_le_succ hl3),(by (try dsimp only);rw[hv,vB,if_pos hk2,e2]),iv,trivial⟩) (h3:=by (try simp only[go_sem,ff]);all_goals (first|done|(simp[sR];done)|(simp[sR];omega)|((repeat' (with_reducible apply And.intro))<;>first|(left;simp[sR];done)|(right;simp[go_sem,sR];done)))) (h4:=by (try simp only[go_sem,ff]);all_goals (first|done|(simp[sR];done)|(simp[sR];omega)|((repeat' (with_reducible apply And.intro))<;>first|(left;simp[sR];done)|(right;simp[go_sem,sR];done)))) (h5:=by (try simp only[go_sem,ff]);all_goals (first|done|(simp[sR];done)|(simp[sR];omega)|((repeat' (with_reducible apply And.intro))<;>first|(left;simp[sR];done)|(right;simp[go_sem,sR];done))))
 refine aB ?_
 refine aa Jl ?_
 exact fo 1 (k:=by rw[hv,vB,XZ (by omega)])
theorem fD (s:Str):PureCt Tryz.prog 59 [.v (.string (bs s))] (.b (nameOk s)):=by
 rw[nameOk]
 refine oO Tryz.func59 fun ff=>?_
 unfold Tryz.f59
 refine aa Jl ?_
 refine oK Jl (fun c1=>?_) (fun c1=>?_)
 .
  refine aa Jl ?_;exact fo 0 (k:=by rw[X4 c1])
 refine oK Jl (fun c2=>?_) (fun c2=>?_)
 .
  refine aa Jl ?_;exact fo 0 (k:=by rw[XZ c1,X4 (by omega)])
 refine aa Jl ?_ (hok:=by (try simp only[go_sem,ff]);all_goals (exact Gb _ om))
 refine ae ?_
 refine aa Jl ?_
 refine ai ?_
 refine lp (α:=(Nat)×Nat) [3] (fun ⟨k,nx⟩=>(k<=(splitF s).length)/\(av (splitF s).length (kT (splitF s)) 0=av (splitF s).length (kT (splitF s)) k)/\True) (fun ⟨k,nx⟩=>(splitF s).length-k) (fun ⟨k,nx⟩=>[(4,.i k)]) (fun ⟨k,nx⟩=>[]) (fun ⟨k,nx⟩=>nx) (0,_) (hA:=⟨iv,rfl,trivial⟩) (round:=?_)
 rintro⟨k,nx⟩ ⟨hk,hv, -⟩
 simp only[X0,X3]
 have hsl:=OC s k
 have hsn:=(xO s).2
 refine oL Jl (fun c3=>?_) (fun c3=>?_) (hp:=rfl)
 .
  have hk2:k<(splitF s).length:=by simpa using c3
  have ff:=qA (iA hk2) ff;refine ae ?_;refine ai ?_;refine aa Jl ?_ (hok:=by (try simp only[go_sem,ff]);all_goals (first|done|exact Gl _ om|((repeat' (with_reducible apply And.intro))<;>first|omega|exact Gl _ om)))
  refine aa Jl ?_ (hok:=by (try simp only[go_sem,ff]);all_goals (refine⟨fun _=>⟨om,om⟩,fun h1 _=>⟨h1,fun h3=>by rw[h1,h3];rfl⟩⟩))
  refine cd (fun c4=>?_) (fun c4=>?_)
  .
   refine aa Jl ?_;exact fo 0 (k:=by rw[XZ c1,XZ (by omega),hv,dR,X4 hk2,RG c4.1 (by first|exact c4.2|(rcases c4.2 with h|h;exact .inl (by omega);exact .inr h))];rfl)
  refine dw_skip ?_;refine ah Jl ?_
  show ∃ _,_
  exact ak (k+1,_) (h1:=⟨iv,(by (try dsimp only);rw[hv,dR,if_pos hk2,RF (by first|exact c4|(rcases c4 with h|h;exact .inl h;exact .inr ⟨om,h.2⟩))];rfl),trivial⟩)
 refine aB ?_
 refine aa Jl ?_
 exact fo 0 (k:=by rw[XZ c1,XZ (by omega),hv,dR,XZ (by omega),Zt];congr 2;exact ZI.2 (by omega))
theorem tN (s:Str) (hs:s.length<=1000):PureCt Tryz.prog 188 [.v (.string (bs s))] (.list false ((partsOf s).map sR)):=by
 rw[partsOf]
 refine oO Tryz.func188 fun ff=>?_
 unfold Tryz.f188
 refine aa Jl ?_
 refine oK Jl (fun c1=>?_) (fun c1=>?_)
 .
  refine aa Jl ?_;exact fo 0 (k:=by rw[X4 c1];rfl)
 refine aa Jl ?_ (hok:=oF (Gb _ hs))
 exact fo 0 (k:=by rw[XZ c1])
end Go.Proofs.YtjngdcldglkolaaGreatDoor
namespace Go.Proofs.YtjngdcldglkolaaGreatDoor
open Go.DL Go.Str
set_option maxRecDepth 10000
variable [Glob Tryz.prog] [Told]
theorem Mi:bY Tryz.prog 203=true:=by kernel_rfl
theorem vw (s:Str):PureCt Tryz.prog 161 [.v (.string (bs s))] (.b (nameOk s)):=by
 refine oO Tryz.func161 fun ff=>?_
 unfold Tryz.f161
 refine aa Jl ?_
 refine oK Jl (fun c1=>?_) (fun c1=>?_)
 .
  refine aa Jl ?_;exact fo 0 (k:=by rw[nameOk,X4 c1])
 refine oK Jl (fun c3=>?_) (fun c3=>?_)
 .
  refine aa Jl ?_;exact fo 0 (k:=by rw[nameOk,XZ c1,X4 (by omega)])
 refine aa Jl ?_
 refine ae ?_
 refine aa Jl ?_
 refine ai ?_
 refine KV (by simp only[go_sem,ff]) ev Tryz.func203 rfl Mi (by simp[Tryz.f203]) rfl (fun l rL hp ha hb hn=>?_)
 unfold Tryz.f203
 refine oK Jl (fun d0=>?_) (fun d0=>?_)
 .
  exact absurd d0 c1
 refine aa Jl ?_
 refine ai ?_
 refine lp (α:=(Str)×(Nat)×(Bool)×Nat) [1] (fun ⟨rest,n,wild,nx⟩=>(n<=8)/\(rest.length<=s.length)/\(7<nx)/\(nameOk s=jy (ja rest) n wild)/\True) (fun ⟨rest,n,wild,nx⟩=>rest.length) (fun ⟨rest,n,wild,nx⟩=>[(4,.v (.string (bs rest)))]) (fun ⟨rest,n,wild,nx⟩=>[(0,⟨4,[[.b false]]⟩),(6,⟨3,[[.i n]]⟩),(7,⟨4,[[.b wild]]⟩)]) (fun ⟨rest,n,wild,nx⟩=>nx) (s,0,false,_) (hA:=⟨(by first|(omega)|(dsimp only;omega)),(by first|(first|omega|(simp;omega))|(dsimp only;first|omega|(simp;omega))),iv,(by (try dsimp only);rw[IV,if_neg c1,if_neg (by omega)]),trivial⟩) (round:=?_)
 rintro⟨rest,n,wild,nx⟩ ⟨hn8,hl,hx,hv, -⟩
 simp only[X0,X3]
 have hL:=zf rest 46
 have n0:0<nx:=by omega
 have n6:6<nx:=by omega
 have n7:7<nx:=by omega
 refine ai ?_
 refine aa Jl ?_ (hok:=by (try simp only[go_sem,ff]);all_goals (first|done|exact CG _ _ om))
 refine ae ?_
 refine ae ?_
 refine KS (C:=Jl) (r:=rL) 5 (bN rfl) rfl rfl rfl (by simp only[Ya,Yj,go_sem,ff];exact rfl) ?_ ev (by first|(simp only[go_sem,ff];done)|(simp only[go_sem,ff];exact rfl)) (by simp only[go_sem,ff]) ev (by rw[hp];rfl) (by rw[hp,hn];show ∀ p∈[13],p<30;decide) ?_
 .
  try simp only[go_sem,ff]
  all_goals (first|done|(repeat' (with_reducible apply And.intro))<;>first|omega|(with_reducible assumption)|(intros;omega)|(intros;simp only[XW,X6,Yc,XV,Yh,Yd,Yv] at *;omega)|(simp_all;done)|(simp_all;omega))
 rw[ha,hb,hp,hn]
 show DW _ _ _ _ { n:=_,t:=pO _ [13] _,h:=_,nx:=_ }
 simp only[FY,FX]
 refine ah Jl ?_
 refine⟨rfl,?_⟩
 refine ai ?_
 refine aa Jl ?_
 refine oK Jl (fun c9=>?_) (fun c9=>?_) (hp:=rfl) (hq:=rfl)
 .
  refine aa Jl ?_;refine aO ?_;refine⟨rfl,false,some .ret,⟨rfl,rfl⟩,⟨_,_,_,_,_,_⟩,by simp only[Yf,X8,S.put,go_sem,ff];exact rfl,?_,?_⟩
  .
   try simp only[go_sem,ff]
   all_goals (first|done|(repeat' (with_reducible apply And.intro))<;>first|omega|(with_reducible assumption)|(intros;omega)|(intros;simp only[XW,X6,Yc,XV,Yh,Yd,Yv] at *;omega)|(simp_all;done)|(simp_all;omega))
  try simp only[aF]
  refine cd (fun d3=>?_) (fun d3=>?_) (hp:=rfl) (hq:=rfl)
  .
   refine aO ?_;refine⟨.inr rfl,some .ret,rfl,?_⟩;exact fin 0 (hr:=oS (k:=by first|(rw[hv,jX,EN c9];done)|(rw[hv,jX,EM c9 c12])))
  simp at d3
 have c9b:=WO c9
 refine aa Jl ?_
 refine aa Jl ?_ (hok:=by (try simp only[go_sem,ff]);all_goals (first|done|(intros;exact Ub _)))
 refine cd (fun c12=>?_) (fun c12=>?_) (hp:=rfl) (hq:=rfl)
 .
  refine aa Jl ?_;refine aO ?_;refine⟨rfl,false,some .ret,⟨rfl,rfl⟩,⟨_,_,_,_,_,_⟩,by simp only[Yf,X8,S.put,go_sem,ff];exact rfl,?_,?_⟩
  .
   try simp only[go_sem,ff]
   all_goals (first|done|(repeat' (with_reducible apply And.intro))<;>first|omega|(with_reducible assumption)|(intros;omega)|(intros;simp only[XW,X6,Yc,XV,Yh,Yd,Yv] at *;omega)|(simp_all;done)|(simp_all;omega))
  try simp only[aF]
  refine cd (fun d3=>?_) (fun d3=>?_) (hp:=rfl) (hq:=rfl)
  .
   refine aO ?_;refine⟨.inr rfl,some .ret,rfl,?_⟩;exact fin 0 (hr:=oS (k:=by first|(rw[hv,jX,EN c9];done)|(rw[hv,jX,EM c9 c12])))
  simp at d3
 refine dw_skip ?_
 refine⟨rfl,true,none,⟨rfl,rfl⟩,⟨_,_,_,_,_,_⟩,by simp only[Yf,X8,S.put,go_sem,ff];exact rfl,?_,?_⟩
 .
  try simp only[go_sem,ff]
  all_goals (first|done|(repeat' (with_reducible apply And.intro))<;>first|omega|(with_reducible assumption)|(intros;omega)|(intros;simp only[XW,X6,Yc,XV,Yh,Yd,Yv] at *;omega)|(simp_all;done)|(simp_all;omega))
 try simp only[aF]
 refine cd (fun d3=>?_) (fun d3=>?_)
 .
  refine aO ?_;refine⟨.inr rfl,none,rfl,?_⟩;refine aa Jl ?_;exact fo 0 (k:=by rw[hv,jX,EL c9 c12,X4 d3];rfl)
 refine dw_skip ?_
 refine ah Jl ?_
 show ∃ _,_
 exact ak (rest.take (lastIx rest 46).toNat,n+1,((rest.drop (lastIx rest 46+1).toNat)==[42]),_) (h1:=⟨(by first|(omega)|(dsimp only;omega)),(by first|(first|omega|(simp;omega))|(dsimp only;first|omega|(simp;omega))),iv,(by (try dsimp only);rw[hv,jX,EL c9 c12,if_neg d3]),trivial⟩) (h2:=by show (_:Nat)<_;(simp;omega))
theorem qf (s:Str):PureCt Tryz.prog 103 [.v (.string (bs s))] (.b (nameOk s)):=by
 refine oO Tryz.func103 fun ff=>?_
 unfold Tryz.f103
 refine aa Jl ?_
 refine aa Jl ?_ (hok:=oF (vw _))
 exact fp 0
end Go.Proofs.YtjngdcldglkolaaGreatDoor
namespace Go.Proofs.YtjngdcldglkolaaGreatDoor
open Go.DL Go.Str Go.RowKit
set_option maxRecDepth 10000
variable [Glob Tryz.prog] [Told]
def WV:Go.Shelf.Ren:={ f:=fun x=>match x with|213=>233|265=>244|n=>n,t:=fun x=>match x with|3=>3|9=>9|n=>n,g:=fun n=>n }
theorem WW:Go.Proofs.Lays.n213 Tryz.prog WV:={
 mixed:=jL
 f213:=Tryz.func233.trans (by kernel_rfl)
 f265:=Tryz.func244.trans (by kernel_rfl)
 t3:=Tryz.underlying3
 a3:=Tryz.isAgg3
 z3:=Tryz.sizeOf3
 v3:=Tryz.zeroValue3
 t9:=Tryz.underlying9
 a9:=Tryz.isAgg9
 z9:=Tryz.sizeOf9
 v9:=Tryz.zeroValue9 }
theorem WU (a b:Str):PureCt Tryz.prog 233 [.v (.string (bs a)),.v (.string (bs b))] (.i (Go.Lib.compareBytes a b)):=by
 refine⟨by kernel_rfl,by simp[D.nr],fun w I vs hI hg hr=>?_⟩
 obtain⟨x,l,rfl,h1,h2⟩:=hr.of_cons
 obtain⟨y,l,rfl,h3,h4⟩:=h2.of_cons
 rw[h4.of_nil,h1.v_inv,h3.v_inv]
 have:=Go.Proofs.Any.bytealg_CompareString WW (bs a) (bs b) w
 refine callsIn_wide.2 (this.mono ?_)
 rintro e w' ⟨rfl,rfl⟩
 refine⟨_,rfl,⟨rfl,rfl,rfl,XX _,XX _,fun _ _=>rfl⟩,?_⟩
 rw[nk,nk]
 exact .v _
theorem WT (a:Str) (b:Str):PureCt Tryz.prog 206 [.v (.string (bs a)),.v (.string (bs b))] (.i (Go.Lib.compareBytes a b)):=by
 refine oO Tryz.func206 fun ff=>?_
 unfold Tryz.f206
 refine aa Jl ?_
 refine aa Jl ?_ (hok:=oF (WU _ _))
 exact fp 0
end Go.Proofs.YtjngdcldglkolaaGreatDoor
namespace Go.Proofs.YtjngdcldglkolaaGreatDoor
open Go.DL Go.Str Go.RowKit
set_option maxRecDepth 10000
variable [Glob Tryz.prog] [Told]
theorem Re (s:Str) (h:H) (n:Nat):RCt Tryz.prog 205 [.v (.string (bs s))] h n (fun d h' n'=>d = .fn (.func 232) [] [.mptr (n+5) 0 0,.mptr (n+4) 0 0]/\h'=upd (upd h (n+4) (some ⟨9,[[.v (.string (bs s))]]⟩)) (n+5) (some ⟨4,[[.b (s != [46])]]⟩)/\n'=n+10):=by
 refine oP Tryz.func205 fun hnone ff=>?_
 unfold Tryz.f205
 have ff:=qA (nH (n+4) (n+5)) ff
 refine oD Jl ?_
 refine aO ?_
 exact bu (upd (upd h (n+4) (some ⟨9,[[.v (.string (bs s))]]⟩)) (n+5) (some ⟨4,[[.b (s != [46])]]⟩)) (hr:=by (try simp only[go_sem,ff]);all_goals (exact⟨rfl,rfl,rfl⟩)) (hh:=by intro q;left;by_cases e1:q=n+5<;>by_cases e2:q=n+4<;>simp[upd,e1,e2])
theorem Rf (more:Bool) (rest:Str) (m r:Nat) (h:H) (n:Nat) (hm:h m=some ⟨4,[[.b more]]⟩) (hr:h r=some ⟨9,[[.v (.string (bs rest))]]⟩) (hmr:m≠r) (hl:rest.length<=1000):RCt Tryz.prog 232 [.mptr m 0 0,.mptr r 0 0] h n (fun d h' n'=>d = .tuple [.v (.string (bs (nO more rest))),.b more]/\h'=upd (upd h m (some ⟨4,[[.b (j4 more rest)]]⟩)) r (some ⟨9,[[.v (.string (bs (jZ more rest)))]]⟩)/\n<=n'):=by
 refine oP Tryz.func232 fun hnone ff=>?_
 unfold Tryz.f232
 have hrm:r≠m:=fun e=>hmr e.symm
 have hL:=zf rest 46
 have ff:=qE @hm @hr @hmr @hrm ff
 refine aa Jl ?_
 refine oK Jl (fun c1=>?_) (fun c1=>?_)
 .
  refine aa Jl ?_;refine aO ?_;exact bu (upd (upd h m (some ⟨4,[[.b (j4 more rest)]]⟩)) r (some ⟨9,[[.v (.string (bs (jZ more rest)))]]⟩)) (hr:=oS (k:=by first|exact ZJ _ _|(refine⟨?_,ZJ _ _⟩;simp_all [nO]))) (hh:=by intro q;left;by_cases e1:q=r<;>by_cases e2:q=m<;>simp_all [upd,j4,jZ]<;>(rw[XZ (by omega)]))
 refine aa Jl ?_ (hok:=by (try simp only[go_sem,ff]);all_goals (first|done|exact CG _ _ om))
 refine aa Jl ?_
 refine ae ?_
 refine aa Jl ?_
 refine cd (fun c2=>?_) (fun c2=>?_)
 .
  refine ah Jl ?_;refine aa Jl ?_;refine aO ?_;exact bu (upd (upd h m (some ⟨4,[[.b (j4 more rest)]]⟩)) r (some ⟨9,[[.v (.string (bs (jZ more rest)))]]⟩)) (hr:=oS (k:=by first|exact ZJ _ _|(refine⟨?_,ZJ _ _⟩;simp_all [nO]))) (hh:=by intro q;left;by_cases e1:q=r<;>by_cases e2:q=m<;>simp_all [upd,j4,jZ]<;>(rw[XZ (by omega)]))
 refine ah Jl ?_
 refine aa Jl ?_
 refine aO ?_
 exact bu (upd (upd h m (some ⟨4,[[.b (j4 more rest)]]⟩)) r (some ⟨9,[[.v (.string (bs (jZ more rest)))]]⟩)) (hr:=oS (k:=by first|exact ZJ _ _|(refine⟨?_,ZJ _ _⟩;simp_all [nO]))) (hh:=by intro q;left;by_cases e1:q=r<;>by_cases e2:q=m<;>simp_all [upd,j4,jZ]<;>(rw[XZ (by omega)]))
end Go.Proofs.YtjngdcldglkolaaGreatDoor
namespace Go.Proofs.YtjngdcldglkolaaGreatDoor
open Go.DL Go.Str Go.RowKit
set_option maxRecDepth 10000
variable [Glob Tryz.prog] [Told]
theorem IQ (a:Str) (b:Str):PureCt Tryz.prog 163 [.v (.string (bs a)),.v (.string (bs b))] (.tuple [.i (if nameOk a&&nameOk b then nmCmp a b else 0),.i (if nameOk a&&nameOk b then 0 else 11)]):=by
 refine oO Tryz.func163 fun ff=>?_
 unfold Tryz.f163
 refine oC Jl ?_
 refine oK Jl (fun c1=>?_) (fun c1=>?_) (hok:=by (try simp only[go_sem,ff]);all_goals (first|done|(simp only[vw,and_true,implies_true];done)|((repeat' (with_reducible apply And.intro))<;>first|(intros;exact vw _)))) (hp:=rfl)
 .
  refine aa Jl ?_;exact fo 1 (k:=by (have e:(nameOk a&&nameOk b)=false:=by revert c1;cases nameOk a<;>cases nameOk b<;>simp);rw[e];rfl)
 refine oK Jl (fun c2=>?_) (fun c2=>?_)
 .
  refine aa Jl ?_;exact fo 1 (k:=by rw[c1.1,c1.2,nmCmp,X4 c2];rfl)
 refine ae (aA Jl 1 (hct:=by exact Re b _ _) (hk:=?_))
 rintro res h2 n2 ⟨rfl,rfl,rfl⟩
 refine az Jl ?_
 refine aa Jl ?_
 refine ae ?_
 refine aa Jl ?_
 refine ai ?_
 refine KV (by simp only[go_sem,ff]) ev Tryz.func203 rfl Mi (by simp[Tryz.f203]) rfl (fun l rL hp ha hb hn=>?_)
 unfold Tryz.f203
 refine oK Jl (fun d0=>?_) (fun d0=>?_)
 .
  refine aO ?_;refine⟨.inr rfl,none,rfl,?_⟩;refine aa Jl ?_;exact fo 1 (k:=by first|(rw[c1.1,c1.2,nmCmp,XZ c2,hv,DY c11 c14,X4 d3];rfl)|(rw[c1.1,c1.2,nmCmp,XZ c2,d0];rfl))
 refine aa Jl ?_
 refine ai ?_
 refine lp (α:=(Str)×(Bool)×(Str)×Nat) [1] (fun ⟨rest,more,rest2,nx⟩=>(rest.length<=60)/\(rest2.length<=60)/\(30<nx)/\(lv (dG a) (dG b)=lv (ja rest) (pl more rest2))/\True) (fun ⟨rest,more,rest2,nx⟩=>rest.length) (fun ⟨rest,more,rest2,nx⟩=>[(4,.v (.string (bs rest)))]) (fun ⟨rest,more,rest2,nx⟩=>[(0,⟨3,[[.i 0]]⟩),(1,⟨36,[[.i 0]]⟩),(22,⟨9,[[.v (.string (bs rest2))]]⟩),(23,⟨4,[[.b more]]⟩),(30,⟨246,[[.fn (.func 232) [] [.mptr 23 0 0,.mptr 22 0 0]]]⟩)]) (fun ⟨rest,more,rest2,nx⟩=>nx) (a,(b != [46]),b,_) (hA:=⟨(by first|(exact dN c1.1)|(dsimp only;exact dN c1.1)),(by first|(exact dN c1.2)|(dsimp only;exact dN c1.2)),iv,(by (try dsimp only);rw[Qr b,dG,if_neg d0]),trivial⟩) (round:=?_)
 rintro⟨rest,more,rest2,nx⟩ ⟨hl,hl2,hx,hv, -⟩
 simp only[X0,X3]
 have hL:=zf rest 46
 have n0:0<nx:=by omega
 have n1:1<nx:=by omega
 have n22:22<nx:=by omega
 have n23:23<nx:=by omega
 refine ai ?_
 refine aa Jl ?_ (hok:=by (try simp only[go_sem,ff]);all_goals (first|done|exact CG _ _ om))
 refine ae ?_
 refine ae ?_
 refine KS (C:=Jl) (r:=rL) 5 (bN rfl) rfl rfl rfl (by simp only[Ya,Yj,go_sem,ff];exact rfl) ?_ ev (by first|(simp only[go_sem,ff];done)|(simp only[go_sem,ff];exact rfl)) (by simp only[go_sem,ff]) ev (by rw[hp];rfl) (by rw[hp,hn];show ∀ p∈[32],p<46;decide) ?_
 .
  try simp only[go_sem,ff]
  all_goals (first|done|(repeat' (with_reducible apply And.intro))<;>first|omega|(with_reducible assumption)|(intros;omega)|(intros;simp only[XW,X6,Yc,XV,Yh,Yd,Yv] at *;omega)|(simp_all;done)|(simp_all;omega))
 rw[ha,hb,hp,hn]
 show DW _ _ _ _ { n:=_,t:=pO _ [32] _,h:=_,nx:=_ }
 simp only[FY,FX]
 refine ah Jl ?_
 refine⟨rfl,?_⟩
 refine ai ?_
 refine ae (aA Jl 1 (hct:=by exact Rf more rest2 23 22 _ _ rfl rfl (by decide) om) (hk:=?_))
 rintro res h2 n2 ⟨rfl,rfl,hn2⟩
 refine az Jl ?_
 refine oK Jl (fun c11=>?_) (fun c11=>?_) (hp:=rfl) (hq:=rfl)
 .
  refine aa Jl ?_;refine aO ?_;refine⟨rfl,false,some .ret,⟨rfl,rfl⟩,⟨_,_,_,_,_,_⟩,by simp only[Yf,X8,S.put,go_sem,ff];exact rfl,?_,?_⟩
  .
   try simp only[go_sem,ff]
   all_goals (first|done|(repeat' (with_reducible apply And.intro))<;>first|omega|(with_reducible assumption)|(intros;omega)|(intros;simp only[XW,X6,Yc,XV,Yh,Yd,Yv] at *;omega)|(simp_all;done)|(simp_all;omega))
  try simp only[aF]
  refine cd (fun d3=>?_) (fun d3=>?_) (hp:=rfl) (hq:=rfl)
  .
   refine aO ?_;refine⟨.inr rfl,some .ret,rfl,?_⟩;exact fin 1 (hr:=oS (k:=by first|(rw[c1.1,c1.2,nmCmp,XZ c2,hv,Ak c11];done)|(rw[c1.1,c1.2,nmCmp,XZ c2,hv,Ak c11];rfl)|(rw[c1.1,c1.2,nmCmp,XZ c2,hv,LY c11 c14];rfl)))
  simp at d3
 refine aa Jl ?_ (hok:=oF (WT _ _))
 refine aa Jl ?_
 refine cd (fun c14=>?_) (fun c14=>?_) (hp:=rfl) (hq:=rfl)
 .
  refine aa Jl ?_;refine aO ?_;refine⟨rfl,false,some .ret,⟨rfl,rfl⟩,⟨_,_,_,_,_,_⟩,by simp only[Yf,X8,S.put,go_sem,ff];exact rfl,?_,?_⟩
  .
   try simp only[go_sem,ff]
   all_goals (first|done|(repeat' (with_reducible apply And.intro))<;>first|omega|(with_reducible assumption)|(intros;omega)|(intros;simp only[XW,X6,Yc,XV,Yh,Yd,Yv] at *;omega)|(simp_all;done)|(simp_all;omega))
  try simp only[aF]
  refine cd (fun d3=>?_) (fun d3=>?_) (hp:=rfl) (hq:=rfl)
  .
   refine aO ?_;refine⟨.inr rfl,some .ret,rfl,?_⟩;exact fin 1 (hr:=oS (k:=by first|(rw[c1.1,c1.2,nmCmp,XZ c2,hv,Ak c11];done)|(rw[c1.1,c1.2,nmCmp,XZ c2,hv,Ak c11];rfl)|(rw[c1.1,c1.2,nmCmp,XZ c2,hv,LY c11 c14];rfl)))
  simp at d3
 refine dw_skip ?_
 refine⟨rfl,true,none,⟨rfl,rfl⟩,⟨_,_,_,_,_,_⟩,by simp only[Yf,X8,S.put,go_sem,ff];exact rfl,?_,?_⟩
 .
  try simp only[go_sem,ff]
  all_goals (first|done|(repeat' (with_reducible apply And.intro))<;>first|omega|(with_reducible assumption)|(intros;omega)|(intros;simp only[XW,X6,Yc,XV,Yh,Yd,Yv] at *;omega)|(simp_all;done)|(simp_all;omega))
 try simp only[aF]
 refine cd (fun d3=>?_) (fun d3=>?_)
 .
  refine aO ?_;refine⟨.inr rfl,none,rfl,?_⟩;refine aa Jl ?_;exact fo 1 (k:=by first|(rw[c1.1,c1.2,nmCmp,XZ c2,hv,DY c11 c14,X4 d3];rfl)|(rw[c1.1,c1.2,nmCmp,XZ c2,d0];rfl))
 refine dw_skip ?_
 refine ah Jl ?_
 show ∃ _,_
 exact ak (rest.take (lastIx rest 46).toNat,j4 more rest2,jZ more rest2,_) (h1:=⟨(by first|(first|omega|(simp;omega))|(dsimp only;first|omega|(simp;omega))),(by (try dsimp only);first|omega|(have:=Rm more rest2;omega)),iv,(by (try dsimp only);rw[hv,DY c11 c14,if_neg d3]),trivial⟩) (h2:=by show (_:Nat)<_;(simp;omega))
end Go.Proofs.YtjngdcldglkolaaGreatDoor
namespace Go.Proofs.YtjngdcldglkolaaGreatDoor
open Go.DL Go.Str Go.RowKit
set_option maxRecDepth 10000
variable [Glob Tryz.prog] [Told]
theorem vI (a:Str) (b:Str) (ha:a.length<=1000) (hb:b.length<=1000):PureCt Tryz.prog 190 [.v (.string (bs a)),.v (.string (bs b))] (.i (nmOrd a b)):=by
 rw[Sk]
 refine oO Tryz.func190 fun ff=>?_
 unfold Tryz.f190
 have hl:=(H6 a).2
 have hm:=(H6 b).2
 refine aa Jl ?_
 refine aa Jl ?_ (hok:=oF (tN _ ha))
 refine aa Jl ?_ (hok:=oF (tN _ hb))
 refine ae ?_
 refine aa Jl ?_
 refine ai ?_
 refine lp (α:=(Nat)×Nat) [5,6] (fun ⟨k,nx⟩=>(1<=k)/\(k<=(partsOf a).length+1)/\(qa (partsOf a) (partsOf b) 1=qa (partsOf a) (partsOf b) k)/\True) (fun ⟨k,nx⟩=>(partsOf a).length+1-k) (fun ⟨k,nx⟩=>[(7,.i k)]) (fun ⟨k,nx⟩=>[]) (fun ⟨k,nx⟩=>nx) (1,_) (hA:=⟨iv,iv,rfl,trivial⟩) (round:=?_)
 rintro⟨k,nx⟩ ⟨hk,hk1,hv, -⟩
 simp only[X0,X3]
 refine oL Jl (fun c1=>?_) (fun c1=>?_) (hp:=rfl) (hq:=rfl)
 .
  have hk2:k<=(partsOf a).length/\k<=(partsOf b).length:=by simp only[XV,XW] at c1;omega
  have e1:(((partsOf a).length:Int)-k).toNat=(partsOf a).length-k:=by omega
  have e2:(((partsOf b).length:Int)-k).toNat=(partsOf b).length-k:=by omega
  have g1:(partsOf a).length-k<(partsOf a).length:=by omega
  have g2:(partsOf b).length-k<(partsOf b).length:=by omega
  have ff:=qE @e1 @e2 (iA g1) (iA g2) ff;refine ae ?_;refine ai ?_;refine oC Jl ?_;refine oK Jl (fun c2=>?_) (fun c2=>?_) (hp:=rfl) (hq:=rfl)
  .
   refine aa Jl ?_;exact fo 0 (k:=by rw[hv,rJ,X4 hk2,X4 c2])
  refine aa Jl ?_;refine cd (fun c3=>?_) (fun c3=>?_) (hp:=rfl) (hq:=rfl)
  .
   refine aa Jl ?_;exact fo 0 (k:=by rw[hv,rJ,X4 hk2,XZ (by rw[c2];simp),X4 c3])
  refine dw_skip ?_;refine ah Jl ?_
  show ∃ _,_
  exact ak (k+1,_) (h1:=⟨iv,iv,(by (try dsimp only);rw[hv,rJ,if_pos hk2,if_neg (by rw[c2];simp),if_neg (by rw[c3];simp)]),trivial⟩)
 have hk2 : ¬ (k<=(partsOf a).length/\k<=(partsOf b).length):=by simp only[Yz,X6] at c1;omega
 refine aB ?_
 refine oK Jl (fun c4=>?_) (fun c4=>?_)
 .
  refine aa Jl ?_;exact fo 0 (k:=by rw[hv,rJ,XZ hk2,X4 (by omega)])
 refine oK Jl (fun c5=>?_) (fun c5=>?_)
 .
  refine aa Jl ?_;exact fo 0 (k:=by rw[hv,rJ,XZ hk2,XZ (by omega),X4 (by omega)])
 refine aa Jl ?_
 exact fo 0 (k:=by rw[hv,rJ,XZ hk2,XZ (by omega),XZ (by omega)])
theorem Qq (a:Str) (b:Str):PureCt Tryz.prog 180 [.v (.string (bs a)),.v (.string (bs b))] (.tuple [.i (if nameOk a&&nameOk b then nmCmp a b else 0),.i (if nameOk a&&nameOk b then 0 else 11)]):=by
 refine oO Tryz.func180 fun ff=>?_
 unfold Tryz.f180
 refine aa Jl ?_
 refine aa Jl ?_ (hok:=oF (fD _))
 refine aa Jl ?_ (hok:=oF (fD _))
 refine oK Jl (fun c1=>?_) (fun c1=>?_) (hp:=rfl)
 .
  have e:(nameOk a&&nameOk b)=false:=by revert c1;cases nameOk a<;>cases nameOk b<;>simp
  refine aa Jl ?_;exact fo 1 (k:=by rw[e];rfl)
 have e:(nameOk a&&nameOk b)=true:=by rw[c1.1,c1.2];rfl
 have la:=dN c1.1
 have lb:=dN c1.2
 refine aa Jl ?_ (hok:=by (try simp only[go_sem,ff]);all_goals (exact vI _ _ om om))
 exact fo 1 (k:=by rw[e,Ck];rfl)
end Go.Proofs.YtjngdcldglkolaaGreatDoor
namespace Go.Proofs.YtjngdcldglkolaaGreatDoor
open Go.DL Go.Str Go.Rec
set_option maxRecDepth 10000
variable [Glob Tryz.prog] [Told]
theorem tu (x:Int) (lo:Int) (hi:Int):PureCt Tryz.prog 165 [.i x,.i lo,.i hi] (.b (inR x lo hi)):=by
 refine oO Tryz.func165 fun ff=>?_
 unfold Tryz.f165
 refine oC Jl ?_
 exact fp 0
theorem AV (x:Int) (lo:Int) (hi:Int):PureCt Tryz.prog 234 [.v (.int .u8 x),.v (.int .u8 lo),.v (.int .u8 hi)] (.b (inR x lo hi)):=by
 refine oO Tryz.func234 fun ff=>?_
 unfold Tryz.f234
 refine oC Jl ?_
 exact fp 0
theorem iI (x:Int) (lo:Int) (hi:Int):PureCt Tryz.prog 122 [.i x,.i lo,.i hi] (.b (inR x lo hi)):=by
 refine oO Tryz.func122 fun ff=>?_
 unfold Tryz.f122
 refine oC Jl ?_
 exact fp 0
theorem IU (x:Int):PureCt Tryz.prog 207 [.i x] (.b (x != x)):=by
 refine oO Tryz.func207 fun ff=>?_
 unfold Tryz.f207
 refine oC Jl ?_
 exact fp 0
theorem IR (x:Str):PureCt Tryz.prog 235 [.v (.string (bs x))] (.b (x != x)):=by
 refine oO Tryz.func235 fun ff=>?_
 unfold Tryz.f235
 refine oC Jl ?_
 exact fp 0
theorem wT (x:Int) (y:Int):PureCt Tryz.prog 164 [.i x,.i y] (.i (cmpI x y)):=by
 refine oO Tryz.func164 fun ff=>?_
 unfold Tryz.f164
 refine aa Jl ?_
 refine aa Jl ?_ (hok:=by (try simp only[go_sem,ff]);all_goals (have h:=IU x;simp only[bne_self_eq_false] at h;exact h))
 refine aa Jl ?_ (hok:=by (try simp only[go_sem,ff]);all_goals (have h:=IU y;simp only[bne_self_eq_false] at h;exact h))
 refine oK Jl (fun c1=>?_) (fun c1=>?_) (hp:=rfl)
 .
  simp at c1
 refine oK Jl (fun c2=>?_) (fun c2=>?_) (hp:=rfl)
 .
  simp at c2
 refine oK Jl (fun c3=>?_) (fun c3=>?_)
 .
  refine aa Jl ?_;exact fo 0 (k:=by simp only[cmpI,cmpS,lN];first|(simp_all;done)|((repeat' split)<;>first|rfl|omega))
 refine oK Jl (fun c4=>?_) (fun c4=>?_)
 .
  refine aa Jl ?_;exact fo 0 (k:=by simp only[cmpI,cmpS,lN];first|(simp_all;done)|((repeat' split)<;>first|rfl|omega))
 refine aa Jl ?_
 exact fo 0 (k:=by simp only[cmpI,cmpS,lN];first|(simp_all;done)|((repeat' split)<;>first|rfl|omega))
theorem WP (x:Str) (y:Str):PureCt Tryz.prog 210 [.v (.string (bs x)),.v (.string (bs y))] (.i (cmpS x y)):=by
 refine oO Tryz.func210 fun ff=>?_
 unfold Tryz.f210
 refine aa Jl ?_
 refine aa Jl ?_ (hok:=by (try simp only[go_sem,ff]);all_goals (have h:=IR x;simp only[bne_self_eq_false] at h;exact h))
 refine aa Jl ?_ (hok:=by (try simp only[go_sem,ff]);all_goals (have h:=IR y;simp only[bne_self_eq_false] at h;exact h))
 refine oK Jl (fun c1=>?_) (fun c1=>?_) (hp:=rfl)
 .
  simp at c1
 refine oK Jl (fun c2=>?_) (fun c2=>?_) (hp:=rfl)
 .
  simp at c2
 refine oK Jl (fun c3=>?_) (fun c3=>?_)
 .
  refine aa Jl ?_;exact fo 0 (k:=by simp only[cmpI,cmpS,lN];first|(simp_all;done)|((repeat' split)<;>first|rfl|omega))
 refine oK Jl (fun c4=>?_) (fun c4=>?_)
 .
  refine aa Jl ?_;exact fo 0 (k:=by simp only[cmpI,cmpS,lN];first|(simp_all;done)|((repeat' split)<;>first|rfl|omega))
 refine aa Jl ?_
 exact fo 0 (k:=by simp only[cmpI,cmpS,lN];first|(simp_all;done)|((repeat' split)<;>first|rfl|omega))
theorem JP (s:Str) (p:Str):PureCt Tryz.prog 162 [.v (.string (bs s)),.v (.string (bs p))] (.b (hasPre s p)):=by
 refine oO Tryz.func162 fun ff=>?_
 unfold Tryz.f162
 refine oC Jl ?_
 exact fo 0 (k:=by have e:decide ((p.length:Int)<=s.length)=decide (p.length<=s.length):=ZI.2 (by omega);rw[hasPre,e])
theorem zz (s:Str) (p:Str):PureCt Tryz.prog 104 [.v (.string (bs s)),.v (.string (bs p))] (.b (hasPre s p)):=by
 refine oO Tryz.func104 fun ff=>?_
 unfold Tryz.f104
 refine aa Jl ?_
 refine aa Jl ?_ (hok:=by (try simp only[go_sem,ff]);all_goals (first|exact ok0|(apply JP<;>omega)|(intros;apply JP<;>omega)))
 exact fp 0
theorem CV (s:Str):PureCt Tryz.prog 166 [.v (.string (bs s))] (.b (wildB s)):=by
 refine oO Tryz.func166 fun ff=>?_
 unfold Tryz.f166
 refine aa Jl ?_
 refine aa Jl ?_ (hok:=by (try simp only[go_sem,ff]);all_goals (first|exact ok0|(apply zz<;>omega)|(intros;apply zz<;>omega)))
 exact fo 0 (k:=by rw[qX])
theorem gQ (s:Str):PureCt Tryz.prog 60 [.v (.string (bs s))] (.b (wildB s)):=by
 refine oO Tryz.func60 fun ff=>?_
 unfold Tryz.f60
 refine oC Jl ?_
 exact fo 0 (k:=by rw[wildB];congr 2;rw[Zb];simp only[XV,XW,YG];omega)
theorem Uc (s:Str):PureCt Tryz.prog 208 [.v (.string (bs s))] (.b (freeB s)):=by
 rw[freeB]
 refine oO Tryz.func208 fun ff=>?_
 unfold Tryz.f208
 have e1:((s.length:Int)-1).toNat=s.length-1:=by omega
 have ff:=qA @e1 ff
 refine aa Jl ?_
 have hin:inR (s.length:Int) 1 40=true->(1:Int)<=s.length/\(s.length:Int)<=40:=by intro h;simp only[inR,XV,XW] at h;exact h
 refine oK Jl (fun c1=>?_) (fun c1=>?_) (hok:=by (try simp only[go_sem,ff]);all_goals (refine⟨⟨⟨tu _ _ _,fun h=>by have:=hin h;omega⟩,fun h=>?_⟩,fun h=>?_⟩<;>(rw[Yh,Yv] at h;have:=hin h.1;omega)))
 .
  try simp only[inR,XV,Yz,XW,X6] at c1
  refine aa Jl ?_;exact fo 0 (k:=by (repeat' split)<;>first|rfl|(exfalso;omega))
 try simp only[inR,XV,Yz,XW,X6] at c1
 refine ae ?_
 refine aa Jl ?_
 refine ai ?_
 refine lp (α:=(Nat)×Nat) [0,23] (fun ⟨k,nx⟩=>(k<=s.length)/\(av s.length (ky s) 0=av s.length (ky s) k)/\True) (fun ⟨k,nx⟩=>s.length-k) (fun ⟨k,nx⟩=>[(24,.i k)]) (fun ⟨k,nx⟩=>[]) (fun ⟨k,nx⟩=>nx) (0,_) (hA:=⟨iv,rfl,trivial⟩) (round:=?_)
 rintro⟨k,nx⟩ ⟨hk,hv, -⟩
 simp only[X0,X3]
 refine aa Jl ?_
 refine ae ?_
 refine cd (fun c2=>?_) (fun c2=>?_) (hp:=rfl)
 .
  have hk2:k<s.length:=by simpa using c2
  refine dw_skip ?_;refine ae ?_;refine ai ?_;refine oC Jl ?_;refine aa Jl ?_ (hok:=by (try simp only[go_sem,ff]);all_goals (first|done|(simp only[AV,and_true,implies_true];done)|((repeat' (with_reducible apply And.intro))<;>first|(intros;exact AV _ _ _)|(intros;simp_all;done))))
  refine cd (fun c3=>?_) (fun c3=>?_)
  .
   refine aa Jl ?_;exact fo 0 (k:=by have h8:ky s k=false:=(by simp only[ky,jT,Yh,Yz,X6];(try simp only[inR,XV,Yz,XW,X6] at c3);omega);rw[hv,dR,X4 hk2,h8];(repeat' split)<;>rfl)
  refine dw_skip ?_;refine ah Jl ?_
  show ∃ _,_
  exact ak (k+1,_) (h1:=⟨iv,(by (try dsimp only);have h8:ky s k=true:=(by simp only[ky,jT,Bool.or_eq_true,Bool.and_eq_true,decide_eq_true_eq];(try simp only[inR,Bool.and_eq_true,Bool.and_eq_false_iff,decide_eq_true_eq,decide_eq_false_iff_not] at c3);omega);rw[hv,dR,if_pos hk2,h8];rfl),trivial⟩)
 refine aB ?_
 refine aa Jl ?_
 exact fo 0 (k:=by rw[hv,dR,XZ (by omega),XZ (by omega),XZ (by omega),XZ (by omega),XZ (by omega)])
theorem Qb (s:Str):PureCt Tryz.prog 181 [.v (.string (bs s))] (.b (freeB s)):=by
 rw[freeB]
 refine oO Tryz.func181 fun ff=>?_
 unfold Tryz.f181
 have e1:((s.length:Int)-1).toNat=s.length-1:=by omega
 have ff:=qA @e1 ff
 refine oC Jl ?_
 refine oK Jl (fun c1=>?_) (fun c1=>?_)
 .
  refine aa Jl ?_;exact fo 0 (k:=by (repeat' split)<;>first|rfl|(exfalso;omega))
 refine ae ?_
 refine aa Jl ?_
 refine ai ?_
 refine lp (α:=(Nat)×Nat) [0,3] (fun ⟨k,nx⟩=>(k<=s.length)/\(av s.length (ky s) 0=av s.length (ky s) k)/\True) (fun ⟨k,nx⟩=>s.length-k) (fun ⟨k,nx⟩=>[(4,.i k)]) (fun ⟨k,nx⟩=>[]) (fun ⟨k,nx⟩=>nx) (0,_) (hA:=⟨iv,rfl,trivial⟩) (round:=?_)
 rintro⟨k,nx⟩ ⟨hk,hv, -⟩
 simp only[X0,X3]
 refine oL Jl (fun c2=>?_) (fun c2=>?_) (hp:=rfl)
 .
  have hk2:k<s.length:=by simpa using c2
  refine ae ?_;refine ai ?_;refine oC Jl ?_;refine cd (fun c3=>?_) (fun c3=>?_)
  .
   refine aa Jl ?_;exact fo 0 (k:=by have h8:ky s k=false:=(by simp only[ky,jT,Yh,Yz,X6];(try simp only[inR,XV,Yz,XW,X6] at c3);omega);rw[hv,dR,X4 hk2,h8];(repeat' split)<;>rfl)
  refine dw_skip ?_;refine ah Jl ?_
  show ∃ _,_
  exact ak (k+1,_) (h1:=⟨iv,(by (try dsimp only);have h8:ky s k=true:=(by simp only[ky,jT,Bool.or_eq_true,Bool.and_eq_true,decide_eq_true_eq];(try simp only[inR,Bool.and_eq_true,Bool.and_eq_false_iff,decide_eq_true_eq,decide_eq_false_iff_not] at c3);omega);rw[hv,dR,if_pos hk2,h8];rfl),trivial⟩)
 refine aB ?_
 refine aa Jl ?_
 exact fo 0 (k:=by rw[hv,dR,XZ (by omega),XZ (by omega),XZ (by omega),XZ (by omega),XZ (by omega)])
theorem Gj (a:Dat) (b:Dat):PureCt Tryz.prog 125 [.agg a.d,.agg b.d] (.b (less a b)):=by
 rw[less]
 refine oO Tryz.func125 fun ff=>?_
 unfold Tryz.f125
 refine aa Jl ?_
 refine oK Jl (fun c1=>?_) (fun c1=>?_) (hp:=rfl) (hq:=rfl)
 .
  refine aa Jl ?_;exact fo 0 (k:=by rw[X4 c1];rfl)
 refine oK Jl (fun c2=>?_) (fun c2=>?_) (hp:=rfl) (hq:=rfl)
 .
  refine aa Jl ?_;exact fo 0 (k:=by rw[XZ (by rw[c1];simp),X4 c2])
 refine aa Jl ?_
 exact fo 0 (k:=by rw[XZ (by rw[c1];simp),XZ (by rw[c2];simp)])
end Go.Proofs.YtjngdcldglkolaaGreatDoor
namespace Go.Proofs.YtjngdcldglkolaaGreatDoor
open Go.DL Go.Str Go.Rec
set_option maxRecDepth 10000
variable [Glob Tryz.prog] [Told]
theorem WQ (l:List Int):PureCt Tryz.prog 209 [.list false (l.map iR)] (.i (orFrom l 0)):=by
 refine oO Tryz.func209 fun ff=>?_
 unfold Tryz.f209
 refine VD 0 rfl fun hlen=>?_
 simp only[Za,maxLen] at hlen
 refine oC Jl ?_
 refine ae ?_
 refine aa Jl ?_
 refine ai ?_
 refine lp (α:=(Nat)×Nat) [3,6,7] (fun ⟨k,nx⟩=>(k<=l.length)/\(orFrom l 0=orFrom l k)/\True) (fun ⟨k,nx⟩=>l.length-k) (fun ⟨k,nx⟩=>[(8,.i k)]) (fun ⟨k,nx⟩=>[]) (fun ⟨k,nx⟩=>nx) (0,_) (hA:=⟨iv,rfl,trivial⟩) (round:=?_)
 rintro⟨k,nx⟩ ⟨hk,hv, -⟩
 simp only[X0,X3]
 refine aa Jl ?_
 refine ae ?_
 refine cd (fun c1=>?_) (fun c1=>?_) (hp:=rfl)
 .
  have hk2:k<l.length:=by simpa using c1
  have ff:=qA (UX hk2) ff;refine dw_skip ?_;refine ae ?_;refine ai ?_;refine oC Jl ?_;refine cd (fun c2=>?_) (fun c2=>?_) (hp:=rfl) (hq:=rfl)
  .
   refine aa Jl ?_;exact fo 0 (k:=by rw[hv,rM,X4 hk2,X4 c2])
  refine dw_skip ?_;refine ah Jl ?_
  show ∃ _,_
  exact ak (k+1,_) (h1:=⟨iv,(by (try dsimp only);rw[hv,rM,if_pos hk2,if_neg (by rw[c2];simp)]),trivial⟩)
 refine aB ?_
 refine aa Jl ?_
 exact fo 0 (k:=by rw[hv,rM,XZ (by omega)])
theorem LX (a:Dat) (b:Dat):PureCt Tryz.prog 168 [.agg a.d,.agg b.d] (.i (datC a b)):=by
 refine oO Tryz.func168 fun ff=>?_
 unfold Tryz.f168
 refine aa Jl ?_
 refine aa Jl ?_ (hok:=oJ WP wT (WQ [_,_,_]))
 exact fo 0 (k:=by rw[<- RV];rfl)
theorem Gc (k:Int):PureCt Tryz.prog 123 [.i k] (.b (singleB k)):=by
 refine oO Tryz.func123 fun ff=>?_
 unfold Tryz.f123
 refine oC Jl ?_
 exact fo 0 (k:=by first|rfl|(unfold singleB;simp))
theorem EO (r:Rule) (d:Dat) (hr:r.even=true->0<=r.n0):PureCt Tryz.prog 167 [.agg r.d,.agg d.d] (.b (datOk r d)):=by
 refine oO Tryz.func167 fun ff=>?_
 unfold Tryz.f167
 refine aa Jl ?_
 refine oK Jl (fun c1=>?_) (fun c1=>?_) (hok:=by (try simp only[go_sem,ff]);all_goals (first|done|((repeat' (with_reducible apply And.intro))<;>first|(intros;exact tu _ _ _)|(intro h;simp only[XV,Yd,Yh,Yv,inR_iff] at h;have:=hr h.2;omega)|(intros;simp_all;done))))
 .
  refine aa Jl ?_;exact fo 0 (k:=by rcases c1 with (h|h)|⟨h1,h2⟩<;>simp[datOk, *])
 refine ae ?_
 refine aa Jl ?_
 refine ai ?_
 refine aa Jl ?_
 refine cd (fun c2=>?_) (fun c2=>?_)
 .
  refine aa Jl ?_ (hok:=oI qf CV);exact fo 0 (k:=by obtain⟨⟨h1,h2⟩,h3⟩:=c1;rcases h3 with h3|h3<;>simp[datOk,pM, *])
 refine aa Jl ?_
 refine cd (fun c3=>?_) (fun c3=>?_)
 .
  refine aa Jl ?_ (hok:=oF (qf _));exact fo 0 (k:=by obtain⟨⟨h1,h2⟩,h3⟩:=c1;rcases h3 with h3|h3<;>simp[datOk,pM, *])
 refine aa Jl ?_
 refine cd (fun c4=>?_) (fun c4=>?_)
 .
  refine aa Jl ?_ (hok:=oF (Uc _));exact fo 0 (k:=by obtain⟨⟨h1,h2⟩,h3⟩:=c1;rcases h3 with h3|h3<;>simp[datOk,pM, *])
 refine dw_skip ?_
 refine aa Jl ?_
 exact fo 0 (k:=by obtain⟨⟨h1,h2⟩,h3⟩:=c1;rcases h3 with h3|h3<;>simp[datOk,pM, *]<;>cases d.t<;>rfl)
theorem GK (k:Int) (d:Dat):PureCt Tryz.prog 124 [.i k,.agg d.d] (.b (rDatOk k d)):=by
 refine oO Tryz.func124 fun ff=>?_
 unfold Tryz.f124
 refine aa Jl ?_
 refine ae ?_
 refine aa Jl ?_
 refine ai ?_
 refine aa Jl ?_
 refine cd (fun c1=>?_) (fun c1=>?_)
 .
  refine aa Jl ?_ (hok:=by (try simp only[go_sem,ff]);all_goals (first|done|((repeat' (with_reducible apply And.intro))<;>first|(intros;exact iI _ _ _)|(intros;exact fD _)|(intros;exact gQ _)|(intro h;simp only[XV,inR_iff] at h;omega)|omega)))
  exact fo 0 (k:=by simp[rDatOk, *])
 refine oL Jl (fun c2=>?_) (fun c2=>?_)
 .
  refine cd (fun c3=>?_) (fun c3=>?_)
  .
   refine aa Jl ?_ (hok:=by (try simp only[go_sem,ff]);all_goals (first|done|((repeat' (with_reducible apply And.intro))<;>first|(intros;exact iI _ _ _)|(intros;exact fD _)|(intros;exact gQ _)|(intro h;simp only[XV,inR_iff] at h;omega)|omega)))
   exact fo 0 (k:=by simp[rDatOk, *])
  exact absurd c2 c3
 refine ah Jl ?_
 refine cd (fun c4=>?_) (fun c4=>?_)
 .
  refine aa Jl ?_ (hok:=by (try simp only[go_sem,ff]);all_goals (first|done|((repeat' (with_reducible apply And.intro))<;>first|(intros;exact iI _ _ _)|(intros;exact fD _)|(intros;exact gQ _)|(intro h;simp only[XV,inR_iff] at h;omega)|omega)))
  exact fo 0 (k:=by simp[rDatOk, *])
 refine aa Jl ?_
 refine cd (fun c5=>?_) (fun c5=>?_)
 .
  refine aa Jl ?_ (hok:=by (try simp only[go_sem,ff]);all_goals (first|done|((repeat' (with_reducible apply And.intro))<;>first|(intros;exact iI _ _ _)|(intros;exact fD _)|(intros;exact gQ _)|(intro h;simp only[XV,inR_iff] at h;omega)|omega)))
  exact fo 0 (k:=by simp[rDatOk, *])
 refine aa Jl ?_
 refine cd (fun c6=>?_) (fun c6=>?_)
 .
  refine aa Jl ?_ (hok:=by (try simp only[go_sem,ff]);all_goals (first|done|exact Qb _))
  exact fo 0 (k:=by simp[rDatOk, *])
 refine oL Jl (fun c7=>?_) (fun c7=>?_)
 .
  refine cd (fun c8=>?_) (fun c8=>?_)
  .
   refine aa Jl ?_ (hok:=by (try simp only[go_sem,ff]);all_goals (first|done|((repeat' (with_reducible apply And.intro))<;>first|(intros;exact iI _ _ _)|(intros;exact fD _)|(intros;exact gQ _)|(intro h;simp only[XV,inR_iff] at h;omega)|omega)))
   exact fo 0 (k:=by simp[rDatOk, *])
  exact absurd c7 c8
 refine ah Jl ?_
 refine cd (fun c9=>?_) (fun c9=>?_)
 .
  refine aa Jl ?_ (hok:=by (try simp only[go_sem,ff]);all_goals (first|done|((repeat' (with_reducible apply And.intro))<;>first|(intros;exact iI _ _ _)|(intros;exact fD _)|(intros;exact gQ _)|(intro h;simp only[XV,inR_iff] at h;omega)|omega)))
  exact fo 0 (k:=by simp[rDatOk, *])
 refine aa Jl ?_
 refine cd (fun c10=>?_) (fun c10=>?_)
 .
  refine aa Jl ?_ (hok:=by (try simp only[go_sem,ff]);all_goals (first|done|((repeat' (with_reducible apply And.intro))<;>first|(intros;exact iI _ _ _)|(intros;exact fD _)|(intros;exact gQ _)|(intro h;simp only[XV,inR_iff] at h;omega)|omega)))
  exact fo 0 (k:=by simp[rDatOk, *])
 refine dw_skip ?_
 refine aa Jl ?_
 exact fo 0 (k:=by simp[rDatOk, *])
end Go.Proofs.YtjngdcldglkolaaGreatDoor
namespace Go.Proofs.YtjngdcldglkolaaGreatDoor
open Go.DL Go.Str Go.Rec Go.Cmp
set_option maxRecDepth 10000
variable [Glob Tryz.prog] [Told]
theorem Qa {k:Nat}(h1:1<=k) (h8:k<=8):∃ rest:List D,∀ hh,fF Tryz.prog (.v (.pointer (some ⟨1,k*8,none⟩))) hh=(ed k).d++rest:=by
 refine⟨(rulesTab.drop (k*8+8)).map D.v,fun hh=>?_⟩
 rw[Jc,UL]
 have:k=1\/k=2\/k=3\/k=4\/k=5\/k=6\/k=7\/k=8:=by omega
 rcases this with e|e|e|e|e|e|e|e<;>subst e<;>rfl
theorem tL (s:RSet):PureCt Tryz.prog 108 [.agg s.d] (.b (setOk s)):=by
 refine oO Tryz.func108 fun ff=>?_
 unfold Tryz.f108
 refine aa Jl ?_
 refine oK Jl (fun c1=>?_) (fun c1=>?_) (hok:=by (try simp only[go_sem,ff]);all_goals (first|done|((repeat' (with_reducible apply And.intro))<;>first|(intros;exact qf _)|(intros;exact tu _ _ _)|(intros;simp_all;done)|omega)))
 .
  refine aa Jl ?_;exact fo 0 (k:=by rcases c1 with (h|h)|h<;>simp[setOk,h])
 refine oK Jl (fun c2=>?_) (fun c2=>?_) (hok:=oF (tu _ _ _))
 .
  refine aa Jl ?_;exact fo 0 (k:=by simp[setOk,c2])
 have hty:=inR_iff.1 c1.1.2
 obtain⟨rest,hld⟩:=Qa (k:=s.ty.toNat) om om
 have ff:=qA @hld ff
 refine aa Jl ?_ (hok:=by (try simp only[go_sem,ff]);all_goals (first|done|omega|((repeat' (with_reducible apply And.intro))<;>first|omega|rfl)))
 refine oK Jl (fun c3=>?_) (fun c3=>?_) (hok:=by (try simp only[go_sem,ff]);all_goals (first|done|((repeat' (with_reducible apply And.intro))<;>first|(intros;exact CV _)|(intros;simp_all;done)|(intros;by_cases hq:(ed s.ty.toNat).single=true<;>simp_all))))
 .
  refine aa Jl ?_;exact fo 0 (k:=by rcases c3 with⟨h1,h2⟩|⟨h1,h2⟩<;>simp[setOk,h1,h2])
 refine ae ?_
 refine aa Jl ?_
 refine ai ?_
 refine lp (α:=(Nat)×Nat) [1,3,50,51] (fun ⟨k,nx⟩=>(k<=s.data.length)/\(27<nx)/\(av s.data.length (iQ s.ty.toNat s.data) 0=av s.data.length (iQ s.ty.toNat s.data) k)/\True) (fun ⟨k,nx⟩=>s.data.length-k) (fun ⟨k,nx⟩=>[(52,.i k)]) (fun ⟨k,nx⟩=>[(0,⟨63,[s.d]⟩),(27,⟨214,[(ed s.ty.toNat).d]⟩)]) (fun ⟨k,nx⟩=>nx) (0,_) (hA:=⟨iv,iv,rfl,trivial⟩) (round:=?_)
 rintro⟨k,nx⟩ ⟨hk,hx,hv, -⟩
 simp only[X0,X3]
 have n0:0<nx:=by omega
 have ff:=qB @hx @n0 ff
 refine aa Jl ?_
 refine ae ?_
 refine cd (fun c4=>?_) (fun c4=>?_) (hp:=rfl)
 .
  have hk2:k<s.data.length:=by simpa using c4
  have ff:=qA (oM hk2) ff;refine dw_skip ?_;refine ae ?_;refine ai ?_;refine aa Jl ?_;have iy:=inR_iff.1 c2;have e1:((k:Int)-1).toNat=k-1:=by omega
  have hk1:k-1<s.data.length:=by omega
  have ff:=qB @e1 (oM hk1) ff;refine aa Jl ?_ (hok:=by (try simp only[go_sem,ff]);all_goals (first|done|((repeat' (with_reducible apply And.intro))<;>first|(intros;exact EO _ _ (Ga _))|(intros;exact LX _ _)|(intros;simp_all;done)|(intro h;simp only[XV,XW] at h;have:=h.2;omega)|skip)))
  refine cd (fun c5=>?_) (fun c5=>?_)
  .
   refine aa Jl ?_;exact fo 0 (k:=by rw[Br c1 c2 c3,hv,dR,X4 hk2,LB c5];rfl)
  refine dw_skip ?_;refine ah Jl ?_
  show ∃ _,_
  exact ak (k+1,_) (h1:=⟨iv,iv,(by (try dsimp only);rw[hv,dR,if_pos hk2,LA c5];rfl),trivial⟩)
 refine aB ?_
 refine aa Jl ?_
 exact fo 0 (k:=by rw[Br c1 c2 c3,hv,dR,XZ (by omega)])
end Go.Proofs.YtjngdcldglkolaaGreatDoor
namespace Go.Proofs.YtjngdcldglkolaaGreatDoor
open Go.DL Go.Str Go.Rec Go.Cmp
set_option maxRecDepth 10000
variable [Glob Tryz.prog] [Told]
theorem rz (s:RSet):PureCt Tryz.prog 65 [.agg s.d] (.b (setOk s)):=by
 refine oO Tryz.func65 fun ff=>?_
 unfold Tryz.f65
 refine oC Jl ?_
 refine oK Jl (fun c1=>?_) (fun c1=>?_) (hok:=by (try simp only[go_sem,ff]);all_goals (first|done|((repeat' (with_reducible apply And.intro))<;>first|(intros;exact fD _)|(intros;exact iI _ _ _)|(intros;exact Gc _)|(intros;simp_all;done)|skip)))
 .
  refine aa Jl ?_;exact fo 0 (k:=by rw[Pj c1])
 refine oK Jl (fun c2=>?_) (fun c2=>?_) (hok:=by (try simp only[go_sem,ff]);all_goals (first|done|((repeat' (with_reducible apply And.intro))<;>first|(intros;exact gQ _)|(intros;simp_all;done)|skip))) (hp:=rfl) (hq:=rfl)
 .
  rw[EG _ c1.1.1.1.2] at c2
  try simp only[XW,X6,Yc,XV,Yh,Yd,Yv,Yz,YG,Zx,ZM,Zw,ne_eq] at c2
  refine aa Jl ?_;exact fo 0 (k:=by rw[Pi c2])
 rw[EG _ c1.1.1.1.2] at c2
 try simp only[XW,X6,Yc,XV,Yh,Yd,Yv,Yz,YG,Zx,ZM,Zw,ne_eq] at c2
 refine ae ?_
 refine aa Jl ?_
 refine ai ?_
 refine lp (α:=(Nat)×Nat) [1,3] (fun ⟨k,nx⟩=>(k<=s.data.length)/\(0<nx)/\(av s.data.length (iQ s.ty.toNat s.data) 0=av s.data.length (iQ s.ty.toNat s.data) k)/\True) (fun ⟨k,nx⟩=>s.data.length-k) (fun ⟨k,nx⟩=>[(4,.i k)]) (fun ⟨k,nx⟩=>[(0,⟨63,[s.d]⟩)]) (fun ⟨k,nx⟩=>nx) (0,_) (hA:=⟨iv,iv,rfl,trivial⟩) (round:=?_)
 rintro⟨k,nx⟩ ⟨hk,hx,hv, -⟩
 simp only[X0,X3]
 have ff:=qA @hx ff
 refine oL Jl (fun c3=>?_) (fun c3=>?_) (hp:=rfl)
 .
  have hk2:k<s.data.length:=by simpa using c3
  have ff:=qA (oM hk2) ff;refine ae ?_;refine ai ?_;have iy:=inR_iff.1 c1.1.2;have e1:((k:Int)-1).toNat=k-1:=by omega
  have hk1:k-1<s.data.length:=by omega
  have ff:=qB @e1 (oM hk1) ff;refine aa Jl ?_ (hok:=by (try simp only[go_sem,ff]);all_goals (first|done|((repeat' (with_reducible apply And.intro))<;>first|(intros;exact GK _ _)|(intros;exact Gj _ _)|(intros;simp_all;done)|(intro h;simp only[XV,XW] at h;have:=h.2;omega)|skip)))
  refine cd (fun c4=>?_) (fun c4=>?_)
  .
   refine aa Jl ?_;exact fo 0 (k:=by rw[FT c1 c2,hv,dR,X4 hk2,Wv c1.1.1.1.2 c4];rfl)
  refine dw_skip ?_;refine ah Jl ?_
  show ∃ _,_
  exact ak (k+1,_) (h1:=⟨iv,iv,(by (try dsimp only);rw[hv,dR,if_pos hk2,Wt c1.1.1.1.2 c4];rfl),trivial⟩)
 refine aB ?_
 refine aa Jl ?_
 exact fo 0 (k:=by rw[FT c1 c2,hv,dR,XZ (by omega)])
theorem BA (a:RSet) (b:RSet):PureCt Tryz.prog 121 [.agg a.d,.agg b.d] (.i (rOrd a b)):=by
 refine oO Tryz.func121 fun ff=>?_
 unfold Tryz.f121
 refine aa Jl ?_
 refine aa Jl ?_ (hok:=oF (Qq _ _))
 refine oK Jl (fun c1=>?_) (fun c1=>?_)
 .
  refine aa Jl ?_;exact fo 0 (k:=by simp only[rOrd,ib,qg,Go.Rec.cmpI];simp_all<;>(repeat' split)<;>omega)
 refine oK Jl (fun c2=>?_) (fun c2=>?_)
 .
  refine aa Jl ?_;exact fo 0 (k:=by simp only[rOrd,ib,qg,Go.Rec.cmpI];simp_all<;>(repeat' split)<;>omega)
 refine oK Jl (fun c3=>?_) (fun c3=>?_)
 .
  refine aa Jl ?_;exact fo 0 (k:=by simp only[rOrd,ib,qg,Go.Rec.cmpI];simp_all<;>(repeat' split)<;>omega)
 refine aa Jl ?_
 exact fo 0 (k:=by simp only[rOrd,ib,qg,Go.Rec.cmpI];simp_all<;>(repeat' split)<;>omega)
theorem Qf (a:RSet) (b:RSet) (ha:a.data.length<=100000):PureCt Tryz.prog 158 [.agg a.d,.agg b.d] (.b (sameB a b)):=by
 refine oO Tryz.func158 fun ff=>?_
 unfold Tryz.f158
 refine aa Jl ?_
 refine oK Jl (fun c1=>?_) (fun c1=>?_)
 .
  refine aa Jl ?_;exact fo 0 (k:=by rw[PY c1])
 refine ae ?_
 refine aa Jl ?_
 refine ai ?_
 refine lp (α:=(Nat)×Nat) [2,3] (fun ⟨k,nx⟩=>(k<=a.data.length)/\(1<nx)/\(∀ i,i<k->a.data[i]! = b.data[i]!)/\True) (fun ⟨k,nx⟩=>a.data.length-k) (fun ⟨k,nx⟩=>[(5,.i k)]) (fun ⟨k,nx⟩=>[(0,⟨63,[a.d]⟩),(1,⟨63,[b.d]⟩)]) (fun ⟨k,nx⟩=>nx) (0,_) (hA:=⟨iv,iv,(by first|(intro i hi;omega)|(dsimp only;intro i hi;omega)),trivial⟩) (round:=?_)
 rintro⟨k,nx⟩ ⟨hk,hx,hv, -⟩
 simp only[X0,X3]
 have n0:0<nx:=by omega
 have ff:=qB @hx @n0 ff
 refine oL Jl (fun c2=>?_) (fun c2=>?_) (hp:=rfl)
 .
  have hk2:k<a.data.length:=by simpa using c2
  have hk3:k<b.data.length:=by have:=c1.2;omega
  have ff:=qB (oM hk2) (oM hk3) ff;refine ae ?_;refine ai ?_;refine aa Jl ?_;refine cd (fun c3=>?_) (fun c3=>?_) (hp:=rfl) (hq:=rfl)
  .
   refine aa Jl ?_;exact fo 0 (k:=by rw[P5 (Wy c3)])
  refine dw_skip ?_;refine ah Jl ?_
  show ∃ _,_
  exact ak (k+1,_) (h1:=⟨iv,iv,(by (try dsimp only);intro i hi;by_cases e:i=k;subst e;exact Wu c3;exact hv i om),trivial⟩)
 refine aB ?_
 refine aa Jl ?_
 exact fo 0 (k:=by rw[PX c1 fun i hi=>hv i (by omega)])
end Go.Proofs.YtjngdcldglkolaaGreatDoor
namespace Go.Proofs.YtjngdcldglkolaaGreatDoor
open Go.DL Go.Str Go.Rec Go.Cmp
set_option maxRecDepth 10000
variable [Glob Tryz.prog] [Told]
@[go_sem] theorem all_bD {t:Str}:(∀ r∈t.map bD,r.length=1)=True:=by
 apply eq_true
 intro r hr
 obtain⟨x,_,rfl⟩:=Y2.1 hr
 rfl
theorem Qj (b t:Str):(b.map bD++[[.v (.int .u8 ((eZ t.length).toNat:Int))]])++t.map bD=(b++aQ t).map bD:=by
 simp[aQ,bD]
theorem jB (t:Str):(aQ t).length=t.length+1:=rfl
theorem VQ {l:List Dat}{k:Nat}(h:k<l.length):l.drop k=l[k]! :: l.drop (k+1):=by
 rw[Yu h,getElem!_pos l k h]
theorem take8 (m:Int) {k:Nat}(h:k<8):(aT m).take (k+1)=(aT m).take k++[dE (uN m) (56-8*k)]:=by
 have:k=0\/k=1\/k=2\/k=3\/k=4\/k=5\/k=6\/k=7:=by omega
 rcases this with e|e|e|e|e|e|e|e<;>subst e<;>rfl
theorem R8 (m:Int) (s:Nat) (hs:s<=56):IntKind.u8.wrap ((IntKind.u64.wrap m).fdiv (2^(min s 64)))=((dE (uN m) s).toNat:Int):=by
 have e1:IntKind.u64.wrap m=(uN m:Int):=by rw[IntKind.wrap_u64];unfold uN;omega
 rw[e1,IntKind.wrap_u8,ZN (by omega),Aq]
 rw[Int.fdiv_eq_ediv_of_nonneg _ (by exact_mod_cast Yl _)]
 norm_cast
theorem MI (b t:Str) (r:Nat) (h:H) (n:Nat) (hr:h r=some ⟨5,b.map bD⟩) (hl:b.length<=1000000) (ht:t.length<=1000000):RCt Tryz.prog 186 [.mrow r 0 b.length,.v (.string (bs t))] h n (fun d h' n'=>∃ r',d = .mrow r' 0 (b++aQ t).length/\h'=upd (upd h r none) r' (some ⟨5,(b++aQ t).map bD⟩)/\n<=r'/\r'<n'):=by
 refine oP Tryz.func186 fun hnone ff=>?_
 unfold Tryz.f186
 have hrn:r<n:=by rcases Zd r n with q|q;exact q;rw[hnone r q] at hr;cases hr
 have ff:=qB @hr @hrn ff
 refine oD Jl ?_
 refine aO ?_
 exact bu (upd (upd h r none) (n+10) (some ⟨5,(b++aQ t).map bD⟩)) (hr:=oS (k:=by exact⟨n+10,by simp[aQ];omega,rfl,om,om⟩)) (hh:=by rw[<- Qj];exact Kk (r1:=n+6) (.inr (hnone _ (by omega))))
theorem Aw (b:Str) (m:Int) (r:Nat) (h:H) (n:Nat) (hr:h r=some ⟨5,b.map bD⟩) (hl:b.length<=1000000):RCt Tryz.prog 187 [.mrow r 0 b.length,.i m] h n (fun d h' n'=>∃ r',d = .mrow r' 0 (b++aT m).length/\h'=upd (upd h r none) r' (some ⟨5,(b++aT m).map bD⟩)/\n<=r'/\r'<n'):=by
 refine oP Tryz.func187 fun hnone ff=>?_
 unfold Tryz.f187
 have hrn:r<n:=by rcases Zd r n with q|q;exact q;rw[hnone r q] at hr;cases hr
 have ff:=qB @hr @hrn ff
 refine aa Jl ?_
 refine ae ?_
 refine aa Jl ?_
 refine ai ?_
 refine eF (α:=(Nat)×(Nat)×Nat) [1] (fun ⟨k,r1,nx⟩=>(k<=8)/\(r1=r/\k=0\/n<=r1)/\(r1<nx)/\(n<=nx)/\True) (fun ⟨k,r1,nx⟩=>9-k) (fun ⟨k,r1,nx⟩=>[(0,.mrow r1 0 (b.length+k)),(5,.i (56-8*k))]) (fun ⟨k,r1,nx⟩=>upd (upd h r none) r1 (some ⟨5,(b++(aT m).take k).map bD⟩)) (fun ⟨k,r1,nx⟩=>nx) (0,r,_) (hA:=⟨iv,iv,iv,iv,trivial⟩) (round:=?_) (hhh:=by simp only[Yj,Yy];exact U6 hr)
 rintro⟨k,r1,nx⟩ ⟨hk,h1,hx,hn, -⟩
 simp only[X0,X3]
 have ff:=qA @hx ff
 refine oL Jl (fun c1=>?_) (fun c1=>?_) (hp:=rfl) (hq:=rfl)
 .
  have hk2:k<8:=by have:(0:Int)<=56-8*(k:Int):=(by simpa using c1);omega
  have e1:(56-8*(k:Int)).toNat=56-8*k:=by omega
  have e2:=R8 m (56-8*k) (by omega)
  have ff:=qB @e1 @e2 ff;refine ae ?_;refine ai ?_;refine ah Jl ?_ (hok:=by (try simp only[go_sem,ff,eu,Yr,XY]);all_goals (exact ok0))
  refine ah Jl ?_
  show ∃ _,_
  refine ak (k+1,(nx+9),_) (h1:=⟨iv,iv,iv,iv,trivial⟩) (h5:=?_);rw[take8 m hk2,<- Yw,YS,YS];exact Kk (h1.imp (fun q=>q.1) fun q=>hnone _ q)
 have hk3:k=8:=by have : ¬ (0:Int)<=56-8*(k:Int):=(by simpa using c1);omega
 subst hk3
 refine aB ?_
 refine aa Jl ?_
 refine aO ?_
 exact bu (upd (upd h r none) r1 (some ⟨5,(b++aT m).map bD⟩)) (hr:=oS (k:=by exact⟨r1,by simp[eu],rfl,om,om⟩))
theorem QO (s:RSet):PureCt Tryz.prog 134 [.agg s.d] (.tuple [.list false ((bytesF s).1.map bD),.i (bytesF s).2]):=by
 refine oO Tryz.func134 fun ff=>?_
 unfold Tryz.f134
 refine aa Jl ?_
 refine oK Jl (fun c1=>?_) (fun c1=>?_) (hok:=oF (tL _))
 .
  refine aa Jl ?_;exact fo 2 (k:=by simp[bytesF,c1])
 have hs:=(eO s).1 c1
 have iy:=hs.len
 have hn60:=dN hs.name
 refine aa Jl ?_
 refine qM 4 5 (by simp only[go_sem,ff]) (by simp only[go_sem,ff]) ?_
 refine ae (aA Jl 3 (hct:=by exact MI [] s.name 7 _ _ rfl (by simp) om) (hk:=?_))
 rintro res h2 n2 ⟨r1,rfl,rfl,ar1,br1⟩
 dsimp only at ar1 br1
 have z1r1:(0=r1)=False:=Y6 om
 have z2r1:(r1=0)=False:=Y6 om
 have pr1:0<n2:=by omega
 have ff:=qE @z1r1 @z2r1 @br1 @pr1 ff
 refine az Jl ?_
 refine o5 [1,4] [(0,⟨63,[s.d]⟩),(r1,⟨5,(aQ s.name).map bD⟩)] (by simp only[X9,Yx,go_sem,ff];exact rfl) (by first|(simp only[go_sem,ff];done)|(simp[go_sem,ff];done)) ?_
 refine ae (aA Jl 3 (hct:=by exact Aw (aQ s.name) s.ty r1 _ _ (by simp only[go_sem,z1r1,z2r1]) (by simp only[XY,jB,eu];omega)) (hk:=?_))
 rintro res h2 n2 ⟨r2,rfl,rfl,ar2,br2⟩
 dsimp only at ar2 br2
 have z1r2:(0=r2)=False:=Y6 om
 have z2r2:(r2=0)=False:=Y6 om
 have pr2:0<n2:=by omega
 have ff:=qE @z1r2 @z2r2 @br2 @pr2 ff
 refine az Jl ?_
 refine o5 [1,4] [(0,⟨63,[s.d]⟩),(r2,⟨5,(aQ s.name++aT s.ty).map bD⟩)] (by simp only[X9,Yx,go_sem,ff];exact rfl) (by first|(simp only[go_sem,ff];done)|(simp[go_sem,ff];done)) ?_
 refine ae (aA Jl 3 (hct:=by exact Aw (aQ s.name++aT s.ty) s.life r2 _ _ (by simp only[go_sem,z1r2,z2r2]) (by simp only[XY,jB,eu];omega)) (hk:=?_))
 rintro res h2 n2 ⟨r3,rfl,rfl,ar3,br3⟩
 dsimp only at ar3 br3
 have pr3:0<n2:=by omega
 have ff:=qD (nH 0 r3) @br3 @pr3 ff
 refine az Jl ?_
 refine o5 [1,4] [(0,⟨63,[s.d]⟩),(r3,⟨5,(aQ s.name++aT s.ty++aT s.life).map bD⟩)] (by simp only[X9,Yx,go_sem,ff];exact rfl) (by first|(simp only[go_sem,ff];done)|(simp[go_sem,ff];done)) ?_
 refine aa Jl ?_ (hok:=by (try simp only[go_sem,ff,jB,eu,XY]);all_goals (exact ok0))
 refine ae ?_
 refine aa Jl ?_
 refine ai ?_
 refine lp (α:=(Nat)×(Str)×(Nat)×Nat) [30,31] (fun ⟨k,out,r,nx⟩=>(k<=s.data.length)/\(r<nx)/\(out.length<=1000+k*300)/\(out++(s.data.drop k).flatMap fU=setB s)/\True) (fun ⟨k,out,r,nx⟩=>s.data.length-k) (fun ⟨k,out,r,nx⟩=>[(4,.mrow r 0 out.length),(32,.i k)]) (fun ⟨k,out,r,nx⟩=>[(r,⟨5,(out).map bD⟩)]) (fun ⟨k,out,r,nx⟩=>nx) (0,aQ s.name++aT s.ty++aT s.life++[eZ s.data.length],(n2+11),_) (hA:=⟨iv,iv,(by first|(simp[aQ,eu];omega)|(dsimp only;simp[aQ,eu];omega)),(by first|(simp[setB])|(dsimp only;simp[setB])),trivial⟩) (round:=?_)
 rintro⟨k,out,r,nx⟩ ⟨hk,hr,ho,hv, -⟩
 simp only[X0,X3]
 have ff:=qA @hr ff
 refine aa Jl ?_
 refine ae ?_
 refine cd (fun c2=>?_) (fun c2=>?_) (hp:=rfl)
 .
  have hk2:k<s.data.length:=by simpa using c2
  have hd:=(DI hs.ty (hs.dat _ (YD hk2))).2.1;rw[<- getElem!_pos s.data k hk2] at hd;have ff:=qA (oM hk2) ff;refine dw_skip ?_;refine ae ?_;refine ai ?_;refine aa Jl ?_;refine ae (aA Jl 3 (hct:=by exact MI out s.data[k]!.t r _ _ (by simp only[go_sem,hr]) om om) (hk:=?_))
  rintro res h2 n2 ⟨q1,rfl,rfl,aq1,bq1⟩;dsimp only at aq1 bq1;have z1q1:(nx+3=q1)=False:=eq_false om;have z2q1:(q1=nx+3)=False:=eq_false om;have pq1:nx+3<n2:=by omega
  have ff:=qE @z1q1 @z2q1 @bq1 @pq1 ff;refine az Jl ?_;refine o5 [4,6,30,31,32] [((nx+3),⟨110,[s.data[k]!.d]⟩),(q1,⟨5,(out++aQ s.data[k]!.t).map bD⟩)] (by simp only[X9,Yx,go_sem,ff];exact rfl) (by first|(simp only[go_sem,ff];done)|(simp[go_sem,ff];done)) ?_
  refine ae (aA Jl 3 (hct:=by exact Aw (out++aQ s.data[k]!.t) s.data[k]!.n q1 _ _ (by simp only[go_sem,z1q1,z2q1]) (by simp only[XY,jB,eu];omega)) (hk:=?_))
  rintro res h2 n2 ⟨q2,rfl,rfl,aq2,bq2⟩;dsimp only at aq2 bq2;have z1q2:(nx+3=q2)=False:=eq_false om;have z2q2:(q2=nx+3)=False:=eq_false om;have pq2:nx+3<n2:=by omega
  have ff:=qE @z1q2 @z2q2 @bq2 @pq2 ff;refine az Jl ?_;refine o5 [4,6,30,31,32] [((nx+3),⟨110,[s.data[k]!.d]⟩),(q2,⟨5,(out++aQ s.data[k]!.t++aT s.data[k]!.n).map bD⟩)] (by simp only[X9,Yx,go_sem,ff];exact rfl) (by first|(simp only[go_sem,ff];done)|(simp[go_sem,ff];done)) ?_
  refine aA Jl 3 (hct:=by exact Aw (out++aQ s.data[k]!.t++aT s.data[k]!.n) s.data[k]!.m q2 _ _ (by simp only[go_sem,z1q2,z2q2]) (by simp only[XY,jB,eu];omega)) (hk:=?_)
  rintro res h2 n2 ⟨q3,rfl,rfl,aq3,bq3⟩;dsimp only at aq3 bq3;have pq3:nx+3<n2:=by omega
  have ff:=qD (nH (nx+3) q3) @bq3 @pq3 ff;refine az Jl ?_;refine o5 [4,30,31,32] [(q3,⟨5,(out++aQ s.data[k]!.t++aT s.data[k]!.n++aT s.data[k]!.m).map bD⟩)] (by simp only[X9,Yx,go_sem,ff];exact rfl) (by first|(simp only[go_sem,ff];done)|(simp[go_sem,ff];done)) ?_
  refine ah Jl ?_
  show ∃ _,_
  exact ak (k+1,out++aQ s.data[k]!.t++aT s.data[k]!.n++aT s.data[k]!.m,q3,_) (h1:=⟨iv,iv,(by (try dsimp only);simp only[List.length_append,jB,eu];omega),(by (try dsimp only);rw[<- hv,VQ hk2];simp[fU]),trivial⟩)
 refine aB ?_
 refine aa Jl ?_
 exact fo 2 (k:=by rw[YU (by omega)] at hv;simp at hv;simp[bytesF,c1,hv])
end Go.Proofs.YtjngdcldglkolaaGreatDoor
namespace Go.Proofs.YtjngdcldglkolaaGreatDoor
open Go.DL Go.Str Go.Rec Go.Cmp
set_option maxRecDepth 10000
variable [Glob Tryz.prog] [Told]
theorem RU {u:Nat}(hu:u<18446744073709551616) (c:UInt8):IntKind.u64.wrap ((BitVec.ofInt 64 (IntKind.u64.wrap ((u:Int)*2^(min 8 64))) ||| BitVec.ofInt 64 (IntKind.u64.wrap (c.toNat:Int))).toNat:Nat)=(bG u c:Int):=by
 have hc:=c.toNat_lt
 have e0:((2:Int)^(min 8 64))=256:=rfl
 rw[e0]
 have e1:IntKind.u64.wrap ((u:Int)*256)=((u*256 % 18446744073709551616:Nat):Int):=by rw[IntKind.wrap_u64];omega
 have e2:IntKind.u64.wrap (c.toNat:Int)=(c.toNat:Int):=by rw[IntKind.wrap_u64];omega
 rw[e1,e2,BitVec.ofInt_natCast,BitVec.ofInt_natCast,BitVec.toNat_or,BitVec.toNat_ofNat,BitVec.toNat_ofNat]
 have e3:c.toNat % 2^64=c.toNat:=Zv om
 have e4:u*256 % 18446744073709551616 % 2^64=(u % 72057594037927936) <<< 8:=by rw[Nat.shiftLeft_eq];omega
 rw[e3,e4,<- Nat.shiftLeft_add_eq_or_of_lt (by omega:c.toNat<2^8),Nat.shiftLeft_eq,IntKind.wrap_u64]
 unfold bG
 omega
theorem xM (u:Nat) (c:UInt8):bG u c<18446744073709551616:=by unfold bG;omega
theorem NV {m:Int}{st:RS}(h:(st.2||decide ((st.1.length:Int)<m))=true):aC m st=([],(st.1,true)):=by
 unfold aC;rw[X4 h]
theorem NT {m:Int}{st:RS}(h:(st.2||decide ((st.1.length:Int)<m))=false):aC m st=(st.1.take m.toNat,(st.1.drop m.toNat,st.2)):=by
 unfold aC;rw[h,(Yh.1 h).1];rfl
@[go_sem] theorem Zbp {l:Str}:(l.map bD).map Go.DL.byteOf=l:=lM (f:=bD) (g:=Go.DL.byteOf) (fun x=>by simp[Go.DL.byteOf,bD]) l
@[go_sem] theorem Zdc {l:Str}:(l.map bD).all isByte=true:=by
 induction l with
 | nil=>rfl
 | cons x l ih=>simp only[X9,List.all_cons,ih];rfl
theorem take_len (n:Nat) (st:RS):(aC n st).1.length<=n:=by
 unfold aC
 split
 .
  exact Yl _
 show (st.1.take _).length<=n
 simp;omega
theorem AP (c:UInt8):IntKind.i64.wrap (c.toNat:Int)=(c.toNat:Int):=by
 have:=c.toNat_lt
 rw[IntKind.wrap_i64];omega
theorem KZ {l:Str}{k:Nat}(h:k<l.length):l.drop k=l.getD k 0::l.drop (k+1):=by
 rw[Yu h]
 congr 1
 simp[List.getD,h]
theorem oQ {l:Str}{n:Nat}(h:n<l.length):(l.map bD).getD n []=[.v (.int .u8 ((l.getD n 0).toNat:Int))]:=by
 simp[List.getD,h,bD]
theorem count_le (st:RS):(aV st).1<=255:=by
 unfold aV
 split
 .
  have:=((aC 1 st).1.getD 0 0).toNat_lt;simp only;omega
 exact Yl _
theorem Lt {n k:Nat}{out:List Dat}{st:RS}(h:k<n) (c:(ax (ax (aK st).2).2).2.2=false):cO (n-k) out st=cO (n-(k+1)) (out++[(bS st).1]) (bS st).2:=by
 rw[show n-k=(n-(k+1))+1 by omega,cO,XZ (by rw[show (bS st).2.2=(ax (ax (aK st).2).2).2.2 from rfl,c];simp)]
theorem Wq {n k:Nat}{out:List Dat}{st:RS}(h:k<n) (c:(ax (ax (aK st).2).2).2.2=true):cO (n-k) out st=(out,(bS st).2):=by
 rw[show n-k=(n-(k+1))+1 by omega,cO,X4 (show (bS st).2.2=true from c)]
theorem Ws {n k:Nat}{out:List Dat}{st:RS}(h : ¬ k<n):cO (n-k) out st=(out,st):=by
 rw[show n-k=0 by omega];rfl
theorem GA {x:Str}{out:List Dat}{st:RS}(h:(out,st)=cO (aV (ax (ax (aK (x,false)).2).2).2).1 [] (aV (ax (ax (aK (x,false)).2).2).2).2):fO (x,false)=(⟨(aK (x,false)).1,(ax (aK (x,false)).2).1,(ax (ax (aK (x,false)).2).2).1,out⟩,st):=by
 unfold fO
 simp only
 rw[<- h]
theorem GD {x:Str}{out:List Dat}{st:RS}(h:(out,st)=cO (aV (ax (ax (aK (x,false)).2).2).2).1 [] (aV (ax (ax (aK (x,false)).2).2).2).2) (c:((st.2||decide ((0:Int)<st.1.length)) || !setOk ⟨(aK (x,false)).1,(ax (aK (x,false)).2).1,(ax (ax (aK (x,false)).2).2).1,out⟩)=true):readF x=(yZ,10):=by
 have e:decide ((0:Int)<st.1.length)=decide (0<st.1.length):=ZI.2 om
 rw[e] at c
 unfold readF
 rw[GA h]
 exact X4 c
theorem Gz {x:Str}{out:List Dat}{st:RS}(h:(out,st)=cO (aV (ax (ax (aK (x,false)).2).2).2).1 [] (aV (ax (ax (aK (x,false)).2).2).2).2) (c:((st.2||decide ((0:Int)<st.1.length)) || !setOk ⟨(aK (x,false)).1,(ax (aK (x,false)).2).1,(ax (ax (aK (x,false)).2).2).1,out⟩)=false):readF x=(⟨(aK (x,false)).1,(ax (aK (x,false)).2).1,(ax (ax (aK (x,false)).2).2).1,out⟩,0):=by
 have e:decide ((0:Int)<st.1.length)=decide (0<st.1.length):=ZI.2 om
 rw[e] at c
 unfold readF
 rw[GA h]
 exact XZ (by rw[Bool.not_eq_true];exact c)
@[go_sem] theorem bslU:D6 Tryz.prog 22=true:=by kernel_rfl
theorem Bd (m:Int) (hm:0<=m) (st:RS) (rb:Nat) (h:H) (n:Nat) (hb:h rb=some ⟨285,[[.list false ((st).1.map bD),.b (st).2]]⟩):RCt Tryz.prog 245 [.mptr rb 0 0,.i m] h n (fun d h' n'=>(∃ f,d = .list f ((aC m st).1.map bD))/\h'=upd h rb (some ⟨285,[[.list false (((aC m st).2).1.map bD),.b ((aC m st).2).2]]⟩)/\n<=n'):=by
 refine oP Tryz.func245 fun hnone ff=>?_
 unfold Tryz.f245
 have ff:=qA @hb ff
 refine aa Jl ?_
 refine oK Jl (fun c1=>?_) (fun c1=>?_) (hp:=rfl) (hq:=rfl)
 .
  refine oC Jl ?_;refine aO ?_;exact bu (upd h rb (some ⟨285,[[.list false (st.1.map bD),.b true]]⟩)) (hr:=oS (k:=by rw[NV c1];exact⟨⟨_,rfl⟩,rfl,om⟩)) (hh:=by intro q;left;by_cases e1:q=rb<;>simp[upd,e1])
 have c1b:=Yh.1 c1
 have c1c:=of_decide_eq_false c1b.2
 refine oD Jl ?_
 refine aO ?_
 exact bu (upd h rb (some ⟨285,[[.list false ((st.1.drop m.toNat).map bD),.b st.2]]⟩)) (hr:=oS (k:=by rw[NT c1];exact⟨⟨_,by rw[ZT]⟩,rfl,om⟩)) (hh:=by intro q;left;by_cases e1:q=rb<;>simp[upd,e1])
theorem LQ (st:RS) (rb:Nat) (h:H) (n:Nat) (hb:h rb=some ⟨285,[[.list false ((st).1.map bD),.b (st).2]]⟩):RCt Tryz.prog 239 [.mptr rb 0 0] h n (fun d h' n'=>d = .i (aV st).1/\h'=upd h rb (some ⟨285,[[.list false (((aV st).2).1.map bD),.b ((aV st).2).2]]⟩)/\n<=n'):=by
 refine oP Tryz.func239 fun hnone ff=>?_
 unfold Tryz.f239
 have ff:=qA @hb ff
 refine aa Jl ?_
 refine ae ?_
 refine ae (aA Jl 1 (hct:=by exact Bd 1 om st rb _ _ (by simp only[go_sem,hb])) (hk:=?_))
 rintro res h2 n2 ⟨⟨f,rfl⟩,rfl,a1⟩
 try dsimp only at a1
 refine az Jl ?_
 refine aa Jl ?_
 refine cd (fun c1=>?_) (fun c1=>?_)
 .
  have hk:0<(aC 1 st).1.length:=by omega
  have ff:=qB (oQ hk) @AP ff;refine aa Jl ?_;refine aO ?_;exact bu (upd h rb (some ⟨285,[[.list false (((aV st).2).1.map bD),.b ((aV st).2).2]]⟩)) (hr:=oS (k:=by exact⟨by unfold aV;rw[X4 (by omega)],om⟩))
 refine dw_skip ?_
 refine aa Jl ?_
 refine aO ?_
 exact bu (upd h rb (some ⟨285,[[.list false (((aV st).2).1.map bD),.b ((aV st).2).2]]⟩)) (hr:=oS (k:=by exact⟨by unfold aV;rw[XZ (by omega)];rfl,om⟩))
theorem E8 (st:RS) (rb:Nat) (h:H) (n:Nat) (hb:h rb=some ⟨285,[[.list false ((st).1.map bD),.b (st).2]]⟩):RCt Tryz.prog 237 [.mptr rb 0 0] h n (fun d h' n'=>d = .v (.string (bs (aK st).1))/\h'=upd h rb (some ⟨285,[[.list false (((aK st).2).1.map bD),.b ((aK st).2).2]]⟩)/\n<=n'):=by
 refine oP Tryz.func237 fun hnone ff=>?_
 unfold Tryz.f237
 have ff:=qA @hb ff
 refine aa Jl ?_
 refine ae (uB ?_)
 refine nJ (C:=Jl) 2 (R:=_) om (bN rfl) rfl rfl (by simp only[Yf,X8,Ya,Yj,S.put,YC,go_sem,ff];exact rfl) ?_ ?_ ev (by simp only[go_sem,ff]) ev (by exact LQ st rb _ _ (by simp only[go_sem,hb])) ?_
 .
  try simp only[go_sem,ff]
  all_goals (first|done|(repeat' (with_reducible apply And.intro))<;>first|omega|(with_reducible assumption)|(intros;omega)|(intros;simp only[XW,X6,Yc,XV,Yh,Yd,Yv] at *;omega)|(simp_all;done)|(simp_all;omega))
 .
  try simp only[go_sem,ff]
  all_goals (first|done|rfl|decide|simp)
 rintro res h2 n2 ⟨rfl,rfl,a1⟩
 try dsimp only at a1
 refine nJ (C:=Jl) 3 (R:=_) om (bN rfl) rfl rfl (by simp only[Yf,X8,Ya,Yj,S.put,YC,go_sem,ff];exact rfl) ?_ ?_ ev (by simp only[go_sem,ff]) ev (by exact Bd ((aV st).1) om (aV st).2 rb _ _ (by simp only[go_sem])) ?_
 .
  try simp only[go_sem,ff]
  all_goals (first|done|(repeat' (with_reducible apply And.intro))<;>first|omega|(with_reducible assumption)|(intros;omega)|(intros;simp only[XW,X6,Yc,XV,Yh,Yd,Yv] at *;omega)|(simp_all;done)|(simp_all;omega))
 .
  try simp only[go_sem,ff]
  all_goals (first|done|rfl|decide|simp)
 rintro res h3 n3 ⟨⟨f,rfl⟩,rfl,a2⟩
 try dsimp only at a2
 refine tK (C:=Jl) (by first|decide|simp) (by simp only[Yf,X8,Ya,Yj,S.put,YC,go_sem,ff];exact rfl) ?_ rfl ?_
 .
  try simp only[go_sem,ff]
  all_goals (first|done|(repeat' (with_reducible apply And.intro))<;>first|omega|(with_reducible assumption)|(intros;omega)|(intros;simp only[XW,X6,Yc,XV,Yh,Yd,Yv] at *;omega)|(simp_all;done)|(simp_all;omega))
 try simp only[aF]
 refine aO ?_
 exact bu (upd h rb (some ⟨285,[[.list false (((aK st).2).1.map bD),.b ((aK st).2).2]]⟩)) (hr:=oS (k:=by exact⟨by simp[aK],om⟩)) (hh:=by intro q;left;by_cases e1:q=rb<;>simp[upd,e1,aK])
theorem yT (st:RS) (rb:Nat) (h:H) (n:Nat) (hb:h rb=some ⟨285,[[.list false ((st).1.map bD),.b (st).2]]⟩):RCt Tryz.prog 238 [.mptr rb 0 0] h n (fun d h' n'=>d = .i (ax st).1/\h'=upd h rb (some ⟨285,[[.list false (((ax st).2).1.map bD),.b ((ax st).2).2]]⟩)/\n<=n'):=by
 refine oP Tryz.func238 fun hnone ff=>?_
 unfold Tryz.f238
 have ff:=qA @hb ff
 refine oC Jl ?_
 refine ae ?_
 refine ae (aA Jl 1 (hct:=by exact Bd 8 om st rb _ _ (by simp only[go_sem,hb])) (hk:=?_))
 rintro res h2 n2 ⟨⟨f,rfl⟩,rfl,a1⟩
 try dsimp only at a1
 refine az Jl ?_
 refine ai ?_
 refine eF (α:=(Nat)×(Nat)×Nat) [7,8] (fun ⟨k,u,nx⟩=>(k<=(aC 8 st).1.length)/\(u<18446744073709551616)/\(n<=nx)/\(((aC 8 st).1.drop k).foldl bG u=bO (aC 8 st).1)/\True) (fun ⟨k,u,nx⟩=>(aC 8 st).1.length-k) (fun ⟨k,u,nx⟩=>[(3,.v (.int .u64 u)),(9,.i k)]) (fun ⟨k,u,nx⟩=>upd h rb (some ⟨285,[[.list false (((aC 8 st).2).1.map bD),.b ((aC 8 st).2).2]]⟩)) (fun ⟨k,u,nx⟩=>nx) (0,0,_) (hA:=⟨iv,(by first|(omega)|(dsimp only;omega)),iv,rfl,trivial⟩) (round:=?_)
 rintro⟨k,u,nx⟩ ⟨hk,hu,hn,hv, -⟩
 simp only[X0,X3]
 refine aa Jl ?_
 refine ae ?_
 refine cd (fun c1=>?_) (fun c1=>?_) (hp:=rfl)
 .
  have hk2:k<(aC 8 st).1.length:=by simpa using c1
  have h8:(aC 8 st).1.length<=8:=take_len 8 st;have hor:=RU hu ((aC 8 st).1.getD k 0);have ff:=qB (oQ hk2) @hor ff;refine dw_skip ?_;refine ae ?_;refine ai ?_;refine aa Jl ?_;refine ah Jl ?_;refine ah Jl ?_
  show ∃ _,_
  exact ak (k+1,bG u ((aC 8 st).1.getD k 0),_) (h1:=⟨iv,(by first|(exact xM _ _)|(dsimp only;exact xM _ _)),iv,(by first|(rw[<- hv,KZ hk2];rfl)|(dsimp only;rw[<- hv,KZ hk2];rfl)),trivial⟩) (h3:=by (try simp only[go_sem,ff]);all_goals (first|done|(simp;done)|(refine⟨.inl ?_,.inl (by simp)⟩;exact congrArg (fun x=>D.v (Value.int IntKind.u64 x)) hor)|(simp;omega))) (h4:=by (try simp only[go_sem,ff]);all_goals (first|done|(simp;done)|(refine⟨.inl ?_,.inl (by simp)⟩;exact congrArg (fun x=>D.v (Value.int IntKind.u64 x)) hor)|(simp;omega)))
 refine aB ?_
 refine aa Jl ?_
 refine aO ?_
 exact bu (upd h rb (some ⟨285,[[.list false (((aC 8 st).2).1.map bD),.b ((aC 8 st).2).2]]⟩)) (hr:=oS (k:=by rw[YU (by omega)] at hv;exact⟨by rw[show u=bO (aC 8 st).1 from hv];rfl,rfl,om⟩))
end Go.Proofs.YtjngdcldglkolaaGreatDoor
namespace Go.Proofs.YtjngdcldglkolaaGreatDoor
open Go.DL Go.Str Go.Rec Go.Cmp
set_option maxRecDepth 10000
variable [Glob Tryz.prog] [Told]
theorem Qh (x:Str):PureCt Tryz.prog 222 [.list false (x.map bD)] (.tuple [.agg (readF x).1.d,.i (readF x).2]):=by
 refine oO Tryz.func222 fun ff=>?_
 unfold Tryz.f222
 refine oD Jl ?_
 refine ae (aA Jl 1 (hct:=by exact E8 (x,false) 4 _ _ rfl) (hk:=?_))
 rintro res h2 n2 ⟨rfl,rfl,a1⟩
 try dsimp only at a1
 have p4:4<n2:=by omega
 have p0:0<n2:=by omega
 have ff:=qB @p4 @p0 ff
 refine az Jl ?_
 obtain⟨q,hq⟩:∃ q,q=n2+3:=⟨_,rfl⟩
 rw[<- hq]
 refine mW q 3 63 110 ev (by rfl) (by simp only[go_sem,ff]) ?_
 simp only[YM,YF]
 obtain⟨r0,hr0⟩:∃ r0,r0=(n2+5):=⟨_,rfl⟩
 rw[<- hr0]
 have z4_q:(4=q)=False:=Y6 om
 have yq_4:(q=4)=False:=Y6 om
 have ff:=qG @z4_q @yq_4 (nH 4 r0) (nH q r0) (nH 0 q) (nH 0 r0) ff
 refine o5 [2,4,5,6,7] [(0,⟨63,[[.v (.string (bs [])),.i 0,.i 0,.list true []]]⟩),(4,⟨285,[[.list false (((aK (x,false)).2).1.map bD),.b ((aK (x,false)).2).2]]⟩),(q,⟨63,[[.v (.string (bs ((aK (x,false)).1))),.i (0),.i (0),.mrow r0 0 0]]⟩),(r0,⟨110,[]⟩)] (by simp only[X9,Yx,go_sem,ff];exact rfl) (by first|(simp only[go_sem,ff];done)|(simp[go_sem,ff];done)) ?_
 refine ae (aA Jl 1 (hct:=by exact yT (aK (x,false)).2 4 _ _ (by simp only[go_sem])) (hk:=?_))
 rintro res h2 n2 ⟨rfl,rfl,a2⟩
 try dsimp only at a2
 have p4:4<n2:=by omega
 have p0:0<n2:=by omega
 have pq:q<n2:=by omega
 have pr:r0<n2:=by omega
 have ff:=qB @pq @pr ff
 refine az Jl ?_
 refine ae (aA Jl 1 (hct:=by exact yT (ax (aK (x,false)).2).2 4 _ _ (by simp only[go_sem,z4_q,yq_4] )) (hk:=?_))
 rintro res h2 n2 ⟨rfl,rfl,a3⟩
 try dsimp only at a3
 have p4:4<n2:=by omega
 have p0:0<n2:=by omega
 have pq:q<n2:=by omega
 have pr:r0<n2:=by omega
 refine az Jl ?_
 refine ae ?_
 refine ae (aA Jl 0 (hct:=by exact LQ (ax (ax (aK (x,false)).2).2).2 4 _ _ (by simp only[go_sem,z4_q,yq_4])) (hk:=?_))
 rintro res h2 n2 ⟨rfl,rfl,a4⟩
 try dsimp only at a4
 have p4:4<n2:=by omega
 have p0:0<n2:=by omega
 have pq:q<n2:=by omega
 have pr:r0<n2:=by omega
 refine az Jl ?_
 refine ai ?_
 refine lp (α:=(Nat)×(List Dat)×(Nat)×(RS)×Nat) [2,4,5,6,7,22] (fun ⟨k,out,r,st,nx⟩=>(k<=(aV (ax (ax (aK (x,false)).2).2).2).1)/\(r<nx)/\(r≠0/\r≠4/\r≠q)/\(q<nx)/\(out.length<=k)/\(cO ((aV (ax (ax (aK (x,false)).2).2).2).1-k) out st=cO (aV (ax (ax (aK (x,false)).2).2).2).1 [] (aV (ax (ax (aK (x,false)).2).2).2).2)/\True) (fun ⟨k,out,r,st,nx⟩=>(aV (ax (ax (aK (x,false)).2).2).2).1-k) (fun ⟨k,out,r,st,nx⟩=>[(23,.i k)]) (fun ⟨k,out,r,st,nx⟩=>[(0,⟨63,[[.v (.string (bs [])),.i 0,.i 0,.list true []]]⟩),(4,⟨285,[[.list false ((st).1.map bD),.b (st).2]]⟩),(q,⟨63,[[.v (.string (bs ((aK (x,false)).1))),.i ((ax (aK (x,false)).2).1),.i ((ax (ax (aK (x,false)).2).2).1),.mrow r 0 out.length]]⟩),(r,⟨110,out.map Dat.d⟩)]) (fun ⟨k,out,r,st,nx⟩=>nx) (0,[],r0,(aV (ax (ax (aK (x,false)).2).2).2).2,_) (hA:=⟨iv,iv,iv,iv,(by first|(simp)|(dsimp only;simp)),(by first|(simp)|(dsimp only;simp)),trivial⟩) (round:=?_)
 rintro⟨k,out,r,st,nx⟩ ⟨hk,hr,hrn,hqn,ho,hv, -⟩
 simp only[X0,X3]
 have p4:4<nx:=by omega
 have p0:0<nx:=by omega
 have ff:=qH @hr @hqn @p4 @p0 (nH 0 r) (nH 4 r) (nH q r) ff
 refine aa Jl ?_
 refine ae ?_
 refine cd (fun c1=>?_) (fun c1=>?_) (hp:=rfl) (hq:=rfl)
 .
  have hk2:k<(aV (ax (ax (aK (x,false)).2).2).2).1:=by simpa using c1
  have hc8:=count_le (ax (ax (aK (x,false)).2).2).2;refine dw_skip ?_;refine ae ?_;refine ai ?_;refine aa Jl ?_;refine ae (aA Jl 1 (hct:=by exact E8 st 4 _ _ (by simp only[go_sem,p4])) (hk:=?_))
  rintro res h2 n2 ⟨rfl,rfl,a5⟩
  try dsimp only at a5
  refine az Jl ?_;refine ae (aA Jl 1 (hct:=by exact yT (aK st).2 4 _ _ (by simp only[go_sem,p4])) (hk:=?_))
  rintro res h2 n2 ⟨rfl,rfl,a6⟩
  try dsimp only at a6
  refine az Jl ?_;refine ae (aA Jl 1 (hct:=by exact yT (ax (aK st).2).2 4 _ _ (by simp only[go_sem,p4])) (hk:=?_))
  rintro res h2 n2 ⟨rfl,rfl,a7⟩
  try dsimp only at a7
  have ww:nx+1<n2:=by omega
  have w4:4<n2:=by omega
  have w0:0<n2:=by omega
  have wq:q<n2:=by omega
  have wr:r<n2:=by omega
  have ff:=qF @ww @w4 @w0 @wq @wr ff;refine az Jl ?_;refine oK Jl (fun c2=>?_) (fun c2=>?_) (hp:=rfl) (hq:=rfl)
  .
   have hv2:=hv;rw[Wq hk2 c2] at hv2;refine aB ?_;refine ae ?_;refine lZ q 3 r (rows:=out.map Dat.d) (off:=0) (len:=out.length) ev (by rfl) ev om (by simp) ui ?_
   simp only[X8,lI,YM,YF];refine aa Jl ?_ (hok:=oH (tL ⟨_,_,_,out⟩));refine cd (fun c9=>?_) (fun c9=>?_) (hp:=rfl) (hq:=rfl)
   .
    refine aa Jl ?_;exact fo 2 (k:=by rw[GD hv2 c9];try rfl)
   refine dw_skip ?_;refine aa Jl ?_;exact fo 2 (k:=by rw[Gz hv2 c9];try rfl)
  refine ah Jl ?_;refine ah Jl ?_
  show ∃ _,_
  exact ak (k+1,out++[(bS st).1],(n2+10),(bS st).2,_) (h1:=⟨iv,iv,iv,iv,(by first|(simp;omega)|(dsimp only;simp;omega)),(by first|(rw[<- hv,Lt hk2 c2])|(dsimp only;rw[<- hv,Lt hk2 c2])),trivial⟩) (h3:=by (try simp only[go_sem,ff]);all_goals (first|done|(simp;done)|(simp[Dat.d,bS];done)|((repeat' (with_reducible apply And.intro))<;>first|rfl|(left;simp;done)|(simp[Dat.d,bS];done)))) (h4:=by (try simp only[go_sem,ff]);all_goals (first|done|(simp;done)|(simp[Dat.d,bS];done)|((repeat' (with_reducible apply And.intro))<;>first|rfl|(left;simp;done)|(simp[Dat.d,bS];done)))) (h5:=by (try simp only[go_sem,ff]);all_goals (first|done|(simp;done)|(simp[Dat.d,bS];done)|((repeat' (with_reducible apply And.intro))<;>first|rfl|(left;simp;done)|(simp[Dat.d,bS];done))))
 have hk2 : ¬ k<(aV (ax (ax (aK (x,false)).2).2).2).1:=by simpa using c1
 have hv2:=hv
 rw[Ws hk2] at hv2
 refine aB ?_
 refine ae ?_
 refine lZ q 3 r (rows:=out.map Dat.d) (off:=0) (len:=out.length) ev (by rfl) ev om (by simp) ui ?_
 simp only[X8,lI,YM,YF]
 refine aa Jl ?_ (hok:=oH (tL ⟨_,_,_,out⟩))
 refine cd (fun c9=>?_) (fun c9=>?_) (hp:=rfl) (hq:=rfl)
 .
  refine aa Jl ?_;exact fo 2 (k:=by rw[GD hv2 c9];try rfl)
 refine dw_skip ?_
 refine aa Jl ?_
 exact fo 2 (k:=by rw[Gz hv2 c9];try rfl)
end Go.Proofs.YtjngdcldglkolaaGreatDoor
namespace Go.Proofs.YtjngdcldglkolaaGreatDoor
open Go.DL Go.Str Go.Rec Go.Cmp Go.RowKit
set_option maxRecDepth 10000
variable [Glob Tryz.prog] [Told]
end Go.Proofs.YtjngdcldglkolaaGreatDoor
namespace Go.Proofs.YtjngdcldglkolaaGreatDoor
open Go.DL Go.Str Go.Rec Go.Cmp Go.RowKit
set_option maxRecDepth 10000
variable [Glob Tryz.prog] [Told]
end Go.Proofs.YtjngdcldglkolaaGreatDoor
namespace Go.Proofs.YtjngdcldglkolaaGreatDoor
open Go.DL Go.Str Go.Rec Go.Cmp Go.RowKit
set_option maxRecDepth 10000
variable [Glob Tryz.prog] [Told]
theorem kJ {h:H}{r:Nat}{a b:Option Blk}:upd (upd h r a) r b=upd h r b:=by
 funext q
 unfold upd
 split<;>rfl
theorem QF {x:Str}{z:RSet}{st:RT}(hset:jc x (0,false)=(z,st)) (c:(st.2=true \/ ¬ (st.1:Int)=(x.length:Int))\/setOk z=false):readF x=(yZ,10):=by
 rw[<- GG]
 unfold yC
 rw[hset]
 refine X4 ?_
 simp only[Yc,XW,Yd]
 rcases c with (c|c)|c
 .
  exact .inl (.inl c)
 .
  exact .inl (.inr om)
 exact .inr c
theorem QE {x:Str}{z:RSet}{st:RT}(hset:jc x (0,false)=(z,st)) (c:(st.2=false/\(st.1:Int)=(x.length:Int))/\setOk z=true):readF x=(z,0):=by
 rw[<- GG]
 unfold yC
 rw[hset]
 refine XZ ?_
 simp only[Yc,XW,Yd]
 rintro ((q|q)|q)
 .
  rw[c.1.1] at q;cases q
 .
  omega
 rw[c.2] at q;cases q
theorem Xf (c:UInt8):Go.DL.byteOf [.v (.int .u8 (c.toNat:Int))]=c:=by simp[Go.DL.byteOf]
theorem Nn (c:UInt8):IntKind.u64.wrap (c.toNat:Int)=(c.toNat:Int):=by
 have:=c.toNat_lt
 rw[IntKind.wrap_u64];omega
theorem Od {u:Nat}(c:UInt8):IntKind.u64.wrap (IntKind.u64.wrap ((u:Int)*256)+(c.toNat:Int))=(bG u c:Int):=by
 unfold bG
 simp only[IntKind.wrap_u64]
 have:=c.toNat_lt
 omega
theorem QI {b:Str}{out:List Dat}{st:RT}{N k:Nat}(h:k<N) (hs:st.2=false):jd b (N-k) out st=jd b (N-(k+1)) (out++[(ic b st).1]) (ic b st).2:=by
 obtain⟨m,hm⟩:∃ m,N-k=m+1:=⟨N-k-1,om⟩
 rw[hm,show N-(k+1)=m from by omega,jd,XZ (by rw[hs];simp)]
theorem QH {b:Str}{out:List Dat}{st:RT}{N k:Nat}(h : ¬ (k<N/\st.2=false)):jd b (N-k) out st=(out,st):=by
 by_cases hk:k<N
 .
  exact BG _ _ _ (by cases h2:st.2;exact absurd ⟨hk,h2⟩ h;rfl)
 rw[show N-k=0 from by omega];rfl
theorem P7 {b s:Str}{st:RT}{N k:Nat}(h:k<N) (hs:st.2=false):jH b (N-k) s st=jH b (N-(k+1)) (s++[(bg b st).1]) (bg b st).2:=by
 obtain⟨m,hm⟩:∃ m,N-k=m+1:=⟨N-k-1,om⟩
 rw[hm,show N-(k+1)=m from by omega,jH,XZ (by rw[hs];simp)]
theorem P6 {b s:Str}{st:RT}{N k:Nat}(h : ¬ (k<N/\st.2=false)):jH b (N-k) s st=(s,st):=by
 by_cases hk:k<N
 .
  exact AQ _ _ _ (by cases h2:st.2;exact absurd ⟨hk,h2⟩ h;rfl)
 rw[show N-k=0 from by omega];rfl
theorem F8 {b:Str}{u:Nat}{st:RT}{k:Nat}(h:k<8):jI b (8-k) u st=jI b (8-(k+1)) (bG u (bg b st).1) (bg b st).2:=by
 obtain⟨m,hm⟩:∃ m,8-k=m+1:=⟨8-k-1,om⟩
 rw[hm,show 8-(k+1)=m from by omega,jI]
theorem yt (x:Str) (st:RT) (rb:Nat) (h:H) (n:Nat) (hx:x.length<=1000000) (hb:h rb=some ⟨258,[[.list false (x.map bD),.i (st).1,.b (st).2]]⟩):RCt Tryz.prog 218 [.mptr rb 0 0] h n (fun d h' n'=>d = .v (.int .u8 ((bg x st).1.toNat:Int))/\h'=upd h rb (some ⟨258,[[.list false (x.map bD),.i ((bg x st).2).1,.b ((bg x st).2).2]]⟩)/\n<=n'):=by
 refine oP Tryz.func218 fun hnone ff=>?_
 unfold Tryz.f218
 have ff:=qA @hb ff
 refine aa Jl ?_
 refine oK Jl (fun c1=>?_) (fun c1=>?_)
 .
  have e:=Cn (b:=x) (t:=st) (by omega)
  refine oC Jl ?_;refine aO ?_;exact bu (upd h rb (some ⟨258,[[.list false (x.map bD),.i ((st.1,true)).1,.b ((st.1,true)).2]]⟩)) (hr:=oS (k:=by rw[e];exact⟨rfl,rfl,om⟩)) (hh:=by intro q;left;by_cases e1:q=rb<;>simp[upd,e1])
 have hk:st.1<x.length:=by omega
 have e:=Co (b:=x) (t:=st) hk
 have e1:((st.1:Int)+1-1).toNat=st.1:=by omega
 have ff:=qB (oQ hk) @e1 ff
 refine oC Jl ?_
 refine aO ?_
 exact bu (upd h rb (some ⟨258,[[.list false (x.map bD),.i ((st.1+1,st.2)).1,.b ((st.1+1,st.2)).2]]⟩)) (hr:=oS (k:=by rw[e];exact⟨rfl,rfl,om⟩)) (hh:=by intro q;left;by_cases e1:q=rb<;>simp[upd,e1])
theorem F7 (x:Str) (st:RT) (rb:Nat) (h:H) (n:Nat) (hx:x.length<=1000000) (hb:h rb=some ⟨258,[[.list false (x.map bD),.i (st).1,.b (st).2]]⟩):RCt Tryz.prog 216 [.mptr rb 0 0] h n (fun d h' n'=>d = .v (.string (bs (bJ x st).1))/\h'=upd h rb (some ⟨258,[[.list false (x.map bD),.i ((bJ x st).2).1,.b ((bJ x st).2).2]]⟩)/\n<=n'):=by
 refine oP Tryz.func216 fun hnone ff=>?_
 unfold Tryz.f216
 have ff:=qA @hb ff
 refine aa Jl ?_
 have ff:=qA @AP ff
 refine ae (aA Jl 1 (hct:=by exact yt x st rb _ _ hx (by simp only[go_sem,hb])) (hk:=?_))
 rintro res h2 n2 ⟨rfl,rfl,a1⟩
 try dsimp only at a1
 refine az Jl ?_
 refine aa Jl ?_
 refine ae ?_
 refine aa Jl ?_
 refine ai ?_
 refine eF (α:=(Nat)×(Str)×(RT)×Nat) [0,3] (fun ⟨j,s,s2,nx⟩=>(j<=(bg x st).1.toNat)/\(n<=nx)/\(s.length<=j)/\(bJ x st=jH x ((bg x st).1.toNat-j) s s2)/\True) (fun ⟨j,s,s2,nx⟩=>(bg x st).1.toNat-j) (fun ⟨j,s,s2,nx⟩=>[(4,.v (.string (bs s))),(5,.i j)]) (fun ⟨j,s,s2,nx⟩=>upd h rb (some ⟨258,[[.list false (x.map bD),.i (s2).1,.b (s2).2]]⟩)) (fun ⟨j,s,s2,nx⟩=>nx) (0,[],(bg x st).2,_) (hA:=⟨iv,iv,(by first|(simp)|(dsimp only;simp)),rfl,trivial⟩) (round:=?_)
 rintro⟨j,s,s2,nx⟩ ⟨hj,hn,hs,hv, -⟩
 simp only[X0,X3]
 have hb8:=(bg x st).1.toNat_lt
 refine oL Jl (fun c1=>?_) (fun c1=>?_)
 .
  have hk2:j<(bg x st).1.toNat/\s2.2=false:=by first|exact⟨om,c1.2⟩|(simp_all;done)
  refine ae ?_;refine ai ?_;refine aA Jl 2 (hct:=by exact yt x s2 rb _ _ hx (by simp only[go_sem])) (hk:=?_)
  rintro res h2 n2 ⟨rfl,rfl,a2⟩
  try dsimp only at a2
  have e6:=Xf (bg x s2).1;have ff:=qA @e6 ff;refine az Jl ?_ (hok:=by (try simp only[go_sem,ff]);all_goals (exact⟨by first|rfl|simp[isByte],by omega⟩))
  refine ah Jl ?_
  show ∃ _,_
  refine ak (j+1,s++[(bg x s2).1],(bg x s2).2,_) (h1:=⟨iv,iv,(by first|(simp;omega)|(dsimp only;simp;omega)),(by (try dsimp only);rw[hv,P7 hk2.1 hk2.2]),trivial⟩) (h5:=?_)
  first|exact mG _|(rw[kJ];done)|(rw[kJ];exact mG _)
 have hk2 : ¬ (j<(bg x st).1.toNat/\s2.2=false):=by first|(intro q;simp_all;done)|(intro q;rcases c1 with c1|c1;omega;rw[q.2] at c1;cases c1)
 refine aB ?_
 refine aa Jl ?_
 refine aO ?_
 exact bu (upd h rb (some ⟨258,[[.list false (x.map bD),.i (s2).1,.b (s2).2]]⟩)) (hr:=oS (k:=by rw[hv,P6 hk2];exact⟨rfl,rfl,om⟩))
theorem yl (x:Str) (st:RT) (rb:Nat) (h:H) (n:Nat) (hx:x.length<=1000000) (hb:h rb=some ⟨258,[[.list false (x.map bD),.i (st).1,.b (st).2]]⟩):RCt Tryz.prog 217 [.mptr rb 0 0] h n (fun d h' n'=>d = .i (bz x st).1/\h'=upd h rb (some ⟨258,[[.list false (x.map bD),.i ((bz x st).2).1,.b ((bz x st).2).2]]⟩)/\n<=n'):=by
 refine oP Tryz.func217 fun hnone ff=>?_
 unfold Tryz.f217
 have ff:=qA @hb ff
 refine oC Jl ?_
 refine ae ?_
 refine aa Jl ?_
 refine ai ?_
 refine eF (α:=(Nat)×(Nat)×(RT)×Nat) [0] (fun ⟨j,u,s2,nx⟩=>(j<=8)/\(n<=nx)/\(u<18446744073709551616)/\(jI x 8 0 st=jI x (8-j) u s2)/\True) (fun ⟨j,u,s2,nx⟩=>8-j) (fun ⟨j,u,s2,nx⟩=>[(3,.v (.int .u64 u)),(4,.i j)]) (fun ⟨j,u,s2,nx⟩=>upd h rb (some ⟨258,[[.list false (x.map bD),.i (s2).1,.b (s2).2]]⟩)) (fun ⟨j,u,s2,nx⟩=>nx) (0,0,st,_) (hA:=⟨iv,iv,(by first|(omega)|(dsimp only;omega)),rfl,trivial⟩) (round:=?_) (hhh:=by intro q;left;by_cases e1:q=rb<;>simp[upd,e1,hb])
 rintro⟨j,u,s2,nx⟩ ⟨hj,hn,hu,hv, -⟩
 simp only[X0,X3]
 refine oL Jl (fun c1=>?_) (fun c1=>?_)
 .
  have hk2:j<8:=by omega
  refine ae ?_;refine ai ?_;refine aA Jl 3 (hct:=by exact yt x s2 rb _ _ hx (by simp only[go_sem])) (hk:=?_)
  rintro res h2 n2 ⟨rfl,rfl,a2⟩
  try dsimp only at a2
  have e5:=Od (u:=u) (bg x s2).1;have e6:=Nn (bg x s2).1;have ff:=qB @e5 @e6 ff;refine az Jl ?_;refine ah Jl ?_
  show ∃ _,_
  refine ak (j+1,bG u (bg x s2).1,(bg x s2).2,_) (h1:=⟨iv,iv,(by first|(exact xM _ _)|(dsimp only;exact xM _ _)),(by first|(rw[hv,F8 hk2])|(dsimp only;rw[hv,F8 hk2])),trivial⟩) (h5:=?_)
  first|exact mG _|(rw[kJ];done)|(rw[kJ];exact mG _)
 have hk2:j=8:=by omega
 subst hk2
 refine aB ?_
 refine aa Jl ?_
 refine aO ?_
 exact bu (upd h rb (some ⟨258,[[.list false (x.map bD),.i (s2).1,.b (s2).2]]⟩)) (hr:=oS (k:=by unfold bz;rw[hv];exact⟨rfl,rfl,om⟩))
theorem Qg (x:Str) (hx:x.length<=1000000):PureCt Tryz.prog 179 [.list false (x.map bD)] (.tuple [.agg (readF x).1.d,.i (readF x).2]):=by
 refine oO Tryz.func179 fun ff=>?_
 unfold Tryz.f179
 refine oC Jl ?_
 refine ae (aA Jl 1 (hct:=by exact F7 x (0,false) 4 _ _ hx rfl) (hk:=?_))
 rintro res h2 n2 ⟨rfl,rfl,a1⟩
 try dsimp only at a1
 have p4:4<n2:=by omega
 have p0:0<n2:=by omega
 have ff:=qB @p4 @p0 ff
 refine az Jl ?_
 obtain⟨q,hq⟩:∃ q,q=n2+3:=⟨_,rfl⟩
 rw[<- hq]
 refine mW q 3 63 110 ev (by rfl) (by simp only[go_sem,ff]) ?_
 simp only[YM,YF]
 obtain⟨r0,hr0⟩:∃ r0,r0=(n2+5):=⟨_,rfl⟩
 rw[<- hr0]
 have ff:=qF (nH 4 q) (nH 4 r0) (nH q r0) (nH 0 q) (nH 0 r0) ff
 refine o5 [0,2,4,5] [(0,⟨63,[[.v (.string (bs [])),.i 0,.i 0,.list true []]]⟩),(4,⟨258,[[.list false (x.map bD),.i ((bJ x (0,false)).2).1,.b ((bJ x (0,false)).2).2]]⟩),(q,⟨63,[[.v (.string (bs ((bJ x (0,false)).1))),.i (0),.i (0),.mrow r0 0 0]]⟩),(r0,⟨110,[]⟩)] (by simp only[X9,Yx,go_sem,ff];exact rfl) (by first|(simp only[go_sem,ff];done)|(simp[go_sem,ff];done)) ?_
 refine ae (aA Jl 1 (hct:=by exact yl x (bJ x (0,false)).2 4 _ _ hx (by simp only[go_sem])) (hk:=?_))
 rintro res h2 n2 ⟨rfl,rfl,a2⟩
 try dsimp only at a2
 have p4:4<n2:=by omega
 have p0:0<n2:=by omega
 have pq:q<n2:=by omega
 have pr:r0<n2:=by omega
 have ff:=qB @pq @pr ff
 refine az Jl ?_
 refine ae (aA Jl 1 (hct:=by exact yl x (bz x (bJ x (0,false)).2).2 4 _ _ hx (by simp only[go_sem,ff])) (hk:=?_))
 rintro res h2 n2 ⟨rfl,rfl,a3⟩
 try dsimp only at a3
 have p4:4<n2:=by omega
 have p0:0<n2:=by omega
 have pq:q<n2:=by omega
 have pr:r0<n2:=by omega
 refine az Jl ?_
 have ff:=qA @AP ff
 refine ae (aA Jl 1 (hct:=by exact yt x (bz x (bz x (bJ x (0,false)).2).2).2 4 _ _ hx (by simp only[go_sem,ff])) (hk:=?_))
 rintro res h2 n2 ⟨rfl,rfl,a4⟩
 try dsimp only at a4
 have p4:4<n2:=by omega
 have p0:0<n2:=by omega
 have pq:q<n2:=by omega
 have pr:r0<n2:=by omega
 refine az Jl ?_
 refine ae ?_
 refine aa Jl ?_
 refine ai ?_
 refine lp (α:=(Nat)×(List Dat)×(Nat)×(RT)×Nat) [0,2,4,5,6] (fun ⟨k,out,r,st,nx⟩=>(k<=(bg x (bz x (bz x (bJ x (0,false)).2).2).2).1.toNat)/\(r<nx)/\(r≠0/\r≠4/\r≠q)/\(q<nx)/\(out.length<=k)/\(jd x (bg x (bz x (bz x (bJ x (0,false)).2).2).2).1.toNat [] (bg x (bz x (bz x (bJ x (0,false)).2).2).2).2=jd x ((bg x (bz x (bz x (bJ x (0,false)).2).2).2).1.toNat-k) out st)/\True) (fun ⟨k,out,r,st,nx⟩=>(bg x (bz x (bz x (bJ x (0,false)).2).2).2).1.toNat-k) (fun ⟨k,out,r,st,nx⟩=>[(7,.i k)]) (fun ⟨k,out,r,st,nx⟩=>[(0,⟨63,[[.v (.string (bs [])),.i 0,.i 0,.list true []]]⟩),(4,⟨258,[[.list false (x.map bD),.i (st).1,.b (st).2]]⟩),(q,⟨63,[[.v (.string (bs ((bJ x (0,false)).1))),.i ((bz x (bJ x (0,false)).2).1),.i ((bz x (bz x (bJ x (0,false)).2).2).1),.mrow r 0 out.length]]⟩),(r,⟨110,out.map Dat.d⟩)]) (fun ⟨k,out,r,st,nx⟩=>nx) (0,[],r0,(bg x (bz x (bz x (bJ x (0,false)).2).2).2).2,_) (hA:=⟨iv,iv,iv,iv,(by first|(simp)|(dsimp only;simp)),rfl,trivial⟩) (round:=?_)
 rintro⟨k,out,r,st,nx⟩ ⟨hk,hr,hrn,hqn,ho,hv, -⟩
 simp only[X0,X3]
 have p4:4<nx:=by omega
 have p0:0<nx:=by omega
 have hb8:=(bg x (bz x (bz x (bJ x (0,false)).2).2).2).1.toNat_lt
 have ff:=qH @hr @hqn @p4 @p0 (nH 0 r) (nH 4 r) (nH q r) ff
 refine oL Jl (fun c1=>?_) (fun c1=>?_)
 .
  have hk2:k<(bg x (bz x (bz x (bJ x (0,false)).2).2).2).1.toNat/\st.2=false:=by first|exact⟨om,c1.2⟩|(simp_all;done)
  refine ae ?_;refine ai ?_;refine ae (aA Jl 1 (hct:=by exact F7 x st 4 _ _ hx (by simp only[go_sem,ff])) (hk:=?_))
  rintro res h2 n2 ⟨rfl,rfl,a5⟩
  try dsimp only at a5
  have p4:4<n2:=by omega
  have p0:0<n2:=by omega
  have pq:q<n2:=by omega
  have pr:r<n2:=by omega
  have ff:=qE @p4 @p0 @pq @pr ff;refine az Jl ?_;obtain⟨w,hw⟩:∃ w,w=n2+3:=⟨_,rfl⟩;simp only[<- hw];have ff:=qE (nH r w) (nH q w) (nH 4 w) (nH 0 w) ff;refine o5 [0,2,4,5,6,7,8] [(0,⟨63,[[.v (.string (bs [])),.i 0,.i 0,.list true []]]⟩),(4,⟨258,[[.list false (x.map bD),.i ((bJ x st).2).1,.b ((bJ x st).2).2]]⟩),(q,⟨63,[[.v (.string (bs ((bJ x (0,false)).1))),.i ((bz x (bJ x (0,false)).2).1),.i ((bz x (bz x (bJ x (0,false)).2).2).1),.mrow r 0 out.length]]⟩),(r,⟨110,out.map Dat.d⟩),(w,⟨110,[[.v (.string (bs (bJ x st).1)),.i 0,.i 0]]⟩)] (by simp only[X9,Yx,go_sem,ff];exact rfl) (by first|(simp only[go_sem,ff];done)|(simp[go_sem,ff];done)) ?_
  refine ae (aA Jl 1 (hct:=by exact yl x (bJ x st).2 4 _ _ hx (by simp only[go_sem,ff])) (hk:=?_))
  rintro res h2 n2 ⟨rfl,rfl,a6⟩
  try dsimp only at a6
  have pw:w<n2:=by omega
  have ff:=qA @pw ff;refine az Jl ?_;refine ae (aA Jl 1 (hct:=by exact yl x (bz x (bJ x st).2).2 4 _ _ hx (by simp only[go_sem,ff])) (hk:=?_))
  rintro res h2 n2 ⟨rfl,rfl,a7⟩
  try dsimp only at a7
  have pw:w<n2:=by omega
  have p4:4<n2:=by omega
  have p0:0<n2:=by omega
  have pq:q<n2:=by omega
  have pr:r<n2:=by omega
  have ff:=qF @pw @p4 @p0 @pq @pr ff;refine az Jl ?_;refine ah Jl ?_;refine ah Jl ?_
  show ∃ _,_
  exact ak (k+1,out++[(ic x st).1],(n2+8),(ic x st).2,_) (h1:=⟨iv,iv,iv,iv,(by first|(simp;omega)|(dsimp only;simp;omega)),(by (try dsimp only);rw[hv,QI hk2.1 hk2.2]),trivial⟩) (h3:=by (try simp only[go_sem,ff]);all_goals (first|done|(simp;done)|(simp[Dat.d,ic];done)|((repeat' (with_reducible apply And.intro))<;>first|rfl|(left;simp;done)|(simp[Dat.d,ic];done)))) (h4:=by (try simp only[go_sem,ff]);all_goals (first|done|(simp;done)|(simp[Dat.d,ic];done)|((repeat' (with_reducible apply And.intro))<;>first|rfl|(left;simp;done)|(simp[Dat.d,ic];done)))) (h5:=by (try simp only[go_sem,ff]);all_goals (first|done|(simp;done)|(simp[Dat.d,ic];done)|((repeat' (with_reducible apply And.intro))<;>first|rfl|(left;simp;done)|(simp[Dat.d,ic];done))))
 have hk2 : ¬ (k<(bg x (bz x (bz x (bJ x (0,false)).2).2).2).1.toNat/\st.2=false):=by first|(intro q;simp_all;done)|(intro q;rcases c1 with c1|c1;omega;rw[q.2] at c1;cases c1)
 have hset:jc x (0,false)=(⟨(bJ x (0,false)).1,(bz x (bJ x (0,false)).2).1,(bz x (bz x (bJ x (0,false)).2).2).1,out⟩,st):=by unfold jc;simp only;rw[hv,QH hk2]
 refine aB ?_
 refine ae ?_
 refine lZ q 3 r (rows:=out.map Dat.d) (off:=0) (len:=out.length) ev (by rfl) ev om (by simp) ui ?_
 simp only[X8,lI,YM,YF]
 refine aa Jl ?_ (hok:=oH (rz ⟨_,_,_,out⟩))
 refine cd (fun c9=>?_) (fun c9=>?_)
 .
  refine aa Jl ?_;exact fo 2 (k:=by rw[QF hset c9];try rfl)
 refine dw_skip ?_
 refine aa Jl ?_
 exact fo 2 (k:=by rw[QE hset c9];try rfl)
end Go.Proofs.YtjngdcldglkolaaGreatDoor
namespace Go.Proofs.YtjngdcldglkolaaGreatDoor
open Go.DL Go.Str Go.Rec Go.Cmp Go.Zon Go.Jn
set_option maxRecDepth 10000
variable [Glob Tryz.prog] [Told]
def fK (h:H) (W:Nat):Option Nat:=match h W with
 | some ⟨_,[.mrow r _ _::_]⟩=>some r
 | _=>none
def BufG (T:TypeId) (h:H) (W nx:Nat) (l:Str) (m:Nat):Prop:=W<nx/\((l.length+m=0 /\ ∃ x:Int,h W=some ⟨T,[[.list true [],.i 0,.v (.int .i8 x)]]⟩)\/(0<l.length+m /\ ∃ (r:Nat) (x:Int),r≠W/\r<nx/\h r=some ⟨5,l.map bD⟩/\h W=some ⟨T,[[.mrow r 0 (l.length+m),.i 0,.v (.int .i8 x)]]⟩))
def BStep (h h':H) (W n n':Nat):Prop:=n<=n'/\(∀ q,q<n->q≠W->fK h W≠some q->h' q=h q)/\(∀ q,q<n->q≠W->fK h W≠some q->fK h' W≠some q)
theorem BStep.trans {h h' h'':H}{W n n' n'':Nat}(a:BStep h h' W n n') (b:BStep h' h'' W n' n''):BStep h h'' W n n'' :=
 ⟨Yb a.1 b.1,fun q h1 h2 h3=>(b.2.1 q (YA h1 a.1) h2 (a.2.2 q h1 h2 h3)).trans (a.2.1 q h1 h2 h3),fun q h1 h2 h3=>b.2.2 q (YA h1 a.1) h2 (a.2.2 q h1 h2 h3)⟩
theorem BStep.refl {h:H}{W n n':Nat}(hn:n<=n'):BStep h h W n n':=⟨hn,fun _ _ _ _=>rfl,fun _ _ _ h=>h⟩
theorem Gi {h:H}{W T:Nat}{x:Int}(e:h W=some ⟨T,[[.list true [],.i 0,.v (.int .i8 x)]]⟩):fK h W=none:=by unfold fK;rw[e]
theorem fC {h:H}{W T r k:Nat}{x:Int}(e:h W=some ⟨T,[[.mrow r 0 k,.i 0,.v (.int .i8 x)]]⟩):fK h W=some r:=by unfold fK;rw[e]
theorem RCtE.rct {P:Program}[Glob P] {f:FuncId}{args:List D}{h:H}{n:Nat}{R:D->H->Nat->Env->Prop}(k:RCtE P f args h n Env.tt R):RCt P f args h n (fun d h' n'=>∃ E',R d h' n' E') :=
 ⟨k.1,fun w g vs h1 h2 h3=>(k.2 w g vs h1 h2 trivial h3).mono fun _ _ ⟨v,g',res,h',n',E',q1,q2,q3,q4,q5,q6,q7⟩=>⟨v,g',res,h',n',⟨E',q1⟩,q2,q3,q4,q5,q6⟩⟩
theorem Xx (T:TypeId) (l:Str) (h:H) (n W:Nat) (hB:BufG T h W n l 0) (hl:l.length<=1000000000000):RCt Tryz.prog 183 [.mptr W 0 0] h n (fun d h' n'=>d = .i l.length/\BStep h h' W n n'/\BufG T h' W n' l 0):=by
 refine oP Tryz.func183 fun hnone ff=>?_
 unfold Tryz.f183
 refine aa Jl ?_
 obtain⟨hWn,⟨e0,x,hW⟩|⟨e0,r,x,hrW,hrn,hr,hW⟩⟩:=hB
 .
  obtain rfl:l=[]:=X5 om;have ff:=qB @hW (nG W n) ff;refine aa Jl ?_;refine aO ?_;exact bu (_) (hh:=fun _=>.inl rfl) (hr:=oS (k:=by exact⟨rfl,BStep.refl om,om,.inl ⟨rfl,x,hW⟩⟩))
 rw[Zu] at hW
 have hWr:(W=r)=False:=Y6 (fun e=>hrW e.symm)
 have hrW2:(r=W)=False:=Y6 hrW
 have ff:=qG @hW @hr @hWr @hrW2 (nG W n) (nG r n) ff
 refine aa Jl ?_
 refine aO ?_
 exact bu (_) (hh:=fun _=>.inl rfl) (hr:=oS (k:=by exact⟨by simp,BStep.refl om,om,.inr ⟨e0,r,x,hrW,om,hr,hW⟩⟩))
theorem Xw:bY Tryz.prog 130=true:=by kernel_rfl
theorem xH (T:TypeId) (l:Str) (m:Nat) (h:H) (n W:Nat) (hB:BufG T h W n l 0) (hl:l.length+m<=1000000000000):RCtE Tryz.prog 130 [.mptr W 0 0,.i m] h n (Env.tt) (fun d h' n' E'=>∃ ok:Bool,∃ a:Int,d = .tuple [.i a,.b ok]/\BStep h h' W n n'/\(ok=true->a=l.length/\BufG T h' W n' l m)/\(ok=false->0<m/\BufG T h' W n' l 0 /\ ∀ r,fK h' W=some r -> ∀ g w,E'.p g w->(Env.capLt r (l.length+m)).p g w)):=by
 refine QN rfl Tryz.func130 rfl Xw (by simp[Tryz.f130]) (fun hnone=>?_)
 unfold Tryz.f130
 have ff:=True.intro
 refine aa Jl ?_
 refine ae ?_
 obtain⟨hWn,⟨e0,x,hW⟩|⟨e0,r,x,hrW,hrn,hr,hW⟩⟩:=hB
 .
  obtain rfl:l=[]:=X5 om;have ff:=qB @hW (nG W n) ff;refine aa Jl ?_;refine bf ?_;refine Dh Jl 5 (e:=5) ?_;refine aN Jl ?_
  try simp only[aF]
  refine cd (fun c1=>?_) (fun c1=>?_)
  .
   obtain rfl:m=0:=by omega
   refine oC Jl ?_;refine aO ?_;exact zS (_) (hh:=fun _=>.inl rfl) (Env.tt) (hE:=fun _ _ _ _=>trivial) (hr:=oS (k:=by exact⟨_,_,rfl,⟨om,fun q q1 q2 q3=>by simp only[upd];repeat rw[XZ (by omega)],fun q q1 q2 q3=>by rw[Gi (x:=x) (T:=T) (by simp[upd])];simp⟩,fun _=>⟨rfl,om,.inl ⟨rfl,x,by simp[upd]⟩⟩,fun q=>(by cases q)⟩))
  refine dw_skip ?_;refine aa Jl ?_;refine aO ?_;exact zS (_) (hh:=fun _=>.inl rfl) (Env.tt) (hE:=fun _ _ _ _=>trivial) (hr:=oS (k:=by exact⟨_,_,rfl,BStep.refl (by omega),fun q=>(by cases q),fun _=>⟨by have : ¬ (m:Int)<=0:=(by simpa using c1);omega,⟨om,.inl ⟨rfl,x,hW⟩⟩,fun q hq=>by rw[Gi hW] at hq;cases hq⟩⟩))
 rw[Zu] at hW
 have hWr:(W=r)=False:=Y6 (fun e=>hrW e.symm)
 have hrW2:(r=W)=False:=Y6 hrW
 have ff:=qG @hW @hr @hWr @hrW2 (nG W n) (nG r n) ff
 refine aa Jl ?_
 refine bf ?_
 refine J5 Jl 5 (fun c hc1 hc2=>?_)
 have hc3:(c:Int)<=9223372036854775807:=by have:=hc2;unfold maxLen at this;omega
 refine aN Jl ?_
 try simp only[aF]
 refine cd (fun c1=>?_) (fun c1=>?_)
 .
  refine bf ?_;refine JR Jl 8 (r:=r) (off:=0) (c:=c) (l.length+m) rfl (by have:(m:Int)<=(c:Int)-(l.length:Int):=(by simpa using c1);omega) ?_
  refine aN Jl ?_
  try simp only[aF]
  refine aa Jl ?_;refine aO ?_;exact zS (_) (hh:=fun _=>.inl rfl) (Env.tt) (hE:=fun _ _ _ _=>trivial) (hr:=oS (k:=by exact⟨_,_,rfl,⟨om,fun q q1 q2 q3=>by simp only[upd];repeat rw[XZ (by omega)],fun q q1 q2 q3=>by rw[fC (x:=x) (T:=T) (k:=l.length+m) (r:=r) (by simp[upd])];rw[fC hW] at q3;exact q3⟩,fun _=>⟨by simp,om,.inr ⟨om,r,x,hrW,om,by simp only[upd];rw[XZ hrW];exact hr,by simp[upd]⟩⟩,fun q=>(by cases q)⟩))
 refine dw_skip ?_
 refine aa Jl ?_
 refine aO ?_
 exact zS (_) (hh:=fun _=>.inl rfl) (Env.capLt r (l.length+m)) (hE:=fun g w w2 q=>⟨q.2.1,fun blk c' sz he=>by have h9:=q.2.2 blk c' sz he;have : ¬ ((m:Int)<=(c:Int)-(l.length:Int)):=(by simpa using c1);omega⟩) (hr:=oS (k:=by exact⟨_,_,rfl,BStep.refl (by omega),fun q=>(by cases q),fun _=>⟨by have : ¬ ((m:Int)<=(c:Int)-(l.length:Int)):=(by simpa using c1);omega,⟨om,.inr ⟨om,r,x,hrW,om,hr,hW⟩⟩,fun q hq g w hp=>by rw[fC hW] at hq;cases hq;exact hp⟩⟩))
end Go.Proofs.YtjngdcldglkolaaGreatDoor
namespace Go.Proofs.YtjngdcldglkolaaGreatDoor
open Go.DL Go.Str Go.Rec Go.Cmp Go.Zon Go.Jn
set_option maxRecDepth 10000
variable [Glob Tryz.prog] [Told]
theorem Xm:bY Tryz.prog 220=true:=by kernel_rfl
theorem C8 (h:H) (n:Nat):sU Tryz.prog 220 [] h n .returning .returning (fun h' n'=>(∀ q,q<n->h' q=h q)/\n<=n'):=by
 refine wQ (d:=.v .nilIface) (v:=.nilIface) Tryz.func220 rfl Xm (by simp[Tryz.f220]) (bN rfl) rfl rfl (by decide) (.inl ⟨rfl,rfl,rfl⟩) (fun _ _=>.v _) (fun hnone=>?_)
 have ff:=True.intro
 refine UM Jl 1 true ?_ (ht:=Tryz.underlying20)
 refine aN Jl ?_
 try simp only[aF]
 refine cd (fun c1=>?_) (fun c1=>?_)
 .
  simp at c1
 refine dw_skip ?_
 refine⟨(by trivial),h,_,?_,Nat.le_refl _,fun q hq=>rfl,by dsimp only;omega⟩
 intro r
 dsimp only
 first
 | exact .inl rfl
 | exact (Decidable.em (r<n)).elim (fun e=>by left;simp only[upd];repeat (first|rfl|rw[XZ (by omega)])) fun e=>by right;exact hnone r om
theorem BufG.cell {T:TypeId}{h:H}{W nx:Nat}{l:Str}{m:Nat}(hB:BufG T h W nx l m):∃ (d:D) (x:Int),d.one=true/\h W=some ⟨T,[[d,.i 0,.v (.int .i8 x)]]⟩:=by
 obtain⟨_,⟨_,x,hW⟩|⟨_,r,x,h1,h2,_,hW⟩⟩:=hB
 .
  exact⟨_,x,rfl,hW⟩
 exact⟨_,x,rfl,hW⟩
theorem BufG.last {T:TypeId}{h:H}{W nx nx':Nat}{l:Str}{m:Nat}{d:D}{x:Int}(hB:BufG T h W nx l m) (hW:h W=some ⟨T,[[d,.i 0,.v (.int .i8 x)]]⟩) (y:Int) (hn:nx<=nx'):BufG T (upd h W (some ⟨T,[[d,.i 0,.v (.int .i8 y)]]⟩)) W nx' l m:=by
 obtain⟨h0,⟨e,x',hW'⟩|⟨e,r,x',h1,h2,h3,hW'⟩⟩:=hB
 .
  rw[hW] at hW'
  cases hW'
  exact⟨om,.inl ⟨e,y,upd_same _ _ _⟩⟩
 rw[hW] at hW'
 cases hW'
 exact⟨om,.inr ⟨e,r,y,h1,om,by rw[upd_ne _ _ _ _ h1];exact h3,upd_same _ _ _⟩⟩
theorem BStep.last {T:TypeId}{h:H}{W n n':Nat}{d:D}{x:Int}(hW:h W=some ⟨T,[[d,.i 0,.v (.int .i8 x)]]⟩) (y:Int) (hn:n<=n'):BStep h (upd h W (some ⟨T,[[d,.i 0,.v (.int .i8 y)]]⟩)) W n n':=by
 refine⟨hn,fun q _ h2 _=>upd_ne _ _ _ _ h2,fun q _ _ h3=>?_⟩
 have:fK (upd h W (some ⟨T,[[d,.i 0,.v (.int .i8 y)]]⟩)) W=fK h W:=by
  unfold fK;rw[upd_same,hW]
  cases d<;>rfl
 rw[this]
 exact h3
theorem BStep.more {h h2 h3:H}{W n n2 n3:Nat}(a:BStep h h2 W n n2) (hn:n2<=n3) (k : ∀ q,q<n2->q≠W->fK h2 W≠some q->h3 q=h2 q) (k2 : ∀ q,fK h3 W=some q->fK h2 W=some q\/n2<=q):BStep h h3 W n n3 :=
 a.trans ⟨hn,k,fun q h1 _ h3 e=>by rcases k2 q e with h4|h4;exact h3 h4;omega⟩
theorem BufG.cases3 {T:TypeId}{h:H}{W nx m:Nat}{l:Str}(hB:BufG T h W nx l m):(l=[]/\m=0 /\ ∃ x:Int,h W=some ⟨T,[[.list true [],.i 0,.v (.int .i8 x)]]⟩)\/(0<l.length/\m=0 /\ ∃ (r:Nat) (x:Int),r≠W/\r<nx/\h r=some ⟨5,l.map bD⟩/\h W=some ⟨T,[[.mrow r 0 (l.length+0),.i 0,.v (.int .i8 x)]]⟩)\/(0<m /\ ∃ (r:Nat) (x:Int),r≠W/\r<nx/\h r=some ⟨5,l.map bD⟩/\h W=some ⟨T,[[.mrow r 0 (l.length+m),.i 0,.v (.int .i8 x)]]⟩):=by
 obtain⟨_,⟨e,x,hW⟩|⟨e,r,x,h1,h2,h3,hW⟩⟩:=hB
 .
  exact .inl ⟨X5 om,om,x,hW⟩
 rcases Nat.eq_zero_or_pos m with h0|h0
 .
  subst h0;exact .inr (.inl ⟨om,rfl,r,x,h1,h2,h3,hW⟩)
 exact .inr (.inr ⟨h0,r,x,h1,h2,h3,hW⟩)
theorem Gu {m k:Nat}{x:List D}:(List.replicate m x).drop k=List.replicate (m-k) x:=by simp
theorem Ml:bY Tryz.prog 185=true:=by kernel_rfl
theorem UG (m:Nat) (h:H) (n:Nat) (h0:0<m) (hl:m<=1000000000000):RCt Tryz.prog 185 [.list true [],.i m] h n (fun d h' n'=>∃ r',d = .mrow r' 0 0/\h' r'=some ⟨5,List.replicate m [.v (.int .u8 0)]⟩/\n<=r'/\r'<n' /\ ∀ q,q<n->h' q=h q):=by
 have ff:=True.intro
 refine BH (C:=Jl) 0 Tryz.func185 rfl Ml (by simp[Tryz.f185]) (by intro o ho;simp only[YL,ZK,or_false] at ho;rcases ho with rfl<;>rfl) ev (by (try simp only[go_sem,ff]);all_goals exact ok0) (bN rfl) rfl rfl (by intro o ho;simp at ho) (by simp only[Ya,Yj,go_sem,ff];exact rfl) (by (try simp only[go_sem,ff]);all_goals exact ok0) (by (try simp only[go_sem,ff]);all_goals (first|done|rfl|decide|simp)) ev (fun hnone=>?_)
 unfold Tryz.f185
 refine aN Jl ?_
 try simp only[aF]
 have e00:((0:Nat):Int)+(m:Int)=m:=by omega
 have ff:=qA @e00 ff
 refine aa Jl ?_
 refine ae ?_
 refine bf ?_
 refine Dh Jl 2 (e:=5) ?_
 refine aN Jl ?_
 try simp only[aF]
 refine cd (fun c1=>?_) (fun c1=>?_) (hp:=rfl)
 .
  exfalso;simp at c1;omega
 refine dw_skip ?_
 refine bf ?_
 refine Db Jl 1 (e:=5) (kk:=.i64) m h0 (by rw[show (Tryz.prog).bytesOf 5=1 from rfl];omega) (by omega) ?_
 refine aN Jl ?_
 try simp only[aF]
 refine bf ?_
 refine wF Jl 2 (e:=5) ?_
 refine aN Jl ?_
 try simp only[aF]
 refine aa Jl ?_
 refine aO ?_
 refine⟨_,_,_,rfl,rfl,C8 _ _,fun h1 n1 ⟨w1,w2⟩=>?_⟩
 try dsimp only at w1 w2
 exact⟨by simp only[go_sem,ff],h1,n1,fun _=>.inl rfl,XX _,_,by simp only[go_sem,ff];first|done|rfl,by rw[w1 _ (by omega)];simp only[upd];repeat (first|rfl|rw[XZ (by omega)]|rw[X4 rfl]),om,om,fun q hq=>by rw[w1 q (by omega)];simp only[upd];repeat (first|rfl|rw[XZ (by omega)]|rw[X4 rfl])⟩
theorem UF (l:Str) (m:Nat) (h:H) (n r:Nat) (hr:h r=some ⟨5,l.map bD⟩) (h0:0<l.length) (h1:0<m) (hl:l.length+m<=1000000000000):RCtE Tryz.prog 185 [.mrow r 0 l.length,.i m] h n (Env.capLt r (l.length+m)) (fun d h' n' E'=>E'=Env.tt/\(fun d h' n'=>∃ r' k,d = .mrow r' 0 l.length/\h' r'=some ⟨5,l.map bD++List.replicate k [.v (.int .u8 0)]⟩/\m<=k/\n<=r'/\r'<n' /\ ∀ q,q<n->h' q=h q) d h' n'):=by
 have ff:=True.intro
 refine QM (hEx:=by rfl) (C:=Jl) 0 Tryz.func185 rfl Ml (by simp[Tryz.f185]) (by intro o ho;simp only[YL,ZK,or_false] at ho;rcases ho with rfl<;>rfl) ev (by (try simp only[go_sem,ff]);all_goals exact ok0) (bN rfl) rfl rfl (by intro o ho;simp at ho) (by simp only[Ya,Yj,go_sem,ff];exact rfl) (by (try simp only[go_sem,ff]);all_goals exact ok0) (by (try simp only[go_sem,ff]);all_goals (first|done|rfl|decide|simp)) ev (fun hnone=>?_)
 unfold Tryz.f185
 refine aN Jl ?_
 try simp only[aF]
 have hrn:r<n:=by rcases Zd r n with q|q;exact q;rw[hnone r q] at hr;cases hr
 have ff:=qB @hr (nG r n) ff
 refine aa Jl ?_
 refine ae ?_
 refine bf ?_
 refine U1 Jl 2 (r:=r) (l.length+m) (fun _ _ q=>q) (fun c hc1 hc2=>?_)
 try dsimp only at hc2
 refine aN Jl ?_
 try simp only[aF]
 refine cd (fun c1=>?_) (fun c1=>?_)
 .
  refine kL ?_;refine U0 Jl 1 (r:=r) (off:=0) rfl ?_;refine aN Jl ?_
  try simp only[aF]
  refine bf ?_;refine Db Jl 1 (e:=5) (kk:=.i64) (2*c) (by omega) (by rw[show (Tryz.prog).bytesOf 5=1 from rfl];omega) (by omega) ?_
  refine aN Jl ?_
  try simp only[aF]
  refine bf ?_;refine Dg Jl 2 l.length ?_;refine aN Jl ?_
  try simp only[aF]
  refine aa Jl ?_;refine aO ?_;refine⟨_,_,_,rfl,rfl,C8 _ _,fun h1 n1 ⟨w1,w2⟩=>?_⟩
  try dsimp only at w1 w2
  exact⟨by simp only[go_sem,ff],h1,n1,fun _=>.inl rfl,XX _,_,2*c-l.length,by simp only[go_sem,ff];first|done|rfl,by rw[w1 _ (by omega)];simp[upd,Gu],om,om,om,fun q hq=>by rw[w1 q (by omega)];simp only[upd];repeat (first|rfl|rw[XZ (by omega)]|rw[X4 rfl])⟩
 refine dw_skip ?_
 refine bf ?_
 refine Db Jl 1 (e:=5) (kk:=.i64) (l.length+m) (by omega) (by rw[show (Tryz.prog).bytesOf 5=1 from rfl];omega) (by omega) ?_
 refine aN Jl ?_
 try simp only[aF]
 refine bf ?_
 refine Dg Jl 2 l.length ?_
 refine aN Jl ?_
 try simp only[aF]
 refine aa Jl ?_
 refine aO ?_
 refine⟨_,_,_,rfl,rfl,C8 _ _,fun h1 n1 ⟨w1,w2⟩=>?_⟩
 try dsimp only at w1 w2
 exact⟨by simp only[go_sem,ff],h1,n1,fun _=>.inl rfl,XX _,_,m,by simp only[go_sem,ff];first|done|rfl,by rw[w1 _ (by omega)];simp[upd,Gu],om,om,om,fun q hq=>by rw[w1 q (by omega)];simp only[upd];repeat (first|rfl|rw[XZ (by omega)]|rw[X4 rfl])⟩
end Go.Proofs.YtjngdcldglkolaaGreatDoor
namespace Go.Proofs.YtjngdcldglkolaaGreatDoor
open Go.DL Go.Str Go.Rec Go.Cmp Go.Zon Go.Jn
set_option maxRecDepth 10000
variable [Glob Tryz.prog] [Told]
theorem BufG.mono {T:TypeId}{h:H}{W nx nx':Nat}{l:Str}{m:Nat}(hB:BufG T h W nx l m) (hn:nx<=nx'):BufG T h W nx' l m:=by
 obtain⟨h0,h1|⟨e,r,x,h1,h2,h3,h4⟩⟩:=hB
 .
  exact⟨om,.inl h1⟩
 exact⟨om,.inr ⟨e,r,x,h1,om,h3,h4⟩⟩
theorem BufG.mk {T:TypeId}{h:H}{W nx r k:Nat}{l:Str}{m:Nat}{x:Int}(hW:h W=some ⟨T,[[.mrow r 0 k,.i 0,.v (.int .i8 x)]]⟩) (hr:h r=some ⟨5,l.map bD⟩) (hk:k=l.length+m) (h0:0<l.length+m) (h1:r≠W) (h2:r<nx) (h3:W<nx):BufG T h W nx l m:=by
 subst hk
 exact⟨h3,.inr ⟨h0,r,x,h1,h2,hr,hW⟩⟩
theorem BStep.down {h h':H}{W n m n':Nat}(a:BStep h h' W m n') (hn:n<=m):BStep h h' W n n':=⟨Yb hn a.1,fun q h1=>a.2.1 q (YA h1 hn),fun q h1=>a.2.2 q (YA h1 hn)⟩
theorem BStep.up {h h':H}{W n n' n2:Nat}(a:BStep h h' W n n') (hn:n'<=n2):BStep h h' W n n2:=⟨Yb a.1 hn,a.2.1,a.2.2⟩
theorem BStep.row {T:TypeId}{h h2 h3:H}{W n n2 n3 r k:Nat}{x:Int}(hW:h3 W=some ⟨T,[[.mrow r 0 k,.i 0,.v (.int .i8 x)]]⟩) (a:BStep h h2 W n n2) (hn:n2<=n3) (hk : ∀ q,q<n2->q≠W->fK h2 W≠some q->h3 q=h2 q) (hr:fK h2 W=some r\/n2<=r):BStep h h3 W n n3 :=
 a.more hn hk fun q e=>by rw[fC hW] at e;cases e;exact hr
theorem Da (T:TypeId) (l:Str) (m:Nat) (h:H) (n W:Nat) (hB:BufG T h W n l 0) (hl:l.length+m<=1000000000000):RCt Tryz.prog 131 [.mptr W 0 0,.i m] h n (fun d h' n'=>d = .i l.length/\BStep h h' W n n'/\BufG T h' W n' l m):=by
 refine oP Tryz.func131 fun hnone ff=>?_
 unfold Tryz.f131
 refine aa Jl ?_
 refine ae (aA Jl 1 (hct:=by exact Xx T l _ _ W (hB.mono (by dsimp only;omega)) om) (hk:=?_))
 rintro res h2 n2 ⟨rfl,hst2,hB2⟩
 try dsimp only at hst2 hB2
 replace hst2:=hst2.down (show n<=_ by omega)
 obtain⟨d0,x0,hd1,hW2⟩:=hB2.cell
 have hWn2:=hB2.1
 have ff:=qD @hW2 @hd1 (nG W n2) ff
 refine az Jl ?_
 refine oK Jl (fun c1=>?_) (fun c1=>?_) (hp:=rfl)
 .
  exfalso;simp at c1
 refine ae ?_
 refine bf ?_
 refine PQ (C:=Jl) 2 (R:=_) om (bN rfl) rfl rfl (by simp only[List.drop_succ_cons,List.drop_zero,List.take_succ_cons,List.take_zero,S.put,Nat.sub_self,Nat.reduceSub,go_sem,ff];first|done|exact rfl) ?_ ?_ ev (by simp only[go_sem,ff]) ev (by exact xH T l m _ _ W (hB2.mono (by dsimp only;omega)) hl) (by exact fun _ _ _=>trivial) ?_
 .
  try simp only[go_sem,ff]
  all_goals (exact ok0)
 .
  try simp only[go_sem,ff]
  all_goals (first|done|rfl|decide|simp)
 rintro res h3 n3 E3 ⟨ok,a,rfl,hst3,hT,hF⟩
 try dsimp only at hst3 hT hF
 refine aN Jl ?_
 try simp only[aF]
 refine aa Jl ?_
 refine cd (fun c3=>?_) (fun c3=>?_) (hp:=rfl) (hq:=rfl)
 .
  have hT9:=hT c3;refine aa Jl ?_;refine aO ?_;exact bu (_) (hh:=fun _=>.inl rfl) (hr:=oS (k:=by exact⟨by rw[hT9.1],(hst2.trans (hst3.down (by omega))).up (by omega),hT9.2.mono (by omega)⟩))
 obtain⟨hm0,hB3,hcap⟩:=hF c3
 refine dw_skip ?_
 refine ae ?_
 have hB3k:=hB3
 obtain⟨hWn3,⟨e0,x3,hW3⟩|⟨e0,r,x3,hrW,hrn,hr,hW3⟩⟩:=hB3
 .
  obtain rfl:l=[]:=X5 om;have e00:((0:Nat):Int)+(m:Int)=m:=by omega
  have ff:=qE @hW3 @e00 @Int.zero_add (nG W n3) ff;refine bf ?_;refine UZ Jl 4 (e:=5) (fun y hy=>?_)
  refine aN Jl ?_
  try simp only[aF]
  refine cd (fun c4=>?_) (fun c4=>?_) (hp:=rfl)
  .
   have hm64:m<=64:=by simp at c4;omega
   refine bf ?_;refine gmkC Jl 2 (e:=5) m 64 hm0 hm64 (by omega) (by rw[show (Tryz.prog).bytesOf 5=1 from rfl];omega) ?_
   refine aN Jl ?_
   try simp only[aF]
   refine DC (r:=(n3+20)) 0 ev ?_;refine aa Jl ?_;refine aO ?_;exact bu (_) (hh:=fun _=>.inl rfl) (hr:=oS (k:=by first|exact⟨rfl,BStep.row (T:=T) ev (hst2.trans (hst3.down (by omega))) (by omega) (fun q q1 q2 q3=>by simp only[upd];repeat (first|rfl|rw[XZ (by omega)])) (.inr (by omega)),BufG.mk ev (by simp[upd]) (by simp) (by simp;omega) (by omega) (by omega) (by omega)⟩|exact⟨BStep.row (T:=T) ev (hst2.trans (hst3.down (by omega))) (by omega) (fun q q1 q2 q3=>by simp only[upd];repeat (first|rfl|rw[XZ (by omega)])) (.inr (by omega)),BufG.mk ev (by simp[upd]) (by simp) (by simp;omega) (by omega) (by omega) (by omega)⟩))
  refine dw_skip ?_;refine bf ?_;refine Dh Jl 4 (e:=5) ?_;refine aN Jl ?_
  try simp only[aF]
  refine ae ?_;refine aa Jl ?_;refine cd (fun c5=>?_) (fun c5=>?_) (hp:=rfl)
  .
   exfalso;simp at c5;omega
  refine aa Jl ?_;refine cd (fun c6=>?_) (fun c6=>?_) (hp:=rfl)
  .
   exfalso;simp at c6;omega
  refine K4 Jl 16 19 [] (hE:=fun _ _ _=>trivial) (hct:=by exact (UG m _ _ hm0 om).ie) (hkeep:=?_) (hk:=?_)
  .
   intro res h2 n2 _ q hq;cases hq
  rintro res h4 n4 ⟨r4,rfl,hr4,hn4,hr4n,hkeep⟩
  try dsimp only at hn4 hkeep
  have hW4:=(hkeep W (by omega)).trans hW3
  have hrW4:r4≠W:=by omega
  have ff:=qF hr4 hW4 (nH W r4) (nG W n4) (nG r4 n4) ff;refine aN Jl ?_
  try simp only[aF]
  refine aa Jl ?_;refine bf ?_;refine JQ Jl 8 (r:=r4) (off:=0) m ?_;refine aN Jl ?_
  try simp only[aF]
  refine DC (r:=r4) 0 ev ?_;refine aa Jl ?_;refine aO ?_;exact bu (_) (hh:=fun _=>.inl rfl) (hr:=oS (k:=by first|exact⟨rfl,BStep.row (T:=T) ev (hst2.trans (hst3.down (by omega))) (by omega) (fun q q1 q2 q3=>by have:=hkeep q (by omega);simp only[upd];repeat (first|exact this|rw[XZ (by omega)])) (.inr (by omega)),BufG.mk ev (by simp[upd]) (by simp) (by simp;omega) (by omega) (by omega) (by omega)⟩|exact⟨BStep.row (T:=T) ev (hst2.trans (hst3.down (by omega))) (by omega) (fun q q1 q2 q3=>by have:=hkeep q (by omega);simp only[upd];repeat (first|exact this|rw[XZ (by omega)])) (.inr (by omega)),BufG.mk ev (by simp[upd]) (by simp) (by simp;omega) (by omega) (by omega) (by omega)⟩))
 rw[Zu] at hW3
 have e1:0<l.length:=by omega
 have hE0:((l.length:Int)-((0:Nat):Int)).toNat=l.length:=by omega
 have hWr:(W=r)=False:=Y6 (fun e=>hrW e.symm)
 have hrW2:(r=W)=False:=Y6 hrW
 have ff:=qA @hW3 (qI @hr @hWr @hrW2 @Int.zero_add @Int.sub_zero @hE0 (nG W n3) (nG r n3) ff)
 refine bf ?_
 refine UJ Jl 4 (e:=5) ?_
 refine aN Jl ?_
 try simp only[aF]
 refine cd (fun c4=>?_) (fun c4=>?_) (hp:=rfl)
 .
  exfalso;simp at c4
 refine dw_skip ?_
 refine bf ?_
 refine J5 Jl 4 (fun c hc1 hc2=>?_)
 have hc3:(c:Int)<=9223372036854775807:=by have:=hc2;unfold maxLen at this;omega
 refine aN Jl ?_
 try simp only[aF]
 refine ae ?_
 refine aa Jl ?_
 refine cd (fun c5=>?_) (fun c5=>?_)
 .
  refine dr0 Jl 13 ?_;refine Dg Jl 13 l.length ?_;refine aN Jl ?_
  try simp only[aF]
  refine aa Jl ?_;refine bf ?_;refine JR Jl 8 (r:=r) (off:=0) (c:=c) (l.length+m) rfl (by have:(m:Int)<=(c:Int) / 2-(l.length:Int):=(by simpa using c5);omega) ?_
  refine aN Jl ?_
  try simp only[aF]
  refine aa Jl ?_;refine aO ?_;exact bu (_) (hh:=fun _=>.inl rfl) (hr:=oS (k:=by first|exact⟨rfl,BStep.row (T:=T) ev (hst2.trans (hst3.down (by omega))) (by omega) (fun q q1 q2 q3=>by have hqr:q≠r:=fun e=>q3 (by rw[e];exact fC hW3);simp only[upd];repeat (first|rfl|rw[XZ hqr]|rw[XZ (by omega)])) (.inl (fC hW3)),BufG.mk ev (by simp[upd,hrW]) (by simp) (by omega) (by omega) (by omega) (by omega)⟩|exact⟨BStep.row (T:=T) ev (hst2.trans (hst3.down (by omega))) (by omega) (fun q q1 q2 q3=>by have hqr:q≠r:=fun e=>q3 (by rw[e];exact fC hW3);simp only[upd];repeat (first|rfl|rw[XZ hqr]|rw[XZ (by omega)])) (.inl (fC hW3)),BufG.mk ev (by simp[upd,hrW]) (by simp) (by omega) (by omega) (by omega) (by omega)⟩))
 refine VM (r:=r) (k:=l.length+m) ev (fun g w q=>hcap r (fC hW3) g w q.2) (fun hc9=>?_)
 refine aa Jl ?_
 refine cd (fun c6=>?_) (fun c6=>?_) (hp:=rfl)
 .
  exfalso;simp at c6;omega
 refine K4 Jl 16 19 [] (hE:=by exact fun g w q=>hcap r (fC hW3) g w q.1.2) (hct:=by exact (UF l m _ _ r hr e1 hm0 hl).i) (hkeep:=?_) (hk:=?_)
 .
  intro res h2 n2 _ q hq;cases hq
 rintro res h4 n4 ⟨E4,rfl,r4,k4,rfl,hr4,hk4,hn4,hr4n,hkeep⟩
 try dsimp only at hn4 hkeep
 have hW4:=(hkeep W (by omega)).trans hW3
 have hrW4:r4≠W:=by omega
 have ff:=qF hr4 hW4 (nH W r4) (nG W n4) (nG r4 n4) ff
 refine aN Jl ?_
 try simp only[aF]
 refine aa Jl ?_
 refine bf ?_
 refine JQ Jl 8 (r:=r4) (off:=0) (l.length+m) ?_
 refine aN Jl ?_
 try simp only[aF]
 refine DC (r:=r4) l.length ev ?_
 refine aa Jl ?_
 refine aO ?_
 exact bu (_) (hh:=fun _=>.inl rfl) (hr:=oS (k:=by first|exact⟨rfl,BStep.row (T:=T) ev (hst2.trans (hst3.down (by omega))) (by omega) (fun q q1 q2 q3=>by have:=hkeep q (by omega);simp only[upd];repeat (first|exact this|rw[XZ (by omega)])) (.inr (by omega)),BufG.mk ev (by simp[upd]) (by simp) (by omega) (by omega) (by omega) (by omega)⟩|exact⟨BStep.row (T:=T) ev (hst2.trans (hst3.down (by omega))) (by omega) (fun q q1 q2 q3=>by have:=hkeep q (by omega);simp only[upd];repeat (first|exact this|rw[XZ (by omega)])) (.inr (by omega)),BufG.mk ev (by simp[upd]) (by simp) (by omega) (by omega) (by omega) (by omega)⟩))
end Go.Proofs.YtjngdcldglkolaaGreatDoor
namespace Go.Proofs.YtjngdcldglkolaaGreatDoor
open Go.DL Go.Str Go.Rec Go.Cmp Go.Zon Go.Jn
set_option maxRecDepth 10000
variable [Glob Tryz.prog] [Told]
theorem BufG.has {T:TypeId}{h:H}{W nx m:Nat}{l:Str}(hB:BufG T h W nx l m) (h0:0<m):∃ (r:Nat) (x:Int),r≠W/\r<nx/\h r=some ⟨5,l.map bD⟩/\h W=some ⟨T,[[.mrow r 0 (l.length+m),.i 0,.v (.int .i8 x)]]⟩:=by
 obtain⟨_,⟨e,x,hW⟩|⟨e,r,x,h1,h2,h3,hW⟩⟩:=hB
 .
  omega
 exact⟨r,x,h1,h2,h3,hW⟩
theorem BufG.wrote {T:TypeId}{h:H}{W nx r k:Nat}{l p:Str}{x:Int}{rows:List (List D)}(hW:h W=some ⟨T,[[.mrow r 0 k,.i 0,.v (.int .i8 x)]]⟩) (hr:h r=some ⟨5,rows⟩) (he:rows=(l++p).map bD) (hk:k=l.length+p.length) (h0:0<l.length+p.length) (h1:r≠W) (h2:r<nx) (h3:W<nx):BufG T h W nx (l++p) 0:=by
 subst he
 exact BufG.mk hW hr (by rw[hk,XY];rfl) (by rw[XY];omega) h1 h2 h3
theorem EI (T:TypeId) (l:Str) (b:UInt8) (h:H) (n W:Nat) (hB:BufG T h W n l 0) (hl:l.length+1<=1000000000000):RCt Tryz.prog 76 [.mptr W 0 0,.v (.int .u8 b.toNat)] h n (fun d h' n'=>d = .v .nilIface/\BStep h h' W n n'/\BufG T h' W n' (l++[b]) 0):=by
 refine oP Tryz.func76 fun hnone ff=>?_
 unfold Tryz.f76
 obtain⟨d0,x0,hd1,hW⟩:=hB.cell
 have hWn:=hB.1
 have ff:=qD @hW @hd1 (nG W n) ff
 refine oC Jl ?_
 refine ae (aA Jl 1 (hct:=by exact RCtE.rct (xH T l 1 _ _ W (hB.last hW _ (by dsimp only;omega)) hl)) (hk:=?_))
 rintro res h2 n2 ⟨E2,ok,a,rfl,hst2,hT,hF⟩
 try dsimp only at hst2 hT hF
 have hs0:=BStep.last (n':=n) hW 0 (XX n)
 replace hst2:=hs0.trans (hst2.down oW)
 refine az Jl ?_
 refine jnh (α:=(H)×Nat) [0,1] (fun ⟨hq,nx⟩=>(BufG T hq W nx l (1))/\(BStep h hq W n nx)/\(n<=nx)/\True) (fun ⟨hq,nx⟩=>[(5,.i l.length)]) (fun ⟨hq,nx⟩=>hq) (fun ⟨hq,nx⟩=>nx) ?_ ?_
 .
  refine aa Jl ?_;refine cd (fun c3=>?_) (fun c3=>?_) (hp:=rfl) (hq:=rfl)
  .
   have hF2:=hF (by simpa using c3)
   refine aA Jl 1 (hct:=by exact Da T l 1 _ _ W ((hF2.2.1).mono (by dsimp only;omega)) hl) (hk:=?_)
   rintro res h3 n3 ⟨rfl,hst3,hB3⟩
   try dsimp only at hst3 hB3
   refine az Jl ?_
   show ∃ _,_
   exact pV (h3,_) (h1:=⟨(by first|(exact hB3.mono om)|(dsimp only;exact hB3.mono om)),(by (try dsimp only);exact (hst2.trans (hst3.down om)).up om),(by (try dsimp only);have:=hst3.1;have:=hst2.1;omega),trivial⟩)
  have hT2:=hT (by simpa using c3)
  have hal:=hT2.1;subst hal;refine dw_skip ?_
  show ∃ _,_
  exact pV (h2,_) (h1:=⟨(by first|(exact hT2.2.mono om)|(dsimp only;exact hT2.2.mono om)),(by first|(exact hst2.up om)|(dsimp only;exact hst2.up om)),(by first|(have:=hst2.1;omega)|(dsimp only;have:=hst2.1;omega)),trivial⟩)
 rintro⟨hq,nx⟩ ⟨hG,hst9,hnx, -⟩
 simp only[X0,X3]
 obtain⟨r,y,hrW,hrn,hr,hW2⟩:=hG.has om
 have hWnx:=hG.1
 have hll:((l.length:Int)).toNat=l.length:=by omega
 have hWr:(W=r)=False:=Y6 (fun e=>hrW e.symm)
 have hrW2:(r=W)=False:=Y6 hrW
 have ff:=qA @hW2 (qI @hr @hWr @hrW2 @Int.sub_zero @Int.zero_add (nG W nx) (nG r nx) @hll ff)
 refine bf ?_
 refine UE Jl 7 (e:=5) (z:=.tmp 22) (r:=r) (off:=0) (len:=l.length+1) (n:=l.length) ?_
 refine aN Jl ?_
 try simp only[aF]
 refine aa Jl ?_
 refine aO ?_
 exact bu (_) (hh:=fun _=>.inl rfl) (hr:=oS (k:=by first|exact⟨rfl,BStep.row (T:=T) ev hst9 (by omega) (fun q q1 q2 q3=>by have hqr:q≠r:=fun e=>q3 (by rw[e];exact fC hW2);simp only[upd];repeat (first|rfl|rw[XZ hqr]|rw[XZ (by omega)])) (.inl (fC hW2)),BufG.wrote (r:=r) ev ev (by simp[bD]) (by simp) (by simp) hrW (by omega) (by omega)⟩|exact⟨BStep.row (T:=T) ev hst9 (by omega) (fun q q1 q2 q3=>by have hqr:q≠r:=fun e=>q3 (by rw[e];exact fC hW2);simp only[upd];repeat (first|rfl|rw[XZ hqr]|rw[XZ (by omega)])) (.inl (fC hW2)),BufG.wrote (r:=r) ev ev (by simp[bD]) (by simp) (by simp) hrW (by omega) (by omega)⟩))
theorem u6 (T:TypeId) (l:Str) (p:Str) (h:H) (n W:Nat) (hB:BufG T h W n l 0) (hl:l.length+p.length<=1000000000000):RCt Tryz.prog 81 [.mptr W 0 0,.list false (p.map bD)] h n (fun d h' n'=>d = .tuple [.i p.length,.v .nilIface]/\BStep h h' W n n'/\BufG T h' W n' (l++p) 0):=by
 refine oP Tryz.func81 fun hnone ff=>?_
 unfold Tryz.f81
 obtain⟨d0,x0,hd1,hW⟩:=hB.cell
 have hWn:=hB.1
 have ff:=qD @hW @hd1 (nG W n) ff
 refine oC Jl ?_
 refine ae (aA Jl 3 (hct:=by exact RCtE.rct (xH T l p.length _ _ W (hB.last hW _ (by dsimp only;omega)) hl)) (hk:=?_))
 rintro res h2 n2 ⟨E2,ok,a,rfl,hst2,hT,hF⟩
 try dsimp only at hst2 hT hF
 have hs0:=BStep.last (n':=n) hW 0 (XX n)
 replace hst2:=hs0.trans (hst2.down oW)
 refine az Jl ?_
 refine jnh (α:=(H)×Nat) [0,1] (fun ⟨hq,nx⟩=>(BufG T hq W nx l (p.length))/\(BStep h hq W n nx)/\(n<=nx)/\True) (fun ⟨hq,nx⟩=>[(6,.i l.length)]) (fun ⟨hq,nx⟩=>hq) (fun ⟨hq,nx⟩=>nx) ?_ ?_
 .
  refine aa Jl ?_;refine cd (fun c3=>?_) (fun c3=>?_) (hp:=rfl) (hq:=rfl)
  .
   have hF2:=hF (by simpa using c3)
   refine aA Jl 3 (hct:=by exact Da T l p.length _ _ W ((hF2.2.1).mono (by dsimp only;omega)) hl) (hk:=?_)
   rintro res h3 n3 ⟨rfl,hst3,hB3⟩
   try dsimp only at hst3 hB3
   refine az Jl ?_
   show ∃ _,_
   exact pV (h3,_) (h1:=⟨(by first|(exact hB3.mono om)|(dsimp only;exact hB3.mono om)),(by (try dsimp only);exact (hst2.trans (hst3.down om)).up om),(by (try dsimp only);have:=hst3.1;have:=hst2.1;omega),trivial⟩)
  have hT2:=hT (by simpa using c3)
  have hal:=hT2.1;subst hal;refine dw_skip ?_
  show ∃ _,_
  exact pV (h2,_) (h1:=⟨(by first|(exact hT2.2.mono om)|(dsimp only;exact hT2.2.mono om)),(by first|(exact hst2.up om)|(dsimp only;exact hst2.up om)),(by first|(have:=hst2.1;omega)|(dsimp only;have:=hst2.1;omega)),trivial⟩)
 rintro⟨hq,nx⟩ ⟨hG,hst9,hnx, -⟩
 simp only[X0,X3]
 have hWnx:=hG.1
 rcases hG.cases3 with⟨e1,e2,y,hW2⟩|⟨e1,e2,r,y,hrW,hrn,hr,hW2⟩|⟨e1,r,y,hrW,hrn,hr,hW2⟩
 .
  obtain rfl:=e1;obtain rfl:p=[]:=X5 e2;have ff:=qB @hW2 (nG W nx) ff;refine bf ?_;refine wF Jl 7 (e:=5) ?_;refine aN Jl ?_
  try simp only[aF]
  refine aO ?_;exact bu (_) (hh:=fun _=>.inl rfl) (hr:=oS (k:=by first|exact⟨rfl,hst9.up (by omega),(by first|exact hG.mono (by omega)|(rw[Yy];exact hG.mono (by omega)))⟩|exact⟨hst9.up (by omega),(by first|exact hG.mono (by omega)|(rw[Yy];exact hG.mono (by omega)))⟩))
 .
  obtain rfl:p=[]:=X5 e2;have hll:((l.length:Int)).toNat=l.length:=by omega
  have hE1:(((l.length+0:Nat):Int)-(l.length:Int)).toNat=0:=by omega
  have hE2:((l.length:Int)-(l.length:Int)).toNat=0:=by omega
  have hWr:(W=r)=False:=Y6 (fun e=>hrW e.symm)
  have hrW2:(r=W)=False:=Y6 hrW;have ff:=qD @hW2 @hr @hWr (qI @hrW2 @Int.sub_zero @Int.zero_add (nG W nx) (nG r nx) @hll @hE1 @hE2 ff);refine bf ?_;refine wF Jl 7 (e:=5) ?_;refine aN Jl ?_
  try simp only[aF]
  refine aO ?_;exact bu (_) (hh:=fun _=>.inl rfl) (hr:=oS (k:=by first|exact⟨rfl,hst9.up (by omega),(by first|exact hG.mono (by omega)|(rw[Yy];exact hG.mono (by omega)))⟩|exact⟨hst9.up (by omega),(by first|exact hG.mono (by omega)|(rw[Yy];exact hG.mono (by omega)))⟩))
 have hll:((l.length:Int)).toNat=l.length:=by omega
 have hE1:(((l.length+p.length:Nat):Int)-(l.length:Int)).toNat=p.length:=by omega
 have hE2:((l.length:Int)+(p.length:Int)-(l.length:Int)).toNat=p.length:=by omega
 have hWr:(W=r)=False:=Y6 (fun e=>hrW e.symm)
 have hrW2:(r=W)=False:=Y6 hrW
 have ff:=qD @hW2 @hr @hWr (qI @hrW2 @Int.sub_zero @Int.zero_add (nG W nx) (nG r nx) @hll @hE1 @hE2 ff)
 refine bf ?_
 refine J4 Jl 7 (e:=5) (r:=r) (off:=l.length) (m:=p.length) (news:=p.map bD) ?_ (hrl:=by intro q hq;obtain⟨b,_,rfl⟩:=Y2.1 hq;rfl)
 refine aN Jl ?_
 try simp only[aF]
 refine aO ?_
 exact bu (_) (hh:=fun _=>.inl rfl) (hr:=oS (k:=by first|exact⟨rfl,BStep.row (T:=T) ev hst9 (by omega) (fun q q1 q2 q3=>by have hqr:q≠r:=fun e=>q3 (by rw[e];exact fC hW2);simp only[upd];repeat (first|rfl|rw[XZ hqr]|rw[XZ (by omega)])) (.inl (fC hW2)),BufG.wrote (r:=r) ev ev (by simp) (by simp) (by omega) hrW (by omega) (by omega)⟩|exact⟨BStep.row (T:=T) ev hst9 (by omega) (fun q q1 q2 q3=>by have hqr:q≠r:=fun e=>q3 (by rw[e];exact fC hW2);simp only[upd];repeat (first|rfl|rw[XZ hqr]|rw[XZ (by omega)])) (.inl (fC hW2)),BufG.wrote (r:=r) ev ev (by simp) (by simp) (by omega) hrW (by omega) (by omega)⟩))
theorem Nl (T:TypeId) (l:Str) (p:Str) (h:H) (n W:Nat) (hB:BufG T h W n l 0) (hl:l.length+p.length<=1000000000000):RCt Tryz.prog 133 [.mptr W 0 0,.v (.string (bs p))] h n (fun d h' n'=>d = .tuple [.i p.length,.v .nilIface]/\BStep h h' W n n'/\BufG T h' W n' (l++p) 0):=by
 refine oP Tryz.func133 fun hnone ff=>?_
 unfold Tryz.f133
 obtain⟨d0,x0,hd1,hW⟩:=hB.cell
 have hWn:=hB.1
 have ff:=qD @hW @hd1 (nG W n) ff
 refine oC Jl ?_
 refine ae (aA Jl 3 (hct:=by exact RCtE.rct (xH T l p.length _ _ W (hB.last hW _ (by dsimp only;omega)) hl)) (hk:=?_))
 rintro res h2 n2 ⟨E2,ok,a,rfl,hst2,hT,hF⟩
 try dsimp only at hst2 hT hF
 have hs0:=BStep.last (n':=n) hW 0 (XX n)
 replace hst2:=hs0.trans (hst2.down oW)
 refine az Jl ?_
 refine jnh (α:=(H)×Nat) [0,1] (fun ⟨hq,nx⟩=>(BufG T hq W nx l (p.length))/\(BStep h hq W n nx)/\(n<=nx)/\True) (fun ⟨hq,nx⟩=>[(6,.i l.length)]) (fun ⟨hq,nx⟩=>hq) (fun ⟨hq,nx⟩=>nx) ?_ ?_
 .
  refine aa Jl ?_;refine cd (fun c3=>?_) (fun c3=>?_) (hp:=rfl) (hq:=rfl)
  .
   have hF2:=hF (by simpa using c3)
   refine aA Jl 3 (hct:=by exact Da T l p.length _ _ W ((hF2.2.1).mono (by dsimp only;omega)) hl) (hk:=?_)
   rintro res h3 n3 ⟨rfl,hst3,hB3⟩
   try dsimp only at hst3 hB3
   refine az Jl ?_
   show ∃ _,_
   exact pV (h3,_) (h1:=⟨(by first|(exact hB3.mono om)|(dsimp only;exact hB3.mono om)),(by (try dsimp only);exact (hst2.trans (hst3.down om)).up om),(by (try dsimp only);have:=hst3.1;have:=hst2.1;omega),trivial⟩)
  have hT2:=hT (by simpa using c3)
  have hal:=hT2.1;subst hal;refine dw_skip ?_
  show ∃ _,_
  exact pV (h2,_) (h1:=⟨(by first|(exact hT2.2.mono om)|(dsimp only;exact hT2.2.mono om)),(by first|(exact hst2.up om)|(dsimp only;exact hst2.up om)),(by first|(have:=hst2.1;omega)|(dsimp only;have:=hst2.1;omega)),trivial⟩)
 rintro⟨hq,nx⟩ ⟨hG,hst9,hnx, -⟩
 simp only[X0,X3]
 have hWnx:=hG.1
 rcases hG.cases3 with⟨e1,e2,y,hW2⟩|⟨e1,e2,r,y,hrW,hrn,hr,hW2⟩|⟨e1,r,y,hrW,hrn,hr,hW2⟩
 .
  obtain rfl:=e1;obtain rfl:p=[]:=X5 e2;have ff:=qB @hW2 (nG W nx) ff;refine bf ?_;refine wF Jl 7 (e:=5) ?_;refine aN Jl ?_
  try simp only[aF]
  refine aO ?_;exact bu (_) (hh:=fun _=>.inl rfl) (hr:=oS (k:=by first|exact⟨rfl,hst9.up (by omega),(by first|exact hG.mono (by omega)|(rw[Yy];exact hG.mono (by omega)))⟩|exact⟨hst9.up (by omega),(by first|exact hG.mono (by omega)|(rw[Yy];exact hG.mono (by omega)))⟩))
 .
  obtain rfl:p=[]:=X5 e2;have hll:((l.length:Int)).toNat=l.length:=by omega
  have hE1:(((l.length+0:Nat):Int)-(l.length:Int)).toNat=0:=by omega
  have hE2:((l.length:Int)-(l.length:Int)).toNat=0:=by omega
  have hWr:(W=r)=False:=Y6 (fun e=>hrW e.symm)
  have hrW2:(r=W)=False:=Y6 hrW;have ff:=qD @hW2 @hr @hWr (qI @hrW2 @Int.sub_zero @Int.zero_add (nG W nx) (nG r nx) @hll @hE1 @hE2 ff);refine bf ?_;refine wF Jl 7 (e:=5) ?_;refine aN Jl ?_
  try simp only[aF]
  refine aO ?_;exact bu (_) (hh:=fun _=>.inl rfl) (hr:=oS (k:=by first|exact⟨rfl,hst9.up (by omega),(by first|exact hG.mono (by omega)|(rw[Yy];exact hG.mono (by omega)))⟩|exact⟨hst9.up (by omega),(by first|exact hG.mono (by omega)|(rw[Yy];exact hG.mono (by omega)))⟩))
 have hll:((l.length:Int)).toNat=l.length:=by omega
 have hE1:(((l.length+p.length:Nat):Int)-(l.length:Int)).toNat=p.length:=by omega
 have hE2:((l.length:Int)+(p.length:Int)-(l.length:Int)).toNat=p.length:=by omega
 have hWr:(W=r)=False:=Y6 (fun e=>hrW e.symm)
 have hrW2:(r=W)=False:=Y6 hrW
 have ff:=qD @hW2 @hr @hWr (qI @hrW2 @Int.sub_zero @Int.zero_add (nG W nx) (nG r nx) @hll @hE1 @hE2 ff)
 refine bf ?_
 refine J4 Jl 7 (e:=5) (r:=r) (off:=l.length) (m:=p.length) (news:=p.map bD) ?_ (hrl:=by intro q hq;obtain⟨b,_,rfl⟩:=Y2.1 hq;rfl)
 refine aN Jl ?_
 try simp only[aF]
 refine aO ?_
 exact bu (_) (hh:=fun _=>.inl rfl) (hr:=oS (k:=by first|exact⟨rfl,BStep.row (T:=T) ev hst9 (by omega) (fun q q1 q2 q3=>by have hqr:q≠r:=fun e=>q3 (by rw[e];exact fC hW2);simp only[upd];repeat (first|rfl|rw[XZ hqr]|rw[XZ (by omega)])) (.inl (fC hW2)),BufG.wrote (r:=r) ev ev (by simp) (by simp) (by omega) hrW (by omega) (by omega)⟩|exact⟨BStep.row (T:=T) ev hst9 (by omega) (fun q q1 q2 q3=>by have hqr:q≠r:=fun e=>q3 (by rw[e];exact fC hW2);simp only[upd];repeat (first|rfl|rw[XZ hqr]|rw[XZ (by omega)])) (.inl (fC hW2)),BufG.wrote (r:=r) ev ev (by simp) (by simp) (by omega) hrW (by omega) (by omega)⟩))
theorem uO (T:TypeId) (l:Str) (h:H) (n W:Nat) (hB:BufG T h W n l 0) (hl:l.length<=1000000000000):RCt Tryz.prog 80 [.mptr W 0 0] h n (fun d h' n'=>((l=[]/\d = .list true [])\/(l≠[] /\ ∃ r,d = .mrow r 0 l.length/\h' r=some ⟨5,l.map bD⟩/\fK h' W=some r))/\BStep h h' W n n'/\BufG T h' W n' l 0):=by
 refine oP Tryz.func80 fun hnone ff=>?_
 unfold Tryz.f80
 refine aa Jl ?_
 have hB9:=hB
 obtain⟨hWn,⟨e0,x,hW⟩|⟨e0,r,x,hrW,hrn,hr,hW⟩⟩:=hB
 .
  obtain rfl:l=[]:=X5 om;have ff:=qB @hW (nG W n) ff;refine aa Jl ?_;refine aO ?_;exact bu (_) (hh:=fun _=>.inl rfl) (hr:=oS (k:=by first|exact⟨.inl rfl,BStep.refl om,hB9.mono om⟩|exact⟨.inl ⟨rfl,rfl⟩,BStep.refl om,hB9.mono om⟩))
 rw[Zu] at hW
 have hE1:((l.length:Int)-0).toNat=l.length:=by omega
 have hE2:((l.length:Int)).toNat=l.length:=by omega
 have hWr:(W=r)=False:=Y6 (fun e=>hrW e.symm)
 have hrW2:(r=W)=False:=Y6 hrW
 have ff:=qA @hW (qI @hr @hWr @hrW2 @hE1 @hE2 @Int.sub_zero (nG W n) (nG r n) ff)
 refine aa Jl ?_
 refine aO ?_
 exact bu (_) (hh:=fun _=>.inl rfl) (hr:=oS (k:=by exact⟨.inr ⟨fun e=>by subst e;simp at e0,r,rfl,hr,fC hW⟩,BStep.refl om,hB9.mono om⟩))
end Go.Proofs.YtjngdcldglkolaaGreatDoor
namespace Go.Proofs.YtjngdcldglkolaaGreatDoor
open Go.DL Go.Str Go.Rec Go.Cmp Go.Zon Go.Jn
set_option maxRecDepth 10000
variable [Glob Tryz.prog] [Told]
theorem Lc {d:Nat}{c:UInt8}(h:d<18446744073709551616):IntKind.u64.wrap (uZ .u64 (d:Int) (IntKind.u64.wrap (c.toNat:Int))*1099511628211)=((dP d c:Nat):Int):=by
 have hc:=c.toNat_lt
 have e0:IntKind.u64.wrap (c.toNat:Int)=(c.toNat:Int):=by rw[IntKind.wrap_u64];omega
 have e1:(BitVec.ofInt 64 (d:Int) ^^^ BitVec.ofInt 64 (c.toNat:Int)).toNat=d ^^^ c.toNat:=by
  rw[BitVec.toNat_xor,BitVec.ofInt_natCast,BitVec.ofInt_natCast,BitVec.toNat_ofNat,BitVec.toNat_ofNat,Zv (by omega),Zv (by omega)]
 have e2:d ^^^ c.toNat<2^64:=Nat.xor_lt_two_pow om om
 have e3:uZ .u64 (d:Int) (c.toNat:Int)=IntKind.u64.wrap ((BitVec.ofInt 64 (d:Int) ^^^ BitVec.ofInt 64 (c.toNat:Int)).toNat:Int):=rfl
 rw[e0,e3,e1,IntKind.wrap_u64,IntKind.wrap_u64]
 unfold dP
 omega
theorem Lf (l:Str) {d:Nat}(h:d<18446744073709551616):l.foldl dP d<18446744073709551616:=by
 rcases List.eq_nil_or_concat l with e|⟨p,z,e⟩
 .
  subst e;exact h
 rw[e,List.concat_eq_append,Y7,YJ,ZC]
 unfold dP
 omega
theorem Le {b:Str}{d k:Nat}(h:k<b.length):(b.take (k+1)).foldl dP d=dP ((b.take k).foldl dP d) (b.getD k 0):=by
 have e:b[k]?.toList=[b.getD k 0]:=by simp[List.getD,Ye h]
 rw[Y1,Y7,e,YJ,ZC]
theorem XH (u s:Nat) (hs:s<=56):IntKind.u8.wrap ((u:Int).fdiv (2^(min s 64)))=((dE u s).toNat:Int):=by
 rw[IntKind.wrap_u8,ZN (by omega),Aq]
 rw[Int.fdiv_eq_ediv_of_nonneg _ (by exact_mod_cast Yl _)]
 norm_cast
theorem xC (n:Int):IntKind.u64.wrap n=((uN n:Nat):Int):=by rw[IntKind.wrap_u64];unfold uN;omega
theorem pK {n:Nat}(h:n<18446744073709551616):IntKind.u64.wrap (n:Int)=(n:Int):=by rw[IntKind.wrap_u64];omega
theorem WG (b:Str) (d:Nat) (h:H) (n W:Nat) (hW:h W=some ⟨180,[[.v (.int .u64 ((d:Nat):Int))]]⟩) (hd:d<18446744073709551616) (hb:b.length<=1000000000000):RCt Tryz.prog 132 [.mptr W 0 0,.list false (b.map bD)] h n (fun x h' n'=>h'=upd h W (some ⟨180,[[.v (.int .u64 ((b.foldl dP d:Nat):Int))]]⟩)/\n<=n'):=by
 refine oP Tryz.func132 fun hnone ff=>?_
 unfold Tryz.f132
 refine aa Jl ?_
 refine ai ?_
 refine eF (α:=(Nat)×Nat) [0,6,7] (fun ⟨k,nx⟩=>(k<=b.length)/\(n<=nx)/\(W<nx)/\True) (fun ⟨k,nx⟩=>b.length-k) (fun ⟨k,nx⟩=>[(8,.i k)]) (fun ⟨k,nx⟩=>upd h W (some ⟨180,[[.v (.int .u64 (((b.take k).foldl dP d:Nat):Int))]]⟩)) (fun ⟨k,nx⟩=>nx) (0,_) (hA:=⟨iv,iv,(by (try dsimp only);rcases Nat.lt_or_ge W n with q|q;omega;rw[hnone W q] at hW;cases hW),trivial⟩) (round:=?_) (hhh:=by intro q;left;show upd h W (some ⟨180,[[.v (.int .u64 ((d:Nat):Int))]]⟩) q=h q;by_cases e:q=W;subst e;rw[upd_same];exact hW.symm;rw[upd_ne _ _ _ _ e])
 rintro⟨k,nx⟩ ⟨hk,hn,hWx, -⟩
 simp only[X0,X3]
 refine aa Jl ?_
 refine ae ?_
 refine cd (fun c1=>?_) (fun c1=>?_)
 .
  have hk2:k<b.length:=by omega
  have hst:=Le (d:=d) hk2;have hdl:=Lf (b.take k) hd;have hds:=Lc (c:=b.getD k 0) hdl;have ff:=qA (oQ hk2) ff;refine dw_skip ?_;refine ae ?_;refine ai ?_;refine aa Jl ?_;refine kL ?_;refine JW Jl 7 hds ?_;refine UI Jl 8 (r:=W) (j:=0) (off:=0) ?_;refine gst1 Jl 9 ?_;refine J3 Jl ?_;refine KT [(8,.i k),(0,.mptr W 0 0),(6,.list false (b.map bD)),(7,.i b.length)] (upd h W (some ⟨180,[[.v (.int .u64 ((dP ((b.take k).foldl dP d) (b.getD k 0):Nat):Int))]]⟩)) _ (nx+14) .tt ?_ (hh:=by show upd (upd h W _) W _=_;rw[kJ];rfl)
  refine ah Jl ?_
  show ∃ _,_
  refine ak (k+1,_) (h1:=⟨iv,iv,iv,trivial⟩) (h5:=?_);rw[hst];exact mG _
 have hk3:k=b.length:=by omega
 subst hk3
 refine aB ?_
 exact bu (upd h W (some ⟨180,[[.v (.int .u64 ((b.foldl dP d:Nat):Int))]]⟩)) (hr:=oS (k:=by first|omega|exact⟨rfl,om⟩)) (hh:=by rw[YB];exact mG _)
theorem zu (b:Str) (hb:b.length<=1000000000000):PureCt Tryz.prog 79 [.list false (b.map bD)] (.v (.int .u64 ((dig b:Nat):Int))):=by
 refine oO Tryz.func79 fun ff=>?_
 unfold Tryz.f79
 refine oC Jl ?_
 refine ae (aA Jl 1 (hct:=by exact WG b qP _ _ _ (by simp only[go_sem,ff];first|done|rfl) (by decide) hb) (hk:=?_))
 rintro res h2 n2 ⟨rfl,h9⟩
 refine az Jl ?_
 refine aa Jl ?_
 exact fp 0
theorem GJ (b:Str) (hb:b.length<=1000000000000):PureCt Tryz.prog 116 [.list false (b.map bD)] (.v (.int .u64 ((dig b:Nat):Int))):=by
 refine oO Tryz.func116 fun ff=>?_
 unfold Tryz.f116
 refine oC Jl ?_
 refine ae ?_
 refine aa Jl ?_
 refine ai ?_
 refine lp (α:=(Nat)×(Int)×Nat) [0] (fun ⟨k,x,nx⟩=>(k<=b.length)/\(x=(((b.take k).foldl dP qP:Nat):Int))/\True) (fun ⟨k,x,nx⟩=>b.length-k) (fun ⟨k,x,nx⟩=>[(3,.v (.int .u64 x)),(4,.i k)]) (fun ⟨k,x,nx⟩=>[]) (fun ⟨k,x,nx⟩=>nx) (0,14695981039346656037,_) (hA:=⟨iv,rfl,trivial⟩) (round:=?_)
 rintro⟨k,x,nx⟩ ⟨hk,hx, -⟩
 simp only[X0,X3]
 subst hx
 refine oL Jl (fun c1=>?_) (fun c1=>?_)
 .
  have hk2:k<b.length:=by omega
  have hst:=Le (d:=qP) hk2;have hdl:=Lf (b.take k) (d:=qP) (by decide)
  have hds:=Lc (c:=b.getD k 0) hdl;have ff:=qA (oQ hk2) ff;refine ae ?_;refine ai ?_;refine kL ?_;refine JW Jl 7 hds ?_;refine U2 Jl 8 ?_;refine J3 Jl ?_;refine KT [(3,.v (.int .u64 ((dP ((b.take k).foldl dP qP) (b.getD k 0):Nat):Int))),(4,.i k),(0,.list false (b.map bD))] (htab []) _ (nx+13) .tt ?_;refine ah Jl ?_
  show ∃ _,_
  have ff:=qA hst ff;exact ak (k+1,(((b.take (k+1)).foldl dP qP:Nat):Int),_) (h1:=⟨iv,rfl,trivial⟩)
 have hk3:k=b.length:=by omega
 subst hk3
 refine aB ?_
 refine aa Jl ?_
 exact fo 0 (k:=by first|rfl|(rw[YB];rfl))
end Go.Proofs.YtjngdcldglkolaaGreatDoor
namespace Go.Proofs.YtjngdcldglkolaaGreatDoor
open Go.DL Go.Str Go.Rec Go.Cmp Go.Zon Go.Jn
set_option maxRecDepth 10000
variable [Glob Tryz.prog] [Told]
theorem BufG.fresh {T:TypeId}{h:H}{W nx nx' q:Nat}{l:Str}{m:Nat}{x:Option Blk}(hB:BufG T h W nx l m) (hq:nx<=q) (hn:nx<=nx'):BufG T (upd h q x) W nx' l m:=by
 obtain⟨h0,⟨e,y,h1⟩|⟨e,r,y,h1,h2,h3,h4⟩⟩:=hB
 .
  exact⟨om,.inl ⟨e,y,by rw[upd_ne _ _ _ _ (by omega)];exact h1⟩⟩
 exact⟨om,.inr ⟨e,r,y,h1,om,by rw[upd_ne _ _ _ _ (by omega)];exact h3,by rw[upd_ne _ _ _ _ (by omega)];exact h4⟩⟩
theorem BStep.fresh {h:H}{W n n' q:Nat}{x:Option Blk}(hW:W<n) (hq:n<=q) (hn:n<=n'):BStep h (upd h q x) W n n':=by
 refine⟨hn,fun p h1 _ _=>upd_ne _ _ _ _ om,fun p _ _ h3=>?_⟩
 have:fK (upd h q x) W=fK h W:=by
  unfold fK;rw[upd_ne _ _ _ _ (by omega)]
 rw[this]
 exact h3
theorem NP (l t:Str):l++bB t.length 1++t=l++aQ t:=by simp[Au,aQ]
theorem R7 {a b c d:Int}{j:Nat}(h:j<4):([[.i a],[.i b],[.i c],[.i d]]:List (List D)).getD j []=[.i ([a,b,c,d][j]!)]:=by
 have:j=0\/j=1\/j=2\/j=3:=by omega
 rcases this with e|e|e|e<;>subst e<;>rfl
theorem Mx (n:Int):bB (uN n) 8=aT n:=rfl
theorem NI {n:Int}(h:0<=n/\n<18446744073709551616):((uN n:Nat):Int)=n:=by unfold uN;omega
theorem wN {α:Type}[Inhabited α] {l:List α}{k:Nat}(h:k<l.length) (f:α->Str):(l.drop k).flatMap f=f l[k]! ++ (l.drop (k+1)).flatMap f:=by
 rw[Yu h,ZX,getElem!_pos l k h]
theorem uL (T:TypeId) (l:Str) (u k:Nat) (h:H) (n W:Nat) (hB:BufG T h W n l 0) (hu:u<18446744073709551616) (hk:k<=8) (hl:l.length<=900000000000):RCt Tryz.prog 95 [.mptr W 0 0,.v (.int .u64 ((u:Nat):Int)),.i k] h n (fun d h' n'=>BStep h h' W n n'/\BufG T h' W n' (l++bB u k) 0):=by
 refine oP Tryz.func95 fun hnone ff=>?_
 unfold Tryz.f95
 refine aa Jl ?_
 refine ai ?_
 refine eF (α:=(Nat)×(Str)×(H)×Nat) [0,1] (fun ⟨j,o,hq,nx⟩=>(j<=8)/\(o++bB u j=l++bB u k)/\(o.length+j=l.length+k)/\(BufG T hq W nx o 0)/\(BStep h hq W n nx)/\True) (fun ⟨j,o,hq,nx⟩=>j) (fun ⟨j,o,hq,nx⟩=>[(2,.i ((j:Int)-1))]) (fun ⟨j,o,hq,nx⟩=>hq) (fun ⟨j,o,hq,nx⟩=>nx) (k,l,h,_) (hA:=⟨(by first|(omega)|(dsimp only;omega)),rfl,rfl,(by first|(exact hB.mono om)|(dsimp only;exact hB.mono om)),(by first|(exact BStep.refl om)|(dsimp only;exact BStep.refl om)),trivial⟩) (round:=?_)
 rintro⟨j,o,hq,nx⟩ ⟨hj,ho,hol,hG,hst, -⟩
 simp only[X0,X3]
 refine oL Jl (fun c1=>?_) (fun c1=>?_)
 .
  obtain⟨i,rfl⟩:∃ i,j=i+1:=⟨j-1,om⟩;have e1:(((i+1:Nat):Int)-1)=(i:Int):=by omega
  have e1b:((i:Int)+1-1)=(i:Int):=by omega
  have e2:(8*(i:Int)).toNat=8*i:=by omega
  have e3:=XH u (8*i) (by omega)
  have ff:=qE @e1 @e1b @e2 @e3 ff;refine ae ?_;refine ai ?_;refine dr0 Jl 8 ?_;refine nJ (C:=Jl) 8 (R:=_) om (bN rfl) rfl rfl (by simp only[Yf,X8,Ya,Yj,S.put,YC,Nat.reduceSub,go_sem,ff];first|done|exact rfl) ?_ ?_ ev (by simp only[go_sem,ff]) ev (by exact EI T o (dE u (8*i)) _ _ W (hG.mono oW) om) ?_
  .
   try simp only[go_sem,ff]
   all_goals (exact ok0)
  .
   try simp only[go_sem,ff]
   all_goals (first|done|rfl|decide|simp)
  rintro res h2 n2 ⟨rfl,hst2,hG2⟩
  try dsimp only at hst2
  refine aN Jl ?_
  try simp only[aF]
  refine ah Jl ?_
  show ∃ _,_
  exact ak (i,o++[dE u (8*i)],h2,_) (h1:=⟨iv,(by (try dsimp only);rw[<- ho,List.append_assoc];rfl),(by first|(simp;omega)|(dsimp only;simp;omega)),(by first|(exact hG2.mono (by omega))|(dsimp only;exact hG2.mono (by omega))),(by (try dsimp only);exact (hst.trans (hst2.down oW)).up (by omega)),trivial⟩)
 obtain rfl:j=0:=by omega
 have ho2:o=l++bB u k:=by simpa [bB] using ho
 refine aB ?_
 exact bu (_) (hh:=fun _=>.inl rfl) (hr:=oS (k:=by rw[<- ho2];exact⟨hst.up (by omega),hG.mono (by omega)⟩))
theorem sZ (T:TypeId) (l:Str) (u:Nat) (h:H) (n W:Nat) (hB:BufG T h W n l 0) (hu:u<18446744073709551616) (hl:l.length<=900000000000):RCt Tryz.prog 78 [.mptr W 0 0,.v (.int .u64 ((u:Nat):Int))] h n (fun d h' n'=>BStep h h' W n n'/\BufG T h' W n' (l++bB u 8) 0):=by
 refine oP Tryz.func78 fun hnone ff=>?_
 unfold Tryz.f78
 refine aA Jl 2 (hct:=by exact uL T l u 8 _ _ W (hB.mono oW) hu om hl) (hk:=?_)
 rintro res h2 n2 ⟨hst2,hG2⟩
 try dsimp only at hst2
 refine az Jl ?_
 exact bu (_) (hh:=fun _=>.inl rfl) (hr:=oS (k:=by exact⟨(hst2.down oW).up om,hG2.mono om⟩))
theorem xA (T:TypeId) (l:Str) (m:Nat) (h:H) (n W:Nat) (hB:BufG T h W n l 0) (hm:m<4294967296) (hl:l.length<=900000000000):RCt Tryz.prog 77 [.mptr W 0 0,.i m] h n (fun d h' n'=>BStep h h' W n n'/\BufG T h' W n' (l++bB m 4) 0):=by
 refine oP Tryz.func77 fun hnone ff=>?_
 unfold Tryz.f77
 have e1:=pK (n:=m) (by omega)
 have ff:=qA @e1 ff
 refine aA Jl 3 (hct:=by exact uL T l m 4 _ _ W (hB.mono oW) om om hl) (hk:=?_)
 rintro res h2 n2 ⟨hst2,hG2⟩
 try dsimp only at hst2
 refine az Jl ?_
 exact bu (_) (hh:=fun _=>.inl rfl) (hr:=oS (k:=by exact⟨(hst2.down oW).up om,hG2.mono om⟩))
theorem xy (T:TypeId) (l t:Str) (h:H) (n W:Nat) (hB:BufG T h W n l 0) (ht:t.length<=10000) (hl:l.length<=800000000000):RCt Tryz.prog 82 [.mptr W 0 0,.v (.string (bs t))] h n (fun d h' n'=>BStep h h' W n n'/\BufG T h' W n' (l++aQ t) 0):=by
 refine oP Tryz.func82 fun hnone ff=>?_
 unfold Tryz.f82
 have e1:=pK (n:=t.length) (by omega)
 have ff:=qA @e1 ff
 refine ae (aA Jl 4 (hct:=by exact uL T l t.length 1 _ _ W (hB.mono oW) om om om) (hk:=?_))
 rintro res h2 n2 ⟨hst2,hG2⟩
 try dsimp only at hst2
 refine az Jl ?_
 refine aA Jl 4 (hct:=by exact Nl T _ t _ _ W (hG2.mono oW) (by rw[XY,bZ];omega)) (hk:=?_)
 rintro res h3 n3 ⟨rfl,hst3,hG3⟩
 try dsimp only at hst3
 refine az Jl ?_
 exact bu (_) (hh:=fun _=>.inl rfl) (hr:=oS (k:=by rw[<- NP];exact⟨((hst2.down oW).trans (hst3.down oW)).up (by omega),hG3.mono (by omega)⟩))
end Go.Proofs.YtjngdcldglkolaaGreatDoor
namespace Go.Proofs.YtjngdcldglkolaaGreatDoor
open Go.DL Go.Str Go.Rec Go.Cmp Go.Zon Go.Jn
set_option maxRecDepth 10000
variable [Glob Tryz.prog] [Told]
noncomputable def lC [Glob Tryz.prog] [Told]:List PanicEntry:=[{ v:=fJ dZ,recovered:=false }]
def RStep (h h':H) (R n n':Nat):Prop:=n<=n' /\ ∀ q,q<n->q≠R->h' q=h q
theorem RStep.trans {h h' h'':H}{R n n' n'':Nat}(a:RStep h h' R n n') (b:RStep h' h'' R n' n''):RStep h h'' R n n'':=⟨Yb a.1 b.1,fun q h1 h2=>(b.2 q (YA h1 a.1) h2).trans (a.2 q h1 h2)⟩
theorem RStep.down {h h':H}{R n m n':Nat}(a:RStep h h' R m n') (hn:n<=m):RStep h h' R n n':=⟨Yb hn a.1,fun q h1=>a.2 q (YA h1 hn)⟩
theorem RStep.up {h h':H}{R n n' n2:Nat}(a:RStep h h' R n n') (hn:n'<=n2):RStep h h' R n n2:=⟨Yb a.1 hn,a.2⟩
theorem RStep.refl {h:H}{R n n':Nat}(hn:n<=n'):RStep h h R n n':=⟨hn,fun _ _ _=>rfl⟩
def eU (h:H) (R:Nat) (x:Str):Prop:=∃ f:Bool,h R=some ⟨234,[[.list f (x.map bD)]]⟩
theorem NR {x:Str}{m:Nat}(h:m<=x.length):aC m (x,false)=(x.take m,(x.drop m,false)):=gu rfl h
theorem NU {x:Str}{m:Nat}(h:x.length<m):(aC m (x,false)).2.2=true:=by rw[gy (.inr (by show (x.length:Int)<m;omega))]
theorem yU (l:Str) (k:Nat) (h:k<l.length):bO (l.take (k+1))=bG (bO (l.take k)) (l.getD k 0):=by
 have e:l[k]?.toList=[l.getD k 0]:=by simp[List.getD,Ye h]
 unfold bO
 rw[Y1,Y7,e,YJ,ZC]
@[go_sem] theorem ldc_err (h:H):fF Tryz.prog (.v (.pointer (some ⟨0,0,none⟩))) h=[.v (fJ dZ)]:=by
 rw[Jc,UK]
 rfl
theorem Xp:bY Tryz.prog 193=true:=by kernel_rfl
theorem zl (x:Str) (m:Nat) (h:H) (n R:Nat) (hb:eU h R x) (hx:x.length<=1000000000) (hm:m<=1000000000000):gZ Tryz.prog 193 [.mptr R 0 0,.i m] h n (fun d h' n'=>∃ x':Str,(aC m (x,false)).2=(x',false)/\(∃ f1:Bool,d = .list f1 ((aC m (x,false)).1.map bD))/\eU h' R x'/\RStep h h' R n n') (fun c h' n'=>c=lC/\(aC m (x,false)).2.2=true/\RStep h h' R n n'):=by
 refine sW Tryz.func193 rfl Xp (by simp[Tryz.f193]) (fun hnone=>?_)
 unfold Tryz.f193
 have ff:=True.intro
 obtain⟨f,hR⟩:=hb
 have hRn:R<n:=by rcases Zd R n with q|q;exact q;rw[hnone R q] at hR;cases hR
 have hE1:((m:Int)).toNat=m:=by omega
 have hE2:((0:Int)).toNat=0:=rfl
 have ff:=qE @hR @hE1 @hE2 (nG R n) ff
 refine aa Jl ?_
 refine oK Jl (fun c1=>?_) (fun c1=>?_)
 .
  have hlt:x.length<m:=by omega
  refine kL ?_;refine zB Jl 1 (d:=.v (fJ dZ)) (t:=290) (v:=.pointer (some dZ)) ?_ (fun w g u hu=>hu.v_inv)
  try simp only[dK,dQ]
  exact eP _ (by exact⟨rfl,NU hlt,RStep.refl oW⟩) (hn:=XX _) (hh:=fun _=>.inl rfl)
 have hle:m<=x.length:=by omega
 have hty:=NR hle
 refine oD Jl ?_
 refine aO ?_
 exact uy (.inr rfl) (_) (hh:=fun _=>.inl rfl) (hr:=oS (k:=by rw[hty];exact⟨_,rfl,⟨_,by rw[ZT];try rfl⟩,⟨_,by simp only[upd,ZL];rw[List.map_drop];try rfl⟩,om,(fun q q1 q2=>by simp only[upd];repeat (first|rfl|rw[XZ (by omega)]))⟩))
end Go.Proofs.YtjngdcldglkolaaGreatDoor
namespace Go.Proofs.YtjngdcldglkolaaGreatDoor
open Go.DL Go.Str Go.Rec Go.Cmp Go.Zon Go.Jn
set_option maxRecDepth 10000
variable [Glob Tryz.prog] [Told]
theorem R9 (l:Str):bO l<256^l.length:=by
 have key : ∀ (l:Str) (a:Nat),l.foldl bG a<256^l.length*(a+1):=by
  intro l
  induction l with
  | nil=>intro a;simp
  | cons c l ih =>
   intro a;have h1:=ih (bG a c);have h2:bG a c+1<=256*(a+1):=by unfold bG;have:=c.toNat_lt;omega
   rw[YJ,YN,Nat.pow_succ,Nat.mul_assoc];exact YA h1 (Nat.mul_le_mul_left _ h2)
 have:=key l 0
 unfold bO
 omega
theorem yN (k:Nat) (st:RS):(aC k st).1.length<=k:=by
 unfold aC
 split
 .
  simp
 simp[Yr];omega
theorem fM (k:Int) (st:RS):(aC k st).2.1.length<=st.1.length:=by
 unfold aC
 split
 .
  simp
 simp
theorem j6 (k:Nat) (st:RS):(ag k st).1<256^k:=YA (R9 _) (Nat.pow_le_pow_right om (yN k st))
def tH (u:Nat):Nat:=u*256 % 18446744073709551616
theorem shl8 (u:Nat):IntKind.u64.wrap ((u:Int)*2^(min (8:Int).toNat IntKind.u64.bits))=((tH u:Nat):Int):=by
 unfold tH
 rw[IntKind.wrap_u64]
 simp[IntKind.bits]
theorem or8 (u:Nat) (c:UInt8):IntKind.u64.wrap (BitVec.ofInt 64 ((tH u:Nat):Int) ||| BitVec.ofInt 64 (IntKind.u64.wrap (c.toNat:Int))).toNat=((bG u c:Nat):Int):=by
 have hc:=c.toNat_lt
 have e0:IntKind.u64.wrap (c.toNat:Int)=(c.toNat:Int):=by rw[IntKind.wrap_u64];omega
 rw[e0]
 unfold tH
 rw[BitVec.ofInt_natCast,BitVec.ofInt_natCast,BitVec.toNat_or,BitVec.toNat_ofNat,BitVec.toNat_ofNat,Zv (show c.toNat<2^64 by omega),Nat.mod_mod_of_dvd _ (by decide:2^64 ∣ 18446744073709551616)]
 have e2:u*256 % 18446744073709551616=2^8*(u % 72057594037927936):=by omega
 rw[e2,<- Nat.two_pow_add_eq_or_of_lt (show c.toNat<2^8 by omega)]
 rw[IntKind.wrap_u64]
 unfold bG
 omega
attribute [irreducible] tH
attribute [local irreducible] bG
theorem oz {u:Nat}(h:u<9223372036854775808):IntKind.i64.wrap (u:Int)=(u:Int):=by rw[IntKind.wrap_i64];omega
theorem Xq:bY Tryz.prog 192=true:=by kernel_rfl
theorem zn (x:Str) (m:Nat) (h:H) (n R:Nat) (hb:eU h R x) (hx:x.length<=1000000000) (hm:m<=8):gZ Tryz.prog 192 [.mptr R 0 0,.i m] h n (fun d h' n'=>∃ x':Str,(ag m (x,false)).2=(x',false)/\d = .v (.int .u64 (((ag m (x,false)).1:Nat):Int))/\eU h' R x'/\RStep h h' R n n') (fun c h' n'=>c=lC/\(ag m (x,false)).2.2=true/\RStep h h' R n n'):=by
 refine sW Tryz.func192 rfl Xq (by simp[Tryz.f192]) (fun hnone=>?_)
 unfold Tryz.f192
 have ff:=True.intro
 refine oC Jl ?_
 refine ae ?_
 refine bf ?_
 refine eB 2 (C:=Jl) (hct:=by exact zl x m _ _ R hb hx om) (hp:=?_) (hk:=?_)
 .
  rintro c9 h9 n9 ⟨rfl,hbad,hst9⟩
  try simp only[dK,dQ]
  exact eP _ (by exact⟨rfl,hbad,((hst9.down oW).up oW)⟩) (hn:=XX _) (hh:=fun _=>.inl rfl)
 rintro res h2 n2 ⟨x2,hp2,⟨f1,rfl⟩,hb2,hst2⟩
 have hbl:=yN m (x,false)
 obtain⟨b,hbe⟩:∃ b,b=(aC m (x,false)).1:=⟨_,rfl⟩
 rw[<- hbe] at hbl
 try rw[<- hbe]
 refine aN Jl ?_
 try simp only[aF]
 refine ai ?_
 refine eF (α:=(Nat)×(Nat)×Nat) [10,11] (fun ⟨k,u,nx⟩=>(k<=b.length)/\(u=bO (b.take k))/\(n2<=nx)/\True) (fun ⟨k,u,nx⟩=>b.length-k) (fun ⟨k,u,nx⟩=>[(5,.v (.int .u64 ((u:Nat):Int))),(12,.i k)]) (fun ⟨k,u,nx⟩=>h2) (fun ⟨k,u,nx⟩=>nx) (0,0,_) (hA:=⟨iv,rfl,iv,trivial⟩) (round:=?_)
 rintro⟨k,u,nx⟩ ⟨hk,hu,hn, -⟩
 simp only[X0,X3]
 refine aa Jl ?_
 refine ae ?_
 refine cd (fun c1=>?_) (fun c1=>?_)
 .
  have hk2:k<b.length:=by omega
  have ff:=qA (oQ hk2) ff;refine dw_skip ?_;refine ae ?_;refine ai ?_;refine aa Jl ?_;refine kL ?_;refine J6 Jl 1 (.int .u64 ((tH u:Nat):Int)) ?_ (hv:=by exact congrArg (Value.int .u64) (shl8 u)) (hp:=by exact (by decide:(0:Int)<=8))
  refine J6 Jl 4 (.int .u64 ((bG u (b.getD k 0):Nat):Int)) ?_ (hv:=by exact congrArg (Value.int .u64) (or8 u (b.getD k 0))) (hp:=by exact rfl)
  refine aN Jl ?_
  try simp only[aF]
  refine ah Jl ?_
  show ∃ _,_
  exact ak (k+1,bG u (b.getD k 0),_) (h1:=⟨iv,(by first|(rw[yU b k hk2,<- hu])|(dsimp only;rw[yU b k hk2,<- hu])),iv,trivial⟩)
 have hk3:k=b.length:=by omega
 subst hk3
 rw[YB] at hu
 subst hu
 subst hbe
 refine aB ?_
 refine aa Jl ?_
 refine aO ?_
 exact uy (.inr rfl) (_) (hh:=fun _=>.inl rfl) (hr:=oS (k:=by exact⟨x2,hp2,rfl,hb2,(hst2.down oW).up oW⟩))
theorem CR (x:Str) (h:H) (n R:Nat) (hb:eU h R x) (hx:x.length<=1000000000):gZ Tryz.prog 192 [.mptr R 0 0,.i 1] h n (fun d h' n'=>∃ x':Str,(ag 1 (x,false)).2=(x',false)/\d = .v (.int .u64 (((ag 1 (x,false)).1:Nat):Int))/\eU h' R x'/\RStep h h' R n n') (fun c h' n'=>c=lC/\(ag 1 (x,false)).2.2=true/\RStep h h' R n n'):=zn x 1 h n R hb hx om
theorem TT (x:Str) (h:H) (n R:Nat) (hb:eU h R x) (hx:x.length<=1000000000):gZ Tryz.prog 192 [.mptr R 0 0,.i 2] h n (fun d h' n'=>∃ x':Str,(ag 2 (x,false)).2=(x',false)/\d = .v (.int .u64 (((ag 2 (x,false)).1:Nat):Int))/\eU h' R x'/\RStep h h' R n n') (fun c h' n'=>c=lC/\(ag 2 (x,false)).2.2=true/\RStep h h' R n n'):=zn x 2 h n R hb hx om
theorem zo (x:Str) (h:H) (n R:Nat) (hb:eU h R x) (hx:x.length<=1000000000):gZ Tryz.prog 192 [.mptr R 0 0,.i 4] h n (fun d h' n'=>∃ x':Str,(ag 4 (x,false)).2=(x',false)/\d = .v (.int .u64 (((ag 4 (x,false)).1:Nat):Int))/\eU h' R x'/\RStep h h' R n n') (fun c h' n'=>c=lC/\(ag 4 (x,false)).2.2=true/\RStep h h' R n n'):=zn x 4 h n R hb hx om
theorem nZ (x:Str) (h:H) (n R:Nat) (hb:eU h R x) (hx:x.length<=1000000000):gZ Tryz.prog 192 [.mptr R 0 0,.i 8] h n (fun d h' n'=>∃ x':Str,(ag 8 (x,false)).2=(x',false)/\d = .v (.int .u64 (((ag 8 (x,false)).1:Nat):Int))/\eU h' R x'/\RStep h h' R n n') (fun c h' n'=>c=lC/\(ag 8 (x,false)).2.2=true/\RStep h h' R n n'):=zn x 8 h n R hb hx om
theorem Xo:bY Tryz.prog 195=true:=by kernel_rfl
theorem zk (x:Str) (h:H) (n R:Nat) (hb:eU h R x) (hx:x.length<=1000000000):gZ Tryz.prog 195 [.mptr R 0 0] h n (fun d h' n'=>∃ x':Str,(aj (x,false)).2=(x',false)/\d = .v (.string (bs (aj (x,false)).1))/\eU h' R x'/\RStep h h' R n n') (fun c h' n'=>c=lC/\(aj (x,false)).2.2=true/\RStep h h' R n n'):=by
 refine sW Tryz.func195 rfl Xo (by simp[Tryz.f195]) (fun hnone=>?_)
 unfold Tryz.f195
 have ff:=True.intro
 refine aa Jl ?_
 refine bf ?_
 refine eB 1 (C:=Jl) (hct:=by exact CR x _ _ R hb hx) (hp:=?_) (hk:=?_)
 .
  rintro c9 h9 n9 ⟨rfl,hbad,hst9⟩
  try simp only[dK,dQ]
  exact eP _ (by exact⟨rfl,by unfold aj;rw[gy (.inl hbad)],((hst9.down oW).up oW)⟩) (hn:=XX _) (hh:=fun _=>.inl rfl)
 rintro res h2 n2 ⟨x2,hp2,rfl,hb2,hst2⟩
 have hul:(ag 1 (x,false)).1<256^1:=j6 1 (x,false)
 obtain⟨u,hue⟩:∃ u,u=(ag 1 (x,false)).1:=⟨_,rfl⟩
 try rw[<- hue]
 rw[<- hue] at hul
 have e1:=oz (u:=u) (by omega)
 have ff:=qA e1 ff
 have hx2:x2.length<=1000000000:=by have:=fM 1 (x,false);rw[show aC 1 (x,false)=((aC 1 (x,false)).1,(x2,false)) from Prod.ext rfl hp2] at this;exact Yb this hx
 refine aN Jl ?_
 try simp only[aF]
 refine bf ?_
 refine eB 2 (C:=Jl) (hct:=by exact zl x2 u _ _ R hb2 hx2 om) (hp:=?_) (hk:=?_)
 .
  rintro c9 h9 n9 ⟨rfl,hbad,hst9⟩
  try simp only[dK,dQ]
  exact eP _ (by exact⟨rfl,by unfold aj;rw[hp2,<- hue];exact hbad,((hst2.down oW).trans (hst9.down oW)).up oW⟩) (hn:=XX _) (hh:=fun _=>.inl rfl)
 rintro res h3 n3 ⟨x3,hp3,⟨f1,rfl⟩,hb3,hst3⟩
 refine aN Jl ?_
 try simp only[aF]
 refine aO ?_
 exact uy (.inr rfl) (_) (hh:=fun _=>.inl rfl) (hr:=oS (k:=by have e3:aj (x,false)=aC u (x2,false):=(by unfold aj;rw[hp2,<- hue]);rw[e3];exact⟨x3,hp3,rfl,hb3,((hst2.down oW).trans (hst3.down oW)).up oW⟩))
end Go.Proofs.YtjngdcldglkolaaGreatDoor
namespace Go.Proofs.YtjngdcldglkolaaGreatDoor
open Go.DL Go.Str Go.Rec Go.Cmp Go.Zon Go.Jn
set_option maxRecDepth 10000
variable [Glob Tryz.prog] [Told]
theorem MB {k:Int}{st:RS}(h:st.2=true):(aC k st).2.2=true:=by rw[gy (.inl h)]
theorem lD {k:Int}{st:RS}(h:st.2=true):(ag k st).2.2=true:=MB h
def nN:Nat->RS->RS
 | 0,st=>st
 | k+1,st=>(ag 8 (nN k st)).2
def nV (k:Nat) (st:RS):Int:=sN (ag 8 (nN k st)).1
theorem qj {k:Nat}{st:RS}{x x':Str}(h:nN k st=(x,false)) (h2:(ag 8 (x,false)).2=(x',false)):nN (k+1) st=(x',false):=by
 show (ag 8 (nN k st)).2=_
 rw[h,h2]
theorem Cs {st:RS}{k:Nat}(h:(nN k st).2=true):∀ j,(nN (k+j) st).2=true
 | 0=>h
 | j+1=>lD (Cs h j)
theorem Sy {st:RS}{k m:Nat}{x:Str}(h:nN k st=(x,false)) (h2:(ag 8 (x,false)).2.2=true) (hk:k<m):(nN m st).2=true:=by
 have h3:(nN (k+1) st).2=true:=by
  show (ag 8 (nN k st)).2.2=true
  rw[h];exact h2
 have:=Cs h3 (m-(k+1))
 rwa [show k+1+(m-(k+1))=m by omega] at this
theorem y7 {k:Nat}{st:RS}{x:Str}(h:nN k st=(x,false)):IntKind.i64.wrap (((ag 8 (x,false)).1:Nat):Int)=nV k st:=by
 unfold nV
 rw[h]
 rfl
theorem yO (st:RS):ek st=(⟨(aj st).1,nV 0 (aj st).2,nV 1 (aj st).2,nV 2 (aj st).2,nV 3 (aj st).2,(ag 8 (nN 4 (aj st).2)).1⟩,nN 5 (aj st).2):=rfl
theorem O1 {st:RS}(h:(aj st).2.2=true):(ek st).2.2=true:=by
 rw[yO]
 exact Cs (k:=0) h 5
theorem vF {st:RS}{k:Nat}{x5 x:Str}(h:(aj st).2=(x5,false)) (h1:nN k (x5,false)=(x,false)) (h2:(ag 8 (x,false)).2.2=true) (hk:k<5):(ek st).2.2=true:=by
 rw[yO,h]
 exact Sy h1 h2 hk
theorem OW {st:RS}{x5 x x':Str}(h:(aj st).2=(x5,false)) (h1:nN 4 (x5,false)=(x,false)) (h2:(ag 8 (x,false)).2=(x',false)):ek st=(⟨(aj st).1,nV 0 (x5,false),nV 1 (x5,false),nV 2 (x5,false),nV 3 (x5,false),(((ag 8 (x,false)).1:Nat):Int)⟩,(x',false)):=by
 rw[yO,h,h1]
 show (_,(ag 8 (nN 4 (x5,false))).2)=_
 rw[h1,h2]
theorem xW {st:RS}(h:st.2=true) (o:List RSig):∀ k,dV k o st=(o,st)
 | 0=>rfl
 | k+1=>by unfold dV;rw[X4 h]
theorem Bp {x:Str}{o:List RSig}{k:Nat}:dV (k+1) o (x,false)=dV k (o++[(ek (x,false)).1]) (ek (x,false)).2:=rfl
theorem tF {x:Str}{o:List RSig}{k:Nat}(h:(ek (x,false)).2.2=true) (hk:0<k):(dV k o (x,false)).2.2=true:=by
 obtain⟨j,rfl⟩:∃ j,k=j+1:=⟨k-1,om⟩
 rw[Bp,xW h]
 exact h
def tQ (z:Str) (st:RS) (j:Nat):List D:=[.v (.string (bs z)),.i (if 0<j then nV 0 st else 0),.i (if 1<j then nV 1 st else 0),.i (if 2<j then nV 2 st else 0),.i (if 3<j then nV 3 st else 0),.v (.int .u64 0)]
theorem RStep.via {h h1 H2 h':H}{R n n1 m n':Nat}(a:RStep h h1 R n n1) (k : ∀ q,q<n->q≠R->H2 q=h1 q) (b:RStep H2 h' R m n') (hm:n1<=m):RStep h h' R n n' :=
 ⟨by have:=a.1;have:=b.1;omega,fun q q1 q2=>(b.2 q (by have:=a.1;omega) q2).trans ((k q q1 q2).trans (a.2 q q1 q2))⟩
theorem rv {h h1 H2 h':H}{R n n1 m n':Nat}(a:RStep h h1 R n n1) (b:RStep H2 h' R m n') (k : ∀ q,q<n->q≠R->H2 q=h1 q:=by intro q q1 q2;first|rfl|((try dsimp only);simp only[upd];repeat (first|rfl|rw[if_neg (by omega)]))) (hm:n1<=m:=by first|omega|(dsimp only;omega)):RStep h h' R n n':=a.via k b hm
theorem kp {h1 h2:H}{R n n' c:Nat}{v:Option Blk}(st:RStep h1 h2 R n n') (e:h1 c=v:=by simp only[go_sem,ff];first|done|exact rfl) (o1:c<n:=by first|omega|(dsimp only;omega)) (o2:c≠R:=by omega):h2 c=v:=(st.2 c o1 o2).trans e
theorem jA {k:Int}{x x':Str}(h:(ag k (x,false)).2=(x',false)):x'.length<=x.length:=by
 have:=fM k (x,false)
 rw[show (aC k (x,false)).2=(x',false) from h] at this
 exact this
theorem NS {k:Int}{x x':Str}(h:(aC k (x,false)).2=(x',false)):x'.length<=x.length:=jA h
theorem xD {x x':Str}(h:(aj (x,false)).2=(x',false)):x'.length<=x.length:=by
 have h1:=fM (ag 1 (x,false)).1 (ag 1 (x,false)).2
 have h2:=fM 1 (x,false)
 rw[show aC (ag 1 (x,false)).1 (ag 1 (x,false)).2=aj (x,false) from rfl,h] at h1
 exact Yb h1 h2
theorem RJ {x x2 x3:Str}(h:(ag 2 (x,false)).2=(x2,false)) (h3:(aC ((ag 2 (x,false)).1:Nat) (x2,false)).2=(x3,false)):dD (x,false)=((aC ((ag 2 (x,false)).1:Nat) (x2,false)).1,(x3,false)):=by
 unfold dD
 rw[h]
 exact Prod.ext rfl h3
theorem FZ {st:RS}(h:(dD st).2.2=true):(dz st).2.2=true:=by
 unfold dz
 split
 .
  exact h
 rfl
theorem Pp {st:RS}(h:(readF (dD st).1).2≠0):(dz st).2.2=true:=by
 unfold dz
 rw[XZ h]
theorem Po {st:RS}{b x3:Str}(h:dD st=(b,(x3,false))) (h2:(readF b).2=0):dz st=((readF b).1,(x3,false)):=by
 unfold dz
 rw[h,X4 h2]
theorem Bq {st:RS}(h:(dz st).2.2=true):(dB st).2.2=true:=by
 show (dV _ _ _).2.2=true
 rw[xW (lD h)]
 exact lD h
theorem Pg {x x3:Str}{s:RSet}(h:dz (x,false)=(s,(x3,false))) (h2:(ag 1 (x3,false)).2.2=true):(dB (x,false)).2.2=true:=by
 show (dV _ _ _).2.2=true
 rw[h,xW h2]
 exact h2
theorem Pf {x x3 x4:Str}{s:RSet}(h:dz (x,false)=(s,(x3,false))) (h2:(ag 1 (x3,false)).2=(x4,false)):dB (x,false)=(⟨s,(dV (ag 1 (x3,false)).1 [] (x4,false)).1⟩,(dV (ag 1 (x3,false)).1 [] (x4,false)).2):=by
 unfold dB
 simp only[h,h2]
set_option maxHeartbeats 2000000
theorem Xn:bY Tryz.prog 196=true:=by kernel_rfl
theorem Jt (x:Str) (h:H) (n R:Nat) (hb:eU h R x) (hx:x.length<=1000000000):gZ Tryz.prog 196 [.mptr R 0 0] h n (fun d h' n'=>∃ x':Str,(dB (x,false)).2=(x',false)/\d = .agg (dB (x,false)).1.d/\eU h' R x'/\RStep h h' R n n') (fun c h' n'=>c=lC/\(dB (x,false)).2.2=true/\RStep h h' R n n'):=by
 refine sW Tryz.func196 rfl Xn (by simp[Tryz.f196]) (fun hnone=>?_)
 unfold Tryz.f196
 have ff:=True.intro
 obtain⟨f,hR⟩:=hb
 have hRn:R<n:=by rcases Zd R n with q|q;exact q;rw[hnone R q] at hR;cases hR
 have ff:=qD @hR (nG R n) (nH R n) ff
 refine aa Jl ?_
 refine bf ?_
 refine eB 1 (C:=Jl) (hct:=by exact TT x _ _ R ⟨f,ev⟩ hx) (hp:=?_) (hk:=?_)
 .
  rintro c9 h9 n9 ⟨rfl,hbad,hst9⟩
  try simp only[dK,dQ]
  exact eP _ (by exact⟨rfl,Bq (FZ (by unfold dD;exact MB hbad)),(rv (RStep.refl (h:=h) (R:=R) (XX n)) hst9)⟩) (hn:=XX _) (hh:=fun _=>.inl rfl)
 rintro res h2 n2 ⟨x2,hp2,rfl,hb2,hst2⟩
 try dsimp only at hst2
 have hl2:=hst2.1
 obtain⟨f2,hR2⟩:=hb2
 have hn2:h2 n=some ⟨66,[[.v (.string (bs [])),.i 0,.i 0,.list true [],.list true []]]⟩:=kp hst2
 have hs2:RStep h h2 R n n2:=(rv (RStep.refl (h:=h) (R:=R) (XX n)) hst2)
 have hul:(ag 2 (x,false)).1<256^2:=j6 2 (x,false)
 obtain⟨u,hue⟩:∃ u,u=(ag 2 (x,false)).1:=⟨_,rfl⟩
 try rw[<- hue]
 rw[<- hue] at hul
 have e1:=oz (u:=u) (by omega)
 have ff:=qF hR2 hn2 e1 (nG R n2) (nG n n2) ff
 have ff:=qG hR2 hn2 e1 (nH R n) (nG R n2) (nG n n2) ff
 have hx2:=Yb (jA hp2) hx
 refine aN Jl ?_
 try simp only[aF]
 refine bf ?_
 refine eB 2 (C:=Jl) (hct:=by exact zl x2 u _ _ R ⟨f2,ev⟩ hx2 om) (hp:=?_) (hk:=?_)
 .
  rintro c9 h9 n9 ⟨rfl,hbad,hst9⟩
  try simp only[dK,dQ]
  exact eP _ (by exact⟨rfl,Bq (FZ (by unfold dD;rw[hp2,<- hue];exact hbad)),(rv hs2 hst9)⟩) (hn:=XX _) (hh:=fun _=>.inl rfl)
 rintro res h3 n3 ⟨x3,hp3,⟨f1,rfl⟩,hb3,hst3⟩
 try dsimp only at hst3
 have hl3:=hst3.1
 obtain⟨f3,hR3⟩:=hb3
 have hn3:h3 n=some ⟨66,[[.v (.string (bs [])),.i 0,.i 0,.list true [],.list true []]]⟩:=kp hst3
 have hs3:RStep h h3 R n n3:=(rv hs2 hst3)
 rw[hue] at hp3
 have hraw:=RJ hp2 hp3
 rw[<- hue] at hraw
 obtain⟨b,hbe⟩:∃ b,b=(aC u (x2,false)).1:=⟨_,rfl⟩
 rw[<- hbe] at hraw
 try rw[<- hbe]
 have ff:=qE hR3 hn3 (nG R n3) (nG n n3) ff
 refine aN Jl ?_ (hok:=oF (Qh b))
 try simp only[aF]
 refine oK Jl (fun c1=>?_) (fun c1=>?_)
 .
  refine kL ?_;refine zB Jl 1 (d:=.v (fJ dZ)) (t:=290) (v:=.pointer (some dZ)) ?_ (fun w g u hu=>hu.v_inv)
  try simp only[dK,dQ]
  exact eP _ (by exact⟨rfl,Bq (Pp (by rw[hraw];exact c1)),(rv hs3 (RStep.refl (XX _)))⟩) (hn:=XX _) (hh:=fun _=>.inl rfl)
 have hset:=Po hraw c1
 obtain⟨rs,hrs⟩:∃ rs,rs=(readF b).1:=⟨_,rfl⟩
 try rw[<- hrs]
 rw[<- hrs] at hset
 have hx3:=Yb (NS hp3) hx2
 refine aa Jl ?_
 refine ae ?_
 refine mW (n3+14) 4 66 160 ev (by rfl) (by simp only[go_sem,ff]) ?_
 simp only[YM,YF]
 obtain⟨C,hCe⟩:∃ C,C=n3+14:=⟨_,rfl⟩
 rw[<- hCe]
 obtain⟨O,hOe⟩:∃ O,O=n3+16:=⟨_,rfl⟩
 rw[<- hOe]
 have ff:=qG (nH R n) (nH C R) (nH O R) (nH C n) (nH O n) (nH C O) ff
 refine bf ?_
 refine eB 1 (C:=Jl) (hct:=by exact CR x3 _ _ R ⟨f3,ev⟩ hx3) (hp:=?_) (hk:=?_)
 .
  rintro c9 h9 n9 ⟨rfl,hbad,hst9⟩
  try simp only[dK,dQ]
  exact eP _ (by exact⟨rfl,Pg hset hbad,(rv hs3 hst9)⟩) (hn:=XX _) (hh:=fun _=>.inl rfl)
 rintro res h4 n4 ⟨x4,hp4,rfl,hb4,hst4⟩
 try dsimp only at hst4
 have hl4:=hst4.1
 obtain⟨f4,hR4⟩:=hb4
 have hn4:h4 n=some ⟨66,[[.v (.string (bs [])),.i 0,.i 0,.list true [],.list true []]]⟩:=kp hst4
 have hC4:h4 C=some ⟨66,[[.v (.string (bs rs.name)),.i rs.ty,.i rs.life,.list false (rs.data.map Dat.d),.mrow O 0 0]]⟩:=kp hst4
 have hO4:h4 O=some ⟨160,[]⟩:=kp hst4
 have hs4:RStep h h4 R n n4:=(rv hs3 hst4)
 have hNl:(ag 1 (x3,false)).1<256^1:=j6 1 (x3,false)
 have hsg:=Pf hset hp4
 obtain⟨N,hNe⟩:∃ N,N=(ag 1 (x3,false)).1:=⟨_,rfl⟩
 try rw[<- hNe]
 rw[<- hNe] at hNl hsg
 have ff:=qI hR4 hn4 hC4 hO4 (nG R n4) (nG n n4) (nG C n4) (nG O n4) ff
 have hx4:=Yb (jA hp4) hx3
 refine aN Jl ?_
 try simp only[aF]
 refine ai ?_
 refine eF (α:=(Nat)×(List RSig)×(Str)×(Nat)×(H)×Nat) [0,2,6,26] (fun ⟨k,o,xs,r,hq,nx⟩=>(k<=N)/\(dV N [] (x4,false)=dV (N-k) o (xs,false))/\(o.length=k)/\(eU hq R xs)/\(hq C=some ⟨66,[[.v (.string (bs rs.name)),.i rs.ty,.i rs.life,.list false (rs.data.map Dat.d),.mrow r 0 k]]⟩)/\(hq r=some ⟨160,(o).map RSig.d⟩)/\(hq n=some ⟨66,[[.v (.string (bs [])),.i 0,.i 0,.list true [],.list true []]]⟩)/\(RStep h hq R n nx)/\(C<r)/\(r<nx)/\(xs.length<=1000000000)/\True) (fun ⟨k,o,xs,r,hq,nx⟩=>N-k) (fun ⟨k,o,xs,r,hq,nx⟩=>[(27,.v (.int .u64 ((k:Nat):Int)))]) (fun ⟨k,o,xs,r,hq,nx⟩=>hq) (fun ⟨k,o,xs,r,hq,nx⟩=>nx) (0,[],x4,O,h4,_) (hA:=⟨iv,rfl,rfl,(by first|(exact⟨f4,hR4⟩)|(dsimp only;exact⟨f4,hR4⟩)),(by first|(exact hC4)|(dsimp only;exact hC4)),(by first|(exact hO4)|(dsimp only;exact hO4)),(by first|(exact hn4)|(dsimp only;exact hn4)),(by first|(exact hs4.up om)|(dsimp only;exact hs4.up om)),(by first|(omega)|(dsimp only;omega)),(by first|(omega)|(dsimp only;omega)),iv,trivial⟩) (round:=?_)
 rintro⟨k,o,xs,r,hq,nx⟩ ⟨hk,hps,hol,hb7,hC,hr,hn,hst,hCr,hrx,hxl, -⟩
 simp only[X0,X3]
 obtain⟨fs,hR7⟩:=hb7
 have e7:=pK (n:=k+1) (by omega)
 have e7b:((k+1:Nat):Int)=(k:Int)+1:=by omega
 rw[e7b] at e7
 have ff:=qH @hR7 @hC @hr @hn @e7 (nG R nx) (nG n nx) (qI (nG C nx) (nG r nx) (nH R n) (nH C R) (nH R r) (nH C n) (nH n r) (nH C r) ff)
 refine aa Jl ?_
 refine ae ?_
 refine cd (fun c2=>?_) (fun c2=>?_)
 .
  have hk2:k<N:=by omega
  obtain⟨M,hM⟩:∃ M,N-k=M+1:=⟨N-k-1,om⟩;refine dw_skip ?_;refine ae ?_;refine ai ?_;refine bf ?_;refine eB 1 (C:=Jl) (hct:=by exact zk xs _ _ R ⟨fs,ev⟩ hxl) (hp:=?_) (hk:=?_)
  .
   rintro c9 h9 n9 ⟨rfl,hbad,hst9⟩
   try simp only[dK,dQ]
   exact eP _ (by exact⟨rfl,by rw[hsg,hps];exact tF (O1 hbad) (by omega),(rv hst hst9)⟩) (hn:=XX _) (hh:=fun _=>.inl rfl)
  rintro res h5 n5 ⟨x5,hp5,rfl,hb5,hst5⟩
  try dsimp only at hst5
  have hl5:=hst5.1;obtain⟨f5,hR5⟩:=hb5;have hn5:h5 n=some ⟨66,[[.v (.string (bs [])),.i 0,.i 0,.list true [],.list true []]]⟩:=kp hst5;have hC5:h5 C=some ⟨66,[[.v (.string (bs rs.name)),.i rs.ty,.i rs.life,.list false (rs.data.map Dat.d),.mrow r 0 k]]⟩:=kp hst5;have hr5:h5 r=some ⟨160,(o).map RSig.d⟩:=kp hst5;have hs5:RStep h h5 R n n5:=(rv hst hst5);obtain⟨zt,hzt⟩:∃ z,z=(aj (xs,false)).1:=⟨_,rfl⟩
  try rw[<- hzt]
  have ff:=qI hR5 hn5 hC5 hr5 (nG R n5) (nG n n5) (nG C n5) (nG r n5) ff;have hx5:=Yb (xD hp5) hxl;refine aN Jl ?_
  try simp only[aF]
  refine ae ?_;obtain⟨q,hqe⟩:∃ q,q=n5+3:=⟨_,rfl⟩;rw[<- hqe];simp only[kJ];have ff:=qB (nH R n) (nH C R) (qI (nH R r) (nH R q) (nH C n) (nH n r) (nH n q) (nH C r) (nH C q) (nH q r) ff);refine aa Jl ?_;refine ai ?_;refine eF (α:=(Nat)×(Str)×(H)×Nat) [0,2,6,7,26,27,36,37] (fun ⟨j,xs2,hq2,nx⟩=>(j<=4)/\(nN j (x5,false)=(xs2,false))/\(eU hq2 R xs2)/\(hq2 q=some ⟨160,[tQ zt (x5,false) j]⟩)/\(RStep h5 hq2 R n5 nx)/\(q<nx)/\(xs2.length<=1000000000)/\True) (fun ⟨j,xs2,hq2,nx⟩=>4-j) (fun ⟨j,xs2,hq2,nx⟩=>[(38,.i j)]) (fun ⟨j,xs2,hq2,nx⟩=>hq2) (fun ⟨j,xs2,hq2,nx⟩=>nx) (0,x5,upd h5 q (some ⟨160,[tQ zt (x5,false) 0]⟩),_) (hA:=⟨iv,rfl,(by (try dsimp only);exact⟨f5,by rw[upd_ne _ _ _ _ (by omega)];exact hR5⟩),(by first|(exact upd_same _ _ _)|(dsimp only;exact upd_same _ _ _)),(by (try dsimp only);exact⟨om,fun p p1 p2=>upd_ne _ _ _ _ (by omega)⟩),iv,(by first|(omega)|(dsimp only;omega)),trivial⟩) (round:=?_)
  rintro⟨j,xs2,hq2,nx⟩ ⟨hj,hN,hb10,hQ,hst7,hqx,hxl2, -⟩;simp only[X0,X3];obtain⟨fs2,hR10⟩:=hb10;have ff:=qH @hR10 @hQ (nG q nx) (nG R nx) (nG n nx) (nG C nx) (nG r nx) ff;refine aa Jl ?_;refine ae ?_;refine cd (fun c3=>?_) (fun c3=>?_)
  .
   have hj2:j<4:=by omega
   refine dw_skip ?_;refine ae ?_;refine ai ?_
   rcases (by omega:j=0\/j=1\/j=2\/j=3) with rfl|rfl|rfl|rfl
   .
    have hQ:hq2 q=some ⟨160,[[.v (.string (bs zt)),.i 0,.i 0,.i 0,.i 0,.v (.int .u64 0)]]⟩:=hQ;have ff:=qA @hQ ff;refine aa Jl ?_;refine kL ?_;refine eB 2 (C:=Jl) (hct:=by exact nZ xs2 _ _ R ⟨fs2,ev⟩ hxl2) (hp:=?_) (hk:=?_)
    .
     rintro c9 h9 n9 ⟨rfl,hbad,hst9⟩
     try simp only[dK,dQ]
     exact eP _ (by exact⟨rfl,by rw[hsg,hps];exact tF (vF hp5 hN hbad (by omega)) (by omega),(RStep.via hs5 (fun _ _ _=>rfl) (hst7.trans (hst9.down oW)) (XX _))⟩) (hn:=XX _) (hh:=fun _=>.inl rfl)
    rintro res h8 n8 ⟨x8,hp8,rfl,hb8,hst8⟩
    try dsimp only at hst8
    have iy:=hst8.1;obtain⟨f8,hR8⟩:=hb8;have hQ8:h8 q=some ⟨160,[[.v (.string (bs zt)),.i 0,.i 0,.i 0,.i 0,.v (.int .u64 0)]]⟩:=kp hst8;have hv:=y7 hN;have ff:=qI hR8 hQ8 hv (nG R n8) (nG n n8) (nG C n8) (nG r n8) (nG q n8) ff;have hx8:=Yb (jA hp8) hxl2;refine aN Jl ?_
    try simp only[aF]
    refine ah Jl ?_
    show ∃ _,_
    exact ak (1,x8,upd h8 q (some ⟨160,[tQ zt (x5,false) 1]⟩),_) (h1:=⟨iv,(by first|(exact qj hN hp8)|(dsimp only;exact qj hN hp8)),(by (try dsimp only);exact⟨f8,by rw[upd_ne _ _ _ _ (by omega)];exact hR8⟩),(by first|(exact upd_same _ _ _)|(dsimp only;exact upd_same _ _ _)),(by (try dsimp only);exact (hst7.trans (hst8.down oW)).via (fun p p1 p2=>upd_ne _ _ _ _ (by omega)) (RStep.refl (Nat.le_refl _)) (by omega)),iv,iv,trivial⟩)
   .
    have hQ:hq2 q=some ⟨160,[[.v (.string (bs zt)),.i (nV 0 (x5,false)),.i 0,.i 0,.i 0,.v (.int .u64 0)]]⟩:=hQ;have ff:=qA @hQ ff;refine aa Jl ?_;refine kL ?_;refine eB 2 (C:=Jl) (hct:=by exact nZ xs2 _ _ R ⟨fs2,ev⟩ hxl2) (hp:=?_) (hk:=?_)
    .
     rintro c9 h9 n9 ⟨rfl,hbad,hst9⟩
     try simp only[dK,dQ]
     exact eP _ (by exact⟨rfl,by rw[hsg,hps];exact tF (vF hp5 hN hbad (by omega)) (by omega),(RStep.via hs5 (fun _ _ _=>rfl) (hst7.trans (hst9.down oW)) (XX _))⟩) (hn:=XX _) (hh:=fun _=>.inl rfl)
    rintro res h8 n8 ⟨x8,hp8,rfl,hb8,hst8⟩
    try dsimp only at hst8
    have iy:=hst8.1;obtain⟨f8,hR8⟩:=hb8;have hQ8:h8 q=some ⟨160,[[.v (.string (bs zt)),.i (nV 0 (x5,false)),.i 0,.i 0,.i 0,.v (.int .u64 0)]]⟩:=kp hst8;have hv:=y7 hN;have ff:=qI hR8 hQ8 hv (nG R n8) (nG n n8) (nG C n8) (nG r n8) (nG q n8) ff;have hx8:=Yb (jA hp8) hxl2;refine aN Jl ?_
    try simp only[aF]
    refine ah Jl ?_
    show ∃ _,_
    exact ak (2,x8,upd h8 q (some ⟨160,[tQ zt (x5,false) 2]⟩),_) (h1:=⟨iv,(by first|(exact qj hN hp8)|(dsimp only;exact qj hN hp8)),(by (try dsimp only);exact⟨f8,by rw[upd_ne _ _ _ _ (by omega)];exact hR8⟩),(by first|(exact upd_same _ _ _)|(dsimp only;exact upd_same _ _ _)),(by (try dsimp only);exact (hst7.trans (hst8.down oW)).via (fun p p1 p2=>upd_ne _ _ _ _ (by omega)) (RStep.refl (Nat.le_refl _)) (by omega)),iv,iv,trivial⟩)
   .
    have hQ:hq2 q=some ⟨160,[[.v (.string (bs zt)),.i (nV 0 (x5,false)),.i (nV 1 (x5,false)),.i 0,.i 0,.v (.int .u64 0)]]⟩:=hQ;have ff:=qA @hQ ff;refine aa Jl ?_;refine kL ?_;refine eB 2 (C:=Jl) (hct:=by exact nZ xs2 _ _ R ⟨fs2,ev⟩ hxl2) (hp:=?_) (hk:=?_)
    .
     rintro c9 h9 n9 ⟨rfl,hbad,hst9⟩
     try simp only[dK,dQ]
     exact eP _ (by exact⟨rfl,by rw[hsg,hps];exact tF (vF hp5 hN hbad (by omega)) (by omega),(RStep.via hs5 (fun _ _ _=>rfl) (hst7.trans (hst9.down oW)) (XX _))⟩) (hn:=XX _) (hh:=fun _=>.inl rfl)
    rintro res h8 n8 ⟨x8,hp8,rfl,hb8,hst8⟩
    try dsimp only at hst8
    have iy:=hst8.1;obtain⟨f8,hR8⟩:=hb8;have hQ8:h8 q=some ⟨160,[[.v (.string (bs zt)),.i (nV 0 (x5,false)),.i (nV 1 (x5,false)),.i 0,.i 0,.v (.int .u64 0)]]⟩:=kp hst8;have hv:=y7 hN;have ff:=qI hR8 hQ8 hv (nG R n8) (nG n n8) (nG C n8) (nG r n8) (nG q n8) ff;have hx8:=Yb (jA hp8) hxl2;refine aN Jl ?_
    try simp only[aF]
    refine ah Jl ?_
    show ∃ _,_
    exact ak (3,x8,upd h8 q (some ⟨160,[tQ zt (x5,false) 3]⟩),_) (h1:=⟨iv,(by first|(exact qj hN hp8)|(dsimp only;exact qj hN hp8)),(by (try dsimp only);exact⟨f8,by rw[upd_ne _ _ _ _ (by omega)];exact hR8⟩),(by first|(exact upd_same _ _ _)|(dsimp only;exact upd_same _ _ _)),(by (try dsimp only);exact (hst7.trans (hst8.down oW)).via (fun p p1 p2=>upd_ne _ _ _ _ (by omega)) (RStep.refl (Nat.le_refl _)) (by omega)),iv,iv,trivial⟩)
   have hQ:hq2 q=some ⟨160,[[.v (.string (bs zt)),.i (nV 0 (x5,false)),.i (nV 1 (x5,false)),.i (nV 2 (x5,false)),.i 0,.v (.int .u64 0)]]⟩:=hQ;have ff:=qA @hQ ff;refine aa Jl ?_;refine kL ?_;refine eB 2 (C:=Jl) (hct:=by exact nZ xs2 _ _ R ⟨fs2,ev⟩ hxl2) (hp:=?_) (hk:=?_)
   .
    rintro c9 h9 n9 ⟨rfl,hbad,hst9⟩
    try simp only[dK,dQ]
    exact eP _ (by exact⟨rfl,by rw[hsg,hps];exact tF (vF hp5 hN hbad (by omega)) (by omega),(RStep.via hs5 (fun _ _ _=>rfl) (hst7.trans (hst9.down oW)) (XX _))⟩) (hn:=XX _) (hh:=fun _=>.inl rfl)
   rintro res h8 n8 ⟨x8,hp8,rfl,hb8,hst8⟩
   try dsimp only at hst8
   have iy:=hst8.1;obtain⟨f8,hR8⟩:=hb8;have hQ8:h8 q=some ⟨160,[[.v (.string (bs zt)),.i (nV 0 (x5,false)),.i (nV 1 (x5,false)),.i (nV 2 (x5,false)),.i 0,.v (.int .u64 0)]]⟩:=kp hst8;have hv:=y7 hN;have ff:=qI hR8 hQ8 hv (nG R n8) (nG n n8) (nG C n8) (nG r n8) (nG q n8) ff;have hx8:=Yb (jA hp8) hxl2;refine aN Jl ?_
   try simp only[aF]
   refine ah Jl ?_
   show ∃ _,_
   exact ak (4,x8,upd h8 q (some ⟨160,[tQ zt (x5,false) 4]⟩),_) (h1:=⟨iv,(by first|(exact qj hN hp8)|(dsimp only;exact qj hN hp8)),(by (try dsimp only);exact⟨f8,by rw[upd_ne _ _ _ _ (by omega)];exact hR8⟩),(by first|(exact upd_same _ _ _)|(dsimp only;exact upd_same _ _ _)),(by (try dsimp only);exact (hst7.trans (hst8.down oW)).via (fun p p1 p2=>upd_ne _ _ _ _ (by omega)) (RStep.refl (Nat.le_refl _)) (by omega)),iv,iv,trivial⟩)
  obtain rfl:j=4:=by omega
  have hQ:hq2 q=some ⟨160,[[.v (.string (bs zt)),.i (nV 0 (x5,false)),.i (nV 1 (x5,false)),.i (nV 2 (x5,false)),.i (nV 3 (x5,false)),.v (.int .u64 0)]]⟩:=hQ;refine aB ?_;refine bf ?_;refine eB 1 (C:=Jl) (hct:=by exact nZ xs2 _ _ R ⟨fs2,ev⟩ hxl2) (hp:=?_) (hk:=?_)
  .
   rintro c9 h9 n9 ⟨rfl,hbad,hst9⟩
   try simp only[dK,dQ]
   exact eP _ (by exact⟨rfl,by rw[hsg,hps];exact tF (vF hp5 hN hbad (by omega)) (by omega),(RStep.via hs5 (fun _ _ _=>rfl) (hst7.trans (hst9.down oW)) (XX _))⟩) (hn:=XX _) (hh:=fun _=>.inl rfl)
  rintro res h9 n9 ⟨x9,hp9,rfl,hb9,hst9⟩
  try dsimp only at hst9
  have su:=hst9.1;obtain⟨f9,hR9⟩:=hb9;have hQ9:h9 q=some ⟨160,[[.v (.string (bs zt)),.i (nV 0 (x5,false)),.i (nV 1 (x5,false)),.i (nV 2 (x5,false)),.i (nV 3 (x5,false)),.v (.int .u64 0)]]⟩:=kp hst9;have hs7:=hst7.trans (hst9.down oW);have hn9:=(hs7.2 n (by omega) (by omega)).trans hn5
  have hC9:=(hs7.2 C (by omega) (by omega)).trans hC5
  have hr9:=(hs7.2 r (by omega) (by omega)).trans hr5
  have hs9:=RStep.via hs5 (fun _ _ _=>rfl) hs7 (XX _)
  have hsig:=OW hp5 hN hp9;rw[<- hzt] at hsig;have ff:=qE hR9 hQ9 hn9 hC9 (qI hr9 (nG R n9) (nG n n9) (nG C n9) (nG r n9) (nG q n9) (nH R n) (nH C R) (qI (nH R r) (nH R q) (nH C n) (nH n r) (nH n q) (nH C r) (nH C q) (nH q r) ff));have hx9:=Yb (jA hp9) hxl2;refine aN Jl ?_
  try simp only[aF]
  refine ah Jl ?_;refine ah Jl ?_
  show ∃ _,_
  exact ak (k+1,o++[(ek (xs,false)).1],x9,(n9+8),_,_) (h1:=⟨iv,(by (try dsimp only);rw[hps,hM,Bp,hsig,show N-(k+1)=M by omega]),(by (try dsimp only);rw[List.length_append,hol];rfl),(by (try dsimp only);exact⟨f9,ev⟩),(by (try dsimp only);simp only[go_sem,ff];first|done|exact rfl),(by (try dsimp only);rw[hsig];simp only[go_sem,ff,List.map_append,List.map_cons,List.map_nil];first|done|exact rfl),(by (try dsimp only);simp only[go_sem,ff];first|done|exact rfl),(by (try dsimp only);exact (rv hs9 (RStep.refl (Nat.le_refl _)))),(by first|(omega)|(dsimp only;omega)),(by first|(omega)|(dsimp only;omega)),iv,trivial⟩) (h5:=fun _=>.inl rfl)
 have hk3:N-k=0:=by omega
 rw[hk3] at hps
 refine aB ?_
 refine lZ C 4 r (rows:=o.map RSig.d) (off:=0) (len:=k) ev rfl ev om (by simp[hol]) vU ?_
 simp only[X8,lI,YM,YF]
 refine aa Jl ?_
 refine aO ?_
 exact uy (.inr rfl) (_) (hh:=fun _=>.inl rfl) (hr:=oS (k:=by rw[hsg,hps,Yp (by simp[hol])];exact⟨xs,rfl,rfl,⟨fs,ev⟩,(rv hst (RStep.refl (XX _)))⟩))
end Go.Proofs.YtjngdcldglkolaaGreatDoor
namespace Go.Proofs.YtjngdcldglkolaaGreatDoor
open Go.DL Go.Str Go.Rec Go.Cmp Go.Zon Go.Jn
set_option maxRecDepth 10000
variable [Glob Tryz.prog] [Told]
theorem xZ {st:RS}(h:st.2=true) (o:List Sgd):∀ k,dW k o st=(o,st)
 | 0=>rfl
 | k+1=>by unfold dW;rw[X4 h]
theorem xX {x:Str}{o:List Sgd}{k:Nat}:dW (k+1) o (x,false)=dW k (o++[(dB (x,false)).1]) (dB (x,false)).2:=rfl
theorem FK {x:Str}{o:List Sgd}{k:Nat}(h:(dB (x,false)).2.2=true) (hk:0<k):(dW k o (x,false)).2.2=true:=by
 obtain⟨j,rfl⟩:∃ j,k=j+1:=⟨k-1,om⟩
 rw[xX,xZ h]
 exact h
theorem FD : ∀ (k:Nat) (o:List RSig) (st:RS),(dV k o st).2.1.length<=st.1.length
 | 0,_,_=>XX _
 | k+1,o,st=>by
  have h : ∀ st:RS,(ek st).2.1.length<=st.1.length:=by
   intro st;have t : ∀ k (st:RS),(ag k st).2.1.length<=st.1.length:=fun k st=>fM k st
   have a:=fM (ag 1 st).1 (ag 1 st).2;have b:=t 1 st;rw[yO];have e : ∀ k (st:RS),(nN k st).1.length<=st.1.length:=by
    intro k
    induction k with
    | zero=>exact fun _=>XX _
    | succ k ih=>exact fun st=>Yb (t 8 _) (ih st)
   exact Yb (e 5 _) (Yb a b)
  unfold dV
  split
  .
   exact XX _
  exact Yb (FD k _ _) (h st)
theorem FN {x x':Str}(h:(dB (x,false)).2=(x',false)):x'.length<=x.length:=by
 have h1:(dB (x,false)).2.1.length<=x.length:=by
  have t : ∀ k (st:RS),(ag k st).2.1.length<=st.1.length:=fun k st=>fM k st
  have a:=fM (ag 2 (x,false)).1 (ag 2 (x,false)).2;have b:=t 2 (x,false);have c:(dz (x,false)).2.1.length<=(dD (x,false)).2.1.length:=by
   unfold dz
   split<;>exact XX _
  exact Yb (FD _ _ _) (Yb (t 1 _) (Yb c (Yb a b)))
 rw[h] at h1
 exact h1
theorem qZ {st:RS}(h:st.2=true):(dL st).2.2=true:=by
 show (dW _ _ _).2.2=true
 rw[xZ (lD h)]
 exact lD h
theorem FR {st:RS}(h:(ag 4 st).2.2=true):(dL st).2.2=true:=by
 show (dW _ _ _).2.2=true
 rw[xZ h]
 exact h
theorem FQ {x x4:Str}(h:(ag 4 (x,false)).2=(x4,false)):dL (x,false)=dW (ag 4 (x,false)).1 [] (x4,false):=by
 unfold dL
 rw[h]
theorem Nb {st:RS}(h:(aj st).2.2=true):(bX st).2.2=true:=qZ h
theorem Ev {x x2:Str}(h:(aj (x,false)).2=(x2,false)) (h2:(dL (x2,false)).2.2=true):(bX (x,false)).2.2=true:=by
 show (dL _).2.2=true
 rw[h]
 exact h2
theorem Na {x x2:Str}(h:(aj (x,false)).2=(x2,false)):bX (x,false)=(⟨(aj (x,false)).1,(dL (x2,false)).1⟩,(dL (x2,false)).2):=by
 unfold bX
 rw[h]
theorem tY {st:RS}(h:st.2=true) (o:List Qst):∀ k,dM k o st=(o,st)
 | 0=>rfl
 | k+1=>by unfold dM;rw[X4 h]
theorem BO {x:Str}{o:List Qst}{k:Nat}:dM (k+1) o (x,false)=dM k (o++[(fE (x,false)).1]) (fE (x,false)).2:=rfl
theorem G6 {x:Str}{o:List Qst}{k:Nat}(h:(fE (x,false)).2.2=true) (hk:0<k):(dM k o (x,false)).2.2=true:=by
 obtain⟨j,rfl⟩:∃ j,k=j+1:=⟨k-1,om⟩
 rw[BO,tY h]
 exact h
theorem Q6 {st:RS}(h:(aj st).2.2=true):(fE st).2.2=true:=lD h
theorem Q5 {x x2:Str}(h:(aj (x,false)).2=(x2,false)) (h2:(ag 1 (x2,false)).2.2=true):(fE (x,false)).2.2=true:=by
 show (ag 1 (aj (x,false)).2).2.2=true
 rw[h]
 exact h2
theorem QZ {x x2 x3:Str}(h:(aj (x,false)).2=(x2,false)) (h2:(ag 1 (x2,false)).2=(x3,false)):fE (x,false)=(⟨(aj (x,false)).1,IntKind.i64.wrap (((ag 1 (x2,false)).1:Nat):Int)⟩,(x3,false)):=by
 unfold fE
 rw[h,h2]
 rfl
theorem V7 {st:RS}(h:(aj st).2.2=true):(aZ st).2.2=true:=by
 unfold aZ
 simp only
 have h1:=lD (k:=8) h
 have h2:=lD (k:=8) h1
 have h3:=lD (k:=4) h2
 rw[tY h3]
 exact qZ h3
theorem V6 {x x2:Str}(h:(aj (x,false)).2=(x2,false)) (h2:(ag 8 (x2,false)).2.2=true):(aZ (x,false)).2.2=true:=by
 unfold aZ
 simp only[h]
 have h3:=lD (k:=8) h2
 have h4:=lD (k:=4) h3
 rw[tY h4]
 exact qZ h4
theorem V5 {x x2 x3:Str}(h:(aj (x,false)).2=(x2,false)) (h2:(ag 8 (x2,false)).2=(x3,false)) (h3:(ag 8 (x3,false)).2.2=true):(aZ (x,false)).2.2=true:=by
 unfold aZ
 simp only[h,h2]
 have h4:=lD (k:=4) h3
 rw[tY h4]
 exact qZ h4
theorem V4 {x x2 x3 x4:Str}(h:(aj (x,false)).2=(x2,false)) (h2:(ag 8 (x2,false)).2=(x3,false)) (h3:(ag 8 (x3,false)).2=(x4,false)) (h4:(ag 4 (x4,false)).2.2=true):(aZ (x,false)).2.2=true:=by
 unfold aZ
 simp only[h,h2,h3]
 rw[tY h4]
 exact qZ h4
theorem V3 {x x2 x3 x4 x5:Str}(h:(aj (x,false)).2=(x2,false)) (h2:(ag 8 (x2,false)).2=(x3,false)) (h3:(ag 8 (x3,false)).2=(x4,false)) (h4:(ag 4 (x4,false)).2=(x5,false)) :
  aZ (x,false)=(⟨(aj (x,false)).1,IntKind.i64.wrap (((ag 8 (x2,false)).1:Nat):Int),IntKind.i64.wrap (((ag 8 (x3,false)).1:Nat):Int),(dM (ag 4 (x4,false)).1 [] (x5,false)).1,(dL (dM (ag 4 (x4,false)).1 [] (x5,false)).2).1⟩,(dL (dM (ag 4 (x4,false)).1 [] (x5,false)).2).2):=by
 unfold aZ
 simp only[h,h2,h3,h4]
 rfl
set_option maxHeartbeats 2000000
theorem Xu:bY Tryz.prog 145=true:=by kernel_rfl
theorem TK (x:Str) (h:H) (n R:Nat) (hb:eU h R x) (hx:x.length<=1000000000):gZ Tryz.prog 145 [.mptr R 0 0] h n (fun d h' n'=>∃ x':Str,(bX (x,false)).2=(x',false)/\d = .agg (bX (x,false)).1.d/\eU h' R x'/\RStep h h' R n n') (fun c h' n'=>c=lC/\(bX (x,false)).2.2=true/\RStep h h' R n n'):=by
 refine sW Tryz.func145 rfl Xu (by simp[Tryz.f145]) (fun hnone=>?_)
 unfold Tryz.f145
 have ff:=True.intro
 obtain⟨f,hR⟩:=hb
 have hRn:R<n:=by rcases Zd R n with q|q;exact q;rw[hnone R q] at hR;cases hR
 have ff:=qD @hR (nG R n) (nH R n) ff
 refine aa Jl ?_
 refine bf ?_
 refine eB 1 (C:=Jl) (hct:=by exact zk x _ _ R ⟨f,ev⟩ hx) (hp:=?_) (hk:=?_)
 .
  rintro c9 h9 n9 ⟨rfl,hbad,hst9⟩
  try simp only[dK,dQ]
  exact eP _ (by exact⟨rfl,Nb hbad,(rv (RStep.refl (h:=h) (R:=R) (XX n)) hst9)⟩) (hn:=XX _) (hh:=fun _=>.inl rfl)
 rintro res h2 n2 ⟨x2,hp2,rfl,hb2,hst2⟩
 try dsimp only at hst2
 have hl2:=hst2.1
 obtain⟨f2,hR2⟩:=hb2
 have hn2:h2 n=some ⟨28,[[.v (.string (bs [])),.list true []]]⟩:=kp hst2
 have hs2:RStep h h2 R n n2:=(rv (RStep.refl (h:=h) (R:=R) (XX n)) hst2)
 have hze:=Na hp2
 obtain⟨zt,hzt⟩:∃ z,z=(aj (x,false)).1:=⟨_,rfl⟩
 try rw[<- hzt]
 rw[<- hzt] at hze
 have ff:=qE hR2 hn2 (nG R n2) (nG n n2) ff
 have hx2:=Yb (xD hp2) hx
 refine aN Jl ?_
 try simp only[aF]
 refine ae ?_
 refine mW (n2+3) 1 28 66 ev (by rfl) (by simp only[go_sem,ff]) ?_
 simp only[YM,YF]
 obtain⟨C,hCe⟩:∃ C,C=n2+3:=⟨_,rfl⟩
 rw[<- hCe]
 obtain⟨O,hOe⟩:∃ O,O=n2+5:=⟨_,rfl⟩
 rw[<- hOe]
 have ff:=qG (nH R n) (nH C R) (nH O R) (nH C n) (nH O n) (nH C O) ff
 refine bf ?_
 refine eB 1 (C:=Jl) (hct:=by exact zo x2 _ _ R ⟨f2,ev⟩ hx2) (hp:=?_) (hk:=?_)
 .
  rintro c9 h9 n9 ⟨rfl,hbad,hst9⟩
  try simp only[dK,dQ]
  exact eP _ (by exact⟨rfl,Ev hp2 (FR hbad),(rv hs2 hst9)⟩) (hn:=XX _) (hh:=fun _=>.inl rfl)
 rintro res h4 n4 ⟨x4,hp4,rfl,hb4,hst4⟩
 try dsimp only at hst4
 have hl4:=hst4.1
 obtain⟨f4,hR4⟩:=hb4
 have hn4:h4 n=some ⟨28,[[.v (.string (bs [])),.list true []]]⟩:=kp hst4
 have hC4:h4 C=some ⟨28,[[.v (.string (bs zt)),.mrow O 0 0]]⟩:=kp hst4
 have hO4:h4 O=some ⟨66,[]⟩:=kp hst4
 have hs4:RStep h h4 R n n4:=(rv hs2 hst4)
 have hNl:(ag 4 (x2,false)).1<256^4:=j6 4 (x2,false)
 have hsg:=FQ hp4
 obtain⟨N,hNe⟩:∃ N,N=(ag 4 (x2,false)).1:=⟨_,rfl⟩
 try rw[<- hNe]
 rw[<- hNe] at hNl hsg
 have ff:=qI hR4 hn4 hC4 hO4 (nG R n4) (nG n n4) (nG C n4) (nG O n4) ff
 have hx4:=Yb (jA hp4) hx2
 refine aN Jl ?_
 try simp only[aF]
 refine ai ?_
 refine eF (α:=(Nat)×(List Sgd)×(Str)×(Nat)×(H)×Nat) [0,2,3,8] (fun ⟨k,o,xs,r,hq,nx⟩=>(k<=N)/\(dW N [] (x4,false)=dW (N-k) o (xs,false))/\(o.length=k)/\(eU hq R xs)/\(hq C=some ⟨28,[[.v (.string (bs zt)),.mrow r 0 k]]⟩)/\(hq r=some ⟨66,(o).map Sgd.d⟩)/\(hq n=some ⟨28,[[.v (.string (bs [])),.list true []]]⟩)/\(RStep h hq R n nx)/\(C<r)/\(r<nx)/\(xs.length<=1000000000)/\True) (fun ⟨k,o,xs,r,hq,nx⟩=>N-k) (fun ⟨k,o,xs,r,hq,nx⟩=>[(9,.v (.int .u64 ((k:Nat):Int)))]) (fun ⟨k,o,xs,r,hq,nx⟩=>hq) (fun ⟨k,o,xs,r,hq,nx⟩=>nx) (0,[],x4,O,h4,_) (hA:=⟨iv,rfl,rfl,(by first|(exact⟨f4,hR4⟩)|(dsimp only;exact⟨f4,hR4⟩)),(by first|(exact hC4)|(dsimp only;exact hC4)),(by first|(exact hO4)|(dsimp only;exact hO4)),(by first|(exact hn4)|(dsimp only;exact hn4)),(by first|(exact hs4.up om)|(dsimp only;exact hs4.up om)),(by first|(omega)|(dsimp only;omega)),(by first|(omega)|(dsimp only;omega)),iv,trivial⟩) (round:=?_)
 rintro⟨k,o,xs,r,hq,nx⟩ ⟨hk,hps,hol,hb7,hC,hr,hn,hst,hCr,hrx,hxl, -⟩
 simp only[X0,X3]
 obtain⟨fs,hR7⟩:=hb7
 have e7:=pK (n:=k+1) (by omega)
 have e7b:((k+1:Nat):Int)=(k:Int)+1:=by omega
 rw[e7b] at e7
 have ff:=qH @hR7 @hC @hr @hn @e7 (nG R nx) (nG n nx) (qI (nG C nx) (nG r nx) (nH R n) (nH C R) (nH R r) (nH C n) (nH n r) (nH C r) ff)
 refine aa Jl ?_
 refine ae ?_
 refine cd (fun c1=>?_) (fun c1=>?_)
 .
  have hk2:k<N:=by omega
  obtain⟨M,hM⟩:∃ M,N-k=M+1:=⟨N-k-1,om⟩;refine dw_skip ?_;refine ae ?_;refine ai ?_;refine Ac Jl 3 4 5 [(1,11)] (R:=_) (X:=_) (hct:=by exact Jt xs _ _ R ⟨fs,ev⟩ hxl) (hkeep:=?kp16) (hFo:=?fo16) (hk:=?kk16) (hp:=?pp16)
  case kp16 =>
   rintro res h2 n2 ⟨_,_,_,_,hst9⟩ p hp r9 hrr;simp only[Yq] at hp;subst hp;simp only[go_sem,ff,sd,named,YG] at hrr ⊢;subst hrr;exact hst9.2 _ oW om
  case fo16 =>
   rintro res h2 n2 ⟨_,_,rfl,_,_⟩
   (try simp only[Yf,X8,Ya,Yj,S.put,YC,Nat.reduceSub,Nat.reduceAdd,go_sem,ff]);all_goals exact ok0
  case pp16 =>
   rintro c9 h9 n9 ⟨rfl,hbad,hst9⟩ t9
   try simp only[dK,dQ]
   exact eP _ (by exact⟨rfl,Ev hp2 (by rw[hsg,hps];exact FK hbad (by omega)),(rv hst hst9)⟩) (hn:=XX _) (hh:=fun _=>.inl rfl)
  rintro res h5 n5 ⟨x5,hp5,rfl,hb5,hst5⟩
  try dsimp only at hst5
  have hl5:=hst5.1;obtain⟨f5,hR5⟩:=hb5;have hn5:h5 n=some ⟨28,[[.v (.string (bs [])),.list true []]]⟩:=kp hst5;have hC5:h5 C=some ⟨28,[[.v (.string (bs zt)),.mrow r 0 k]]⟩:=kp hst5;have hr5:h5 r=some ⟨66,(o).map Sgd.d⟩:=kp hst5;have hs5:RStep h h5 R n n5:=(rv hst hst5);have ff:=qI hR5 hn5 hC5 hr5 (nG R n5) (nG n n5) (nG C n5) (nG r n5) ff;have hx5:=Yb (FN hp5) hxl;have hsig:dB (xs,false)=((dB (xs,false)).1,(x5,false)):=Prod.ext rfl hp5;refine gto ?_;refine aN Jl ?_
  try simp only[aF]
  refine ah Jl ?_
  show ∃ _,_
  exact ak (k+1,o++[(dB (xs,false)).1],x5,(n5+5),_,_) (h1:=⟨iv,(by (try dsimp only);rw[hps,hM,xX,hsig,show N-(k+1)=M by omega]),(by (try dsimp only);rw[List.length_append,hol];rfl),(by (try dsimp only);exact⟨f5,ev⟩),(by (try dsimp only);simp only[go_sem,ff];first|done|exact rfl),(by (try dsimp only);simp only[go_sem,ff,List.map_append,List.map_cons,List.map_nil];first|done|exact rfl),(by (try dsimp only);simp only[go_sem,ff];first|done|exact rfl),(by (try dsimp only);exact (rv hs5 (RStep.refl (Nat.le_refl _)))),(by first|(omega)|(dsimp only;omega)),(by first|(omega)|(dsimp only;omega)),iv,trivial⟩) (h5:=fun _=>.inl rfl)
 have hk3:N-k=0:=by omega
 rw[hk3] at hps
 refine aB ?_
 refine lZ C 1 r (rows:=o.map Sgd.d) (off:=0) (len:=k) ev rfl ev om (by simp[hol]) ug ?_
 simp only[X8,lI,YM,YF]
 refine aa Jl ?_
 refine aO ?_
 exact uy (.inr rfl) (_) (hh:=fun _=>.inl rfl) (hr:=oS (k:=by rw[hze,hsg,hps,Yp (by simp[hol])];exact⟨xs,rfl,rfl,⟨fs,ev⟩,(rv hst (RStep.refl (XX _)))⟩))
end Go.Proofs.YtjngdcldglkolaaGreatDoor
namespace Go.Proofs.YtjngdcldglkolaaGreatDoor
open Go.DL Go.Str Go.Rec Go.Cmp Go.Zon Go.Jn
set_option maxRecDepth 10000
variable [Glob Tryz.prog] [Told]
set_option maxHeartbeats 2000000
theorem Xr:bY Tryz.prog 148=true:=by kernel_rfl
theorem TZ (x:Str) (h:H) (n R:Nat) (hb:eU h R x) (hx:x.length<=1000000000):gZ Tryz.prog 148 [.mptr R 0 0] h n (fun d h' n'=>∃ x':Str,(aZ (x,false)).2=(x',false)/\d = .agg (aZ (x,false)).1.d/\eU h' R x'/\RStep h h' R n n') (fun c h' n'=>c=lC/\(aZ (x,false)).2.2=true/\RStep h h' R n n'):=by
 refine sW Tryz.func148 rfl Xr (by simp[Tryz.f148]) (fun hnone=>?_)
 unfold Tryz.f148
 have ff:=True.intro
 obtain⟨f,hR⟩:=hb
 have hRn:R<n:=by rcases Zd R n with q|q;exact q;rw[hnone R q] at hR;cases hR
 have ff:=qD @hR (nG R n) (nH R n) ff
 refine aa Jl ?_
 refine bf ?_
 refine eB 1 (C:=Jl) (hct:=by exact zk x _ _ R ⟨f,ev⟩ hx) (hp:=?_) (hk:=?_)
 .
  rintro c9 h9 n9 ⟨rfl,hbad,hst9⟩
  try simp only[dK,dQ]
  exact eP _ (by exact⟨rfl,V7 hbad,(rv (RStep.refl (h:=h) (R:=R) (XX n)) hst9)⟩) (hn:=XX _) (hh:=fun _=>.inl rfl)
 rintro res h2 n2 ⟨x2,hp2,rfl,hb2,hst2⟩
 try dsimp only at hst2
 have hl2:=hst2.1
 obtain⟨f2,hR2⟩:=hb2
 have kn2:h2 n=some ⟨31,[[.v (.string (bs [])),.i 0,.i 0,.list true [],.list true []]]⟩:=kp hst2
 have hs2:RStep h h2 R n n2:=(rv (RStep.refl (h:=h) (R:=R) (XX n)) hst2)
 have hx2:=Yb (xD hp2) hx
 obtain⟨zt,ezt⟩:∃ v,v=(aj (x,false)).1:=⟨_,rfl⟩
 try rw[<- ezt]
 have ff:=qE hR2 kn2 (nG R n2) (nG n n2) ff
 refine aN Jl ?_
 try simp only[aF]
 obtain⟨C,hCe⟩:∃ C,C=n2+3:=⟨_,rfl⟩
 rw[<- hCe]
 have ff:=qD (nH R n) (nH C R) (nH C n) ff
 refine bf ?_
 refine eB 1 (C:=Jl) (hct:=by exact nZ x2 _ _ R ⟨f2,ev⟩ hx2) (hp:=?_) (hk:=?_)
 .
  rintro c9 h9 n9 ⟨rfl,hbad,hst9⟩
  try simp only[dK,dQ]
  exact eP _ (by exact⟨rfl,V6 hp2 hbad,(rv hs2 hst9)⟩) (hn:=XX _) (hh:=fun _=>.inl rfl)
 rintro res h3 n3 ⟨x3,hp3,rfl,hb3,hst3⟩
 try dsimp only at hst3
 have hl3:=hst3.1
 obtain⟨f3,hR3⟩:=hb3
 have kn3:h3 n=some ⟨31,[[.v (.string (bs [])),.i 0,.i 0,.list true [],.list true []]]⟩:=kp hst3
 have kC3:h3 C=some ⟨31,[[.v (.string (bs zt)),.i 0,.i 0,.list true [],.list true []]]⟩:=kp hst3
 have hs3:RStep h h3 R n n3:=(rv hs2 hst3)
 have hx3:=Yb (jA hp3) hx2
 obtain⟨v2,ev2⟩:∃ v,v=(ag 8 (x2,false)).1:=⟨_,rfl⟩
 try rw[<- ev2]
 have ff:=qG hR3 kn3 kC3 (nG R n3) (nG n n3) (nG C n3) ff
 refine aN Jl ?_
 try simp only[aF]
 refine bf ?_
 refine eB 1 (C:=Jl) (hct:=by exact nZ x3 _ _ R ⟨f3,ev⟩ hx3) (hp:=?_) (hk:=?_)
 .
  rintro c9 h9 n9 ⟨rfl,hbad,hst9⟩
  try simp only[dK,dQ]
  exact eP _ (by exact⟨rfl,V5 hp2 hp3 hbad,(rv hs3 hst9)⟩) (hn:=XX _) (hh:=fun _=>.inl rfl)
 rintro res h4 n4 ⟨x4,hp4,rfl,hb4,hst4⟩
 try dsimp only at hst4
 have hl4:=hst4.1
 obtain⟨f4,hR4⟩:=hb4
 have kn4:h4 n=some ⟨31,[[.v (.string (bs [])),.i 0,.i 0,.list true [],.list true []]]⟩:=kp hst4
 have kC4:h4 C=some ⟨31,[[.v (.string (bs zt)),.i (IntKind.i64.wrap ((v2:Nat):Int)),.i 0,.list true [],.list true []]]⟩:=kp hst4
 have hs4:RStep h h4 R n n4:=(rv hs3 hst4)
 have hx4:=Yb (jA hp4) hx3
 obtain⟨v3,ev3⟩:∃ v,v=(ag 8 (x3,false)).1:=⟨_,rfl⟩
 try rw[<- ev3]
 have ff:=qG hR4 kn4 kC4 (nG R n4) (nG n n4) (nG C n4) ff
 refine aN Jl ?_
 try simp only[aF]
 refine ae ?_
 refine mW C 3 31 86 ev (by rfl) (by simp only[go_sem,ff]) ?_
 simp only[YM,YF]
 obtain⟨r,hre⟩:∃ r,r=n4+5:=⟨_,rfl⟩
 rw[<- hre]
 have ff:=qG (nH R n) (nH C R) (nH R r) (nH C n) (nH n r) (nH C r) ff
 refine bf ?_
 refine eB 1 (C:=Jl) (hct:=by exact zo x4 _ _ R ⟨f4,ev⟩ hx4) (hp:=?_) (hk:=?_)
 .
  rintro c9 h9 n9 ⟨rfl,hbad,hst9⟩
  try simp only[dK,dQ]
  exact eP _ (by exact⟨rfl,V4 hp2 hp3 hp4 hbad,(rv hs4 hst9)⟩) (hn:=XX _) (hh:=fun _=>.inl rfl)
 rintro res h5 n5 ⟨x5,hp5,rfl,hb5,hst5⟩
 try dsimp only at hst5
 have hl5:=hst5.1
 obtain⟨f5,hR5⟩:=hb5
 have kn5:h5 n=some ⟨31,[[.v (.string (bs [])),.i 0,.i 0,.list true [],.list true []]]⟩:=kp hst5
 have kC5:h5 C=some ⟨31,[[.v (.string (bs zt)),.i (IntKind.i64.wrap ((v2:Nat):Int)),.i (IntKind.i64.wrap ((v3:Nat):Int)),.mrow r 0 0,.list true []]]⟩:=kp hst5
 have kr5:h5 r=some ⟨86,[]⟩:=kp hst5
 have hs5:RStep h h5 R n n5:=(rv hs4 hst5)
 have hx5:=Yb (jA hp5) hx4
 have hde:=V3 hp2 hp3 hp4 hp5
 have hNl:(ag 4 (x4,false)).1<256^4:=j6 4 (x4,false)
 obtain⟨N,eN⟩:∃ v,v=(ag 4 (x4,false)).1:=⟨_,rfl⟩
 try rw[<- eN]
 rw[<- eN] at hNl hde
 rw[<- ezt,<- ev2,<- ev3] at hde
 have ff:=qI hR5 kn5 kC5 kr5 (nG R n5) (nG n n5) (nG C n5) (nG r n5) ff
 refine aN Jl ?_
 try simp only[aF]
 refine ai ?_
 refine eF (α:=(Nat)×(List Qst)×(Str)×(Nat)×(H)×Nat) [0,2,3,17] (fun ⟨k,o,xs,r,hq,nx⟩=>(k<=N)/\(dM N [] (x5,false)=dM (N-k) o (xs,false))/\(o.length=k)/\(eU hq R xs)/\(hq C=some ⟨31,[[.v (.string (bs zt)),.i (IntKind.i64.wrap ((v2:Nat):Int)),.i (IntKind.i64.wrap ((v3:Nat):Int)),.mrow r 0 k,.list true []]]⟩)/\(hq r=some ⟨86,(o).map Qst.d⟩)/\(hq n=some ⟨31,[[.v (.string (bs [])),.i 0,.i 0,.list true [],.list true []]]⟩)/\(RStep h hq R n nx)/\(C<r)/\(r<nx)/\(xs.length<=1000000000)/\True) (fun ⟨k,o,xs,r,hq,nx⟩=>N-k) (fun ⟨k,o,xs,r,hq,nx⟩=>[(18,.v (.int .u64 ((k:Nat):Int)))]) (fun ⟨k,o,xs,r,hq,nx⟩=>hq) (fun ⟨k,o,xs,r,hq,nx⟩=>nx) (0,[],x5,r,h5,_) (hA:=⟨iv,rfl,rfl,(by first|(exact⟨f5,hR5⟩)|(dsimp only;exact⟨f5,hR5⟩)),(by first|(exact kC5)|(dsimp only;exact kC5)),(by first|(exact kr5)|(dsimp only;exact kr5)),(by first|(exact kn5)|(dsimp only;exact kn5)),(by first|(exact hs5.up om)|(dsimp only;exact hs5.up om)),(by first|(omega)|(dsimp only;omega)),(by first|(omega)|(dsimp only;omega)),iv,trivial⟩) (round:=?_)
 rintro⟨k,o,xs,r,hq,nx⟩ ⟨hk,hps,hol,hb7,hC,hr,hn,hst,hCr,hrx,hxl, -⟩
 simp only[X0,X3]
 obtain⟨fs,hR7⟩:=hb7
 have e7:=pK (n:=k+1) (by omega)
 have e7b:((k+1:Nat):Int)=(k:Int)+1:=by omega
 rw[e7b] at e7
 have ff:=qH @hR7 @hC @hr @hn @e7 (nG R nx) (nG n nx) (qI (nG C nx) (nG r nx) (nH R n) (nH C R) (nH R r) (nH C n) (nH n r) (nH C r) ff)
 refine aa Jl ?_
 refine ae ?_
 refine cd (fun c1=>?_) (fun c1=>?_)
 .
  have hk2:k<N:=by omega
  obtain⟨M,hM⟩:∃ M,N-k=M+1:=⟨N-k-1,om⟩;refine dw_skip ?_;refine ae ?_;refine ai ?_;refine bf ?_;refine eB 1 (C:=Jl) (hct:=by exact zk xs _ _ R ⟨fs,ev⟩ hxl) (hp:=?_) (hk:=?_)
  .
   rintro c9 h9 n9 ⟨rfl,hbad,hst9⟩
   try simp only[dK,dQ]
   exact eP _ (by exact⟨rfl,by rw[hde,hps];exact qZ (G6 (Q6 hbad) (by omega)),(rv hst hst9)⟩) (hn:=XX _) (hh:=fun _=>.inl rfl)
  rintro res h6 n6 ⟨x6,hp6,rfl,hb6,hst6⟩
  try dsimp only at hst6
  have hl6:=hst6.1;obtain⟨f6,hR6⟩:=hb6;have kn6:h6 n=some ⟨31,[[.v (.string (bs [])),.i 0,.i 0,.list true [],.list true []]]⟩:=kp hst6;have kC6:h6 C=some ⟨31,[[.v (.string (bs zt)),.i (IntKind.i64.wrap ((v2:Nat):Int)),.i (IntKind.i64.wrap ((v3:Nat):Int)),.mrow r 0 k,.list true []]]⟩:=kp hst6;have kr6:h6 r=some ⟨86,(o).map Qst.d⟩:=kp hst6;have hs6:RStep h h6 R n n6:=(rv hst hst6);have hx6:=Yb (xD hp6) hxl;obtain⟨qt,eqt⟩:∃ v,v=(aj (xs,false)).1:=⟨_,rfl⟩
  try rw[<- eqt]
  have ff:=qI hR6 kn6 kC6 kr6 (nG R n6) (nG n n6) (nG C n6) (nG r n6) ff;refine aN Jl ?_
  try simp only[aF]
  obtain⟨q,hqe⟩:∃ q,q=n6+3:=⟨_,rfl⟩;rw[<- hqe];simp only[kJ];have ff:=qB (nH R n) (nH C R) (qI (nH R r) (nH R q) (nH C n) (nH n r) (nH n q) (nH C r) (nH C q) (nH q r) ff);refine bf ?_;refine eB 1 (C:=Jl) (hct:=by exact CR x6 _ _ R ⟨f6,ev⟩ hx6) (hp:=?_) (hk:=?_)
  .
   rintro c9 h9 n9 ⟨rfl,hbad,hst9⟩
   try simp only[dK,dQ]
   exact eP _ (by exact⟨rfl,by rw[hde,hps];exact qZ (G6 (Q5 hp6 hbad) (by omega)),(rv hs6 hst9)⟩) (hn:=XX _) (hh:=fun _=>.inl rfl)
  rintro res h7 n7 ⟨x7,hp7,rfl,hb7,hst7⟩
  try dsimp only at hst7
  have wz:=hst7.1;obtain⟨f7,hR7⟩:=hb7;have kn7:h7 n=some ⟨31,[[.v (.string (bs [])),.i 0,.i 0,.list true [],.list true []]]⟩:=kp hst7;have kC7:h7 C=some ⟨31,[[.v (.string (bs zt)),.i (IntKind.i64.wrap ((v2:Nat):Int)),.i (IntKind.i64.wrap ((v3:Nat):Int)),.mrow r 0 k,.list true []]]⟩:=kp hst7;have kr7:h7 r=some ⟨86,(o).map Qst.d⟩:=kp hst7;have kq7:h7 q=some ⟨86,[[.v (.string (bs qt)),.i 0]]⟩:=kp hst7;have hs7:RStep h h7 R n n7:=(rv hs6 hst7);have hx7:=Yb (jA hp7) hx6;have hqo:=QZ hp6 hp7;rw[<- eqt] at hqo;have ff:=qB hR7 kn7 (qI kC7 kr7 kq7 (nG R n7) (nG n n7) (nG C n7) (nG r n7) (nG q n7) ff);refine aN Jl ?_
  try simp only[aF]
  refine ah Jl ?_;refine ah Jl ?_
  show ∃ _,_
  exact ak (k+1,o++[(fE (xs,false)).1],x7,(n7+9),_,_) (h1:=⟨iv,(by (try dsimp only);rw[hps,hM,BO,hqo,show N-(k+1)=M by omega]),(by (try dsimp only);rw[List.length_append,hol];rfl),(by (try dsimp only);exact⟨f7,ev⟩),(by (try dsimp only);simp only[go_sem,ff];first|done|exact rfl),(by (try dsimp only);rw[hqo];simp only[go_sem,ff,List.map_append,List.map_cons,List.map_nil];first|done|exact rfl),(by (try dsimp only);simp only[go_sem,ff];first|done|exact rfl),(by (try dsimp only);exact (rv hs7 (RStep.refl (Nat.le_refl _)))),(by first|(omega)|(dsimp only;omega)),(by first|(omega)|(dsimp only;omega)),iv,trivial⟩) (h5:=fun _=>.inl rfl)
 have hk3:N-k=0:=by omega
 rw[hk3] at hps
 have hps:dM N [] (x5,false)=(o,(xs,false)):=hps
 obtain⟨DQ,hDQ⟩:∃ l,l=o:=⟨_,rfl⟩
 refine aB ?_
 refine ae ?_
 refine lZ C 3 r (rows:=o.map Qst.d) (off:=0) (len:=k) ev rfl ev om (by simp[hol]) IB ?_
 simp only[X8,lI,YM,YF]
 rw[Yp (by simp[hol]),<- hDQ]
 refine mW C 4 31 66 ev (by rfl) (by simp only[go_sem,ff]) ?_
 simp only[YM,YF]
 obtain⟨p,hpe⟩:∃ p,p=nx+1:=⟨_,rfl⟩
 rw[<- hpe]
 have ff:=qH (nH R n) (nH C R) (nH R p) (nH C n) (nH n p) (nH C p) (nH p r) ff
 refine bf ?_
 refine eB 1 (C:=Jl) (hct:=by exact zo xs _ _ R ⟨fs,ev⟩ hxl) (hp:=?_) (hk:=?_)
 .
  rintro c9 h9 n9 ⟨rfl,hbad,hst9⟩
  try simp only[dK,dQ]
  exact eP _ (by exact⟨rfl,by rw[hde,hps];exact FR hbad,(rv hst hst9)⟩) (hn:=XX _) (hh:=fun _=>.inl rfl)
 rintro res h8 n8 ⟨x8,hp8,rfl,hb8,hst8⟩
 try dsimp only at hst8
 have iy:=hst8.1
 obtain⟨f8,hR8⟩:=hb8
 have kn8:h8 n=some ⟨31,[[.v (.string (bs [])),.i 0,.i 0,.list true [],.list true []]]⟩:=kp hst8
 have kC8:h8 C=some ⟨31,[[.v (.string (bs zt)),.i (IntKind.i64.wrap ((v2:Nat):Int)),.i (IntKind.i64.wrap ((v3:Nat):Int)),.list false (DQ.map Qst.d),.mrow p 0 0]]⟩:=kp hst8
 have kp8:h8 p=some ⟨66,[]⟩:=kp hst8
 have hs8:RStep h h8 R n n8:=(rv hst hst8)
 have hx8:=Yb (jA hp8) hxl
 rw[hps,FQ hp8,<- hDQ] at hde
 have hMl:(ag 4 (xs,false)).1<256^4:=j6 4 (xs,false)
 obtain⟨M,eM⟩:∃ v,v=(ag 4 (xs,false)).1:=⟨_,rfl⟩
 try rw[<- eM]
 rw[<- eM] at hMl hde
 have ff:=qI hR8 kn8 kC8 kp8 (nG R n8) (nG n n8) (nG C n8) (nG p n8) ff
 refine aN Jl ?_
 try simp only[aF]
 refine ai ?_
 refine eF (α:=(Nat)×(List Sgd)×(Str)×(Nat)×(H)×Nat) [0,2,3,35] (fun ⟨k,o,xs2,p,hq2,nx⟩=>(k<=M)/\(dW M [] (x8,false)=dW (M-k) o (xs2,false))/\(o.length=k)/\(eU hq2 R xs2)/\(hq2 C=some ⟨31,[[.v (.string (bs zt)),.i (IntKind.i64.wrap ((v2:Nat):Int)),.i (IntKind.i64.wrap ((v3:Nat):Int)),.list false (DQ.map Qst.d),.mrow p 0 k]]⟩)/\(hq2 p=some ⟨66,(o).map Sgd.d⟩)/\(hq2 n=some ⟨31,[[.v (.string (bs [])),.i 0,.i 0,.list true [],.list true []]]⟩)/\(RStep h hq2 R n nx)/\(C<p)/\(p<nx)/\(xs2.length<=1000000000)/\True) (fun ⟨k,o,xs2,p,hq2,nx⟩=>M-k) (fun ⟨k,o,xs2,p,hq2,nx⟩=>[(36,.v (.int .u64 ((k:Nat):Int)))]) (fun ⟨k,o,xs2,p,hq2,nx⟩=>hq2) (fun ⟨k,o,xs2,p,hq2,nx⟩=>nx) (0,[],x8,p,h8,_) (hA:=⟨iv,rfl,rfl,(by first|(exact⟨f8,hR8⟩)|(dsimp only;exact⟨f8,hR8⟩)),(by first|(exact kC8)|(dsimp only;exact kC8)),(by first|(exact kp8)|(dsimp only;exact kp8)),(by first|(exact kn8)|(dsimp only;exact kn8)),(by first|(exact hs8.up om)|(dsimp only;exact hs8.up om)),(by first|(omega)|(dsimp only;omega)),(by first|(omega)|(dsimp only;omega)),iv,trivial⟩) (round:=?_)
 rintro⟨k,o,xs2,p,hq2,nx⟩ ⟨hk,hps2,hol2,hb7,hC,hr,hn,hst2,hCr,hrx,hxl2, -⟩
 simp only[X0,X3]
 obtain⟨fs2,hR7⟩:=hb7
 have e7:=pK (n:=k+1) (by omega)
 have e7b:((k+1:Nat):Int)=(k:Int)+1:=by omega
 rw[e7b] at e7
 have ff:=qH @hR7 @hC @hr @hn @e7 (nG R nx) (nG n nx) (qI (nG C nx) (nG p nx) (nH R n) (nH C R) (nH R p) (nH C n) (nH n p) (nH C p) ff)
 refine aa Jl ?_
 refine ae ?_
 refine cd (fun c2=>?_) (fun c2=>?_)
 .
  have hk2:k<M:=by omega
  obtain⟨L,hL⟩:∃ L,M-k=L+1:=⟨M-k-1,om⟩;refine dw_skip ?_;refine ae ?_;refine ai ?_;refine Ac Jl 3 4 5 [(1,38)] (R:=_) (X:=_) (hct:=by exact Jt xs2 _ _ R ⟨fs2,ev⟩ hxl2) (hkeep:=?kp24) (hFo:=?fo24) (hk:=?kk24) (hp:=?pp24)
  case kp24 =>
   rintro res h2 n2 ⟨_,_,_,_,hst9⟩ p hp r9 hrr;simp only[Yq] at hp;subst hp;simp only[go_sem,ff,sd,named,YG] at hrr ⊢;subst hrr;exact hst9.2 _ oW om
  case fo24 =>
   rintro res h2 n2 ⟨_,_,rfl,_,_⟩
   (try simp only[Yf,X8,Ya,Yj,S.put,YC,Nat.reduceSub,Nat.reduceAdd,go_sem,ff]);all_goals exact ok0
  case pp24 =>
   rintro c9 h9 n9 ⟨rfl,hbad,hst9⟩ t9
   try simp only[dK,dQ]
   exact eP _ (by exact⟨rfl,by rw[hde,hps2];exact FK hbad (by omega),(rv hst2 hst9)⟩) (hn:=XX _) (hh:=fun _=>.inl rfl)
  rintro res h9 n9 ⟨x9,hp9,rfl,hb9,hst9⟩
  try dsimp only at hst9
  have su:=hst9.1;obtain⟨f9,hR9⟩:=hb9;have hn9:h9 n=some ⟨31,[[.v (.string (bs [])),.i 0,.i 0,.list true [],.list true []]]⟩:=kp hst9;have hC9:h9 C=some ⟨31,[[.v (.string (bs zt)),.i (IntKind.i64.wrap ((v2:Nat):Int)),.i (IntKind.i64.wrap ((v3:Nat):Int)),.list false (DQ.map Qst.d),.mrow p 0 k]]⟩:=kp hst9;have hp9b:h9 p=some ⟨66,(o).map Sgd.d⟩:=kp hst9;have hs9:RStep h h9 R n n9:=(rv hst2 hst9);have ff:=qI hR9 hn9 hC9 hp9b (nG R n9) (nG n n9) (nG C n9) (nG p n9) ff;have hx9:=Yb (FN hp9) hxl2;have hsig:dB (xs2,false)=((dB (xs2,false)).1,(x9,false)):=Prod.ext rfl hp9;refine gto ?_;refine aN Jl ?_
  try simp only[aF]
  refine ah Jl ?_
  show ∃ _,_
  exact ak (k+1,o++[(dB (xs2,false)).1],x9,(n9+5),_,_) (h1:=⟨iv,(by (try dsimp only);rw[hps2,hL,xX,hsig,show M-(k+1)=L by omega]),(by (try dsimp only);rw[List.length_append,hol2];rfl),(by (try dsimp only);exact⟨f9,ev⟩),(by (try dsimp only);simp only[go_sem,ff];first|done|exact rfl),(by (try dsimp only);simp only[go_sem,ff,List.map_append,List.map_cons,List.map_nil];first|done|exact rfl),(by (try dsimp only);simp only[go_sem,ff];first|done|exact rfl),(by (try dsimp only);exact (rv hs9 (RStep.refl (Nat.le_refl _)))),(by first|(omega)|(dsimp only;omega)),(by first|(omega)|(dsimp only;omega)),iv,trivial⟩) (h5:=fun _=>.inl rfl)
 have hk3:M-k=0:=by omega
 rw[hk3] at hps2
 refine aB ?_
 refine lZ C 4 p (rows:=o.map Sgd.d) (off:=0) (len:=k) ev rfl ev om (by simp[hol2]) ug ?_
 simp only[X8,lI,YM,YF]
 refine aa Jl ?_
 refine aO ?_
 exact uy (.inr rfl) (_) (hh:=fun _=>.inl rfl) (hr:=oS (k:=by rw[hde,hps2,Yp (by simp[hol2])];exact⟨xs2,rfl,rfl,⟨fs2,ev⟩,(rv hst2 (RStep.refl (XX _)))⟩))
end Go.Proofs.YtjngdcldglkolaaGreatDoor
namespace Go.Proofs.YtjngdcldglkolaaGreatDoor
open Go.RowKit Go.Extern.Stop Go.Stop Go.Extern Go.DL
theorem Uf (v:Value) (w:World):(Extern.ReflectliteType.typeOf #[.iface 290 v]).run Tryz.prog w = .ok (.iface 264 (.agg #[.pointer (some ⟨4,290,none⟩)])) w:=by kernel_rfl
def LZ : Array Value -> Sem Value := Extern.ReflectliteType.method fun t => do Go.Extern.Rtype.noPackHeld "Comparable" t; pure (.bool (<- typeInfo t).comparable)
theorem Ul (w:World):(LZ #[.agg #[.pointer (some ⟨4,290,none⟩)]]).run Tryz.prog w = .ok (.bool true) w:=by kernel_rfl
theorem Uj (v : Value) (w : World) : (Go.method 424 264 v "Comparable").run Tryz.prog w = .ok (266, v) w := by kernel_rfl
theorem Um:(Tryz.prog.info? 290).map (·.comparable)=some true:=by kernel_rfl
theorem Uh:(Tryz.prog.info? 313).map (·.size)=some 1:=by kernel_rfl
theorem Ud (a:Addr) (w:World) :
  Calls Tryz.prog 146 #[.iface 290 (.pointer (some a)),.iface 290 (.pointer (some a))] w fun e w'=>e = .returned (.bool true)/\w'=w:=by
 obtain⟨i,hi,hcmp⟩:=Option.map_eq_some_iff.1 Um
 obtain⟨j,hj,hjs⟩:=Option.map_eq_some_iff.1 Uh
 have h8:=@run_callFunc_extern Tryz.prog 197 _ Extern.ReflectliteType.typeOf Tryz.func197 (by kernel_rfl) (by kernel_rfl) (by kernel_rfl) (by kernel_rfl)
 have h32:=@run_callFunc_extern Tryz.prog 266 _ LZ Tryz.func266 (by kernel_rfl) (by kernel_rfl) (by kernel_rfl) (by kernel_rfl)
 have tT:=Uf
 have cT:=Ul
 have mR:=Uj
 have heq:=run_eql_iface_ptr_same (P:=Tryz.prog) w a Tryz.underlying125 Tryz.underlying290 hi hcmp hj
 go_enter Tryz.func146,Tryz.ntmps146
 go_wp2
 refine wp_loop_rounds 1 ?_
 rw[rounds_succ]
 go_wp2
 go_ret
 exact⟨rfl,rfl⟩
theorem Ue (b:Addr) (w:World) :
  Calls Tryz.prog 146 #[.nilIface,.iface 290 (.pointer (some b))] w fun e w'=>e = .returned (.bool false)/\w'=w:=by
 have hn:=run_eql_iface_nil_left (P:=Tryz.prog) w 290 (.pointer (some b)) Tryz.underlying125
 go_enter Tryz.func146,Tryz.ntmps146
 go_wp2
 go_ret
 exact⟨rfl,rfl⟩
variable [Glob Tryz.prog] [Told]
noncomputable def uz (b:Bool):Value:=if b then fJ dZ else .nilIface
theorem Hr {x y z:Value}(h : ∀ w,Calls Tryz.prog 146 #[x,y] w fun e w'=>e = .returned z/\w'=w):PureCt Tryz.prog 146 [.v x,.v y] (.v z):=by
 refine⟨by kernel_rfl,rfl,fun w I vs hI hgr hr=>?_⟩
 obtain⟨a,l,rfl,h1,h2⟩:=hr.of_cons
 obtain⟨b,l2,rfl,h3,h4⟩:=h2.of_cons
 obtain rfl:=h1.v_inv
 obtain rfl:=h3.v_inv
 have h0:l2=[]:=X5 h4.1.symm
 subst h0
 refine (callsIn_wide.2 (h w)).mono ?_
 rintro e w' ⟨rfl,rfl⟩
 exact⟨z,rfl,⟨rfl,rfl,rfl,XX _,XX _,fun _ _=>rfl⟩,.v _⟩
@[go_sem] theorem ZbP (b:Bool):Go.Jn.isE (uz b)=b:=by cases b<;>rfl
theorem Jz (b:Bool):PureCt Tryz.prog 146 [.v (uz b),.v (fJ dZ)] (.b b):=by
 cases b
 .
  exact Hr fun w=>Ue dZ w
 exact Hr fun w=>Ud dZ w
end Go.Proofs.YtjngdcldglkolaaGreatDoor
namespace Go.Proofs.YtjngdcldglkolaaGreatDoor
open Go.DL Go.Str Go.Rec Go.Cmp Go.Zon
set_option maxRecDepth 10000
variable [Glob Tryz.prog] [Told]
theorem UC (s:Str) (p:Str) (hs:s.length<=1000000):PureCt Tryz.prog 219 [.v (.string (bs s)),.v (.string (bs p))] (.b (hasSuf s p)):=by
 refine oO Tryz.func219 fun ff=>?_
 unfold Tryz.f219
 have e1:((s.length:Int)-p.length).toNat=s.length-p.length:=by omega
 have ff:=qA @e1 ff
 refine oC Jl ?_
 exact fo 0 (k:=by simp[hasSuf])
theorem JO (s:Str) (p:Str) (hs:s.length<=1000000):PureCt Tryz.prog 182 [.v (.string (bs s)),.v (.string (bs p))] (.b (hasSuf s p)):=by
 refine oO Tryz.func182 fun ff=>?_
 unfold Tryz.f182
 refine aa Jl ?_
 refine aa Jl ?_ (hok:=oF (UC _ _ hs))
 exact fp 0
theorem Iw (s:Str) (z:Str):PureCt Tryz.prog 126 [.v (.string (bs s)),.v (.string (bs z))] (.tuple [.b (underV s z),.i (if nameOk s&&nameOk z then 0 else 11)]):=by
 refine oO Tryz.func126 fun ff=>?_
 unfold Tryz.f126
 refine aa Jl ?_
 refine oK Jl (fun c1=>?_) (fun c1=>?_) (hok:=oH vw)
 .
  refine aa Jl ?_;exact fo 1 (k:=by first|(simp_all [underV,under];done)|(simp;simp only[underV,under];grind))
 refine oK Jl (fun c2=>?_) (fun c2=>?_)
 .
  refine aa Jl ?_;exact fo 1 (k:=by first|(simp_all [underV,under];done)|(simp;simp only[underV,under];grind))
 have hn:=dN c1.1
 have hm:=dN c1.2
 have e1:((s.length:Int)-z.length-1).toNat=s.length-z.length-1:=by omega
 have ff:=qA @e1 ff
 refine aa Jl ?_ (hok:=by (try simp only[go_sem,ff]);all_goals (first|done|((repeat' (with_reducible apply And.intro))<;>first|(intros;exact JO _ _ om)|(intro h;simp at h;omega)|skip)))
 exact fo 1 (k:=by first|(simp_all [underV,under];done)|(simp;simp only[underV,under];grind))
theorem yj (s:Str) (hs:s.length<=1000):PureCt Tryz.prog 135 [.v (.string (bs s))] (.b (wild1 s)):=by
 refine oO Tryz.func135 fun ff=>?_
 unfold Tryz.f135
 refine aa Jl ?_
 refine aa Jl ?_ (hok:=by (try simp only[go_sem,ff]);all_goals (first|exact ok0|(apply tN<;>omega)|(intros;apply tN<;>omega)))
 rcases hps:partsOf s with _|⟨p0,ps⟩
 .
  have ff:=qA @hps ff;refine aa Jl ?_;exact fo 0 (k:=by simp[wild1,hps])
 have ff:=qA @hps ff
 refine aa Jl ?_
 exact fo 0 (k:=by simp[wild1,hps])
theorem Ez (a:Str) (s:Int) (b:Str) (t:Int):PureCt Tryz.prog 127 [.v (.string (bs a)),.i s,.v (.string (bs b)),.i t] (.i (qC ⟨a,s⟩ ⟨b,t⟩)):=by
 refine oO Tryz.func127 fun ff=>?_
 unfold Tryz.f127
 refine aa Jl ?_
 refine oK Jl (fun c1=>?_) (fun c1=>?_)
 .
  refine aa Jl ?_ (hok:=oF (IQ _ _));refine aa Jl ?_;exact fo 0 (k:=by simp[qC, *])
 refine aa Jl ?_ (hok:=by (try simp only[go_sem,ff]);all_goals (first|exact ok0|(apply wT<;>omega)|(intros;apply wT<;>omega)))
 exact fo 0 (k:=by simp[qC, *])
theorem wR (a:Qst) (b:Qst):PureCt Tryz.prog 107 [.agg a.d,.agg b.d] (.i (qC a b)):=by
 refine oO Tryz.func107 fun ff=>?_
 unfold Tryz.f107
 refine aa Jl ?_
 refine oK Jl (fun c1=>?_) (fun c1=>?_)
 .
  refine aa Jl ?_ (hok:=oF (IQ _ _));refine aa Jl ?_;exact fo 0 (k:=by simp[qC, *])
 refine aa Jl ?_ (hok:=by (try simp only[go_sem,ff]);all_goals (first|exact ok0|(apply wT<;>omega)|(intros;apply wT<;>omega)))
 exact fo 0 (k:=by simp[qC, *])
theorem Vb (t:Int) (a:Bool):PureCt Tryz.prog 128 [.i t,.b a] (.b (fits t a)):=by
 refine oO Tryz.func128 fun ff=>?_
 unfold Tryz.f128
 refine aa Jl ?_
 refine ae ?_
 refine aa Jl ?_
 refine ai ?_
 refine oL Jl (fun c1=>?_) (fun c1=>?_)
 .
  refine cd (fun c2=>?_) (fun c2=>?_)
  .
   refine aa Jl ?_;exact fo 0 (k:=by simp_all [fits])
  refine oL Jl (fun c3=>?_) (fun c3=>?_)
  .
   refine cd (fun c4=>?_) (fun c4=>?_)
   .
    refine aa Jl ?_;exact fo 0 (k:=by simp_all [fits])
   refine dw_skip ?_;refine aa Jl ?_;exact fo 0 (k:=by simp_all [fits])
  refine ah Jl ?_;refine cd (fun c5=>?_) (fun c5=>?_)
  .
   refine aa Jl ?_;exact fo 0 (k:=by simp_all [fits])
  refine dw_skip ?_;refine aa Jl ?_;exact fo 0 (k:=by simp_all [fits])
 refine ah Jl ?_
 refine cd (fun c6=>?_) (fun c6=>?_)
 .
  refine aa Jl ?_;exact fo 0 (k:=by simp_all [fits])
 refine oL Jl (fun c7=>?_) (fun c7=>?_)
 .
  refine cd (fun c8=>?_) (fun c8=>?_)
  .
   refine aa Jl ?_;exact fo 0 (k:=by simp_all [fits])
  refine dw_skip ?_;refine aa Jl ?_;exact fo 0 (k:=by simp_all [fits])
 refine ah Jl ?_
 refine cd (fun c9=>?_) (fun c9=>?_)
 .
  refine aa Jl ?_;exact fo 0 (k:=by simp_all [fits])
 refine dw_skip ?_
 refine aa Jl ?_
 exact fo 0 (k:=by simp_all [fits])
theorem Qi (t:Int) (a:Bool):PureCt Tryz.prog 138 [.i t,.b a] (.b (fits t a)):=by
 refine oO Tryz.func138 fun ff=>?_
 unfold Tryz.f138
 refine aa Jl ?_
 refine oK Jl (fun c1=>?_) (fun c1=>?_)
 .
  refine aa Jl ?_;exact fo 0 (k:=by simp;simp only[fits];grind)
 refine aa Jl ?_
 exact fo 0 (k:=by simp;simp only[fits];grind)
theorem ym (q:Qst):PureCt Tryz.prog 63 [.agg q.d] (.b (qOk q)):=by
 refine oO Tryz.func63 fun ff=>?_
 unfold Tryz.f63
 refine aa Jl ?_
 refine aa Jl ?_ (hok:=oH fD)
 exact fo 0 (k:=by simp[qOk,inR,Z0])
end Go.Proofs.YtjngdcldglkolaaGreatDoor
namespace Go.Proofs.YtjngdcldglkolaaGreatDoor
open Go.DL Go.Str Go.Rec Go.Cmp Go.Zon
set_option maxRecDepth 10000
variable [Glob Tryz.prog] [Told]
theorem jF (s:Str) (z:Str) (hs:s.length<=1000) (hz:z.length<=1000):PureCt Tryz.prog 136 [.v (.string (bs s)),.v (.string (bs z))] (.b (inB s z)):=by
 refine oO Tryz.func136 fun ff=>?_
 unfold Tryz.f136
 refine aa Jl ?_
 refine aa Jl ?_ (hok:=oF (tN _ hs))
 refine aa Jl ?_ (hok:=oF (tN _ hz))
 refine oK Jl (fun c1=>?_) (fun c1=>?_)
 .
  refine aa Jl ?_;exact fo 0 (k:=by simp[inB];omega)
 have hp:=H7 s
 have hq:=H7 z
 refine ae ?_
 refine aa Jl ?_
 refine ai ?_
 refine lp (α:=(Nat)×Nat) [5,6] (fun ⟨k,nx⟩=>(k<=(partsOf z).length)/\(av (partsOf z).length (ou (partsOf s) (partsOf z)) 0=av (partsOf z).length (ou (partsOf s) (partsOf z)) k)/\True) (fun ⟨k,nx⟩=>(partsOf z).length-k) (fun ⟨k,nx⟩=>[(7,.i k)]) (fun ⟨k,nx⟩=>[]) (fun ⟨k,nx⟩=>nx) (0,_) (hA:=⟨iv,rfl,trivial⟩) (round:=?_)
 rintro⟨k,nx⟩ ⟨hk,hv, -⟩
 simp only[X0,X3]
 refine oL Jl (fun c2=>?_) (fun c2=>?_) (hp:=rfl)
 .
  have hk2:k<(partsOf z).length:=by simpa using c2
  have hk3:(partsOf s).length-(partsOf z).length+k<(partsOf s).length:=by omega
  have e1:(((partsOf s).length:Int)-(partsOf z).length+k).toNat=(partsOf s).length-(partsOf z).length+k:=by omega
  have ff:=qD @e1 (iA hk2) (iA hk3) ff;refine ae ?_;refine ai ?_;refine aa Jl ?_;refine cd (fun c3=>?_) (fun c3=>?_)
  .
   refine aa Jl ?_;exact fo 0 (k:=by have hF:(ou (partsOf s) (partsOf z)) k=false:=(by simp only[ou];grind);simp only[inB];rw[hv,bT hk2 hF];try simp)
  refine dw_skip ?_;refine ah Jl ?_
  show ∃ _,_
  have h8:(ou (partsOf s) (partsOf z)) k=true:=by simp only[ou];grind
  exact ak (k+1,_) (h1:=⟨iv,(by first|(rw[hv,aY hk2 h8])|(dsimp only;rw[hv,aY hk2 h8])),trivial⟩)
 refine aB ?_
 refine aa Jl ?_
 exact fo 0 (k:=by simp only[inB];rw[hv,gI (by omega)];simp;omega)
theorem Nh (l:List RSig) (a:Str):PureCt Tryz.prog 129 [.list false (l.map RSig.d),.v (.string (bs a))] (.b (sigsOk l a)):=by
 refine oO Tryz.func129 fun ff=>?_
 unfold Tryz.f129
 refine aa Jl ?_
 refine oK Jl (fun c1=>?_) (fun c1=>?_)
 .
  refine aa Jl ?_;exact fo 0 (k:=by simp[sigsOk];omega)
 refine ae ?_
 refine aa Jl ?_
 refine ai ?_
 refine lp (α:=(Nat)×Nat) [0,1,10,11] (fun ⟨k,nx⟩=>(k<=l.length)/\(av l.length (gz a l) 0=av l.length (gz a l) k)/\True) (fun ⟨k,nx⟩=>l.length-k) (fun ⟨k,nx⟩=>[(12,.i k)]) (fun ⟨k,nx⟩=>[]) (fun ⟨k,nx⟩=>nx) (0,_) (hA:=⟨iv,rfl,trivial⟩) (round:=?_)
 rintro⟨k,nx⟩ ⟨hk,hv, -⟩
 simp only[X0,X3]
 refine aa Jl ?_
 refine ae ?_
 refine cd (fun c2=>?_) (fun c2=>?_) (hp:=rfl)
 .
  have hk2:k<l.length:=by simpa using c2
  have h0:0<l.length:=by omega
  have hk1:k-1<l.length:=by omega
  have e1:((k:Int)-1).toNat=k-1:=by omega
  have ff:=qE (oG hk2) (oG h0) (oG hk1) @e1 ff;refine dw_skip ?_;refine ae ?_;refine ai ?_;refine aa Jl ?_;refine oK Jl (fun c3=>?_) (fun c3=>?_)
  .
   refine aa Jl ?_;exact fo 0 (k:=by have hF:(gz a l) k=false:=(by simp only[gz,inR];grind);simp only[sigsOk];rw[hv,bT hk2 hF];try simp)
  refine oK Jl (fun c4=>?_) (fun c4=>?_)
  .
   refine aa Jl ?_;exact fo 0 (k:=by have hF:(gz a l) k=false:=(by simp only[gz,inR];grind);simp only[sigsOk];rw[hv,bT hk2 hF];try simp)
  refine aa Jl ?_;refine cd (fun c5=>?_) (fun c5=>?_)
  .
   refine aa Jl ?_;exact fo 0 (k:=by have hF:(gz a l) k=false:=(by simp only[gz,inR];grind);simp only[sigsOk];rw[hv,bT hk2 hF];try simp)
  refine dw_skip ?_;refine ah Jl ?_
  show ∃ _,_
  have h8:(gz a l) k=true:=by simp only[gz,inR];grind
  exact ak (k+1,_) (h1:=⟨iv,(by first|(rw[hv,aY hk2 h8])|(dsimp only;rw[hv,aY hk2 h8])),trivial⟩)
 refine aB ?_
 refine aa Jl ?_
 exact fo 0 (k:=by simp only[sigsOk];rw[hv,gI (by omega)];simp;omega)
theorem Gd (l:List RSig) (a:Str):PureCt Tryz.prog 141 [.list false (l.map RSig.d),.v (.string (bs a))] (.b (sigsOk l a)):=by
 refine oO Tryz.func141 fun ff=>?_
 unfold Tryz.f141
 refine aa Jl ?_
 refine oK Jl (fun c1=>?_) (fun c1=>?_)
 .
  refine aa Jl ?_;exact fo 0 (k:=by simp[sigsOk];omega)
 refine ae ?_
 refine aa Jl ?_
 refine ai ?_
 refine lp (α:=(Nat)×Nat) [0,1] (fun ⟨k,nx⟩=>(k<=l.length)/\(av l.length (gz a l) 0=av l.length (gz a l) k)/\True) (fun ⟨k,nx⟩=>l.length-k) (fun ⟨k,nx⟩=>[(5,.i k)]) (fun ⟨k,nx⟩=>[]) (fun ⟨k,nx⟩=>nx) (0,_) (hA:=⟨iv,rfl,trivial⟩) (round:=?_)
 rintro⟨k,nx⟩ ⟨hk,hv, -⟩
 simp only[X0,X3]
 refine oL Jl (fun c2=>?_) (fun c2=>?_) (hp:=rfl)
 .
  have hk2:k<l.length:=by simpa using c2
  have h0:0<l.length:=by omega
  have hk1:k-1<l.length:=by omega
  have e1:((k:Int)-1).toNat=k-1:=by omega
  have ff:=qE (oG hk2) (oG h0) (oG hk1) @e1 ff;refine ae ?_;refine ai ?_;refine aa Jl ?_;refine oK Jl (fun c3=>?_) (fun c3=>?_)
  .
   refine aa Jl ?_;exact fo 0 (k:=by have hF:(gz a l) k=false:=(by simp only[gz,inR];grind);simp only[sigsOk];rw[hv,bT hk2 hF];try simp)
  refine aa Jl ?_;refine cd (fun c4=>?_) (fun c4=>?_)
  .
   refine aa Jl ?_;exact fo 0 (k:=by have hF:(gz a l) k=false:=(by simp only[gz,inR];grind);simp only[sigsOk];rw[hv,bT hk2 hF];try simp)
  refine dw_skip ?_;refine ah Jl ?_
  show ∃ _,_
  have h8:(gz a l) k=true:=by simp only[gz,inR];grind
  exact ak (k+1,_) (h1:=⟨iv,(by first|(rw[hv,aY hk2 h8])|(dsimp only;rw[hv,aY hk2 h8])),trivial⟩)
 refine aB ?_
 refine aa Jl ?_
 exact fo 0 (k:=by simp only[sigsOk];rw[hv,gI (by omega)];simp;omega)
end Go.Proofs.YtjngdcldglkolaaGreatDoor
