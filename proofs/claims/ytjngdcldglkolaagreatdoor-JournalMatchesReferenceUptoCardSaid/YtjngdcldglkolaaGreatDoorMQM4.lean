/-
  MANY TEXTS OF MINE IN ONE (a claim has a limit of files): Jly, Jr, Jgh, Je, DClaim, DLaid, DUpto, Jla, JlCon, NmW1, NmW2, NmW3, NmW4, NmW5, NmW6, RcW1, RcW3, RcW4, RcW5, RcW6, RcW7, RcW8, RcW12, RcW18, RcW19, JbW1, JbW2, JbW3, JbW4, JbW5, JbW6, JkW1, JkW2, JkW3, JkW4, JkW5, Jis, ZoW1. Conditions: none.
-/
import Derived.Carry
import Derived.RowKit
import Derived.ChangeSame
import Derived.OpenShut
import Derived.LaidMore
import Derived.Lay
import Derived.Test.YtjngdcldglkolaaGreatDoorRows
import Derived.Stop.LaidErr
import Derived.WalkKit
import Derived.LaidEql
import Derived.Stop.Asserts
import Derived.RowKitTokens
import Derived.Test.YtjngdcldglkolaaGreatDoorMQM3
set_option linter.unusedVariables false
set_option linter.unusedSimpArgs false
set_option linter.unusedSectionVars false
set_option linter.defProp false
namespace Go.Jn
open Go.DL Go.Str Go.Rec Go.Cmp Go.Zon
theorem zD (k:Nat) (b:Str):(fst1 k b).2.length<=b.length/\(fst1 k b).1<=b.length:=by
 rcases sw k b with e|⟨m,h1,h2,h3⟩
 .
  rw[e];exact⟨Yo _,Yo _⟩
 rw[h3,Yu,Yi]
 dsimp only
 omega
theorem H8 {w:Str}(h:dn (cz (w,false)).2=false):mr w=some (mG w):=by
 unfold mr mG
 rw[XZ (by rw[h];simp)]
 unfold dn at h
 simp only[Yj] at h
 rw[XZ (by rw[h.1];simp)]
theorem BV {w:Str}(h:dn (bA (w,false)).2=false):mD w=some (jK w):=by
 unfold mD jK
 rw[XZ (by rw[h];simp)]
 unfold dn at h
 simp only[Yj] at h
 rw[XZ (by rw[h.1];simp)]
theorem RI {w:Str}(h:(fst1 1 w).1=0\/dn (cz ((fst1 1 w).2,false)).2=true\/zoneOk (mG (fst1 1 w).2)=false):nextF none w=(none,0):=by
 refine rR ?_
 show fI w=none
 unfold fI
 by_cases h0:(fst1 1 w).1=0
 .
  rw[X6 h0]
 rw[XZ h0]
 cases ho:dn (cz ((fst1 1 w).2,false)).2 with
 | true =>
  have:mr (fst1 1 w).2=none:=by unfold mr;rw[X6 ho]
  simp only[this]
 | false =>
  simp only[H8 ho]
  rcases h with h|h|h
  .
   exact absurd h h0
  .
   rw[ho] at h;cases h
  rw[XZ (by rw[h];simp)]
theorem RH {w:Str}(h0:(fst1 1 w).1≠0) (h1:dn (cz ((fst1 1 w).2,false)).2=false) (h2:zoneOk (mG (fst1 1 w).2)=true):nextF none w=(some (mG (fst1 1 w).2),(fst1 1 w).1):=by
 refine ul ?_
 show fI w=_
 unfold fI
 rw[XZ h0]
 simp only[H8 h1]
 rw[X6 h2]
theorem RO {z:Zon}{w:Str}(h:(fst1 2 w).1=0):nextF (some z) w=(some z,0):=by
 refine rR ?_
 show dU z w=none
 unfold dU
 rw[X6 h]
theorem RL {z:Zon}{w:Str}(h:dn (bA ((fst1 2 w).2,false)).2=true):nextF (some z) w=(some z,0):=by
 refine rR ?_
 show dU z w=none
 unfold dU
 split
 .
  rfl
 have:mD (fst1 2 w).2=none:=by unfold mD;rw[X6 h]
 simp only[this]
theorem RN {z:Zon}{w:Str}(h1:dn (bA ((fst1 2 w).2,false)).2=false) (h:(applyP z (jK (fst1 2 w).2)).2≠0):nextF (some z) w=(some z,0):=by
 refine rR ?_
 show dU z w=none
 unfold dU
 split
 .
  rfl
 simp only[BV h1]
 rw[XZ h]
theorem RJ {z:Zon}{w:Str}(h0:(fst1 2 w).1≠0) (h1:dn (bA ((fst1 2 w).2,false)).2=false) (h:(applyP z (jK (fst1 2 w).2)).2=0):nextF (some z) w=(some (applyP z (jK (fst1 2 w).2)).1,(fst1 2 w).1):=by
 refine ul ?_
 show dU z w=_
 unfold dU
 rw[XZ h0]
 simp only[BV h1]
 rw[X6 h]
theorem zO {α:Type}{f:α->Str}{n:Nat}:∀ {l:List α},(∀ x∈l,n<=(f x).length)->l.length*n<=(l.flatMap f).length
 | [],_=>by simp
 | x::l,h=>by
  rw[ZV,XV,YH,Zo,Nat.one_mul];have h1:=h x (by simp)
  have h2:=zO (f:=f) (n:=n) (l:=l) fun y hy=>h y (by simp[hy])
  omega
theorem Sb {α:Type}{f:α->Str}{l:List α}{x:α}(h:x∈l):(f x).length<=(l.flatMap f).length:=by
 induction l with
 | nil=>cases h
 | cons y l ih =>
  rw[ZV,XV]
  rcases YK.1 h with e|e
  .
   subst e;omega
  have:=ih e;omega
theorem OC {l:List Sgd}(h:(dB l).length<=1000000):dX l:=by
 have e:(dB l).length=4+(l.flatMap bP).length:=by simp only[dB,XV,bF]
 have h1:=zO (f:=bP) (n:=1) (l:=l) fun s _=>by simp[bP];omega
 refine Ki om fun s hs=>?_
 have h2:=Sb (f:=bP) hs
 have h3:=zO (f:=eu) (n:=40) (l:=s.sigs) fun g _=>by rw[Fp];omega
 have h4:=zO (f:=jq) (n:=16) (l:=s.set.data) fun d _=>by simp[jq,aX]
 have h5:(bP s).length=2+(setB s.set).length+1+(s.sigs.flatMap eu).length:=by
  simp only[bP,XV,YH,bF];omega
 have h6:(s.set.data.flatMap jq).length<=(setB s.set).length:=by
  simp only[setB,XV,YH];omega
 exact Oy om om
theorem QS {w:Str}(hw:w.length<=1000000) (h:dn (bA (w,false)).2=false):dX (jK w).put:=by
 obtain⟨h1,_⟩:=Gq (BV h)
 refine OC ?_
 have:(dB (jK w).put).length<=(dltB (jK w)).length:=by
  simp only[dltB,XV];omega
 omega
theorem Ir (c:Cnt) (w:Str):(stepC c w=none/\nextF c w=(c,0)) \/ ∃ y n,stepC c w=some (y,n)/\nextF c w=(some y,n)/\0<n/\n<=w.length:=by
 cases h:stepC c w with
 | none=>exact .inl ⟨rfl,rR h⟩
 | some x =>
  obtain⟨y,n⟩:=x;obtain⟨h1,h2⟩:=iD h;exact .inr ⟨y,n,rfl,ul h,h2,h1⟩
def xc (w:Str) (at_:Nat) (c:Cnt):Prop:=at_<=w.length/\sumL (frs w)=at_+sumL (fr c (w.drop at_))/\wholeC w=ji c (fr c (w.drop at_))
theorem KP (w:Str):xc w 0 none:=by
 refine⟨Yo _,?_,?_⟩
 .
  rw[X7,Nat.zero_add];rfl
 rw[X7,pI];rfl
theorem KO {w:Str}{a n:Nat}{c:Cnt}{y:Zon}(h:xc w a c) (hs:stepC c (w.drop a)=some (y,n)):xc w (a+n) (some y):=by
 obtain⟨h1,h2,h3⟩:=h
 have h4:=(iD hs).1
 rw[Yi] at h4
 rw[gI hs,Zt] at h2 h3
 rw[iX] at h2
 rw[ql] at h3
 exact⟨om,by dsimp only at h2;omega,h3⟩
theorem VB {w:Str}{a:Nat}{c:Cnt}(h:xc w a c) (hs:stepC c (w.drop a)=none):sumL (frs w)=a/\wholeC w=c:=by
 obtain⟨h1,h2,h3⟩:=h
 rw[iw hs] at h2 h3
 exact⟨h2,h3⟩
def rH (c:Cnt) (l:List Str) (k:Nat):Option Cnt:=fB c (l.take k)
theorem BO {c ck:Cnt}{l:List Str}{k:Nat}(h:rH c l k=some ck) (hk:k<l.length):rH c l (k+1)=if (nextF ck l[k]!).2≠0/\(nextF ck l[k]!).2=l[k]!.length then some (nextF ck l[k]!).1 else none:=by
 unfold rH at h ⊢
 rw[Y8,BM,h]
 have e:l[k]?.toList=[l[k]!]:=by simp[hk,getElem!_pos]
 rw[e]
 rfl
theorem Hm {c:Cnt}{l:List Str}{k:Nat}(h:rH c l k=none):fB c l=none:=by
 rw[<- Zm k l,BM,show fB c (l.take k)=none from h]
 rfl
theorem Q6 {c:Cnt}{l:List Str}:rH c l l.length=fB c l:=by unfold rH;rw[YG]
theorem o5 {l:List Str}{k:Nat}(hk:k<l.length):(catB (l.take (k+1))).length=(catB (l.take k)).length+l[k]!.length:=by
 rw[wU hk,XV]
theorem o6 {l:List Str}(k:Nat):(catB (l.take k)).length<=(catB l).length:=by
 conv=>rhs;rw[<- Zm k l,LH,XV]
 omega
@[go_sem] theorem wkr_byR {l:List Str}:bZ (l.map byR)=l.map byR:=by
 induction l with
 | nil=>rfl
 | cons x l ih =>
  rw[Yb]
  show di (byR x)::bZ (l.map byR)=_
  rw[ih];have:di (byR x)=byR x:=by simp[byR,di,go_sem]
  rw[this]
@[go_sem] theorem all_byR {l:List Str}:(∀ r∈l.map byR,r.length=1)=True:=by
 apply eq_true
 intro r hr
 obtain⟨x,_,rfl⟩:=Y5.1 hr
 rfl
theorem Rq {d:Dsk}{c:Cnt}(h1:d.safe.length<=1000000) (h2:d.pend.length<=200) (h:fB (wholeC d.safe) d.pend=some c):openF d=some ⟨partB d.safe,(partB d.safe).length+(catB d.pend).length,wholeC d.safe,c⟩:=by
 unfold openF
 rw[XZ (by omega),h]
theorem HV {d:Dsk}(h:fB (wholeC d.safe) d.pend=none):openF d=none:=by
 unfold openF
 split
 .
  rfl
 rw[h]
theorem HY {d:Dsk}(h:1000000<d.safe.length\/200<d.pend.length):openF d=none:=by
 unfold openF
 rw[X6 h]
structure DskSz (d:Dsk):Prop where
 pend : ∀ p∈d.pend,p.length<=1000000
 safe:d.safe.length<=1000000000
 many:d.pend.length<=1000000
theorem DskSz.at {d:Dsk}(h:DskSz d) {k:Nat}(hk:k<d.pend.length):d.pend[k]!.length<=1000000:=by
 rw[getElem!_pos d.pend k hk]
 exact h.pend _ (Yv hk)
theorem wT {d:Dsk}(h:DskSz d) (k:Nat) (h2:d.pend.length<=200):(catB (d.pend.take k)).length<=200000000:=by
 have key : ∀ l:List Str,(∀ p∈l,p.length<=1000000)->(catB l).length<=l.length*1000000:=by
  intro l
  induction l with
  | nil=>intro _;simp[catB]
  | cons p l ih =>
   intro hp;have h1:=hp p (by simp)
   have h2:=ih fun q hq=>hp q (by simp[hq])
   rw[catB_cons,XV,YH];omega
 have:=key (d.pend.take k) fun p hp=>h.pend p (List.mem_of_mem_take hp)
 rw[Yu] at this
 omega
theorem Jf {d:Dlt}(h:dltOk d=false):joinP d d=(dlt0,1):=by unfold joinP;rw[X6 (.inl h)]
theorem Je {d:Dlt}(h:dltOk d=true):joinP d d=(dlt0,23):=by
 have hd:=dlt_iff.1 h
 have hne:d.too≠d.frm:=Ma hd.bef hd.too
 unfold joinP
 rw[XZ (by rintro (q|q|q);rw[h] at q;cases q;rw[h] at q;cases q;exact q rfl),X6 (.inl hne)]
theorem jN {l:List Str}{n:Nat}(h:n<l.length):(l.map byR).getD n []=[.list false (l[n]!.map bD)]:=by
 simp[List.getD,h,byR,getElem!_pos]
def nD (n:Nat):List D:=[.i n]
def nD.of:List D->Nat
 | [.v (.int _ n)]=>n.toNat
 | _=>0
theorem CY {l:List Nat}{n:Nat}(h:n<l.length):(l.map nD).getD n []=[.i l[n]!]:=by
 simp[List.getD,h,nD,getElem!_pos]
@[go_sem] theorem nrr_nD {l:List Nat}:aS (l.map nD)=true:=by
 induction l with
 | nil=>rfl
 | cons x l ih=>simp only[Yb,aS,ih,nD,aZ,D.nr];rfl
@[go_sem] theorem wkr_nD {l:List Nat}:bZ (l.map nD)=l.map nD:=by
 induction l with
 | nil=>rfl
 | cons x l ih=>simp only[Yb,bZ,ih,nD,wk,di]
@[go_sem] theorem all_nD {l:List Nat}:(∀ r∈l.map nD,r.length=1)=True:=by
 apply eq_true
 intro r hr
 obtain⟨x,_,rfl⟩:=Y5.1 hr
 rfl
theorem JX {k:Nat}{b:Str}(h1:13<=b.length) (h2:(b.getD 0 0).toNat=k):fst1 k b=(if (ag 8 (aH (ag 4 (b.drop 1,false)).1 (ag 8 (ag 4 (b.drop 1,false)).2).2).2).2.2=true\/(ag 8 (ag 4 (b.drop 1,false)).2).1≠dig (b.take 5)\/(ag 8 (aH (ag 4 (b.drop 1,false)).1 (ag 8 (ag 4 (b.drop 1,false)).2).2).2).1≠dig (aH (ag 4 (b.drop 1,false)).1 (ag 8 (ag 4 (b.drop 1,false)).2).2).1 then (0,[]) else (13+(ag 4 (b.drop 1,false)).1+8,(aH (ag 4 (b.drop 1,false)).1 (ag 8 (ag 4 (b.drop 1,false)).2).2).1)):=by
 unfold fst1
 rw[XZ (by omega)]
theorem JR {k:Nat}{b:Str}(h:b.length<13\/(b.getD 0 0).toNat≠k):fst1 k b=(0,[]):=by
 unfold fst1
 rw[X6 h]
structure xe (w:Str) (a:Nat) (z:Zon) (E:List Nat):Prop where
 le:a<=w.length
 who:wholeC w=ji (some z) (fr (some z) (w.drop a))
 ends:endsB w=E++cZ a (fr (some z) (w.drop a))
theorem KR {w:Str}{z:Zon}{n:Nat}(h:fI w=some (z,n)):xe w n z [n]:=by
 have hs:stepC none w=some (z,n):=h
 have hl:=(iD hs).1
 have hf:=gI hs
 refine⟨hl,?_,?_⟩
 .
  rw[pI,zI,hf,ql]
 unfold endsB
 rw[zI,hf]
 show (0+n)::cZ (0+n) _=_
 rw[Nat.zero_add]
 rfl
theorem KQ {w:Str}{a n:Nat}{z y:Zon}{E:List Nat}(h:xe w a z E) (hs:dU z (w.drop a)=some (y,n)):xe w (a+n) y (E++[a+n]):=by
 have hs2:stepC (some z) (w.drop a)=some (y,n):=hs
 have hl:=(iD hs2).1
 have hf:=gI hs2
 rw[Yi] at hl
 rw[Zt] at hf
 refine⟨by have:=h.le;omega,?_,?_⟩
 .
  rw[h.who,hf,ql]
 rw[h.ends,hf,Yz]
 rfl
theorem z8 {w:Str}{a:Nat}{z:Zon}{E:List Nat}(h:xe w a z E) (hs:dU z (w.drop a)=none):wholeZ w=z/\endsB w=E:=by
 have hs2:stepC (some z) (w.drop a)=none:=hs
 have hf:=iw hs2
 refine⟨?_,?_⟩
 .
  rw[AP,h.who,hf];rfl
 rw[h.ends,hf];simp[cZ]
theorem MW {w:Str}(h:fI w=none):wholeZ w=zon0/\endsB w=[]:=by
 have hf:frs w=[]:=iw (c:=none) h
 refine⟨?_,?_⟩
 .
  unfold wholeZ Cw;rw[hf];rfl
 unfold endsB;rw[hf];rfl
theorem NC {w:Str}(h:(fst1 1 w).1=0\/(cz ((fst1 1 w).2,false)).2.2=true\/0<(cz ((fst1 1 w).2,false)).2.1.length\/zoneOk (cz ((fst1 1 w).2,false)).1=false):fI w=none:=by
 unfold fI
 split
 .
  rfl
 rename_i h0
 unfold mr dn
 by_cases q:((cz ((fst1 1 w).2,false)).2.2||decide (0<(cz ((fst1 1 w).2,false)).2.1.length))=true
 .
  rw[X6 q]
 rw[XZ q]
 simp only[Yd,XX,not_or] at q
 simp only
 rw[XZ]
 rcases h with h|h|h|h
 .
  exact absurd h h0
 .
  exact absurd h q.1
 .
  exact absurd h q.2
 rw[h];simp
theorem NB {w:Str}(h1:(fst1 1 w).1≠0) (h2:(cz ((fst1 1 w).2,false)).2.2=false) (h3 : ¬ 0<(cz ((fst1 1 w).2,false)).2.1.length) (h4:zoneOk (cz ((fst1 1 w).2,false)).1=true):fI w=some ((cz ((fst1 1 w).2,false)).1,(fst1 1 w).1):=by
 unfold fI mr dn
 rw[XZ h1,XZ (by rw[h2];simp[h3])]
 simp only
 rw[X6 h4]
theorem xJ {z:Zon}{w:Str}(h:(fst1 2 w).1=0\/(bA ((fst1 2 w).2,false)).2.2=true\/0<(bA ((fst1 2 w).2,false)).2.1.length\/(applyP z (bA ((fst1 2 w).2,false)).1).2≠0):dU z w=none:=by
 unfold dU
 split
 .
  rfl
 rename_i h0
 unfold mD dn
 by_cases q:((bA ((fst1 2 w).2,false)).2.2||decide (0<(bA ((fst1 2 w).2,false)).2.1.length))=true
 .
  rw[X6 q]
 rw[XZ q]
 simp only[Yd,XX,not_or] at q
 simp only
 rw[XZ]
 rcases h with h|h|h|h
 .
  exact absurd h h0
 .
  exact absurd h q.1
 .
  exact absurd h q.2
 exact h
theorem EY {z y:Zon}{w:Str}(h1:(fst1 2 w).1≠0) (h2:(bA ((fst1 2 w).2,false)).2.2=false) (h3 : ¬ 0<(bA ((fst1 2 w).2,false)).2.1.length) (h4:applyP z (bA ((fst1 2 w).2,false)).1=(y,0)):dU z w=some (y,(fst1 2 w).1):=by
 unfold dU mD dn
 rw[XZ h1,XZ (by rw[h2];simp[h3])]
 simp only[h4]
 exact X6 trivial
theorem UH : ∀ (n:Nat) (c:Cnt) (b:Str),b.length<=n->(fr c b).length<=b.length:=by
 intro n
 induction n with
 | zero =>
  intro c b hb;have:b=[]:=X5 om;subst this;rw[wH];exact XY _
 | succ n ih =>
  intro c b hb
  cases h:stepC c b with
  | none=>rw[iw h];exact Yo _
  | some x =>
   obtain⟨y,k⟩:=x;obtain⟨h1,h2⟩:=iD h;rw[gI h,YH];have:=ih (some y) (b.drop k) (by rw[Yi];omega)
   rw[Yi] at this;omega
theorem Kv (w:Str) (h:w.length<=3000000):(frs w).length<=1000000000000:=by
 have:=UH _ none w (XY _)
 rw[<- zI] at this
 omega
def fewK (d:Dsk):Bool:=decide (d.pend.length<=20)&&decide (d.safe.length+(catB (d.pend.take 21)).length<=60000)
theorem Kn {d:Dsk}(h:fewK d=true):d.pend.length<=20/\d.safe.length+(catB d.pend).length<=60000:=by
 unfold fewK at h
 simp only[XW,XX] at h
 rw[Yp (by omega)] at h
 exact h
theorem Q0 {l:List Str}{p:Str}(h:p∈l):p.length<=(catB l).length:=by
 induction l with
 | nil=>cases h
 | cons x l ih =>
  rw[catB_cons,XV]
  rcases YK.1 h with e|e
  .
   subst e;omega
  have:=ih e;omega
theorem UX {d:Dsk}(h:fewK d=true):DskSz d:=by
 obtain⟨h1,h2⟩:=Kn h
 exact⟨fun p hp=>by have:=Q0 hp;omega,om,om⟩
end Go.Jn
namespace Go.DL
open Go.RowKit
variable {P : Program} {ro : Option Nat} {Q : Exit -> S -> Prop}
def mW (n:Nat):Nat->D->D
 | _,.v x=>.v x
 | _,.list _ rows=>.mrow n 0 rows.length
 | k+1,.agg cs=>.agg (cs.map (mW n k))
 | k+1,.tuple cs=>.tuple (cs.map (mW n k))
 | _,_=>.junk
theorem Ut {w:World}{g g':Mem}{n:Nat}(hU:g'.U n) (hM:g'.M n=none):∀ (k:Nat) {d:D}{v:Value},Rep w g d v->Rep w g' (mW n k d) v:=by
 intro k
 induction k with
 | zero =>
  intro d v h
  cases h<;>simp only[mW]<;>first
   | exact .junk _
   | exact .v _
   | skip
  .
   exact .mrow n 0 0 _ ⟨_,_,rfl,Yo _,fun h=>absurd h (by omega)⟩ hU fun blk c sz e=>by rw[hM] at e;cases e
  rename_i hl _ _ _ _ _
  exact .mrow n 0 _ _ ⟨_,_,rfl,hl,fun _=>⟨_,rfl⟩⟩ hU fun blk c sz e=>by rw[hM] at e;cases e
 | succ k ih =>
  intro d v h;have hq : ∀ {ds:List D} {vs:Array Value},(∀ (i:Nat) d x,ds[i]? = some d->vs[i]? = some x->Rep w g d x) -> ∀ (i:Nat) d x,(ds.map (mW n k))[i]? = some d->vs[i]? = some x->Rep w g' d x:=by
   intro ds vs h i d x h1 h2;obtain⟨y,h3,rfl⟩:=fP h1;exact ih (h i y x h3 h2)
  cases h<;>simp only[mW]<;>first
   | exact .junk _
   | exact .v _
   | skip
  .
   rename_i hn hh
   exact .agg _ _ (by simpa using hn) (hq hh)
  .
   rename_i hn hh
   exact .tuple _ _ (by simpa using hn) (hq hh)
  .
   exact .mrow n 0 0 _ ⟨_,_,rfl,Yo _,fun h=>absurd h (by omega)⟩ hU fun blk c sz e=>by rw[hM] at e;cases e
  rename_i hl _ _ _ _ _
  exact .mrow n 0 _ _ ⟨_,_,rfl,hl,fun _=>⟨_,rfl⟩⟩ hU fun blk c sz e=>by rw[hM] at e;cases e
theorem Qe [Glob P] {fid:FuncId}{zs xs:List D}{res:D}(K k:Nat) {h:H}{n:Nat}(hso : ∀ d∈xs,cu h K d) (hz:xs.map (fun d=>wk (bN h K d))=zs) (hct:PureCt P fid zs res):RCt P fid xs h n (fun d h' n'=>d=mW n k res/\h'=h/\n'=n+1):=by
 obtain⟨hbd,hnr,hct⟩:=hct
 refine⟨hbd,fun w g vs hm hU hr=>?_⟩
 have hds:Reps w (Cr g) zs vs:=by
  rw[<- hz];refine⟨by simpa using hr.1,fun i d x h1 h2=>?_⟩
  obtain⟨y,h3,rfl⟩:=fP h1;exact (xN hm K y x (lJ (hr.2 i y x h3 h2)) (hso y (Yl h3))).1.wk
 refine (hct w (fun b=>g.I b \/ ∃ r c s,g.M r=some (some b,c,s)) _ (fun b hb=>?_) (hm.gr.later fun b hb=>⟨.inl hb,rfl⟩) hds).mono ?_
 .
  rcases hb with hb|⟨r,c,s,hb⟩
  .
   exact hm.imm b hb
  exact (iQ hm hb).1
 rintro e w' ⟨v,rfl,hbel,hv⟩
 let g':Mem:={ M:=g.M,U:=fun r=>g.U r\/r=n,I:=g.I }
 have hMn:g'.M n=none:=by
  refine YX fun e=>?_
  have:=hU n (hm.used n e);omega
 have hUn:g'.U n:=Or.inr rfl
 have mono:Mono g g' w w':=⟨hbel.os,hbel.tape,hbel.output,hbel.size,hbel.drawn,fun _ h=>.inl h,fun _ _=>.inl rfl,fun r b c s h=>.inl ⟨r,c,s,h⟩,fun _ h=>h,fun _ h=>.inl h,fun b hb _=>hbel.block b hb⟩
 refine⟨v,g',mW n k res,h,n+1,⟨rfl,rfl,rfl⟩,rfl,Ut hUn hMn k hv,⟨hm.dead,fun r bl hr=>?_,hm.inj,fun r hr=>.inl (hm.used r hr),fun b hb=>YB (hm.imm b hb) hbel.size,hm.gr.later (hm.kept mono)⟩,mono,fun r hr=>?_⟩
 .
  obtain⟨blk,c,h1,h2,h3,h4,h5⟩:=hm.blk r bl hr;refine⟨blk,c,h1,h2,h3,h4,?_⟩
  rcases h5 with h5|⟨b,cur,rfl,h6,h7,h8,h9⟩
  .
   exact .inl h5
  refine .inr ⟨b,cur,rfl,by rw[hbel.block b (iQ hm h1).1];exact h6,h7,h8,fun i row hi=>⟨(h9 i row hi).1,fun j d hd=>?_⟩⟩
  obtain⟨u,k3,k4,k5⟩:=(h9 i row hi).2 j d hd;exact⟨u,k3,k4,k5.later hm mono⟩
 rcases hr with hr|rfl
 .
  exact Nat.lt_succ_of_lt (hU r hr)
 exact Nat.lt_succ_self _
theorem Qd [Glob P] {fid:FuncId}{r len:Nat}{ty:TypeId}{rows:List (List D)}{res:D}(k:Nat) {h:H}{n:Nat}(hr:h r=some ⟨ty,rows⟩) (hl:len=rows.length) (hn:aS rows=true) (hw:bZ rows=rows) (hct:PureCt P fid [.list false rows] res):RCt P fid [.mrow r 0 len] h n (fun d h' n'=>d=mW n k res/\h'=h/\n'=n+1):=by
 subst hl
 have e2:rowsOf (.mrow r 0 rows.length) h=rows:=by simp only[rowsOf,hr];simp
 refine Qe 1 k (fun d hd=>?_) ?_ hct
 .
  simp only[Yq] at hd;subst hd;refine⟨⟨by rw[hr];rfl,by rw[e2]⟩,fun row hrow c hc=>?_⟩
  rw[e2] at hrow;exact jL (ui hn hrow) hc
 have e3:(rows.map fun row=>row.map (bN h 0))=rows:=by
  refine (Zz (g:=id) fun row _=>?_).trans (List.map_id _)
  exact (Zz (g:=id) fun _ _=>rfl).trans (List.map_id _)
 have e4:bN h 1 (.mrow r 0 rows.length) = .list false rows:=by
  show D.list false ((rowsOf (.mrow r 0 rows.length) h).map fun row=>row.map (bN h 0))=_
  rw[e2,e3]
 show [wk (bN h 1 (.mrow r 0 rows.length))]=_
 rw[e4]
 simp only[wk,hw]
end Go.DL
namespace Go.Jn
open Go.DL Go.Str Go.Rec Go.Cmp Go.Zon
def mZ (s:Str) (k:Int) (t:Dat):Sgd:=⟨⟨s,k,9,[t]⟩,[]⟩
def exZ:Zon:=⟨[120],[mZ [120] 2 ⟨[97],0,0⟩,mZ [120] 4 ⟨[],1,0⟩]⟩
def exX:Dlt:=⟨[120],1,2,[],[mZ [120] 4 ⟨[],2,0⟩,mZ [116,46,120] 5 ⟨[116],0,0⟩]⟩
end Go.Jn
namespace Go.DL
open Go.RowKit Go.ChangeShapes Go.WideShapes
variable {P : Program}
def Au (Q:TypeId->List D->Prop):List Field->List D->Prop
 | [],ds=>ds=[]
 | f::fs,ds=>∃ a b,ds=a++b/\Q f.type a/\Au Q fs b
def Sh (P:Program) [Glob P]:Nat->TypeId->List D->Prop
 | 0,_,_=>False
 | k+1,t,ds=>match P.underlying t with
  | some .bool=>∃ b,ds=[.v (.bool b)]
  | some (.int q)=>∃ n,ds=[.v (.int q n)]/\(Lit.int q n).wf=true
  | some .string=>∃ s,ds=[.v (.string s)]/\s.size<=maxLen
  | some (.slice e)=>∃ rows,ds=[.list false rows] /\ ∀ r∈rows,Sh P k e r
  | some (.struct fs)=>Au (Sh P k) fs.toList ds
  | _=>False
def mo (P:Program) [Glob P]:Nat->TypeId->Bool
 | 0,_=>false
 | k+1,t=>match P.underlying t with
  | some .bool|some (.int _)|some .string=>true
  | some (.slice e)=>decide (0<P.cellsOf e)&&decide (e<P.types.size)&&mo P k e
  | some (.struct fs)=>fs.toList.all fun f=>decide (f.type<P.types.size)&&mo P k f.type
  | _=>false
def RepC (w:World) (g:Mem) (ds:List D) (cs:List Value):Prop:=Reps w g ds cs /\ ∀ v∈cs,v.oneCell'=true
theorem RepC.nil {w:World}{g:Mem}:RepC w g [] []:=⟨.nil,fun v h=>by cases h⟩
theorem RepC.one {w:World}{g:Mem}{d:D}{v:Value}(h:Rep w g d v) (h1:v.oneCell'=true):RepC w g [d] [v] :=
 ⟨.cons h .nil,fun u hu=>by rw[Yq] at hu;subst hu;exact h1⟩
theorem RepC.append {w:World}{g:Mem}{ds es:List D}{cs us:List Value}(h:RepC w g ds cs) (k:RepC w g es us):RepC w g (ds++es) (cs++us) :=
 ⟨h.1.append k.1,fun v hv=>(Yx.1 hv).elim (h.2 v) (k.2 v)⟩
theorem Aj {w:World}{a:Addr}{v:Value}(h:w.cell? a=some v):a.block<w.heap.size:=by
 unfold World.cell? at h
 split at h
 .
  rename_i c _ _ hb;exact (Yk.1 hb).1
 cases h
theorem LG {w:World}{base:Nat}{a:Addr}{n:Nat}{cs:List Value}(h:w.cells? base a n=some cs):cs.length=n /\ ∀ j,j<n->w.cell? (a.add j)=cs[j]? := by
 unfold World.cells? at h
 split at h
 .
  have key : ∀ (l:List Nat) (cs:List Value),l.mapM (fun i=>w.cell? (a.add i))=some cs->cs.length=l.length /\ ∀ (j i:Nat),l[j]? = some i->w.cell? (a.add i)=cs[j]? := by
   intro l
   induction l with
   | nil=>intro cs h;simp at h;subst h;exact⟨rfl,fun j i h=>by simp at h⟩
   | cons i l ih =>
    intro cs h;rw[List.mapM_cons] at h
    cases hc:w.cell? (a.add i) with
    | none=>rw[hc] at h;simp at h
    | some v =>
     rw[hc] at h;simp only[Option.bind_eq_bind,Option.bind_some] at h
     cases hr:l.mapM (fun i=>w.cell? (a.add i)) with
     | none=>rw[hr] at h;simp at h
     | some r =>
      rw[hr] at h
      simp at h
      subst h;obtain⟨h1,h2⟩:=ih r hr;refine⟨by simp[h1],fun j i' hj=>?_⟩
      cases j with
      | zero=>simp at hj;subst hj;simpa using hc
      | succ j=>simp at hj;simpa using h2 j i' hj
  obtain⟨h1,h2⟩:=key _ _ h;exact⟨by simpa using h1,fun j hj=>h2 j j (by simp[hj])⟩
 cases h
theorem xE {α:Type}(l:List α) (m n:Nat):(l.drop m).take n++(l.drop (m+n))=l.drop m:=by
 rw[<- Zt];exact Zm n (l.drop m)
theorem reads [Glob P] {H:Type}{enc:TypeId×Value->H}{w:World}{base:Nat}{spare:Nat->Bool}{held:Bool}(hl:laidOutB P=true) :
  ∀ (k:Nat) (t:TypeId) (cs:List Value) (fuel:Nat) (x:DataW H×List MemPlace),t<P.types.size->mo P k t=true->DataW.trod enc P w base spare held fuel t cs=some x ->
   ∃ ds,Sh P k t ds/\RepC w (dK fun b=>b<w.heap.size) ds cs:=by
 intro k
 induction k with
 | zero=>intro t cs fuel x _ h;cases h
 | succ k ih =>
  intro t cs fuel x htl hs hr;unfold mo at hs;unfold Sh
  split at hs
  .
   rename_i hu
   obtain⟨b,rfl,_⟩:=DataW.trod_bool hu hr;exact⟨_,⟨b,rfl⟩,.one (.v _) rfl⟩
  .
   rename_i q hu
   obtain⟨n,rfl,_,hw⟩:=DataW.trod_int hu hr;exact⟨_,⟨n,rfl,hw⟩,.one (.v _) rfl⟩
  .
   rename_i hu
   obtain⟨s,rfl,_,hw⟩:=DataW.trod_string hu hr;exact⟨_,⟨s,rfl,hw⟩,.one (.v _) rfl⟩
  .
   rename_i e hu
   simp only[XW,XX] at hs;obtain⟨⟨hpos,hel⟩,hs⟩:=hs
   rcases DataW.trod_slice hu hr with⟨rfl,_⟩|⟨a,len,cap,elems,rest,n,_,rfl,_,_,hlc,hcm,hlen,hrd,_,_⟩
   .
    exact⟨_,⟨[],rfl,fun r h=>by cases h⟩,.one (.empty false none 0 (fun h=>by cases h) (by simp[maxLen])) rfl⟩
   have hrow : ∀ i,i<len -> ∃ ds,Sh P k e ds/\ds.length=P.cellsOf e /\ ∀ (j:Nat) d,ds[j]? = some d -> ∃ v,w.cell? (a.add (i*P.cellsOf e+j))=some v/\v.oneCell'=true/\Rep w (dK fun b=>b<w.heap.size) d v:=by
    intro i hi;have h1:=hrd i hi;have h2:elems[i]? = some (elems[i]'(by omega)):=Yg _
    rw[h2] at h1;rw[Option.bind_eq_some_iff] at h1;obtain⟨cs',hc,ht⟩:=h1;obtain⟨hcl,hcg⟩:=LG hc;obtain⟨ds,hsh,⟨hrl,hrr⟩,ho⟩:=ih e cs' n _ hel hs ht;refine⟨ds,hsh,by rw[hrl,hcl],fun j d hd=>?_⟩
    have hj:j<cs'.length:=by rw[<- hrl];exact (Ya.1 hd).1
    have hcj:=hcg j (by omega)
    rw[add_add'] at hcj;have hg:cs'[j]? = some (cs'[j]'hj):=Yg _;exact⟨cs'[j]'hj,by rw[hcj,hg],ho _ (Yv _),hrr j d _ hd hg⟩
   have hch : ∃ rows:List (List D),rows.length=len /\ ∀ i r,rows[i]? = some r->Sh P k e r/\r.length=P.cellsOf e /\ ∀ (j:Nat) d,r[j]? = some d -> ∃ v,w.cell? (a.add (i*P.cellsOf e+j))=some v/\v.oneCell'=true/\Rep w (dK fun b=>b<w.heap.size) d v:=by
    refine⟨(List.range len).map fun i=>if h:i<len then Classical.choose (hrow i h) else [],by simp,fun i r hr=>?_⟩
    rw[YJ] at hr
    by_cases hi:i<len
    .
     rw[List.getElem?_range hi] at hr;simp only[YR,Yh] at hr;rw[dif_pos hi] at hr;subst hr;exact ZB (hrow i hi)
    rw[ZO (by simpa using hi)] at hr;cases hr
   obtain⟨rows,hrl,hrr⟩:=hch;refine⟨_,⟨rows,rfl,fun r h=>by obtain⟨i,hi⟩:=Zf h;exact (hrr i r hi).1⟩,.one ?_ rfl⟩
   cases hz:len with
   | zero =>
    subst hz;have:rows=[]:=X5 hrl;subst this;exact .empty false _ _ (fun h=>by cases h) hcm
   | succ m =>
    rw[<- hz,<- hrl];have hcv : ∀ i j,∃ u,∀ row d,rows[i]? = some row->row[j]? = some d->w.cell? (a.add (i*P.cellsOf e+j))=some u/\u.oneCell'=true/\Rep w (dK fun b=>b<w.heap.size) d u:=by
     intro i j
     by_cases hh : ∃ row d,rows[i]? = some row/\row[j]? = some d
     .
      obtain⟨row,d,q1,q2⟩:=hh;obtain⟨u,q3⟩:=(hrr i row q1).2.2 j d q2;refine⟨u,fun row' d' q1' q2'=>?_⟩
      rw[q1] at q1';cases q1'
      rw[q2] at q2';cases q2'
      exact q3
     exact⟨undef,fun row d q1 q2=>absurd ⟨row,d,q1,q2⟩ hh⟩
    have hcs : ∀ i j row d,rows[i]? = some row->row[j]? = some d->w.cell? (a.add (i*P.cellsOf e+j))=some (Classical.choose (hcv i j))/\(Classical.choose (hcv i j)).oneCell'=true/\Rep w (dK fun b=>b<w.heap.size) d (Classical.choose (hcv i j)):=fun i j row d h1 h2=>ZB (hcv i j) row d h1 h2
    refine .list false rows a cap (P.cellsOf e) (fun i j=>Classical.choose (hcv i j)) ?_ om (fun h=>by cases h) hcm (fun r hr=>?_) (fun i j r d h1 h2=>⟨(hcs i j r d h1 h2).1,(hcs i j r d h1 h2).2.1⟩) fun i j r d h1 h2=>(hcs i j r d h1 h2).2.2
    .
     show a.block<w.heap.size
     have h0:rows[0]? = some (rows[0]'(by omega)):=Yg _
     obtain⟨_,q2,q3⟩:=hrr 0 _ h0;have h1:(rows[0]'(by omega))[0]? = some ((rows[0]'(by omega))[0]'(by omega)):=Yg _
     obtain⟨v,hv,_⟩:=q3 0 _ h1;have:=Aj hv;rwa [block_add] at this
    obtain⟨i,hi⟩:=Zf hr;exact (hrr i r hi).2.1
  .
   rename_i fs hu
   obtain⟨xs,n,_,_,hcl,hxl,hf⟩:=DataW.trod_struct hu hr;obtain⟨_,hsum,hoff⟩:=kid_struct hl htl hu;simp only[YQ,XW,XX] at hs;have key : ∀ (fl:List Field) (i off:Nat),fs.toList.drop i=fl->off=((fs.toList.take i).map fun f=>P.cellsOf f.type).sum -> ∃ ds,Au (Sh P k) fl ds/\RepC w (dK fun b=>b<w.heap.size) ds (cs.drop off):=by
    intro fl
    induction fl with
    | nil =>
     intro i off hd ho;have hil:fs.toList.length<=i:=by
      have:=congrArg List.length hd;simp only[Yi,YF] at this;omega
     have:off=cs.length:=by rw[hcl,hsum,ho,Yp hil]
     rw[this,Zg];exact⟨[],rfl,.nil⟩
    | cons f fl ihf =>
     intro i off hd ho;have hil:i<fs.toList.length:=by
      have:=congrArg List.length hd;simp only[Yi,YH] at this;omega
     have hfi:fs.toList[i]? = some f:=by
      have:(fs.toList.drop i)[0]? = some f:=by rw[hd];rfl
      simpa using this
     have hofs:=hoff i f hfi;have hxi:xs[i]? = some (xs[i]'(by rw[hxl];simpa using hil)):=Yg _
     have hrd:=hf i f (by simpa using hfi)
     rw[hxi,hofs,<- ho] at hrd;have hmem:=Yl hfi;obtain⟨ds1,h1,h2⟩:=ih f.type _ n _ (hs f hmem).1 (hs f hmem).2 hrd;have htk:fs.toList.take (i+1)=fs.toList.take i++[f]:=by rw[Y8,hfi];rfl
     obtain⟨ds2,h3,h4⟩:=ihf (i+1) (off+P.cellsOf f.type) (by rw[<- Zt,hd];rfl) (by rw[htk,YM,List.sum_append,<- ho];simp)
     refine⟨ds1++ds2,⟨ds1,ds2,rfl,h1,h3⟩,?_⟩;rw[<- xE cs off (P.cellsOf f.type)];exact h2.append h4
   obtain⟨ds,h1,h2⟩:=key fs.toList 0 0 rfl (by simp)
   exact⟨ds,h1,by simpa using h2⟩
  cases hs
def shFuel:Nat:=12
def ShV (P:Program) [Glob P] (t:TypeId) (x:D):Prop:=match P.underlying t with
 | some (.struct _)=>∃ cs,x = .agg cs/\Sh P shFuel t cs
 | _=>Sh P shFuel t [x]
def ShArgs (P:Program) [Glob P]:List TypeId->List D->Prop
 | [],xs=>xs=[]
 | t::ts,xs=>∃ x ys,xs=x::ys/\ShV P t x/\ShArgs P ts ys
theorem WZ {W W':World}(hb:xh W W') (may:MemPlace->Prop):W.keptBut W' may:=by
 refine⟨hb.os,hb.output,fun i hi=>?_⟩
 rw[hb.block i hi]
 cases h:W.heap[i]? with
 | none=>trivial
 | some o =>
  cases o<;>first
   | exact⟨rfl,rfl,rfl,fun _ _=>rfl⟩
   | exact .inr ⟨rfl,rfl⟩
   | rfl
theorem EP [Glob P] {H:Type}{enc:TypeId×Value->H}{W W':World}(hl:laidOutB P=true) (hb:xh W W'):∀ (ts:List TypeId) (vs:List Value) (ds:List (DataW H)) (ps:List MemPlace),(∀ t∈ts,P.readableRec t=true/\t<P.types.size) ->
  DataW.TrodAll enc P W 0 (fun _=>true) true ts vs ds ps->(∀ x∈ps,x.block<W.heap.size) -> ∀ sp:Nat->Bool,(∀ x∈ps,sp x.block=true)->DataW.TrodAll enc P W' 0 sp true ts vs ds ps
 | [],[],[],_,_,h,_,_,_=>h
 | t::ts,v::vs,d::ds,ps,ht,⟨p,q,h1,h2,e⟩,hlt,sp,hsp=>by
  subst e;have hbe:Below W.heap.size W W':=⟨hb.os,hb.tape,hb.output,hb.size,hb.block⟩;exact⟨p,q,WideElems.Trod_stays hl (ht t (by simp)).1 (ht t (by simp)).2 h1 (fun x hx=>hbe.same (hlt x (ZU _ hx))) (fun x hx=>hsp x (ZU _ hx)),
   EP hl hb ts vs ds q (fun t' h=>ht t' (by simp[h])) h2 (fun x hx=>hlt x (List.mem_append_right _ hx)) sp (fun x hx=>hsp x (List.mem_append_right _ hx)),rfl⟩
end Go.DL
namespace Go.DL
open Go.RowKit Go.ChangeShapes Go.WideShapes
variable {P : Program}
def litV:Lit->Value
 | .bool b=>.bool b
 | .int k n=>.int k n
 | .string s=>.string ⟨s.toArray⟩
 | _=>undef
def qj {H:Type}:Nat->DataW H->List Value
 | 0,_=>[]
 | k+1,d=>match d with
  | .lit l=>[litV l]
  | .agg ds=>ds.flatMap (qj k)
  | _=>[]
def vW (P:Program):Nat->TypeId->Bool
 | 0,_=>false
 | k+1,t=>match P.underlying t with
  | some .bool|some (.int _)|some .string=>true
  | some (.array _ e)=>decide (e<P.types.size)&&vW P k e
  | some (.struct fs)=>fs.toList.all fun f=>decide (f.type<P.types.size)&&vW P k f.type
  | _=>false
theorem lits {H:Type}{enc:TypeId×Value->H}{w:World}{base:Nat}{spare:Nat->Bool}{held:Bool}(hl:laidOutB P=true) :
  ∀ (k:Nat) (t:TypeId) (cs:List Value) (fuel:Nat) (x:DataW H×List MemPlace),t<P.types.size->vW P k t=true->DataW.trod enc P w base spare held fuel t cs=some x->cs=qj k x.1:=by
 intro k
 induction k with
 | zero=>intro t cs fuel x _ h;cases h
 | succ k ih =>
  intro t cs fuel x htl hs hr;unfold vW at hs
  split at hs
  .
   rename_i hu
   obtain⟨b,rfl,rfl⟩:=DataW.trod_bool hu hr;rfl
  .
   rename_i q hu
   obtain⟨n,rfl,rfl,_⟩:=DataW.trod_int hu hr;rfl
  .
   rename_i hu
   obtain⟨s,rfl,rfl,_⟩:=DataW.trod_string hu hr
   show [Value.string s]=[Value.string ⟨s.data.toList.toArray⟩]
   simp
  .
   rename_i n e hu
   simp only[XW,XX] at hs;obtain⟨xs,m,_,rfl,hcl,hxl,hel⟩:=DataW.trod_array hu hr;obtain⟨_,hcn⟩:=kid_array hl htl hu;have key : ∀ (j i:Nat),i+j=n->cs.drop (i*P.cellsOf e)=((xs.drop i).map (·.1)).flatMap (qj k):=by
    intro j
    induction j with
    | zero =>
     intro i hi;have hi':i=n:=by omega
     subst hi';rw[<- hcn,<- hcl,Zg,<- hxl,Zg];rfl
    | succ j ihj =>
     intro i hi;have hlt:i<xs.length:=by omega
     have h1:=hel i (by omega)
     rw[Yg hlt] at h1;have h2:=ih e _ m _ hs.1 hs.2 h1;have h3:=ihj (i+1) (by omega)
     have e1:(i+1)*P.cellsOf e=i*P.cellsOf e+P.cellsOf e:=by rw[Nat.succ_mul]
     rw[e1] at h3;rw[Yy hlt,Yb,ZV,<- h3,<- h2];exact (xE cs _ _).symm
   have:=key n 0 om
   simpa [qj] using this
  .
   rename_i fs hu
   obtain⟨xs,n,_,rfl,hcl,hxl,hf⟩:=DataW.trod_struct hu hr;obtain⟨_,hsum,hoff⟩:=kid_struct hl htl hu;simp only[YQ,XW,XX] at hs;have hxl':xs.length=fs.toList.length:=by simpa using hxl
   have key : ∀ (j i:Nat),i+j=fs.toList.length->cs.drop ((fs.toList.take i).map fun f=>P.cellsOf f.type).sum=((xs.drop i).map (·.1)).flatMap (qj k):=by
    intro j
    induction j with
    | zero =>
     intro i hi;have hi':i=fs.toList.length:=by omega
     subst hi';rw[YG,<- hsum,<- hcl,Zg,<- hxl',Zg];rfl
    | succ j ihj =>
     intro i hi;have hlt:i<fs.toList.length:=by omega
     have hltx:i<xs.length:=by omega
     have hfi:fs.toList[i]? = some fs.toList[i]:=Yg hlt;have h1:=hf i fs.toList[i] (by simp)
     rw[hoff i _ hfi,Yg hltx] at h1;have hm:=hs _ (Yv hlt);have h2:=ih _ _ n _ hm.1 hm.2 h1;have h3:=ihj (i+1) (by omega)
     have htk:fs.toList.take (i+1)=fs.toList.take i++[fs.toList[i]]:=by rw[Y8,hfi];rfl
     rw[htk,YM,List.sum_append] at h3;simp only[Yb,Yt,List.sum_cons,List.sum_nil,Zv] at h3;rw[Yy hltx,Yb,ZV,<- h3,<- h2];exact (xE cs _ _).symm
   have:=key fs.toList.length 0 om
   simpa [qj] using this
  cases hs
end Go.DL
namespace Go.DL
open Go.RowKit Go.ChangeShapes Go.WideShapes Go.Proofs.YtjngdcldglkolaaGreatDoor
variable {P : Program}
def uY:Value->Nat
 | .string s=>s.size+1
 | _=>1
mutual
def D.cnt:D->Nat
 | .v x=>uY x
 | .agg cs=>cnts cs
 | .list _ rows=>cntr rows+1
 | _=>0
def cnts:List D->Nat
 | []=>0
 | d::ds=>d.cnt+cnts ds
def cntr:List (List D)->Nat
 | []=>0
 | r::rs=>cnts r+cntr rs
end
theorem Lt : ∀ (a b:List D),cnts (a++b)=cnts a+cnts b
 | [],b=>by simp[cnts]
 | x::a,b=>by simp only[X0,cnts,Lt a b];omega
theorem Lu {H:Type}:∀ (rows:List (List D)) (es:List (DataW H)),rows.length=es.length->(∀ (i:Nat) r y,rows[i]? = some r->es[i]? = some y->cnts r<=Rows.uptoBulk y)->cntr rows<=Rows.uptoBulkAll es
 | [],[],_,_=>XY _
 | r::rows,y::es,hl,h=>by
  have h1:=h 0 r y rfl rfl;have h2:=Lu rows es (by simpa using hl) fun i r' y' e1 e2=>h (i+1) r' y' (by simpa using e1) (by simpa using e2)
  simp only[cntr,Rows.uptoBulkAll];omega
theorem PX [Glob P] {H:Type}{enc:TypeId×Value->H}{w:World}{base:Nat}{spare:Nat->Bool}{held:Bool}(hl:laidOutB P=true) :
  ∀ (k:Nat) (t:TypeId) (cs:List Value) (fuel:Nat) (x:DataW H×List MemPlace),t<P.types.size->mo P k t=true->DataW.trod enc P w base spare held fuel t cs=some x ->
   ∃ ds,Sh P k t ds/\RepC w (dK fun b=>b<w.heap.size) ds cs/\cnts ds<=Rows.uptoBulk x.1:=by
 intro k
 induction k with
 | zero=>intro t cs fuel x _ h;cases h
 | succ k ih =>
  intro t cs fuel x htl hs hr;unfold mo at hs;unfold Sh
  split at hs
  .
   rename_i hu
   obtain⟨b,rfl,rfl⟩:=DataW.trod_bool hu hr;exact⟨_,⟨b,rfl⟩,.one (.v _) rfl,by simp[cnts,D.cnt,uY,Rows.uptoBulk]⟩
  .
   rename_i q hu
   obtain⟨n,rfl,rfl,hw⟩:=DataW.trod_int hu hr;exact⟨_,⟨n,rfl,hw⟩,.one (.v _) rfl,by simp[cnts,D.cnt,uY,Rows.uptoBulk]⟩
  .
   rename_i hu
   obtain⟨s,rfl,rfl,hw⟩:=DataW.trod_string hu hr;exact⟨_,⟨s,rfl,hw⟩,.one (.v _) rfl,by simp[cnts,D.cnt,uY,Rows.uptoBulk]⟩
  .
   rename_i e hu
   simp only[XW,XX] at hs;obtain⟨⟨hpos,hel⟩,hs⟩:=hs
   rcases DataW.trod_slice hu hr with⟨rfl,rfl⟩|⟨a,len,cap,elems,rest,n,_,rfl,rfl,_,hlc,hcm,hlen,hrd,_,_⟩
   .
    exact⟨_,⟨[],rfl,fun r h=>by cases h⟩,.one (.empty false none 0 (fun h=>by cases h) (by simp[maxLen])) rfl,by simp[cnts,D.cnt,cntr,Rows.uptoBulk]⟩
   have hrow : ∀ i,i<len -> ∃ ds,Sh P k e ds/\(ds.length=P.cellsOf e /\ ∀ y,elems[i]? = some y->cnts ds<=Rows.uptoBulk y.1) /\ ∀ (j:Nat) d,ds[j]? = some d -> ∃ v,w.cell? (a.add (i*P.cellsOf e+j))=some v/\v.oneCell'=true/\Rep w (dK fun b=>b<w.heap.size) d v:=by
    intro i hi;have h1:=hrd i hi;have h2:elems[i]? = some (elems[i]'(by omega)):=Yg _
    rw[h2] at h1;rw[Option.bind_eq_some_iff] at h1;obtain⟨cs',hc,ht⟩:=h1;obtain⟨hcl,hcg⟩:=LG hc;obtain⟨ds,hsh,⟨⟨hrl,hrr⟩,ho⟩,hb⟩:=ih e cs' n _ hel hs ht;refine⟨ds,hsh,⟨by rw[hrl,hcl],fun y hy=>by rw[h2] at hy;cases hy;exact hb⟩,fun j d hd=>?_⟩
    have hj:j<cs'.length:=by rw[<- hrl];exact (Ya.1 hd).1
    have hcj:=hcg j (by omega)
    rw[add_add'] at hcj;have hg:cs'[j]? = some (cs'[j]'hj):=Yg _;exact⟨cs'[j]'hj,by rw[hcj,hg],ho _ (Yv _),hrr j d _ hd hg⟩
   have hch : ∃ rows:List (List D),rows.length=len /\ ∀ i r,rows[i]? = some r->Sh P k e r/\(r.length=P.cellsOf e /\ ∀ y,elems[i]? = some y->cnts r<=Rows.uptoBulk y.1) /\ ∀ (j:Nat) d,r[j]? = some d -> ∃ v,w.cell? (a.add (i*P.cellsOf e+j))=some v/\v.oneCell'=true/\Rep w (dK fun b=>b<w.heap.size) d v:=by
    refine⟨(List.range len).map fun i=>if h:i<len then Classical.choose (hrow i h) else [],by simp,fun i r hr=>?_⟩
    rw[YJ] at hr
    by_cases hi:i<len
    .
     rw[List.getElem?_range hi] at hr;simp only[YR,Yh] at hr;rw[dif_pos hi] at hr;subst hr;exact ZB (hrow i hi)
    rw[ZO (by simpa using hi)] at hr;cases hr
   obtain⟨rows,hrl,hrr⟩:=hch;refine⟨_,⟨rows,rfl,fun r h=>by obtain⟨i,hi⟩:=Zf h;exact (hrr i r hi).1⟩,.one ?_ rfl,?_⟩
   rotate_left
   .
    have hk:=Lu rows (elems.map (·.1)) (by rw[Zk,hrl,hlen]) fun i r y h1 h2=>by
     rw[YJ] at h2
     cases hy:elems[i]? with
     | none=>rw[hy] at h2;cases h2
     | some z=>rw[hy] at h2;cases h2;exact (hrr i r h1).2.1.2 z hy
    have e0:cnts [D.list false rows]=cntr rows+1:=by simp[cnts,D.cnt]
    rw[e0];simp only[Rows.uptoBulk];omega
   cases hz:len with
   | zero =>
    subst hz;have:rows=[]:=X5 hrl;subst this;exact .empty false _ _ (fun h=>by cases h) hcm
   | succ m =>
    rw[<- hz,<- hrl];have hcv : ∀ i j,∃ u,∀ row d,rows[i]? = some row->row[j]? = some d->w.cell? (a.add (i*P.cellsOf e+j))=some u/\u.oneCell'=true/\Rep w (dK fun b=>b<w.heap.size) d u:=by
     intro i j
     by_cases hh : ∃ row d,rows[i]? = some row/\row[j]? = some d
     .
      obtain⟨row,d,q1,q2⟩:=hh;obtain⟨u,q3⟩:=(hrr i row q1).2.2 j d q2;refine⟨u,fun row' d' q1' q2'=>?_⟩
      rw[q1] at q1';cases q1'
      rw[q2] at q2';cases q2'
      exact q3
     exact⟨undef,fun row d q1 q2=>absurd ⟨row,d,q1,q2⟩ hh⟩
    have hcs : ∀ i j row d,rows[i]? = some row->row[j]? = some d->w.cell? (a.add (i*P.cellsOf e+j))=some (Classical.choose (hcv i j))/\(Classical.choose (hcv i j)).oneCell'=true/\Rep w (dK fun b=>b<w.heap.size) d (Classical.choose (hcv i j)):=fun i j row d h1 h2=>ZB (hcv i j) row d h1 h2
    refine .list false rows a cap (P.cellsOf e) (fun i j=>Classical.choose (hcv i j)) ?_ om (fun h=>by cases h) hcm (fun r hr=>?_) (fun i j r d h1 h2=>⟨(hcs i j r d h1 h2).1,(hcs i j r d h1 h2).2.1⟩) fun i j r d h1 h2=>(hcs i j r d h1 h2).2.2
    .
     show a.block<w.heap.size
     have h0:rows[0]? = some (rows[0]'(by omega)):=Yg _
     obtain⟨_,q2,q3⟩:=hrr 0 _ h0;have h1:(rows[0]'(by omega))[0]? = some ((rows[0]'(by omega))[0]'(by omega)):=Yg _
     obtain⟨v,hv,_⟩:=q3 0 _ h1;have:=Aj hv;rwa [block_add] at this
    obtain⟨i,hi⟩:=Zf hr;exact (hrr i r hi).2.1.1
  .
   rename_i fs hu
   obtain⟨xs,n,_,rfl,hcl,hxl,hf⟩:=DataW.trod_struct hu hr;obtain⟨_,hsum,hoff⟩:=kid_struct hl htl hu;simp only[YQ,XW,XX] at hs;have key : ∀ (fl:List Field) (i off:Nat),fs.toList.drop i=fl->off=((fs.toList.take i).map fun f=>P.cellsOf f.type).sum -> ∃ ds,Au (Sh P k) fl ds/\RepC w (dK fun b=>b<w.heap.size) ds (cs.drop off)/\cnts ds<=Rows.uptoBulkAll ((xs.drop i).map (·.1)):=by
    intro fl
    induction fl with
    | nil =>
     intro i off hd ho;have hil:fs.toList.length<=i:=by
      have:=congrArg List.length hd;simp only[Yi,YF] at this;omega
     have:off=cs.length:=by rw[hcl,hsum,ho,Yp hil]
     rw[this,Zg];exact⟨[],rfl,.nil,Yo _⟩
    | cons f fl ihf =>
     intro i off hd ho;have hil:i<fs.toList.length:=by
      have:=congrArg List.length hd;simp only[Yi,YH] at this;omega
     have hfi:fs.toList[i]? = some f:=by
      have:(fs.toList.drop i)[0]? = some f:=by rw[hd];rfl
      simpa using this
     have hofs:=hoff i f hfi;have hxi:xs[i]? = some (xs[i]'(by rw[hxl];simpa using hil)):=Yg _
     have hrd:=hf i f (by simpa using hfi)
     rw[hxi,hofs,<- ho] at hrd;have hmem:=Yl hfi;obtain⟨ds1,h1,h2,hb1⟩:=ih f.type _ n _ (hs f hmem).1 (hs f hmem).2 hrd;have htk:fs.toList.take (i+1)=fs.toList.take i++[f]:=by rw[Y8,hfi];rfl
     obtain⟨ds2,h3,h4,hb2⟩:=ihf (i+1) (off+P.cellsOf f.type) (by rw[<- Zt,hd];rfl) (by rw[htk,YM,List.sum_append,<- ho];simp)
     refine⟨ds1++ds2,⟨ds1,ds2,rfl,h1,h3⟩,?_,?_⟩
     rotate_left
     .
      rw[Lt,Yy (show i<xs.length by rw[hxl];simpa using hil),Yb]
      simp only[Rows.uptoBulkAll];exact Nat.add_le_add hb1 hb2
     rw[<- xE cs off (P.cellsOf f.type)];exact h2.append h4
   obtain⟨ds,h1,h2,hb⟩:=key fs.toList 0 0 rfl (by simp)
   refine⟨ds,h1,by simpa using h2,Yc hb ?_⟩
   simp only[Rows.uptoBulk,X7];omega
  cases hs
theorem P7 [Glob P] {H:Type}{enc:TypeId×Value->H}{w:World}{spare:Nat->Bool}{held:Bool}{b0:Nat}{t:TypeId}{v:Value}{d:DataW H}{ps:List MemPlace}(hl:laidOutB P=true) (htl:t<P.types.size) (hs:mo P shFuel t=true) (hv:Value.okWide P w .any b0 t v) (h:DataW.Trod enc P w 0 spare held t v d ps) :
  ∃ x,(ShV P t x/\x.cnt<=Rows.uptoBulk d)/\Rep w (dK fun b=>b<w.heap.size) x v:=by
 obtain⟨fuel,h⟩:=h
 obtain⟨ds,h1,h2,hb⟩:=PX hl shFuel t v.cells.toList fuel _ htl hs h
 have one:v.cells = #[v]->(ShV P t (ds.headD .junk)/\(ds.headD .junk).cnt<=Rows.uptoBulk d)/\Rep w (dK fun b=>b<w.heap.size) (ds.headD .junk) v\/(∃ fs,P.underlying t=some (.struct fs)):=by
  intro hc;rw[hc] at h2;have hlen:ds.length=1:=h2.1.1
  match ds,hlen with
  | [x],_ =>
   by_cases hst : ∃ fs,P.underlying t=some (.struct fs)
   .
    exact .inr hst
   refine .inl ⟨⟨?_,by simpa [cnts] using hb⟩,h2.1.head⟩
   unfold ShV
   split
   .
    rename_i fs hu;exact absurd ⟨fs,hu⟩ hst
   exact h1
 unfold shFuel mo at hs
 split at hs
 .
  rename_i hu
  obtain⟨b,rfl⟩:=okWide_bool hu hv
  rcases one rfl with h|⟨fs,h⟩
  .
   exact⟨_,h⟩
  rw[hu] at h;cases h
 .
  rename_i q hu
  obtain⟨n,rfl⟩:=okWide_int hu hv
  rcases one rfl with h|⟨fs,h⟩
  .
   exact⟨_,h⟩
  rw[hu] at h;cases h
 .
  rename_i hu
  obtain⟨s,rfl⟩:=okWide_string hu hv
  rcases one rfl with h|⟨fs,h⟩
  .
   exact⟨_,h⟩
  rw[hu] at h;cases h
 .
  rename_i e hu
  obtain⟨a,len,cap,rfl⟩:=okWide_slice hu hv
  rcases one rfl with h|⟨fs,h⟩
  .
   exact⟨_,h⟩
  rw[hu] at h;cases h
 .
  rename_i fs hu
  obtain⟨cs,rfl,_⟩:=okWide_struct hu hv;refine⟨.agg ds,⟨?_,by simpa [D.cnt] using hb⟩,.mk_agg ?_⟩
  .
   unfold ShV;rw[hu];exact⟨ds,rfl,h1⟩
  have:(Value.agg cs).cells=cs:=rfl;rw[this] at h2;exact h2.1
 cases hs
theorem Gs [Glob P] {H:Type}{enc:TypeId×Value->H}{w:World}{spare:Nat->Bool}{held:Bool}{b0:Nat}(hl:laidOutB P=true):∀ (ts:List TypeId) (vs:List Value) (ds:List (DataW H)) (ps:List MemPlace),(∀ t∈ts,t<P.types.size/\mo P shFuel t=true) ->
  (∀ (j:Nat) t v,ts[j]? = some t->vs[j]? = some v->Value.okWide P w .any b0 t v)->DataW.TrodAll enc P w 0 spare held ts vs ds ps -> ∃ xs,(ShArgs P ts xs/\cnts xs<=Rows.uptoBulkAll ds)/\Reps w (dK fun b=>b<w.heap.size) xs vs
 | [],[],[],_,_,_,_=>⟨[],⟨rfl,Yo _⟩,.nil⟩
 | t::ts,v::vs,d::ds,ps,ht,hv,⟨p,q,h1,h2,_⟩=>by
  obtain⟨x,⟨hx1,hb1⟩,hx2⟩:=P7 hl (ht t (by simp)).1 (ht t (by simp)).2 (hv 0 t v rfl rfl) h1
  obtain⟨xs,⟨hy1,hb2⟩,hy2⟩:=Gs hl ts vs ds q (fun t' h=>ht t' (by simp[h])) (fun j t' v' e1 e2=>hv (j+1) t' v' (by simpa using e1) (by simpa using e2)) h2
  exact⟨x::xs,⟨⟨x,xs,rfl,hx1,hy1⟩,by simp only[cnts,Rows.uptoBulkAll];exact Nat.add_le_add hb1 hb2⟩,.cons hx2 hy2⟩
theorem law_contract_u [Glob P] {H:Type}{enc:TypeId×Value->H}{f:FuncId}{fn:Func}{s:ChangeSpec}{tb:TypeId}{apart fresh handsOn again:Bool}(hl:laidOutB P=true) (hvars:s.vars=[]) (hrt:fn.resultTypes = #[tb]) (hbool:P.underlying tb=some .bool)
  (hpar:(fn.params.toList.all fun t=>P.readableRec t&&decide (t<P.types.size)&&mo P shFuel t)=true)
  (hfn : ∀ ds:List (DataW H),ds.length=fn.params.toList.length->s.fn H ds={ results:=[.lit (.bool true)],args:=ds })
  (hct : ∀ xs:List D,ShArgs P fn.params.toList xs->cnts xs<=1048576->PureCt P f xs (.b true)) :
  ∀ (W:World) (base:Nat) (args:Array Value) (ds gs:List (DataW H)) (before:List MemPlace),Rows.uptoBulkAll ds<=1048576->Gr P (fun b=>b<W.heap.size) W->(∀ (j:Nat) t v,fn.params[j]? = some t->args[j]? = some v->Value.okWide P W .any base t v) ->
   DataW.Whole enc P fn.params.toList s.vars apart W args.toList ds gs before ->
   Calls P f args W fun e W'=>∃ v,e = .returned v/\s.post enc P fn apart fresh handsOn again W args v W':=by
 intro W base args ds gs before hbulk hgr hval hW
 simp only[YQ,XW,XX] at hpar
 have hW':=hW
 obtain⟨p,q,hA,hV,hpq,hfz,hnd⟩:=hW
 rw[hvars] at hV
 obtain⟨rfl,rfl⟩:gs=[]/\q=[]:=by
  cases gs with
  | nil=>exact⟨rfl,hV⟩
  | cons g gs=>exact False.elim hV
 rw[YC] at hpq
 obtain⟨xs,⟨hx1,hxb⟩,hx2⟩:=Gs hl _ _ _ _ (fun t ht=>⟨(hpar t ht).1.2,(hpar t ht).2⟩) (fun j t v h1 h2=>hval j t v (by simpa using h1) (by simpa using h2)) hA
 obtain⟨_,_,hct⟩:=hct xs hx1 (Yc hxb hbulk)
 have hlen : ∀ {ts:List TypeId} {vs:List Value} {ds:List (DataW H)} {ps:List MemPlace},DataW.TrodAll enc P W 0 (fun _=>true) true ts vs ds ps->ds.length=ts.length:=by
  intro ts
  induction ts with
  | nil=>intro vs ds ps h;cases vs<;>cases ds<;>first|rfl|exact False.elim h
  | cons t ts ih =>
   intro vs ds ps h
   cases vs<;>cases ds<;>first|exact False.elim h|skip
   obtain⟨_,_,_,h2,_⟩:=h
   simp[ih h2]
 have hres:=hfn ds (hlen hA)
 have:=callsIn_wide.1 (hct W (fun b=>b<W.heap.size) _ (fun b h=>h) hgr hx2)
 have ea:args.toList.toArray=args:=by simp
 rw[ea] at this
 refine this.mono ?_
 rintro e W' ⟨v,rfl,hb,hv⟩
 rw[hv.v_inv]
 refine⟨_,rfl,?_⟩
 have hlt : ∀ x∈before,x.block<W.heap.size:=fun x hx=>hW'.lt x hx
 have hsp : ∀ sp:Nat->Bool,(∀ x∈before,sp x.block=true)->DataW.TrodAll enc P W' 0 sp true fn.params.toList args.toList ds before:=by
  intro sp h;rw[hpq] at h hlt ⊢;exact EP hl hb _ _ _ _ (fun t ht=>(hpar t ht).1) hA hlt sp h
 have hfn':s.fn H (ds++[])={ results:=[.lit (.bool true)],args:=ds }:=by rw[YC];exact hres
 have hrs : ∀ (b:Nat) (sp:Nat->Bool) (hd:Bool),DataW.TrodAll enc P W' b sp hd fn.resultTypes.toList ((Value.bool true).resultList fn.resultTypes.size) [.lit (.bool true)] []:=by
  intro b sp hd;rw[hrt];exact trodAll_cons_mk (shut_bool hbool _) trodAll_mk0
 have hold : ∀ x∈before,(fun b=>decide (b<W.heap.size)) x.block=true:=fun x hx=>by simpa using hlt x hx
 have hvs : ∀ sp:Nat->Bool,DataW.TrodVars enc P W' sp s.vars [] []:=fun sp=>by rw[hvars];exact rfl
 have hfz' : ∀ x∈before,∀ b off,x=MemPlace.cell b off->W'.frozen? ⟨b,off,none⟩=false:=by
  intro x hx b off e;subst e;have hbl:b<W.heap.size:=hlt _ hx;have e2:W'.frozen? ⟨b,off,none⟩=W.frozen? ⟨b,off,none⟩:=World.frozen?_of_block (hb.block b hbl);rw[e2];exact hfz b off hx
 unfold ChangeSpec.post
 refine⟨ds,[],before,[],before,[],hW',?_,?_,?_,World.keptBut_mono (fun x hx=>⟨hx,.inr (.inl hx)⟩) (WZ hb (· ∈ before)),fun _=>⟨?_,?_⟩⟩
 .
  rw[hfn'];exact hrs _ _ _
 .
  rw[hfn'];exact hsp _ hold
 .
  rw[hfn'];exact hvs _
 .
  exact ok_one hrt rfl (okWide_bool_mk hbool _)
 refine⟨_,[],([]++before)++[],⟨[]++before,[],trodAll_append (hsp _ fun _ _=>rfl) (hrs _ _ _),hvs _,rfl,?_,?_⟩,?_⟩
 .
  intro b off hx;exact hfz' _ (by simpa using hx) b off rfl
 .
  intro ha
  simpa using hnd ha
 intro x hx _
 simpa using hx
end Go.DL
namespace Go.Proofs.YtjngdcldglkolaaGreatDoor
open Go.DL Go.RowKit Go.ChangeShapes
def jlaid : List (String × DataW Unit) := [("bytes.ErrTooLarge", Rows.laid_bytes_ErrTooLarge), ("nameplan/record.rules", Rows.laid_nameplan_record_rules), ("nameplan/journal.errBroken", Rows.laid_nameplan_journal_errBroken)]
theorem Jb : ("*errors.errorString" : String) = "*" ++ "errors.errorString" := by decide
theorem jrow (u : TypeId) (h : Tryz.prog.typeName? 3 u = some "*errors.errorString") : u = 290 :=
 typeName_ptr_named (nm := "errors.errorString") (by rw [<- Jb]; kernel_rfl) (by kernel_rfl) (by decide) u (by rw [<- Jb]; exact h)
theorem SL {P:Program}{nm:String}{d:DataW Unit}{r:List (String×DataW Unit)}{W:World}{g:Nat}{t:TypeId}{k:Nat}{cells:List Value}(hl:laidOutB P=true) (h:laidMet P ((nm,d)::r) W)
  (hg:P.globalNamed nm=some g) (ht:(P.globals[g]?).map (·.type)=some t) (htl:t<P.types.size) (hb:vW P k t=true) (hc:qj k d=cells) (j:Nat) (v:Value) (hv':cells[j]? = some v):W.cell? ⟨g,j,none⟩=some v:=by
 obtain⟨ps,⟨g0,t0,cs,fuel,p,q,hg0,ht0,hv,hd,_,_⟩,_,_⟩:=h
 obtain rfl:=Z8 (hg.symm.trans hg0)
 obtain rfl:=Z8 (ht.symm.trans ht0)
 have hcs:=lits hl k t _ _ _ htl hb hd
 rw[show qj k (d,p).1=cells from hc] at hcs
 rw[World.var?_cell hg0 hv j]
 obtain⟨l⟩:=cs
 simp only at hcs
 subst hcs
 simp[hv']
set_option maxRecDepth 100000 in
theorem told_cells {W:World}(h:laidMetH Tryz.prog jlaid W):∃ a:Addr,∀ x cs,toldF a x=some cs->x<W.heap.size /\ ∀ (j:Nat) v,cs[j]? = some v->W.cell? ⟨x,j,none⟩=some v:=by
 unfold jlaid at h
 rw[MakeChecks.laidMetH_plain _ _ _ (by kernel_rfl)] at h
 have h2:=h.tail
 have h3:=h2.tail
 obtain ⟨a, s, hv, _, _, _⟩ := laid_sentinel (g := 0) (n := "nameplan/journal.errBroken") (nm := "*errors.errorString") h3 (by kernel_rfl) (by kernel_rfl) Tryz.underlying125 jrow Tryz.underlying290 Tryz.underlying313 rfl rfl Tryz.underlying9 (by kernel_rfl) (by kernel_rfl)
 have hr:=SL (g:=1) (t:=215) (k:=3) (cells:=rulesTab) (by kernel_rfl) h2 (by kernel_rfl) (by kernel_rfl) (Zj (by kernel_rfl)) (by kernel_rfl) (by kernel_rfl)
 have he:W.cell? ⟨0,0,none⟩=some (fH a):=by
  rw[World.var?_cell (by kernel_rfl) hv 0]
  rfl
 refine⟨a,fun x cs hx=>?_⟩
 unfold toldF at hx
 split at hx
 .
  rename_i e
  subst e
  cases hx
  exact⟨Aj (hr 0 _ rfl),hr⟩
 split at hx
 .
  rename_i e
  subst e
  cases hx
  refine⟨Aj he,fun j v hj=>?_⟩
  match j,hj with
  | 0,hj=>cases hj;exact he
  | j+1,hj=>simp at hj
 cases hx
theorem cntr_bD : ∀ l:List UInt8,cntr (l.map Go.Str.bD)=l.length
 | []=>rfl
 | b::l=>by
  rw[Yb,YH]
  show cnts (Go.Str.bD b)+cntr (l.map Go.Str.bD)=_
  rw[cntr_bD l]
  simp[Go.Str.bD,cnts,D.cnt,uY]
  omega
end Go.Proofs.YtjngdcldglkolaaGreatDoor
namespace Go.Proofs.YtjngdcldglkolaaGreatDoor
open Go.DL Go.Str Go.Rec Go.Zon Go.Jn
def Jl:Con where
 pure:=fun k=>[243,231,204,120,119,59,161,103,188,233,206,190,180,163,165,234,122,207,235,164,210,162,104,166,60,208,181,125,167,124,209,168,108,65,123,121,158,134,222,142,179,219,182,126,136,135,127,107,128,138,129,141,63,101,45,24,160,159,102,69,70,72,73,74,75,71,31,46,137,84,85,86,221,189,139,87,140,88,34,96,11,61,105,62,106,66,51,64,97,67,98,29,12,41,112,113,55,48,50,54,157,150,154,49,53,111,153,47,27,94,33,38,32,79,116,35,42,146,143,93,92,36,37,39,44,13,16,18,20,22,56,28,43,40,14,17,19,21,23,15,10,68,30,9,3].contains k
 pf:=fun k xs=>match k,xs with
  | 243,[x0,x1]=>.i (lastIx (str1 x0) (int1 x1))
  | 231,[x0,x1]=>.i (lastIx (str1 x0) (int1 x1))
  | 204,[x0]=>.b (labelOk (str1 x0))
  | 120,[x0]=>.b (labelOk (str1 x0))
  | 119,[x0]=>.list false ((splitF (str1 x0)).map sR)
  | 59,[x0]=>.b (nameOk (str1 x0))
  | 161,[x0]=>.b (nameOk (str1 x0))
  | 103,[x0]=>.b (nameOk (str1 x0))
  | 188,[x0]=>.list false ((partsOf (str1 x0)).map sR)
  | 233,[x0,x1]=>.i (Go.Lib.compareBytes (str1 x0) (str1 x1))
  | 206,[x0,x1]=>.i (Go.Lib.compareBytes (str1 x0) (str1 x1))
  | 190,[x0,x1]=>.i (nmOrd (str1 x0) (str1 x1))
  | 180,[x0,x1]=>.tuple [.i (if nameOk (str1 x0)&&nameOk (str1 x1) then nmCmp (str1 x0) (str1 x1) else 0),.i (if nameOk (str1 x0)&&nameOk (str1 x1) then 0 else 11)]
  | 163,[x0,x1]=>.tuple [.i (if nameOk (str1 x0)&&nameOk (str1 x1) then nmCmp (str1 x0) (str1 x1) else 0),.i (if nameOk (str1 x0)&&nameOk (str1 x1) then 0 else 11)]
  | 165,[x0,x1,x2]=>.b (inR (int1 x0) (int1 x1) (int1 x2))
  | 234,[x0,x1,x2]=>.b (inR (int1 x0) (int1 x1) (int1 x2))
  | 122,[x0,x1,x2]=>.b (inR (int1 x0) (int1 x1) (int1 x2))
  | 207,[x0]=>.b ((int1 x0) != (int1 x0))
  | 235,[x0]=>.b ((str1 x0) != (str1 x0))
  | 164,[x0,x1]=>.i (cmpI (int1 x0) (int1 x1))
  | 210,[x0,x1]=>.i (cmpS (str1 x0) (str1 x1))
  | 162,[x0,x1]=>.b (hasPre (str1 x0) (str1 x1))
  | 104,[x0,x1]=>.b (hasPre (str1 x0) (str1 x1))
  | 166,[x0]=>.b (wildB (str1 x0))
  | 60,[x0]=>.b (wildB (str1 x0))
  | 208,[x0]=>.b (freeB (str1 x0))
  | 181,[x0]=>.b (freeB (str1 x0))
  | 125,[x0,x1]=>.b (less (dat1 x0) (dat1 x1))
  | 167,[x0,x1]=>.b (datOk (rule1 x0) (dat1 x1))
  | 124,[x0,x1]=>.b (rDatOk (int1 x0) (dat1 x1))
  | 209,[x0]=>.i (orFrom (ints1 x0) 0)
  | 168,[x0,x1]=>.i (datC (dat1 x0) (dat1 x1))
  | 108,[x0]=>.b (setOk (set1 x0))
  | 65,[x0]=>.b (setOk (set1 x0))
  | 123,[x0]=>.b (singleB (int1 x0))
  | 121,[x0,x1]=>.i (rOrd (set1 x0) (set1 x1))
  | 158,[x0,x1]=>.b (sameB (set1 x0) (set1 x1))
  | 134,[x0]=>.tuple [.list false ((bytesF (set1 x0)).1.map bD),.i (bytesF (set1 x0)).2]
  | 222,[x0]=>.tuple [.agg (readF (bytes1 x0)).1.d,.i (readF (bytes1 x0)).2]
  | 142,[x0]=>.list false ((setB (set1 x0)).map bD)
  | 179,[x0]=>.tuple [.agg (readF (bytes1 x0)).1.d,.i (readF (bytes1 x0)).2]
  | 219,[x0,x1]=>.b (hasSuf (str1 x0) (str1 x1))
  | 182,[x0,x1]=>.b (hasSuf (str1 x0) (str1 x1))
  | 126,[x0,x1]=>.tuple [.b (underV (str1 x0) (str1 x1)),.i (if nameOk (str1 x0)&&nameOk (str1 x1) then 0 else 11)]
  | 136,[x0,x1]=>.b (inB (str1 x0) (str1 x1))
  | 135,[x0]=>.b (wild1 (str1 x0))
  | 127,[x0,x1,x2,x3]=>.i (qC ⟨(str1 x0),(int1 x1)⟩ ⟨(str1 x2),(int1 x3)⟩)
  | 107,[x0,x1]=>.i (qC (qst1 x0) (qst1 x1))
  | 128,[x0,x1]=>.b (fits (int1 x0) (bool1 x1))
  | 138,[x0,x1]=>.b (fits (int1 x0) (bool1 x1))
  | 129,[x0,x1]=>.b (sigsOk (sigs1 x0) (str1 x1))
  | 141,[x0,x1]=>.b (sigsOk (sigs1 x0) (str1 x1))
  | 63,[x0]=>.b (qOk (qst1 x0))
  | 101,[x0,x1]=>.b (sameSgd (sgd1 x0) (sgd1 x1))
  | 45,[x0,x1]=>.b (sameList (sgds1 x0) (sgds1 x1))
  | 24,[x0,x1]=>.b (sameZ (zon1 x0) (zon1 x1))
  | 160,[x0,x1]=>.i (qC (sgd1 x0).q (qst1 x1))
  | 159,[x0,x1,x2]=>.tuple [.i (findIx (sgds1 x0) (qst1 x1)),.b (findOk (sgds1 x0) (qst1 x1))]
  | 102,[x0,x1]=>.tuple [.i (findIx (zon1 x0).sets (qst1 x1)),.b (findOk (zon1 x0).sets (qst1 x1))]
  | 69,[x0]=>.b (ordered (zon1 x0))
  | 70,[x0]=>.b (apexHolds (zon1 x0))
  | 72,[x0]=>.b (aliasB (lay1 x0))
  | 73,[x0]=>.b (cutB (lay1 x0))
  | 74,[x0]=>.b (glueB (lay1 x0))
  | 75,[x0]=>.b (formB (lay1 x0))
  | 71,[x0]=>.agg (layOf (zon1 x0)).d
  | 31,[x0]=>.b (zoneOk (zon1 x0))
  | 46,[x0]=>.tuple [.i (if zoneOk (zon1 x0) then serialOf (zon1 x0) else 0),.i (if zoneOk (zon1 x0) then 0 else 1)]
  | 137,[x0,x1]=>.i (atF (zon1 x0).sets (qst1 x1))
  | 84,[x0]=>.b (oneB (zon1 x0))
  | 85,[x0]=>.b (twoB (zon1 x0))
  | 86,[x0]=>.b (threeB (zon1 x0))
  | 221,[x0]=>.list false ((cutsF (zon1 x0)).map sR)
  | 189,[x0]=>.list false ((highF (zon1 x0)).map sR)
  | 139,[x0]=>.list false ((behR (zon1 x0)).map sR)
  | 87,[x0]=>.b (fourB (zon1 x0))
  | 140,[x0]=>.list false ((ownF (zon1 x0)).map bR)
  | 88,[x0]=>.b (fiveB (zon1 x0))
  | 34,[x0]=>.b (refOk (zon1 x0))
  | 96,[x0]=>.i (serialR (zon1 x0))
  | 11,[x0]=>.b (fewZ (zon1 x0))
  | 61,[x0]=>.b (serB (int1 x0))
  | 105,[x0]=>.b (serB (int1 x0))
  | 62,[x0,x1]=>.b (befB (int1 x0) (int1 x1))
  | 106,[x0,x1]=>.b (befB (int1 x0) (int1 x1))
  | 66,[x0]=>.agg (sgd1 x0).q.d
  | 51,[x0]=>.agg (sgd1 x0).q.d
  | 64,[x0,x1]=>.i (qO (qst1 x0) (qst1 x1))
  | 97,[x0,x1]=>.i (atF (sgds1 x0) (qst1 x1))
  | 67,[x0,x1]=>.b (askB (qsts1 x0) (qst1 x1))
  | 98,[x0,x1]=>.list false ((sortedF (sgds1 x0) (sgd1 x1)).map Sgd.d)
  | 29,[x0]=>.b (dltOk (dlt1 x0))
  | 12,[x0]=>.b (fewD (dlt1 x0))
  | 41,[x0,x1]=>.tuple [.agg (applyR (zon1 x0) (dlt1 x1)).1.d,.i (applyR (zon1 x0) (dlt1 x1)).2]
  | 112,[x0]=>.list false ((dats1 x0).map Dat.d)
  | 113,[x0]=>.list false ((sigs1 x0).map RSig.d)
  | 55,[x0]=>.agg (sgd1 x0).d
  | 48,[x0]=>.fmap (kvP (mapP (sgds1 x0)))
  | 50,[x0,x1]=>.tuple [.agg (sgd1 x0).d,.b (newB (mapc1 x1) (sgd1 x0).q)]
  | 54,[x0]=>.tuple [.agg (sgd1 x0).d,.b true]
  | 157,[x0]=>.tuple [.agg (sgd1 x0).d,.b true]
  | 150,[x0]=>.agg (qst1 x0).d
  | 154,[x0,x1]=>.list false (((qsts1 x0).filterMap (j3S (capm1 x1))).map Qst.d)
  | 49,[x0,x1]=>.list false (((sgds1 x0).filterMap (semS (x1))).map Sgd.d)
  | 53,[x0]=>.fn (.func 111) [] [.eptr [.fn (.func 51) [] []]]
  | 111,[x0,x1,x2]=>.i (qC (sgd1 x0).q (sgd1 x1).q)
  | 153,[x0]=>.fn (.func 202) [] [.eptr [.fn (.func 150) [] []]]
  | 47,[x0]=>.b (dltOk (dlt1 x0))
  | 27,[x0,x1]=>.tuple [.agg (applyP (zon1 x0) (dlt1 x1)).1.d,.i (applyP (zon1 x0) (dlt1 x1)).2]
  | 94,[x0,x1]=>.tuple [.agg (joinP (dlt1 x0) (dlt1 x1)).1.d,.i (joinP (dlt1 x0) (dlt1 x1)).2]
  | 33,[x0]=>.list false ((zonB (zon1 x0)).map bD)
  | 38,[x0]=>.list false ((dltB (dlt1 x0)).map bD)
  | 32,[x0,x1]=>.list false ((frmB (byte1 x0) (bytes1 x1)).map bD)
  | 79,[x0]=>.v (.int .u64 ((dig (bytes1 x0):Nat):Int))
  | 116,[x0]=>.v (.int .u64 ((dig (bytes1 x0):Nat):Int))
  | 35,[x0]=>.list false ((frmB 1 (zonB (zon1 x0))).map bD)
  | 42,[x0]=>.list false ((frmB 2 (dltB (dlt1 x0))).map bD)
  | 146,[x0,x1]=>.b (isE (val1 x0))
  | 143,[x0,x1]=>.tuple [.list false ((fst1 (byte1 x0).toNat (bytes1 x1)).2.map bD),.i (fst1 (byte1 x0).toNat (bytes1 x1)).1]
  | 93,[x0,x1]=>.tuple [.agg (nextF (cnt1 x0) (bytes1 x1)).1.d,.i (nextF (cnt1 x0) (bytes1 x1)).2]
  | 92,[x0]=>.tuple [.agg (wholeC (bytes1 x0)).d,.i (sumL (frs (bytes1 x0)))]
  | 36,[x0]=>.tuple [.agg (opnOf (dsk1 x0)).d,.b (openF (dsk1 x0)).isSome]
  | 37,[x0]=>.b (dltOk (dlt1 x0))
  | 39,[x0]=>.list false ((bytes1 x0).map bD)
  | 44,[x0,x1,x2]=>.list false (((bytes1 x0)++catB (pend1 x1)++(bytes1 x2)).map bD)
  | 13,[x0]=>.tuple [.agg (beginF (zon1 x0)).1.d,.i (beginF (zon1 x0)).2]
  | 16,[x0,x1]=>.tuple [.agg (appendF (dsk1 x0) (dlt1 x1)).1.d,.i (appendF (dsk1 x0) (dlt1 x1)).2]
  | 18,[x0]=>.tuple [.agg (syncF (dsk1 x0)).1.d,.i (syncF (dsk1 x0)).2]
  | 20,[x0,x1,x2]=>.tuple [.agg (crashF (dsk1 x0) (int1 x1) (int1 x2)).1.d,.i (crashF (dsk1 x0) (int1 x1) (int1 x2)).2]
  | 22,[x0]=>.tuple [.agg (loadF (dsk1 x0)).1.d,.i (loadF (dsk1 x0)).2]
  | 56,[x0,x1]=>.tuple [.i (fst1 (int1 x1).toNat (bytes1 x0)).1,.list false ((fst1 (int1 x1).toNat (bytes1 x0)).2.map bD)]
  | 28,[x0]=>.tuple [.agg (wholeZ (bytes1 x0)).d,.list false ((endsB (bytes1 x0)).map nD)]
  | 43,[x0]=>.list false ((partB (bytes1 x0)).map bD)
  | 40,[x0]=>.tuple [.list false (((allR (dsk1 x0)).getD []).map bD),.b (allR (dsk1 x0)).isSome]
  | 14,[x0]=>.tuple [.agg (beginF (zon1 x0)).1.d,.i (beginF (zon1 x0)).2]
  | 17,[x0,x1]=>.tuple [.agg (appendF (dsk1 x0) (dlt1 x1)).1.d,.i (appendF (dsk1 x0) (dlt1 x1)).2]
  | 19,[x0]=>.tuple [.agg (syncF (dsk1 x0)).1.d,.i (syncF (dsk1 x0)).2]
  | 21,[x0,x1,x2]=>.tuple [.agg (crashF (dsk1 x0) (int1 x1) (int1 x2)).1.d,.i (crashF (dsk1 x0) (int1 x1) (int1 x2)).2]
  | 23,[x0]=>.tuple [.agg (loadF (dsk1 x0)).1.d,.i (loadF (dsk1 x0)).2]
  | 15,[x0,x1]=>.b (sameK (dsk1 x0) (dsk1 x1))
  | 10,[x0]=>.b (fewK (dsk1 x0))
  | 68,[x0,x1,x2]=>.agg (mZ (str1 x0) (int1 x1) (dat1 x2)).d
  | 30,[]=>.tuple [.agg exZ.d,.agg exX.d]
  | 9,[]=>.b true
  | 3,[x0,x1,x2,x3,x4]=>.b true
  | _,_=>.junk
@[go_sem] theorem jlp243:Jl.pure 243=true:=rfl
@[go_sem] theorem jlf243 {x0 x1:D}:Jl.pf 243 [x0,x1] = .i (lastIx (str1 x0) (int1 x1)):=rfl
@[go_sem] theorem jlp231:Jl.pure 231=true:=rfl
@[go_sem] theorem jlf231 {x0 x1:D}:Jl.pf 231 [x0,x1] = .i (lastIx (str1 x0) (int1 x1)):=rfl
@[go_sem] theorem jlp204:Jl.pure 204=true:=rfl
@[go_sem] theorem jlf204 {x0:D}:Jl.pf 204 [x0] = .b (labelOk (str1 x0)):=rfl
@[go_sem] theorem jlp120:Jl.pure 120=true:=rfl
@[go_sem] theorem jlf120 {x0:D}:Jl.pf 120 [x0] = .b (labelOk (str1 x0)):=rfl
@[go_sem] theorem jlp119:Jl.pure 119=true:=rfl
@[go_sem] theorem jlf119 {x0:D}:Jl.pf 119 [x0] = .list false ((splitF (str1 x0)).map sR):=rfl
@[go_sem] theorem jlp59:Jl.pure 59=true:=rfl
@[go_sem] theorem jlf59 {x0:D}:Jl.pf 59 [x0] = .b (nameOk (str1 x0)):=rfl
@[go_sem] theorem jlp161:Jl.pure 161=true:=rfl
@[go_sem] theorem jlf161 {x0:D}:Jl.pf 161 [x0] = .b (nameOk (str1 x0)):=rfl
@[go_sem] theorem jlp103:Jl.pure 103=true:=rfl
@[go_sem] theorem jlf103 {x0:D}:Jl.pf 103 [x0] = .b (nameOk (str1 x0)):=rfl
@[go_sem] theorem jlp188:Jl.pure 188=true:=rfl
@[go_sem] theorem jlf188 {x0:D}:Jl.pf 188 [x0] = .list false ((partsOf (str1 x0)).map sR):=rfl
@[go_sem] theorem jlp233:Jl.pure 233=true:=rfl
@[go_sem] theorem jlf233 {x0 x1:D}:Jl.pf 233 [x0,x1] = .i (Go.Lib.compareBytes (str1 x0) (str1 x1)):=rfl
@[go_sem] theorem jlp206:Jl.pure 206=true:=rfl
@[go_sem] theorem jlf206 {x0 x1:D}:Jl.pf 206 [x0,x1] = .i (Go.Lib.compareBytes (str1 x0) (str1 x1)):=rfl
@[go_sem] theorem jlp190:Jl.pure 190=true:=rfl
@[go_sem] theorem jlf190 {x0 x1:D}:Jl.pf 190 [x0,x1] = .i (nmOrd (str1 x0) (str1 x1)):=rfl
@[go_sem] theorem jlp180:Jl.pure 180=true:=rfl
@[go_sem] theorem jlf180 {x0 x1:D}:Jl.pf 180 [x0,x1] = .tuple [.i (if nameOk (str1 x0)&&nameOk (str1 x1) then nmCmp (str1 x0) (str1 x1) else 0),.i (if nameOk (str1 x0)&&nameOk (str1 x1) then 0 else 11)]:=rfl
@[go_sem] theorem jlp163:Jl.pure 163=true:=rfl
@[go_sem] theorem jlf163 {x0 x1:D}:Jl.pf 163 [x0,x1] = .tuple [.i (if nameOk (str1 x0)&&nameOk (str1 x1) then nmCmp (str1 x0) (str1 x1) else 0),.i (if nameOk (str1 x0)&&nameOk (str1 x1) then 0 else 11)]:=rfl
@[go_sem] theorem jlp165:Jl.pure 165=true:=rfl
@[go_sem] theorem jlf165 {x0 x1 x2:D}:Jl.pf 165 [x0,x1,x2] = .b (inR (int1 x0) (int1 x1) (int1 x2)):=rfl
@[go_sem] theorem jlp234:Jl.pure 234=true:=rfl
@[go_sem] theorem jlf234 {x0 x1 x2:D}:Jl.pf 234 [x0,x1,x2] = .b (inR (int1 x0) (int1 x1) (int1 x2)):=rfl
@[go_sem] theorem jlp122:Jl.pure 122=true:=rfl
@[go_sem] theorem jlf122 {x0 x1 x2:D}:Jl.pf 122 [x0,x1,x2] = .b (inR (int1 x0) (int1 x1) (int1 x2)):=rfl
@[go_sem] theorem jlp207:Jl.pure 207=true:=rfl
@[go_sem] theorem jlf207 {x0:D}:Jl.pf 207 [x0] = .b ((int1 x0) != (int1 x0)):=rfl
@[go_sem] theorem jlp235:Jl.pure 235=true:=rfl
@[go_sem] theorem jlf235 {x0:D}:Jl.pf 235 [x0] = .b ((str1 x0) != (str1 x0)):=rfl
@[go_sem] theorem jlp164:Jl.pure 164=true:=rfl
@[go_sem] theorem jlf164 {x0 x1:D}:Jl.pf 164 [x0,x1] = .i (cmpI (int1 x0) (int1 x1)):=rfl
@[go_sem] theorem jlp210:Jl.pure 210=true:=rfl
@[go_sem] theorem jlf210 {x0 x1:D}:Jl.pf 210 [x0,x1] = .i (cmpS (str1 x0) (str1 x1)):=rfl
@[go_sem] theorem jlp162:Jl.pure 162=true:=rfl
@[go_sem] theorem jlf162 {x0 x1:D}:Jl.pf 162 [x0,x1] = .b (hasPre (str1 x0) (str1 x1)):=rfl
@[go_sem] theorem jlp104:Jl.pure 104=true:=rfl
@[go_sem] theorem jlf104 {x0 x1:D}:Jl.pf 104 [x0,x1] = .b (hasPre (str1 x0) (str1 x1)):=rfl
@[go_sem] theorem jlp166:Jl.pure 166=true:=rfl
@[go_sem] theorem jlf166 {x0:D}:Jl.pf 166 [x0] = .b (wildB (str1 x0)):=rfl
@[go_sem] theorem jlp60:Jl.pure 60=true:=rfl
@[go_sem] theorem jlf60 {x0:D}:Jl.pf 60 [x0] = .b (wildB (str1 x0)):=rfl
@[go_sem] theorem jlp208:Jl.pure 208=true:=rfl
@[go_sem] theorem jlf208 {x0:D}:Jl.pf 208 [x0] = .b (freeB (str1 x0)):=rfl
@[go_sem] theorem jlp181:Jl.pure 181=true:=rfl
@[go_sem] theorem jlf181 {x0:D}:Jl.pf 181 [x0] = .b (freeB (str1 x0)):=rfl
@[go_sem] theorem jlp125:Jl.pure 125=true:=rfl
@[go_sem] theorem jlf125 {x0 x1:D}:Jl.pf 125 [x0,x1] = .b (less (dat1 x0) (dat1 x1)):=rfl
@[go_sem] theorem jlp167:Jl.pure 167=true:=rfl
@[go_sem] theorem jlf167 {x0 x1:D}:Jl.pf 167 [x0,x1] = .b (datOk (rule1 x0) (dat1 x1)):=rfl
@[go_sem] theorem jlp124:Jl.pure 124=true:=rfl
@[go_sem] theorem jlf124 {x0 x1:D}:Jl.pf 124 [x0,x1] = .b (rDatOk (int1 x0) (dat1 x1)):=rfl
@[go_sem] theorem jlp209:Jl.pure 209=true:=rfl
@[go_sem] theorem jlf209 {x0:D}:Jl.pf 209 [x0] = .i (orFrom (ints1 x0) 0):=rfl
@[go_sem] theorem jlp168:Jl.pure 168=true:=rfl
@[go_sem] theorem jlf168 {x0 x1:D}:Jl.pf 168 [x0,x1] = .i (datC (dat1 x0) (dat1 x1)):=rfl
@[go_sem] theorem jlp108:Jl.pure 108=true:=rfl
@[go_sem] theorem jlf108 {x0:D}:Jl.pf 108 [x0] = .b (setOk (set1 x0)):=rfl
@[go_sem] theorem jlp65:Jl.pure 65=true:=rfl
@[go_sem] theorem jlf65 {x0:D}:Jl.pf 65 [x0] = .b (setOk (set1 x0)):=rfl
@[go_sem] theorem jlp123:Jl.pure 123=true:=rfl
@[go_sem] theorem jlf123 {x0:D}:Jl.pf 123 [x0] = .b (singleB (int1 x0)):=rfl
@[go_sem] theorem jlp121:Jl.pure 121=true:=rfl
@[go_sem] theorem jlf121 {x0 x1:D}:Jl.pf 121 [x0,x1] = .i (rOrd (set1 x0) (set1 x1)):=rfl
@[go_sem] theorem jlp158:Jl.pure 158=true:=rfl
@[go_sem] theorem jlf158 {x0 x1:D}:Jl.pf 158 [x0,x1] = .b (sameB (set1 x0) (set1 x1)):=rfl
@[go_sem] theorem jlp134:Jl.pure 134=true:=rfl
@[go_sem] theorem jlf134 {x0:D}:Jl.pf 134 [x0] = .tuple [.list false ((bytesF (set1 x0)).1.map bD),.i (bytesF (set1 x0)).2]:=rfl
@[go_sem] theorem jlp222:Jl.pure 222=true:=rfl
@[go_sem] theorem jlf222 {x0:D}:Jl.pf 222 [x0] = .tuple [.agg (readF (bytes1 x0)).1.d,.i (readF (bytes1 x0)).2]:=rfl
@[go_sem] theorem jlp142:Jl.pure 142=true:=rfl
@[go_sem] theorem jlf142 {x0:D}:Jl.pf 142 [x0] = .list false ((setB (set1 x0)).map bD):=rfl
@[go_sem] theorem jlp179:Jl.pure 179=true:=rfl
@[go_sem] theorem jlf179 {x0:D}:Jl.pf 179 [x0] = .tuple [.agg (readF (bytes1 x0)).1.d,.i (readF (bytes1 x0)).2]:=rfl
@[go_sem] theorem jlp219:Jl.pure 219=true:=rfl
@[go_sem] theorem jlf219 {x0 x1:D}:Jl.pf 219 [x0,x1] = .b (hasSuf (str1 x0) (str1 x1)):=rfl
@[go_sem] theorem jlp182:Jl.pure 182=true:=rfl
@[go_sem] theorem jlf182 {x0 x1:D}:Jl.pf 182 [x0,x1] = .b (hasSuf (str1 x0) (str1 x1)):=rfl
@[go_sem] theorem jlp126:Jl.pure 126=true:=rfl
@[go_sem] theorem jlf126 {x0 x1:D}:Jl.pf 126 [x0,x1] = .tuple [.b (underV (str1 x0) (str1 x1)),.i (if nameOk (str1 x0)&&nameOk (str1 x1) then 0 else 11)]:=rfl
@[go_sem] theorem jlp136:Jl.pure 136=true:=rfl
@[go_sem] theorem jlf136 {x0 x1:D}:Jl.pf 136 [x0,x1] = .b (inB (str1 x0) (str1 x1)):=rfl
@[go_sem] theorem jlp135:Jl.pure 135=true:=rfl
@[go_sem] theorem jlf135 {x0:D}:Jl.pf 135 [x0] = .b (wild1 (str1 x0)):=rfl
@[go_sem] theorem jlp127:Jl.pure 127=true:=rfl
@[go_sem] theorem jlf127 {x0 x1 x2 x3:D}:Jl.pf 127 [x0,x1,x2,x3] = .i (qC ⟨(str1 x0),(int1 x1)⟩ ⟨(str1 x2),(int1 x3)⟩):=rfl
@[go_sem] theorem jlp107:Jl.pure 107=true:=rfl
@[go_sem] theorem jlf107 {x0 x1:D}:Jl.pf 107 [x0,x1] = .i (qC (qst1 x0) (qst1 x1)):=rfl
@[go_sem] theorem jlp128:Jl.pure 128=true:=rfl
@[go_sem] theorem jlf128 {x0 x1:D}:Jl.pf 128 [x0,x1] = .b (fits (int1 x0) (bool1 x1)):=rfl
@[go_sem] theorem jlp138:Jl.pure 138=true:=rfl
@[go_sem] theorem jlf138 {x0 x1:D}:Jl.pf 138 [x0,x1] = .b (fits (int1 x0) (bool1 x1)):=rfl
@[go_sem] theorem jlp129:Jl.pure 129=true:=rfl
@[go_sem] theorem jlf129 {x0 x1:D}:Jl.pf 129 [x0,x1] = .b (sigsOk (sigs1 x0) (str1 x1)):=rfl
@[go_sem] theorem jlp141:Jl.pure 141=true:=rfl
@[go_sem] theorem jlf141 {x0 x1:D}:Jl.pf 141 [x0,x1] = .b (sigsOk (sigs1 x0) (str1 x1)):=rfl
@[go_sem] theorem jlp63:Jl.pure 63=true:=rfl
@[go_sem] theorem jlf63 {x0:D}:Jl.pf 63 [x0] = .b (qOk (qst1 x0)):=rfl
@[go_sem] theorem jlp101:Jl.pure 101=true:=rfl
@[go_sem] theorem jlf101 {x0 x1:D}:Jl.pf 101 [x0,x1] = .b (sameSgd (sgd1 x0) (sgd1 x1)):=rfl
@[go_sem] theorem jlp45:Jl.pure 45=true:=rfl
@[go_sem] theorem jlf45 {x0 x1:D}:Jl.pf 45 [x0,x1] = .b (sameList (sgds1 x0) (sgds1 x1)):=rfl
@[go_sem] theorem jlp24:Jl.pure 24=true:=rfl
@[go_sem] theorem jlf24 {x0 x1:D}:Jl.pf 24 [x0,x1] = .b (sameZ (zon1 x0) (zon1 x1)):=rfl
@[go_sem] theorem jlp160:Jl.pure 160=true:=rfl
@[go_sem] theorem jlf160 {x0 x1:D}:Jl.pf 160 [x0,x1] = .i (qC (sgd1 x0).q (qst1 x1)):=rfl
@[go_sem] theorem jlp159:Jl.pure 159=true:=rfl
@[go_sem] theorem jlf159 {x0 x1 x2:D}:Jl.pf 159 [x0,x1,x2] = .tuple [.i (findIx (sgds1 x0) (qst1 x1)),.b (findOk (sgds1 x0) (qst1 x1))]:=rfl
@[go_sem] theorem jlp102:Jl.pure 102=true:=rfl
@[go_sem] theorem jlf102 {x0 x1:D}:Jl.pf 102 [x0,x1] = .tuple [.i (findIx (zon1 x0).sets (qst1 x1)),.b (findOk (zon1 x0).sets (qst1 x1))]:=rfl
@[go_sem] theorem jlp69:Jl.pure 69=true:=rfl
@[go_sem] theorem jlf69 {x0:D}:Jl.pf 69 [x0] = .b (ordered (zon1 x0)):=rfl
@[go_sem] theorem jlp70:Jl.pure 70=true:=rfl
@[go_sem] theorem jlf70 {x0:D}:Jl.pf 70 [x0] = .b (apexHolds (zon1 x0)):=rfl
@[go_sem] theorem jlp72:Jl.pure 72=true:=rfl
@[go_sem] theorem jlf72 {x0:D}:Jl.pf 72 [x0] = .b (aliasB (lay1 x0)):=rfl
@[go_sem] theorem jlp73:Jl.pure 73=true:=rfl
@[go_sem] theorem jlf73 {x0:D}:Jl.pf 73 [x0] = .b (cutB (lay1 x0)):=rfl
@[go_sem] theorem jlp74:Jl.pure 74=true:=rfl
@[go_sem] theorem jlf74 {x0:D}:Jl.pf 74 [x0] = .b (glueB (lay1 x0)):=rfl
@[go_sem] theorem jlp75:Jl.pure 75=true:=rfl
@[go_sem] theorem jlf75 {x0:D}:Jl.pf 75 [x0] = .b (formB (lay1 x0)):=rfl
@[go_sem] theorem jlp71:Jl.pure 71=true:=rfl
@[go_sem] theorem jlf71 {x0:D}:Jl.pf 71 [x0] = .agg (layOf (zon1 x0)).d:=rfl
@[go_sem] theorem jlp31:Jl.pure 31=true:=rfl
@[go_sem] theorem jlf31 {x0:D}:Jl.pf 31 [x0] = .b (zoneOk (zon1 x0)):=rfl
@[go_sem] theorem jlp46:Jl.pure 46=true:=rfl
@[go_sem] theorem jlf46 {x0:D}:Jl.pf 46 [x0] = .tuple [.i (if zoneOk (zon1 x0) then serialOf (zon1 x0) else 0),.i (if zoneOk (zon1 x0) then 0 else 1)]:=rfl
@[go_sem] theorem jlp137:Jl.pure 137=true:=rfl
@[go_sem] theorem jlf137 {x0 x1:D}:Jl.pf 137 [x0,x1] = .i (atF (zon1 x0).sets (qst1 x1)):=rfl
@[go_sem] theorem jlp84:Jl.pure 84=true:=rfl
@[go_sem] theorem jlf84 {x0:D}:Jl.pf 84 [x0] = .b (oneB (zon1 x0)):=rfl
@[go_sem] theorem jlp85:Jl.pure 85=true:=rfl
@[go_sem] theorem jlf85 {x0:D}:Jl.pf 85 [x0] = .b (twoB (zon1 x0)):=rfl
@[go_sem] theorem jlp86:Jl.pure 86=true:=rfl
@[go_sem] theorem jlf86 {x0:D}:Jl.pf 86 [x0] = .b (threeB (zon1 x0)):=rfl
@[go_sem] theorem jlp221:Jl.pure 221=true:=rfl
@[go_sem] theorem jlf221 {x0:D}:Jl.pf 221 [x0] = .list false ((cutsF (zon1 x0)).map sR):=rfl
@[go_sem] theorem jlp189:Jl.pure 189=true:=rfl
@[go_sem] theorem jlf189 {x0:D}:Jl.pf 189 [x0] = .list false ((highF (zon1 x0)).map sR):=rfl
@[go_sem] theorem jlp139:Jl.pure 139=true:=rfl
@[go_sem] theorem jlf139 {x0:D}:Jl.pf 139 [x0] = .list false ((behR (zon1 x0)).map sR):=rfl
@[go_sem] theorem jlp87:Jl.pure 87=true:=rfl
@[go_sem] theorem jlf87 {x0:D}:Jl.pf 87 [x0] = .b (fourB (zon1 x0)):=rfl
@[go_sem] theorem jlp140:Jl.pure 140=true:=rfl
@[go_sem] theorem jlf140 {x0:D}:Jl.pf 140 [x0] = .list false ((ownF (zon1 x0)).map bR):=rfl
@[go_sem] theorem jlp88:Jl.pure 88=true:=rfl
@[go_sem] theorem jlf88 {x0:D}:Jl.pf 88 [x0] = .b (fiveB (zon1 x0)):=rfl
@[go_sem] theorem jlp34:Jl.pure 34=true:=rfl
@[go_sem] theorem jlf34 {x0:D}:Jl.pf 34 [x0] = .b (refOk (zon1 x0)):=rfl
@[go_sem] theorem jlp96:Jl.pure 96=true:=rfl
@[go_sem] theorem jlf96 {x0:D}:Jl.pf 96 [x0] = .i (serialR (zon1 x0)):=rfl
@[go_sem] theorem jlp11:Jl.pure 11=true:=rfl
@[go_sem] theorem jlf11 {x0:D}:Jl.pf 11 [x0] = .b (fewZ (zon1 x0)):=rfl
@[go_sem] theorem jlp61:Jl.pure 61=true:=rfl
@[go_sem] theorem jlf61 {x0:D}:Jl.pf 61 [x0] = .b (serB (int1 x0)):=rfl
@[go_sem] theorem jlp105:Jl.pure 105=true:=rfl
@[go_sem] theorem jlf105 {x0:D}:Jl.pf 105 [x0] = .b (serB (int1 x0)):=rfl
@[go_sem] theorem jlp62:Jl.pure 62=true:=rfl
@[go_sem] theorem jlf62 {x0 x1:D}:Jl.pf 62 [x0,x1] = .b (befB (int1 x0) (int1 x1)):=rfl
@[go_sem] theorem jlp106:Jl.pure 106=true:=rfl
@[go_sem] theorem jlf106 {x0 x1:D}:Jl.pf 106 [x0,x1] = .b (befB (int1 x0) (int1 x1)):=rfl
@[go_sem] theorem jlp66:Jl.pure 66=true:=rfl
@[go_sem] theorem jlf66 {x0:D}:Jl.pf 66 [x0] = .agg (sgd1 x0).q.d:=rfl
@[go_sem] theorem jlp51:Jl.pure 51=true:=rfl
@[go_sem] theorem jlf51 {x0:D}:Jl.pf 51 [x0] = .agg (sgd1 x0).q.d:=rfl
@[go_sem] theorem jlp64:Jl.pure 64=true:=rfl
@[go_sem] theorem jlf64 {x0 x1:D}:Jl.pf 64 [x0,x1] = .i (qO (qst1 x0) (qst1 x1)):=rfl
@[go_sem] theorem jlp97:Jl.pure 97=true:=rfl
@[go_sem] theorem jlf97 {x0 x1:D}:Jl.pf 97 [x0,x1] = .i (atF (sgds1 x0) (qst1 x1)):=rfl
@[go_sem] theorem jlp67:Jl.pure 67=true:=rfl
@[go_sem] theorem jlf67 {x0 x1:D}:Jl.pf 67 [x0,x1] = .b (askB (qsts1 x0) (qst1 x1)):=rfl
@[go_sem] theorem jlp98:Jl.pure 98=true:=rfl
@[go_sem] theorem jlf98 {x0 x1:D}:Jl.pf 98 [x0,x1] = .list false ((sortedF (sgds1 x0) (sgd1 x1)).map Sgd.d):=rfl
@[go_sem] theorem jlp29:Jl.pure 29=true:=rfl
@[go_sem] theorem jlf29 {x0:D}:Jl.pf 29 [x0] = .b (dltOk (dlt1 x0)):=rfl
@[go_sem] theorem jlp12:Jl.pure 12=true:=rfl
@[go_sem] theorem jlf12 {x0:D}:Jl.pf 12 [x0] = .b (fewD (dlt1 x0)):=rfl
@[go_sem] theorem jlp41:Jl.pure 41=true:=rfl
@[go_sem] theorem jlf41 {x0 x1:D}:Jl.pf 41 [x0,x1] = .tuple [.agg (applyR (zon1 x0) (dlt1 x1)).1.d,.i (applyR (zon1 x0) (dlt1 x1)).2]:=rfl
@[go_sem] theorem jlp112:Jl.pure 112=true:=rfl
@[go_sem] theorem jlf112 {x0:D}:Jl.pf 112 [x0] = .list false ((dats1 x0).map Dat.d):=rfl
@[go_sem] theorem jlp113:Jl.pure 113=true:=rfl
@[go_sem] theorem jlf113 {x0:D}:Jl.pf 113 [x0] = .list false ((sigs1 x0).map RSig.d):=rfl
@[go_sem] theorem jlp55:Jl.pure 55=true:=rfl
@[go_sem] theorem jlf55 {x0:D}:Jl.pf 55 [x0] = .agg (sgd1 x0).d:=rfl
@[go_sem] theorem jlp48:Jl.pure 48=true:=rfl
@[go_sem] theorem jlf48 {x0:D}:Jl.pf 48 [x0] = .fmap (kvP (mapP (sgds1 x0))):=rfl
@[go_sem] theorem jlp50:Jl.pure 50=true:=rfl
@[go_sem] theorem jlf50 {x0 x1:D}:Jl.pf 50 [x0,x1] = .tuple [.agg (sgd1 x0).d,.b (newB (mapc1 x1) (sgd1 x0).q)]:=rfl
@[go_sem] theorem jlp54:Jl.pure 54=true:=rfl
@[go_sem] theorem jlf54 {x0:D}:Jl.pf 54 [x0] = .tuple [.agg (sgd1 x0).d,.b true]:=rfl
@[go_sem] theorem jlp157:Jl.pure 157=true:=rfl
@[go_sem] theorem jlf157 {x0:D}:Jl.pf 157 [x0] = .tuple [.agg (sgd1 x0).d,.b true]:=rfl
@[go_sem] theorem jlp150:Jl.pure 150=true:=rfl
@[go_sem] theorem jlf150 {x0:D}:Jl.pf 150 [x0] = .agg (qst1 x0).d:=rfl
@[go_sem] theorem jlp154:Jl.pure 154=true:=rfl
@[go_sem] theorem jlf154 {x0 x1:D}:Jl.pf 154 [x0,x1] = .list false (((qsts1 x0).filterMap (j3S (capm1 x1))).map Qst.d):=rfl
@[go_sem] theorem jlp49:Jl.pure 49=true:=rfl
@[go_sem] theorem jlf49 {x0 x1:D}:Jl.pf 49 [x0,x1] = .list false (((sgds1 x0).filterMap (semS (x1))).map Sgd.d):=rfl
@[go_sem] theorem jlp53:Jl.pure 53=true:=rfl
@[go_sem] theorem jlf53 {x0:D}:Jl.pf 53 [x0] = .fn (.func 111) [] [.eptr [.fn (.func 51) [] []]]:=rfl
@[go_sem] theorem jlp111:Jl.pure 111=true:=rfl
@[go_sem] theorem jlf111 {x0 x1 x2:D}:Jl.pf 111 [x0,x1,x2] = .i (qC (sgd1 x0).q (sgd1 x1).q):=rfl
@[go_sem] theorem jlp153:Jl.pure 153=true:=rfl
@[go_sem] theorem jlf153 {x0:D}:Jl.pf 153 [x0] = .fn (.func 202) [] [.eptr [.fn (.func 150) [] []]]:=rfl
@[go_sem] theorem jlp47:Jl.pure 47=true:=rfl
@[go_sem] theorem jlf47 {x0:D}:Jl.pf 47 [x0] = .b (dltOk (dlt1 x0)):=rfl
@[go_sem] theorem jlp27:Jl.pure 27=true:=rfl
@[go_sem] theorem jlf27 {x0 x1:D}:Jl.pf 27 [x0,x1] = .tuple [.agg (applyP (zon1 x0) (dlt1 x1)).1.d,.i (applyP (zon1 x0) (dlt1 x1)).2]:=rfl
@[go_sem] theorem jlp94:Jl.pure 94=true:=rfl
@[go_sem] theorem jlf94 {x0 x1:D}:Jl.pf 94 [x0,x1] = .tuple [.agg (joinP (dlt1 x0) (dlt1 x1)).1.d,.i (joinP (dlt1 x0) (dlt1 x1)).2]:=rfl
@[go_sem] theorem jlp33:Jl.pure 33=true:=rfl
@[go_sem] theorem jlf33 {x0:D}:Jl.pf 33 [x0] = .list false ((zonB (zon1 x0)).map bD):=rfl
@[go_sem] theorem jlp38:Jl.pure 38=true:=rfl
@[go_sem] theorem jlf38 {x0:D}:Jl.pf 38 [x0] = .list false ((dltB (dlt1 x0)).map bD):=rfl
@[go_sem] theorem jlp32:Jl.pure 32=true:=rfl
@[go_sem] theorem jlf32 {x0 x1:D}:Jl.pf 32 [x0,x1] = .list false ((frmB (byte1 x0) (bytes1 x1)).map bD):=rfl
@[go_sem] theorem jlp79:Jl.pure 79=true:=rfl
@[go_sem] theorem jlf79 {x0:D}:Jl.pf 79 [x0] = .v (.int .u64 ((dig (bytes1 x0):Nat):Int)):=rfl
@[go_sem] theorem jlp116:Jl.pure 116=true:=rfl
@[go_sem] theorem jlf116 {x0:D}:Jl.pf 116 [x0] = .v (.int .u64 ((dig (bytes1 x0):Nat):Int)):=rfl
@[go_sem] theorem jlp35:Jl.pure 35=true:=rfl
@[go_sem] theorem jlf35 {x0:D}:Jl.pf 35 [x0] = .list false ((frmB 1 (zonB (zon1 x0))).map bD):=rfl
@[go_sem] theorem jlp42:Jl.pure 42=true:=rfl
@[go_sem] theorem jlf42 {x0:D}:Jl.pf 42 [x0] = .list false ((frmB 2 (dltB (dlt1 x0))).map bD):=rfl
@[go_sem] theorem jlp146:Jl.pure 146=true:=rfl
@[go_sem] theorem jlf146 {x0 x1:D}:Jl.pf 146 [x0,x1] = .b (isE (val1 x0)):=rfl
@[go_sem] theorem jlp143:Jl.pure 143=true:=rfl
@[go_sem] theorem jlf143 {x0 x1:D}:Jl.pf 143 [x0,x1] = .tuple [.list false ((fst1 (byte1 x0).toNat (bytes1 x1)).2.map bD),.i (fst1 (byte1 x0).toNat (bytes1 x1)).1]:=rfl
@[go_sem] theorem jlp93:Jl.pure 93=true:=rfl
@[go_sem] theorem jlf93 {x0 x1:D}:Jl.pf 93 [x0,x1] = .tuple [.agg (nextF (cnt1 x0) (bytes1 x1)).1.d,.i (nextF (cnt1 x0) (bytes1 x1)).2]:=rfl
@[go_sem] theorem jlp92:Jl.pure 92=true:=rfl
@[go_sem] theorem jlf92 {x0:D}:Jl.pf 92 [x0] = .tuple [.agg (wholeC (bytes1 x0)).d,.i (sumL (frs (bytes1 x0)))]:=rfl
@[go_sem] theorem jlp36:Jl.pure 36=true:=rfl
@[go_sem] theorem jlf36 {x0:D}:Jl.pf 36 [x0] = .tuple [.agg (opnOf (dsk1 x0)).d,.b (openF (dsk1 x0)).isSome]:=rfl
@[go_sem] theorem jlp37:Jl.pure 37=true:=rfl
@[go_sem] theorem jlf37 {x0:D}:Jl.pf 37 [x0] = .b (dltOk (dlt1 x0)):=rfl
@[go_sem] theorem jlp39:Jl.pure 39=true:=rfl
@[go_sem] theorem jlf39 {x0:D}:Jl.pf 39 [x0] = .list false ((bytes1 x0).map bD):=rfl
@[go_sem] theorem jlp44:Jl.pure 44=true:=rfl
@[go_sem] theorem jlf44 {x0 x1 x2:D}:Jl.pf 44 [x0,x1,x2] = .list false (((bytes1 x0)++catB (pend1 x1)++(bytes1 x2)).map bD):=rfl
@[go_sem] theorem jlp13:Jl.pure 13=true:=rfl
@[go_sem] theorem jlf13 {x0:D}:Jl.pf 13 [x0] = .tuple [.agg (beginF (zon1 x0)).1.d,.i (beginF (zon1 x0)).2]:=rfl
@[go_sem] theorem jlp16:Jl.pure 16=true:=rfl
@[go_sem] theorem jlf16 {x0 x1:D}:Jl.pf 16 [x0,x1] = .tuple [.agg (appendF (dsk1 x0) (dlt1 x1)).1.d,.i (appendF (dsk1 x0) (dlt1 x1)).2]:=rfl
@[go_sem] theorem jlp18:Jl.pure 18=true:=rfl
@[go_sem] theorem jlf18 {x0:D}:Jl.pf 18 [x0] = .tuple [.agg (syncF (dsk1 x0)).1.d,.i (syncF (dsk1 x0)).2]:=rfl
@[go_sem] theorem jlp20:Jl.pure 20=true:=rfl
@[go_sem] theorem jlf20 {x0 x1 x2:D}:Jl.pf 20 [x0,x1,x2] = .tuple [.agg (crashF (dsk1 x0) (int1 x1) (int1 x2)).1.d,.i (crashF (dsk1 x0) (int1 x1) (int1 x2)).2]:=rfl
@[go_sem] theorem jlp22:Jl.pure 22=true:=rfl
@[go_sem] theorem jlf22 {x0:D}:Jl.pf 22 [x0] = .tuple [.agg (loadF (dsk1 x0)).1.d,.i (loadF (dsk1 x0)).2]:=rfl
@[go_sem] theorem jlp56:Jl.pure 56=true:=rfl
@[go_sem] theorem jlf56 {x0 x1:D}:Jl.pf 56 [x0,x1] = .tuple [.i (fst1 (int1 x1).toNat (bytes1 x0)).1,.list false ((fst1 (int1 x1).toNat (bytes1 x0)).2.map bD)]:=rfl
@[go_sem] theorem jlp28:Jl.pure 28=true:=rfl
@[go_sem] theorem jlf28 {x0:D}:Jl.pf 28 [x0] = .tuple [.agg (wholeZ (bytes1 x0)).d,.list false ((endsB (bytes1 x0)).map nD)]:=rfl
@[go_sem] theorem jlp43:Jl.pure 43=true:=rfl
@[go_sem] theorem jlf43 {x0:D}:Jl.pf 43 [x0] = .list false ((partB (bytes1 x0)).map bD):=rfl
@[go_sem] theorem jlp40:Jl.pure 40=true:=rfl
@[go_sem] theorem jlf40 {x0:D}:Jl.pf 40 [x0] = .tuple [.list false (((allR (dsk1 x0)).getD []).map bD),.b (allR (dsk1 x0)).isSome]:=rfl
@[go_sem] theorem jlp14:Jl.pure 14=true:=rfl
@[go_sem] theorem jlf14 {x0:D}:Jl.pf 14 [x0] = .tuple [.agg (beginF (zon1 x0)).1.d,.i (beginF (zon1 x0)).2]:=rfl
@[go_sem] theorem jlp17:Jl.pure 17=true:=rfl
@[go_sem] theorem jlf17 {x0 x1:D}:Jl.pf 17 [x0,x1] = .tuple [.agg (appendF (dsk1 x0) (dlt1 x1)).1.d,.i (appendF (dsk1 x0) (dlt1 x1)).2]:=rfl
@[go_sem] theorem jlp19:Jl.pure 19=true:=rfl
@[go_sem] theorem jlf19 {x0:D}:Jl.pf 19 [x0] = .tuple [.agg (syncF (dsk1 x0)).1.d,.i (syncF (dsk1 x0)).2]:=rfl
@[go_sem] theorem jlp21:Jl.pure 21=true:=rfl
@[go_sem] theorem jlf21 {x0 x1 x2:D}:Jl.pf 21 [x0,x1,x2] = .tuple [.agg (crashF (dsk1 x0) (int1 x1) (int1 x2)).1.d,.i (crashF (dsk1 x0) (int1 x1) (int1 x2)).2]:=rfl
@[go_sem] theorem jlp23:Jl.pure 23=true:=rfl
@[go_sem] theorem jlf23 {x0:D}:Jl.pf 23 [x0] = .tuple [.agg (loadF (dsk1 x0)).1.d,.i (loadF (dsk1 x0)).2]:=rfl
@[go_sem] theorem jlp15:Jl.pure 15=true:=rfl
@[go_sem] theorem jlf15 {x0 x1:D}:Jl.pf 15 [x0,x1] = .b (sameK (dsk1 x0) (dsk1 x1)):=rfl
@[go_sem] theorem jlp10:Jl.pure 10=true:=rfl
@[go_sem] theorem jlf10 {x0:D}:Jl.pf 10 [x0] = .b (fewK (dsk1 x0)):=rfl
@[go_sem] theorem jlp68:Jl.pure 68=true:=rfl
@[go_sem] theorem jlf68 {x0 x1 x2:D}:Jl.pf 68 [x0,x1,x2] = .agg (mZ (str1 x0) (int1 x1) (dat1 x2)).d:=rfl
@[go_sem] theorem jlp30:Jl.pure 30=true:=rfl
@[go_sem] theorem jlf30:Jl.pf 30 [] = .tuple [.agg exZ.d,.agg exX.d]:=rfl
@[go_sem] theorem jlp9:Jl.pure 9=true:=rfl
@[go_sem] theorem jlf9:Jl.pf 9 [] = .b true:=rfl
@[go_sem] theorem jlp3:Jl.pure 3=true:=rfl
@[go_sem] theorem jlf3 {x0 x1 x2 x3 x4:D}:Jl.pf 3 [x0,x1,x2,x3,x4] = .b true:=rfl
def JlB:Con:={ Jl with bs:=true }
@[go_sem] theorem jlB_p {k:FuncId}:JlB.pure k=Jl.pure k:=rfl
@[go_sem] theorem jlB_f {k:FuncId}{xs:List D}:JlB.pf k xs=Jl.pf k xs:=rfl
@[go_sem] theorem jlB_b:JlB.bs=true:=rfl
@[go_sem] theorem jl_b:Jl.bs=false:=rfl
@[go_sem] theorem jl_c:Jl.cf=false:=rfl
@[go_sem] theorem jlB_c:JlB.cf=false:=rfl
def JlF:Con:={ Jl with cf:=true }
@[go_sem] theorem jlF_p {k:FuncId}:JlF.pure k=Jl.pure k:=rfl
@[go_sem] theorem jlF_f {k:FuncId}{xs:List D}:JlF.pf k xs=Jl.pf k xs:=rfl
@[go_sem] theorem jlF_b:JlF.bs=false:=rfl
@[go_sem] theorem jlF_c:JlF.cf=true:=rfl
@[go_sem] theorem jl_s:Jl.dp=false:=rfl
@[go_sem] theorem jlB_s:JlB.dp=false:=rfl
end Go.Proofs.YtjngdcldglkolaaGreatDoor
namespace Go.Proofs.YtjngdcldglkolaaGreatDoor
open Go.DL Go.Str
set_option maxRecDepth 10000
variable [Glob Tryz.prog] [Told]
theorem SH (s:Str) (c:Int) (hs:s.length<=9223372036854775806):PureCt Tryz.prog 243 [.v (.string (bs s)),.v (.int .u8 c)] (.i (lastIx s c)):=by
 rw[lastIx]
 refine oO Tryz.func243 fun ff=>?_
 unfold Tryz.f243
 refine aa Jl ?_
 refine ae ?_
 refine aa Jl ?_
 refine ah ?_
 refine lp (α:=(Nat)×Nat) [0,1] (fun ⟨k,nx⟩=>(k<=s.length)/\(gT s c s.length=gT s c k)/\True) (fun ⟨k,nx⟩=>k) (fun ⟨k,nx⟩=>[(5,.i ((k:Int)-1))]) (fun ⟨k,nx⟩=>[]) (fun ⟨k,nx⟩=>nx) (s.length,_) (hA:=⟨iv,rfl,trivial⟩) (round:=?_)
 rintro⟨k,nx⟩ ⟨hk,hv, -⟩
 simp only[X0,X3]
 refine oL Jl (fun c1=>?_) (fun c1=>?_) (hp:=rfl) (hq:=rfl)
 .
  have hk2:0<k:=by have h7:(0:Int)<=(k:Int)-1:=(by simpa using c1);omega
  have e1:((k:Int)-1).toNat=k-1:=by omega
  have ff:=qA @e1 ff;refine ae ?_;refine ah ?_;refine aa Jl ?_;refine cd (fun c2=>?_) (fun c2=>?_)
  .
   refine aa Jl ?_;exact fo 0 (k:=by rw[hv,IY hk2,X6 c2];congr 2;omega)
  refine dw_skip ?_;refine ai Jl ?_
  show ∃ _,_
  exact au (k-1,_) (h1:=⟨iv,(by (try dsimp only);rw[hv,IY hk2,if_neg c2]),trivial⟩)
 have hk2:k=0:=by have h7 : ¬ (0:Int)<=(k:Int)-1:=(by simpa using c1);omega
 refine aB ?_
 refine aa Jl ?_
 exact fo 0 (k:=by rw[hv,hk2];rfl)
theorem Cv (s:Str) (c:Int) (hs:s.length<=9223372036854775806):PureCt Tryz.prog 231 [.v (.string (bs s)),.v (.int .u8 c)] (.i (lastIx s c)):=by
 refine oO Tryz.func231 fun ff=>?_
 unfold Tryz.f231
 refine aa Jl ?_
 refine aa Jl ?_ (hok:=oF (SH _ _ hs))
 exact fp 0
theorem TF (s:Str):PureCt Tryz.prog 204 [.v (.string (bs s))] (.b (labelOk s)):=by
 rw[SN]
 refine oO Tryz.func204 fun ff=>?_
 unfold Tryz.f204
 have e1:((s.length:Int)-1).toNat=s.length-1:=by omega
 have ff:=qA @e1 ff
 refine aa Jl ?_
 refine oK Jl (fun c1=>?_) (fun c1=>?_)
 .
  refine aa Jl ?_;exact fo 0 (k:=by (repeat' split)<;>first|rfl|(exfalso;omega))
 refine ae ?_
 refine aa Jl ?_
 refine ah ?_
 refine lp (α:=(Nat)×Nat) [0,27] (fun ⟨k,nx⟩=>(k<=s.length)/\(az s.length (nS s) 0=az s.length (nS s) k)/\True) (fun ⟨k,nx⟩=>s.length-k) (fun ⟨k,nx⟩=>[(28,.i k)]) (fun ⟨k,nx⟩=>[]) (fun ⟨k,nx⟩=>nx) (0,_) (hA:=⟨iv,rfl,trivial⟩) (round:=?_)
 rintro⟨k,nx⟩ ⟨hk,hv, -⟩
 simp only[X0,X3]
 refine aa Jl ?_
 refine ae ?_
 refine cd (fun c2=>?_) (fun c2=>?_) (hp:=rfl)
 .
  have hk2:k<s.length:=by simpa using c2
  refine dw_skip ?_;refine ae ?_;refine ah ?_;refine oD Jl ?_;refine cd (fun c3=>?_) (fun c3=>?_)
  .
   refine aa Jl ?_;exact fo 0 (k:=by have h8:nS s k=false:=(by simp only[nS,jT,Yj,YA,X9];omega);rw[hv,dS,X6 hk2,h8];(repeat' split)<;>rfl)
  refine dw_skip ?_;refine ai Jl ?_
  show ∃ _,_
  exact au (k+1,_) (h1:=⟨iv,(by (try dsimp only);have h8:nS s k=true:=(by simp only[nS,jT,Bool.or_eq_true,Bool.and_eq_true,decide_eq_true_eq];omega);rw[hv,dS,if_pos hk2,h8];rfl),trivial⟩)
 refine aB ?_
 refine aa Jl ?_
 exact fo 0 (k:=by rw[hv,dS,XZ (by omega),XZ (by omega),XZ (by omega),XZ (by omega),XZ (by omega)])
theorem F7 (s:Str) (hs:s.length<=9223372036854775806):PureCt Tryz.prog 120 [.v (.string (bs s))] (.b (labelOk s)):=by
 rw[labelOk]
 refine oO Tryz.func120 fun ff=>?_
 unfold Tryz.f120
 refine aa Jl ?_
 refine ae ?_
 refine aa Jl ?_
 refine ah ?_
 refine lp (α:=(Nat)×Nat) [0] (fun ⟨k,nx⟩=>(k<=s.length)/\(az s.length (jg s) 0=az s.length (jg s) k)/\True) (fun ⟨k,nx⟩=>s.length-k) (fun ⟨k,nx⟩=>[(3,.i k)]) (fun ⟨k,nx⟩=>[]) (fun ⟨k,nx⟩=>nx) (0,_) (hA:=⟨iv,rfl,trivial⟩) (round:=?_)
 rintro⟨k,nx⟩ ⟨hk,hv, -⟩
 simp only[X0,X3]
 refine oL Jl (fun c1=>?_) (fun c1=>?_) (hp:=rfl)
 .
  have hk2:k<s.length:=by simpa using c1
  refine ae ?_;refine ah ?_;refine oD Jl ?_;refine cd (fun c2=>?_) (fun c2=>?_)
  .
   refine aa Jl ?_;exact fo 0 (k:=by have h8:jg s k=false:=(by simp only[jg,jT,Yj,YA,X9];omega);rw[hv,dS,X6 hk2,h8];rfl)
  refine dw_skip ?_;refine ai Jl ?_
  show ∃ _,_
  exact au (k+1,_) (h1:=⟨iv,(by (try dsimp only);have h8:jg s k=true:=(by simp only[jg,jT,Bool.or_eq_true,Bool.and_eq_true,decide_eq_true_eq];omega);rw[hv,dS,if_pos hk2,h8];rfl),trivial⟩)
 refine aB ?_
 refine aa Jl ?_
 exact fo 0 (k:=by rw[hv,dS,XZ (by omega)];congr 2;rw[Za];simp only[XW,XX,Zu];omega)
theorem FV (s:Str) (hs:s.length<=1000):PureCt Tryz.prog 119 [.v (.string (bs s))] (.list false ((splitF s).map sR)):=by
 rw[splitF]
 refine oO Tryz.func119 fun ff=>?_
 unfold Tryz.f119
 refine aa Jl ?_
 refine aa JlB ?_
 refine ae ?_
 refine aa Jl ?_
 refine ah ?_
 refine lp (α:=(Nat)×(List Str)×(Nat)×Nat) [0] (fun ⟨k,out,r,nx⟩=>(k<=s.length)/\(1<=out.length)/\(out.length<=k+1)/\(∀ x∈out,x.length<=k)/\(mi s 0 [[]]=mi s k out)/\(r<nx)/\True) (fun ⟨k,out,r,nx⟩=>s.length-k) (fun ⟨k,out,r,nx⟩=>[(3,.mrow r 0 out.length),(4,.i k)]) (fun ⟨k,out,r,nx⟩=>[(r,⟨9,out.map sR⟩)]) (fun ⟨k,out,r,nx⟩=>nx) (0,[[]],1,_) (hA:=⟨iv,(by first|(simp)|(dsimp only;simp)),(by first|(simp)|(dsimp only;simp)),(by first|(simp)|(dsimp only;simp)),rfl,iv,trivial⟩) (round:=?_)
 rintro⟨k,out,r,nx⟩ ⟨hk,ho1,ho,hl,hv,hr, -⟩
 simp only[X0,X3]
 have ff:=qA @hr ff
 refine oL Jl (fun c1=>?_) (fun c1=>?_) (hp:=rfl)
 .
  have hk2:k<s.length:=by simpa using c1
  have hk3:out.length-1<out.length:=by omega
  have e1:((out.length:Int)-1).toNat=out.length-1:=by omega
  have e5:((k:Int)+1).toNat=k+1:=by omega
  have hl3:out[out.length-1]!.length<=k:=hl _ (by rw[getElem!_pos out _ hk3];exact Yv _)
  have ff:=qE @e1 @e5 (iq hk3) (Ru hk2) ff;refine ae ?_;refine ah ?_;refine aa Jl ?_;refine cd (fun c2=>?_) (fun c2=>?_)
  .
   have e2:=NQ (out:=out) (c:=s.getD k 0) c2;refine ai Jl ?_;refine ai Jl ?_
   show ∃ _,_
   exact au (k+1,out++[[]],(nx+10),_) (h1:=⟨iv,(by first|(simp)|(dsimp only;simp)),(by first|(simp;omega)|(dsimp only;simp;omega)),(by (try dsimp only);intro x hx;rcases List.mem_append.1 hx with h|h;exact Nat.le_succ_of_le (hl x h);simp at h;subst h;exact Nat.zero_le _),(by (try dsimp only);rw[hv,ve,if_pos hk2,e2]),iv,trivial⟩) (h3:=by (try simp only[go_sem,ff]);all_goals (first|done|(simp[sR];done)|(simp[sR];omega)|((repeat' (with_reducible apply And.intro))<;>first|(left;simp[sR];done)|(right;simp[go_sem,sR];done)))) (h4:=by (try simp only[go_sem,ff]);all_goals (first|done|(simp[sR];done)|(simp[sR];omega)|((repeat' (with_reducible apply And.intro))<;>first|(left;simp[sR];done)|(right;simp[go_sem,sR];done)))) (h5:=by (try simp only[go_sem,ff]);all_goals (first|done|(simp[sR];done)|(simp[sR];omega)|((repeat' (with_reducible apply And.intro))<;>first|(left;simp[sR];done)|(right;simp[go_sem,sR];done))))
  have e2:=NS (out:=out) (c:=s.getD k 0) c2;refine ai Jl ?_;refine ai Jl ?_
  show ∃ _,_
  exact au (k+1,out.set (out.length-1) (out[out.length-1]! ++ [s.getD k 0]),r,_) (h1:=⟨iv,(by first|(simp;omega)|(dsimp only;simp;omega)),(by first|(simp;omega)|(dsimp only;simp;omega)),(by (try dsimp only);intro x hx;rcases List.mem_or_eq_of_mem_set hx with h|h;exact Nat.le_succ_of_le (hl x h);subst h;rw[List.length_append];exact Nat.succ_le_succ hl3),(by (try dsimp only);rw[hv,ve,if_pos hk2,e2]),iv,trivial⟩) (h3:=by (try simp only[go_sem,ff]);all_goals (first|done|(simp[sR];done)|(simp[sR];omega)|((repeat' (with_reducible apply And.intro))<;>first|(left;simp[sR];done)|(right;simp[go_sem,sR];done)))) (h4:=by (try simp only[go_sem,ff]);all_goals (first|done|(simp[sR];done)|(simp[sR];omega)|((repeat' (with_reducible apply And.intro))<;>first|(left;simp[sR];done)|(right;simp[go_sem,sR];done)))) (h5:=by (try simp only[go_sem,ff]);all_goals (first|done|(simp[sR];done)|(simp[sR];omega)|((repeat' (with_reducible apply And.intro))<;>first|(left;simp[sR];done)|(right;simp[go_sem,sR];done))))
 refine aB ?_
 refine aa Jl ?_
 exact fo 1 (k:=by rw[hv,ve,XZ (by omega)])
theorem fw (s:Str):PureCt Tryz.prog 59 [.v (.string (bs s))] (.b (nameOk s)):=by
 rw[nameOk]
 refine oO Tryz.func59 fun ff=>?_
 unfold Tryz.f59
 refine aa Jl ?_
 refine oK Jl (fun c1=>?_) (fun c1=>?_)
 .
  refine aa Jl ?_;exact fo 0 (k:=by rw[X6 c1])
 refine oK Jl (fun c2=>?_) (fun c2=>?_)
 .
  refine aa Jl ?_;exact fo 0 (k:=by rw[XZ c1,X6 (by omega)])
 refine aa Jl ?_ (hok:=by (try simp only[go_sem,ff]);all_goals (exact FV _ om))
 refine ae ?_
 refine aa Jl ?_
 refine ah ?_
 refine lp (α:=(Nat)×Nat) [3] (fun ⟨k,nx⟩=>(k<=(splitF s).length)/\(az (splitF s).length (kS (splitF s)) 0=az (splitF s).length (kS (splitF s)) k)/\True) (fun ⟨k,nx⟩=>(splitF s).length-k) (fun ⟨k,nx⟩=>[(4,.i k)]) (fun ⟨k,nx⟩=>[]) (fun ⟨k,nx⟩=>nx) (0,_) (hA:=⟨iv,rfl,trivial⟩) (round:=?_)
 rintro⟨k,nx⟩ ⟨hk,hv, -⟩
 simp only[X0,X3]
 have hsl:=NT s k
 have hsn:=(xK s).2
 refine oL Jl (fun c3=>?_) (fun c3=>?_) (hp:=rfl)
 .
  have hk2:k<(splitF s).length:=by simpa using c3
  have ff:=qA (iq hk2) ff;refine ae ?_;refine ah ?_;refine aa Jl ?_ (hok:=by (try simp only[go_sem,ff]);all_goals (first|done|exact F7 _ om|((repeat' (with_reducible apply And.intro))<;>first|omega|exact F7 _ om)))
  refine aa Jl ?_ (hok:=by (try simp only[go_sem,ff]);all_goals (refine⟨fun _=>⟨om,om⟩,fun h1 _=>⟨h1,fun h3=>by rw[h1,h3];rfl⟩⟩))
  refine cd (fun c4=>?_) (fun c4=>?_)
  .
   refine aa Jl ?_;exact fo 0 (k:=by rw[XZ c1,XZ (by omega),hv,dS,X6 hk2,Rc c4.1 (by first|exact c4.2|(rcases c4.2 with h|h;exact .inl (by omega);exact .inr h))];rfl)
  refine dw_skip ?_;refine ai Jl ?_
  show ∃ _,_
  exact au (k+1,_) (h1:=⟨iv,(by (try dsimp only);rw[hv,dS,if_pos hk2,Rb (by first|exact c4|(rcases c4 with h|h;exact .inl h;exact .inr ⟨om,h.2⟩))];rfl),trivial⟩)
 refine aB ?_
 refine aa Jl ?_
 exact fo 0 (k:=by rw[XZ c1,XZ (by omega),hv,dS,XZ (by omega),Zu];congr 2;exact ZI.2 (by omega))
theorem tL (s:Str) (hs:s.length<=1000):PureCt Tryz.prog 188 [.v (.string (bs s))] (.list false ((partsOf s).map sR)):=by
 rw[partsOf]
 refine oO Tryz.func188 fun ff=>?_
 unfold Tryz.f188
 refine aa Jl ?_
 refine oK Jl (fun c1=>?_) (fun c1=>?_)
 .
  refine aa Jl ?_;exact fo 0 (k:=by rw[X6 c1];rfl)
 refine aa Jl ?_ (hok:=oF (FV _ hs))
 exact fo 0 (k:=by rw[XZ c1])
end Go.Proofs.YtjngdcldglkolaaGreatDoor
namespace Go.Proofs.YtjngdcldglkolaaGreatDoor
open Go.DL Go.Str
set_option maxRecDepth 10000
variable [Glob Tryz.prog] [Told]
theorem LU:bV Tryz.prog 203=true:=by kernel_rfl
theorem u6 (s:Str):PureCt Tryz.prog 161 [.v (.string (bs s))] (.b (nameOk s)):=by
 refine oO Tryz.func161 fun ff=>?_
 unfold Tryz.f161
 refine aa Jl ?_
 refine oK Jl (fun c1=>?_) (fun c1=>?_)
 .
  refine aa Jl ?_;exact fo 0 (k:=by rw[nameOk,X6 c1])
 refine oK Jl (fun c3=>?_) (fun c3=>?_)
 .
  refine aa Jl ?_;exact fo 0 (k:=by rw[nameOk,XZ c1,X6 (by omega)])
 refine aa Jl ?_
 refine ae ?_
 refine aa Jl ?_
 refine ah ?_
 refine KF (by simp only[go_sem,ff]) ev Tryz.func203 rfl LU (by simp[Tryz.f203]) rfl (fun l rL hp ha hb hn=>?_)
 unfold Tryz.f203
 refine oK Jl (fun d0=>?_) (fun d0=>?_)
 .
  exact absurd d0 c1
 refine aa Jl ?_
 refine ah ?_
 refine lp (α:=(Str)×(Nat)×(Bool)×Nat) [1] (fun ⟨rest,n,wild,nx⟩=>(n<=8)/\(rest.length<=s.length)/\(7<nx)/\(nameOk s=iU (ja rest) n wild)/\True) (fun ⟨rest,n,wild,nx⟩=>rest.length) (fun ⟨rest,n,wild,nx⟩=>[(4,.v (.string (bs rest)))]) (fun ⟨rest,n,wild,nx⟩=>[(0,⟨4,[[.b false]]⟩),(6,⟨3,[[.i n]]⟩),(7,⟨4,[[.b wild]]⟩)]) (fun ⟨rest,n,wild,nx⟩=>nx) (s,0,false,_) (hA:=⟨(by first|(omega)|(dsimp only;omega)),(by first|(first|omega|(simp;omega))|(dsimp only;first|omega|(simp;omega))),iv,(by (try dsimp only);rw[Ch,if_neg c1,if_neg (by omega)]),trivial⟩) (round:=?_)
 rintro⟨rest,n,wild,nx⟩ ⟨hn8,hl,hx,hv, -⟩
 simp only[X0,X3]
 have hL:=ze rest 46
 have n0:0<nx:=by omega
 have n6:6<nx:=by omega
 have n7:7<nx:=by omega
 refine ah ?_
 refine aa Jl ?_ (hok:=by (try simp only[go_sem,ff]);all_goals (first|done|exact Cv _ _ om))
 refine ae ?_
 refine ae ?_
 refine KC (C:=Jl) (r:=rL) 5 (bC rfl) rfl rfl rfl (by simp only[X4,Yf,go_sem,ff];exact rfl) ?_ ev (by first|(simp only[go_sem,ff];done)|(simp only[go_sem,ff];exact rfl)) (by simp only[go_sem,ff]) ev (by rw[hp];rfl) (by rw[hp,hn];show ∀ p∈[13],p<30;decide) ?_
 .
  try simp only[go_sem,ff]
  all_goals (first|done|(repeat' (with_reducible apply And.intro))<;>first|omega|(with_reducible assumption)|(intros;omega)|(intros;simp only[XX,X9,Yd,XW,Yj,Ye,Yw] at *;omega)|(simp_all;done)|(simp_all;omega))
 rw[ha,hb,hp,hn]
 show DW _ _ _ _ { n:=_,t:=pO _ [13] _,h:=_,nx:=_ }
 simp only[FI,FH]
 refine ai Jl ?_
 refine⟨rfl,?_⟩
 refine ah ?_
 refine aa Jl ?_
 refine oK Jl (fun c9=>?_) (fun c9=>?_) (hp:=rfl) (hq:=rfl)
 .
  refine aa Jl ?_;refine aI ?_;refine⟨rfl,false,some .ret,⟨rfl,rfl⟩,⟨_,_,_,_,_,_⟩,by simp only[X8,X7,S.put,go_sem,ff];exact rfl,?_,?_⟩
  .
   try simp only[go_sem,ff]
   all_goals (first|done|(repeat' (with_reducible apply And.intro))<;>first|omega|(with_reducible assumption)|(intros;omega)|(intros;simp only[XX,X9,Yd,XW,Yj,Ye,Yw] at *;omega)|(simp_all;done)|(simp_all;omega))
  try simp only[aG]
  refine cd (fun d3=>?_) (fun d3=>?_) (hp:=rfl) (hq:=rfl)
  .
   refine aI ?_;refine⟨.inr rfl,some .ret,rfl,?_⟩;exact fin 0 (hr:=oS (k:=by first|(rw[hv,jY,EJ c9];done)|(rw[hv,jY,EI c9 c12])))
  simp at d3
 have c9b:=Wj c9
 refine aa Jl ?_
 refine aa Jl ?_ (hok:=by (try simp only[go_sem,ff]);all_goals (first|done|(intros;exact TF _)))
 refine cd (fun c12=>?_) (fun c12=>?_) (hp:=rfl) (hq:=rfl)
 .
  refine aa Jl ?_;refine aI ?_;refine⟨rfl,false,some .ret,⟨rfl,rfl⟩,⟨_,_,_,_,_,_⟩,by simp only[X8,X7,S.put,go_sem,ff];exact rfl,?_,?_⟩
  .
   try simp only[go_sem,ff]
   all_goals (first|done|(repeat' (with_reducible apply And.intro))<;>first|omega|(with_reducible assumption)|(intros;omega)|(intros;simp only[XX,X9,Yd,XW,Yj,Ye,Yw] at *;omega)|(simp_all;done)|(simp_all;omega))
  try simp only[aG]
  refine cd (fun d3=>?_) (fun d3=>?_) (hp:=rfl) (hq:=rfl)
  .
   refine aI ?_;refine⟨.inr rfl,some .ret,rfl,?_⟩;exact fin 0 (hr:=oS (k:=by first|(rw[hv,jY,EJ c9];done)|(rw[hv,jY,EI c9 c12])))
  simp at d3
 refine dw_skip ?_
 refine⟨rfl,true,none,⟨rfl,rfl⟩,⟨_,_,_,_,_,_⟩,by simp only[X8,X7,S.put,go_sem,ff];exact rfl,?_,?_⟩
 .
  try simp only[go_sem,ff]
  all_goals (first|done|(repeat' (with_reducible apply And.intro))<;>first|omega|(with_reducible assumption)|(intros;omega)|(intros;simp only[XX,X9,Yd,XW,Yj,Ye,Yw] at *;omega)|(simp_all;done)|(simp_all;omega))
 try simp only[aG]
 refine cd (fun d3=>?_) (fun d3=>?_)
 .
  refine aI ?_;refine⟨.inr rfl,none,rfl,?_⟩;refine aa Jl ?_;exact fo 0 (k:=by rw[hv,jY,EH c9 c12,X6 d3];rfl)
 refine dw_skip ?_
 refine ai Jl ?_
 show ∃ _,_
 exact au (rest.take (lastIx rest 46).toNat,n+1,((rest.drop (lastIx rest 46+1).toNat)==[42]),_) (h1:=⟨(by first|(omega)|(dsimp only;omega)),(by first|(first|omega|(simp;omega))|(dsimp only;first|omega|(simp;omega))),iv,(by (try dsimp only);rw[hv,jY,EH c9 c12,if_neg d3]),trivial⟩) (h2:=by show (_:Nat)<_;(simp;omega))
theorem qg (s:Str):PureCt Tryz.prog 103 [.v (.string (bs s))] (.b (nameOk s)):=by
 refine oO Tryz.func103 fun ff=>?_
 unfold Tryz.f103
 refine aa Jl ?_
 refine aa Jl ?_ (hok:=oF (u6 _))
 exact fp 0
end Go.Proofs.YtjngdcldglkolaaGreatDoor
namespace Go.Proofs.YtjngdcldglkolaaGreatDoor
open Go.DL Go.Str Go.RowKit
set_option maxRecDepth 10000
variable [Glob Tryz.prog] [Told]
def Ws:Go.Shelf.Ren:={ f:=fun x=>match x with|213=>233|265=>244|n=>n,t:=fun x=>match x with|3=>3|9=>9|n=>n,g:=fun n=>n }
theorem Wt:Go.Proofs.Lays.n213 Tryz.prog Ws:={
 mixed:=ik
 f213:=Tryz.func233.trans (by kernel_rfl)
 f265:=Tryz.func244.trans (by kernel_rfl)
 t3:=Tryz.underlying3
 a3:=Tryz.isAgg3
 z3:=Tryz.sizeOf3
 v3:=Tryz.zeroValue3
 t9:=Tryz.underlying9
 a9:=Tryz.isAgg9
 z9:=Tryz.sizeOf9
 v9:=Tryz.zeroValue9 }
theorem Wq (a b:Str):PureCt Tryz.prog 233 [.v (.string (bs a)),.v (.string (bs b))] (.i (Go.Lib.compareBytes a b)):=by
 refine⟨by kernel_rfl,by simp[D.nr],fun w I vs hI hg hr=>?_⟩
 obtain⟨x,l,rfl,h1,h2⟩:=hr.of_cons
 obtain⟨y,l,rfl,h3,h4⟩:=h2.of_cons
 rw[h4.of_nil,h1.v_inv,h3.v_inv]
 have:=Go.Proofs.Any.bytealg_CompareString Wt (bs a) (bs b) w
 refine callsIn_wide.2 (this.mono ?_)
 rintro e w' ⟨rfl,rfl⟩
 refine⟨_,rfl,⟨rfl,rfl,rfl,XY _,XY _,fun _ _=>rfl⟩,?_⟩
 rw[nE,nE]
 exact .v _
theorem Wp (a:Str) (b:Str):PureCt Tryz.prog 206 [.v (.string (bs a)),.v (.string (bs b))] (.i (Go.Lib.compareBytes a b)):=by
 refine oO Tryz.func206 fun ff=>?_
 unfold Tryz.f206
 refine aa Jl ?_
 refine aa Jl ?_ (hok:=oF (Wq _ _))
 exact fp 0
end Go.Proofs.YtjngdcldglkolaaGreatDoor
namespace Go.Proofs.YtjngdcldglkolaaGreatDoor
open Go.DL Go.Str Go.RowKit
set_option maxRecDepth 10000
variable [Glob Tryz.prog] [Told]
theorem QP (s:Str) (h:H) (n:Nat):RCt Tryz.prog 205 [.v (.string (bs s))] h n (fun d h' n'=>d = .fn (.func 232) [] [.mptr (n+5) 0 0,.mptr (n+4) 0 0]/\h'=upd (upd h (n+4) (some ⟨9,[[.v (.string (bs s))]]⟩)) (n+5) (some ⟨4,[[.b (s != [46])]]⟩)/\n'=n+10):=by
 refine oP Tryz.func205 fun hnone ff=>?_
 unfold Tryz.f205
 have ff:=qA (nH (n+4) (n+5)) ff
 refine oD Jl ?_
 refine aI ?_
 exact aU (upd (upd h (n+4) (some ⟨9,[[.v (.string (bs s))]]⟩)) (n+5) (some ⟨4,[[.b (s != [46])]]⟩)) (hr:=by (try simp only[go_sem,ff]);all_goals (exact⟨rfl,rfl,rfl⟩)) (hh:=by intro q;left;by_cases e1:q=n+5<;>by_cases e2:q=n+4<;>simp[upd,e1,e2])
theorem QQ (more:Bool) (rest:Str) (m r:Nat) (h:H) (n:Nat) (hm:h m=some ⟨4,[[.b more]]⟩) (hr:h r=some ⟨9,[[.v (.string (bs rest))]]⟩) (hmr:m≠r) (hl:rest.length<=1000):RCt Tryz.prog 232 [.mptr m 0 0,.mptr r 0 0] h n (fun d h' n'=>d = .tuple [.v (.string (bs (nQ more rest))),.b more]/\h'=upd (upd h m (some ⟨4,[[.b (j6 more rest)]]⟩)) r (some ⟨9,[[.v (.string (bs (j4 more rest)))]]⟩)/\n<=n'):=by
 refine oP Tryz.func232 fun hnone ff=>?_
 unfold Tryz.f232
 have hrm:r≠m:=fun e=>hmr e.symm
 have hL:=ze rest 46
 have ff:=qE @hm @hr @hmr @hrm ff
 refine aa Jl ?_
 refine oK Jl (fun c1=>?_) (fun c1=>?_)
 .
  refine aa Jl ?_;refine aI ?_;exact aU (upd (upd h m (some ⟨4,[[.b (j6 more rest)]]⟩)) r (some ⟨9,[[.v (.string (bs (j4 more rest)))]]⟩)) (hr:=oS (k:=by first|exact ZJ _ _|(refine⟨?_,ZJ _ _⟩;simp_all [nQ]))) (hh:=by intro q;left;by_cases e1:q=r<;>by_cases e2:q=m<;>simp_all [upd,j6,j4]<;>(rw[XZ (by omega)]))
 refine aa Jl ?_ (hok:=by (try simp only[go_sem,ff]);all_goals (first|done|exact Cv _ _ om))
 refine aa Jl ?_
 refine ae ?_
 refine aa Jl ?_
 refine cd (fun c2=>?_) (fun c2=>?_)
 .
  refine ai Jl ?_;refine aa Jl ?_;refine aI ?_;exact aU (upd (upd h m (some ⟨4,[[.b (j6 more rest)]]⟩)) r (some ⟨9,[[.v (.string (bs (j4 more rest)))]]⟩)) (hr:=oS (k:=by first|exact ZJ _ _|(refine⟨?_,ZJ _ _⟩;simp_all [nQ]))) (hh:=by intro q;left;by_cases e1:q=r<;>by_cases e2:q=m<;>simp_all [upd,j6,j4]<;>(rw[XZ (by omega)]))
 refine ai Jl ?_
 refine aa Jl ?_
 refine aI ?_
 exact aU (upd (upd h m (some ⟨4,[[.b (j6 more rest)]]⟩)) r (some ⟨9,[[.v (.string (bs (j4 more rest)))]]⟩)) (hr:=oS (k:=by first|exact ZJ _ _|(refine⟨?_,ZJ _ _⟩;simp_all [nQ]))) (hh:=by intro q;left;by_cases e1:q=r<;>by_cases e2:q=m<;>simp_all [upd,j6,j4]<;>(rw[XZ (by omega)]))
end Go.Proofs.YtjngdcldglkolaaGreatDoor
namespace Go.Proofs.YtjngdcldglkolaaGreatDoor
open Go.DL Go.Str Go.RowKit
set_option maxRecDepth 10000
variable [Glob Tryz.prog] [Told]
theorem Iz (a:Str) (b:Str):PureCt Tryz.prog 163 [.v (.string (bs a)),.v (.string (bs b))] (.tuple [.i (if nameOk a&&nameOk b then nmCmp a b else 0),.i (if nameOk a&&nameOk b then 0 else 11)]):=by
 refine oO Tryz.func163 fun ff=>?_
 unfold Tryz.f163
 refine oC Jl ?_
 refine oK Jl (fun c1=>?_) (fun c1=>?_) (hok:=by (try simp only[go_sem,ff]);all_goals (first|done|(simp only[u6,and_true,implies_true];done)|((repeat' (with_reducible apply And.intro))<;>first|(intros;exact u6 _)))) (hp:=rfl)
 .
  refine aa Jl ?_;exact fo 1 (k:=by (have e:(nameOk a&&nameOk b)=false:=by revert c1;cases nameOk a<;>cases nameOk b<;>simp);rw[e];rfl)
 refine oK Jl (fun c2=>?_) (fun c2=>?_)
 .
  refine aa Jl ?_;exact fo 1 (k:=by rw[c1.1,c1.2,nmCmp,X6 c2];rfl)
 refine ae (aD Jl 1 (hct:=by exact QP b _ _) (hk:=?_))
 rintro res h2 n2 ⟨rfl,rfl,rfl⟩
 refine av Jl ?_
 refine aa Jl ?_
 refine ae ?_
 refine aa Jl ?_
 refine ah ?_
 refine KF (by simp only[go_sem,ff]) ev Tryz.func203 rfl LU (by simp[Tryz.f203]) rfl (fun l rL hp ha hb hn=>?_)
 unfold Tryz.f203
 refine oK Jl (fun d0=>?_) (fun d0=>?_)
 .
  refine aI ?_;refine⟨.inr rfl,none,rfl,?_⟩;refine aa Jl ?_;exact fo 1 (k:=by first|(rw[c1.1,c1.2,nmCmp,XZ c2,hv,DN c11 c14,X6 d3];rfl)|(rw[c1.1,c1.2,nmCmp,XZ c2,d0];rfl))
 refine aa Jl ?_
 refine ah ?_
 refine lp (α:=(Str)×(Bool)×(Str)×Nat) [1] (fun ⟨rest,more,rest2,nx⟩=>(rest.length<=60)/\(rest2.length<=60)/\(30<nx)/\(lq (dH a) (dH b)=lq (ja rest) (pl more rest2))/\True) (fun ⟨rest,more,rest2,nx⟩=>rest.length) (fun ⟨rest,more,rest2,nx⟩=>[(4,.v (.string (bs rest)))]) (fun ⟨rest,more,rest2,nx⟩=>[(0,⟨3,[[.i 0]]⟩),(1,⟨36,[[.i 0]]⟩),(22,⟨9,[[.v (.string (bs rest2))]]⟩),(23,⟨4,[[.b more]]⟩),(30,⟨246,[[.fn (.func 232) [] [.mptr 23 0 0,.mptr 22 0 0]]]⟩)]) (fun ⟨rest,more,rest2,nx⟩=>nx) (a,(b != [46]),b,_) (hA:=⟨(by first|(exact dO c1.1)|(dsimp only;exact dO c1.1)),(by first|(exact dO c1.2)|(dsimp only;exact dO c1.2)),iv,(by (try dsimp only);rw[PR b,dH,if_neg d0]),trivial⟩) (round:=?_)
 rintro⟨rest,more,rest2,nx⟩ ⟨hl,hl2,hx,hv, -⟩
 simp only[X0,X3]
 have hL:=ze rest 46
 have n0:0<nx:=by omega
 have n1:1<nx:=by omega
 have n22:22<nx:=by omega
 have n23:23<nx:=by omega
 refine ah ?_
 refine aa Jl ?_ (hok:=by (try simp only[go_sem,ff]);all_goals (first|done|exact Cv _ _ om))
 refine ae ?_
 refine ae ?_
 refine KC (C:=Jl) (r:=rL) 5 (bC rfl) rfl rfl rfl (by simp only[X4,Yf,go_sem,ff];exact rfl) ?_ ev (by first|(simp only[go_sem,ff];done)|(simp only[go_sem,ff];exact rfl)) (by simp only[go_sem,ff]) ev (by rw[hp];rfl) (by rw[hp,hn];show ∀ p∈[32],p<46;decide) ?_
 .
  try simp only[go_sem,ff]
  all_goals (first|done|(repeat' (with_reducible apply And.intro))<;>first|omega|(with_reducible assumption)|(intros;omega)|(intros;simp only[XX,X9,Yd,XW,Yj,Ye,Yw] at *;omega)|(simp_all;done)|(simp_all;omega))
 rw[ha,hb,hp,hn]
 show DW _ _ _ _ { n:=_,t:=pO _ [32] _,h:=_,nx:=_ }
 simp only[FI,FH]
 refine ai Jl ?_
 refine⟨rfl,?_⟩
 refine ah ?_
 refine ae (aD Jl 1 (hct:=by exact QQ more rest2 23 22 _ _ rfl rfl (by decide) om) (hk:=?_))
 rintro res h2 n2 ⟨rfl,rfl,hn2⟩
 refine av Jl ?_
 refine oK Jl (fun c11=>?_) (fun c11=>?_) (hp:=rfl) (hq:=rfl)
 .
  refine aa Jl ?_;refine aI ?_;refine⟨rfl,false,some .ret,⟨rfl,rfl⟩,⟨_,_,_,_,_,_⟩,by simp only[X8,X7,S.put,go_sem,ff];exact rfl,?_,?_⟩
  .
   try simp only[go_sem,ff]
   all_goals (first|done|(repeat' (with_reducible apply And.intro))<;>first|omega|(with_reducible assumption)|(intros;omega)|(intros;simp only[XX,X9,Yd,XW,Yj,Ye,Yw] at *;omega)|(simp_all;done)|(simp_all;omega))
  try simp only[aG]
  refine cd (fun d3=>?_) (fun d3=>?_) (hp:=rfl) (hq:=rfl)
  .
   refine aI ?_;refine⟨.inr rfl,some .ret,rfl,?_⟩;exact fin 1 (hr:=oS (k:=by first|(rw[c1.1,c1.2,nmCmp,XZ c2,hv,Ag c11];done)|(rw[c1.1,c1.2,nmCmp,XZ c2,hv,Ag c11];rfl)|(rw[c1.1,c1.2,nmCmp,XZ c2,hv,Lx c11 c14];rfl)))
  simp at d3
 refine aa Jl ?_ (hok:=oF (Wp _ _))
 refine aa Jl ?_
 refine cd (fun c14=>?_) (fun c14=>?_) (hp:=rfl) (hq:=rfl)
 .
  refine aa Jl ?_;refine aI ?_;refine⟨rfl,false,some .ret,⟨rfl,rfl⟩,⟨_,_,_,_,_,_⟩,by simp only[X8,X7,S.put,go_sem,ff];exact rfl,?_,?_⟩
  .
   try simp only[go_sem,ff]
   all_goals (first|done|(repeat' (with_reducible apply And.intro))<;>first|omega|(with_reducible assumption)|(intros;omega)|(intros;simp only[XX,X9,Yd,XW,Yj,Ye,Yw] at *;omega)|(simp_all;done)|(simp_all;omega))
  try simp only[aG]
  refine cd (fun d3=>?_) (fun d3=>?_) (hp:=rfl) (hq:=rfl)
  .
   refine aI ?_;refine⟨.inr rfl,some .ret,rfl,?_⟩;exact fin 1 (hr:=oS (k:=by first|(rw[c1.1,c1.2,nmCmp,XZ c2,hv,Ag c11];done)|(rw[c1.1,c1.2,nmCmp,XZ c2,hv,Ag c11];rfl)|(rw[c1.1,c1.2,nmCmp,XZ c2,hv,Lx c11 c14];rfl)))
  simp at d3
 refine dw_skip ?_
 refine⟨rfl,true,none,⟨rfl,rfl⟩,⟨_,_,_,_,_,_⟩,by simp only[X8,X7,S.put,go_sem,ff];exact rfl,?_,?_⟩
 .
  try simp only[go_sem,ff]
  all_goals (first|done|(repeat' (with_reducible apply And.intro))<;>first|omega|(with_reducible assumption)|(intros;omega)|(intros;simp only[XX,X9,Yd,XW,Yj,Ye,Yw] at *;omega)|(simp_all;done)|(simp_all;omega))
 try simp only[aG]
 refine cd (fun d3=>?_) (fun d3=>?_)
 .
  refine aI ?_;refine⟨.inr rfl,none,rfl,?_⟩;refine aa Jl ?_;exact fo 1 (k:=by first|(rw[c1.1,c1.2,nmCmp,XZ c2,hv,DN c11 c14,X6 d3];rfl)|(rw[c1.1,c1.2,nmCmp,XZ c2,d0];rfl))
 refine dw_skip ?_
 refine ai Jl ?_
 show ∃ _,_
 exact au (rest.take (lastIx rest 46).toNat,j6 more rest2,j4 more rest2,_) (h1:=⟨(by first|(first|omega|(simp;omega))|(dsimp only;first|omega|(simp;omega))),(by (try dsimp only);first|omega|(have:=QW more rest2;omega)),iv,(by (try dsimp only);rw[hv,DN c11 c14,if_neg d3]),trivial⟩) (h2:=by show (_:Nat)<_;(simp;omega))
end Go.Proofs.YtjngdcldglkolaaGreatDoor
namespace Go.Proofs.YtjngdcldglkolaaGreatDoor
open Go.DL Go.Str Go.RowKit
set_option maxRecDepth 10000
variable [Glob Tryz.prog] [Told]
theorem vE (a:Str) (b:Str) (ha:a.length<=1000) (hb:b.length<=1000):PureCt Tryz.prog 190 [.v (.string (bs a)),.v (.string (bs b))] (.i (nmOrd a b)):=by
 rw[RG]
 refine oO Tryz.func190 fun ff=>?_
 unfold Tryz.f190
 have hl:=(Ho a).2
 have hm:=(Ho b).2
 refine aa Jl ?_
 refine aa Jl ?_ (hok:=oF (tL _ ha))
 refine aa Jl ?_ (hok:=oF (tL _ hb))
 refine ae ?_
 refine aa Jl ?_
 refine ah ?_
 refine lp (α:=(Nat)×Nat) [5,6] (fun ⟨k,nx⟩=>(1<=k)/\(k<=(partsOf a).length+1)/\(qb (partsOf a) (partsOf b) 1=qb (partsOf a) (partsOf b) k)/\True) (fun ⟨k,nx⟩=>(partsOf a).length+1-k) (fun ⟨k,nx⟩=>[(7,.i k)]) (fun ⟨k,nx⟩=>[]) (fun ⟨k,nx⟩=>nx) (1,_) (hA:=⟨iv,iv,rfl,trivial⟩) (round:=?_)
 rintro⟨k,nx⟩ ⟨hk,hk1,hv, -⟩
 simp only[X0,X3]
 refine oL Jl (fun c1=>?_) (fun c1=>?_) (hp:=rfl) (hq:=rfl)
 .
  have hk2:k<=(partsOf a).length/\k<=(partsOf b).length:=by simp only[XW,XX] at c1;omega
  have e1:(((partsOf a).length:Int)-k).toNat=(partsOf a).length-k:=by omega
  have e2:(((partsOf b).length:Int)-k).toNat=(partsOf b).length-k:=by omega
  have g1:(partsOf a).length-k<(partsOf a).length:=by omega
  have g2:(partsOf b).length-k<(partsOf b).length:=by omega
  have ff:=qE @e1 @e2 (iq g1) (iq g2) ff;refine ae ?_;refine ah ?_;refine oC Jl ?_;refine oK Jl (fun c2=>?_) (fun c2=>?_) (hp:=rfl) (hq:=rfl)
  .
   refine aa Jl ?_;exact fo 0 (k:=by rw[hv,rO,X6 hk2,X6 c2])
  refine aa Jl ?_;refine cd (fun c3=>?_) (fun c3=>?_) (hp:=rfl) (hq:=rfl)
  .
   refine aa Jl ?_;exact fo 0 (k:=by rw[hv,rO,X6 hk2,XZ (by rw[c2];simp),X6 c3])
  refine dw_skip ?_;refine ai Jl ?_
  show ∃ _,_
  exact au (k+1,_) (h1:=⟨iv,iv,(by (try dsimp only);rw[hv,rO,if_pos hk2,if_neg (by rw[c2];simp),if_neg (by rw[c3];simp)]),trivial⟩)
 have hk2 : ¬ (k<=(partsOf a).length/\k<=(partsOf b).length):=by simp only[YA,X9] at c1;omega
 refine aB ?_
 refine oK Jl (fun c4=>?_) (fun c4=>?_)
 .
  refine aa Jl ?_;exact fo 0 (k:=by rw[hv,rO,XZ hk2,X6 (by omega)])
 refine oK Jl (fun c5=>?_) (fun c5=>?_)
 .
  refine aa Jl ?_;exact fo 0 (k:=by rw[hv,rO,XZ hk2,XZ (by omega),X6 (by omega)])
 refine aa Jl ?_
 exact fo 0 (k:=by rw[hv,rO,XZ hk2,XZ (by omega),XZ (by omega)])
theorem PQ (a:Str) (b:Str):PureCt Tryz.prog 180 [.v (.string (bs a)),.v (.string (bs b))] (.tuple [.i (if nameOk a&&nameOk b then nmCmp a b else 0),.i (if nameOk a&&nameOk b then 0 else 11)]):=by
 refine oO Tryz.func180 fun ff=>?_
 unfold Tryz.f180
 refine aa Jl ?_
 refine aa Jl ?_ (hok:=oF (fw _))
 refine aa Jl ?_ (hok:=oF (fw _))
 refine oK Jl (fun c1=>?_) (fun c1=>?_) (hp:=rfl)
 .
  have e:(nameOk a&&nameOk b)=false:=by revert c1;cases nameOk a<;>cases nameOk b<;>simp
  refine aa Jl ?_;exact fo 1 (k:=by rw[e];rfl)
 have e:(nameOk a&&nameOk b)=true:=by rw[c1.1,c1.2];rfl
 have la:=dO c1.1
 have lb:=dO c1.2
 refine aa Jl ?_ (hok:=by (try simp only[go_sem,ff]);all_goals (exact vE _ _ om om))
 exact fo 1 (k:=by rw[e,Cc];rfl)
end Go.Proofs.YtjngdcldglkolaaGreatDoor
namespace Go.Proofs.YtjngdcldglkolaaGreatDoor
open Go.DL Go.Str Go.Rec
set_option maxRecDepth 10000
variable [Glob Tryz.prog] [Told]
theorem sW (x:Int) (lo:Int) (hi:Int):PureCt Tryz.prog 165 [.i x,.i lo,.i hi] (.b (inR x lo hi)):=by
 refine oO Tryz.func165 fun ff=>?_
 unfold Tryz.f165
 refine oC Jl ?_
 exact fp 0
theorem AO (x:Int) (lo:Int) (hi:Int):PureCt Tryz.prog 234 [.v (.int .u8 x),.v (.int .u8 lo),.v (.int .u8 hi)] (.b (inR x lo hi)):=by
 refine oO Tryz.func234 fun ff=>?_
 unfold Tryz.f234
 refine oC Jl ?_
 exact fp 0
theorem iF (x:Int) (lo:Int) (hi:Int):PureCt Tryz.prog 122 [.i x,.i lo,.i hi] (.b (inR x lo hi)):=by
 refine oO Tryz.func122 fun ff=>?_
 unfold Tryz.f122
 refine oC Jl ?_
 exact fp 0
theorem IB (x:Int):PureCt Tryz.prog 207 [.i x] (.b (x != x)):=by
 refine oO Tryz.func207 fun ff=>?_
 unfold Tryz.f207
 refine oC Jl ?_
 exact fp 0
theorem IA (x:Str):PureCt Tryz.prog 235 [.v (.string (bs x))] (.b (x != x)):=by
 refine oO Tryz.func235 fun ff=>?_
 unfold Tryz.f235
 refine oC Jl ?_
 exact fp 0
theorem wQ (x:Int) (y:Int):PureCt Tryz.prog 164 [.i x,.i y] (.i (cmpI x y)):=by
 refine oO Tryz.func164 fun ff=>?_
 unfold Tryz.f164
 refine aa Jl ?_
 refine aa Jl ?_ (hok:=by (try simp only[go_sem,ff]);all_goals (have h:=IB x;simp only[bne_self_eq_false] at h;exact h))
 refine aa Jl ?_ (hok:=by (try simp only[go_sem,ff]);all_goals (have h:=IB y;simp only[bne_self_eq_false] at h;exact h))
 refine oK Jl (fun c1=>?_) (fun c1=>?_) (hp:=rfl)
 .
  simp at c1
 refine oK Jl (fun c2=>?_) (fun c2=>?_) (hp:=rfl)
 .
  simp at c2
 refine oK Jl (fun c3=>?_) (fun c3=>?_)
 .
  refine aa Jl ?_;exact fo 0 (k:=by simp only[cmpI,cmpS,lM];first|(simp_all;done)|((repeat' split)<;>first|rfl|omega))
 refine oK Jl (fun c4=>?_) (fun c4=>?_)
 .
  refine aa Jl ?_;exact fo 0 (k:=by simp only[cmpI,cmpS,lM];first|(simp_all;done)|((repeat' split)<;>first|rfl|omega))
 refine aa Jl ?_
 exact fo 0 (k:=by simp only[cmpI,cmpS,lM];first|(simp_all;done)|((repeat' split)<;>first|rfl|omega))
theorem Wl (x:Str) (y:Str):PureCt Tryz.prog 210 [.v (.string (bs x)),.v (.string (bs y))] (.i (cmpS x y)):=by
 refine oO Tryz.func210 fun ff=>?_
 unfold Tryz.f210
 refine aa Jl ?_
 refine aa Jl ?_ (hok:=by (try simp only[go_sem,ff]);all_goals (have h:=IA x;simp only[bne_self_eq_false] at h;exact h))
 refine aa Jl ?_ (hok:=by (try simp only[go_sem,ff]);all_goals (have h:=IA y;simp only[bne_self_eq_false] at h;exact h))
 refine oK Jl (fun c1=>?_) (fun c1=>?_) (hp:=rfl)
 .
  simp at c1
 refine oK Jl (fun c2=>?_) (fun c2=>?_) (hp:=rfl)
 .
  simp at c2
 refine oK Jl (fun c3=>?_) (fun c3=>?_)
 .
  refine aa Jl ?_;exact fo 0 (k:=by simp only[cmpI,cmpS,lM];first|(simp_all;done)|((repeat' split)<;>first|rfl|omega))
 refine oK Jl (fun c4=>?_) (fun c4=>?_)
 .
  refine aa Jl ?_;exact fo 0 (k:=by simp only[cmpI,cmpS,lM];first|(simp_all;done)|((repeat' split)<;>first|rfl|omega))
 refine aa Jl ?_
 exact fo 0 (k:=by simp only[cmpI,cmpS,lM];first|(simp_all;done)|((repeat' split)<;>first|rfl|omega))
theorem JC (s:Str) (p:Str):PureCt Tryz.prog 162 [.v (.string (bs s)),.v (.string (bs p))] (.b (hasPre s p)):=by
 refine oO Tryz.func162 fun ff=>?_
 unfold Tryz.f162
 refine oC Jl ?_
 exact fo 0 (k:=by have e:decide ((p.length:Int)<=s.length)=decide (p.length<=s.length):=ZI.2 (by omega);rw[hasPre,e])
theorem zx (s:Str) (p:Str):PureCt Tryz.prog 104 [.v (.string (bs s)),.v (.string (bs p))] (.b (hasPre s p)):=by
 refine oO Tryz.func104 fun ff=>?_
 unfold Tryz.f104
 refine aa Jl ?_
 refine aa Jl ?_ (hok:=by (try simp only[go_sem,ff]);all_goals (first|exact ok0|(apply JC<;>omega)|(intros;apply JC<;>omega)))
 exact fp 0
theorem CL (s:Str):PureCt Tryz.prog 166 [.v (.string (bs s))] (.b (wildB s)):=by
 refine oO Tryz.func166 fun ff=>?_
 unfold Tryz.f166
 refine aa Jl ?_
 refine aa Jl ?_ (hok:=by (try simp only[go_sem,ff]);all_goals (first|exact ok0|(apply zx<;>omega)|(intros;apply zx<;>omega)))
 exact fo 0 (k:=by rw[ru])
theorem gL (s:Str):PureCt Tryz.prog 60 [.v (.string (bs s))] (.b (wildB s)):=by
 refine oO Tryz.func60 fun ff=>?_
 unfold Tryz.f60
 refine oC Jl ?_
 exact fo 0 (k:=by rw[wildB];congr 2;rw[Za];simp only[XW,XX,YE];omega)
theorem TG (s:Str):PureCt Tryz.prog 208 [.v (.string (bs s))] (.b (freeB s)):=by
 rw[freeB]
 refine oO Tryz.func208 fun ff=>?_
 unfold Tryz.f208
 have e1:((s.length:Int)-1).toNat=s.length-1:=by omega
 have ff:=qA @e1 ff
 refine aa Jl ?_
 have hin:inR (s.length:Int) 1 40=true->(1:Int)<=s.length/\(s.length:Int)<=40:=by intro h;simp only[inR,XW,XX] at h;exact h
 refine oK Jl (fun c1=>?_) (fun c1=>?_) (hok:=by (try simp only[go_sem,ff]);all_goals (refine⟨⟨⟨sW _ _ _,fun h=>by have:=hin h;omega⟩,fun h=>?_⟩,fun h=>?_⟩<;>(rw[Yj,Yw] at h;have:=hin h.1;omega)))
 .
  try simp only[inR,XW,YA,XX,X9] at c1
  refine aa Jl ?_;exact fo 0 (k:=by (repeat' split)<;>first|rfl|(exfalso;omega))
 try simp only[inR,XW,YA,XX,X9] at c1
 refine ae ?_
 refine aa Jl ?_
 refine ah ?_
 refine lp (α:=(Nat)×Nat) [0,23] (fun ⟨k,nx⟩=>(k<=s.length)/\(az s.length (kz s) 0=az s.length (kz s) k)/\True) (fun ⟨k,nx⟩=>s.length-k) (fun ⟨k,nx⟩=>[(24,.i k)]) (fun ⟨k,nx⟩=>[]) (fun ⟨k,nx⟩=>nx) (0,_) (hA:=⟨iv,rfl,trivial⟩) (round:=?_)
 rintro⟨k,nx⟩ ⟨hk,hv, -⟩
 simp only[X0,X3]
 refine aa Jl ?_
 refine ae ?_
 refine cd (fun c2=>?_) (fun c2=>?_) (hp:=rfl)
 .
  have hk2:k<s.length:=by simpa using c2
  refine dw_skip ?_;refine ae ?_;refine ah ?_;refine oC Jl ?_;refine aa Jl ?_ (hok:=by (try simp only[go_sem,ff]);all_goals (first|done|(simp only[AO,and_true,implies_true];done)|((repeat' (with_reducible apply And.intro))<;>first|(intros;exact AO _ _ _)|(intros;simp_all;done))))
  refine cd (fun c3=>?_) (fun c3=>?_)
  .
   refine aa Jl ?_;exact fo 0 (k:=by have h8:kz s k=false:=(by simp only[kz,jT,Yj,YA,X9];(try simp only[inR,XW,YA,XX,X9] at c3);omega);rw[hv,dS,X6 hk2,h8];(repeat' split)<;>rfl)
  refine dw_skip ?_;refine ai Jl ?_
  show ∃ _,_
  exact au (k+1,_) (h1:=⟨iv,(by (try dsimp only);have h8:kz s k=true:=(by simp only[kz,jT,Bool.or_eq_true,Bool.and_eq_true,decide_eq_true_eq];(try simp only[inR,Bool.and_eq_true,Bool.and_eq_false_iff,decide_eq_true_eq,decide_eq_false_iff_not] at c3);omega);rw[hv,dS,if_pos hk2,h8];rfl),trivial⟩)
 refine aB ?_
 refine aa Jl ?_
 exact fo 0 (k:=by rw[hv,dS,XZ (by omega),XZ (by omega),XZ (by omega),XZ (by omega),XZ (by omega)])
theorem Pt (s:Str):PureCt Tryz.prog 181 [.v (.string (bs s))] (.b (freeB s)):=by
 rw[freeB]
 refine oO Tryz.func181 fun ff=>?_
 unfold Tryz.f181
 have e1:((s.length:Int)-1).toNat=s.length-1:=by omega
 have ff:=qA @e1 ff
 refine oC Jl ?_
 refine oK Jl (fun c1=>?_) (fun c1=>?_)
 .
  refine aa Jl ?_;exact fo 0 (k:=by (repeat' split)<;>first|rfl|(exfalso;omega))
 refine ae ?_
 refine aa Jl ?_
 refine ah ?_
 refine lp (α:=(Nat)×Nat) [0,3] (fun ⟨k,nx⟩=>(k<=s.length)/\(az s.length (kz s) 0=az s.length (kz s) k)/\True) (fun ⟨k,nx⟩=>s.length-k) (fun ⟨k,nx⟩=>[(4,.i k)]) (fun ⟨k,nx⟩=>[]) (fun ⟨k,nx⟩=>nx) (0,_) (hA:=⟨iv,rfl,trivial⟩) (round:=?_)
 rintro⟨k,nx⟩ ⟨hk,hv, -⟩
 simp only[X0,X3]
 refine oL Jl (fun c2=>?_) (fun c2=>?_) (hp:=rfl)
 .
  have hk2:k<s.length:=by simpa using c2
  refine ae ?_;refine ah ?_;refine oC Jl ?_;refine cd (fun c3=>?_) (fun c3=>?_)
  .
   refine aa Jl ?_;exact fo 0 (k:=by have h8:kz s k=false:=(by simp only[kz,jT,Yj,YA,X9];(try simp only[inR,XW,YA,XX,X9] at c3);omega);rw[hv,dS,X6 hk2,h8];(repeat' split)<;>rfl)
  refine dw_skip ?_;refine ai Jl ?_
  show ∃ _,_
  exact au (k+1,_) (h1:=⟨iv,(by (try dsimp only);have h8:kz s k=true:=(by simp only[kz,jT,Bool.or_eq_true,Bool.and_eq_true,decide_eq_true_eq];(try simp only[inR,Bool.and_eq_true,Bool.and_eq_false_iff,decide_eq_true_eq,decide_eq_false_iff_not] at c3);omega);rw[hv,dS,if_pos hk2,h8];rfl),trivial⟩)
 refine aB ?_
 refine aa Jl ?_
 exact fo 0 (k:=by rw[hv,dS,XZ (by omega),XZ (by omega),XZ (by omega),XZ (by omega),XZ (by omega)])
theorem F6 (a:Dat) (b:Dat):PureCt Tryz.prog 125 [.agg a.d,.agg b.d] (.b (less a b)):=by
 rw[less]
 refine oO Tryz.func125 fun ff=>?_
 unfold Tryz.f125
 refine aa Jl ?_
 refine oK Jl (fun c1=>?_) (fun c1=>?_) (hp:=rfl) (hq:=rfl)
 .
  refine aa Jl ?_;exact fo 0 (k:=by rw[X6 c1];rfl)
 refine oK Jl (fun c2=>?_) (fun c2=>?_) (hp:=rfl) (hq:=rfl)
 .
  refine aa Jl ?_;exact fo 0 (k:=by rw[XZ (by rw[c1];simp),X6 c2])
 refine aa Jl ?_
 exact fo 0 (k:=by rw[XZ (by rw[c1];simp),XZ (by rw[c2];simp)])
end Go.Proofs.YtjngdcldglkolaaGreatDoor
namespace Go.Proofs.YtjngdcldglkolaaGreatDoor
open Go.DL Go.Str Go.Rec
set_option maxRecDepth 10000
variable [Glob Tryz.prog] [Told]
theorem Wm (l:List Int):PureCt Tryz.prog 209 [.list false (l.map iR)] (.i (orFrom l 0)):=by
 refine oO Tryz.func209 fun ff=>?_
 unfold Tryz.f209
 refine Vh 0 rfl fun hlen=>?_
 simp only[Zk,maxLen] at hlen
 refine oC Jl ?_
 refine ae ?_
 refine aa Jl ?_
 refine ah ?_
 refine lp (α:=(Nat)×Nat) [3,6,7] (fun ⟨k,nx⟩=>(k<=l.length)/\(orFrom l 0=orFrom l k)/\True) (fun ⟨k,nx⟩=>l.length-k) (fun ⟨k,nx⟩=>[(8,.i k)]) (fun ⟨k,nx⟩=>[]) (fun ⟨k,nx⟩=>nx) (0,_) (hA:=⟨iv,rfl,trivial⟩) (round:=?_)
 rintro⟨k,nx⟩ ⟨hk,hv, -⟩
 simp only[X0,X3]
 refine aa Jl ?_
 refine ae ?_
 refine cd (fun c1=>?_) (fun c1=>?_) (hp:=rfl)
 .
  have hk2:k<l.length:=by simpa using c1
  have ff:=qA (UA hk2) ff;refine dw_skip ?_;refine ae ?_;refine ah ?_;refine oC Jl ?_;refine cd (fun c2=>?_) (fun c2=>?_) (hp:=rfl) (hq:=rfl)
  .
   refine aa Jl ?_;exact fo 0 (k:=by rw[hv,rP,X6 hk2,X6 c2])
  refine dw_skip ?_;refine ai Jl ?_
  show ∃ _,_
  exact au (k+1,_) (h1:=⟨iv,(by (try dsimp only);rw[hv,rP,if_pos hk2,if_neg (by rw[c2];simp)]),trivial⟩)
 refine aB ?_
 refine aa Jl ?_
 exact fo 0 (k:=by rw[hv,rP,XZ (by omega)])
theorem Lv (a:Dat) (b:Dat):PureCt Tryz.prog 168 [.agg a.d,.agg b.d] (.i (datC a b)):=by
 refine oO Tryz.func168 fun ff=>?_
 unfold Tryz.f168
 refine aa Jl ?_
 refine aa Jl ?_ (hok:=oJ Wl wQ (Wm [_,_,_]))
 exact fo 0 (k:=by rw[<- Ro];rfl)
theorem FW (k:Int):PureCt Tryz.prog 123 [.i k] (.b (singleB k)):=by
 refine oO Tryz.func123 fun ff=>?_
 unfold Tryz.f123
 refine oC Jl ?_
 exact fo 0 (k:=by first|rfl|(unfold singleB;simp))
theorem EK (r:Rule) (d:Dat) (hr:r.even=true->0<=r.n0):PureCt Tryz.prog 167 [.agg r.d,.agg d.d] (.b (datOk r d)):=by
 refine oO Tryz.func167 fun ff=>?_
 unfold Tryz.f167
 refine aa Jl ?_
 refine oK Jl (fun c1=>?_) (fun c1=>?_) (hok:=by (try simp only[go_sem,ff]);all_goals (first|done|((repeat' (with_reducible apply And.intro))<;>first|(intros;exact sW _ _ _)|(intro h;simp only[XW,Ye,Yj,Yw,inR_iff] at h;have:=hr h.2;omega)|(intros;simp_all;done))))
 .
  refine aa Jl ?_;exact fo 0 (k:=by rcases c1 with (h|h)|⟨h1,h2⟩<;>simp[datOk, *])
 refine ae ?_
 refine aa Jl ?_
 refine ah ?_
 refine aa Jl ?_
 refine cd (fun c2=>?_) (fun c2=>?_)
 .
  refine aa Jl ?_ (hok:=oI qg CL);exact fo 0 (k:=by obtain⟨⟨h1,h2⟩,h3⟩:=c1;rcases h3 with h3|h3<;>simp[datOk,pM, *])
 refine aa Jl ?_
 refine cd (fun c3=>?_) (fun c3=>?_)
 .
  refine aa Jl ?_ (hok:=oF (qg _));exact fo 0 (k:=by obtain⟨⟨h1,h2⟩,h3⟩:=c1;rcases h3 with h3|h3<;>simp[datOk,pM, *])
 refine aa Jl ?_
 refine cd (fun c4=>?_) (fun c4=>?_)
 .
  refine aa Jl ?_ (hok:=oF (TG _));exact fo 0 (k:=by obtain⟨⟨h1,h2⟩,h3⟩:=c1;rcases h3 with h3|h3<;>simp[datOk,pM, *])
 refine dw_skip ?_
 refine aa Jl ?_
 exact fo 0 (k:=by obtain⟨⟨h1,h2⟩,h3⟩:=c1;rcases h3 with h3|h3<;>simp[datOk,pM, *]<;>cases d.t<;>rfl)
theorem Gt (k:Int) (d:Dat):PureCt Tryz.prog 124 [.i k,.agg d.d] (.b (rDatOk k d)):=by
 refine oO Tryz.func124 fun ff=>?_
 unfold Tryz.f124
 refine aa Jl ?_
 refine ae ?_
 refine aa Jl ?_
 refine ah ?_
 refine aa Jl ?_
 refine cd (fun c1=>?_) (fun c1=>?_)
 .
  refine aa Jl ?_ (hok:=by (try simp only[go_sem,ff]);all_goals (first|done|((repeat' (with_reducible apply And.intro))<;>first|(intros;exact iF _ _ _)|(intros;exact fw _)|(intros;exact gL _)|(intro h;simp only[XW,inR_iff] at h;omega)|omega)))
  exact fo 0 (k:=by simp[rDatOk, *])
 refine oL Jl (fun c2=>?_) (fun c2=>?_)
 .
  refine cd (fun c3=>?_) (fun c3=>?_)
  .
   refine aa Jl ?_ (hok:=by (try simp only[go_sem,ff]);all_goals (first|done|((repeat' (with_reducible apply And.intro))<;>first|(intros;exact iF _ _ _)|(intros;exact fw _)|(intros;exact gL _)|(intro h;simp only[XW,inR_iff] at h;omega)|omega)))
   exact fo 0 (k:=by simp[rDatOk, *])
  exact absurd c2 c3
 refine ai Jl ?_
 refine cd (fun c4=>?_) (fun c4=>?_)
 .
  refine aa Jl ?_ (hok:=by (try simp only[go_sem,ff]);all_goals (first|done|((repeat' (with_reducible apply And.intro))<;>first|(intros;exact iF _ _ _)|(intros;exact fw _)|(intros;exact gL _)|(intro h;simp only[XW,inR_iff] at h;omega)|omega)))
  exact fo 0 (k:=by simp[rDatOk, *])
 refine aa Jl ?_
 refine cd (fun c5=>?_) (fun c5=>?_)
 .
  refine aa Jl ?_ (hok:=by (try simp only[go_sem,ff]);all_goals (first|done|((repeat' (with_reducible apply And.intro))<;>first|(intros;exact iF _ _ _)|(intros;exact fw _)|(intros;exact gL _)|(intro h;simp only[XW,inR_iff] at h;omega)|omega)))
  exact fo 0 (k:=by simp[rDatOk, *])
 refine aa Jl ?_
 refine cd (fun c6=>?_) (fun c6=>?_)
 .
  refine aa Jl ?_ (hok:=by (try simp only[go_sem,ff]);all_goals (first|done|exact Pt _))
  exact fo 0 (k:=by simp[rDatOk, *])
 refine oL Jl (fun c7=>?_) (fun c7=>?_)
 .
  refine cd (fun c8=>?_) (fun c8=>?_)
  .
   refine aa Jl ?_ (hok:=by (try simp only[go_sem,ff]);all_goals (first|done|((repeat' (with_reducible apply And.intro))<;>first|(intros;exact iF _ _ _)|(intros;exact fw _)|(intros;exact gL _)|(intro h;simp only[XW,inR_iff] at h;omega)|omega)))
   exact fo 0 (k:=by simp[rDatOk, *])
  exact absurd c7 c8
 refine ai Jl ?_
 refine cd (fun c9=>?_) (fun c9=>?_)
 .
  refine aa Jl ?_ (hok:=by (try simp only[go_sem,ff]);all_goals (first|done|((repeat' (with_reducible apply And.intro))<;>first|(intros;exact iF _ _ _)|(intros;exact fw _)|(intros;exact gL _)|(intro h;simp only[XW,inR_iff] at h;omega)|omega)))
  exact fo 0 (k:=by simp[rDatOk, *])
 refine aa Jl ?_
 refine cd (fun c10=>?_) (fun c10=>?_)
 .
  refine aa Jl ?_ (hok:=by (try simp only[go_sem,ff]);all_goals (first|done|((repeat' (with_reducible apply And.intro))<;>first|(intros;exact iF _ _ _)|(intros;exact fw _)|(intros;exact gL _)|(intro h;simp only[XW,inR_iff] at h;omega)|omega)))
  exact fo 0 (k:=by simp[rDatOk, *])
 refine dw_skip ?_
 refine aa Jl ?_
 exact fo 0 (k:=by simp[rDatOk, *])
end Go.Proofs.YtjngdcldglkolaaGreatDoor
namespace Go.Proofs.YtjngdcldglkolaaGreatDoor
open Go.DL Go.Str Go.Rec Go.Cmp
set_option maxRecDepth 10000
variable [Glob Tryz.prog] [Told]
theorem Ps {k:Nat}(h1:1<=k) (h8:k<=8):∃ rest:List D,∀ hh,fD Tryz.prog (.v (.pointer (some ⟨1,k*8,none⟩))) hh=(d9 k).d++rest:=by
 refine⟨(rulesTab.drop (k*8+8)).map D.v,fun hh=>?_⟩
 rw[IV,Ur]
 have:k=1\/k=2\/k=3\/k=4\/k=5\/k=6\/k=7\/k=8:=by omega
 rcases this with e|e|e|e|e|e|e|e<;>subst e<;>rfl
theorem tK (s:RSet):PureCt Tryz.prog 108 [.agg s.d] (.b (setOk s)):=by
 refine oO Tryz.func108 fun ff=>?_
 unfold Tryz.f108
 refine aa Jl ?_
 refine oK Jl (fun c1=>?_) (fun c1=>?_) (hok:=by (try simp only[go_sem,ff]);all_goals (first|done|((repeat' (with_reducible apply And.intro))<;>first|(intros;exact qg _)|(intros;exact sW _ _ _)|(intros;simp_all;done)|omega)))
 .
  refine aa Jl ?_;exact fo 0 (k:=by rcases c1 with (h|h)|h<;>simp[setOk,h])
 refine oK Jl (fun c2=>?_) (fun c2=>?_) (hok:=oF (sW _ _ _))
 .
  refine aa Jl ?_;exact fo 0 (k:=by simp[setOk,c2])
 have hty:=inR_iff.1 c1.1.2
 obtain⟨rest,hld⟩:=Ps (k:=s.ty.toNat) om om
 have ff:=qA @hld ff
 refine aa Jl ?_ (hok:=by (try simp only[go_sem,ff]);all_goals (first|done|omega|((repeat' (with_reducible apply And.intro))<;>first|omega|rfl)))
 refine oK Jl (fun c3=>?_) (fun c3=>?_) (hok:=by (try simp only[go_sem,ff]);all_goals (first|done|((repeat' (with_reducible apply And.intro))<;>first|(intros;exact CL _)|(intros;simp_all;done)|(intros;by_cases hq:(d9 s.ty.toNat).single=true<;>simp_all))))
 .
  refine aa Jl ?_;exact fo 0 (k:=by rcases c3 with⟨h1,h2⟩|⟨h1,h2⟩<;>simp[setOk,h1,h2])
 refine ae ?_
 refine aa Jl ?_
 refine ah ?_
 refine lp (α:=(Nat)×Nat) [1,3,50,51] (fun ⟨k,nx⟩=>(k<=s.data.length)/\(27<nx)/\(az s.data.length (iN s.ty.toNat s.data) 0=az s.data.length (iN s.ty.toNat s.data) k)/\True) (fun ⟨k,nx⟩=>s.data.length-k) (fun ⟨k,nx⟩=>[(52,.i k)]) (fun ⟨k,nx⟩=>[(0,⟨63,[s.d]⟩),(27,⟨214,[(d9 s.ty.toNat).d]⟩)]) (fun ⟨k,nx⟩=>nx) (0,_) (hA:=⟨iv,iv,rfl,trivial⟩) (round:=?_)
 rintro⟨k,nx⟩ ⟨hk,hx,hv, -⟩
 simp only[X0,X3]
 have n0:0<nx:=by omega
 have ff:=qB @hx @n0 ff
 refine aa Jl ?_
 refine ae ?_
 refine cd (fun c4=>?_) (fun c4=>?_) (hp:=rfl)
 .
  have hk2:k<s.data.length:=by simpa using c4
  have ff:=qA (mY hk2) ff;refine dw_skip ?_;refine ae ?_;refine ah ?_;refine aa Jl ?_;have gW:=inR_iff.1 c2;have e1:((k:Int)-1).toNat=k-1:=by omega
  have hk1:k-1<s.data.length:=by omega
  have ff:=qB @e1 (mY hk1) ff;refine aa Jl ?_ (hok:=by (try simp only[go_sem,ff]);all_goals (first|done|((repeat' (with_reducible apply And.intro))<;>first|(intros;exact EK _ _ (FU _))|(intros;exact Lv _ _)|(intros;simp_all;done)|(intro h;simp only[XW,XX] at h;have:=h.2;omega)|skip)))
  refine cd (fun c5=>?_) (fun c5=>?_)
  .
   refine aa Jl ?_;exact fo 0 (k:=by rw[Bj c1 c2 c3,hv,dS,X6 hk2,Lf c5];rfl)
  refine dw_skip ?_;refine ai Jl ?_
  show ∃ _,_
  exact au (k+1,_) (h1:=⟨iv,iv,(by (try dsimp only);rw[hv,dS,if_pos hk2,Le c5];rfl),trivial⟩)
 refine aB ?_
 refine aa Jl ?_
 exact fo 0 (k:=by rw[Bj c1 c2 c3,hv,dS,XZ (by omega)])
end Go.Proofs.YtjngdcldglkolaaGreatDoor
namespace Go.Proofs.YtjngdcldglkolaaGreatDoor
open Go.DL Go.Str Go.Rec Go.Cmp
set_option maxRecDepth 10000
variable [Glob Tryz.prog] [Told]
theorem rD (s:RSet):PureCt Tryz.prog 65 [.agg s.d] (.b (setOk s)):=by
 refine oO Tryz.func65 fun ff=>?_
 unfold Tryz.f65
 refine oC Jl ?_
 refine oK Jl (fun c1=>?_) (fun c1=>?_) (hok:=by (try simp only[go_sem,ff]);all_goals (first|done|((repeat' (with_reducible apply And.intro))<;>first|(intros;exact fw _)|(intros;exact iF _ _ _)|(intros;exact FW _)|(intros;simp_all;done)|skip)))
 .
  refine aa Jl ?_;exact fo 0 (k:=by rw[OE c1])
 refine oK Jl (fun c2=>?_) (fun c2=>?_) (hok:=by (try simp only[go_sem,ff]);all_goals (first|done|((repeat' (with_reducible apply And.intro))<;>first|(intros;exact gL _)|(intros;simp_all;done)|skip))) (hp:=rfl) (hq:=rfl)
 .
  rw[ED _ c1.1.1.1.2] at c2
  try simp only[XX,X9,Yd,XW,Yj,Ye,Yw,YA,YE,Zy,ZL,Zx,ne_eq] at c2
  refine aa Jl ?_;exact fo 0 (k:=by rw[OD c2])
 rw[ED _ c1.1.1.1.2] at c2
 try simp only[XX,X9,Yd,XW,Yj,Ye,Yw,YA,YE,Zy,ZL,Zx,ne_eq] at c2
 refine ae ?_
 refine aa Jl ?_
 refine ah ?_
 refine lp (α:=(Nat)×Nat) [1,3] (fun ⟨k,nx⟩=>(k<=s.data.length)/\(0<nx)/\(az s.data.length (iN s.ty.toNat s.data) 0=az s.data.length (iN s.ty.toNat s.data) k)/\True) (fun ⟨k,nx⟩=>s.data.length-k) (fun ⟨k,nx⟩=>[(4,.i k)]) (fun ⟨k,nx⟩=>[(0,⟨63,[s.d]⟩)]) (fun ⟨k,nx⟩=>nx) (0,_) (hA:=⟨iv,iv,rfl,trivial⟩) (round:=?_)
 rintro⟨k,nx⟩ ⟨hk,hx,hv, -⟩
 simp only[X0,X3]
 have ff:=qA @hx ff
 refine oL Jl (fun c3=>?_) (fun c3=>?_) (hp:=rfl)
 .
  have hk2:k<s.data.length:=by simpa using c3
  have ff:=qA (mY hk2) ff;refine ae ?_;refine ah ?_;have gW:=inR_iff.1 c1.1.2;have e1:((k:Int)-1).toNat=k-1:=by omega
  have hk1:k-1<s.data.length:=by omega
  have ff:=qB @e1 (mY hk1) ff;refine aa Jl ?_ (hok:=by (try simp only[go_sem,ff]);all_goals (first|done|((repeat' (with_reducible apply And.intro))<;>first|(intros;exact Gt _ _)|(intros;exact F6 _ _)|(intros;simp_all;done)|(intro h;simp only[XW,XX] at h;have:=h.2;omega)|skip)))
  refine cd (fun c4=>?_) (fun c4=>?_)
  .
   refine aa Jl ?_;exact fo 0 (k:=by rw[FB c1 c2,hv,dS,X6 hk2,VY c1.1.1.1.2 c4];rfl)
  refine dw_skip ?_;refine ai Jl ?_
  show ∃ _,_
  exact au (k+1,_) (h1:=⟨iv,iv,(by (try dsimp only);rw[hv,dS,if_pos hk2,VW c1.1.1.1.2 c4];rfl),trivial⟩)
 refine aB ?_
 refine aa Jl ?_
 exact fo 0 (k:=by rw[FB c1 c2,hv,dS,XZ (by omega)])
theorem Br (a:RSet) (b:RSet):PureCt Tryz.prog 121 [.agg a.d,.agg b.d] (.i (rOrd a b)):=by
 refine oO Tryz.func121 fun ff=>?_
 unfold Tryz.f121
 refine aa Jl ?_
 refine aa Jl ?_ (hok:=oF (PQ _ _))
 refine oK Jl (fun c1=>?_) (fun c1=>?_)
 .
  refine aa Jl ?_;exact fo 0 (k:=by simp only[rOrd,gY,qh,Go.Rec.cmpI];simp_all<;>(repeat' split)<;>omega)
 refine oK Jl (fun c2=>?_) (fun c2=>?_)
 .
  refine aa Jl ?_;exact fo 0 (k:=by simp only[rOrd,gY,qh,Go.Rec.cmpI];simp_all<;>(repeat' split)<;>omega)
 refine oK Jl (fun c3=>?_) (fun c3=>?_)
 .
  refine aa Jl ?_;exact fo 0 (k:=by simp only[rOrd,gY,qh,Go.Rec.cmpI];simp_all<;>(repeat' split)<;>omega)
 refine aa Jl ?_
 exact fo 0 (k:=by simp only[rOrd,gY,qh,Go.Rec.cmpI];simp_all<;>(repeat' split)<;>omega)
theorem Pz (a:RSet) (b:RSet) (ha:a.data.length<=100000):PureCt Tryz.prog 158 [.agg a.d,.agg b.d] (.b (sameB a b)):=by
 refine oO Tryz.func158 fun ff=>?_
 unfold Tryz.f158
 refine aa Jl ?_
 refine oK Jl (fun c1=>?_) (fun c1=>?_)
 .
  refine aa Jl ?_;exact fo 0 (k:=by rw[Pk c1])
 refine ae ?_
 refine aa Jl ?_
 refine ah ?_
 refine lp (α:=(Nat)×Nat) [2,3] (fun ⟨k,nx⟩=>(k<=a.data.length)/\(1<nx)/\(∀ i,i<k->a.data[i]! = b.data[i]!)/\True) (fun ⟨k,nx⟩=>a.data.length-k) (fun ⟨k,nx⟩=>[(5,.i k)]) (fun ⟨k,nx⟩=>[(0,⟨63,[a.d]⟩),(1,⟨63,[b.d]⟩)]) (fun ⟨k,nx⟩=>nx) (0,_) (hA:=⟨iv,iv,(by first|(intro i hi;omega)|(dsimp only;intro i hi;omega)),trivial⟩) (round:=?_)
 rintro⟨k,nx⟩ ⟨hk,hx,hv, -⟩
 simp only[X0,X3]
 have n0:0<nx:=by omega
 have ff:=qB @hx @n0 ff
 refine oL Jl (fun c2=>?_) (fun c2=>?_) (hp:=rfl)
 .
  have hk2:k<a.data.length:=by simpa using c2
  have hk3:k<b.data.length:=by have:=c1.2;omega
  have ff:=qB (mY hk2) (mY hk3) ff;refine ae ?_;refine ah ?_;refine aa Jl ?_;refine cd (fun c3=>?_) (fun c3=>?_) (hp:=rfl) (hq:=rfl)
  .
   refine aa Jl ?_;exact fo 0 (k:=by rw[Pm (V3 c3)])
  refine dw_skip ?_;refine ai Jl ?_
  show ∃ _,_
  exact au (k+1,_) (h1:=⟨iv,iv,(by (try dsimp only);intro i hi;by_cases e:i=k;subst e;exact VX c3;exact hv i om),trivial⟩)
 refine aB ?_
 refine aa Jl ?_
 exact fo 0 (k:=by rw[Pj c1 fun i hi=>hv i (by omega)])
end Go.Proofs.YtjngdcldglkolaaGreatDoor
namespace Go.Proofs.YtjngdcldglkolaaGreatDoor
open Go.DL Go.Str Go.Rec Go.Cmp
set_option maxRecDepth 10000
variable [Glob Tryz.prog] [Told]
@[go_sem] theorem all_bD {t:Str}:(∀ r∈t.map bD,r.length=1)=True:=by
 apply eq_true
 intro r hr
 obtain⟨x,_,rfl⟩:=Y5.1 hr
 rfl
theorem F3 (b t:Str):(b.map bD++[[.v (.int .u8 ((bM t.length).toNat:Int))]])++t.map bD=(b++ay t).map bD:=by
 simp[ay,bD]
theorem bE (t:Str):(ay t).length=t.length+1:=rfl
theorem KJ {l:List Dat}{k:Nat}(h:k<l.length):l.drop k=l[k]! :: l.drop (k+1):=by
 rw[Yy h,getElem!_pos l k h]
theorem take8 (m:Int) {k:Nat}(h:k<8):(ak m).take (k+1)=(ak m).take k++[dG (uN m) (56-8*k)]:=by
 have:k=0\/k=1\/k=2\/k=3\/k=4\/k=5\/k=6\/k=7:=by omega
 rcases this with e|e|e|e|e|e|e|e<;>subst e<;>rfl
theorem Ih (m:Int) (s:Nat) (hs:s<=56):IntKind.u8.wrap ((IntKind.u64.wrap m).fdiv (2^(min s 64)))=((dG (uN m) s).toNat:Int):=by
 have e1:IntKind.u64.wrap m=(uN m:Int):=by rw[IntKind.wrap_u64];unfold uN;omega
 rw[e1,IntKind.wrap_u8,ZW (by omega),wW]
 rw[Int.fdiv_eq_ediv_of_nonneg _ (by exact_mod_cast Yo _)]
 norm_cast
theorem Mk (b t:Str) (r:Nat) (h:H) (n:Nat) (hr:h r=some ⟨5,b.map bD⟩) (hl:b.length<=1000000) (ht:t.length<=1000000):RCt Tryz.prog 186 [.mrow r 0 b.length,.v (.string (bs t))] h n (fun d h' n'=>∃ r',d = .mrow r' 0 (b++ay t).length/\h'=upd (upd h r none) r' (some ⟨5,(b++ay t).map bD⟩)/\n<=r'/\r'<n'):=by
 refine oP Tryz.func186 fun hnone ff=>?_
 unfold Tryz.f186
 have hrn:r<n:=by rcases YV r n with q|q;exact q;rw[hnone r q] at hr;cases hr
 have ff:=qB @hr @hrn ff
 refine oD Jl ?_
 refine aI ?_
 exact aU (upd (upd h r none) (n+10) (some ⟨5,(b++ay t).map bD⟩)) (hr:=oS (k:=by exact⟨n+10,by simp[ay];omega,rfl,om,om⟩)) (hh:=by rw[<- F3];exact Da (r1:=n+6) (.inr (hnone _ (by omega))))
theorem Ap (b:Str) (m:Int) (r:Nat) (h:H) (n:Nat) (hr:h r=some ⟨5,b.map bD⟩) (hl:b.length<=1000000):RCt Tryz.prog 187 [.mrow r 0 b.length,.i m] h n (fun d h' n'=>∃ r',d = .mrow r' 0 (b++ak m).length/\h'=upd (upd h r none) r' (some ⟨5,(b++ak m).map bD⟩)/\n<=r'/\r'<n'):=by
 refine oP Tryz.func187 fun hnone ff=>?_
 unfold Tryz.f187
 have hrn:r<n:=by rcases YV r n with q|q;exact q;rw[hnone r q] at hr;cases hr
 have ff:=qB @hr @hrn ff
 refine aa Jl ?_
 refine ae ?_
 refine aa Jl ?_
 refine ah ?_
 refine dD (α:=(Nat)×(Nat)×Nat) [1] (fun ⟨k,r1,nx⟩=>(k<=8)/\(r1=r/\k=0\/n<=r1)/\(r1<nx)/\(n<=nx)/\True) (fun ⟨k,r1,nx⟩=>9-k) (fun ⟨k,r1,nx⟩=>[(0,.mrow r1 0 (b.length+k)),(5,.i (56-8*k))]) (fun ⟨k,r1,nx⟩=>upd (upd h r none) r1 (some ⟨5,(b++(ak m).take k).map bD⟩)) (fun ⟨k,r1,nx⟩=>nx) (0,r,_) (hA:=⟨iv,iv,iv,iv,trivial⟩) (round:=?_) (hhh:=by simp only[Yf,YC];exact J5 hr)
 rintro⟨k,r1,nx⟩ ⟨hk,h1,hx,hn, -⟩
 simp only[X0,X3]
 have ff:=qA @hx ff
 refine oL Jl (fun c1=>?_) (fun c1=>?_) (hp:=rfl) (hq:=rfl)
 .
  have hk2:k<8:=by have:(0:Int)<=56-8*(k:Int):=(by simpa using c1);omega
  have e1:(56-8*(k:Int)).toNat=56-8*k:=by omega
  have e2:=Ih m (56-8*k) (by omega)
  have ff:=qB @e1 @e2 ff;refine ae ?_;refine ah ?_;refine ai Jl ?_ (hok:=by (try simp only[go_sem,ff,aX,Yu,XV]);all_goals (exact ok0))
  refine ai Jl ?_
  show ∃ _,_
  refine au (k+1,(nx+9),_) (h1:=⟨iv,iv,iv,iv,trivial⟩) (h5:=?_);rw[take8 m hk2,<- Yz,YM,YM];exact Da (h1.imp (fun q=>q.1) fun q=>hnone _ q)
 have hk3:k=8:=by have : ¬ (0:Int)<=56-8*(k:Int):=(by simpa using c1);omega
 subst hk3
 refine aB ?_
 refine aa Jl ?_
 refine aI ?_
 exact aU (upd (upd h r none) r1 (some ⟨5,(b++ak m).map bD⟩)) (hr:=oS (k:=by exact⟨r1,by simp[aX],rfl,om,om⟩))
theorem Qh (s:RSet):PureCt Tryz.prog 134 [.agg s.d] (.tuple [.list false ((bytesF s).1.map bD),.i (bytesF s).2]):=by
 refine oO Tryz.func134 fun ff=>?_
 unfold Tryz.f134
 refine aa Jl ?_
 refine oK Jl (fun c1=>?_) (fun c1=>?_) (hok:=oF (tK _))
 .
  refine aa Jl ?_;exact fo 2 (k:=by simp[bytesF,c1])
 have hs:=(eT s).1 c1
 have gW:=hs.len
 have hn60:=dO hs.name
 refine aa Jl ?_
 refine qM 4 5 (by simp only[go_sem,ff]) (by simp only[go_sem,ff]) ?_
 refine ae (aD Jl 3 (hct:=by exact Mk [] s.name 7 _ _ rfl (by simp) om) (hk:=?_))
 rintro res h2 n2 ⟨r1,rfl,rfl,ar1,br1⟩
 dsimp only at ar1 br1
 have z1r1:(0=r1)=False:=Y7 om
 have z2r1:(r1=0)=False:=Y7 om
 have pr1:0<n2:=by omega
 have ff:=qE @z1r1 @z2r1 @br1 @pr1 ff
 refine av Jl ?_
 refine lc [1,4] [(0,⟨63,[s.d]⟩),(r1,⟨5,(ay s.name).map bD⟩)] (by simp only[Yb,Yt,go_sem,ff];exact rfl) (by first|(simp only[go_sem,ff];done)|(simp[go_sem,ff];done)) ?_
 refine ae (aD Jl 3 (hct:=by exact Ap (ay s.name) s.ty r1 _ _ (by simp only[go_sem,z1r1,z2r1]) (by simp only[XV,bE,aX];omega)) (hk:=?_))
 rintro res h2 n2 ⟨r2,rfl,rfl,ar2,br2⟩
 dsimp only at ar2 br2
 have z1r2:(0=r2)=False:=Y7 om
 have z2r2:(r2=0)=False:=Y7 om
 have pr2:0<n2:=by omega
 have ff:=qE @z1r2 @z2r2 @br2 @pr2 ff
 refine av Jl ?_
 refine lc [1,4] [(0,⟨63,[s.d]⟩),(r2,⟨5,(ay s.name++ak s.ty).map bD⟩)] (by simp only[Yb,Yt,go_sem,ff];exact rfl) (by first|(simp only[go_sem,ff];done)|(simp[go_sem,ff];done)) ?_
 refine ae (aD Jl 3 (hct:=by exact Ap (ay s.name++ak s.ty) s.life r2 _ _ (by simp only[go_sem,z1r2,z2r2]) (by simp only[XV,bE,aX];omega)) (hk:=?_))
 rintro res h2 n2 ⟨r3,rfl,rfl,ar3,br3⟩
 dsimp only at ar3 br3
 have pr3:0<n2:=by omega
 have ff:=qD (nH 0 r3) @br3 @pr3 ff
 refine av Jl ?_
 refine lc [1,4] [(0,⟨63,[s.d]⟩),(r3,⟨5,(ay s.name++ak s.ty++ak s.life).map bD⟩)] (by simp only[Yb,Yt,go_sem,ff];exact rfl) (by first|(simp only[go_sem,ff];done)|(simp[go_sem,ff];done)) ?_
 refine aa Jl ?_ (hok:=by (try simp only[go_sem,ff,bE,aX,XV]);all_goals (exact ok0))
 refine ae ?_
 refine aa Jl ?_
 refine ah ?_
 refine lp (α:=(Nat)×(Str)×(Nat)×Nat) [30,31] (fun ⟨k,out,r,nx⟩=>(k<=s.data.length)/\(r<nx)/\(out.length<=1000+k*300)/\(out++(s.data.drop k).flatMap jq=setB s)/\True) (fun ⟨k,out,r,nx⟩=>s.data.length-k) (fun ⟨k,out,r,nx⟩=>[(4,.mrow r 0 out.length),(32,.i k)]) (fun ⟨k,out,r,nx⟩=>[(r,⟨5,(out).map bD⟩)]) (fun ⟨k,out,r,nx⟩=>nx) (0,ay s.name++ak s.ty++ak s.life++[bM s.data.length],(n2+11),_) (hA:=⟨iv,iv,(by first|(simp[ay,aX];omega)|(dsimp only;simp[ay,aX];omega)),(by first|(simp[setB])|(dsimp only;simp[setB])),trivial⟩) (round:=?_)
 rintro⟨k,out,r,nx⟩ ⟨hk,hr,ho,hv, -⟩
 simp only[X0,X3]
 have ff:=qA @hr ff
 refine aa Jl ?_
 refine ae ?_
 refine cd (fun c2=>?_) (fun c2=>?_) (hp:=rfl)
 .
  have hk2:k<s.data.length:=by simpa using c2
  have hd:=(Dw hs.ty (hs.dat _ (Yv hk2))).2.1;rw[<- getElem!_pos s.data k hk2] at hd;have ff:=qA (mY hk2) ff;refine dw_skip ?_;refine ae ?_;refine ah ?_;refine aa Jl ?_;refine ae (aD Jl 3 (hct:=by exact Mk out s.data[k]!.t r _ _ (by simp only[go_sem,hr]) om om) (hk:=?_))
  rintro res h2 n2 ⟨q1,rfl,rfl,aq1,bq1⟩;dsimp only at aq1 bq1;have z1q1:(nx+3=q1)=False:=eq_false om;have z2q1:(q1=nx+3)=False:=eq_false om;have pq1:nx+3<n2:=by omega
  have ff:=qE @z1q1 @z2q1 @bq1 @pq1 ff;refine av Jl ?_;refine lc [4,6,30,31,32] [((nx+3),⟨110,[s.data[k]!.d]⟩),(q1,⟨5,(out++ay s.data[k]!.t).map bD⟩)] (by simp only[Yb,Yt,go_sem,ff];exact rfl) (by first|(simp only[go_sem,ff];done)|(simp[go_sem,ff];done)) ?_
  refine ae (aD Jl 3 (hct:=by exact Ap (out++ay s.data[k]!.t) s.data[k]!.n q1 _ _ (by simp only[go_sem,z1q1,z2q1]) (by simp only[XV,bE,aX];omega)) (hk:=?_))
  rintro res h2 n2 ⟨q2,rfl,rfl,aq2,bq2⟩;dsimp only at aq2 bq2;have z1q2:(nx+3=q2)=False:=eq_false om;have z2q2:(q2=nx+3)=False:=eq_false om;have pq2:nx+3<n2:=by omega
  have ff:=qE @z1q2 @z2q2 @bq2 @pq2 ff;refine av Jl ?_;refine lc [4,6,30,31,32] [((nx+3),⟨110,[s.data[k]!.d]⟩),(q2,⟨5,(out++ay s.data[k]!.t++ak s.data[k]!.n).map bD⟩)] (by simp only[Yb,Yt,go_sem,ff];exact rfl) (by first|(simp only[go_sem,ff];done)|(simp[go_sem,ff];done)) ?_
  refine aD Jl 3 (hct:=by exact Ap (out++ay s.data[k]!.t++ak s.data[k]!.n) s.data[k]!.m q2 _ _ (by simp only[go_sem,z1q2,z2q2]) (by simp only[XV,bE,aX];omega)) (hk:=?_)
  rintro res h2 n2 ⟨q3,rfl,rfl,aq3,bq3⟩;dsimp only at aq3 bq3;have pq3:nx+3<n2:=by omega
  have ff:=qD (nH (nx+3) q3) @bq3 @pq3 ff;refine av Jl ?_;refine lc [4,30,31,32] [(q3,⟨5,(out++ay s.data[k]!.t++ak s.data[k]!.n++ak s.data[k]!.m).map bD⟩)] (by simp only[Yb,Yt,go_sem,ff];exact rfl) (by first|(simp only[go_sem,ff];done)|(simp[go_sem,ff];done)) ?_
  refine ai Jl ?_
  show ∃ _,_
  exact au (k+1,out++ay s.data[k]!.t++ak s.data[k]!.n++ak s.data[k]!.m,q3,_) (h1:=⟨iv,iv,(by (try dsimp only);simp only[List.length_append,bE,aX];omega),(by (try dsimp only);rw[<- hv,KJ hk2];simp[jq]),trivial⟩)
 refine aB ?_
 refine aa Jl ?_
 exact fo 2 (k:=by rw[YU (by omega)] at hv;simp at hv;simp[bytesF,c1,hv])
end Go.Proofs.YtjngdcldglkolaaGreatDoor
namespace Go.Proofs.YtjngdcldglkolaaGreatDoor
open Go.DL Go.Str Go.Rec Go.Cmp
set_option maxRecDepth 10000
variable [Glob Tryz.prog] [Told]
theorem Rn {u:Nat}(hu:u<18446744073709551616) (c:UInt8):IntKind.u64.wrap ((BitVec.ofInt 64 (IntKind.u64.wrap ((u:Int)*2^(min 8 64))) ||| BitVec.ofInt 64 (IntKind.u64.wrap (c.toNat:Int))).toNat:Nat)=(dz u c:Int):=by
 have hc:=c.toNat_lt
 have e0:((2:Int)^(min 8 64))=256:=rfl
 rw[e0]
 have e1:IntKind.u64.wrap ((u:Int)*256)=((u*256 % 18446744073709551616:Nat):Int):=by rw[IntKind.wrap_u64];omega
 have e2:IntKind.u64.wrap (c.toNat:Int)=(c.toNat:Int):=by rw[IntKind.wrap_u64];omega
 rw[e1,e2,BitVec.ofInt_natCast,BitVec.ofInt_natCast,BitVec.toNat_or,BitVec.toNat_ofNat,BitVec.toNat_ofNat]
 have e3:c.toNat % 2^64=c.toNat:=Zw om
 have e4:u*256 % 18446744073709551616 % 2^64=(u % 72057594037927936) <<< 8:=by rw[Nat.shiftLeft_eq];omega
 rw[e3,e4,<- Nat.shiftLeft_add_eq_or_of_lt (by omega:c.toNat<2^8),Nat.shiftLeft_eq,IntKind.wrap_u64]
 unfold dz
 omega
theorem xI (u:Nat) (c:UInt8):dz u c<18446744073709551616:=by unfold dz;omega
theorem Nq {m:Int}{st:RS}(h:(st.2||decide ((st.1.length:Int)<m))=true):aH m st=([],(st.1,true)):=by
 unfold aH;rw[X6 h]
theorem Nn {m:Int}{st:RS}(h:(st.2||decide ((st.1.length:Int)<m))=false):aH m st=(st.1.take m.toNat,(st.1.drop m.toNat,st.2)):=by
 unfold aH;rw[h,(Yj.1 h).1];rfl
@[go_sem] theorem Za3 {l:Str}:(l.map bD).map Go.DL.byteOf=l:=lL (f:=bD) (g:=Go.DL.byteOf) (fun x=>by simp[Go.DL.byteOf,bD]) l
@[go_sem] theorem ZcQ {l:Str}:(l.map bD).all isByte=true:=by
 induction l with
 | nil=>rfl
 | cons x l ih=>simp only[Yb,List.all_cons,ih];rfl
theorem take_len (n:Nat) (st:RS):(aH n st).1.length<=n:=by
 unfold aH
 split
 .
  exact Yo _
 show (st.1.take _).length<=n
 simp;omega
theorem AA (c:UInt8):IntKind.i64.wrap (c.toNat:Int)=(c.toNat:Int):=by
 have:=c.toNat_lt
 rw[IntKind.wrap_i64];omega
theorem KL {l:Str}{k:Nat}(h:k<l.length):l.drop k=l.getD k 0::l.drop (k+1):=by
 rw[Yy h]
 congr 1
 simp[List.getD,h]
theorem oM {l:Str}{n:Nat}(h:n<l.length):(l.map bD).getD n []=[.v (.int .u8 ((l.getD n 0).toNat:Int))]:=by
 simp[List.getD,h,bD]
theorem count_le (st:RS):(aW st).1<=255:=by
 unfold aW
 split
 .
  have:=((aH 1 st).1.getD 0 0).toNat_lt;simp only;omega
 exact Yo _
theorem Lb {n k:Nat}{out:List Dat}{st:RS}(h:k<n) (c:(aA (aA (aP st).2).2).2.2=false):dJ (n-k) out st=dJ (n-(k+1)) (out++[(bW st).1]) (bW st).2:=by
 rw[show n-k=(n-(k+1))+1 by omega,dJ,XZ (by rw[show (bW st).2.2=(aA (aA (aP st).2).2).2.2 from rfl,c];simp)]
theorem VU {n k:Nat}{out:List Dat}{st:RS}(h:k<n) (c:(aA (aA (aP st).2).2).2.2=true):dJ (n-k) out st=(out,(bW st).2):=by
 rw[show n-k=(n-(k+1))+1 by omega,dJ,X6 (show (bW st).2.2=true from c)]
theorem VV {n k:Nat}{out:List Dat}{st:RS}(h : ¬ k<n):dJ (n-k) out st=(out,st):=by
 rw[show n-k=0 by omega];rfl
theorem Gm {x:Str}{out:List Dat}{st:RS}(h:(out,st)=dJ (aW (aA (aA (aP (x,false)).2).2).2).1 [] (aW (aA (aA (aP (x,false)).2).2).2).2):gy (x,false)=(⟨(aP (x,false)).1,(aA (aP (x,false)).2).1,(aA (aA (aP (x,false)).2).2).1,out⟩,st):=by
 unfold gy
 simp only
 rw[<- h]
theorem Gn {x:Str}{out:List Dat}{st:RS}(h:(out,st)=dJ (aW (aA (aA (aP (x,false)).2).2).2).1 [] (aW (aA (aA (aP (x,false)).2).2).2).2) (c:((st.2||decide ((0:Int)<st.1.length)) || !setOk ⟨(aP (x,false)).1,(aA (aP (x,false)).2).1,(aA (aA (aP (x,false)).2).2).1,out⟩)=true):readF x=(yY,10):=by
 have e:decide ((0:Int)<st.1.length)=decide (0<st.1.length):=ZI.2 om
 rw[e] at c
 unfold readF
 rw[Gm h]
 exact X6 c
theorem Gl {x:Str}{out:List Dat}{st:RS}(h:(out,st)=dJ (aW (aA (aA (aP (x,false)).2).2).2).1 [] (aW (aA (aA (aP (x,false)).2).2).2).2) (c:((st.2||decide ((0:Int)<st.1.length)) || !setOk ⟨(aP (x,false)).1,(aA (aP (x,false)).2).1,(aA (aA (aP (x,false)).2).2).1,out⟩)=false):readF x=(⟨(aP (x,false)).1,(aA (aP (x,false)).2).1,(aA (aA (aP (x,false)).2).2).1,out⟩,0):=by
 have e:decide ((0:Int)<st.1.length)=decide (0<st.1.length):=ZI.2 om
 rw[e] at c
 unfold readF
 rw[Gm h]
 exact XZ (by rw[Bool.not_eq_true];exact c)
@[go_sem] theorem bslU:DT Tryz.prog 22=true:=by kernel_rfl
theorem A7 (m:Int) (hm:0<=m) (st:RS) (rb:Nat) (h:H) (n:Nat) (hb:h rb=some ⟨285,[[.list false ((st).1.map bD),.b (st).2]]⟩):RCt Tryz.prog 245 [.mptr rb 0 0,.i m] h n (fun d h' n'=>(∃ f,d = .list f ((aH m st).1.map bD))/\h'=upd h rb (some ⟨285,[[.list false (((aH m st).2).1.map bD),.b ((aH m st).2).2]]⟩)/\n<=n'):=by
 refine oP Tryz.func245 fun hnone ff=>?_
 unfold Tryz.f245
 have ff:=qA @hb ff
 refine aa Jl ?_
 refine oK Jl (fun c1=>?_) (fun c1=>?_) (hp:=rfl) (hq:=rfl)
 .
  refine oC Jl ?_;refine aI ?_;exact aU (upd h rb (some ⟨285,[[.list false (st.1.map bD),.b true]]⟩)) (hr:=oS (k:=by rw[Nq c1];exact⟨⟨_,rfl⟩,rfl,om⟩)) (hh:=by intro q;left;by_cases e1:q=rb<;>simp[upd,e1])
 have c1b:=Yj.1 c1
 have c1c:=of_decide_eq_false c1b.2
 refine oD Jl ?_
 refine aI ?_
 exact aU (upd h rb (some ⟨285,[[.list false ((st.1.drop m.toNat).map bD),.b st.2]]⟩)) (hr:=oS (k:=by rw[Nn c1];exact⟨⟨_,by rw[ZQ]⟩,rfl,om⟩)) (hh:=by intro q;left;by_cases e1:q=rb<;>simp[upd,e1])
theorem Lr (st:RS) (rb:Nat) (h:H) (n:Nat) (hb:h rb=some ⟨285,[[.list false ((st).1.map bD),.b (st).2]]⟩):RCt Tryz.prog 239 [.mptr rb 0 0] h n (fun d h' n'=>d = .i (aW st).1/\h'=upd h rb (some ⟨285,[[.list false (((aW st).2).1.map bD),.b ((aW st).2).2]]⟩)/\n<=n'):=by
 refine oP Tryz.func239 fun hnone ff=>?_
 unfold Tryz.f239
 have ff:=qA @hb ff
 refine aa Jl ?_
 refine ae ?_
 refine ae (aD Jl 1 (hct:=by exact A7 1 om st rb _ _ (by simp only[go_sem,hb])) (hk:=?_))
 rintro res h2 n2 ⟨⟨f,rfl⟩,rfl,a1⟩
 try dsimp only at a1
 refine av Jl ?_
 refine aa Jl ?_
 refine cd (fun c1=>?_) (fun c1=>?_)
 .
  have hk:0<(aH 1 st).1.length:=by omega
  have ff:=qB (oM hk) @AA ff;refine aa Jl ?_;refine aI ?_;exact aU (upd h rb (some ⟨285,[[.list false (((aW st).2).1.map bD),.b ((aW st).2).2]]⟩)) (hr:=oS (k:=by exact⟨by unfold aW;rw[X6 (by omega)],om⟩))
 refine dw_skip ?_
 refine aa Jl ?_
 refine aI ?_
 exact aU (upd h rb (some ⟨285,[[.list false (((aW st).2).1.map bD),.b ((aW st).2).2]]⟩)) (hr:=oS (k:=by exact⟨by unfold aW;rw[XZ (by omega)];rfl,om⟩))
theorem ES (st:RS) (rb:Nat) (h:H) (n:Nat) (hb:h rb=some ⟨285,[[.list false ((st).1.map bD),.b (st).2]]⟩):RCt Tryz.prog 237 [.mptr rb 0 0] h n (fun d h' n'=>d = .v (.string (bs (aP st).1))/\h'=upd h rb (some ⟨285,[[.list false (((aP st).2).1.map bD),.b ((aP st).2).2]]⟩)/\n<=n'):=by
 refine oP Tryz.func237 fun hnone ff=>?_
 unfold Tryz.f237
 have ff:=qA @hb ff
 refine aa Jl ?_
 refine ae (uA ?_)
 refine iZ (C:=Jl) 2 (R:=_) om (bC rfl) rfl rfl (by simp only[X8,X7,X4,Yf,S.put,Yr,go_sem,ff];exact rfl) ?_ ?_ ev (by simp only[go_sem,ff]) ev (by exact Lr st rb _ _ (by simp only[go_sem,hb])) ?_
 .
  try simp only[go_sem,ff]
  all_goals (first|done|(repeat' (with_reducible apply And.intro))<;>first|omega|(with_reducible assumption)|(intros;omega)|(intros;simp only[XX,X9,Yd,XW,Yj,Ye,Yw] at *;omega)|(simp_all;done)|(simp_all;omega))
 .
  try simp only[go_sem,ff]
  all_goals (first|done|rfl|decide|simp)
 rintro res h2 n2 ⟨rfl,rfl,a1⟩
 try dsimp only at a1
 refine iZ (C:=Jl) 3 (R:=_) om (bC rfl) rfl rfl (by simp only[X8,X7,X4,Yf,S.put,Yr,go_sem,ff];exact rfl) ?_ ?_ ev (by simp only[go_sem,ff]) ev (by exact A7 ((aW st).1) om (aW st).2 rb _ _ (by simp only[go_sem])) ?_
 .
  try simp only[go_sem,ff]
  all_goals (first|done|(repeat' (with_reducible apply And.intro))<;>first|omega|(with_reducible assumption)|(intros;omega)|(intros;simp only[XX,X9,Yd,XW,Yj,Ye,Yw] at *;omega)|(simp_all;done)|(simp_all;omega))
 .
  try simp only[go_sem,ff]
  all_goals (first|done|rfl|decide|simp)
 rintro res h3 n3 ⟨⟨f,rfl⟩,rfl,a2⟩
 try dsimp only at a2
 refine tJ (C:=Jl) (by first|decide|simp) (by simp only[X8,X7,X4,Yf,S.put,Yr,go_sem,ff];exact rfl) ?_ rfl ?_
 .
  try simp only[go_sem,ff]
  all_goals (first|done|(repeat' (with_reducible apply And.intro))<;>first|omega|(with_reducible assumption)|(intros;omega)|(intros;simp only[XX,X9,Yd,XW,Yj,Ye,Yw] at *;omega)|(simp_all;done)|(simp_all;omega))
 try simp only[aG]
 refine aI ?_
 exact aU (upd h rb (some ⟨285,[[.list false (((aP st).2).1.map bD),.b ((aP st).2).2]]⟩)) (hr:=oS (k:=by exact⟨by simp[aP],om⟩)) (hh:=by intro q;left;by_cases e1:q=rb<;>simp[upd,e1,aP])
theorem yU (st:RS) (rb:Nat) (h:H) (n:Nat) (hb:h rb=some ⟨285,[[.list false ((st).1.map bD),.b (st).2]]⟩):RCt Tryz.prog 238 [.mptr rb 0 0] h n (fun d h' n'=>d = .i (aA st).1/\h'=upd h rb (some ⟨285,[[.list false (((aA st).2).1.map bD),.b ((aA st).2).2]]⟩)/\n<=n'):=by
 refine oP Tryz.func238 fun hnone ff=>?_
 unfold Tryz.f238
 have ff:=qA @hb ff
 refine oC Jl ?_
 refine ae ?_
 refine ae (aD Jl 1 (hct:=by exact A7 8 om st rb _ _ (by simp only[go_sem,hb])) (hk:=?_))
 rintro res h2 n2 ⟨⟨f,rfl⟩,rfl,a1⟩
 try dsimp only at a1
 refine av Jl ?_
 refine ah ?_
 refine dD (α:=(Nat)×(Nat)×Nat) [7,8] (fun ⟨k,u,nx⟩=>(k<=(aH 8 st).1.length)/\(u<18446744073709551616)/\(n<=nx)/\(((aH 8 st).1.drop k).foldl dz u=cB (aH 8 st).1)/\True) (fun ⟨k,u,nx⟩=>(aH 8 st).1.length-k) (fun ⟨k,u,nx⟩=>[(3,.v (.int .u64 u)),(9,.i k)]) (fun ⟨k,u,nx⟩=>upd h rb (some ⟨285,[[.list false (((aH 8 st).2).1.map bD),.b ((aH 8 st).2).2]]⟩)) (fun ⟨k,u,nx⟩=>nx) (0,0,_) (hA:=⟨iv,(by first|(omega)|(dsimp only;omega)),iv,rfl,trivial⟩) (round:=?_)
 rintro⟨k,u,nx⟩ ⟨hk,hu,hn,hv, -⟩
 simp only[X0,X3]
 refine aa Jl ?_
 refine ae ?_
 refine cd (fun c1=>?_) (fun c1=>?_) (hp:=rfl)
 .
  have hk2:k<(aH 8 st).1.length:=by simpa using c1
  have h8:(aH 8 st).1.length<=8:=take_len 8 st;have hor:=Rn hu ((aH 8 st).1.getD k 0);have ff:=qB (oM hk2) @hor ff;refine dw_skip ?_;refine ae ?_;refine ah ?_;refine aa Jl ?_;refine ai Jl ?_;refine ai Jl ?_
  show ∃ _,_
  exact au (k+1,dz u ((aH 8 st).1.getD k 0),_) (h1:=⟨iv,(by first|(exact xI _ _)|(dsimp only;exact xI _ _)),iv,(by first|(rw[<- hv,KL hk2];rfl)|(dsimp only;rw[<- hv,KL hk2];rfl)),trivial⟩) (h3:=by (try simp only[go_sem,ff]);all_goals (first|done|(simp;done)|(refine⟨.inl ?_,.inl (by simp)⟩;exact congrArg (fun x=>D.v (Value.int IntKind.u64 x)) hor)|(simp;omega))) (h4:=by (try simp only[go_sem,ff]);all_goals (first|done|(simp;done)|(refine⟨.inl ?_,.inl (by simp)⟩;exact congrArg (fun x=>D.v (Value.int IntKind.u64 x)) hor)|(simp;omega)))
 refine aB ?_
 refine aa Jl ?_
 refine aI ?_
 exact aU (upd h rb (some ⟨285,[[.list false (((aH 8 st).2).1.map bD),.b ((aH 8 st).2).2]]⟩)) (hr:=oS (k:=by rw[YU (by omega)] at hv;exact⟨by rw[show u=cB (aH 8 st).1 from hv];rfl,rfl,om⟩))
end Go.Proofs.YtjngdcldglkolaaGreatDoor
namespace Go.Proofs.YtjngdcldglkolaaGreatDoor
open Go.DL Go.Str Go.Rec Go.Cmp
set_option maxRecDepth 10000
variable [Glob Tryz.prog] [Told]
theorem PE (x:Str):PureCt Tryz.prog 222 [.list false (x.map bD)] (.tuple [.agg (readF x).1.d,.i (readF x).2]):=by
 refine oO Tryz.func222 fun ff=>?_
 unfold Tryz.f222
 refine oD Jl ?_
 refine ae (aD Jl 1 (hct:=by exact ES (x,false) 4 _ _ rfl) (hk:=?_))
 rintro res h2 n2 ⟨rfl,rfl,a1⟩
 try dsimp only at a1
 have p4:4<n2:=by omega
 have p0:0<n2:=by omega
 have ff:=qB @p4 @p0 ff
 refine av Jl ?_
 obtain⟨q,hq⟩:∃ q,q=n2+3:=⟨_,rfl⟩
 rw[<- hq]
 refine nu q 3 63 110 ev (by rfl) (by simp only[go_sem,ff]) ?_
 simp only[YL,YD]
 obtain⟨r0,hr0⟩:∃ r0,r0=(n2+5):=⟨_,rfl⟩
 rw[<- hr0]
 have z4_q:(4=q)=False:=Y7 om
 have yq_4:(q=4)=False:=Y7 om
 have ff:=qG @z4_q @yq_4 (nH 4 r0) (nH q r0) (nH 0 q) (nH 0 r0) ff
 refine lc [2,4,5,6,7] [(0,⟨63,[[.v (.string (bs [])),.i 0,.i 0,.list true []]]⟩),(4,⟨285,[[.list false (((aP (x,false)).2).1.map bD),.b ((aP (x,false)).2).2]]⟩),(q,⟨63,[[.v (.string (bs ((aP (x,false)).1))),.i (0),.i (0),.mrow r0 0 0]]⟩),(r0,⟨110,[]⟩)] (by simp only[Yb,Yt,go_sem,ff];exact rfl) (by first|(simp only[go_sem,ff];done)|(simp[go_sem,ff];done)) ?_
 refine ae (aD Jl 1 (hct:=by exact yU (aP (x,false)).2 4 _ _ (by simp only[go_sem])) (hk:=?_))
 rintro res h2 n2 ⟨rfl,rfl,a2⟩
 try dsimp only at a2
 have p4:4<n2:=by omega
 have p0:0<n2:=by omega
 have pq:q<n2:=by omega
 have pr:r0<n2:=by omega
 have ff:=qB @pq @pr ff
 refine av Jl ?_
 refine ae (aD Jl 1 (hct:=by exact yU (aA (aP (x,false)).2).2 4 _ _ (by simp only[go_sem,z4_q,yq_4] )) (hk:=?_))
 rintro res h2 n2 ⟨rfl,rfl,a3⟩
 try dsimp only at a3
 have p4:4<n2:=by omega
 have p0:0<n2:=by omega
 have pq:q<n2:=by omega
 have pr:r0<n2:=by omega
 refine av Jl ?_
 refine ae ?_
 refine ae (aD Jl 0 (hct:=by exact Lr (aA (aA (aP (x,false)).2).2).2 4 _ _ (by simp only[go_sem,z4_q,yq_4])) (hk:=?_))
 rintro res h2 n2 ⟨rfl,rfl,a4⟩
 try dsimp only at a4
 have p4:4<n2:=by omega
 have p0:0<n2:=by omega
 have pq:q<n2:=by omega
 have pr:r0<n2:=by omega
 refine av Jl ?_
 refine ah ?_
 refine lp (α:=(Nat)×(List Dat)×(Nat)×(RS)×Nat) [2,4,5,6,7,22] (fun ⟨k,out,r,st,nx⟩=>(k<=(aW (aA (aA (aP (x,false)).2).2).2).1)/\(r<nx)/\(r≠0/\r≠4/\r≠q)/\(q<nx)/\(out.length<=k)/\(dJ ((aW (aA (aA (aP (x,false)).2).2).2).1-k) out st=dJ (aW (aA (aA (aP (x,false)).2).2).2).1 [] (aW (aA (aA (aP (x,false)).2).2).2).2)/\True) (fun ⟨k,out,r,st,nx⟩=>(aW (aA (aA (aP (x,false)).2).2).2).1-k) (fun ⟨k,out,r,st,nx⟩=>[(23,.i k)]) (fun ⟨k,out,r,st,nx⟩=>[(0,⟨63,[[.v (.string (bs [])),.i 0,.i 0,.list true []]]⟩),(4,⟨285,[[.list false ((st).1.map bD),.b (st).2]]⟩),(q,⟨63,[[.v (.string (bs ((aP (x,false)).1))),.i ((aA (aP (x,false)).2).1),.i ((aA (aA (aP (x,false)).2).2).1),.mrow r 0 out.length]]⟩),(r,⟨110,out.map Dat.d⟩)]) (fun ⟨k,out,r,st,nx⟩=>nx) (0,[],r0,(aW (aA (aA (aP (x,false)).2).2).2).2,_) (hA:=⟨iv,iv,iv,iv,(by first|(simp)|(dsimp only;simp)),(by first|(simp)|(dsimp only;simp)),trivial⟩) (round:=?_)
 rintro⟨k,out,r,st,nx⟩ ⟨hk,hr,hrn,hqn,ho,hv, -⟩
 simp only[X0,X3]
 have p4:4<nx:=by omega
 have p0:0<nx:=by omega
 have ff:=qH @hr @hqn @p4 @p0 (nH 0 r) (nH 4 r) (nH q r) ff
 refine aa Jl ?_
 refine ae ?_
 refine cd (fun c1=>?_) (fun c1=>?_) (hp:=rfl) (hq:=rfl)
 .
  have hk2:k<(aW (aA (aA (aP (x,false)).2).2).2).1:=by simpa using c1
  have hc8:=count_le (aA (aA (aP (x,false)).2).2).2;refine dw_skip ?_;refine ae ?_;refine ah ?_;refine aa Jl ?_;refine ae (aD Jl 1 (hct:=by exact ES st 4 _ _ (by simp only[go_sem,p4])) (hk:=?_))
  rintro res h2 n2 ⟨rfl,rfl,a5⟩
  try dsimp only at a5
  refine av Jl ?_;refine ae (aD Jl 1 (hct:=by exact yU (aP st).2 4 _ _ (by simp only[go_sem,p4])) (hk:=?_))
  rintro res h2 n2 ⟨rfl,rfl,a6⟩
  try dsimp only at a6
  refine av Jl ?_;refine ae (aD Jl 1 (hct:=by exact yU (aA (aP st).2).2 4 _ _ (by simp only[go_sem,p4])) (hk:=?_))
  rintro res h2 n2 ⟨rfl,rfl,a7⟩
  try dsimp only at a7
  have ww:nx+1<n2:=by omega
  have w4:4<n2:=by omega
  have w0:0<n2:=by omega
  have wq:q<n2:=by omega
  have wr:r<n2:=by omega
  have ff:=qF @ww @w4 @w0 @wq @wr ff;refine av Jl ?_;refine oK Jl (fun c2=>?_) (fun c2=>?_) (hp:=rfl) (hq:=rfl)
  .
   have hv2:=hv;rw[VU hk2 c2] at hv2;refine aB ?_;refine ae ?_;refine kZ q 3 r (rows:=out.map Dat.d) (off:=0) (len:=out.length) ev (by rfl) ev om (by simp) uj ?_
   simp only[X7,lF,YL,YD];refine aa Jl ?_ (hok:=oH (tK ⟨_,_,_,out⟩));refine cd (fun c9=>?_) (fun c9=>?_) (hp:=rfl) (hq:=rfl)
   .
    refine aa Jl ?_;exact fo 2 (k:=by rw[Gn hv2 c9];try rfl)
   refine dw_skip ?_;refine aa Jl ?_;exact fo 2 (k:=by rw[Gl hv2 c9];try rfl)
  refine ai Jl ?_;refine ai Jl ?_
  show ∃ _,_
  exact au (k+1,out++[(bW st).1],(n2+10),(bW st).2,_) (h1:=⟨iv,iv,iv,iv,(by first|(simp;omega)|(dsimp only;simp;omega)),(by first|(rw[<- hv,Lb hk2 c2])|(dsimp only;rw[<- hv,Lb hk2 c2])),trivial⟩) (h3:=by (try simp only[go_sem,ff]);all_goals (first|done|(simp;done)|(simp[Dat.d,bW];done)|((repeat' (with_reducible apply And.intro))<;>first|rfl|(left;simp;done)|(simp[Dat.d,bW];done)))) (h4:=by (try simp only[go_sem,ff]);all_goals (first|done|(simp;done)|(simp[Dat.d,bW];done)|((repeat' (with_reducible apply And.intro))<;>first|rfl|(left;simp;done)|(simp[Dat.d,bW];done)))) (h5:=by (try simp only[go_sem,ff]);all_goals (first|done|(simp;done)|(simp[Dat.d,bW];done)|((repeat' (with_reducible apply And.intro))<;>first|rfl|(left;simp;done)|(simp[Dat.d,bW];done))))
 have hk2 : ¬ k<(aW (aA (aA (aP (x,false)).2).2).2).1:=by simpa using c1
 have hv2:=hv
 rw[VV hk2] at hv2
 refine aB ?_
 refine ae ?_
 refine kZ q 3 r (rows:=out.map Dat.d) (off:=0) (len:=out.length) ev (by rfl) ev om (by simp) uj ?_
 simp only[X7,lF,YL,YD]
 refine aa Jl ?_ (hok:=oH (tK ⟨_,_,_,out⟩))
 refine cd (fun c9=>?_) (fun c9=>?_) (hp:=rfl) (hq:=rfl)
 .
  refine aa Jl ?_;exact fo 2 (k:=by rw[Gn hv2 c9];try rfl)
 refine dw_skip ?_
 refine aa Jl ?_
 exact fo 2 (k:=by rw[Gl hv2 c9];try rfl)
end Go.Proofs.YtjngdcldglkolaaGreatDoor
namespace Go.Proofs.YtjngdcldglkolaaGreatDoor
open Go.DL Go.Str Go.Rec Go.Cmp Go.RowKit
set_option maxRecDepth 10000
variable [Glob Tryz.prog] [Told]
theorem PP (b:Str) (m:Int) (r:Nat) (h:H) (n:Nat) (hr:h r=some ⟨5,b.map bD⟩) (hl:b.length<=1000000):RCt Tryz.prog 191 [.mrow r 0 b.length,.i m] h n (fun d h' n'=>∃ r',d = .mrow r' 0 (b++ak m).length/\h'=upd (upd h r none) r' (some ⟨5,(b++ak m).map bD⟩)/\n<=r'/\r'<n'):=by
 refine oP Tryz.func191 fun hnone ff=>?_
 unfold Tryz.f191
 have hrn:r<n:=by rcases YV r n with q|q;exact q;rw[hnone r q] at hr;cases hr
 have ff:=qB @hr @hrn ff
 refine aa Jl ?_
 refine ae ?_
 refine aa Jl ?_
 refine ah ?_
 refine dD (α:=(Nat)×(Nat)×Nat) [1] (fun ⟨k,r1,nx⟩=>(k<=8)/\(r1=r/\k=0\/n<=r1)/\(r1<nx)/\(n<=nx)/\True) (fun ⟨k,r1,nx⟩=>9-k) (fun ⟨k,r1,nx⟩=>[(0,.mrow r1 0 (b.length+k)),(5,.i (56-8*k))]) (fun ⟨k,r1,nx⟩=>upd (upd h r none) r1 (some ⟨5,(b++(ak m).take k).map bD⟩)) (fun ⟨k,r1,nx⟩=>nx) (0,r,_) (hA:=⟨iv,iv,iv,iv,trivial⟩) (round:=?_) (hhh:=by simp only[Yf,YC];exact J5 hr)
 rintro⟨k,r1,nx⟩ ⟨hk,h1,hx,hn, -⟩
 simp only[X0,X3]
 have ff:=qA @hx ff
 refine oL Jl (fun c1=>?_) (fun c1=>?_) (hp:=rfl) (hq:=rfl)
 .
  have hk2:k<8:=by have:(0:Int)<=56-8*(k:Int):=(by simpa using c1);omega
  have e1:(IntKind.u64.wrap (56-8*(k:Int))).toNat=56-8*k:=by rw[IntKind.wrap_u64];omega
  have e2:=Ih m (56-8*k) (by omega)
  have ff:=qB @e1 @e2 ff;refine ae ?_;refine ah ?_;refine ai Jl ?_ (hok:=by (try simp only[go_sem,ff,aX,Yu,XV]);all_goals (exact ok0))
  refine ai Jl ?_
  show ∃ _,_
  refine au (k+1,(nx+10),_) (h1:=⟨iv,iv,iv,iv,trivial⟩) (h5:=?_);rw[take8 m hk2,<- Yz,YM,YM];exact Da (h1.imp (fun q=>q.1) fun q=>hnone _ q)
 have hk3:k=8:=by have : ¬ (0:Int)<=56-8*(k:Int):=(by simpa using c1);omega
 subst hk3
 refine aB ?_
 refine aa Jl ?_
 refine aI ?_
 exact aU (upd (upd h r none) r1 (some ⟨5,(b++ak m).map bD⟩)) (hr:=oS (k:=by exact⟨r1,by simp[aX],rfl,om,om⟩))
end Go.Proofs.YtjngdcldglkolaaGreatDoor
namespace Go.Proofs.YtjngdcldglkolaaGreatDoor
open Go.DL Go.Str Go.Rec Go.Cmp Go.RowKit
set_option maxRecDepth 10000
variable [Glob Tryz.prog] [Told]
theorem SQ:labelOk []=false:=by
 unfold labelOk
 simp
theorem RX:nameOk []=false:=by
 rw[Ch,XZ (by simp),XZ (by simp),nL]
 simp[split,iU,SQ]
theorem yl (b:Str) (m:Int) (L r:Nat) (h:H) (n:Nat) (hL:L=b.length) (hr:h r=some ⟨5,b.map bD⟩) (hl:b.length<=1000000):RCt Tryz.prog 191 [.mrow r 0 L,.i m] h n (fun d h' n'=>∃ r',d = .mrow r' 0 (b++ak m).length/\h'=upd (upd h r none) r' (some ⟨5,(b++ak m).map bD⟩)/\n<=r'/\r'<n'):=by
 subst hL
 exact PP b m r h n hr hl
theorem Sk {t:Str}:[.v (.int .u8 ((bM t.length).toNat:Int))]::List.map bD t=List.map bD (ay t):=rfl
theorem FP (s:RSet) (hs:pE s):PureCt Tryz.prog 142 [.agg s.d] (.list false ((setB s).map bD)):=by
 refine oO Tryz.func142 fun ff=>?_
 unfold Tryz.f142
 have gW:=hs.len
 have hn60:=dO hs.name
 have hne:s.name≠[]:=by intro e;have h:=hs.name;rw[e,RX] at h;cases h
 refine oC Jl ?_
 refine aa Jl ?_ (hok:=by (try simp only[go_sem,ff]);all_goals (exact⟨by omega,fun h=>hne (List.map_eq_nil_iff.1 h)⟩))
 try simp only[Sk]
 refine lc [1,3] [(0,⟨63,[s.d]⟩),(11,⟨5,(ay s.name).map bD⟩)] (by simp only[Yb,Yt,go_sem,ff];exact rfl) (by first|(simp only[go_sem,ff];done)|(simp[go_sem,ff];done)) ?_
 refine dr1q Jl 3 6 [(5,18)] (hct:=by exact yl (ay s.name) s.ty _ 11 _ _ (by simp only[XV,bE,aX,YH,YF];first|done|omega) (by simp only[go_sem,ff]) (by simp only[XV,bE,aX];omega)) (hkeep:=?_) (hk:=?_)
 .
  rintro res h2 n2 ⟨r1,rfl,rfl,a1,b1⟩ q hq r hrr
  try dsimp only at a1 b1
  simp only[Yq] at hq;subst hq;simp only[go_sem,ff,sd,named,YE] at hrr ⊢;subst hrr;simp only[upd];(repeat rw[XZ (by omega)])
 rintro res h2 n2 ⟨r1,rfl,rfl,a1,b1⟩
 try dsimp only at a1 b1
 have ff:=qA (nH 0 r1) ff
 refine iZ (C:=Jl) 6 (R:=_) om (bC rfl) rfl rfl (by simp only[X8,X7,X4,Yf,S.put,Yr,go_sem,ff];first|done|exact rfl) ?_ ?_ ev (by simp only[go_sem,ff]) ev (by exact yl (ay s.name++ak s.ty) s.life _ r1 _ _ (by simp only[XV,bE,aX,YH,YF];first|done|omega) (by simp only[go_sem,ff]) (by simp only[XV,bE,aX];omega)) ?_
 .
  try simp only[go_sem,ff]
  all_goals exact ok0
 .
  try simp only[go_sem,ff]
  all_goals (first|done|rfl|decide|simp)
 rintro res h3 n3 ⟨r2,rfl,rfl,a2,b2⟩
 try dsimp only at a2 b2
 have ff:=qD (nH 0 r2) (nH r1 r2) b2 ff
 refine aO Jl ?_
 try simp only[aG]
 refine lc [1,3] [(0,⟨63,[s.d]⟩),(r2,⟨5,(ay s.name++ak s.ty++ak s.life).map bD⟩)] (by simp only[Yb,Yt,go_sem,ff];exact rfl) (by first|(simp only[go_sem,ff];done)|(simp[go_sem,ff];done)) ?_
 refine aa Jl ?_ (hok:=by (try simp only[go_sem,ff,bE,aX,XV]);all_goals (exact ok0))
 refine ae ?_
 refine aa Jl ?_
 refine ah ?_
 refine lp (α:=(Nat)×(Str)×(Nat)×Nat) [1] (fun ⟨k,out,r,nx⟩=>(k<=s.data.length)/\(r<nx)/\(0<r)/\(out.length<=1000+k*300)/\(out++(s.data.drop k).flatMap jq=setB s)/\True) (fun ⟨k,out,r,nx⟩=>s.data.length-k) (fun ⟨k,out,r,nx⟩=>[(3,.mrow r 0 out.length),(4,.i k)]) (fun ⟨k,out,r,nx⟩=>[(0,⟨63,[s.d]⟩),(r,⟨5,(out).map bD⟩)]) (fun ⟨k,out,r,nx⟩=>nx) (0,ay s.name++ak s.ty++ak s.life++[bM s.data.length],(n3+14),_) (hA:=⟨iv,iv,(by first|(omega)|(dsimp only;omega)),(by first|(simp[ay,aX];omega)|(dsimp only;simp[ay,aX];omega)),(by first|(simp[setB])|(dsimp only;simp[setB])),trivial⟩) (round:=?_)
 rintro⟨k,out,r,nx⟩ ⟨hk,hr,hr0,ho,hv, -⟩
 simp only[X0,X3]
 have n0:0<nx:=by omega
 have ff:=qD @hr @n0 (nH 0 r) ff
 refine oL Jl (fun c1=>?_) (fun c1=>?_)
 .
  have hk2:k<s.data.length:=by omega
  have hd:=(Dw hs.ty (hs.dat _ (Yv hk2))).2.1;rw[<- getElem!_pos s.data k hk2] at hd;have ff:=qA (mY hk2) ff;refine ae ?_;refine ah ?_;refine aa Jl ?_ (hok:=by (try simp only[go_sem,ff,bE,aX,XV]);all_goals (exact ok0))
  refine aa Jl ?_ (hok:=by (try simp only[go_sem,ff,bE,aX,XV]);all_goals (exact ok0))
  obtain⟨q0,hq0⟩:∃ q,q=(nx+24):=⟨_,rfl⟩;simp only[<- hq0,F3];have ff:=qA (nH 0 q0) ff;refine lc [1,3,4] [(0,⟨63,[s.d]⟩),(q0,⟨5,(out++ay s.data[k]!.t).map bD⟩)] (by simp only[Yb,Yt,go_sem,ff];exact rfl) (by first|(simp only[go_sem,ff];done)|(simp[go_sem,ff];done)) ?_
  refine dr1 Jl 7 14 [(9,62),(11,63),(11,64),(13,66)] (hct:=by exact yl (out++ay s.data[k]!.t) s.data[k]!.n _ q0 _ _ (by simp only[XV,bE,aX,YH,YF];first|done|omega) (by simp only[go_sem,ff]) (by simp only[XV,bE,aX];omega)) (hkeep:=?_) (hk:=?_)
  .
   rintro res h2 n2 ⟨r1,rfl,rfl,a1,b1⟩ q hq r hrr
   try dsimp only at a1 b1
   simp only[YK,ZF,or_false] at hq;rcases hq with rfl|rfl|rfl|rfl
   .
    simp only[go_sem,ff,sd,named,YE] at hrr ⊢;subst hrr;simp only[upd];(repeat rw[XZ (by omega)])
   all_goals (simp[go_sem,ff,sd,named] at hrr)
  rintro res h2 n2 ⟨r1,rfl,rfl,a1,b1⟩
  try dsimp only at a1 b1
  have ff:=qA (nH 0 r1) ff;refine iZ (C:=Jl) 14 (R:=_) om (bC rfl) rfl rfl (by simp only[X8,X7,X4,Yf,S.put,Yr,go_sem,ff];first|done|exact rfl) ?_ ?_ ev (by simp only[go_sem,ff]) ev (by exact yl (out++ay s.data[k]!.t++ak s.data[k]!.n) s.data[k]!.m _ r1 _ _ (by simp only[XV,bE,aX,YH,YF];first|done|omega) (by simp only[go_sem,ff]) (by simp only[XV,bE,aX];omega)) ?_
  .
   try simp only[go_sem,ff]
   all_goals exact ok0
  .
   try simp only[go_sem,ff]
   all_goals (first|done|rfl|decide|simp)
  rintro res h3 n3 ⟨r2,rfl,rfl,a2,b2⟩
  try dsimp only at a2 b2
  have ff:=qD (nH 0 r2) (nH r1 r2) b2 ff;refine aO Jl ?_
  try simp only[aG]
  refine ai Jl ?_
  show ∃ _,_
  exact au (k+1,out++ay s.data[k]!.t++ak s.data[k]!.n++ak s.data[k]!.m,r2,_) (h1:=⟨iv,iv,(by first|(omega)|(dsimp only;omega)),(by (try dsimp only);simp only[List.length_append,bE,aX];omega),(by (try dsimp only);rw[<- hv,KJ hk2];simp[jq]),trivial⟩)
 refine aB ?_
 refine aa Jl ?_
 exact fo 1 (k:=by rw[YU (by omega)] at hv;simp at hv;simp[hv])
end Go.Proofs.YtjngdcldglkolaaGreatDoor
namespace Go.Proofs.YtjngdcldglkolaaGreatDoor
open Go.DL Go.Str Go.Rec Go.Cmp Go.RowKit
set_option maxRecDepth 10000
variable [Glob Tryz.prog] [Told]
theorem kK {h:H}{r:Nat}{a b:Option Blk}:upd (upd h r a) r b=upd h r b:=by
 funext q
 unfold upd
 split<;>rfl
theorem P9 {x:Str}{z:RSet}{st:RT}(hset:jc x (0,false)=(z,st)) (c:(st.2=true \/ ¬ (st.1:Int)=(x.length:Int))\/setOk z=false):readF x=(yY,10):=by
 rw[<- Gp]
 unfold yz
 rw[hset]
 refine X6 ?_
 simp only[Yd,XX,Ye]
 rcases c with (c|c)|c
 .
  exact .inl (.inl c)
 .
  exact .inl (.inr om)
 exact .inr c
theorem P8 {x:Str}{z:RSet}{st:RT}(hset:jc x (0,false)=(z,st)) (c:(st.2=false/\(st.1:Int)=(x.length:Int))/\setOk z=true):readF x=(z,0):=by
 rw[<- Gp]
 unfold yz
 rw[hset]
 refine XZ ?_
 simp only[Yd,XX,Ye]
 rintro ((q|q)|q)
 .
  rw[c.1.1] at q;cases q
 .
  omega
 rw[c.2] at q;cases q
theorem WE (c:UInt8):Go.DL.byteOf [.v (.int .u8 (c.toNat:Int))]=c:=by simp[Go.DL.byteOf]
theorem MP (c:UInt8):IntKind.u64.wrap (c.toNat:Int)=(c.toNat:Int):=by
 have:=c.toNat_lt
 rw[IntKind.wrap_u64];omega
theorem NA {u:Nat}(c:UInt8):IntKind.u64.wrap (IntKind.u64.wrap ((u:Int)*256)+(c.toNat:Int))=(dz u c:Int):=by
 unfold dz
 simp only[IntKind.wrap_u64]
 have:=c.toNat_lt
 omega
theorem Qb {b:Str}{out:List Dat}{st:RT}{N k:Nat}(h:k<N) (hs:st.2=false):jd b (N-k) out st=jd b (N-(k+1)) (out++[(gZ b st).1]) (gZ b st).2:=by
 obtain⟨m,hm⟩:∃ m,N-k=m+1:=⟨N-k-1,om⟩
 rw[hm,show N-(k+1)=m from by omega,jd,XZ (by rw[hs];simp)]
theorem Qa {b:Str}{out:List Dat}{st:RT}{N k:Nat}(h : ¬ (k<N/\st.2=false)):jd b (N-k) out st=(out,st):=by
 by_cases hk:k<N
 .
  exact Bz _ _ _ (by cases h2:st.2;exact absurd ⟨hk,h2⟩ h;rfl)
 rw[show N-k=0 from by omega];rfl
theorem Po {b s:Str}{st:RT}{N k:Nat}(h:k<N) (hs:st.2=false):jI b (N-k) s st=jI b (N-(k+1)) (s++[(bz b st).1]) (bz b st).2:=by
 obtain⟨m,hm⟩:∃ m,N-k=m+1:=⟨N-k-1,om⟩
 rw[hm,show N-(k+1)=m from by omega,jI,XZ (by rw[hs];simp)]
theorem Pn {b s:Str}{st:RT}{N k:Nat}(h : ¬ (k<N/\st.2=false)):jI b (N-k) s st=(s,st):=by
 by_cases hk:k<N
 .
  exact AC _ _ _ (by cases h2:st.2;exact absurd ⟨hk,h2⟩ h;rfl)
 rw[show N-k=0 from by omega];rfl
theorem FR {b:Str}{u:Nat}{st:RT}{k:Nat}(h:k<8):jJ b (8-k) u st=jJ b (8-(k+1)) (dz u (bz b st).1) (bz b st).2:=by
 obtain⟨m,hm⟩:∃ m,8-k=m+1:=⟨8-k-1,om⟩
 rw[hm,show 8-(k+1)=m from by omega,jJ]
theorem ym (x:Str) (st:RT) (rb:Nat) (h:H) (n:Nat) (hx:x.length<=1000000) (hb:h rb=some ⟨258,[[.list false (x.map bD),.i (st).1,.b (st).2]]⟩):RCt Tryz.prog 218 [.mptr rb 0 0] h n (fun d h' n'=>d = .v (.int .u8 ((bz x st).1.toNat:Int))/\h'=upd h rb (some ⟨258,[[.list false (x.map bD),.i ((bz x st).2).1,.b ((bz x st).2).2]]⟩)/\n<=n'):=by
 refine oP Tryz.func218 fun hnone ff=>?_
 unfold Tryz.f218
 have ff:=qA @hb ff
 refine aa Jl ?_
 refine oK Jl (fun c1=>?_) (fun c1=>?_)
 .
  have e:=Ce (b:=x) (t:=st) (by omega)
  refine oC Jl ?_;refine aI ?_;exact aU (upd h rb (some ⟨258,[[.list false (x.map bD),.i ((st.1,true)).1,.b ((st.1,true)).2]]⟩)) (hr:=oS (k:=by rw[e];exact⟨rfl,rfl,om⟩)) (hh:=by intro q;left;by_cases e1:q=rb<;>simp[upd,e1])
 have hk:st.1<x.length:=by omega
 have e:=Cf (b:=x) (t:=st) hk
 have e1:((st.1:Int)+1-1).toNat=st.1:=by omega
 have ff:=qB (oM hk) @e1 ff
 refine oC Jl ?_
 refine aI ?_
 exact aU (upd h rb (some ⟨258,[[.list false (x.map bD),.i ((st.1+1,st.2)).1,.b ((st.1+1,st.2)).2]]⟩)) (hr:=oS (k:=by rw[e];exact⟨rfl,rfl,om⟩)) (hh:=by intro q;left;by_cases e1:q=rb<;>simp[upd,e1])
theorem FQ (x:Str) (st:RT) (rb:Nat) (h:H) (n:Nat) (hx:x.length<=1000000) (hb:h rb=some ⟨258,[[.list false (x.map bD),.i (st).1,.b (st).2]]⟩):RCt Tryz.prog 216 [.mptr rb 0 0] h n (fun d h' n'=>d = .v (.string (bs (bL x st).1))/\h'=upd h rb (some ⟨258,[[.list false (x.map bD),.i ((bL x st).2).1,.b ((bL x st).2).2]]⟩)/\n<=n'):=by
 refine oP Tryz.func216 fun hnone ff=>?_
 unfold Tryz.f216
 have ff:=qA @hb ff
 refine aa Jl ?_
 have ff:=qA @AA ff
 refine ae (aD Jl 1 (hct:=by exact ym x st rb _ _ hx (by simp only[go_sem,hb])) (hk:=?_))
 rintro res h2 n2 ⟨rfl,rfl,a1⟩
 try dsimp only at a1
 refine av Jl ?_
 refine aa Jl ?_
 refine ae ?_
 refine aa Jl ?_
 refine ah ?_
 refine dD (α:=(Nat)×(Str)×(RT)×Nat) [0,3] (fun ⟨j,s,s2,nx⟩=>(j<=(bz x st).1.toNat)/\(n<=nx)/\(s.length<=j)/\(bL x st=jI x ((bz x st).1.toNat-j) s s2)/\True) (fun ⟨j,s,s2,nx⟩=>(bz x st).1.toNat-j) (fun ⟨j,s,s2,nx⟩=>[(4,.v (.string (bs s))),(5,.i j)]) (fun ⟨j,s,s2,nx⟩=>upd h rb (some ⟨258,[[.list false (x.map bD),.i (s2).1,.b (s2).2]]⟩)) (fun ⟨j,s,s2,nx⟩=>nx) (0,[],(bz x st).2,_) (hA:=⟨iv,iv,(by first|(simp)|(dsimp only;simp)),rfl,trivial⟩) (round:=?_)
 rintro⟨j,s,s2,nx⟩ ⟨hj,hn,hs,hv, -⟩
 simp only[X0,X3]
 have hb8:=(bz x st).1.toNat_lt
 refine oL Jl (fun c1=>?_) (fun c1=>?_)
 .
  have hk2:j<(bz x st).1.toNat/\s2.2=false:=by first|exact⟨om,c1.2⟩|(simp_all;done)
  refine ae ?_;refine ah ?_;refine aD Jl 2 (hct:=by exact ym x s2 rb _ _ hx (by simp only[go_sem])) (hk:=?_)
  rintro res h2 n2 ⟨rfl,rfl,a2⟩
  try dsimp only at a2
  have e6:=WE (bz x s2).1;have ff:=qA @e6 ff;refine av Jl ?_ (hok:=by (try simp only[go_sem,ff]);all_goals (exact⟨by first|rfl|simp[isByte],by omega⟩))
  refine ai Jl ?_
  show ∃ _,_
  refine au (j+1,s++[(bz x s2).1],(bz x s2).2,_) (h1:=⟨iv,iv,(by first|(simp;omega)|(dsimp only;simp;omega)),(by (try dsimp only);rw[hv,Po hk2.1 hk2.2]),trivial⟩) (h5:=?_)
  first|exact mJ _|(rw[kK];done)|(rw[kK];exact mJ _)
 have hk2 : ¬ (j<(bz x st).1.toNat/\s2.2=false):=by first|(intro q;simp_all;done)|(intro q;rcases c1 with c1|c1;omega;rw[q.2] at c1;cases c1)
 refine aB ?_
 refine aa Jl ?_
 refine aI ?_
 exact aU (upd h rb (some ⟨258,[[.list false (x.map bD),.i (s2).1,.b (s2).2]]⟩)) (hr:=oS (k:=by rw[hv,Pn hk2];exact⟨rfl,rfl,om⟩))
theorem yf (x:Str) (st:RT) (rb:Nat) (h:H) (n:Nat) (hx:x.length<=1000000) (hb:h rb=some ⟨258,[[.list false (x.map bD),.i (st).1,.b (st).2]]⟩):RCt Tryz.prog 217 [.mptr rb 0 0] h n (fun d h' n'=>d = .i (bG x st).1/\h'=upd h rb (some ⟨258,[[.list false (x.map bD),.i ((bG x st).2).1,.b ((bG x st).2).2]]⟩)/\n<=n'):=by
 refine oP Tryz.func217 fun hnone ff=>?_
 unfold Tryz.f217
 have ff:=qA @hb ff
 refine oC Jl ?_
 refine ae ?_
 refine aa Jl ?_
 refine ah ?_
 refine dD (α:=(Nat)×(Nat)×(RT)×Nat) [0] (fun ⟨j,u,s2,nx⟩=>(j<=8)/\(n<=nx)/\(u<18446744073709551616)/\(jJ x 8 0 st=jJ x (8-j) u s2)/\True) (fun ⟨j,u,s2,nx⟩=>8-j) (fun ⟨j,u,s2,nx⟩=>[(3,.v (.int .u64 u)),(4,.i j)]) (fun ⟨j,u,s2,nx⟩=>upd h rb (some ⟨258,[[.list false (x.map bD),.i (s2).1,.b (s2).2]]⟩)) (fun ⟨j,u,s2,nx⟩=>nx) (0,0,st,_) (hA:=⟨iv,iv,(by first|(omega)|(dsimp only;omega)),rfl,trivial⟩) (round:=?_) (hhh:=by intro q;left;by_cases e1:q=rb<;>simp[upd,e1,hb])
 rintro⟨j,u,s2,nx⟩ ⟨hj,hn,hu,hv, -⟩
 simp only[X0,X3]
 refine oL Jl (fun c1=>?_) (fun c1=>?_)
 .
  have hk2:j<8:=by omega
  refine ae ?_;refine ah ?_;refine aD Jl 3 (hct:=by exact ym x s2 rb _ _ hx (by simp only[go_sem])) (hk:=?_)
  rintro res h2 n2 ⟨rfl,rfl,a2⟩
  try dsimp only at a2
  have e5:=NA (u:=u) (bz x s2).1;have e6:=MP (bz x s2).1;have ff:=qB @e5 @e6 ff;refine av Jl ?_;refine ai Jl ?_
  show ∃ _,_
  refine au (j+1,dz u (bz x s2).1,(bz x s2).2,_) (h1:=⟨iv,iv,(by first|(exact xI _ _)|(dsimp only;exact xI _ _)),(by first|(rw[hv,FR hk2])|(dsimp only;rw[hv,FR hk2])),trivial⟩) (h5:=?_)
  first|exact mJ _|(rw[kK];done)|(rw[kK];exact mJ _)
 have hk2:j=8:=by omega
 subst hk2
 refine aB ?_
 refine aa Jl ?_
 refine aI ?_
 exact aU (upd h rb (some ⟨258,[[.list false (x.map bD),.i (s2).1,.b (s2).2]]⟩)) (hr:=oS (k:=by unfold bG;rw[hv];exact⟨rfl,rfl,om⟩))
theorem PD (x:Str) (hx:x.length<=1000000):PureCt Tryz.prog 179 [.list false (x.map bD)] (.tuple [.agg (readF x).1.d,.i (readF x).2]):=by
 refine oO Tryz.func179 fun ff=>?_
 unfold Tryz.f179
 refine oC Jl ?_
 refine ae (aD Jl 1 (hct:=by exact FQ x (0,false) 4 _ _ hx rfl) (hk:=?_))
 rintro res h2 n2 ⟨rfl,rfl,a1⟩
 try dsimp only at a1
 have p4:4<n2:=by omega
 have p0:0<n2:=by omega
 have ff:=qB @p4 @p0 ff
 refine av Jl ?_
 obtain⟨q,hq⟩:∃ q,q=n2+3:=⟨_,rfl⟩
 rw[<- hq]
 refine nu q 3 63 110 ev (by rfl) (by simp only[go_sem,ff]) ?_
 simp only[YL,YD]
 obtain⟨r0,hr0⟩:∃ r0,r0=(n2+5):=⟨_,rfl⟩
 rw[<- hr0]
 have ff:=qF (nH 4 q) (nH 4 r0) (nH q r0) (nH 0 q) (nH 0 r0) ff
 refine lc [0,2,4,5] [(0,⟨63,[[.v (.string (bs [])),.i 0,.i 0,.list true []]]⟩),(4,⟨258,[[.list false (x.map bD),.i ((bL x (0,false)).2).1,.b ((bL x (0,false)).2).2]]⟩),(q,⟨63,[[.v (.string (bs ((bL x (0,false)).1))),.i (0),.i (0),.mrow r0 0 0]]⟩),(r0,⟨110,[]⟩)] (by simp only[Yb,Yt,go_sem,ff];exact rfl) (by first|(simp only[go_sem,ff];done)|(simp[go_sem,ff];done)) ?_
 refine ae (aD Jl 1 (hct:=by exact yf x (bL x (0,false)).2 4 _ _ hx (by simp only[go_sem])) (hk:=?_))
 rintro res h2 n2 ⟨rfl,rfl,a2⟩
 try dsimp only at a2
 have p4:4<n2:=by omega
 have p0:0<n2:=by omega
 have pq:q<n2:=by omega
 have pr:r0<n2:=by omega
 have ff:=qB @pq @pr ff
 refine av Jl ?_
 refine ae (aD Jl 1 (hct:=by exact yf x (bG x (bL x (0,false)).2).2 4 _ _ hx (by simp only[go_sem,ff])) (hk:=?_))
 rintro res h2 n2 ⟨rfl,rfl,a3⟩
 try dsimp only at a3
 have p4:4<n2:=by omega
 have p0:0<n2:=by omega
 have pq:q<n2:=by omega
 have pr:r0<n2:=by omega
 refine av Jl ?_
 have ff:=qA @AA ff
 refine ae (aD Jl 1 (hct:=by exact ym x (bG x (bG x (bL x (0,false)).2).2).2 4 _ _ hx (by simp only[go_sem,ff])) (hk:=?_))
 rintro res h2 n2 ⟨rfl,rfl,a4⟩
 try dsimp only at a4
 have p4:4<n2:=by omega
 have p0:0<n2:=by omega
 have pq:q<n2:=by omega
 have pr:r0<n2:=by omega
 refine av Jl ?_
 refine ae ?_
 refine aa Jl ?_
 refine ah ?_
 refine lp (α:=(Nat)×(List Dat)×(Nat)×(RT)×Nat) [0,2,4,5,6] (fun ⟨k,out,r,st,nx⟩=>(k<=(bz x (bG x (bG x (bL x (0,false)).2).2).2).1.toNat)/\(r<nx)/\(r≠0/\r≠4/\r≠q)/\(q<nx)/\(out.length<=k)/\(jd x (bz x (bG x (bG x (bL x (0,false)).2).2).2).1.toNat [] (bz x (bG x (bG x (bL x (0,false)).2).2).2).2=jd x ((bz x (bG x (bG x (bL x (0,false)).2).2).2).1.toNat-k) out st)/\True) (fun ⟨k,out,r,st,nx⟩=>(bz x (bG x (bG x (bL x (0,false)).2).2).2).1.toNat-k) (fun ⟨k,out,r,st,nx⟩=>[(7,.i k)]) (fun ⟨k,out,r,st,nx⟩=>[(0,⟨63,[[.v (.string (bs [])),.i 0,.i 0,.list true []]]⟩),(4,⟨258,[[.list false (x.map bD),.i (st).1,.b (st).2]]⟩),(q,⟨63,[[.v (.string (bs ((bL x (0,false)).1))),.i ((bG x (bL x (0,false)).2).1),.i ((bG x (bG x (bL x (0,false)).2).2).1),.mrow r 0 out.length]]⟩),(r,⟨110,out.map Dat.d⟩)]) (fun ⟨k,out,r,st,nx⟩=>nx) (0,[],r0,(bz x (bG x (bG x (bL x (0,false)).2).2).2).2,_) (hA:=⟨iv,iv,iv,iv,(by first|(simp)|(dsimp only;simp)),rfl,trivial⟩) (round:=?_)
 rintro⟨k,out,r,st,nx⟩ ⟨hk,hr,hrn,hqn,ho,hv, -⟩
 simp only[X0,X3]
 have p4:4<nx:=by omega
 have p0:0<nx:=by omega
 have hb8:=(bz x (bG x (bG x (bL x (0,false)).2).2).2).1.toNat_lt
 have ff:=qH @hr @hqn @p4 @p0 (nH 0 r) (nH 4 r) (nH q r) ff
 refine oL Jl (fun c1=>?_) (fun c1=>?_)
 .
  have hk2:k<(bz x (bG x (bG x (bL x (0,false)).2).2).2).1.toNat/\st.2=false:=by first|exact⟨om,c1.2⟩|(simp_all;done)
  refine ae ?_;refine ah ?_;refine ae (aD Jl 1 (hct:=by exact FQ x st 4 _ _ hx (by simp only[go_sem,ff])) (hk:=?_))
  rintro res h2 n2 ⟨rfl,rfl,a5⟩
  try dsimp only at a5
  have p4:4<n2:=by omega
  have p0:0<n2:=by omega
  have pq:q<n2:=by omega
  have pr:r<n2:=by omega
  have ff:=qE @p4 @p0 @pq @pr ff;refine av Jl ?_;obtain⟨w,hw⟩:∃ w,w=n2+3:=⟨_,rfl⟩;simp only[<- hw];have ff:=qE (nH r w) (nH q w) (nH 4 w) (nH 0 w) ff;refine lc [0,2,4,5,6,7,8] [(0,⟨63,[[.v (.string (bs [])),.i 0,.i 0,.list true []]]⟩),(4,⟨258,[[.list false (x.map bD),.i ((bL x st).2).1,.b ((bL x st).2).2]]⟩),(q,⟨63,[[.v (.string (bs ((bL x (0,false)).1))),.i ((bG x (bL x (0,false)).2).1),.i ((bG x (bG x (bL x (0,false)).2).2).1),.mrow r 0 out.length]]⟩),(r,⟨110,out.map Dat.d⟩),(w,⟨110,[[.v (.string (bs (bL x st).1)),.i 0,.i 0]]⟩)] (by simp only[Yb,Yt,go_sem,ff];exact rfl) (by first|(simp only[go_sem,ff];done)|(simp[go_sem,ff];done)) ?_
  refine ae (aD Jl 1 (hct:=by exact yf x (bL x st).2 4 _ _ hx (by simp only[go_sem,ff])) (hk:=?_))
  rintro res h2 n2 ⟨rfl,rfl,a6⟩
  try dsimp only at a6
  have pw:w<n2:=by omega
  have ff:=qA @pw ff;refine av Jl ?_;refine ae (aD Jl 1 (hct:=by exact yf x (bG x (bL x st).2).2 4 _ _ hx (by simp only[go_sem,ff])) (hk:=?_))
  rintro res h2 n2 ⟨rfl,rfl,a7⟩
  try dsimp only at a7
  have pw:w<n2:=by omega
  have p4:4<n2:=by omega
  have p0:0<n2:=by omega
  have pq:q<n2:=by omega
  have pr:r<n2:=by omega
  have ff:=qF @pw @p4 @p0 @pq @pr ff;refine av Jl ?_;refine ai Jl ?_;refine ai Jl ?_
  show ∃ _,_
  exact au (k+1,out++[(gZ x st).1],(n2+8),(gZ x st).2,_) (h1:=⟨iv,iv,iv,iv,(by first|(simp;omega)|(dsimp only;simp;omega)),(by (try dsimp only);rw[hv,Qb hk2.1 hk2.2]),trivial⟩) (h3:=by (try simp only[go_sem,ff]);all_goals (first|done|(simp;done)|(simp[Dat.d,gZ];done)|((repeat' (with_reducible apply And.intro))<;>first|rfl|(left;simp;done)|(simp[Dat.d,gZ];done)))) (h4:=by (try simp only[go_sem,ff]);all_goals (first|done|(simp;done)|(simp[Dat.d,gZ];done)|((repeat' (with_reducible apply And.intro))<;>first|rfl|(left;simp;done)|(simp[Dat.d,gZ];done)))) (h5:=by (try simp only[go_sem,ff]);all_goals (first|done|(simp;done)|(simp[Dat.d,gZ];done)|((repeat' (with_reducible apply And.intro))<;>first|rfl|(left;simp;done)|(simp[Dat.d,gZ];done))))
 have hk2 : ¬ (k<(bz x (bG x (bG x (bL x (0,false)).2).2).2).1.toNat/\st.2=false):=by first|(intro q;simp_all;done)|(intro q;rcases c1 with c1|c1;omega;rw[q.2] at c1;cases c1)
 have hset:jc x (0,false)=(⟨(bL x (0,false)).1,(bG x (bL x (0,false)).2).1,(bG x (bG x (bL x (0,false)).2).2).1,out⟩,st):=by unfold jc;simp only;rw[hv,Qa hk2]
 refine aB ?_
 refine ae ?_
 refine kZ q 3 r (rows:=out.map Dat.d) (off:=0) (len:=out.length) ev (by rfl) ev om (by simp) uj ?_
 simp only[X7,lF,YL,YD]
 refine aa Jl ?_ (hok:=oH (rD ⟨_,_,_,out⟩))
 refine cd (fun c9=>?_) (fun c9=>?_)
 .
  refine aa Jl ?_;exact fo 2 (k:=by rw[P9 hset c9];try rfl)
 refine dw_skip ?_
 refine aa Jl ?_
 exact fo 2 (k:=by rw[P8 hset c9];try rfl)
end Go.Proofs.YtjngdcldglkolaaGreatDoor
namespace Go.Proofs.YtjngdcldglkolaaGreatDoor
open Go.DL Go.Str Go.Rec Go.Cmp Go.Zon Go.Jn
set_option maxRecDepth 10000
variable [Glob Tryz.prog] [Told]
def fJ (h:H) (W:Nat):Option Nat:=match h W with
 | some ⟨_,[.mrow r _ _::_]⟩=>some r
 | _=>none
def BufG (T:TypeId) (h:H) (W nx:Nat) (l:Str) (m:Nat):Prop:=W<nx/\((l.length+m=0 /\ ∃ x:Int,h W=some ⟨T,[[.list true [],.i 0,.v (.int .i8 x)]]⟩)\/(0<l.length+m /\ ∃ (r:Nat) (x:Int),r≠W/\r<nx/\h r=some ⟨5,l.map bD⟩/\h W=some ⟨T,[[.mrow r 0 (l.length+m),.i 0,.v (.int .i8 x)]]⟩))
def BStep (h h':H) (W n n':Nat):Prop:=n<=n'/\(∀ q,q<n->q≠W->fJ h W≠some q->h' q=h q)/\(∀ q,q<n->q≠W->fJ h W≠some q->fJ h' W≠some q)
theorem BStep.trans {h h' h'':H}{W n n' n'':Nat}(a:BStep h h' W n n') (b:BStep h' h'' W n' n''):BStep h h'' W n n'' :=
 ⟨Yc a.1 b.1,fun q h1 h2 h3=>(b.2.1 q (YB h1 a.1) h2 (a.2.2 q h1 h2 h3)).trans (a.2.1 q h1 h2 h3),fun q h1 h2 h3=>b.2.2 q (YB h1 a.1) h2 (a.2.2 q h1 h2 h3)⟩
theorem BStep.refl {h:H}{W n n':Nat}(hn:n<=n'):BStep h h W n n':=⟨hn,fun _ _ _ _=>rfl,fun _ _ _ h=>h⟩
theorem F5 {h:H}{W T:Nat}{x:Int}(e:h W=some ⟨T,[[.list true [],.i 0,.v (.int .i8 x)]]⟩):fJ h W=none:=by unfold fJ;rw[e]
theorem fu {h:H}{W T r k:Nat}{x:Int}(e:h W=some ⟨T,[[.mrow r 0 k,.i 0,.v (.int .i8 x)]]⟩):fJ h W=some r:=by unfold fJ;rw[e]
theorem RCtE.rct {P:Program}[Glob P] {f:FuncId}{args:List D}{h:H}{n:Nat}{R:D->H->Nat->Env->Prop}(k:RCtE P f args h n Env.tt R):RCt P f args h n (fun d h' n'=>∃ E',R d h' n' E') :=
 ⟨k.1,fun w g vs h1 h2 h3=>(k.2 w g vs h1 h2 trivial h3).mono fun _ _ ⟨v,g',res,h',n',E',q1,q2,q3,q4,q5,q6,q7⟩=>⟨v,g',res,h',n',⟨E',q1⟩,q2,q3,q4,q5,q6⟩⟩
theorem WX (T:TypeId) (l:Str) (h:H) (n W:Nat) (hB:BufG T h W n l 0) (hl:l.length<=1000000000000):RCt Tryz.prog 183 [.mptr W 0 0] h n (fun d h' n'=>d = .i l.length/\BStep h h' W n n'/\BufG T h' W n' l 0):=by
 refine oP Tryz.func183 fun hnone ff=>?_
 unfold Tryz.f183
 refine aa Jl ?_
 obtain⟨hWn,⟨e0,x,hW⟩|⟨e0,r,x,hrW,hrn,hr,hW⟩⟩:=hB
 .
  obtain rfl:l=[]:=X5 om;have ff:=qB @hW (nG W n) ff;refine aa Jl ?_;refine aI ?_;exact aU (_) (hh:=fun _=>.inl rfl) (hr:=oS (k:=by exact⟨rfl,BStep.refl om,om,.inl ⟨rfl,x,hW⟩⟩))
 rw[Zv] at hW
 have hWr:(W=r)=False:=Y7 (fun e=>hrW e.symm)
 have hrW2:(r=W)=False:=Y7 hrW
 have ff:=qG @hW @hr @hWr @hrW2 (nG W n) (nG r n) ff
 refine aa Jl ?_
 refine aI ?_
 exact aU (_) (hh:=fun _=>.inl rfl) (hr:=oS (k:=by exact⟨by simp,BStep.refl om,om,.inr ⟨e0,r,x,hrW,om,hr,hW⟩⟩))
theorem WW:bV Tryz.prog 130=true:=by kernel_rfl
theorem xC (T:TypeId) (l:Str) (m:Nat) (h:H) (n W:Nat) (hB:BufG T h W n l 0) (hl:l.length+m<=1000000000000):RCtE Tryz.prog 130 [.mptr W 0 0,.i m] h n (Env.tt) (fun d h' n' E'=>∃ ok:Bool,∃ a:Int,d = .tuple [.i a,.b ok]/\BStep h h' W n n'/\(ok=true->a=l.length/\BufG T h' W n' l m)/\(ok=false->0<m/\BufG T h' W n' l 0 /\ ∀ r,fJ h' W=some r -> ∀ g w,E'.p g w->(Env.capLt r (l.length+m)).p g w)):=by
 refine Qg rfl Tryz.func130 rfl WW (by simp[Tryz.f130]) (fun hnone=>?_)
 unfold Tryz.f130
 have ff:=True.intro
 refine aa Jl ?_
 refine ae ?_
 obtain⟨hWn,⟨e0,x,hW⟩|⟨e0,r,x,hrW,hrn,hr,hW⟩⟩:=hB
 .
  obtain rfl:l=[]:=X5 om;have ff:=qB @hW (nG W n) ff;refine aa Jl ?_;refine bq ?_;refine C8 Jl 5 (e:=5) ?_;refine aO Jl ?_
  try simp only[aG]
  refine cd (fun c1=>?_) (fun c1=>?_)
  .
   obtain rfl:m=0:=by omega
   refine oC Jl ?_;refine aI ?_;exact zP (_) (hh:=fun _=>.inl rfl) (Env.tt) (hE:=fun _ _ _ _=>trivial) (hr:=oS (k:=by exact⟨_,_,rfl,⟨om,fun q q1 q2 q3=>by simp only[upd];repeat rw[XZ (by omega)],fun q q1 q2 q3=>by rw[F5 (x:=x) (T:=T) (by simp[upd])];simp⟩,fun _=>⟨rfl,om,.inl ⟨rfl,x,by simp[upd]⟩⟩,fun q=>(by cases q)⟩))
  refine dw_skip ?_;refine aa Jl ?_;refine aI ?_;exact zP (_) (hh:=fun _=>.inl rfl) (Env.tt) (hE:=fun _ _ _ _=>trivial) (hr:=oS (k:=by exact⟨_,_,rfl,BStep.refl (by omega),fun q=>(by cases q),fun _=>⟨by have : ¬ (m:Int)<=0:=(by simpa using c1);omega,⟨om,.inl ⟨rfl,x,hW⟩⟩,fun q hq=>by rw[F5 hW] at hq;cases hq⟩⟩))
 rw[Zv] at hW
 have hWr:(W=r)=False:=Y7 (fun e=>hrW e.symm)
 have hrW2:(r=W)=False:=Y7 hrW
 have ff:=qG @hW @hr @hWr @hrW2 (nG W n) (nG r n) ff
 refine aa Jl ?_
 refine bq ?_
 refine JP Jl 5 (fun c hc1 hc2=>?_)
 have hc3:(c:Int)<=9223372036854775807:=by have:=hc2;unfold maxLen at this;omega
 refine aO Jl ?_
 try simp only[aG]
 refine cd (fun c1=>?_) (fun c1=>?_)
 .
  refine bq ?_;refine JE Jl 8 (r:=r) (off:=0) (c:=c) (l.length+m) rfl (by have:(m:Int)<=(c:Int)-(l.length:Int):=(by simpa using c1);omega) ?_
  refine aO Jl ?_
  try simp only[aG]
  refine aa Jl ?_;refine aI ?_;exact zP (_) (hh:=fun _=>.inl rfl) (Env.tt) (hE:=fun _ _ _ _=>trivial) (hr:=oS (k:=by exact⟨_,_,rfl,⟨om,fun q q1 q2 q3=>by simp only[upd];repeat rw[XZ (by omega)],fun q q1 q2 q3=>by rw[fu (x:=x) (T:=T) (k:=l.length+m) (r:=r) (by simp[upd])];rw[fu hW] at q3;exact q3⟩,fun _=>⟨by simp,om,.inr ⟨om,r,x,hrW,om,by simp only[upd];rw[XZ hrW];exact hr,by simp[upd]⟩⟩,fun q=>(by cases q)⟩))
 refine dw_skip ?_
 refine aa Jl ?_
 refine aI ?_
 exact zP (_) (hh:=fun _=>.inl rfl) (Env.capLt r (l.length+m)) (hE:=fun g w w2 q=>⟨q.2.1,fun blk c' sz he=>by have h9:=q.2.2 blk c' sz he;have : ¬ ((m:Int)<=(c:Int)-(l.length:Int)):=(by simpa using c1);omega⟩) (hr:=oS (k:=by exact⟨_,_,rfl,BStep.refl (by omega),fun q=>(by cases q),fun _=>⟨by have : ¬ ((m:Int)<=(c:Int)-(l.length:Int)):=(by simpa using c1);omega,⟨om,.inr ⟨om,r,x,hrW,om,hr,hW⟩⟩,fun q hq g w hp=>by rw[fu hW] at hq;cases hq;exact hp⟩⟩))
end Go.Proofs.YtjngdcldglkolaaGreatDoor
namespace Go.Proofs.YtjngdcldglkolaaGreatDoor
open Go.DL Go.Str Go.Rec Go.Cmp Go.Zon Go.Jn
set_option maxRecDepth 10000
variable [Glob Tryz.prog] [Told]
theorem WN:bV Tryz.prog 220=true:=by kernel_rfl
theorem CR (h:H) (n:Nat):sP Tryz.prog 220 [] h n .returning .returning (fun h' n'=>(∀ q,q<n->h' q=h q)/\n<=n'):=by
 refine wO (d:=.v .nilIface) (v:=.nilIface) Tryz.func220 rfl WN (by simp[Tryz.f220]) (bC rfl) rfl rfl (by decide) (.inl ⟨rfl,rfl,rfl⟩) (fun _ _=>.v _) (fun hnone=>?_)
 have ff:=True.intro
 refine Us Jl 1 true ?_ (ht:=Tryz.underlying20)
 refine aO Jl ?_
 try simp only[aG]
 refine cd (fun c1=>?_) (fun c1=>?_)
 .
  simp at c1
 refine dw_skip ?_
 refine⟨(by trivial),h,_,?_,Nat.le_refl _,fun q hq=>rfl,by dsimp only;omega⟩
 intro r
 dsimp only
 first
 | exact .inl rfl
 | exact (Decidable.em (r<n)).elim (fun e=>by left;simp only[upd];repeat (first|rfl|rw[XZ (by omega)])) fun e=>by right;exact hnone r om
theorem BufG.cell {T:TypeId}{h:H}{W nx:Nat}{l:Str}{m:Nat}(hB:BufG T h W nx l m):∃ (d:D) (x:Int),d.one=true/\h W=some ⟨T,[[d,.i 0,.v (.int .i8 x)]]⟩:=by
 obtain⟨_,⟨_,x,hW⟩|⟨_,r,x,h1,h2,_,hW⟩⟩:=hB
 .
  exact⟨_,x,rfl,hW⟩
 exact⟨_,x,rfl,hW⟩
theorem BufG.last {T:TypeId}{h:H}{W nx nx':Nat}{l:Str}{m:Nat}{d:D}{x:Int}(hB:BufG T h W nx l m) (hW:h W=some ⟨T,[[d,.i 0,.v (.int .i8 x)]]⟩) (y:Int) (hn:nx<=nx'):BufG T (upd h W (some ⟨T,[[d,.i 0,.v (.int .i8 y)]]⟩)) W nx' l m:=by
 obtain⟨h0,⟨e,x',hW'⟩|⟨e,r,x',h1,h2,h3,hW'⟩⟩:=hB
 .
  rw[hW] at hW'
  cases hW'
  exact⟨om,.inl ⟨e,y,upd_same _ _ _⟩⟩
 rw[hW] at hW'
 cases hW'
 exact⟨om,.inr ⟨e,r,y,h1,om,by rw[upd_ne _ _ _ _ h1];exact h3,upd_same _ _ _⟩⟩
theorem BStep.last {T:TypeId}{h:H}{W n n':Nat}{d:D}{x:Int}(hW:h W=some ⟨T,[[d,.i 0,.v (.int .i8 x)]]⟩) (y:Int) (hn:n<=n'):BStep h (upd h W (some ⟨T,[[d,.i 0,.v (.int .i8 y)]]⟩)) W n n':=by
 refine⟨hn,fun q _ h2 _=>upd_ne _ _ _ _ h2,fun q _ _ h3=>?_⟩
 have:fJ (upd h W (some ⟨T,[[d,.i 0,.v (.int .i8 y)]]⟩)) W=fJ h W:=by
  unfold fJ;rw[upd_same,hW]
  cases d<;>rfl
 rw[this]
 exact h3
theorem BStep.more {h h2 h3:H}{W n n2 n3:Nat}(a:BStep h h2 W n n2) (hn:n2<=n3) (k : ∀ q,q<n2->q≠W->fJ h2 W≠some q->h3 q=h2 q) (k2 : ∀ q,fJ h3 W=some q->fJ h2 W=some q\/n2<=q):BStep h h3 W n n3 :=
 a.trans ⟨hn,k,fun q h1 _ h3 e=>by rcases k2 q e with h4|h4;exact h3 h4;omega⟩
theorem BufG.cases3 {T:TypeId}{h:H}{W nx m:Nat}{l:Str}(hB:BufG T h W nx l m):(l=[]/\m=0 /\ ∃ x:Int,h W=some ⟨T,[[.list true [],.i 0,.v (.int .i8 x)]]⟩)\/(0<l.length/\m=0 /\ ∃ (r:Nat) (x:Int),r≠W/\r<nx/\h r=some ⟨5,l.map bD⟩/\h W=some ⟨T,[[.mrow r 0 (l.length+0),.i 0,.v (.int .i8 x)]]⟩)\/(0<m /\ ∃ (r:Nat) (x:Int),r≠W/\r<nx/\h r=some ⟨5,l.map bD⟩/\h W=some ⟨T,[[.mrow r 0 (l.length+m),.i 0,.v (.int .i8 x)]]⟩):=by
 obtain⟨_,⟨e,x,hW⟩|⟨e,r,x,h1,h2,h3,hW⟩⟩:=hB
 .
  exact .inl ⟨X5 om,om,x,hW⟩
 rcases Nat.eq_zero_or_pos m with h0|h0
 .
  subst h0;exact .inr (.inl ⟨om,rfl,r,x,h1,h2,h3,hW⟩)
 exact .inr (.inr ⟨h0,r,x,h1,h2,h3,hW⟩)
theorem Gf {m k:Nat}{x:List D}:(List.replicate m x).drop k=List.replicate (m-k) x:=by simp
theorem LX:bV Tryz.prog 185=true:=by kernel_rfl
theorem Uk (m:Nat) (h:H) (n:Nat) (h0:0<m) (hl:m<=1000000000000):RCt Tryz.prog 185 [.list true [],.i m] h n (fun d h' n'=>∃ r',d = .mrow r' 0 0/\h' r'=some ⟨5,List.replicate m [.v (.int .u8 0)]⟩/\n<=r'/\r'<n' /\ ∀ q,q<n->h' q=h q):=by
 have ff:=True.intro
 refine BA (C:=Jl) 0 Tryz.func185 rfl LX (by simp[Tryz.f185]) (by intro o ho;simp only[YK,ZF,or_false] at ho;rcases ho with rfl<;>rfl) ev (by (try simp only[go_sem,ff]);all_goals exact ok0) (bC rfl) rfl rfl (by intro o ho;simp at ho) (by simp only[X4,Yf,go_sem,ff];exact rfl) (by (try simp only[go_sem,ff]);all_goals exact ok0) (by (try simp only[go_sem,ff]);all_goals (first|done|rfl|decide|simp)) ev (fun hnone=>?_)
 unfold Tryz.f185
 refine aO Jl ?_
 try simp only[aG]
 have e00:((0:Nat):Int)+(m:Int)=m:=by omega
 have ff:=qA @e00 ff
 refine aa Jl ?_
 refine ae ?_
 refine bq ?_
 refine C8 Jl 2 (e:=5) ?_
 refine aO Jl ?_
 try simp only[aG]
 refine cd (fun c1=>?_) (fun c1=>?_) (hp:=rfl)
 .
  exfalso;simp at c1;omega
 refine dw_skip ?_
 refine bq ?_
 refine CV Jl 1 (e:=5) (kk:=.i64) m h0 (by rw[show (Tryz.prog).bytesOf 5=1 from rfl];omega) (by omega) ?_
 refine aO Jl ?_
 try simp only[aG]
 refine bq ?_
 refine wE Jl 2 (e:=5) ?_
 refine aO Jl ?_
 try simp only[aG]
 refine aa Jl ?_
 refine aI ?_
 refine⟨_,_,_,rfl,rfl,CR _ _,fun h1 n1 ⟨w1,w2⟩=>?_⟩
 try dsimp only at w1 w2
 exact⟨by simp only[go_sem,ff],h1,n1,fun _=>.inl rfl,XY _,_,by simp only[go_sem,ff];first|done|rfl,by rw[w1 _ (by omega)];simp only[upd];repeat (first|rfl|rw[XZ (by omega)]|rw[X6 rfl]),om,om,fun q hq=>by rw[w1 q (by omega)];simp only[upd];repeat (first|rfl|rw[XZ (by omega)]|rw[X6 rfl])⟩
theorem Uj (l:Str) (m:Nat) (h:H) (n r:Nat) (hr:h r=some ⟨5,l.map bD⟩) (h0:0<l.length) (h1:0<m) (hl:l.length+m<=1000000000000):RCtE Tryz.prog 185 [.mrow r 0 l.length,.i m] h n (Env.capLt r (l.length+m)) (fun d h' n' E'=>E'=Env.tt/\(fun d h' n'=>∃ r' k,d = .mrow r' 0 l.length/\h' r'=some ⟨5,l.map bD++List.replicate k [.v (.int .u8 0)]⟩/\m<=k/\n<=r'/\r'<n' /\ ∀ q,q<n->h' q=h q) d h' n'):=by
 have ff:=True.intro
 refine Qf (hEx:=by rfl) (C:=Jl) 0 Tryz.func185 rfl LX (by simp[Tryz.f185]) (by intro o ho;simp only[YK,ZF,or_false] at ho;rcases ho with rfl<;>rfl) ev (by (try simp only[go_sem,ff]);all_goals exact ok0) (bC rfl) rfl rfl (by intro o ho;simp at ho) (by simp only[X4,Yf,go_sem,ff];exact rfl) (by (try simp only[go_sem,ff]);all_goals exact ok0) (by (try simp only[go_sem,ff]);all_goals (first|done|rfl|decide|simp)) ev (fun hnone=>?_)
 unfold Tryz.f185
 refine aO Jl ?_
 try simp only[aG]
 have hrn:r<n:=by rcases YV r n with q|q;exact q;rw[hnone r q] at hr;cases hr
 have ff:=qB @hr (nG r n) ff
 refine aa Jl ?_
 refine ae ?_
 refine bq ?_
 refine UD Jl 2 (r:=r) (l.length+m) (fun _ _ q=>q) (fun c hc1 hc2=>?_)
 try dsimp only at hc2
 refine aO Jl ?_
 try simp only[aG]
 refine cd (fun c1=>?_) (fun c1=>?_)
 .
  refine kM ?_;refine UC Jl 1 (r:=r) (off:=0) rfl ?_;refine aO Jl ?_
  try simp only[aG]
  refine bq ?_;refine CV Jl 1 (e:=5) (kk:=.i64) (2*c) (by omega) (by rw[show (Tryz.prog).bytesOf 5=1 from rfl];omega) (by omega) ?_
  refine aO Jl ?_
  try simp only[aG]
  refine bq ?_;refine CZ Jl 2 l.length ?_;refine aO Jl ?_
  try simp only[aG]
  refine aa Jl ?_;refine aI ?_;refine⟨_,_,_,rfl,rfl,CR _ _,fun h1 n1 ⟨w1,w2⟩=>?_⟩
  try dsimp only at w1 w2
  exact⟨by simp only[go_sem,ff],h1,n1,fun _=>.inl rfl,XY _,_,2*c-l.length,by simp only[go_sem,ff];first|done|rfl,by rw[w1 _ (by omega)];simp[upd,Gf],om,om,om,fun q hq=>by rw[w1 q (by omega)];simp only[upd];repeat (first|rfl|rw[XZ (by omega)]|rw[X6 rfl])⟩
 refine dw_skip ?_
 refine bq ?_
 refine CV Jl 1 (e:=5) (kk:=.i64) (l.length+m) (by omega) (by rw[show (Tryz.prog).bytesOf 5=1 from rfl];omega) (by omega) ?_
 refine aO Jl ?_
 try simp only[aG]
 refine bq ?_
 refine CZ Jl 2 l.length ?_
 refine aO Jl ?_
 try simp only[aG]
 refine aa Jl ?_
 refine aI ?_
 refine⟨_,_,_,rfl,rfl,CR _ _,fun h1 n1 ⟨w1,w2⟩=>?_⟩
 try dsimp only at w1 w2
 exact⟨by simp only[go_sem,ff],h1,n1,fun _=>.inl rfl,XY _,_,m,by simp only[go_sem,ff];first|done|rfl,by rw[w1 _ (by omega)];simp[upd,Gf],om,om,om,fun q hq=>by rw[w1 q (by omega)];simp only[upd];repeat (first|rfl|rw[XZ (by omega)]|rw[X6 rfl])⟩
end Go.Proofs.YtjngdcldglkolaaGreatDoor
namespace Go.Proofs.YtjngdcldglkolaaGreatDoor
open Go.DL Go.Str Go.Rec Go.Cmp Go.Zon Go.Jn
set_option maxRecDepth 10000
variable [Glob Tryz.prog] [Told]
theorem BufG.mono {T:TypeId}{h:H}{W nx nx':Nat}{l:Str}{m:Nat}(hB:BufG T h W nx l m) (hn:nx<=nx'):BufG T h W nx' l m:=by
 obtain⟨h0,h1|⟨e,r,x,h1,h2,h3,h4⟩⟩:=hB
 .
  exact⟨om,.inl h1⟩
 exact⟨om,.inr ⟨e,r,x,h1,om,h3,h4⟩⟩
theorem BufG.mk {T:TypeId}{h:H}{W nx r k:Nat}{l:Str}{m:Nat}{x:Int}(hW:h W=some ⟨T,[[.mrow r 0 k,.i 0,.v (.int .i8 x)]]⟩) (hr:h r=some ⟨5,l.map bD⟩) (hk:k=l.length+m) (h0:0<l.length+m) (h1:r≠W) (h2:r<nx) (h3:W<nx):BufG T h W nx l m:=by
 subst hk
 exact⟨h3,.inr ⟨h0,r,x,h1,h2,hr,hW⟩⟩
theorem BStep.down {h h':H}{W n m n':Nat}(a:BStep h h' W m n') (hn:n<=m):BStep h h' W n n':=⟨Yc hn a.1,fun q h1=>a.2.1 q (YB h1 hn),fun q h1=>a.2.2 q (YB h1 hn)⟩
theorem BStep.up {h h':H}{W n n' n2:Nat}(a:BStep h h' W n n') (hn:n'<=n2):BStep h h' W n n2:=⟨Yc a.1 hn,a.2.1,a.2.2⟩
theorem BStep.row {T:TypeId}{h h2 h3:H}{W n n2 n3 r k:Nat}{x:Int}(hW:h3 W=some ⟨T,[[.mrow r 0 k,.i 0,.v (.int .i8 x)]]⟩) (a:BStep h h2 W n n2) (hn:n2<=n3) (hk : ∀ q,q<n2->q≠W->fJ h2 W≠some q->h3 q=h2 q) (hr:fJ h2 W=some r\/n2<=r):BStep h h3 W n n3 :=
 a.more hn hk fun q e=>by rw[fu hW] at e;cases e;exact hr
theorem CU (T:TypeId) (l:Str) (m:Nat) (h:H) (n W:Nat) (hB:BufG T h W n l 0) (hl:l.length+m<=1000000000000):RCt Tryz.prog 131 [.mptr W 0 0,.i m] h n (fun d h' n'=>d = .i l.length/\BStep h h' W n n'/\BufG T h' W n' l m):=by
 refine oP Tryz.func131 fun hnone ff=>?_
 unfold Tryz.f131
 refine aa Jl ?_
 refine ae (aD Jl 1 (hct:=by exact WX T l _ _ W (hB.mono (by dsimp only;omega)) om) (hk:=?_))
 rintro res h2 n2 ⟨rfl,hst2,hB2⟩
 try dsimp only at hst2 hB2
 replace hst2:=hst2.down (show n<=_ by omega)
 obtain⟨d0,x0,hd1,hW2⟩:=hB2.cell
 have hWn2:=hB2.1
 have ff:=qD @hW2 @hd1 (nG W n2) ff
 refine av Jl ?_
 refine oK Jl (fun c1=>?_) (fun c1=>?_) (hp:=rfl)
 .
  exfalso;simp at c1
 refine ae ?_
 refine bq ?_
 refine O6 (C:=Jl) 2 (R:=_) om (bC rfl) rfl rfl (by simp only[List.drop_succ_cons,List.drop_zero,List.take_succ_cons,List.take_zero,S.put,Nat.sub_self,Nat.reduceSub,go_sem,ff];first|done|exact rfl) ?_ ?_ ev (by simp only[go_sem,ff]) ev (by exact xC T l m _ _ W (hB2.mono (by dsimp only;omega)) hl) (by exact fun _ _ _=>trivial) ?_
 .
  try simp only[go_sem,ff]
  all_goals (exact ok0)
 .
  try simp only[go_sem,ff]
  all_goals (first|done|rfl|decide|simp)
 rintro res h3 n3 E3 ⟨ok,a,rfl,hst3,hT,hF⟩
 try dsimp only at hst3 hT hF
 refine aO Jl ?_
 try simp only[aG]
 refine aa Jl ?_
 refine cd (fun c3=>?_) (fun c3=>?_) (hp:=rfl) (hq:=rfl)
 .
  have hT9:=hT c3;refine aa Jl ?_;refine aI ?_;exact aU (_) (hh:=fun _=>.inl rfl) (hr:=oS (k:=by exact⟨by rw[hT9.1],(hst2.trans (hst3.down (by omega))).up (by omega),hT9.2.mono (by omega)⟩))
 obtain⟨hm0,hB3,hcap⟩:=hF c3
 refine dw_skip ?_
 refine ae ?_
 have hB3k:=hB3
 obtain⟨hWn3,⟨e0,x3,hW3⟩|⟨e0,r,x3,hrW,hrn,hr,hW3⟩⟩:=hB3
 .
  obtain rfl:l=[]:=X5 om;have e00:((0:Nat):Int)+(m:Int)=m:=by omega
  have ff:=qE @hW3 @e00 @Int.zero_add (nG W n3) ff;refine bq ?_;refine UB Jl 4 (e:=5) (fun y hy=>?_)
  refine aO Jl ?_
  try simp only[aG]
  refine cd (fun c4=>?_) (fun c4=>?_) (hp:=rfl)
  .
   have hm64:m<=64:=by simp at c4;omega
   refine bq ?_;refine gmkC Jl 2 (e:=5) m 64 hm0 hm64 (by omega) (by rw[show (Tryz.prog).bytesOf 5=1 from rfl];omega) ?_
   refine aO Jl ?_
   try simp only[aG]
   refine Dr (r:=(n3+20)) 0 ev ?_;refine aa Jl ?_;refine aI ?_;exact aU (_) (hh:=fun _=>.inl rfl) (hr:=oS (k:=by first|exact⟨rfl,BStep.row (T:=T) ev (hst2.trans (hst3.down (by omega))) (by omega) (fun q q1 q2 q3=>by simp only[upd];repeat (first|rfl|rw[XZ (by omega)])) (.inr (by omega)),BufG.mk ev (by simp[upd]) (by simp) (by simp;omega) (by omega) (by omega) (by omega)⟩|exact⟨BStep.row (T:=T) ev (hst2.trans (hst3.down (by omega))) (by omega) (fun q q1 q2 q3=>by simp only[upd];repeat (first|rfl|rw[XZ (by omega)])) (.inr (by omega)),BufG.mk ev (by simp[upd]) (by simp) (by simp;omega) (by omega) (by omega) (by omega)⟩))
  refine dw_skip ?_;refine bq ?_;refine C8 Jl 4 (e:=5) ?_;refine aO Jl ?_
  try simp only[aG]
  refine ae ?_;refine aa Jl ?_;refine cd (fun c5=>?_) (fun c5=>?_) (hp:=rfl)
  .
   exfalso;simp at c5;omega
  refine aa Jl ?_;refine cd (fun c6=>?_) (fun c6=>?_) (hp:=rfl)
  .
   exfalso;simp at c6;omega
  refine KN Jl 16 19 [] (hE:=fun _ _ _=>trivial) (hct:=by exact (Uk m _ _ hm0 om).ie) (hkeep:=?_) (hk:=?_)
  .
   intro res h2 n2 _ q hq;cases hq
  rintro res h4 n4 ⟨r4,rfl,hr4,hn4,hr4n,hkeep⟩
  try dsimp only at hn4 hkeep
  have hW4:=(hkeep W (by omega)).trans hW3
  have hrW4:r4≠W:=by omega
  have ff:=qF hr4 hW4 (nH W r4) (nG W n4) (nG r4 n4) ff;refine aO Jl ?_
  try simp only[aG]
  refine aa Jl ?_;refine bq ?_;refine JD Jl 8 (r:=r4) (off:=0) m ?_;refine aO Jl ?_
  try simp only[aG]
  refine Dr (r:=r4) 0 ev ?_;refine aa Jl ?_;refine aI ?_;exact aU (_) (hh:=fun _=>.inl rfl) (hr:=oS (k:=by first|exact⟨rfl,BStep.row (T:=T) ev (hst2.trans (hst3.down (by omega))) (by omega) (fun q q1 q2 q3=>by have:=hkeep q (by omega);simp only[upd];repeat (first|exact this|rw[XZ (by omega)])) (.inr (by omega)),BufG.mk ev (by simp[upd]) (by simp) (by simp;omega) (by omega) (by omega) (by omega)⟩|exact⟨BStep.row (T:=T) ev (hst2.trans (hst3.down (by omega))) (by omega) (fun q q1 q2 q3=>by have:=hkeep q (by omega);simp only[upd];repeat (first|exact this|rw[XZ (by omega)])) (.inr (by omega)),BufG.mk ev (by simp[upd]) (by simp) (by simp;omega) (by omega) (by omega) (by omega)⟩))
 rw[Zv] at hW3
 have e1:0<l.length:=by omega
 have hE0:((l.length:Int)-((0:Nat):Int)).toNat=l.length:=by omega
 have hWr:(W=r)=False:=Y7 (fun e=>hrW e.symm)
 have hrW2:(r=W)=False:=Y7 hrW
 have ff:=qA @hW3 (qI @hr @hWr @hrW2 @Int.zero_add @Int.sub_zero @hE0 (nG W n3) (nG r n3) ff)
 refine bq ?_
 refine Uo Jl 4 (e:=5) ?_
 refine aO Jl ?_
 try simp only[aG]
 refine cd (fun c4=>?_) (fun c4=>?_) (hp:=rfl)
 .
  exfalso;simp at c4
 refine dw_skip ?_
 refine bq ?_
 refine JP Jl 4 (fun c hc1 hc2=>?_)
 have hc3:(c:Int)<=9223372036854775807:=by have:=hc2;unfold maxLen at this;omega
 refine aO Jl ?_
 try simp only[aG]
 refine ae ?_
 refine aa Jl ?_
 refine cd (fun c5=>?_) (fun c5=>?_)
 .
  refine dr0 Jl 13 ?_;refine CZ Jl 13 l.length ?_;refine aO Jl ?_
  try simp only[aG]
  refine aa Jl ?_;refine bq ?_;refine JE Jl 8 (r:=r) (off:=0) (c:=c) (l.length+m) rfl (by have:(m:Int)<=(c:Int) / 2-(l.length:Int):=(by simpa using c5);omega) ?_
  refine aO Jl ?_
  try simp only[aG]
  refine aa Jl ?_;refine aI ?_;exact aU (_) (hh:=fun _=>.inl rfl) (hr:=oS (k:=by first|exact⟨rfl,BStep.row (T:=T) ev (hst2.trans (hst3.down (by omega))) (by omega) (fun q q1 q2 q3=>by have hqr:q≠r:=fun e=>q3 (by rw[e];exact fu hW3);simp only[upd];repeat (first|rfl|rw[XZ hqr]|rw[XZ (by omega)])) (.inl (fu hW3)),BufG.mk ev (by simp[upd,hrW]) (by simp) (by omega) (by omega) (by omega) (by omega)⟩|exact⟨BStep.row (T:=T) ev (hst2.trans (hst3.down (by omega))) (by omega) (fun q q1 q2 q3=>by have hqr:q≠r:=fun e=>q3 (by rw[e];exact fu hW3);simp only[upd];repeat (first|rfl|rw[XZ hqr]|rw[XZ (by omega)])) (.inl (fu hW3)),BufG.mk ev (by simp[upd,hrW]) (by simp) (by omega) (by omega) (by omega) (by omega)⟩))
 refine Vp (r:=r) (k:=l.length+m) ev (fun g w q=>hcap r (fu hW3) g w q.2) (fun hc9=>?_)
 refine aa Jl ?_
 refine cd (fun c6=>?_) (fun c6=>?_) (hp:=rfl)
 .
  exfalso;simp at c6;omega
 refine KN Jl 16 19 [] (hE:=by exact fun g w q=>hcap r (fu hW3) g w q.1.2) (hct:=by exact (Uj l m _ _ r hr e1 hm0 hl).i) (hkeep:=?_) (hk:=?_)
 .
  intro res h2 n2 _ q hq;cases hq
 rintro res h4 n4 ⟨E4,rfl,r4,k4,rfl,hr4,hk4,hn4,hr4n,hkeep⟩
 try dsimp only at hn4 hkeep
 have hW4:=(hkeep W (by omega)).trans hW3
 have hrW4:r4≠W:=by omega
 have ff:=qF hr4 hW4 (nH W r4) (nG W n4) (nG r4 n4) ff
 refine aO Jl ?_
 try simp only[aG]
 refine aa Jl ?_
 refine bq ?_
 refine JD Jl 8 (r:=r4) (off:=0) (l.length+m) ?_
 refine aO Jl ?_
 try simp only[aG]
 refine Dr (r:=r4) l.length ev ?_
 refine aa Jl ?_
 refine aI ?_
 exact aU (_) (hh:=fun _=>.inl rfl) (hr:=oS (k:=by first|exact⟨rfl,BStep.row (T:=T) ev (hst2.trans (hst3.down (by omega))) (by omega) (fun q q1 q2 q3=>by have:=hkeep q (by omega);simp only[upd];repeat (first|exact this|rw[XZ (by omega)])) (.inr (by omega)),BufG.mk ev (by simp[upd]) (by simp) (by omega) (by omega) (by omega) (by omega)⟩|exact⟨BStep.row (T:=T) ev (hst2.trans (hst3.down (by omega))) (by omega) (fun q q1 q2 q3=>by have:=hkeep q (by omega);simp only[upd];repeat (first|exact this|rw[XZ (by omega)])) (.inr (by omega)),BufG.mk ev (by simp[upd]) (by simp) (by omega) (by omega) (by omega) (by omega)⟩))
end Go.Proofs.YtjngdcldglkolaaGreatDoor
namespace Go.Proofs.YtjngdcldglkolaaGreatDoor
open Go.DL Go.Str Go.Rec Go.Cmp Go.Zon Go.Jn
set_option maxRecDepth 10000
variable [Glob Tryz.prog] [Told]
theorem BufG.has {T:TypeId}{h:H}{W nx m:Nat}{l:Str}(hB:BufG T h W nx l m) (h0:0<m):∃ (r:Nat) (x:Int),r≠W/\r<nx/\h r=some ⟨5,l.map bD⟩/\h W=some ⟨T,[[.mrow r 0 (l.length+m),.i 0,.v (.int .i8 x)]]⟩:=by
 obtain⟨_,⟨e,x,hW⟩|⟨e,r,x,h1,h2,h3,hW⟩⟩:=hB
 .
  omega
 exact⟨r,x,h1,h2,h3,hW⟩
theorem BufG.wrote {T:TypeId}{h:H}{W nx r k:Nat}{l p:Str}{x:Int}{rows:List (List D)}(hW:h W=some ⟨T,[[.mrow r 0 k,.i 0,.v (.int .i8 x)]]⟩) (hr:h r=some ⟨5,rows⟩) (he:rows=(l++p).map bD) (hk:k=l.length+p.length) (h0:0<l.length+p.length) (h1:r≠W) (h2:r<nx) (h3:W<nx):BufG T h W nx (l++p) 0:=by
 subst he
 exact BufG.mk hW hr (by rw[hk,XV];rfl) (by rw[XV];omega) h1 h2 h3
theorem EE (T:TypeId) (l:Str) (b:UInt8) (h:H) (n W:Nat) (hB:BufG T h W n l 0) (hl:l.length+1<=1000000000000):RCt Tryz.prog 76 [.mptr W 0 0,.v (.int .u8 b.toNat)] h n (fun d h' n'=>d = .v .nilIface/\BStep h h' W n n'/\BufG T h' W n' (l++[b]) 0):=by
 refine oP Tryz.func76 fun hnone ff=>?_
 unfold Tryz.f76
 obtain⟨d0,x0,hd1,hW⟩:=hB.cell
 have hWn:=hB.1
 have ff:=qD @hW @hd1 (nG W n) ff
 refine oC Jl ?_
 refine ae (aD Jl 1 (hct:=by exact RCtE.rct (xC T l 1 _ _ W (hB.last hW _ (by dsimp only;omega)) hl)) (hk:=?_))
 rintro res h2 n2 ⟨E2,ok,a,rfl,hst2,hT,hF⟩
 try dsimp only at hst2 hT hF
 have hs0:=BStep.last (n':=n) hW 0 (XY n)
 replace hst2:=hs0.trans (hst2.down oW)
 refine av Jl ?_
 refine jnh (α:=(H)×Nat) [0,1] (fun ⟨hq,nx⟩=>(BufG T hq W nx l (1))/\(BStep h hq W n nx)/\(n<=nx)/\True) (fun ⟨hq,nx⟩=>[(5,.i l.length)]) (fun ⟨hq,nx⟩=>hq) (fun ⟨hq,nx⟩=>nx) ?_ ?_
 .
  refine aa Jl ?_;refine cd (fun c3=>?_) (fun c3=>?_) (hp:=rfl) (hq:=rfl)
  .
   have hF2:=hF (by simpa using c3)
   refine aD Jl 1 (hct:=by exact CU T l 1 _ _ W ((hF2.2.1).mono (by dsimp only;omega)) hl) (hk:=?_)
   rintro res h3 n3 ⟨rfl,hst3,hB3⟩
   try dsimp only at hst3 hB3
   refine av Jl ?_
   show ∃ _,_
   exact pQ (h3,_) (h1:=⟨(by first|(exact hB3.mono om)|(dsimp only;exact hB3.mono om)),(by (try dsimp only);exact (hst2.trans (hst3.down om)).up om),(by (try dsimp only);have:=hst3.1;have:=hst2.1;omega),trivial⟩)
  have hT2:=hT (by simpa using c3)
  have hal:=hT2.1;subst hal;refine dw_skip ?_
  show ∃ _,_
  exact pQ (h2,_) (h1:=⟨(by first|(exact hT2.2.mono om)|(dsimp only;exact hT2.2.mono om)),(by first|(exact hst2.up om)|(dsimp only;exact hst2.up om)),(by first|(have:=hst2.1;omega)|(dsimp only;have:=hst2.1;omega)),trivial⟩)
 rintro⟨hq,nx⟩ ⟨hG,hst9,hnx, -⟩
 simp only[X0,X3]
 obtain⟨r,y,hrW,hrn,hr,hW2⟩:=hG.has om
 have hWnx:=hG.1
 have hll:((l.length:Int)).toNat=l.length:=by omega
 have hWr:(W=r)=False:=Y7 (fun e=>hrW e.symm)
 have hrW2:(r=W)=False:=Y7 hrW
 have ff:=qA @hW2 (qI @hr @hWr @hrW2 @Int.sub_zero @Int.zero_add (nG W nx) (nG r nx) @hll ff)
 refine bq ?_
 refine Ui Jl 7 (e:=5) (z:=.tmp 22) (r:=r) (off:=0) (len:=l.length+1) (n:=l.length) ?_
 refine aO Jl ?_
 try simp only[aG]
 refine aa Jl ?_
 refine aI ?_
 exact aU (_) (hh:=fun _=>.inl rfl) (hr:=oS (k:=by first|exact⟨rfl,BStep.row (T:=T) ev hst9 (by omega) (fun q q1 q2 q3=>by have hqr:q≠r:=fun e=>q3 (by rw[e];exact fu hW2);simp only[upd];repeat (first|rfl|rw[XZ hqr]|rw[XZ (by omega)])) (.inl (fu hW2)),BufG.wrote (r:=r) ev ev (by simp[bD]) (by simp) (by simp) hrW (by omega) (by omega)⟩|exact⟨BStep.row (T:=T) ev hst9 (by omega) (fun q q1 q2 q3=>by have hqr:q≠r:=fun e=>q3 (by rw[e];exact fu hW2);simp only[upd];repeat (first|rfl|rw[XZ hqr]|rw[XZ (by omega)])) (.inl (fu hW2)),BufG.wrote (r:=r) ev ev (by simp[bD]) (by simp) (by simp) hrW (by omega) (by omega)⟩))
theorem uV (T:TypeId) (l:Str) (p:Str) (h:H) (n W:Nat) (hB:BufG T h W n l 0) (hl:l.length+p.length<=1000000000000):RCt Tryz.prog 81 [.mptr W 0 0,.list false (p.map bD)] h n (fun d h' n'=>d = .tuple [.i p.length,.v .nilIface]/\BStep h h' W n n'/\BufG T h' W n' (l++p) 0):=by
 refine oP Tryz.func81 fun hnone ff=>?_
 unfold Tryz.f81
 obtain⟨d0,x0,hd1,hW⟩:=hB.cell
 have hWn:=hB.1
 have ff:=qD @hW @hd1 (nG W n) ff
 refine oC Jl ?_
 refine ae (aD Jl 3 (hct:=by exact RCtE.rct (xC T l p.length _ _ W (hB.last hW _ (by dsimp only;omega)) hl)) (hk:=?_))
 rintro res h2 n2 ⟨E2,ok,a,rfl,hst2,hT,hF⟩
 try dsimp only at hst2 hT hF
 have hs0:=BStep.last (n':=n) hW 0 (XY n)
 replace hst2:=hs0.trans (hst2.down oW)
 refine av Jl ?_
 refine jnh (α:=(H)×Nat) [0,1] (fun ⟨hq,nx⟩=>(BufG T hq W nx l (p.length))/\(BStep h hq W n nx)/\(n<=nx)/\True) (fun ⟨hq,nx⟩=>[(6,.i l.length)]) (fun ⟨hq,nx⟩=>hq) (fun ⟨hq,nx⟩=>nx) ?_ ?_
 .
  refine aa Jl ?_;refine cd (fun c3=>?_) (fun c3=>?_) (hp:=rfl) (hq:=rfl)
  .
   have hF2:=hF (by simpa using c3)
   refine aD Jl 3 (hct:=by exact CU T l p.length _ _ W ((hF2.2.1).mono (by dsimp only;omega)) hl) (hk:=?_)
   rintro res h3 n3 ⟨rfl,hst3,hB3⟩
   try dsimp only at hst3 hB3
   refine av Jl ?_
   show ∃ _,_
   exact pQ (h3,_) (h1:=⟨(by first|(exact hB3.mono om)|(dsimp only;exact hB3.mono om)),(by (try dsimp only);exact (hst2.trans (hst3.down om)).up om),(by (try dsimp only);have:=hst3.1;have:=hst2.1;omega),trivial⟩)
  have hT2:=hT (by simpa using c3)
  have hal:=hT2.1;subst hal;refine dw_skip ?_
  show ∃ _,_
  exact pQ (h2,_) (h1:=⟨(by first|(exact hT2.2.mono om)|(dsimp only;exact hT2.2.mono om)),(by first|(exact hst2.up om)|(dsimp only;exact hst2.up om)),(by first|(have:=hst2.1;omega)|(dsimp only;have:=hst2.1;omega)),trivial⟩)
 rintro⟨hq,nx⟩ ⟨hG,hst9,hnx, -⟩
 simp only[X0,X3]
 have hWnx:=hG.1
 rcases hG.cases3 with⟨e1,e2,y,hW2⟩|⟨e1,e2,r,y,hrW,hrn,hr,hW2⟩|⟨e1,r,y,hrW,hrn,hr,hW2⟩
 .
  obtain rfl:=e1;obtain rfl:p=[]:=X5 e2;have ff:=qB @hW2 (nG W nx) ff;refine bq ?_;refine wE Jl 7 (e:=5) ?_;refine aO Jl ?_
  try simp only[aG]
  refine aI ?_;exact aU (_) (hh:=fun _=>.inl rfl) (hr:=oS (k:=by first|exact⟨rfl,hst9.up (by omega),(by first|exact hG.mono (by omega)|(rw[YC];exact hG.mono (by omega)))⟩|exact⟨hst9.up (by omega),(by first|exact hG.mono (by omega)|(rw[YC];exact hG.mono (by omega)))⟩))
 .
  obtain rfl:p=[]:=X5 e2;have hll:((l.length:Int)).toNat=l.length:=by omega
  have hE1:(((l.length+0:Nat):Int)-(l.length:Int)).toNat=0:=by omega
  have hE2:((l.length:Int)-(l.length:Int)).toNat=0:=by omega
  have hWr:(W=r)=False:=Y7 (fun e=>hrW e.symm)
  have hrW2:(r=W)=False:=Y7 hrW;have ff:=qD @hW2 @hr @hWr (qI @hrW2 @Int.sub_zero @Int.zero_add (nG W nx) (nG r nx) @hll @hE1 @hE2 ff);refine bq ?_;refine wE Jl 7 (e:=5) ?_;refine aO Jl ?_
  try simp only[aG]
  refine aI ?_;exact aU (_) (hh:=fun _=>.inl rfl) (hr:=oS (k:=by first|exact⟨rfl,hst9.up (by omega),(by first|exact hG.mono (by omega)|(rw[YC];exact hG.mono (by omega)))⟩|exact⟨hst9.up (by omega),(by first|exact hG.mono (by omega)|(rw[YC];exact hG.mono (by omega)))⟩))
 have hll:((l.length:Int)).toNat=l.length:=by omega
 have hE1:(((l.length+p.length:Nat):Int)-(l.length:Int)).toNat=p.length:=by omega
 have hE2:((l.length:Int)+(p.length:Int)-(l.length:Int)).toNat=p.length:=by omega
 have hWr:(W=r)=False:=Y7 (fun e=>hrW e.symm)
 have hrW2:(r=W)=False:=Y7 hrW
 have ff:=qD @hW2 @hr @hWr (qI @hrW2 @Int.sub_zero @Int.zero_add (nG W nx) (nG r nx) @hll @hE1 @hE2 ff)
 refine bq ?_
 refine JO Jl 7 (e:=5) (r:=r) (off:=l.length) (m:=p.length) (news:=p.map bD) ?_ (hrl:=by intro q hq;obtain⟨b,_,rfl⟩:=Y5.1 hq;rfl)
 refine aO Jl ?_
 try simp only[aG]
 refine aI ?_
 exact aU (_) (hh:=fun _=>.inl rfl) (hr:=oS (k:=by first|exact⟨rfl,BStep.row (T:=T) ev hst9 (by omega) (fun q q1 q2 q3=>by have hqr:q≠r:=fun e=>q3 (by rw[e];exact fu hW2);simp only[upd];repeat (first|rfl|rw[XZ hqr]|rw[XZ (by omega)])) (.inl (fu hW2)),BufG.wrote (r:=r) ev ev (by simp) (by simp) (by omega) hrW (by omega) (by omega)⟩|exact⟨BStep.row (T:=T) ev hst9 (by omega) (fun q q1 q2 q3=>by have hqr:q≠r:=fun e=>q3 (by rw[e];exact fu hW2);simp only[upd];repeat (first|rfl|rw[XZ hqr]|rw[XZ (by omega)])) (.inl (fu hW2)),BufG.wrote (r:=r) ev ev (by simp) (by simp) (by omega) hrW (by omega) (by omega)⟩))
theorem MO (T:TypeId) (l:Str) (p:Str) (h:H) (n W:Nat) (hB:BufG T h W n l 0) (hl:l.length+p.length<=1000000000000):RCt Tryz.prog 133 [.mptr W 0 0,.v (.string (bs p))] h n (fun d h' n'=>d = .tuple [.i p.length,.v .nilIface]/\BStep h h' W n n'/\BufG T h' W n' (l++p) 0):=by
 refine oP Tryz.func133 fun hnone ff=>?_
 unfold Tryz.f133
 obtain⟨d0,x0,hd1,hW⟩:=hB.cell
 have hWn:=hB.1
 have ff:=qD @hW @hd1 (nG W n) ff
 refine oC Jl ?_
 refine ae (aD Jl 3 (hct:=by exact RCtE.rct (xC T l p.length _ _ W (hB.last hW _ (by dsimp only;omega)) hl)) (hk:=?_))
 rintro res h2 n2 ⟨E2,ok,a,rfl,hst2,hT,hF⟩
 try dsimp only at hst2 hT hF
 have hs0:=BStep.last (n':=n) hW 0 (XY n)
 replace hst2:=hs0.trans (hst2.down oW)
 refine av Jl ?_
 refine jnh (α:=(H)×Nat) [0,1] (fun ⟨hq,nx⟩=>(BufG T hq W nx l (p.length))/\(BStep h hq W n nx)/\(n<=nx)/\True) (fun ⟨hq,nx⟩=>[(6,.i l.length)]) (fun ⟨hq,nx⟩=>hq) (fun ⟨hq,nx⟩=>nx) ?_ ?_
 .
  refine aa Jl ?_;refine cd (fun c3=>?_) (fun c3=>?_) (hp:=rfl) (hq:=rfl)
  .
   have hF2:=hF (by simpa using c3)
   refine aD Jl 3 (hct:=by exact CU T l p.length _ _ W ((hF2.2.1).mono (by dsimp only;omega)) hl) (hk:=?_)
   rintro res h3 n3 ⟨rfl,hst3,hB3⟩
   try dsimp only at hst3 hB3
   refine av Jl ?_
   show ∃ _,_
   exact pQ (h3,_) (h1:=⟨(by first|(exact hB3.mono om)|(dsimp only;exact hB3.mono om)),(by (try dsimp only);exact (hst2.trans (hst3.down om)).up om),(by (try dsimp only);have:=hst3.1;have:=hst2.1;omega),trivial⟩)
  have hT2:=hT (by simpa using c3)
  have hal:=hT2.1;subst hal;refine dw_skip ?_
  show ∃ _,_
  exact pQ (h2,_) (h1:=⟨(by first|(exact hT2.2.mono om)|(dsimp only;exact hT2.2.mono om)),(by first|(exact hst2.up om)|(dsimp only;exact hst2.up om)),(by first|(have:=hst2.1;omega)|(dsimp only;have:=hst2.1;omega)),trivial⟩)
 rintro⟨hq,nx⟩ ⟨hG,hst9,hnx, -⟩
 simp only[X0,X3]
 have hWnx:=hG.1
 rcases hG.cases3 with⟨e1,e2,y,hW2⟩|⟨e1,e2,r,y,hrW,hrn,hr,hW2⟩|⟨e1,r,y,hrW,hrn,hr,hW2⟩
 .
  obtain rfl:=e1;obtain rfl:p=[]:=X5 e2;have ff:=qB @hW2 (nG W nx) ff;refine bq ?_;refine wE Jl 7 (e:=5) ?_;refine aO Jl ?_
  try simp only[aG]
  refine aI ?_;exact aU (_) (hh:=fun _=>.inl rfl) (hr:=oS (k:=by first|exact⟨rfl,hst9.up (by omega),(by first|exact hG.mono (by omega)|(rw[YC];exact hG.mono (by omega)))⟩|exact⟨hst9.up (by omega),(by first|exact hG.mono (by omega)|(rw[YC];exact hG.mono (by omega)))⟩))
 .
  obtain rfl:p=[]:=X5 e2;have hll:((l.length:Int)).toNat=l.length:=by omega
  have hE1:(((l.length+0:Nat):Int)-(l.length:Int)).toNat=0:=by omega
  have hE2:((l.length:Int)-(l.length:Int)).toNat=0:=by omega
  have hWr:(W=r)=False:=Y7 (fun e=>hrW e.symm)
  have hrW2:(r=W)=False:=Y7 hrW;have ff:=qD @hW2 @hr @hWr (qI @hrW2 @Int.sub_zero @Int.zero_add (nG W nx) (nG r nx) @hll @hE1 @hE2 ff);refine bq ?_;refine wE Jl 7 (e:=5) ?_;refine aO Jl ?_
  try simp only[aG]
  refine aI ?_;exact aU (_) (hh:=fun _=>.inl rfl) (hr:=oS (k:=by first|exact⟨rfl,hst9.up (by omega),(by first|exact hG.mono (by omega)|(rw[YC];exact hG.mono (by omega)))⟩|exact⟨hst9.up (by omega),(by first|exact hG.mono (by omega)|(rw[YC];exact hG.mono (by omega)))⟩))
 have hll:((l.length:Int)).toNat=l.length:=by omega
 have hE1:(((l.length+p.length:Nat):Int)-(l.length:Int)).toNat=p.length:=by omega
 have hE2:((l.length:Int)+(p.length:Int)-(l.length:Int)).toNat=p.length:=by omega
 have hWr:(W=r)=False:=Y7 (fun e=>hrW e.symm)
 have hrW2:(r=W)=False:=Y7 hrW
 have ff:=qD @hW2 @hr @hWr (qI @hrW2 @Int.sub_zero @Int.zero_add (nG W nx) (nG r nx) @hll @hE1 @hE2 ff)
 refine bq ?_
 refine JO Jl 7 (e:=5) (r:=r) (off:=l.length) (m:=p.length) (news:=p.map bD) ?_ (hrl:=by intro q hq;obtain⟨b,_,rfl⟩:=Y5.1 hq;rfl)
 refine aO Jl ?_
 try simp only[aG]
 refine aI ?_
 exact aU (_) (hh:=fun _=>.inl rfl) (hr:=oS (k:=by first|exact⟨rfl,BStep.row (T:=T) ev hst9 (by omega) (fun q q1 q2 q3=>by have hqr:q≠r:=fun e=>q3 (by rw[e];exact fu hW2);simp only[upd];repeat (first|rfl|rw[XZ hqr]|rw[XZ (by omega)])) (.inl (fu hW2)),BufG.wrote (r:=r) ev ev (by simp) (by simp) (by omega) hrW (by omega) (by omega)⟩|exact⟨BStep.row (T:=T) ev hst9 (by omega) (fun q q1 q2 q3=>by have hqr:q≠r:=fun e=>q3 (by rw[e];exact fu hW2);simp only[upd];repeat (first|rfl|rw[XZ hqr]|rw[XZ (by omega)])) (.inl (fu hW2)),BufG.wrote (r:=r) ev ev (by simp) (by simp) (by omega) hrW (by omega) (by omega)⟩))
theorem uK (T:TypeId) (l:Str) (h:H) (n W:Nat) (hB:BufG T h W n l 0) (hl:l.length<=1000000000000):RCt Tryz.prog 80 [.mptr W 0 0] h n (fun d h' n'=>((l=[]/\d = .list true [])\/(l≠[] /\ ∃ r,d = .mrow r 0 l.length/\h' r=some ⟨5,l.map bD⟩/\fJ h' W=some r))/\BStep h h' W n n'/\BufG T h' W n' l 0):=by
 refine oP Tryz.func80 fun hnone ff=>?_
 unfold Tryz.f80
 refine aa Jl ?_
 have hB9:=hB
 obtain⟨hWn,⟨e0,x,hW⟩|⟨e0,r,x,hrW,hrn,hr,hW⟩⟩:=hB
 .
  obtain rfl:l=[]:=X5 om;have ff:=qB @hW (nG W n) ff;refine aa Jl ?_;refine aI ?_;exact aU (_) (hh:=fun _=>.inl rfl) (hr:=oS (k:=by first|exact⟨.inl rfl,BStep.refl om,hB9.mono om⟩|exact⟨.inl ⟨rfl,rfl⟩,BStep.refl om,hB9.mono om⟩))
 rw[Zv] at hW
 have hE1:((l.length:Int)-0).toNat=l.length:=by omega
 have hE2:((l.length:Int)).toNat=l.length:=by omega
 have hWr:(W=r)=False:=Y7 (fun e=>hrW e.symm)
 have hrW2:(r=W)=False:=Y7 hrW
 have ff:=qA @hW (qI @hr @hWr @hrW2 @hE1 @hE2 @Int.sub_zero (nG W n) (nG r n) ff)
 refine aa Jl ?_
 refine aI ?_
 exact aU (_) (hh:=fun _=>.inl rfl) (hr:=oS (k:=by exact⟨.inr ⟨fun e=>by subst e;simp at e0,r,rfl,hr,fu hW⟩,BStep.refl om,hB9.mono om⟩))
end Go.Proofs.YtjngdcldglkolaaGreatDoor
namespace Go.Proofs.YtjngdcldglkolaaGreatDoor
open Go.DL Go.Str Go.Rec Go.Cmp Go.Zon Go.Jn
set_option maxRecDepth 10000
variable [Glob Tryz.prog] [Told]
theorem KV {d:Nat}{c:UInt8}(h:d<18446744073709551616):IntKind.u64.wrap (Ay .u64 (d:Int) (IntKind.u64.wrap (c.toNat:Int))*1099511628211)=((dQ d c:Nat):Int):=by
 have hc:=c.toNat_lt
 have e0:IntKind.u64.wrap (c.toNat:Int)=(c.toNat:Int):=by rw[IntKind.wrap_u64];omega
 have e1:(BitVec.ofInt 64 (d:Int) ^^^ BitVec.ofInt 64 (c.toNat:Int)).toNat=d ^^^ c.toNat:=by
  rw[BitVec.toNat_xor,BitVec.ofInt_natCast,BitVec.ofInt_natCast,BitVec.toNat_ofNat,BitVec.toNat_ofNat,Zw (by omega),Zw (by omega)]
 have e2:d ^^^ c.toNat<2^64:=Nat.xor_lt_two_pow om om
 have e3:Ay .u64 (d:Int) (c.toNat:Int)=IntKind.u64.wrap ((BitVec.ofInt 64 (d:Int) ^^^ BitVec.ofInt 64 (c.toNat:Int)).toNat:Int):=rfl
 rw[e0,e3,e1,IntKind.wrap_u64,IntKind.wrap_u64]
 unfold dQ
 omega
theorem KY (l:Str) {d:Nat}(h:d<18446744073709551616):l.foldl dQ d<18446744073709551616:=by
 rcases List.eq_nil_or_concat l with e|⟨p,z,e⟩
 .
  subst e;exact h
 rw[e,List.concat_eq_append,Zc,YO,ZG]
 unfold dQ
 omega
theorem KX {b:Str}{d k:Nat}(h:k<b.length):(b.take (k+1)).foldl dQ d=dQ ((b.take k).foldl dQ d) (b.getD k 0):=by
 have e:b[k]?.toList=[b.getD k 0]:=by simp[List.getD,Yg h]
 rw[Y8,Zc,e,YO,ZG]
theorem Xg (u s:Nat) (hs:s<=56):IntKind.u8.wrap ((u:Int).fdiv (2^(min s 64)))=((dG u s).toNat:Int):=by
 rw[IntKind.wrap_u8,ZW (by omega),wW]
 rw[Int.fdiv_eq_ediv_of_nonneg _ (by exact_mod_cast Yo _)]
 norm_cast
theorem uZ (n:Int):IntKind.u64.wrap n=((uN n:Nat):Int):=by rw[IntKind.wrap_u64];unfold uN;omega
theorem jW {n:Nat}(h:n<18446744073709551616):IntKind.u64.wrap (n:Int)=(n:Int):=by rw[IntKind.wrap_u64];omega
theorem V8 (b:Str) (d:Nat) (h:H) (n W:Nat) (hW:h W=some ⟨180,[[.v (.int .u64 ((d:Nat):Int))]]⟩) (hd:d<18446744073709551616) (hb:b.length<=1000000000000):RCt Tryz.prog 132 [.mptr W 0 0,.list false (b.map bD)] h n (fun x h' n'=>h'=upd h W (some ⟨180,[[.v (.int .u64 ((b.foldl dQ d:Nat):Int))]]⟩)/\n<=n'):=by
 refine oP Tryz.func132 fun hnone ff=>?_
 unfold Tryz.f132
 refine aa Jl ?_
 refine ah ?_
 refine dD (α:=(Nat)×Nat) [0,6,7] (fun ⟨k,nx⟩=>(k<=b.length)/\(n<=nx)/\(W<nx)/\True) (fun ⟨k,nx⟩=>b.length-k) (fun ⟨k,nx⟩=>[(8,.i k)]) (fun ⟨k,nx⟩=>upd h W (some ⟨180,[[.v (.int .u64 (((b.take k).foldl dQ d:Nat):Int))]]⟩)) (fun ⟨k,nx⟩=>nx) (0,_) (hA:=⟨iv,iv,(by (try dsimp only);rcases Nat.lt_or_ge W n with q|q;omega;rw[hnone W q] at hW;cases hW),trivial⟩) (round:=?_) (hhh:=by intro q;left;show upd h W (some ⟨180,[[.v (.int .u64 ((d:Nat):Int))]]⟩) q=h q;by_cases e:q=W;subst e;rw[upd_same];exact hW.symm;rw[upd_ne _ _ _ _ e])
 rintro⟨k,nx⟩ ⟨hk,hn,hWx, -⟩
 simp only[X0,X3]
 refine aa Jl ?_
 refine ae ?_
 refine cd (fun c1=>?_) (fun c1=>?_)
 .
  have hk2:k<b.length:=by omega
  have hst:=KX (d:=d) hk2;have hdl:=KY (b.take k) hd;have hds:=KV (c:=b.getD k 0) hdl;have ff:=qA (oM hk2) ff;refine dw_skip ?_;refine ae ?_;refine ah ?_;refine aa Jl ?_;refine kM ?_;refine JI Jl 7 hds ?_;refine Um Jl 8 (r:=W) (j:=0) (off:=0) ?_;refine gst1 Jl 9 ?_;refine JN Jl ?_;refine KD [(8,.i k),(0,.mptr W 0 0),(6,.list false (b.map bD)),(7,.i b.length)] (upd h W (some ⟨180,[[.v (.int .u64 ((dQ ((b.take k).foldl dQ d) (b.getD k 0):Nat):Int))]]⟩)) _ (nx+14) .tt ?_ (hh:=by show upd (upd h W _) W _=_;rw[kK];rfl)
  refine ai Jl ?_
  show ∃ _,_
  refine au (k+1,_) (h1:=⟨iv,iv,iv,trivial⟩) (h5:=?_);rw[hst];exact mJ _
 have hk3:k=b.length:=by omega
 subst hk3
 refine aB ?_
 exact aU (upd h W (some ⟨180,[[.v (.int .u64 ((b.foldl dQ d:Nat):Int))]]⟩)) (hr:=oS (k:=by first|omega|exact⟨rfl,om⟩)) (hh:=by rw[YG];exact mJ _)
theorem zo (b:Str) (hb:b.length<=1000000000000):PureCt Tryz.prog 79 [.list false (b.map bD)] (.v (.int .u64 ((dig b:Nat):Int))):=by
 refine oO Tryz.func79 fun ff=>?_
 unfold Tryz.f79
 refine oC Jl ?_
 refine ae (aD Jl 1 (hct:=by exact V8 b qP _ _ _ (by simp only[go_sem,ff];first|done|rfl) (by decide) hb) (hk:=?_))
 rintro res h2 n2 ⟨rfl,h9⟩
 refine av Jl ?_
 refine aa Jl ?_
 exact fp 0
theorem tV (b:Str) (hb:b.length<=1000000000000):PureCt Tryz.prog 116 [.list false (b.map bD)] (.v (.int .u64 ((dig b:Nat):Int))):=by
 refine oO Tryz.func116 fun ff=>?_
 unfold Tryz.f116
 refine oC Jl ?_
 refine ae ?_
 refine aa Jl ?_
 refine ah ?_
 refine lp (α:=(Nat)×(Int)×Nat) [0] (fun ⟨k,x,nx⟩=>(k<=b.length)/\(x=(((b.take k).foldl dQ qP:Nat):Int))/\True) (fun ⟨k,x,nx⟩=>b.length-k) (fun ⟨k,x,nx⟩=>[(3,.v (.int .u64 x)),(4,.i k)]) (fun ⟨k,x,nx⟩=>[]) (fun ⟨k,x,nx⟩=>nx) (0,14695981039346656037,_) (hA:=⟨iv,rfl,trivial⟩) (round:=?_)
 rintro⟨k,x,nx⟩ ⟨hk,hx, -⟩
 simp only[X0,X3]
 subst hx
 refine oL Jl (fun c1=>?_) (fun c1=>?_)
 .
  have hk2:k<b.length:=by omega
  have hst:=KX (d:=qP) hk2;have hdl:=KY (b.take k) (d:=qP) (by decide)
  have hds:=KV (c:=b.getD k 0) hdl;have ff:=qA (oM hk2) ff;refine ae ?_;refine ah ?_;refine kM ?_;refine JI Jl 7 hds ?_;refine UE Jl 8 ?_;refine JN Jl ?_;refine KD [(3,.v (.int .u64 ((dQ ((b.take k).foldl dQ qP) (b.getD k 0):Nat):Int))),(4,.i k),(0,.list false (b.map bD))] (htab []) _ (nx+13) .tt ?_;refine ai Jl ?_
  show ∃ _,_
  have ff:=qA hst ff;exact au (k+1,(((b.take (k+1)).foldl dQ qP:Nat):Int),_) (h1:=⟨iv,rfl,trivial⟩)
 have hk3:k=b.length:=by omega
 subst hk3
 refine aB ?_
 refine aa Jl ?_
 exact fo 0 (k:=by first|rfl|(rw[YG];rfl))
end Go.Proofs.YtjngdcldglkolaaGreatDoor
namespace Go.Proofs.YtjngdcldglkolaaGreatDoor
open Go.DL Go.Str Go.Rec Go.Cmp Go.Zon Go.Jn
set_option maxRecDepth 10000
variable [Glob Tryz.prog] [Told]
theorem BufG.fresh {T:TypeId}{h:H}{W nx nx' q:Nat}{l:Str}{m:Nat}{x:Option Blk}(hB:BufG T h W nx l m) (hq:nx<=q) (hn:nx<=nx'):BufG T (upd h q x) W nx' l m:=by
 obtain⟨h0,⟨e,y,h1⟩|⟨e,r,y,h1,h2,h3,h4⟩⟩:=hB
 .
  exact⟨om,.inl ⟨e,y,by rw[upd_ne _ _ _ _ (by omega)];exact h1⟩⟩
 exact⟨om,.inr ⟨e,r,y,h1,om,by rw[upd_ne _ _ _ _ (by omega)];exact h3,by rw[upd_ne _ _ _ _ (by omega)];exact h4⟩⟩
theorem BStep.fresh {h:H}{W n n' q:Nat}{x:Option Blk}(hW:W<n) (hq:n<=q) (hn:n<=n'):BStep h (upd h q x) W n n':=by
 refine⟨hn,fun p h1 _ _=>upd_ne _ _ _ _ om,fun p _ _ h3=>?_⟩
 have:fJ (upd h q x) W=fJ h W:=by
  unfold fJ;rw[upd_ne _ _ _ _ (by omega)]
 rw[this]
 exact h3
theorem Ni (l t:Str):l++bg t.length 1++t=l++ay t:=by simp[DX,ay]
theorem Ry {a b c d:Int}{j:Nat}(h:j<4):([[.i a],[.i b],[.i c],[.i d]]:List (List D)).getD j []=[.i ([a,b,c,d][j]!)]:=by
 have:j=0\/j=1\/j=2\/j=3:=by omega
 rcases this with e|e|e|e<;>subst e<;>rfl
theorem Am (n:Int):bg (uN n) 8=ak n:=rfl
theorem AX {n:Int}(h:0<=n/\n<18446744073709551616):((uN n:Nat):Int)=n:=by unfold uN;omega
theorem nz {α:Type}[Inhabited α] {l:List α}{k:Nat}(h:k<l.length) (f:α->Str):(l.drop k).flatMap f=f l[k]! ++ (l.drop (k+1)).flatMap f:=by
 rw[Yy h,ZV,getElem!_pos l k h]
theorem uI (T:TypeId) (l:Str) (u k:Nat) (h:H) (n W:Nat) (hB:BufG T h W n l 0) (hu:u<18446744073709551616) (hk:k<=8) (hl:l.length<=900000000000):RCt Tryz.prog 95 [.mptr W 0 0,.v (.int .u64 ((u:Nat):Int)),.i k] h n (fun d h' n'=>BStep h h' W n n'/\BufG T h' W n' (l++bg u k) 0):=by
 refine oP Tryz.func95 fun hnone ff=>?_
 unfold Tryz.f95
 refine aa Jl ?_
 refine ah ?_
 refine dD (α:=(Nat)×(Str)×(H)×Nat) [0,1] (fun ⟨j,o,hq,nx⟩=>(j<=8)/\(o++bg u j=l++bg u k)/\(o.length+j=l.length+k)/\(BufG T hq W nx o 0)/\(BStep h hq W n nx)/\True) (fun ⟨j,o,hq,nx⟩=>j) (fun ⟨j,o,hq,nx⟩=>[(2,.i ((j:Int)-1))]) (fun ⟨j,o,hq,nx⟩=>hq) (fun ⟨j,o,hq,nx⟩=>nx) (k,l,h,_) (hA:=⟨(by first|(omega)|(dsimp only;omega)),rfl,rfl,(by first|(exact hB.mono om)|(dsimp only;exact hB.mono om)),(by first|(exact BStep.refl om)|(dsimp only;exact BStep.refl om)),trivial⟩) (round:=?_)
 rintro⟨j,o,hq,nx⟩ ⟨hj,ho,hol,hG,hst, -⟩
 simp only[X0,X3]
 refine oL Jl (fun c1=>?_) (fun c1=>?_)
 .
  obtain⟨i,rfl⟩:∃ i,j=i+1:=⟨j-1,om⟩;have e1:(((i+1:Nat):Int)-1)=(i:Int):=by omega
  have e1b:((i:Int)+1-1)=(i:Int):=by omega
  have e2:(8*(i:Int)).toNat=8*i:=by omega
  have e3:=Xg u (8*i) (by omega)
  have ff:=qE @e1 @e1b @e2 @e3 ff;refine ae ?_;refine ah ?_;refine dr0 Jl 8 ?_;refine iZ (C:=Jl) 8 (R:=_) om (bC rfl) rfl rfl (by simp only[X8,X7,X4,Yf,S.put,Yr,Nat.reduceSub,go_sem,ff];first|done|exact rfl) ?_ ?_ ev (by simp only[go_sem,ff]) ev (by exact EE T o (dG u (8*i)) _ _ W (hG.mono oW) om) ?_
  .
   try simp only[go_sem,ff]
   all_goals (exact ok0)
  .
   try simp only[go_sem,ff]
   all_goals (first|done|rfl|decide|simp)
  rintro res h2 n2 ⟨rfl,hst2,hG2⟩
  try dsimp only at hst2
  refine aO Jl ?_
  try simp only[aG]
  refine ai Jl ?_
  show ∃ _,_
  exact au (i,o++[dG u (8*i)],h2,_) (h1:=⟨iv,(by (try dsimp only);rw[<- ho,List.append_assoc];rfl),(by first|(simp;omega)|(dsimp only;simp;omega)),(by first|(exact hG2.mono (by omega))|(dsimp only;exact hG2.mono (by omega))),(by (try dsimp only);exact (hst.trans (hst2.down oW)).up (by omega)),trivial⟩)
 obtain rfl:j=0:=by omega
 have ho2:o=l++bg u k:=by simpa [bg] using ho
 refine aB ?_
 exact aU (_) (hh:=fun _=>.inl rfl) (hr:=oS (k:=by rw[<- ho2];exact⟨hst.up (by omega),hG.mono (by omega)⟩))
theorem sU (T:TypeId) (l:Str) (u:Nat) (h:H) (n W:Nat) (hB:BufG T h W n l 0) (hu:u<18446744073709551616) (hl:l.length<=900000000000):RCt Tryz.prog 78 [.mptr W 0 0,.v (.int .u64 ((u:Nat):Int))] h n (fun d h' n'=>BStep h h' W n n'/\BufG T h' W n' (l++bg u 8) 0):=by
 refine oP Tryz.func78 fun hnone ff=>?_
 unfold Tryz.f78
 refine aD Jl 2 (hct:=by exact uI T l u 8 _ _ W (hB.mono oW) hu om hl) (hk:=?_)
 rintro res h2 n2 ⟨hst2,hG2⟩
 try dsimp only at hst2
 refine av Jl ?_
 exact aU (_) (hh:=fun _=>.inl rfl) (hr:=oS (k:=by exact⟨(hst2.down oW).up om,hG2.mono om⟩))
theorem xy (T:TypeId) (l:Str) (m:Nat) (h:H) (n W:Nat) (hB:BufG T h W n l 0) (hm:m<4294967296) (hl:l.length<=900000000000):RCt Tryz.prog 77 [.mptr W 0 0,.i m] h n (fun d h' n'=>BStep h h' W n n'/\BufG T h' W n' (l++bg m 4) 0):=by
 refine oP Tryz.func77 fun hnone ff=>?_
 unfold Tryz.f77
 have e1:=jW (n:=m) (by omega)
 have ff:=qA @e1 ff
 refine aD Jl 3 (hct:=by exact uI T l m 4 _ _ W (hB.mono oW) om om hl) (hk:=?_)
 rintro res h2 n2 ⟨hst2,hG2⟩
 try dsimp only at hst2
 refine av Jl ?_
 exact aU (_) (hh:=fun _=>.inl rfl) (hr:=oS (k:=by exact⟨(hst2.down oW).up om,hG2.mono om⟩))
theorem xw (T:TypeId) (l t:Str) (h:H) (n W:Nat) (hB:BufG T h W n l 0) (ht:t.length<=10000) (hl:l.length<=800000000000):RCt Tryz.prog 82 [.mptr W 0 0,.v (.string (bs t))] h n (fun d h' n'=>BStep h h' W n n'/\BufG T h' W n' (l++ay t) 0):=by
 refine oP Tryz.func82 fun hnone ff=>?_
 unfold Tryz.f82
 have e1:=jW (n:=t.length) (by omega)
 have ff:=qA @e1 ff
 refine ae (aD Jl 4 (hct:=by exact uI T l t.length 1 _ _ W (hB.mono oW) om om om) (hk:=?_))
 rintro res h2 n2 ⟨hst2,hG2⟩
 try dsimp only at hst2
 refine av Jl ?_
 refine aD Jl 4 (hct:=by exact MO T _ t _ _ W (hG2.mono oW) (by rw[XV,bF];omega)) (hk:=?_)
 rintro res h3 n3 ⟨rfl,hst3,hG3⟩
 try dsimp only at hst3
 refine av Jl ?_
 exact aU (_) (hh:=fun _=>.inl rfl) (hr:=oS (k:=by rw[<- Ni];exact⟨((hst2.down oW).trans (hst3.down oW)).up (by omega),hG3.mono (by omega)⟩))
end Go.Proofs.YtjngdcldglkolaaGreatDoor
namespace Go.Proofs.YtjngdcldglkolaaGreatDoor
open Go.DL Go.Str Go.Rec Go.Cmp Go.Zon Go.Jn
set_option maxRecDepth 10000
variable [Glob Tryz.prog] [Told]
noncomputable def lv [Glob Tryz.prog] [Told]:List PanicEntry:=[{ v:=fH dY,recovered:=false }]
def RStep (h h':H) (R n n':Nat):Prop:=n<=n' /\ ∀ q,q<n->q≠R->h' q=h q
theorem RStep.trans {h h' h'':H}{R n n' n'':Nat}(a:RStep h h' R n n') (b:RStep h' h'' R n' n''):RStep h h'' R n n'':=⟨Yc a.1 b.1,fun q h1 h2=>(b.2 q (YB h1 a.1) h2).trans (a.2 q h1 h2)⟩
theorem RStep.down {h h':H}{R n m n':Nat}(a:RStep h h' R m n') (hn:n<=m):RStep h h' R n n':=⟨Yc hn a.1,fun q h1=>a.2 q (YB h1 hn)⟩
theorem RStep.up {h h':H}{R n n' n2:Nat}(a:RStep h h' R n n') (hn:n'<=n2):RStep h h' R n n2:=⟨Yc a.1 hn,a.2⟩
theorem RStep.refl {h:H}{R n n':Nat}(hn:n<=n'):RStep h h R n n':=⟨hn,fun _ _ _=>rfl⟩
def eQ (h:H) (R:Nat) (x:Str):Prop:=∃ f:Bool,h R=some ⟨234,[[.list f (x.map bD)]]⟩
theorem Nk {x:Str}{m:Nat}(h:m<=x.length):aH m (x,false)=(x.take m,(x.drop m,false)):=iW rfl h
theorem Np {x:Str}{m:Nat}(h:x.length<m):(aH m (x,false)).2.2=true:=by rw[gq (.inr (by show (x.length:Int)<m;omega))]
theorem yV (l:Str) (k:Nat) (h:k<l.length):cB (l.take (k+1))=dz (cB (l.take k)) (l.getD k 0):=by
 have e:l[k]?.toList=[l.getD k 0]:=by simp[List.getD,Yg h]
 unfold cB
 rw[Y8,Zc,e,YO,ZG]
@[go_sem] theorem ldc_err (h:H):fD Tryz.prog (.v (.pointer (some ⟨0,0,none⟩))) h=[.v (fH dY)]:=by
 rw[IV,Uq]
 rfl
theorem WQ:bV Tryz.prog 193=true:=by kernel_rfl
theorem zk (x:Str) (m:Nat) (h:H) (n R:Nat) (hb:eQ h R x) (hx:x.length<=1000000000) (hm:m<=1000000000000):gJ Tryz.prog 193 [.mptr R 0 0,.i m] h n (fun d h' n'=>∃ x':Str,(aH m (x,false)).2=(x',false)/\(∃ f1:Bool,d = .list f1 ((aH m (x,false)).1.map bD))/\eQ h' R x'/\RStep h h' R n n') (fun c h' n'=>c=lv/\(aH m (x,false)).2.2=true/\RStep h h' R n n'):=by
 refine sS Tryz.func193 rfl WQ (by simp[Tryz.f193]) (fun hnone=>?_)
 unfold Tryz.f193
 have ff:=True.intro
 obtain⟨f,hR⟩:=hb
 have hRn:R<n:=by rcases YV R n with q|q;exact q;rw[hnone R q] at hR;cases hR
 have hE1:((m:Int)).toNat=m:=by omega
 have hE2:((0:Int)).toNat=0:=rfl
 have ff:=qE @hR @hE1 @hE2 (nG R n) ff
 refine aa Jl ?_
 refine oK Jl (fun c1=>?_) (fun c1=>?_)
 .
  have hlt:x.length<m:=by omega
  refine kM ?_;refine zz Jl 1 (d:=.v (fH dY)) (t:=290) (v:=.pointer (some dY)) ?_ (fun w g u hu=>hu.v_inv)
  try simp only[dM,dR]
  exact eH _ (by exact⟨rfl,Np hlt,RStep.refl oW⟩) (hn:=XY _) (hh:=fun _=>.inl rfl)
 have hle:m<=x.length:=by omega
 have hty:=Nk hle
 refine oD Jl ?_
 refine aI ?_
 exact uy (.inr rfl) (_) (hh:=fun _=>.inl rfl) (hr:=oS (k:=by rw[hty];exact⟨_,rfl,⟨_,by rw[ZQ];try rfl⟩,⟨_,by simp only[upd,ZK];rw[List.map_drop];try rfl⟩,om,(fun q q1 q2=>by simp only[upd];repeat (first|rfl|rw[XZ (by omega)]))⟩))
end Go.Proofs.YtjngdcldglkolaaGreatDoor
namespace Go.Proofs.YtjngdcldglkolaaGreatDoor
open Go.DL Go.Str Go.Rec Go.Cmp Go.Zon Go.Jn
set_option maxRecDepth 10000
variable [Glob Tryz.prog] [Told]
theorem Rz (l:Str):cB l<256^l.length:=by
 have key : ∀ (l:Str) (a:Nat),l.foldl dz a<256^l.length*(a+1):=by
  intro l
  induction l with
  | nil=>intro a;simp
  | cons c l ih =>
   intro a;have h1:=ih (dz a c);have h2:dz a c+1<=256*(a+1):=by unfold dz;have:=c.toNat_lt;omega
   rw[YO,YH,Nat.pow_succ,Nat.mul_assoc];exact YB h1 (Nat.mul_le_mul_left _ h2)
 have:=key l 0
 unfold cB
 omega
theorem yO (k:Nat) (st:RS):(aH k st).1.length<=k:=by
 unfold aH
 split
 .
  simp
 simp[Yu];omega
theorem fK (k:Int) (st:RS):(aH k st).2.1.length<=st.1.length:=by
 unfold aH
 split
 .
  simp
 simp
theorem ko (k:Nat) (st:RS):(ag k st).1<256^k:=YB (Rz _) (Nat.pow_le_pow_right om (yO k st))
def tF (u:Nat):Nat:=u*256 % 18446744073709551616
theorem shl8 (u:Nat):IntKind.u64.wrap ((u:Int)*2^(min (8:Int).toNat IntKind.u64.bits))=((tF u:Nat):Int):=by
 unfold tF
 rw[IntKind.wrap_u64]
 simp[IntKind.bits]
theorem or8 (u:Nat) (c:UInt8):IntKind.u64.wrap (BitVec.ofInt 64 ((tF u:Nat):Int) ||| BitVec.ofInt 64 (IntKind.u64.wrap (c.toNat:Int))).toNat=((dz u c:Nat):Int):=by
 have hc:=c.toNat_lt
 have e0:IntKind.u64.wrap (c.toNat:Int)=(c.toNat:Int):=by rw[IntKind.wrap_u64];omega
 rw[e0]
 unfold tF
 rw[BitVec.ofInt_natCast,BitVec.ofInt_natCast,BitVec.toNat_or,BitVec.toNat_ofNat,BitVec.toNat_ofNat,Zw (show c.toNat<2^64 by omega),Nat.mod_mod_of_dvd _ (by decide:2^64 ∣ 18446744073709551616)]
 have e2:u*256 % 18446744073709551616=2^8*(u % 72057594037927936):=by omega
 rw[e2,<- Nat.two_pow_add_eq_or_of_lt (show c.toNat<2^8 by omega)]
 rw[IntKind.wrap_u64]
 unfold dz
 omega
attribute [irreducible] tF
attribute [local irreducible] dz
theorem oG {u:Nat}(h:u<9223372036854775808):IntKind.i64.wrap (u:Int)=(u:Int):=by rw[IntKind.wrap_i64];omega
theorem WR:bV Tryz.prog 192=true:=by kernel_rfl
theorem zl (x:Str) (m:Nat) (h:H) (n R:Nat) (hb:eQ h R x) (hx:x.length<=1000000000) (hm:m<=8):gJ Tryz.prog 192 [.mptr R 0 0,.i m] h n (fun d h' n'=>∃ x':Str,(ag m (x,false)).2=(x',false)/\d = .v (.int .u64 (((ag m (x,false)).1:Nat):Int))/\eQ h' R x'/\RStep h h' R n n') (fun c h' n'=>c=lv/\(ag m (x,false)).2.2=true/\RStep h h' R n n'):=by
 refine sS Tryz.func192 rfl WR (by simp[Tryz.f192]) (fun hnone=>?_)
 unfold Tryz.f192
 have ff:=True.intro
 refine oC Jl ?_
 refine ae ?_
 refine bq ?_
 refine ek 2 (C:=Jl) (hct:=by exact zk x m _ _ R hb hx om) (hp:=?_) (hk:=?_)
 .
  rintro c9 h9 n9 ⟨rfl,hbad,hst9⟩
  try simp only[dM,dR]
  exact eH _ (by exact⟨rfl,hbad,((hst9.down oW).up oW)⟩) (hn:=XY _) (hh:=fun _=>.inl rfl)
 rintro res h2 n2 ⟨x2,hp2,⟨f1,rfl⟩,hb2,hst2⟩
 have hbl:=yO m (x,false)
 obtain⟨b,hbe⟩:∃ b,b=(aH m (x,false)).1:=⟨_,rfl⟩
 rw[<- hbe] at hbl
 try rw[<- hbe]
 refine aO Jl ?_
 try simp only[aG]
 refine ah ?_
 refine dD (α:=(Nat)×(Nat)×Nat) [10,11] (fun ⟨k,u,nx⟩=>(k<=b.length)/\(u=cB (b.take k))/\(n2<=nx)/\True) (fun ⟨k,u,nx⟩=>b.length-k) (fun ⟨k,u,nx⟩=>[(5,.v (.int .u64 ((u:Nat):Int))),(12,.i k)]) (fun ⟨k,u,nx⟩=>h2) (fun ⟨k,u,nx⟩=>nx) (0,0,_) (hA:=⟨iv,rfl,iv,trivial⟩) (round:=?_)
 rintro⟨k,u,nx⟩ ⟨hk,hu,hn, -⟩
 simp only[X0,X3]
 refine aa Jl ?_
 refine ae ?_
 refine cd (fun c1=>?_) (fun c1=>?_)
 .
  have hk2:k<b.length:=by omega
  have ff:=qA (oM hk2) ff;refine dw_skip ?_;refine ae ?_;refine ah ?_;refine aa Jl ?_;refine kM ?_;refine JQ Jl 1 (.int .u64 ((tF u:Nat):Int)) ?_ (hv:=by exact congrArg (Value.int .u64) (shl8 u)) (hp:=by exact (by decide:(0:Int)<=8))
  refine JQ Jl 4 (.int .u64 ((dz u (b.getD k 0):Nat):Int)) ?_ (hv:=by exact congrArg (Value.int .u64) (or8 u (b.getD k 0))) (hp:=by exact rfl)
  refine aO Jl ?_
  try simp only[aG]
  refine ai Jl ?_
  show ∃ _,_
  exact au (k+1,dz u (b.getD k 0),_) (h1:=⟨iv,(by first|(rw[yV b k hk2,<- hu])|(dsimp only;rw[yV b k hk2,<- hu])),iv,trivial⟩)
 have hk3:k=b.length:=by omega
 subst hk3
 rw[YG] at hu
 subst hu
 subst hbe
 refine aB ?_
 refine aa Jl ?_
 refine aI ?_
 exact uy (.inr rfl) (_) (hh:=fun _=>.inl rfl) (hr:=oS (k:=by exact⟨x2,hp2,rfl,hb2,(hst2.down oW).up oW⟩))
theorem CG (x:Str) (h:H) (n R:Nat) (hb:eQ h R x) (hx:x.length<=1000000000):gJ Tryz.prog 192 [.mptr R 0 0,.i 1] h n (fun d h' n'=>∃ x':Str,(ag 1 (x,false)).2=(x',false)/\d = .v (.int .u64 (((ag 1 (x,false)).1:Nat):Int))/\eQ h' R x'/\RStep h h' R n n') (fun c h' n'=>c=lv/\(ag 1 (x,false)).2.2=true/\RStep h h' R n n'):=zl x 1 h n R hb hx om
theorem Tx (x:Str) (h:H) (n R:Nat) (hb:eQ h R x) (hx:x.length<=1000000000):gJ Tryz.prog 192 [.mptr R 0 0,.i 2] h n (fun d h' n'=>∃ x':Str,(ag 2 (x,false)).2=(x',false)/\d = .v (.int .u64 (((ag 2 (x,false)).1:Nat):Int))/\eQ h' R x'/\RStep h h' R n n') (fun c h' n'=>c=lv/\(ag 2 (x,false)).2.2=true/\RStep h h' R n n'):=zl x 2 h n R hb hx om
theorem zm (x:Str) (h:H) (n R:Nat) (hb:eQ h R x) (hx:x.length<=1000000000):gJ Tryz.prog 192 [.mptr R 0 0,.i 4] h n (fun d h' n'=>∃ x':Str,(ag 4 (x,false)).2=(x',false)/\d = .v (.int .u64 (((ag 4 (x,false)).1:Nat):Int))/\eQ h' R x'/\RStep h h' R n n') (fun c h' n'=>c=lv/\(ag 4 (x,false)).2.2=true/\RStep h h' R n n'):=zl x 4 h n R hb hx om
theorem oh (x:Str) (h:H) (n R:Nat) (hb:eQ h R x) (hx:x.length<=1000000000):gJ Tryz.prog 192 [.mptr R 0 0,.i 8] h n (fun d h' n'=>∃ x':Str,(ag 8 (x,false)).2=(x',false)/\d = .v (.int .u64 (((ag 8 (x,false)).1:Nat):Int))/\eQ h' R x'/\RStep h h' R n n') (fun c h' n'=>c=lv/\(ag 8 (x,false)).2.2=true/\RStep h h' R n n'):=zl x 8 h n R hb hx om
theorem WP:bV Tryz.prog 195=true:=by kernel_rfl
theorem zi (x:Str) (h:H) (n R:Nat) (hb:eQ h R x) (hx:x.length<=1000000000):gJ Tryz.prog 195 [.mptr R 0 0] h n (fun d h' n'=>∃ x':Str,(aj (x,false)).2=(x',false)/\d = .v (.string (bs (aj (x,false)).1))/\eQ h' R x'/\RStep h h' R n n') (fun c h' n'=>c=lv/\(aj (x,false)).2.2=true/\RStep h h' R n n'):=by
 refine sS Tryz.func195 rfl WP (by simp[Tryz.f195]) (fun hnone=>?_)
 unfold Tryz.f195
 have ff:=True.intro
 refine aa Jl ?_
 refine bq ?_
 refine ek 1 (C:=Jl) (hct:=by exact CG x _ _ R hb hx) (hp:=?_) (hk:=?_)
 .
  rintro c9 h9 n9 ⟨rfl,hbad,hst9⟩
  try simp only[dM,dR]
  exact eH _ (by exact⟨rfl,by unfold aj;rw[gq (.inl hbad)],((hst9.down oW).up oW)⟩) (hn:=XY _) (hh:=fun _=>.inl rfl)
 rintro res h2 n2 ⟨x2,hp2,rfl,hb2,hst2⟩
 have hul:(ag 1 (x,false)).1<256^1:=ko 1 (x,false)
 obtain⟨u,hue⟩:∃ u,u=(ag 1 (x,false)).1:=⟨_,rfl⟩
 try rw[<- hue]
 rw[<- hue] at hul
 have e1:=oG (u:=u) (by omega)
 have ff:=qA e1 ff
 have hx2:x2.length<=1000000000:=by have:=fK 1 (x,false);rw[show aH 1 (x,false)=((aH 1 (x,false)).1,(x2,false)) from Prod.ext rfl hp2] at this;exact Yc this hx
 refine aO Jl ?_
 try simp only[aG]
 refine bq ?_
 refine ek 2 (C:=Jl) (hct:=by exact zk x2 u _ _ R hb2 hx2 om) (hp:=?_) (hk:=?_)
 .
  rintro c9 h9 n9 ⟨rfl,hbad,hst9⟩
  try simp only[dM,dR]
  exact eH _ (by exact⟨rfl,by unfold aj;rw[hp2,<- hue];exact hbad,((hst2.down oW).trans (hst9.down oW)).up oW⟩) (hn:=XY _) (hh:=fun _=>.inl rfl)
 rintro res h3 n3 ⟨x3,hp3,⟨f1,rfl⟩,hb3,hst3⟩
 refine aO Jl ?_
 try simp only[aG]
 refine aI ?_
 exact uy (.inr rfl) (_) (hh:=fun _=>.inl rfl) (hr:=oS (k:=by have e3:aj (x,false)=aH u (x2,false):=(by unfold aj;rw[hp2,<- hue]);rw[e3];exact⟨x3,hp3,rfl,hb3,((hst2.down oW).trans (hst3.down oW)).up oW⟩))
end Go.Proofs.YtjngdcldglkolaaGreatDoor
namespace Go.Proofs.YtjngdcldglkolaaGreatDoor
open Go.DL Go.Str Go.Rec Go.Cmp Go.Zon Go.Jn
set_option maxRecDepth 10000
variable [Glob Tryz.prog] [Told]
theorem Md {k:Int}{st:RS}(h:st.2=true):(aH k st).2.2=true:=by rw[gq (.inl h)]
theorem lw {k:Int}{st:RS}(h:st.2=true):(ag k st).2.2=true:=Md h
def nN:Nat->RS->RS
 | 0,st=>st
 | k+1,st=>(ag 8 (nN k st)).2
def nV (k:Nat) (st:RS):Int:=sN (ag 8 (nN k st)).1
theorem qi {k:Nat}{st:RS}{x x':Str}(h:nN k st=(x,false)) (h2:(ag 8 (x,false)).2=(x',false)):nN (k+1) st=(x',false):=by
 show (ag 8 (nN k st)).2=_
 rw[h,h2]
theorem Cj {st:RS}{k:Nat}(h:(nN k st).2=true):∀ j,(nN (k+j) st).2=true
 | 0=>h
 | j+1=>lw (Cj h j)
theorem RY {st:RS}{k m:Nat}{x:Str}(h:nN k st=(x,false)) (h2:(ag 8 (x,false)).2.2=true) (hk:k<m):(nN m st).2=true:=by
 have h3:(nN (k+1) st).2=true:=by
  show (ag 8 (nN k st)).2.2=true
  rw[h];exact h2
 have:=Cj h3 (m-(k+1))
 rwa [show k+1+(m-(k+1))=m by omega] at this
theorem y5 {k:Nat}{st:RS}{x:Str}(h:nN k st=(x,false)):IntKind.i64.wrap (((ag 8 (x,false)).1:Nat):Int)=nV k st:=by
 unfold nV
 rw[h]
 rfl
theorem yP (st:RS):eF st=(⟨(aj st).1,nV 0 (aj st).2,nV 1 (aj st).2,nV 2 (aj st).2,nV 3 (aj st).2,(ag 8 (nN 4 (aj st).2)).1⟩,nN 5 (aj st).2):=rfl
theorem Om {st:RS}(h:(aj st).2.2=true):(eF st).2.2=true:=by
 rw[yP]
 exact Cj (k:=0) h 5
theorem vz {st:RS}{k:Nat}{x5 x:Str}(h:(aj st).2=(x5,false)) (h1:nN k (x5,false)=(x,false)) (h2:(ag 8 (x,false)).2.2=true) (hk:k<5):(eF st).2.2=true:=by
 rw[yP,h]
 exact RY h1 h2 hk
theorem Oh {st:RS}{x5 x x':Str}(h:(aj st).2=(x5,false)) (h1:nN 4 (x5,false)=(x,false)) (h2:(ag 8 (x,false)).2=(x',false)):eF st=(⟨(aj st).1,nV 0 (x5,false),nV 1 (x5,false),nV 2 (x5,false),nV 3 (x5,false),(((ag 8 (x,false)).1:Nat):Int)⟩,(x',false)):=by
 rw[yP,h,h1]
 show (_,(ag 8 (nN 4 (x5,false))).2)=_
 rw[h1,h2]
theorem xP {st:RS}(h:st.2=true) (o:List RSig):∀ k,eU k o st=(o,st)
 | 0=>rfl
 | k+1=>by unfold eU;rw[X6 h]
theorem Bh {x:Str}{o:List RSig}{k:Nat}:eU (k+1) o (x,false)=eU k (o++[(eF (x,false)).1]) (eF (x,false)).2:=rfl
theorem tC {x:Str}{o:List RSig}{k:Nat}(h:(eF (x,false)).2.2=true) (hk:0<k):(eU k o (x,false)).2.2=true:=by
 obtain⟨j,rfl⟩:∃ j,k=j+1:=⟨k-1,om⟩
 rw[Bh,xP h]
 exact h
def tO (z:Str) (st:RS) (j:Nat):List D:=[.v (.string (bs z)),.i (if 0<j then nV 0 st else 0),.i (if 1<j then nV 1 st else 0),.i (if 2<j then nV 2 st else 0),.i (if 3<j then nV 3 st else 0),.v (.int .u64 0)]
theorem RStep.via {h h1 H2 h':H}{R n n1 m n':Nat}(a:RStep h h1 R n n1) (k : ∀ q,q<n->q≠R->H2 q=h1 q) (b:RStep H2 h' R m n') (hm:n1<=m):RStep h h' R n n' :=
 ⟨by have:=a.1;have:=b.1;omega,fun q q1 q2=>(b.2 q (by have:=a.1;omega) q2).trans ((k q q1 q2).trans (a.2 q q1 q2))⟩
theorem rv {h h1 H2 h':H}{R n n1 m n':Nat}(a:RStep h h1 R n n1) (b:RStep H2 h' R m n') (k : ∀ q,q<n->q≠R->H2 q=h1 q:=by intro q q1 q2;first|rfl|((try dsimp only);simp only[upd];repeat (first|rfl|rw[if_neg (by omega)]))) (hm:n1<=m:=by first|omega|(dsimp only;omega)):RStep h h' R n n':=a.via k b hm
theorem kp {h1 h2:H}{R n n' c:Nat}{v:Option Blk}(st:RStep h1 h2 R n n') (e:h1 c=v:=by simp only[go_sem,ff];first|done|exact rfl) (o1:c<n:=by first|omega|(dsimp only;omega)) (o2:c≠R:=by omega):h2 c=v:=(st.2 c o1 o2).trans e
theorem jB {k:Int}{x x':Str}(h:(ag k (x,false)).2=(x',false)):x'.length<=x.length:=by
 have:=fK k (x,false)
 rw[show (aH k (x,false)).2=(x',false) from h] at this
 exact this
theorem Nl {k:Int}{x x':Str}(h:(aH k (x,false)).2=(x',false)):x'.length<=x.length:=jB h
theorem xA {x x':Str}(h:(aj (x,false)).2=(x',false)):x'.length<=x.length:=by
 have h1:=fK (ag 1 (x,false)).1 (ag 1 (x,false)).2
 have h2:=fK 1 (x,false)
 rw[show aH (ag 1 (x,false)).1 (ag 1 (x,false)).2=aj (x,false) from rfl,h] at h1
 exact Yc h1 h2
theorem Rh {x x2 x3:Str}(h:(ag 2 (x,false)).2=(x2,false)) (h3:(aH ((ag 2 (x,false)).1:Nat) (x2,false)).2=(x3,false)):dN (x,false)=((aH ((ag 2 (x,false)).1:Nat) (x2,false)).1,(x3,false)):=by
 unfold dN
 rw[h]
 exact Prod.ext rfl h3
theorem FJ {st:RS}(h:(dN st).2.2=true):(dC st).2.2=true:=by
 unfold dC
 split
 .
  exact h
 rfl
theorem OI {st:RS}(h:(readF (dN st).1).2≠0):(dC st).2.2=true:=by
 unfold dC
 rw[XZ h]
theorem OH {st:RS}{b x3:Str}(h:dN st=(b,(x3,false))) (h2:(readF b).2=0):dC st=((readF b).1,(x3,false)):=by
 unfold dC
 rw[h,X6 h2]
theorem Bi {st:RS}(h:(dC st).2.2=true):(dI st).2.2=true:=by
 show (eU _ _ _).2.2=true
 rw[xP (lw h)]
 exact lw h
theorem OB {x x3:Str}{s:RSet}(h:dC (x,false)=(s,(x3,false))) (h2:(ag 1 (x3,false)).2.2=true):(dI (x,false)).2.2=true:=by
 show (eU _ _ _).2.2=true
 rw[h,xP h2]
 exact h2
theorem OA {x x3 x4:Str}{s:RSet}(h:dC (x,false)=(s,(x3,false))) (h2:(ag 1 (x3,false)).2=(x4,false)):dI (x,false)=(⟨s,(eU (ag 1 (x3,false)).1 [] (x4,false)).1⟩,(eU (ag 1 (x3,false)).1 [] (x4,false)).2):=by
 unfold dI
 simp only[h,h2]
set_option maxHeartbeats 2000000
theorem WO:bV Tryz.prog 196=true:=by kernel_rfl
theorem Jc (x:Str) (h:H) (n R:Nat) (hb:eQ h R x) (hx:x.length<=1000000000):gJ Tryz.prog 196 [.mptr R 0 0] h n (fun d h' n'=>∃ x':Str,(dI (x,false)).2=(x',false)/\d = .agg (dI (x,false)).1.d/\eQ h' R x'/\RStep h h' R n n') (fun c h' n'=>c=lv/\(dI (x,false)).2.2=true/\RStep h h' R n n'):=by
 refine sS Tryz.func196 rfl WO (by simp[Tryz.f196]) (fun hnone=>?_)
 unfold Tryz.f196
 have ff:=True.intro
 obtain⟨f,hR⟩:=hb
 have hRn:R<n:=by rcases YV R n with q|q;exact q;rw[hnone R q] at hR;cases hR
 have ff:=qD @hR (nG R n) (nH R n) ff
 refine aa Jl ?_
 refine bq ?_
 refine ek 1 (C:=Jl) (hct:=by exact Tx x _ _ R ⟨f,ev⟩ hx) (hp:=?_) (hk:=?_)
 .
  rintro c9 h9 n9 ⟨rfl,hbad,hst9⟩
  try simp only[dM,dR]
  exact eH _ (by exact⟨rfl,Bi (FJ (by unfold dN;exact Md hbad)),(rv (RStep.refl (h:=h) (R:=R) (XY n)) hst9)⟩) (hn:=XY _) (hh:=fun _=>.inl rfl)
 rintro res h2 n2 ⟨x2,hp2,rfl,hb2,hst2⟩
 try dsimp only at hst2
 have hl2:=hst2.1
 obtain⟨f2,hR2⟩:=hb2
 have hn2:h2 n=some ⟨66,[[.v (.string (bs [])),.i 0,.i 0,.list true [],.list true []]]⟩:=kp hst2
 have hs2:RStep h h2 R n n2:=(rv (RStep.refl (h:=h) (R:=R) (XY n)) hst2)
 have hul:(ag 2 (x,false)).1<256^2:=ko 2 (x,false)
 obtain⟨u,hue⟩:∃ u,u=(ag 2 (x,false)).1:=⟨_,rfl⟩
 try rw[<- hue]
 rw[<- hue] at hul
 have e1:=oG (u:=u) (by omega)
 have ff:=qF hR2 hn2 e1 (nG R n2) (nG n n2) ff
 have ff:=qG hR2 hn2 e1 (nH R n) (nG R n2) (nG n n2) ff
 have hx2:=Yc (jB hp2) hx
 refine aO Jl ?_
 try simp only[aG]
 refine bq ?_
 refine ek 2 (C:=Jl) (hct:=by exact zk x2 u _ _ R ⟨f2,ev⟩ hx2 om) (hp:=?_) (hk:=?_)
 .
  rintro c9 h9 n9 ⟨rfl,hbad,hst9⟩
  try simp only[dM,dR]
  exact eH _ (by exact⟨rfl,Bi (FJ (by unfold dN;rw[hp2,<- hue];exact hbad)),(rv hs2 hst9)⟩) (hn:=XY _) (hh:=fun _=>.inl rfl)
 rintro res h3 n3 ⟨x3,hp3,⟨f1,rfl⟩,hb3,hst3⟩
 try dsimp only at hst3
 have hl3:=hst3.1
 obtain⟨f3,hR3⟩:=hb3
 have hn3:h3 n=some ⟨66,[[.v (.string (bs [])),.i 0,.i 0,.list true [],.list true []]]⟩:=kp hst3
 have hs3:RStep h h3 R n n3:=(rv hs2 hst3)
 rw[hue] at hp3
 have hraw:=Rh hp2 hp3
 rw[<- hue] at hraw
 obtain⟨b,hbe⟩:∃ b,b=(aH u (x2,false)).1:=⟨_,rfl⟩
 rw[<- hbe] at hraw
 try rw[<- hbe]
 have ff:=qE hR3 hn3 (nG R n3) (nG n n3) ff
 refine aO Jl ?_ (hok:=oF (PE b))
 try simp only[aG]
 refine oK Jl (fun c1=>?_) (fun c1=>?_)
 .
  refine kM ?_;refine zz Jl 1 (d:=.v (fH dY)) (t:=290) (v:=.pointer (some dY)) ?_ (fun w g u hu=>hu.v_inv)
  try simp only[dM,dR]
  exact eH _ (by exact⟨rfl,Bi (OI (by rw[hraw];exact c1)),(rv hs3 (RStep.refl (XY _)))⟩) (hn:=XY _) (hh:=fun _=>.inl rfl)
 have hset:=OH hraw c1
 obtain⟨rs,hrs⟩:∃ rs,rs=(readF b).1:=⟨_,rfl⟩
 try rw[<- hrs]
 rw[<- hrs] at hset
 have hx3:=Yc (Nl hp3) hx2
 refine aa Jl ?_
 refine ae ?_
 refine nu (n3+14) 4 66 160 ev (by rfl) (by simp only[go_sem,ff]) ?_
 simp only[YL,YD]
 obtain⟨C,hCe⟩:∃ C,C=n3+14:=⟨_,rfl⟩
 rw[<- hCe]
 obtain⟨O,hOe⟩:∃ O,O=n3+16:=⟨_,rfl⟩
 rw[<- hOe]
 have ff:=qG (nH R n) (nH C R) (nH O R) (nH C n) (nH O n) (nH C O) ff
 refine bq ?_
 refine ek 1 (C:=Jl) (hct:=by exact CG x3 _ _ R ⟨f3,ev⟩ hx3) (hp:=?_) (hk:=?_)
 .
  rintro c9 h9 n9 ⟨rfl,hbad,hst9⟩
  try simp only[dM,dR]
  exact eH _ (by exact⟨rfl,OB hset hbad,(rv hs3 hst9)⟩) (hn:=XY _) (hh:=fun _=>.inl rfl)
 rintro res h4 n4 ⟨x4,hp4,rfl,hb4,hst4⟩
 try dsimp only at hst4
 have hl4:=hst4.1
 obtain⟨f4,hR4⟩:=hb4
 have hn4:h4 n=some ⟨66,[[.v (.string (bs [])),.i 0,.i 0,.list true [],.list true []]]⟩:=kp hst4
 have hC4:h4 C=some ⟨66,[[.v (.string (bs rs.name)),.i rs.ty,.i rs.life,.list false (rs.data.map Dat.d),.mrow O 0 0]]⟩:=kp hst4
 have hO4:h4 O=some ⟨160,[]⟩:=kp hst4
 have hs4:RStep h h4 R n n4:=(rv hs3 hst4)
 have hNl:(ag 1 (x3,false)).1<256^1:=ko 1 (x3,false)
 have hsg:=OA hset hp4
 obtain⟨N,hNe⟩:∃ N,N=(ag 1 (x3,false)).1:=⟨_,rfl⟩
 try rw[<- hNe]
 rw[<- hNe] at hNl hsg
 have ff:=qI hR4 hn4 hC4 hO4 (nG R n4) (nG n n4) (nG C n4) (nG O n4) ff
 have hx4:=Yc (jB hp4) hx3
 refine aO Jl ?_
 try simp only[aG]
 refine ah ?_
 refine dD (α:=(Nat)×(List RSig)×(Str)×(Nat)×(H)×Nat) [0,2,6,26] (fun ⟨k,o,xs,r,hq,nx⟩=>(k<=N)/\(eU N [] (x4,false)=eU (N-k) o (xs,false))/\(o.length=k)/\(eQ hq R xs)/\(hq C=some ⟨66,[[.v (.string (bs rs.name)),.i rs.ty,.i rs.life,.list false (rs.data.map Dat.d),.mrow r 0 k]]⟩)/\(hq r=some ⟨160,(o).map RSig.d⟩)/\(hq n=some ⟨66,[[.v (.string (bs [])),.i 0,.i 0,.list true [],.list true []]]⟩)/\(RStep h hq R n nx)/\(C<r)/\(r<nx)/\(xs.length<=1000000000)/\True) (fun ⟨k,o,xs,r,hq,nx⟩=>N-k) (fun ⟨k,o,xs,r,hq,nx⟩=>[(27,.v (.int .u64 ((k:Nat):Int)))]) (fun ⟨k,o,xs,r,hq,nx⟩=>hq) (fun ⟨k,o,xs,r,hq,nx⟩=>nx) (0,[],x4,O,h4,_) (hA:=⟨iv,rfl,rfl,(by first|(exact⟨f4,hR4⟩)|(dsimp only;exact⟨f4,hR4⟩)),(by first|(exact hC4)|(dsimp only;exact hC4)),(by first|(exact hO4)|(dsimp only;exact hO4)),(by first|(exact hn4)|(dsimp only;exact hn4)),(by first|(exact hs4.up om)|(dsimp only;exact hs4.up om)),(by first|(omega)|(dsimp only;omega)),(by first|(omega)|(dsimp only;omega)),iv,trivial⟩) (round:=?_)
 rintro⟨k,o,xs,r,hq,nx⟩ ⟨hk,hps,hol,hb7,hC,hr,hn,hst,hCr,hrx,hxl, -⟩
 simp only[X0,X3]
 obtain⟨fs,hR7⟩:=hb7
 have e7:=jW (n:=k+1) (by omega)
 have e7b:((k+1:Nat):Int)=(k:Int)+1:=by omega
 rw[e7b] at e7
 have ff:=qH @hR7 @hC @hr @hn @e7 (nG R nx) (nG n nx) (qI (nG C nx) (nG r nx) (nH R n) (nH C R) (nH R r) (nH C n) (nH n r) (nH C r) ff)
 refine aa Jl ?_
 refine ae ?_
 refine cd (fun c2=>?_) (fun c2=>?_)
 .
  have hk2:k<N:=by omega
  obtain⟨M,hM⟩:∃ M,N-k=M+1:=⟨N-k-1,om⟩;refine dw_skip ?_;refine ae ?_;refine ah ?_;refine bq ?_;refine ek 1 (C:=Jl) (hct:=by exact zi xs _ _ R ⟨fs,ev⟩ hxl) (hp:=?_) (hk:=?_)
  .
   rintro c9 h9 n9 ⟨rfl,hbad,hst9⟩
   try simp only[dM,dR]
   exact eH _ (by exact⟨rfl,by rw[hsg,hps];exact tC (Om hbad) (by omega),(rv hst hst9)⟩) (hn:=XY _) (hh:=fun _=>.inl rfl)
  rintro res h5 n5 ⟨x5,hp5,rfl,hb5,hst5⟩
  try dsimp only at hst5
  have hl5:=hst5.1;obtain⟨f5,hR5⟩:=hb5;have hn5:h5 n=some ⟨66,[[.v (.string (bs [])),.i 0,.i 0,.list true [],.list true []]]⟩:=kp hst5;have hC5:h5 C=some ⟨66,[[.v (.string (bs rs.name)),.i rs.ty,.i rs.life,.list false (rs.data.map Dat.d),.mrow r 0 k]]⟩:=kp hst5;have hr5:h5 r=some ⟨160,(o).map RSig.d⟩:=kp hst5;have hs5:RStep h h5 R n n5:=(rv hst hst5);obtain⟨zt,hzt⟩:∃ z,z=(aj (xs,false)).1:=⟨_,rfl⟩
  try rw[<- hzt]
  have ff:=qI hR5 hn5 hC5 hr5 (nG R n5) (nG n n5) (nG C n5) (nG r n5) ff;have hx5:=Yc (xA hp5) hxl;refine aO Jl ?_
  try simp only[aG]
  refine ae ?_;obtain⟨q,hqe⟩:∃ q,q=n5+3:=⟨_,rfl⟩;rw[<- hqe];simp only[kK];have ff:=qB (nH R n) (nH C R) (qI (nH R r) (nH R q) (nH C n) (nH n r) (nH n q) (nH C r) (nH C q) (nH q r) ff);refine aa Jl ?_;refine ah ?_;refine dD (α:=(Nat)×(Str)×(H)×Nat) [0,2,6,7,26,27,36,37] (fun ⟨j,xs2,hq2,nx⟩=>(j<=4)/\(nN j (x5,false)=(xs2,false))/\(eQ hq2 R xs2)/\(hq2 q=some ⟨160,[tO zt (x5,false) j]⟩)/\(RStep h5 hq2 R n5 nx)/\(q<nx)/\(xs2.length<=1000000000)/\True) (fun ⟨j,xs2,hq2,nx⟩=>4-j) (fun ⟨j,xs2,hq2,nx⟩=>[(38,.i j)]) (fun ⟨j,xs2,hq2,nx⟩=>hq2) (fun ⟨j,xs2,hq2,nx⟩=>nx) (0,x5,upd h5 q (some ⟨160,[tO zt (x5,false) 0]⟩),_) (hA:=⟨iv,rfl,(by (try dsimp only);exact⟨f5,by rw[upd_ne _ _ _ _ (by omega)];exact hR5⟩),(by first|(exact upd_same _ _ _)|(dsimp only;exact upd_same _ _ _)),(by (try dsimp only);exact⟨om,fun p p1 p2=>upd_ne _ _ _ _ (by omega)⟩),iv,(by first|(omega)|(dsimp only;omega)),trivial⟩) (round:=?_)
  rintro⟨j,xs2,hq2,nx⟩ ⟨hj,hN,hb10,hQ,hst7,hqx,hxl2, -⟩;simp only[X0,X3];obtain⟨fs2,hR10⟩:=hb10;have ff:=qH @hR10 @hQ (nG q nx) (nG R nx) (nG n nx) (nG C nx) (nG r nx) ff;refine aa Jl ?_;refine ae ?_;refine cd (fun c3=>?_) (fun c3=>?_)
  .
   have hj2:j<4:=by omega
   refine dw_skip ?_;refine ae ?_;refine ah ?_
   rcases (by omega:j=0\/j=1\/j=2\/j=3) with rfl|rfl|rfl|rfl
   .
    have hQ:hq2 q=some ⟨160,[[.v (.string (bs zt)),.i 0,.i 0,.i 0,.i 0,.v (.int .u64 0)]]⟩:=hQ;have ff:=qA @hQ ff;refine aa Jl ?_;refine kM ?_;refine ek 2 (C:=Jl) (hct:=by exact oh xs2 _ _ R ⟨fs2,ev⟩ hxl2) (hp:=?_) (hk:=?_)
    .
     rintro c9 h9 n9 ⟨rfl,hbad,hst9⟩
     try simp only[dM,dR]
     exact eH _ (by exact⟨rfl,by rw[hsg,hps];exact tC (vz hp5 hN hbad (by omega)) (by omega),(RStep.via hs5 (fun _ _ _=>rfl) (hst7.trans (hst9.down oW)) (XY _))⟩) (hn:=XY _) (hh:=fun _=>.inl rfl)
    rintro res h8 n8 ⟨x8,hp8,rfl,hb8,hst8⟩
    try dsimp only at hst8
    have gW:=hst8.1;obtain⟨f8,hR8⟩:=hb8;have hQ8:h8 q=some ⟨160,[[.v (.string (bs zt)),.i 0,.i 0,.i 0,.i 0,.v (.int .u64 0)]]⟩:=kp hst8;have hv:=y5 hN;have ff:=qI hR8 hQ8 hv (nG R n8) (nG n n8) (nG C n8) (nG r n8) (nG q n8) ff;have hx8:=Yc (jB hp8) hxl2;refine aO Jl ?_
    try simp only[aG]
    refine ai Jl ?_
    show ∃ _,_
    exact au (1,x8,upd h8 q (some ⟨160,[tO zt (x5,false) 1]⟩),_) (h1:=⟨iv,(by first|(exact qi hN hp8)|(dsimp only;exact qi hN hp8)),(by (try dsimp only);exact⟨f8,by rw[upd_ne _ _ _ _ (by omega)];exact hR8⟩),(by first|(exact upd_same _ _ _)|(dsimp only;exact upd_same _ _ _)),(by (try dsimp only);exact (hst7.trans (hst8.down oW)).via (fun p p1 p2=>upd_ne _ _ _ _ (by omega)) (RStep.refl (Nat.le_refl _)) (by omega)),iv,iv,trivial⟩)
   .
    have hQ:hq2 q=some ⟨160,[[.v (.string (bs zt)),.i (nV 0 (x5,false)),.i 0,.i 0,.i 0,.v (.int .u64 0)]]⟩:=hQ;have ff:=qA @hQ ff;refine aa Jl ?_;refine kM ?_;refine ek 2 (C:=Jl) (hct:=by exact oh xs2 _ _ R ⟨fs2,ev⟩ hxl2) (hp:=?_) (hk:=?_)
    .
     rintro c9 h9 n9 ⟨rfl,hbad,hst9⟩
     try simp only[dM,dR]
     exact eH _ (by exact⟨rfl,by rw[hsg,hps];exact tC (vz hp5 hN hbad (by omega)) (by omega),(RStep.via hs5 (fun _ _ _=>rfl) (hst7.trans (hst9.down oW)) (XY _))⟩) (hn:=XY _) (hh:=fun _=>.inl rfl)
    rintro res h8 n8 ⟨x8,hp8,rfl,hb8,hst8⟩
    try dsimp only at hst8
    have gW:=hst8.1;obtain⟨f8,hR8⟩:=hb8;have hQ8:h8 q=some ⟨160,[[.v (.string (bs zt)),.i (nV 0 (x5,false)),.i 0,.i 0,.i 0,.v (.int .u64 0)]]⟩:=kp hst8;have hv:=y5 hN;have ff:=qI hR8 hQ8 hv (nG R n8) (nG n n8) (nG C n8) (nG r n8) (nG q n8) ff;have hx8:=Yc (jB hp8) hxl2;refine aO Jl ?_
    try simp only[aG]
    refine ai Jl ?_
    show ∃ _,_
    exact au (2,x8,upd h8 q (some ⟨160,[tO zt (x5,false) 2]⟩),_) (h1:=⟨iv,(by first|(exact qi hN hp8)|(dsimp only;exact qi hN hp8)),(by (try dsimp only);exact⟨f8,by rw[upd_ne _ _ _ _ (by omega)];exact hR8⟩),(by first|(exact upd_same _ _ _)|(dsimp only;exact upd_same _ _ _)),(by (try dsimp only);exact (hst7.trans (hst8.down oW)).via (fun p p1 p2=>upd_ne _ _ _ _ (by omega)) (RStep.refl (Nat.le_refl _)) (by omega)),iv,iv,trivial⟩)
   .
    have hQ:hq2 q=some ⟨160,[[.v (.string (bs zt)),.i (nV 0 (x5,false)),.i (nV 1 (x5,false)),.i 0,.i 0,.v (.int .u64 0)]]⟩:=hQ;have ff:=qA @hQ ff;refine aa Jl ?_;refine kM ?_;refine ek 2 (C:=Jl) (hct:=by exact oh xs2 _ _ R ⟨fs2,ev⟩ hxl2) (hp:=?_) (hk:=?_)
    .
     rintro c9 h9 n9 ⟨rfl,hbad,hst9⟩
     try simp only[dM,dR]
     exact eH _ (by exact⟨rfl,by rw[hsg,hps];exact tC (vz hp5 hN hbad (by omega)) (by omega),(RStep.via hs5 (fun _ _ _=>rfl) (hst7.trans (hst9.down oW)) (XY _))⟩) (hn:=XY _) (hh:=fun _=>.inl rfl)
    rintro res h8 n8 ⟨x8,hp8,rfl,hb8,hst8⟩
    try dsimp only at hst8
    have gW:=hst8.1;obtain⟨f8,hR8⟩:=hb8;have hQ8:h8 q=some ⟨160,[[.v (.string (bs zt)),.i (nV 0 (x5,false)),.i (nV 1 (x5,false)),.i 0,.i 0,.v (.int .u64 0)]]⟩:=kp hst8;have hv:=y5 hN;have ff:=qI hR8 hQ8 hv (nG R n8) (nG n n8) (nG C n8) (nG r n8) (nG q n8) ff;have hx8:=Yc (jB hp8) hxl2;refine aO Jl ?_
    try simp only[aG]
    refine ai Jl ?_
    show ∃ _,_
    exact au (3,x8,upd h8 q (some ⟨160,[tO zt (x5,false) 3]⟩),_) (h1:=⟨iv,(by first|(exact qi hN hp8)|(dsimp only;exact qi hN hp8)),(by (try dsimp only);exact⟨f8,by rw[upd_ne _ _ _ _ (by omega)];exact hR8⟩),(by first|(exact upd_same _ _ _)|(dsimp only;exact upd_same _ _ _)),(by (try dsimp only);exact (hst7.trans (hst8.down oW)).via (fun p p1 p2=>upd_ne _ _ _ _ (by omega)) (RStep.refl (Nat.le_refl _)) (by omega)),iv,iv,trivial⟩)
   have hQ:hq2 q=some ⟨160,[[.v (.string (bs zt)),.i (nV 0 (x5,false)),.i (nV 1 (x5,false)),.i (nV 2 (x5,false)),.i 0,.v (.int .u64 0)]]⟩:=hQ;have ff:=qA @hQ ff;refine aa Jl ?_;refine kM ?_;refine ek 2 (C:=Jl) (hct:=by exact oh xs2 _ _ R ⟨fs2,ev⟩ hxl2) (hp:=?_) (hk:=?_)
   .
    rintro c9 h9 n9 ⟨rfl,hbad,hst9⟩
    try simp only[dM,dR]
    exact eH _ (by exact⟨rfl,by rw[hsg,hps];exact tC (vz hp5 hN hbad (by omega)) (by omega),(RStep.via hs5 (fun _ _ _=>rfl) (hst7.trans (hst9.down oW)) (XY _))⟩) (hn:=XY _) (hh:=fun _=>.inl rfl)
   rintro res h8 n8 ⟨x8,hp8,rfl,hb8,hst8⟩
   try dsimp only at hst8
   have gW:=hst8.1;obtain⟨f8,hR8⟩:=hb8;have hQ8:h8 q=some ⟨160,[[.v (.string (bs zt)),.i (nV 0 (x5,false)),.i (nV 1 (x5,false)),.i (nV 2 (x5,false)),.i 0,.v (.int .u64 0)]]⟩:=kp hst8;have hv:=y5 hN;have ff:=qI hR8 hQ8 hv (nG R n8) (nG n n8) (nG C n8) (nG r n8) (nG q n8) ff;have hx8:=Yc (jB hp8) hxl2;refine aO Jl ?_
   try simp only[aG]
   refine ai Jl ?_
   show ∃ _,_
   exact au (4,x8,upd h8 q (some ⟨160,[tO zt (x5,false) 4]⟩),_) (h1:=⟨iv,(by first|(exact qi hN hp8)|(dsimp only;exact qi hN hp8)),(by (try dsimp only);exact⟨f8,by rw[upd_ne _ _ _ _ (by omega)];exact hR8⟩),(by first|(exact upd_same _ _ _)|(dsimp only;exact upd_same _ _ _)),(by (try dsimp only);exact (hst7.trans (hst8.down oW)).via (fun p p1 p2=>upd_ne _ _ _ _ (by omega)) (RStep.refl (Nat.le_refl _)) (by omega)),iv,iv,trivial⟩)
  obtain rfl:j=4:=by omega
  have hQ:hq2 q=some ⟨160,[[.v (.string (bs zt)),.i (nV 0 (x5,false)),.i (nV 1 (x5,false)),.i (nV 2 (x5,false)),.i (nV 3 (x5,false)),.v (.int .u64 0)]]⟩:=hQ;refine aB ?_;refine bq ?_;refine ek 1 (C:=Jl) (hct:=by exact oh xs2 _ _ R ⟨fs2,ev⟩ hxl2) (hp:=?_) (hk:=?_)
  .
   rintro c9 h9 n9 ⟨rfl,hbad,hst9⟩
   try simp only[dM,dR]
   exact eH _ (by exact⟨rfl,by rw[hsg,hps];exact tC (vz hp5 hN hbad (by omega)) (by omega),(RStep.via hs5 (fun _ _ _=>rfl) (hst7.trans (hst9.down oW)) (XY _))⟩) (hn:=XY _) (hh:=fun _=>.inl rfl)
  rintro res h9 n9 ⟨x9,hp9,rfl,hb9,hst9⟩
  try dsimp only at hst9
  have mP:=hst9.1;obtain⟨f9,hR9⟩:=hb9;have hQ9:h9 q=some ⟨160,[[.v (.string (bs zt)),.i (nV 0 (x5,false)),.i (nV 1 (x5,false)),.i (nV 2 (x5,false)),.i (nV 3 (x5,false)),.v (.int .u64 0)]]⟩:=kp hst9;have hs7:=hst7.trans (hst9.down oW);have hn9:=(hs7.2 n (by omega) (by omega)).trans hn5
  have hC9:=(hs7.2 C (by omega) (by omega)).trans hC5
  have hr9:=(hs7.2 r (by omega) (by omega)).trans hr5
  have hs9:=RStep.via hs5 (fun _ _ _=>rfl) hs7 (XY _)
  have hsig:=Oh hp5 hN hp9;rw[<- hzt] at hsig;have ff:=qE hR9 hQ9 hn9 hC9 (qI hr9 (nG R n9) (nG n n9) (nG C n9) (nG r n9) (nG q n9) (nH R n) (nH C R) (qI (nH R r) (nH R q) (nH C n) (nH n r) (nH n q) (nH C r) (nH C q) (nH q r) ff));have hx9:=Yc (jB hp9) hxl2;refine aO Jl ?_
  try simp only[aG]
  refine ai Jl ?_;refine ai Jl ?_
  show ∃ _,_
  exact au (k+1,o++[(eF (xs,false)).1],x9,(n9+8),_,_) (h1:=⟨iv,(by (try dsimp only);rw[hps,hM,Bh,hsig,show N-(k+1)=M by omega]),(by (try dsimp only);rw[List.length_append,hol];rfl),(by (try dsimp only);exact⟨f9,ev⟩),(by (try dsimp only);simp only[go_sem,ff];first|done|exact rfl),(by (try dsimp only);rw[hsig];simp only[go_sem,ff,List.map_append,List.map_cons,List.map_nil];first|done|exact rfl),(by (try dsimp only);simp only[go_sem,ff];first|done|exact rfl),(by (try dsimp only);exact (rv hs9 (RStep.refl (Nat.le_refl _)))),(by first|(omega)|(dsimp only;omega)),(by first|(omega)|(dsimp only;omega)),iv,trivial⟩) (h5:=fun _=>.inl rfl)
 have hk3:N-k=0:=by omega
 rw[hk3] at hps
 refine aB ?_
 refine kZ C 4 r (rows:=o.map RSig.d) (off:=0) (len:=k) ev rfl ev om (by simp[hol]) vS ?_
 simp only[X7,lF,YL,YD]
 refine aa Jl ?_
 refine aI ?_
 exact uy (.inr rfl) (_) (hh:=fun _=>.inl rfl) (hr:=oS (k:=by rw[hsg,hps,Yp (by simp[hol])];exact⟨xs,rfl,rfl,⟨fs,ev⟩,(rv hst (RStep.refl (XY _)))⟩))
end Go.Proofs.YtjngdcldglkolaaGreatDoor
namespace Go.Proofs.YtjngdcldglkolaaGreatDoor
open Go.DL Go.Str Go.Rec Go.Cmp Go.Zon Go.Jn
set_option maxRecDepth 10000
variable [Glob Tryz.prog] [Told]
theorem xU {st:RS}(h:st.2=true) (o:List Sgd):∀ k,fC k o st=(o,st)
 | 0=>rfl
 | k+1=>by unfold fC;rw[X6 h]
theorem xR {x:Str}{o:List Sgd}{k:Nat}:fC (k+1) o (x,false)=fC k (o++[(dI (x,false)).1]) (dI (x,false)).2:=rfl
theorem Fs {x:Str}{o:List Sgd}{k:Nat}(h:(dI (x,false)).2.2=true) (hk:0<k):(fC k o (x,false)).2.2=true:=by
 obtain⟨j,rfl⟩:∃ j,k=j+1:=⟨k-1,om⟩
 rw[xR,xU h]
 exact h
theorem Fj : ∀ (k:Nat) (o:List RSig) (st:RS),(eU k o st).2.1.length<=st.1.length
 | 0,_,_=>XY _
 | k+1,o,st=>by
  have h : ∀ st:RS,(eF st).2.1.length<=st.1.length:=by
   intro st;have t : ∀ k (st:RS),(ag k st).2.1.length<=st.1.length:=fun k st=>fK k st
   have a:=fK (ag 1 st).1 (ag 1 st).2;have b:=t 1 st;rw[yP];have e : ∀ k (st:RS),(nN k st).1.length<=st.1.length:=by
    intro k
    induction k with
    | zero=>exact fun _=>XY _
    | succ k ih=>exact fun st=>Yc (t 8 _) (ih st)
   exact Yc (e 5 _) (Yc a b)
  unfold eU
  split
  .
   exact XY _
  exact Yc (Fj k _ _) (h st)
theorem Fx {x x':Str}(h:(dI (x,false)).2=(x',false)):x'.length<=x.length:=by
 have h1:(dI (x,false)).2.1.length<=x.length:=by
  have t : ∀ k (st:RS),(ag k st).2.1.length<=st.1.length:=fun k st=>fK k st
  have a:=fK (ag 2 (x,false)).1 (ag 2 (x,false)).2;have b:=t 2 (x,false);have c:(dC (x,false)).2.1.length<=(dN (x,false)).2.1.length:=by
   unfold dC
   split<;>exact XY _
  exact Yc (Fj _ _ _) (Yc (t 1 _) (Yc c (Yc a b)))
 rw[h] at h1
 exact h1
theorem rA {st:RS}(h:st.2=true):(ed st).2.2=true:=by
 show (fC _ _ _).2.2=true
 rw[xU (lw h)]
 exact lw h
theorem Fz {st:RS}(h:(ag 4 st).2.2=true):(ed st).2.2=true:=by
 show (fC _ _ _).2.2=true
 rw[xU h]
 exact h
theorem Fy {x x4:Str}(h:(ag 4 (x,false)).2=(x4,false)):ed (x,false)=fC (ag 4 (x,false)).1 [] (x4,false):=by
 unfold ed
 rw[h]
theorem MH {st:RS}(h:(aj st).2.2=true):(cz st).2.2=true:=rA h
theorem Er {x x2:Str}(h:(aj (x,false)).2=(x2,false)) (h2:(ed (x2,false)).2.2=true):(cz (x,false)).2.2=true:=by
 show (ed _).2.2=true
 rw[h]
 exact h2
theorem MG {x x2:Str}(h:(aj (x,false)).2=(x2,false)):cz (x,false)=(⟨(aj (x,false)).1,(ed (x2,false)).1⟩,(ed (x2,false)).2):=by
 unfold cz
 rw[h]
theorem tZ {st:RS}(h:st.2=true) (o:List Qst):∀ k,eG k o st=(o,st)
 | 0=>rfl
 | k+1=>by unfold eG;rw[X6 h]
theorem BJ {x:Str}{o:List Qst}{k:Nat}:eG (k+1) o (x,false)=eG k (o++[(fV (x,false)).1]) (fV (x,false)).2:=rfl
theorem GJ {x:Str}{o:List Qst}{k:Nat}(h:(fV (x,false)).2.2=true) (hk:0<k):(eG k o (x,false)).2.2=true:=by
 obtain⟨j,rfl⟩:∃ j,k=j+1:=⟨k-1,om⟩
 rw[BJ,tZ h]
 exact h
theorem Qz {st:RS}(h:(aj st).2.2=true):(fV st).2.2=true:=lw h
theorem Qy {x x2:Str}(h:(aj (x,false)).2=(x2,false)) (h2:(ag 1 (x2,false)).2.2=true):(fV (x,false)).2.2=true:=by
 show (ag 1 (aj (x,false)).2).2.2=true
 rw[h]
 exact h2
theorem Qw {x x2 x3:Str}(h:(aj (x,false)).2=(x2,false)) (h2:(ag 1 (x2,false)).2=(x3,false)):fV (x,false)=(⟨(aj (x,false)).1,IntKind.i64.wrap (((ag 1 (x2,false)).1:Nat):Int)⟩,(x3,false)):=by
 unfold fV
 rw[h,h2]
 rfl
theorem VH {st:RS}(h:(aj st).2.2=true):(bA st).2.2=true:=by
 unfold bA
 simp only
 have h1:=lw (k:=8) h
 have h2:=lw (k:=8) h1
 have h3:=lw (k:=4) h2
 rw[tZ h3]
 exact rA h3
theorem VG {x x2:Str}(h:(aj (x,false)).2=(x2,false)) (h2:(ag 8 (x2,false)).2.2=true):(bA (x,false)).2.2=true:=by
 unfold bA
 simp only[h]
 have h3:=lw (k:=8) h2
 have h4:=lw (k:=4) h3
 rw[tZ h4]
 exact rA h4
theorem VF {x x2 x3:Str}(h:(aj (x,false)).2=(x2,false)) (h2:(ag 8 (x2,false)).2=(x3,false)) (h3:(ag 8 (x3,false)).2.2=true):(bA (x,false)).2.2=true:=by
 unfold bA
 simp only[h,h2]
 have h4:=lw (k:=4) h3
 rw[tZ h4]
 exact rA h4
theorem VE {x x2 x3 x4:Str}(h:(aj (x,false)).2=(x2,false)) (h2:(ag 8 (x2,false)).2=(x3,false)) (h3:(ag 8 (x3,false)).2=(x4,false)) (h4:(ag 4 (x4,false)).2.2=true):(bA (x,false)).2.2=true:=by
 unfold bA
 simp only[h,h2,h3]
 rw[tZ h4]
 exact rA h4
theorem VD {x x2 x3 x4 x5:Str}(h:(aj (x,false)).2=(x2,false)) (h2:(ag 8 (x2,false)).2=(x3,false)) (h3:(ag 8 (x3,false)).2=(x4,false)) (h4:(ag 4 (x4,false)).2=(x5,false)) :
  bA (x,false)=(⟨(aj (x,false)).1,IntKind.i64.wrap (((ag 8 (x2,false)).1:Nat):Int),IntKind.i64.wrap (((ag 8 (x3,false)).1:Nat):Int),(eG (ag 4 (x4,false)).1 [] (x5,false)).1,(ed (eG (ag 4 (x4,false)).1 [] (x5,false)).2).1⟩,(ed (eG (ag 4 (x4,false)).1 [] (x5,false)).2).2):=by
 unfold bA
 simp only[h,h2,h3,h4]
 rfl
set_option maxHeartbeats 2000000
theorem WU:bV Tryz.prog 145=true:=by kernel_rfl
theorem Tm (x:Str) (h:H) (n R:Nat) (hb:eQ h R x) (hx:x.length<=1000000000):gJ Tryz.prog 145 [.mptr R 0 0] h n (fun d h' n'=>∃ x':Str,(cz (x,false)).2=(x',false)/\d = .agg (cz (x,false)).1.d/\eQ h' R x'/\RStep h h' R n n') (fun c h' n'=>c=lv/\(cz (x,false)).2.2=true/\RStep h h' R n n'):=by
 refine sS Tryz.func145 rfl WU (by simp[Tryz.f145]) (fun hnone=>?_)
 unfold Tryz.f145
 have ff:=True.intro
 obtain⟨f,hR⟩:=hb
 have hRn:R<n:=by rcases YV R n with q|q;exact q;rw[hnone R q] at hR;cases hR
 have ff:=qD @hR (nG R n) (nH R n) ff
 refine aa Jl ?_
 refine bq ?_
 refine ek 1 (C:=Jl) (hct:=by exact zi x _ _ R ⟨f,ev⟩ hx) (hp:=?_) (hk:=?_)
 .
  rintro c9 h9 n9 ⟨rfl,hbad,hst9⟩
  try simp only[dM,dR]
  exact eH _ (by exact⟨rfl,MH hbad,(rv (RStep.refl (h:=h) (R:=R) (XY n)) hst9)⟩) (hn:=XY _) (hh:=fun _=>.inl rfl)
 rintro res h2 n2 ⟨x2,hp2,rfl,hb2,hst2⟩
 try dsimp only at hst2
 have hl2:=hst2.1
 obtain⟨f2,hR2⟩:=hb2
 have hn2:h2 n=some ⟨28,[[.v (.string (bs [])),.list true []]]⟩:=kp hst2
 have hs2:RStep h h2 R n n2:=(rv (RStep.refl (h:=h) (R:=R) (XY n)) hst2)
 have hze:=MG hp2
 obtain⟨zt,hzt⟩:∃ z,z=(aj (x,false)).1:=⟨_,rfl⟩
 try rw[<- hzt]
 rw[<- hzt] at hze
 have ff:=qE hR2 hn2 (nG R n2) (nG n n2) ff
 have hx2:=Yc (xA hp2) hx
 refine aO Jl ?_
 try simp only[aG]
 refine ae ?_
 refine nu (n2+3) 1 28 66 ev (by rfl) (by simp only[go_sem,ff]) ?_
 simp only[YL,YD]
 obtain⟨C,hCe⟩:∃ C,C=n2+3:=⟨_,rfl⟩
 rw[<- hCe]
 obtain⟨O,hOe⟩:∃ O,O=n2+5:=⟨_,rfl⟩
 rw[<- hOe]
 have ff:=qG (nH R n) (nH C R) (nH O R) (nH C n) (nH O n) (nH C O) ff
 refine bq ?_
 refine ek 1 (C:=Jl) (hct:=by exact zm x2 _ _ R ⟨f2,ev⟩ hx2) (hp:=?_) (hk:=?_)
 .
  rintro c9 h9 n9 ⟨rfl,hbad,hst9⟩
  try simp only[dM,dR]
  exact eH _ (by exact⟨rfl,Er hp2 (Fz hbad),(rv hs2 hst9)⟩) (hn:=XY _) (hh:=fun _=>.inl rfl)
 rintro res h4 n4 ⟨x4,hp4,rfl,hb4,hst4⟩
 try dsimp only at hst4
 have hl4:=hst4.1
 obtain⟨f4,hR4⟩:=hb4
 have hn4:h4 n=some ⟨28,[[.v (.string (bs [])),.list true []]]⟩:=kp hst4
 have hC4:h4 C=some ⟨28,[[.v (.string (bs zt)),.mrow O 0 0]]⟩:=kp hst4
 have hO4:h4 O=some ⟨66,[]⟩:=kp hst4
 have hs4:RStep h h4 R n n4:=(rv hs2 hst4)
 have hNl:(ag 4 (x2,false)).1<256^4:=ko 4 (x2,false)
 have hsg:=Fy hp4
 obtain⟨N,hNe⟩:∃ N,N=(ag 4 (x2,false)).1:=⟨_,rfl⟩
 try rw[<- hNe]
 rw[<- hNe] at hNl hsg
 have ff:=qI hR4 hn4 hC4 hO4 (nG R n4) (nG n n4) (nG C n4) (nG O n4) ff
 have hx4:=Yc (jB hp4) hx2
 refine aO Jl ?_
 try simp only[aG]
 refine ah ?_
 refine dD (α:=(Nat)×(List Sgd)×(Str)×(Nat)×(H)×Nat) [0,2,3,8] (fun ⟨k,o,xs,r,hq,nx⟩=>(k<=N)/\(fC N [] (x4,false)=fC (N-k) o (xs,false))/\(o.length=k)/\(eQ hq R xs)/\(hq C=some ⟨28,[[.v (.string (bs zt)),.mrow r 0 k]]⟩)/\(hq r=some ⟨66,(o).map Sgd.d⟩)/\(hq n=some ⟨28,[[.v (.string (bs [])),.list true []]]⟩)/\(RStep h hq R n nx)/\(C<r)/\(r<nx)/\(xs.length<=1000000000)/\True) (fun ⟨k,o,xs,r,hq,nx⟩=>N-k) (fun ⟨k,o,xs,r,hq,nx⟩=>[(9,.v (.int .u64 ((k:Nat):Int)))]) (fun ⟨k,o,xs,r,hq,nx⟩=>hq) (fun ⟨k,o,xs,r,hq,nx⟩=>nx) (0,[],x4,O,h4,_) (hA:=⟨iv,rfl,rfl,(by first|(exact⟨f4,hR4⟩)|(dsimp only;exact⟨f4,hR4⟩)),(by first|(exact hC4)|(dsimp only;exact hC4)),(by first|(exact hO4)|(dsimp only;exact hO4)),(by first|(exact hn4)|(dsimp only;exact hn4)),(by first|(exact hs4.up om)|(dsimp only;exact hs4.up om)),(by first|(omega)|(dsimp only;omega)),(by first|(omega)|(dsimp only;omega)),iv,trivial⟩) (round:=?_)
 rintro⟨k,o,xs,r,hq,nx⟩ ⟨hk,hps,hol,hb7,hC,hr,hn,hst,hCr,hrx,hxl, -⟩
 simp only[X0,X3]
 obtain⟨fs,hR7⟩:=hb7
 have e7:=jW (n:=k+1) (by omega)
 have e7b:((k+1:Nat):Int)=(k:Int)+1:=by omega
 rw[e7b] at e7
 have ff:=qH @hR7 @hC @hr @hn @e7 (nG R nx) (nG n nx) (qI (nG C nx) (nG r nx) (nH R n) (nH C R) (nH R r) (nH C n) (nH n r) (nH C r) ff)
 refine aa Jl ?_
 refine ae ?_
 refine cd (fun c1=>?_) (fun c1=>?_)
 .
  have hk2:k<N:=by omega
  obtain⟨M,hM⟩:∃ M,N-k=M+1:=⟨N-k-1,om⟩;refine dw_skip ?_;refine ae ?_;refine ah ?_;refine zZ Jl 3 4 5 [(1,11)] (R:=_) (X:=_) (hct:=by exact Jc xs _ _ R ⟨fs,ev⟩ hxl) (hkeep:=?kp16) (hFo:=?fo16) (hk:=?kk16) (hp:=?pp16)
  case kp16 =>
   rintro res h2 n2 ⟨_,_,_,_,hst9⟩ p hp r9 hrr;simp only[Yq] at hp;subst hp;simp only[go_sem,ff,sd,named,YE] at hrr ⊢;subst hrr;exact hst9.2 _ oW om
  case fo16 =>
   rintro res h2 n2 ⟨_,_,rfl,_,_⟩
   (try simp only[X8,X7,X4,Yf,S.put,Yr,Nat.reduceSub,Nat.reduceAdd,go_sem,ff]);all_goals exact ok0
  case pp16 =>
   rintro c9 h9 n9 ⟨rfl,hbad,hst9⟩ t9
   try simp only[dM,dR]
   exact eH _ (by exact⟨rfl,Er hp2 (by rw[hsg,hps];exact Fs hbad (by omega)),(rv hst hst9)⟩) (hn:=XY _) (hh:=fun _=>.inl rfl)
  rintro res h5 n5 ⟨x5,hp5,rfl,hb5,hst5⟩
  try dsimp only at hst5
  have hl5:=hst5.1;obtain⟨f5,hR5⟩:=hb5;have hn5:h5 n=some ⟨28,[[.v (.string (bs [])),.list true []]]⟩:=kp hst5;have hC5:h5 C=some ⟨28,[[.v (.string (bs zt)),.mrow r 0 k]]⟩:=kp hst5;have hr5:h5 r=some ⟨66,(o).map Sgd.d⟩:=kp hst5;have hs5:RStep h h5 R n n5:=(rv hst hst5);have ff:=qI hR5 hn5 hC5 hr5 (nG R n5) (nG n n5) (nG C n5) (nG r n5) ff;have hx5:=Yc (Fx hp5) hxl;have hsig:dI (xs,false)=((dI (xs,false)).1,(x5,false)):=Prod.ext rfl hp5;refine wC ?_;refine aO Jl ?_
  try simp only[aG]
  refine ai Jl ?_
  show ∃ _,_
  exact au (k+1,o++[(dI (xs,false)).1],x5,(n5+5),_,_) (h1:=⟨iv,(by (try dsimp only);rw[hps,hM,xR,hsig,show N-(k+1)=M by omega]),(by (try dsimp only);rw[List.length_append,hol];rfl),(by (try dsimp only);exact⟨f5,ev⟩),(by (try dsimp only);simp only[go_sem,ff];first|done|exact rfl),(by (try dsimp only);simp only[go_sem,ff,List.map_append,List.map_cons,List.map_nil];first|done|exact rfl),(by (try dsimp only);simp only[go_sem,ff];first|done|exact rfl),(by (try dsimp only);exact (rv hs5 (RStep.refl (Nat.le_refl _)))),(by first|(omega)|(dsimp only;omega)),(by first|(omega)|(dsimp only;omega)),iv,trivial⟩) (h5:=fun _=>.inl rfl)
 have hk3:N-k=0:=by omega
 rw[hk3] at hps
 refine aB ?_
 refine kZ C 1 r (rows:=o.map Sgd.d) (off:=0) (len:=k) ev rfl ev om (by simp[hol]) uh ?_
 simp only[X7,lF,YL,YD]
 refine aa Jl ?_
 refine aI ?_
 exact uy (.inr rfl) (_) (hh:=fun _=>.inl rfl) (hr:=oS (k:=by rw[hze,hsg,hps,Yp (by simp[hol])];exact⟨xs,rfl,rfl,⟨fs,ev⟩,(rv hst (RStep.refl (XY _)))⟩))
end Go.Proofs.YtjngdcldglkolaaGreatDoor
namespace Go.Proofs.YtjngdcldglkolaaGreatDoor
open Go.DL Go.Str Go.Rec Go.Cmp Go.Zon Go.Jn
set_option maxRecDepth 10000
variable [Glob Tryz.prog] [Told]
set_option maxHeartbeats 2000000
theorem WS:bV Tryz.prog 148=true:=by kernel_rfl
theorem TC (x:Str) (h:H) (n R:Nat) (hb:eQ h R x) (hx:x.length<=1000000000):gJ Tryz.prog 148 [.mptr R 0 0] h n (fun d h' n'=>∃ x':Str,(bA (x,false)).2=(x',false)/\d = .agg (bA (x,false)).1.d/\eQ h' R x'/\RStep h h' R n n') (fun c h' n'=>c=lv/\(bA (x,false)).2.2=true/\RStep h h' R n n'):=by
 refine sS Tryz.func148 rfl WS (by simp[Tryz.f148]) (fun hnone=>?_)
 unfold Tryz.f148
 have ff:=True.intro
 obtain⟨f,hR⟩:=hb
 have hRn:R<n:=by rcases YV R n with q|q;exact q;rw[hnone R q] at hR;cases hR
 have ff:=qD @hR (nG R n) (nH R n) ff
 refine aa Jl ?_
 refine bq ?_
 refine ek 1 (C:=Jl) (hct:=by exact zi x _ _ R ⟨f,ev⟩ hx) (hp:=?_) (hk:=?_)
 .
  rintro c9 h9 n9 ⟨rfl,hbad,hst9⟩
  try simp only[dM,dR]
  exact eH _ (by exact⟨rfl,VH hbad,(rv (RStep.refl (h:=h) (R:=R) (XY n)) hst9)⟩) (hn:=XY _) (hh:=fun _=>.inl rfl)
 rintro res h2 n2 ⟨x2,hp2,rfl,hb2,hst2⟩
 try dsimp only at hst2
 have hl2:=hst2.1
 obtain⟨f2,hR2⟩:=hb2
 have kn2:h2 n=some ⟨31,[[.v (.string (bs [])),.i 0,.i 0,.list true [],.list true []]]⟩:=kp hst2
 have hs2:RStep h h2 R n n2:=(rv (RStep.refl (h:=h) (R:=R) (XY n)) hst2)
 have hx2:=Yc (xA hp2) hx
 obtain⟨zt,ezt⟩:∃ v,v=(aj (x,false)).1:=⟨_,rfl⟩
 try rw[<- ezt]
 have ff:=qE hR2 kn2 (nG R n2) (nG n n2) ff
 refine aO Jl ?_
 try simp only[aG]
 obtain⟨C,hCe⟩:∃ C,C=n2+3:=⟨_,rfl⟩
 rw[<- hCe]
 have ff:=qD (nH R n) (nH C R) (nH C n) ff
 refine bq ?_
 refine ek 1 (C:=Jl) (hct:=by exact oh x2 _ _ R ⟨f2,ev⟩ hx2) (hp:=?_) (hk:=?_)
 .
  rintro c9 h9 n9 ⟨rfl,hbad,hst9⟩
  try simp only[dM,dR]
  exact eH _ (by exact⟨rfl,VG hp2 hbad,(rv hs2 hst9)⟩) (hn:=XY _) (hh:=fun _=>.inl rfl)
 rintro res h3 n3 ⟨x3,hp3,rfl,hb3,hst3⟩
 try dsimp only at hst3
 have hl3:=hst3.1
 obtain⟨f3,hR3⟩:=hb3
 have kn3:h3 n=some ⟨31,[[.v (.string (bs [])),.i 0,.i 0,.list true [],.list true []]]⟩:=kp hst3
 have kC3:h3 C=some ⟨31,[[.v (.string (bs zt)),.i 0,.i 0,.list true [],.list true []]]⟩:=kp hst3
 have hs3:RStep h h3 R n n3:=(rv hs2 hst3)
 have hx3:=Yc (jB hp3) hx2
 obtain⟨v2,ev2⟩:∃ v,v=(ag 8 (x2,false)).1:=⟨_,rfl⟩
 try rw[<- ev2]
 have ff:=qG hR3 kn3 kC3 (nG R n3) (nG n n3) (nG C n3) ff
 refine aO Jl ?_
 try simp only[aG]
 refine bq ?_
 refine ek 1 (C:=Jl) (hct:=by exact oh x3 _ _ R ⟨f3,ev⟩ hx3) (hp:=?_) (hk:=?_)
 .
  rintro c9 h9 n9 ⟨rfl,hbad,hst9⟩
  try simp only[dM,dR]
  exact eH _ (by exact⟨rfl,VF hp2 hp3 hbad,(rv hs3 hst9)⟩) (hn:=XY _) (hh:=fun _=>.inl rfl)
 rintro res h4 n4 ⟨x4,hp4,rfl,hb4,hst4⟩
 try dsimp only at hst4
 have hl4:=hst4.1
 obtain⟨f4,hR4⟩:=hb4
 have kn4:h4 n=some ⟨31,[[.v (.string (bs [])),.i 0,.i 0,.list true [],.list true []]]⟩:=kp hst4
 have kC4:h4 C=some ⟨31,[[.v (.string (bs zt)),.i (IntKind.i64.wrap ((v2:Nat):Int)),.i 0,.list true [],.list true []]]⟩:=kp hst4
 have hs4:RStep h h4 R n n4:=(rv hs3 hst4)
 have hx4:=Yc (jB hp4) hx3
 obtain⟨v3,ev3⟩:∃ v,v=(ag 8 (x3,false)).1:=⟨_,rfl⟩
 try rw[<- ev3]
 have ff:=qG hR4 kn4 kC4 (nG R n4) (nG n n4) (nG C n4) ff
 refine aO Jl ?_
 try simp only[aG]
 refine ae ?_
 refine nu C 3 31 86 ev (by rfl) (by simp only[go_sem,ff]) ?_
 simp only[YL,YD]
 obtain⟨r,hre⟩:∃ r,r=n4+5:=⟨_,rfl⟩
 rw[<- hre]
 have ff:=qG (nH R n) (nH C R) (nH R r) (nH C n) (nH n r) (nH C r) ff
 refine bq ?_
 refine ek 1 (C:=Jl) (hct:=by exact zm x4 _ _ R ⟨f4,ev⟩ hx4) (hp:=?_) (hk:=?_)
 .
  rintro c9 h9 n9 ⟨rfl,hbad,hst9⟩
  try simp only[dM,dR]
  exact eH _ (by exact⟨rfl,VE hp2 hp3 hp4 hbad,(rv hs4 hst9)⟩) (hn:=XY _) (hh:=fun _=>.inl rfl)
 rintro res h5 n5 ⟨x5,hp5,rfl,hb5,hst5⟩
 try dsimp only at hst5
 have hl5:=hst5.1
 obtain⟨f5,hR5⟩:=hb5
 have kn5:h5 n=some ⟨31,[[.v (.string (bs [])),.i 0,.i 0,.list true [],.list true []]]⟩:=kp hst5
 have kC5:h5 C=some ⟨31,[[.v (.string (bs zt)),.i (IntKind.i64.wrap ((v2:Nat):Int)),.i (IntKind.i64.wrap ((v3:Nat):Int)),.mrow r 0 0,.list true []]]⟩:=kp hst5
 have kr5:h5 r=some ⟨86,[]⟩:=kp hst5
 have hs5:RStep h h5 R n n5:=(rv hs4 hst5)
 have hx5:=Yc (jB hp5) hx4
 have hde:=VD hp2 hp3 hp4 hp5
 have hNl:(ag 4 (x4,false)).1<256^4:=ko 4 (x4,false)
 obtain⟨N,eN⟩:∃ v,v=(ag 4 (x4,false)).1:=⟨_,rfl⟩
 try rw[<- eN]
 rw[<- eN] at hNl hde
 rw[<- ezt,<- ev2,<- ev3] at hde
 have ff:=qI hR5 kn5 kC5 kr5 (nG R n5) (nG n n5) (nG C n5) (nG r n5) ff
 refine aO Jl ?_
 try simp only[aG]
 refine ah ?_
 refine dD (α:=(Nat)×(List Qst)×(Str)×(Nat)×(H)×Nat) [0,2,3,17] (fun ⟨k,o,xs,r,hq,nx⟩=>(k<=N)/\(eG N [] (x5,false)=eG (N-k) o (xs,false))/\(o.length=k)/\(eQ hq R xs)/\(hq C=some ⟨31,[[.v (.string (bs zt)),.i (IntKind.i64.wrap ((v2:Nat):Int)),.i (IntKind.i64.wrap ((v3:Nat):Int)),.mrow r 0 k,.list true []]]⟩)/\(hq r=some ⟨86,(o).map Qst.d⟩)/\(hq n=some ⟨31,[[.v (.string (bs [])),.i 0,.i 0,.list true [],.list true []]]⟩)/\(RStep h hq R n nx)/\(C<r)/\(r<nx)/\(xs.length<=1000000000)/\True) (fun ⟨k,o,xs,r,hq,nx⟩=>N-k) (fun ⟨k,o,xs,r,hq,nx⟩=>[(18,.v (.int .u64 ((k:Nat):Int)))]) (fun ⟨k,o,xs,r,hq,nx⟩=>hq) (fun ⟨k,o,xs,r,hq,nx⟩=>nx) (0,[],x5,r,h5,_) (hA:=⟨iv,rfl,rfl,(by first|(exact⟨f5,hR5⟩)|(dsimp only;exact⟨f5,hR5⟩)),(by first|(exact kC5)|(dsimp only;exact kC5)),(by first|(exact kr5)|(dsimp only;exact kr5)),(by first|(exact kn5)|(dsimp only;exact kn5)),(by first|(exact hs5.up om)|(dsimp only;exact hs5.up om)),(by first|(omega)|(dsimp only;omega)),(by first|(omega)|(dsimp only;omega)),iv,trivial⟩) (round:=?_)
 rintro⟨k,o,xs,r,hq,nx⟩ ⟨hk,hps,hol,hb7,hC,hr,hn,hst,hCr,hrx,hxl, -⟩
 simp only[X0,X3]
 obtain⟨fs,hR7⟩:=hb7
 have e7:=jW (n:=k+1) (by omega)
 have e7b:((k+1:Nat):Int)=(k:Int)+1:=by omega
 rw[e7b] at e7
 have ff:=qH @hR7 @hC @hr @hn @e7 (nG R nx) (nG n nx) (qI (nG C nx) (nG r nx) (nH R n) (nH C R) (nH R r) (nH C n) (nH n r) (nH C r) ff)
 refine aa Jl ?_
 refine ae ?_
 refine cd (fun c1=>?_) (fun c1=>?_)
 .
  have hk2:k<N:=by omega
  obtain⟨M,hM⟩:∃ M,N-k=M+1:=⟨N-k-1,om⟩;refine dw_skip ?_;refine ae ?_;refine ah ?_;refine bq ?_;refine ek 1 (C:=Jl) (hct:=by exact zi xs _ _ R ⟨fs,ev⟩ hxl) (hp:=?_) (hk:=?_)
  .
   rintro c9 h9 n9 ⟨rfl,hbad,hst9⟩
   try simp only[dM,dR]
   exact eH _ (by exact⟨rfl,by rw[hde,hps];exact rA (GJ (Qz hbad) (by omega)),(rv hst hst9)⟩) (hn:=XY _) (hh:=fun _=>.inl rfl)
  rintro res h6 n6 ⟨x6,hp6,rfl,hb6,hst6⟩
  try dsimp only at hst6
  have hl6:=hst6.1;obtain⟨f6,hR6⟩:=hb6;have kn6:h6 n=some ⟨31,[[.v (.string (bs [])),.i 0,.i 0,.list true [],.list true []]]⟩:=kp hst6;have kC6:h6 C=some ⟨31,[[.v (.string (bs zt)),.i (IntKind.i64.wrap ((v2:Nat):Int)),.i (IntKind.i64.wrap ((v3:Nat):Int)),.mrow r 0 k,.list true []]]⟩:=kp hst6;have kr6:h6 r=some ⟨86,(o).map Qst.d⟩:=kp hst6;have hs6:RStep h h6 R n n6:=(rv hst hst6);have hx6:=Yc (xA hp6) hxl;obtain⟨qt,eqt⟩:∃ v,v=(aj (xs,false)).1:=⟨_,rfl⟩
  try rw[<- eqt]
  have ff:=qI hR6 kn6 kC6 kr6 (nG R n6) (nG n n6) (nG C n6) (nG r n6) ff;refine aO Jl ?_
  try simp only[aG]
  obtain⟨q,hqe⟩:∃ q,q=n6+3:=⟨_,rfl⟩;rw[<- hqe];simp only[kK];have ff:=qB (nH R n) (nH C R) (qI (nH R r) (nH R q) (nH C n) (nH n r) (nH n q) (nH C r) (nH C q) (nH q r) ff);refine bq ?_;refine ek 1 (C:=Jl) (hct:=by exact CG x6 _ _ R ⟨f6,ev⟩ hx6) (hp:=?_) (hk:=?_)
  .
   rintro c9 h9 n9 ⟨rfl,hbad,hst9⟩
   try simp only[dM,dR]
   exact eH _ (by exact⟨rfl,by rw[hde,hps];exact rA (GJ (Qy hp6 hbad) (by omega)),(rv hs6 hst9)⟩) (hn:=XY _) (hh:=fun _=>.inl rfl)
  rintro res h7 n7 ⟨x7,hp7,rfl,hb7,hst7⟩
  try dsimp only at hst7
  have wy:=hst7.1;obtain⟨f7,hR7⟩:=hb7;have kn7:h7 n=some ⟨31,[[.v (.string (bs [])),.i 0,.i 0,.list true [],.list true []]]⟩:=kp hst7;have kC7:h7 C=some ⟨31,[[.v (.string (bs zt)),.i (IntKind.i64.wrap ((v2:Nat):Int)),.i (IntKind.i64.wrap ((v3:Nat):Int)),.mrow r 0 k,.list true []]]⟩:=kp hst7;have kr7:h7 r=some ⟨86,(o).map Qst.d⟩:=kp hst7;have kq7:h7 q=some ⟨86,[[.v (.string (bs qt)),.i 0]]⟩:=kp hst7;have hs7:RStep h h7 R n n7:=(rv hs6 hst7);have hx7:=Yc (jB hp7) hx6;have hqo:=Qw hp6 hp7;rw[<- eqt] at hqo;have ff:=qB hR7 kn7 (qI kC7 kr7 kq7 (nG R n7) (nG n n7) (nG C n7) (nG r n7) (nG q n7) ff);refine aO Jl ?_
  try simp only[aG]
  refine ai Jl ?_;refine ai Jl ?_
  show ∃ _,_
  exact au (k+1,o++[(fV (xs,false)).1],x7,(n7+9),_,_) (h1:=⟨iv,(by (try dsimp only);rw[hps,hM,BJ,hqo,show N-(k+1)=M by omega]),(by (try dsimp only);rw[List.length_append,hol];rfl),(by (try dsimp only);exact⟨f7,ev⟩),(by (try dsimp only);simp only[go_sem,ff];first|done|exact rfl),(by (try dsimp only);rw[hqo];simp only[go_sem,ff,List.map_append,List.map_cons,List.map_nil];first|done|exact rfl),(by (try dsimp only);simp only[go_sem,ff];first|done|exact rfl),(by (try dsimp only);exact (rv hs7 (RStep.refl (Nat.le_refl _)))),(by first|(omega)|(dsimp only;omega)),(by first|(omega)|(dsimp only;omega)),iv,trivial⟩) (h5:=fun _=>.inl rfl)
 have hk3:N-k=0:=by omega
 rw[hk3] at hps
 have hps:eG N [] (x5,false)=(o,(xs,false)):=hps
 obtain⟨DQ,hDQ⟩:∃ l,l=o:=⟨_,rfl⟩
 refine aB ?_
 refine ae ?_
 refine kZ C 3 r (rows:=o.map Qst.d) (off:=0) (len:=k) ev rfl ev om (by simp[hol]) Il ?_
 simp only[X7,lF,YL,YD]
 rw[Yp (by simp[hol]),<- hDQ]
 refine nu C 4 31 66 ev (by rfl) (by simp only[go_sem,ff]) ?_
 simp only[YL,YD]
 obtain⟨p,hpe⟩:∃ p,p=nx+1:=⟨_,rfl⟩
 rw[<- hpe]
 have ff:=qH (nH R n) (nH C R) (nH R p) (nH C n) (nH n p) (nH C p) (nH p r) ff
 refine bq ?_
 refine ek 1 (C:=Jl) (hct:=by exact zm xs _ _ R ⟨fs,ev⟩ hxl) (hp:=?_) (hk:=?_)
 .
  rintro c9 h9 n9 ⟨rfl,hbad,hst9⟩
  try simp only[dM,dR]
  exact eH _ (by exact⟨rfl,by rw[hde,hps];exact Fz hbad,(rv hst hst9)⟩) (hn:=XY _) (hh:=fun _=>.inl rfl)
 rintro res h8 n8 ⟨x8,hp8,rfl,hb8,hst8⟩
 try dsimp only at hst8
 have gW:=hst8.1
 obtain⟨f8,hR8⟩:=hb8
 have kn8:h8 n=some ⟨31,[[.v (.string (bs [])),.i 0,.i 0,.list true [],.list true []]]⟩:=kp hst8
 have kC8:h8 C=some ⟨31,[[.v (.string (bs zt)),.i (IntKind.i64.wrap ((v2:Nat):Int)),.i (IntKind.i64.wrap ((v3:Nat):Int)),.list false (DQ.map Qst.d),.mrow p 0 0]]⟩:=kp hst8
 have kp8:h8 p=some ⟨66,[]⟩:=kp hst8
 have hs8:RStep h h8 R n n8:=(rv hst hst8)
 have hx8:=Yc (jB hp8) hxl
 rw[hps,Fy hp8,<- hDQ] at hde
 have hMl:(ag 4 (xs,false)).1<256^4:=ko 4 (xs,false)
 obtain⟨M,eM⟩:∃ v,v=(ag 4 (xs,false)).1:=⟨_,rfl⟩
 try rw[<- eM]
 rw[<- eM] at hMl hde
 have ff:=qI hR8 kn8 kC8 kp8 (nG R n8) (nG n n8) (nG C n8) (nG p n8) ff
 refine aO Jl ?_
 try simp only[aG]
 refine ah ?_
 refine dD (α:=(Nat)×(List Sgd)×(Str)×(Nat)×(H)×Nat) [0,2,3,35] (fun ⟨k,o,xs2,p,hq2,nx⟩=>(k<=M)/\(fC M [] (x8,false)=fC (M-k) o (xs2,false))/\(o.length=k)/\(eQ hq2 R xs2)/\(hq2 C=some ⟨31,[[.v (.string (bs zt)),.i (IntKind.i64.wrap ((v2:Nat):Int)),.i (IntKind.i64.wrap ((v3:Nat):Int)),.list false (DQ.map Qst.d),.mrow p 0 k]]⟩)/\(hq2 p=some ⟨66,(o).map Sgd.d⟩)/\(hq2 n=some ⟨31,[[.v (.string (bs [])),.i 0,.i 0,.list true [],.list true []]]⟩)/\(RStep h hq2 R n nx)/\(C<p)/\(p<nx)/\(xs2.length<=1000000000)/\True) (fun ⟨k,o,xs2,p,hq2,nx⟩=>M-k) (fun ⟨k,o,xs2,p,hq2,nx⟩=>[(36,.v (.int .u64 ((k:Nat):Int)))]) (fun ⟨k,o,xs2,p,hq2,nx⟩=>hq2) (fun ⟨k,o,xs2,p,hq2,nx⟩=>nx) (0,[],x8,p,h8,_) (hA:=⟨iv,rfl,rfl,(by first|(exact⟨f8,hR8⟩)|(dsimp only;exact⟨f8,hR8⟩)),(by first|(exact kC8)|(dsimp only;exact kC8)),(by first|(exact kp8)|(dsimp only;exact kp8)),(by first|(exact kn8)|(dsimp only;exact kn8)),(by first|(exact hs8.up om)|(dsimp only;exact hs8.up om)),(by first|(omega)|(dsimp only;omega)),(by first|(omega)|(dsimp only;omega)),iv,trivial⟩) (round:=?_)
 rintro⟨k,o,xs2,p,hq2,nx⟩ ⟨hk,hps2,hol2,hb7,hC,hr,hn,hst2,hCr,hrx,hxl2, -⟩
 simp only[X0,X3]
 obtain⟨fs2,hR7⟩:=hb7
 have e7:=jW (n:=k+1) (by omega)
 have e7b:((k+1:Nat):Int)=(k:Int)+1:=by omega
 rw[e7b] at e7
 have ff:=qH @hR7 @hC @hr @hn @e7 (nG R nx) (nG n nx) (qI (nG C nx) (nG p nx) (nH R n) (nH C R) (nH R p) (nH C n) (nH n p) (nH C p) ff)
 refine aa Jl ?_
 refine ae ?_
 refine cd (fun c2=>?_) (fun c2=>?_)
 .
  have hk2:k<M:=by omega
  obtain⟨L,hL⟩:∃ L,M-k=L+1:=⟨M-k-1,om⟩;refine dw_skip ?_;refine ae ?_;refine ah ?_;refine zZ Jl 3 4 5 [(1,38)] (R:=_) (X:=_) (hct:=by exact Jc xs2 _ _ R ⟨fs2,ev⟩ hxl2) (hkeep:=?kp24) (hFo:=?fo24) (hk:=?kk24) (hp:=?pp24)
  case kp24 =>
   rintro res h2 n2 ⟨_,_,_,_,hst9⟩ p hp r9 hrr;simp only[Yq] at hp;subst hp;simp only[go_sem,ff,sd,named,YE] at hrr ⊢;subst hrr;exact hst9.2 _ oW om
  case fo24 =>
   rintro res h2 n2 ⟨_,_,rfl,_,_⟩
   (try simp only[X8,X7,X4,Yf,S.put,Yr,Nat.reduceSub,Nat.reduceAdd,go_sem,ff]);all_goals exact ok0
  case pp24 =>
   rintro c9 h9 n9 ⟨rfl,hbad,hst9⟩ t9
   try simp only[dM,dR]
   exact eH _ (by exact⟨rfl,by rw[hde,hps2];exact Fs hbad (by omega),(rv hst2 hst9)⟩) (hn:=XY _) (hh:=fun _=>.inl rfl)
  rintro res h9 n9 ⟨x9,hp9,rfl,hb9,hst9⟩
  try dsimp only at hst9
  have mP:=hst9.1;obtain⟨f9,hR9⟩:=hb9;have hn9:h9 n=some ⟨31,[[.v (.string (bs [])),.i 0,.i 0,.list true [],.list true []]]⟩:=kp hst9;have hC9:h9 C=some ⟨31,[[.v (.string (bs zt)),.i (IntKind.i64.wrap ((v2:Nat):Int)),.i (IntKind.i64.wrap ((v3:Nat):Int)),.list false (DQ.map Qst.d),.mrow p 0 k]]⟩:=kp hst9;have hp9b:h9 p=some ⟨66,(o).map Sgd.d⟩:=kp hst9;have hs9:RStep h h9 R n n9:=(rv hst2 hst9);have ff:=qI hR9 hn9 hC9 hp9b (nG R n9) (nG n n9) (nG C n9) (nG p n9) ff;have hx9:=Yc (Fx hp9) hxl2;have hsig:dI (xs2,false)=((dI (xs2,false)).1,(x9,false)):=Prod.ext rfl hp9;refine wC ?_;refine aO Jl ?_
  try simp only[aG]
  refine ai Jl ?_
  show ∃ _,_
  exact au (k+1,o++[(dI (xs2,false)).1],x9,(n9+5),_,_) (h1:=⟨iv,(by (try dsimp only);rw[hps2,hL,xR,hsig,show M-(k+1)=L by omega]),(by (try dsimp only);rw[List.length_append,hol2];rfl),(by (try dsimp only);exact⟨f9,ev⟩),(by (try dsimp only);simp only[go_sem,ff];first|done|exact rfl),(by (try dsimp only);simp only[go_sem,ff,List.map_append,List.map_cons,List.map_nil];first|done|exact rfl),(by (try dsimp only);simp only[go_sem,ff];first|done|exact rfl),(by (try dsimp only);exact (rv hs9 (RStep.refl (Nat.le_refl _)))),(by first|(omega)|(dsimp only;omega)),(by first|(omega)|(dsimp only;omega)),iv,trivial⟩) (h5:=fun _=>.inl rfl)
 have hk3:M-k=0:=by omega
 rw[hk3] at hps2
 refine aB ?_
 refine kZ C 4 p (rows:=o.map Sgd.d) (off:=0) (len:=k) ev rfl ev om (by simp[hol2]) uh ?_
 simp only[X7,lF,YL,YD]
 refine aa Jl ?_
 refine aI ?_
 exact uy (.inr rfl) (_) (hh:=fun _=>.inl rfl) (hr:=oS (k:=by rw[hde,hps2,Yp (by simp[hol2])];exact⟨xs2,rfl,rfl,⟨fs2,ev⟩,(rv hst2 (RStep.refl (XY _)))⟩))
end Go.Proofs.YtjngdcldglkolaaGreatDoor
namespace Go.Proofs.YtjngdcldglkolaaGreatDoor
open Go.RowKit Go.Extern.Stop Go.Stop Go.Extern Go.DL
theorem TJ (v:Value) (w:World):(Extern.ReflectliteType.typeOf #[.iface 290 v]).run Tryz.prog w = .ok (.iface 264 (.agg #[.pointer (some ⟨4,290,none⟩)])) w:=by kernel_rfl
def LA : Array Value -> Sem Value := Extern.ReflectliteType.method fun t => do Go.Extern.Rtype.noPackHeld "Comparable" t; pure (.bool (<- typeInfo t).comparable)
theorem TQ (w:World):(LA #[.agg #[.pointer (some ⟨4,290,none⟩)]]).run Tryz.prog w = .ok (.bool true) w:=by kernel_rfl
theorem TN (v : Value) (w : World) : (Go.method 424 264 v "Comparable").run Tryz.prog w = .ok (266, v) w := by kernel_rfl
theorem TR:(Tryz.prog.info? 290).map (·.comparable)=some true:=by kernel_rfl
theorem TL:(Tryz.prog.info? 313).map (·.size)=some 1:=by kernel_rfl
theorem TH (a:Addr) (w:World) :
  Calls Tryz.prog 146 #[.iface 290 (.pointer (some a)),.iface 290 (.pointer (some a))] w fun e w'=>e = .returned (.bool true)/\w'=w:=by
 obtain⟨i,hi,hcmp⟩:=Option.map_eq_some_iff.1 TR
 obtain⟨j,hj,hjs⟩:=Option.map_eq_some_iff.1 TL
 have h8:=@run_callFunc_extern Tryz.prog 197 _ Extern.ReflectliteType.typeOf Tryz.func197 (by kernel_rfl) (by kernel_rfl) (by kernel_rfl) (by kernel_rfl)
 have h32:=@run_callFunc_extern Tryz.prog 266 _ LA Tryz.func266 (by kernel_rfl) (by kernel_rfl) (by kernel_rfl) (by kernel_rfl)
 have tT:=TJ
 have cT:=TQ
 have mR:=TN
 have heq:=run_eql_iface_ptr_same (P:=Tryz.prog) w a Tryz.underlying125 Tryz.underlying290 hi hcmp hj
 go_enter Tryz.func146,Tryz.ntmps146
 go_wp2
 refine wp_loop_rounds 1 ?_
 rw[rounds_succ]
 go_wp2
 go_ret
 exact⟨rfl,rfl⟩
theorem TI (b:Addr) (w:World) :
  Calls Tryz.prog 146 #[.nilIface,.iface 290 (.pointer (some b))] w fun e w'=>e = .returned (.bool false)/\w'=w:=by
 have hn:=run_eql_iface_nil_left (P:=Tryz.prog) w 290 (.pointer (some b)) Tryz.underlying125
 go_enter Tryz.func146,Tryz.ntmps146
 go_wp2
 go_ret
 exact⟨rfl,rfl⟩
variable [Glob Tryz.prog] [Told]
noncomputable def uz (b:Bool):Value:=if b then fH dY else .nilIface
theorem G9 {x y z:Value}(h : ∀ w,Calls Tryz.prog 146 #[x,y] w fun e w'=>e = .returned z/\w'=w):PureCt Tryz.prog 146 [.v x,.v y] (.v z):=by
 refine⟨by kernel_rfl,rfl,fun w I vs hI hgr hr=>?_⟩
 obtain⟨a,l,rfl,h1,h2⟩:=hr.of_cons
 obtain⟨b,l2,rfl,h3,h4⟩:=h2.of_cons
 obtain rfl:=h1.v_inv
 obtain rfl:=h3.v_inv
 have h0:l2=[]:=X5 h4.1.symm
 subst h0
 refine (callsIn_wide.2 (h w)).mono ?_
 rintro e w' ⟨rfl,rfl⟩
 exact⟨z,rfl,⟨rfl,rfl,rfl,XY _,XY _,fun _ _=>rfl⟩,.v _⟩
@[go_sem] theorem Zbt (b:Bool):Go.Jn.isE (uz b)=b:=by cases b<;>rfl
theorem Jh (b:Bool):PureCt Tryz.prog 146 [.v (uz b),.v (fH dY)] (.b b):=by
 cases b
 .
  exact G9 fun w=>TI dY w
 exact G9 fun w=>TH dY w
end Go.Proofs.YtjngdcldglkolaaGreatDoor
namespace Go.Proofs.YtjngdcldglkolaaGreatDoor
open Go.DL Go.Str Go.Rec Go.Cmp Go.Zon
set_option maxRecDepth 10000
variable [Glob Tryz.prog] [Told]
theorem Ug (s:Str) (p:Str) (hs:s.length<=1000000):PureCt Tryz.prog 219 [.v (.string (bs s)),.v (.string (bs p))] (.b (hasSuf s p)):=by
 refine oO Tryz.func219 fun ff=>?_
 unfold Tryz.f219
 have e1:((s.length:Int)-p.length).toNat=s.length-p.length:=by omega
 have ff:=qA @e1 ff
 refine oC Jl ?_
 exact fo 0 (k:=by simp[hasSuf])
theorem JB (s:Str) (p:Str) (hs:s.length<=1000000):PureCt Tryz.prog 182 [.v (.string (bs s)),.v (.string (bs p))] (.b (hasSuf s p)):=by
 refine oO Tryz.func182 fun ff=>?_
 unfold Tryz.f182
 refine aa Jl ?_
 refine aa Jl ?_ (hok:=oF (Ug _ _ hs))
 exact fp 0
theorem Ig (s:Str) (z:Str):PureCt Tryz.prog 126 [.v (.string (bs s)),.v (.string (bs z))] (.tuple [.b (underV s z),.i (if nameOk s&&nameOk z then 0 else 11)]):=by
 refine oO Tryz.func126 fun ff=>?_
 unfold Tryz.f126
 refine aa Jl ?_
 refine oK Jl (fun c1=>?_) (fun c1=>?_) (hok:=oH u6)
 .
  refine aa Jl ?_;exact fo 1 (k:=by first|(simp_all [underV,under];done)|(simp;simp only[underV,under];grind))
 refine oK Jl (fun c2=>?_) (fun c2=>?_)
 .
  refine aa Jl ?_;exact fo 1 (k:=by first|(simp_all [underV,under];done)|(simp;simp only[underV,under];grind))
 have hn:=dO c1.1
 have hm:=dO c1.2
 have e1:((s.length:Int)-z.length-1).toNat=s.length-z.length-1:=by omega
 have ff:=qA @e1 ff
 refine aa Jl ?_ (hok:=by (try simp only[go_sem,ff]);all_goals (first|done|((repeat' (with_reducible apply And.intro))<;>first|(intros;exact JB _ _ om)|(intro h;simp at h;omega)|skip)))
 exact fo 1 (k:=by first|(simp_all [underV,under];done)|(simp;simp only[underV,under];grind))
theorem yc (s:Str) (hs:s.length<=1000):PureCt Tryz.prog 135 [.v (.string (bs s))] (.b (wild1 s)):=by
 refine oO Tryz.func135 fun ff=>?_
 unfold Tryz.f135
 refine aa Jl ?_
 refine aa Jl ?_ (hok:=by (try simp only[go_sem,ff]);all_goals (first|exact ok0|(apply tL<;>omega)|(intros;apply tL<;>omega)))
 rcases hps:partsOf s with _|⟨p0,ps⟩
 .
  have ff:=qA @hps ff;refine aa Jl ?_;exact fo 0 (k:=by simp[wild1,hps])
 have ff:=qA @hps ff
 refine aa Jl ?_
 exact fo 0 (k:=by simp[wild1,hps])
theorem Ew (a:Str) (s:Int) (b:Str) (t:Int):PureCt Tryz.prog 127 [.v (.string (bs a)),.i s,.v (.string (bs b)),.i t] (.i (qC ⟨a,s⟩ ⟨b,t⟩)):=by
 refine oO Tryz.func127 fun ff=>?_
 unfold Tryz.f127
 refine aa Jl ?_
 refine oK Jl (fun c1=>?_) (fun c1=>?_)
 .
  refine aa Jl ?_ (hok:=oF (Iz _ _));refine aa Jl ?_;exact fo 0 (k:=by simp[qC, *])
 refine aa Jl ?_ (hok:=by (try simp only[go_sem,ff]);all_goals (first|exact ok0|(apply wQ<;>omega)|(intros;apply wQ<;>omega)))
 exact fo 0 (k:=by simp[qC, *])
theorem wP (a:Qst) (b:Qst):PureCt Tryz.prog 107 [.agg a.d,.agg b.d] (.i (qC a b)):=by
 refine oO Tryz.func107 fun ff=>?_
 unfold Tryz.f107
 refine aa Jl ?_
 refine oK Jl (fun c1=>?_) (fun c1=>?_)
 .
  refine aa Jl ?_ (hok:=oF (Iz _ _));refine aa Jl ?_;exact fo 0 (k:=by simp[qC, *])
 refine aa Jl ?_ (hok:=by (try simp only[go_sem,ff]);all_goals (first|exact ok0|(apply wQ<;>omega)|(intros;apply wQ<;>omega)))
 exact fo 0 (k:=by simp[qC, *])
theorem UO (t:Int) (a:Bool):PureCt Tryz.prog 128 [.i t,.b a] (.b (fits t a)):=by
 refine oO Tryz.func128 fun ff=>?_
 unfold Tryz.f128
 refine aa Jl ?_
 refine ae ?_
 refine aa Jl ?_
 refine ah ?_
 refine oL Jl (fun c1=>?_) (fun c1=>?_)
 .
  refine cd (fun c2=>?_) (fun c2=>?_)
  .
   refine aa Jl ?_;exact fo 0 (k:=by simp_all [fits])
  refine oL Jl (fun c3=>?_) (fun c3=>?_)
  .
   refine cd (fun c4=>?_) (fun c4=>?_)
   .
    refine aa Jl ?_;exact fo 0 (k:=by simp_all [fits])
   refine dw_skip ?_;refine aa Jl ?_;exact fo 0 (k:=by simp_all [fits])
  refine ai Jl ?_;refine cd (fun c5=>?_) (fun c5=>?_)
  .
   refine aa Jl ?_;exact fo 0 (k:=by simp_all [fits])
  refine dw_skip ?_;refine aa Jl ?_;exact fo 0 (k:=by simp_all [fits])
 refine ai Jl ?_
 refine cd (fun c6=>?_) (fun c6=>?_)
 .
  refine aa Jl ?_;exact fo 0 (k:=by simp_all [fits])
 refine oL Jl (fun c7=>?_) (fun c7=>?_)
 .
  refine cd (fun c8=>?_) (fun c8=>?_)
  .
   refine aa Jl ?_;exact fo 0 (k:=by simp_all [fits])
  refine dw_skip ?_;refine aa Jl ?_;exact fo 0 (k:=by simp_all [fits])
 refine ai Jl ?_
 refine cd (fun c9=>?_) (fun c9=>?_)
 .
  refine aa Jl ?_;exact fo 0 (k:=by simp_all [fits])
 refine dw_skip ?_
 refine aa Jl ?_
 exact fo 0 (k:=by simp_all [fits])
theorem PG (t:Int) (a:Bool):PureCt Tryz.prog 138 [.i t,.b a] (.b (fits t a)):=by
 refine oO Tryz.func138 fun ff=>?_
 unfold Tryz.f138
 refine aa Jl ?_
 refine oK Jl (fun c1=>?_) (fun c1=>?_)
 .
  refine aa Jl ?_;exact fo 0 (k:=by simp;simp only[fits];grind)
 refine aa Jl ?_
 exact fo 0 (k:=by simp;simp only[fits];grind)
theorem yg (q:Qst):PureCt Tryz.prog 63 [.agg q.d] (.b (qOk q)):=by
 refine oO Tryz.func63 fun ff=>?_
 unfold Tryz.f63
 refine aa Jl ?_
 refine aa Jl ?_ (hok:=oH fw)
 exact fo 0 (k:=by simp[qOk,inR,ZZ])
end Go.Proofs.YtjngdcldglkolaaGreatDoor
