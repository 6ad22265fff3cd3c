/-
  MANY TEXTS OF MINE IN ONE (a claim has a limit of files): JlW4, JfW6, JfW7, JfW8, JlW5. Conditions: none.
-/
import Derived.Test.YtjngdcldglkolaaGreatDoorMQM5
set_option linter.unusedVariables false
set_option linter.unusedSimpArgs false
set_option linter.unusedSectionVars false
set_option linter.defProp false
set_option linter.unnecessarySimpa false
namespace Go.Proofs.YtjngdcldglkolaaGreatDoor
open Go.DL Go.Str Go.Rec Go.Cmp Go.Zon Go.Jn
set_option maxRecDepth 10000
variable [Glob Tryz.prog] [Told]
noncomputable def hF1:Str:=frmB 1 (zonB exZ)
noncomputable def hF2:Str:=frmB 2 (dltB exX)
noncomputable def hY:Zon:=(applyP exZ exX).1
noncomputable def hD0:Dsk:=⟨[],[hF1]⟩
noncomputable def hT:Dsk:=⟨hF1.take 105,[]⟩
noncomputable def hD1:Dsk:=⟨hF1,[]⟩
noncomputable def hD2:Dsk:=⟨hF1,[hF2]⟩
noncomputable def hD3:Dsk:=⟨hF1++hF2,[]⟩
theorem hl1:beginF exZ=(hD0,0):=by kernel_rfl
theorem hl2:crashF hD0 0 105=(hT,0):=by kernel_rfl
theorem hl3:loadF hT=(zon0,42):=by kernel_rfl
theorem hl4:loadF hD0=(zon0,42):=by kernel_rfl
theorem hl5:syncF hD0=(hD1,0):=by kernel_rfl
theorem hl6:loadF hD1=(exZ,0):=by kernel_rfl
theorem wy:appendF hD1 exX=(hD2,0):=by kernel_rfl
theorem gW:loadF hD2=(exZ,0):=by kernel_rfl
theorem mP:syncF hD2=(hD3,0):=by kernel_rfl
theorem Jy:loadF hD3=(hY,0):=by kernel_rfl
theorem Jw:appendF hD3 exX=(dsk0,23):=by kernel_rfl
theorem hl12:applyP exZ exX=(hY,0):=by kernel_rfl
theorem hq1:hD0.pend.length=1:=rfl
theorem hq2:hD0.safe.length=0:=rfl
theorem hq3:hD0.pend.map byR=[[.list false (hF1.map bD)]]:=rfl
theorem hq4:hF1.length=106:=by kernel_rfl
theorem qy:hF2.length<=1000:=Zj (show decide (hF2.length<=1000)=true by kernel_rfl)
theorem hq6:sameZ exZ exZ=true:=by kernel_rfl
theorem qx:sameZ hY hY=true:=by kernel_rfl
theorem sz0:DskSz hD0:=⟨fun p hp=>by (rw[Yq.1 hp,hq4];decide),by decide,by decide⟩
theorem szT:DskSz hT:=⟨fun p hp=>(by cases hp),by (show (hF1.take 105).length<=_;rw[Yu,hq4];decide),by decide⟩
theorem sz1:DskSz hD1:=⟨fun p hp=>(by cases hp),by (show hF1.length<=_;rw[hq4];decide),by decide⟩
theorem sz2:DskSz hD2:=⟨fun p hp=>by (have:=qy;rw[Yq.1 hp];omega),by (show hF1.length<=_;rw[hq4];decide),by decide⟩
theorem sz3:DskSz hD3:=⟨fun p hp=>(by cases hp),by (have:=qy;have:=hq4;show (hF1++hF2).length<=_;rw[XV];omega),by decide⟩
theorem suZ:SumZ exZ:=by (intro s hs g hg;simp[exZ,mZ] at hs;rcases hs with rfl|rfl<;>simp at hg)
theorem suX:SumD exX:=by (intro s hs g hg;simp[exX,mZ] at hs;rcases hs with rfl|rfl<;>simp at hg)
theorem he2:PureCt Tryz.prog 13 [.agg exZ.d] (.tuple [.agg hD0.d,.i 0]):=by have:=Jm exZ suZ;rwa [hl1] at this
theorem he6:PureCt Tryz.prog 20 [.agg hD0.d,.i 0,.i 105] (.tuple [.agg hT.d,.i 0]):=by have:=Jk hD0 0 105 sz0;rwa [hl2] at this
theorem he7:PureCt Tryz.prog 22 [.agg hT.d] (.tuple [.agg zon0.d,.i 42]):=by have:=uq hT szT;rwa [hl3] at this
theorem he8:PureCt Tryz.prog 22 [.agg hD0.d] (.tuple [.agg zon0.d,.i 42]):=by have:=uq hD0 sz0;rwa [hl4] at this
theorem wB:PureCt Tryz.prog 18 [.agg hD0.d] (.tuple [.agg hD1.d,.i 0]):=by have:=CF hD0 sz0;rwa [hl5] at this
theorem he10:PureCt Tryz.prog 22 [.agg hD1.d] (.tuple [.agg exZ.d,.i 0]):=by have:=uq hD1 sz1;rwa [hl6] at this
theorem he11 (hp:dX exX.put):PureCt Tryz.prog 16 [.agg hD1.d,.agg exX.d] (.tuple [.agg hD2.d,.i 0]):=by have:=CK hD1 exX sz1 hp suX;rwa [wy] at this
theorem he12:PureCt Tryz.prog 22 [.agg hD2.d] (.tuple [.agg exZ.d,.i 0]):=by have:=uq hD2 sz2;rwa [gW] at this
theorem he13:PureCt Tryz.prog 18 [.agg hD2.d] (.tuple [.agg hD3.d,.i 0]):=by have:=CF hD2 sz2;rwa [mP] at this
theorem he14:PureCt Tryz.prog 22 [.agg hD3.d] (.tuple [.agg hY.d,.i 0]):=by have:=uq hD3 sz3;rwa [Jy] at this
theorem he15 (hp:dX exX.put):PureCt Tryz.prog 16 [.agg hD3.d,.agg exX.d] (.tuple [.agg dsk0.d,.i 23]):=by have:=CK hD3 exX sz3 hp suX;rwa [Jw] at this
theorem he16 (hp:dX exX.put):PureCt Tryz.prog 27 [.agg exZ.d,.agg exX.d] (.tuple [.agg hY.d,.i 0]):=by have:=Dx exZ exX hp;rwa [hl12] at this
theorem Dh:dX exX.put:=⟨by decide,by intro k hk;have:k=0\/k=1:=(by have:exX.put.length=2:=rfl;omega);rcases this with e|e<;>subst e<;>exact⟨by decide,by decide⟩⟩
theorem fitZ:dX exZ.sets:=xn (by kernel_rfl)
theorem fitY:dX hY.sets:=xn (by kernel_rfl)
theorem hq9:(106:Int)-1=105:=rfl
theorem he18:PureCt Tryz.prog 24 [.agg exZ.d,.agg exZ.d] (.b true):=by have:=Bl exZ exZ fitZ;rwa [hq6] at this
theorem he19:PureCt Tryz.prog 24 [.agg hY.d,.agg hY.d] (.b true):=by have:=Bl hY hY fitY;rwa [qx] at this
theorem hq0:0<hD0.pend.length:=by decide
theorem hq8:((hD0.pend[0]!.length:Nat):Int)=106:=by (show ((hF1.length:Nat):Int)=106;rw[hq4];rfl)
theorem Sw  : PureCt Tryz.prog 9 [] (.b true):=by
 refine oO Tryz.func9 fun ff=>?_
 unfold Tryz.f9
 have ff:=qD @hl1 @hl2 @hl3 (qI @hl4 @hl5 @hl6 @wy @gW @mP @Jy @Jw (qI @hl12 @hq1 @hq2 (jN hq0) @hq8 @hq9 @hq6 @qx ff))
 refine aa Jl ?_
 refine aa Jl ?_ (hok:=oF Sy)
 refine aa Jl ?_ (hok:=oF he2)
 refine oK Jl (fun c1=>?_) (fun c1=>?_) (hp:=rfl) (hq:=rfl)
 .
  simp at c1
 refine aa Jl ?_
 refine aa Jl ?_ (hok:=oH he6)
 refine aa Jl ?_ (hok:=oF he7)
 refine aa Jl ?_ (hok:=oF he8)
 refine aa Jl ?_ (hok:=oF wB)
 refine aa Jl ?_ (hok:=oF he10)
 refine aa Jl ?_ (hok:=oF (he11 Dh))
 refine aa Jl ?_ (hok:=oF he12)
 refine aa Jl ?_ (hok:=oF he13)
 refine aa Jl ?_ (hok:=oF he14)
 refine aa Jl ?_ (hok:=oF (he15 Dh))
 refine aa Jl ?_ (hok:=oF (he16 Dh))
 refine aa Jl ?_
 refine aa Jl ?_ (hok:=oI he18 he19)
 exact fp 0
end Go.Proofs.YtjngdcldglkolaaGreatDoor
namespace Go.Proofs.YtjngdcldglkolaaGreatDoor
open Go.DL Go.Str Go.Rec Go.Cmp Go.Zon Go.Jn
set_option maxRecDepth 10000
variable [Glob Tryz.prog] [Told]
theorem pW {d:Dsk}(hf:d.safe.length+(catB d.pend).length<=2000000) (h:openF d=none):PureCt Tryz.prog 40 [.agg d.d] (.tuple [.list false ((([]:Str)).map bD),.b false]):=by
 have:=GZ d hf
 rwa [show allR d=none by unfold allR;rw[h];rfl] at this
theorem pV {d:Dsk}{o:Opn}(hf:d.safe.length+(catB d.pend).length<=2000000) (h:openF d=some o):PureCt Tryz.prog 40 [.agg d.d] (.tuple [.list false ((o.whole++catB d.pend).map bD),.b true]):=by
 have:=GZ d hf
 rwa [show allR d=some (o.whole++catB d.pend) by unfold allR;rw[h];rfl] at this
theorem qX {d:Dsk}(h:openF d=none):(allR d).getD []=[]/\(allR d).isSome=false:=by unfold allR;rw[h];exact⟨rfl,rfl⟩
theorem qW {d:Dsk}{o:Opn}(h:openF d=some o):(allR d).getD []=o.whole++catB d.pend/\(allR d).isSome=true:=by unfold allR;rw[h];exact⟨rfl,rfl⟩
theorem QK (z:Zon) (hu:SumZ z):PureCt Tryz.prog 14 [.agg z.d] (.tuple [.agg (beginF z).1.d,.i (beginF z).2]):=by
 refine oO Tryz.func14 fun ff=>?_
 unfold Tryz.f14
 refine aa Jl ?_
 refine aa Jl ?_ (hok:=oF (vI z))
 refine oK Jl (fun c1=>?_) (fun c1=>?_)
 .
  rw[<- qZ] at c1;refine aa Jl ?_;exact fo 2 (k:=by rw[beginF,if_pos (by grind)];first|rfl|(simp;done))
 rw[<- qZ] at c1
 have hz:zoneOk z=true:=by grind
 have hzl:=(kJ hz).len
 have hzs:=En hz
 refine aa Jl ?_ (hok:=oH (QC z (Em hz hu) om om))
 refine oK Jl (fun c2=>?_) (fun c2=>?_)
 .
  refine aa Jl ?_;exact fo 2 (k:=by rw[beginF,if_neg (by grind),if_pos (by omega)];first|rfl|(simp;done))
 refine aa Jl ?_
 exact fo 2 (k:=by rw[beginF,if_neg (by grind),if_neg (by omega)];first|rfl|(simp;done))
theorem Qv (d:Dsk) (hf:d.safe.length+(catB d.pend).length<=2000000):PureCt Tryz.prog 19 [.agg d.d] (.tuple [.agg (syncF d).1.d,.i (syncF d).2]):=by
 refine oO Tryz.func19 fun ff=>?_
 unfold Tryz.f19
 refine aa Jl ?_
 rcases ho:openF d with _|o
 .
  have hag:=(qX ho).1;have has:=(qX ho).2;have ff:=qD @ho @hag @has ff;refine aa Jl ?_ (hok:=by (try simp only[go_sem,ff]);all_goals (first|exact pW hf ho|exact pV hf ho))
  refine ae ?_;refine aa Jl ?_;refine cd (fun c1=>?_) (fun c1=>?_) (hp:=rfl) (hq:=rfl)
  .
   refine aa Jl ?_;exact fo 2 (k:=by simp only[syncF,ho];first|rfl|(simp;done))
  simp at c1
 have hag:=(qW ho).1
 have has:=(qW ho).2
 have hos:=lI ho
 have hwh:=hos.2.2.1
 have hsz:o.size=(((o.whole++catB d.pend).length:Nat):Int):=by rw[hos.2.2.2.1,hwh,XV]
 have hpl:=qa d.safe
 have hwl:(o.whole++catB d.pend).length<=2000000:=by rw[XV,hwh];omega
 have ff:=qD @ho @hag @has ff
 refine aa Jl ?_ (hok:=by (try simp only[go_sem,ff]);all_goals (first|exact pW hf ho|exact pV hf ho))
 refine oK Jl (fun c1=>?_) (fun c1=>?_) (hp:=rfl) (hq:=rfl)
 .
  simp at c1
 refine oK Jl (fun c2=>?_) (fun c2=>?_)
 .
  have hsq:1000000<o.size:=by (rw[hsz];(try rw[XV]);(try rw[XV] at c2);omega)
  refine aa Jl ?_;exact fo 2 (k:=by simp only[syncF,ho];rw[X6 hsq];first|rfl|(simp;done))
 have hsq : ¬ 1000000<o.size:=by (rw[hsz];(try rw[XV]);(try rw[XV] at c2);omega)
 refine aa Jl ?_
 exact fo 2 (k:=by simp only[syncF,ho];rw[XZ hsq];first|rfl|(simp;done))
theorem QE (d:Dsk) (hf:d.safe.length+(catB d.pend).length<=2000000):PureCt Tryz.prog 23 [.agg d.d] (.tuple [.agg (loadF d).1.d,.i (loadF d).2]):=by
 refine oO Tryz.func23 fun ff=>?_
 unfold Tryz.f23
 refine aa Jl ?_
 rcases ho:openF d with _|o
 .
  have hag:=(qX ho).1;have has:=(qX ho).2;have ff:=qD @ho @hag @has ff;refine aa Jl ?_ (hok:=by (try simp only[go_sem,ff]);all_goals (first|exact pW hf ho|exact pV hf ho))
  refine ae ?_;refine aa Jl ?_;refine cd (fun c1=>?_) (fun c1=>?_) (hp:=rfl) (hq:=rfl)
  .
   refine aa Jl ?_;exact fo 2 (k:=by simp only[loadF,ho];first|rfl|(simp;done))
  simp at c1
 have hag:=(qW ho).1
 have has:=(qW ho).2
 have hos:=lI ho
 have hwh:=hos.2.2.1
 have hsz:o.size=(((o.whole++catB d.pend).length:Nat):Int):=by rw[hos.2.2.2.1,hwh,XV]
 have hpl:=qa d.safe
 have hwl:(o.whole++catB d.pend).length<=2000000:=by rw[XV,hwh];omega
 have ff:=qD @ho @hag @has ff
 refine aa Jl ?_ (hok:=by (try simp only[go_sem,ff]);all_goals (first|exact pW hf ho|exact pV hf ho))
 refine oK Jl (fun c1=>?_) (fun c1=>?_) (hp:=rfl) (hq:=rfl)
 .
  simp at c1
 refine aa Jl ?_ (hok:=oH (vJ d.safe om))
 refine oK Jl (fun c2=>?_) (fun c2=>?_)
 .
  have hE:endsB d.safe=[]:=X5 om;have hsv:wholeC d.safe=none:=whole_part.2 hE;refine aa Jl ?_;exact fo 2 (k:=by rw[za ho,hsv];first|rfl|(simp;done))
 have hE:endsB d.safe≠[]:=fun e=>by rw[e] at c2;simp at c2
 obtain⟨y,hy⟩:∃ y,wholeC d.safe=some y:=Option.ne_none_iff_exists'.1 (fun e=>hE (whole_part.1 e))
 have hz:wholeZ d.safe=y:=by rw[AP,hy];rfl
 refine aa Jl ?_
 exact fo 2 (k:=by first|(rw[za ho,hy,<- hz];done)|(rw[za ho,hy,<- hz];first|rfl|(simp;done)))
end Go.Proofs.YtjngdcldglkolaaGreatDoor
namespace Go.Proofs.YtjngdcldglkolaaGreatDoor
open Go.DL Go.Str Go.Rec Go.Cmp Go.Zon Go.Jn
set_option maxRecDepth 10000
variable [Glob Tryz.prog] [Told]
theorem Xu {d:Dsk}{o:Opn}(h:openF d=some o):wholeC (o.whole++catB d.pend)=o.all:=by
 obtain⟨_,_,h3,_⟩:=lI h
 rw[h3]
 exact (Rt h).1.symm
theorem QL (d:Dsk) (x:Dlt) (hf:d.safe.length+(catB d.pend).length<=2000000) (hu:SumD x):PureCt Tryz.prog 17 [.agg d.d,.agg x.d] (.tuple [.agg (appendF d x).1.d,.i (appendF d x).2]):=by
 refine oO Tryz.func17 fun ff=>?_
 unfold Tryz.f17
 refine aa Jl ?_
 rcases ho:openF d with _|o
 .
  have hag:=(qX ho).1;have has:=(qX ho).2;have ff:=qD @ho @hag @has ff;refine aa Jl ?_ (hok:=by (try simp only[go_sem,ff]);all_goals (first|exact pW hf ho|exact pV hf ho))
  refine aa Jl ?_ (hok:=oF (Bu x));refine ae ?_;refine aa Jl ?_;refine cd (fun c1=>?_) (fun c1=>?_) (hq:=rfl)
  .
   refine aa Jl ?_;exact fo 3 (k:=by simp only[appendF,ho];first|rfl|(simp;done))
  simp at c1
 have hag:=(qW ho).1
 have has:=(qW ho).2
 have hos:=lI ho
 have hwh:=hos.2.2.1
 have hsz:o.size=(((o.whole++catB d.pend).length:Nat):Int):=by rw[hos.2.2.2.1,hwh,XV]
 have hpl:=qa d.safe
 have hwl:(o.whole++catB d.pend).length<=2000000:=by rw[XV,hwh];omega
 have hal:=Xu ho
 have ff:=qD @ho @hag @has ff
 refine aa Jl ?_ (hok:=by (try simp only[go_sem,ff]);all_goals (first|exact pW hf ho|exact pV hf ho))
 refine aa Jl ?_ (hok:=oF (Bu x))
 refine oK Jl (fun c1=>?_) (fun c1=>?_)
 .
  have hnf:dltOk x=false:=by simpa using c1
  refine aa Jl ?_;exact fo 3 (k:=by simp only[appendF,ho];rw[X6 hnf];first|rfl|(simp;done))
 have hdx:dltOk x=true:=by simpa using c1
 have hdk:=dlt_iff.1 hdx
 refine aa Jl ?_ (hok:=oH (vJ (o.whole++catB d.pend) om))
 refine oK Jl (fun c2=>?_) (fun c2=>?_)
 .
  have hE:endsB (o.whole++catB d.pend)=[]:=X5 om;have hsv:o.all=none:=hal ▸ whole_part.2 hE;refine aa Jl ?_;exact fo 3 (k:=by rw[Mi ho hsv,hdx];first|rfl|(simp;done))
 have hE:endsB (o.whole++catB d.pend)≠[]:=fun e=>by rw[e] at c2;simp at c2
 obtain⟨y,hy⟩:∃ y,wholeC (o.whole++catB d.pend)=some y:=Option.ne_none_iff_exists'.1 (fun e=>hE (whole_part.1 e))
 have hsv:o.all=some y:=hal ▸ hy
 have hz:wholeZ (o.whole++catB d.pend)=y:=by rw[AP,hy];rfl
 have ff:=qA @hz ff
 rcases hA:applyP y x with⟨z,e⟩
 have hAR:applyR y x=(z,e):=by rw[D6];exact hA
 have ff:=qB @hAR @hA ff
 refine aa Jl ?_ (hok:=oV (BD y x))
 refine oK Jl (fun c3=>?_) (fun c3=>?_)
 .
  refine aa Jl ?_;exact fo 3 (k:=by rw[Mh ho hsv (by rw[hA];exact c3),hA,hdx];first|rfl|(simp;done))
 obtain rfl:e=0:=by omega
 have hxs:=KS hA hu
 have hxl:=KT hA
 have hpl2:=hdk.plen
 have hdl2:=hdk.dlen
 have hfl:=zJ 2 (dltB x)
 refine aa Jl ?_ (hok:=oH (QD x hxs hdk.plen hdk.dlen om))
 refine oK Jl (fun c4=>?_) (fun c4=>?_)
 .
  refine aa Jl ?_;exact fo 3 (k:=by rw[uM ho hsv hA,X6 (by omega)];first|rfl|(simp;done))
 refine oK Jl (fun c5=>?_) (fun c5=>?_)
 .
  have hsq:1000000<o.size+(frmB 2 (dltB x)).length:=by (rw[hsz];(try rw[XV]);(try rw[XV] at c5);omega)
  refine aa Jl ?_;exact fo 3 (k:=by rw[uM ho hsv hA,XZ (by omega),X6 hsq];first|rfl|(simp;done))
 have hsq : ¬ 1000000<o.size+(frmB 2 (dltB x)).length:=by (rw[hsz];(try rw[XV]);(try rw[XV] at c5);omega)
 refine aa Jl ?_ (hok:=oH (yJ d.safe om))
 refine oC Jl ?_
 refine kZ 59 1 72 (rows:=d.pend.map byR++[[.list false ((frmB 2 (dltB x)).map bD)]]) (off:=0) (len:=d.pend.length+1) ev rfl ev (by omega) (by simp) (by rw[<- vN];exact Im) ?_
 simp only[X7,YL,YD]
 refine aa Jl ?_
 exact fo 3 (k:=by rw[uM ho hsv hA,XZ (by omega),XZ hsq,hwh];(try simp only[go_sem,vN]);first|done|rfl|(simp;done))
end Go.Proofs.YtjngdcldglkolaaGreatDoor
namespace Go.Proofs.YtjngdcldglkolaaGreatDoor
open Go.DL Go.Str Go.Rec Go.Cmp Go.Zon Go.Jn
set_option maxRecDepth 10000
variable [Glob Tryz.prog] [Told]
theorem QJ (d:Dsk) (n:Int) (c:Int) (hf:d.safe.length+(catB d.pend).length<=2000000):PureCt Tryz.prog 21 [.agg d.d,.i n,.i c] (.tuple [.agg (crashF d n c).1.d,.i (crashF d n c).2]):=by
 refine oO Tryz.func21 fun ff=>?_
 unfold Tryz.f21
 refine aa Jl ?_
 rcases ho:openF d with _|o
 .
  have hag:=(qX ho).1;have has:=(qX ho).2;have ff:=qD @ho @hag @has ff;refine aa Jl ?_ (hok:=by (try simp only[go_sem,ff]);all_goals (first|exact pW hf ho|exact pV hf ho))
  refine ae ?_;refine aa Jl ?_;refine cd (fun c1=>?_) (fun c1=>?_) (hq:=rfl)
  .
   refine aa Jl ?_;exact fo 3 (k:=by simp only[crashF,ho];first|rfl|(simp;done))
  simp at c1
 have hag:=(qW ho).1
 have has:=(qW ho).2
 have hos:=lI ho
 have hwh:=hos.2.2.1
 have hpl:=qa d.safe
 have hp2:=hos.2.1
 have hwl:(o.whole++catB d.pend).length<=2000000:=by rw[XV,hwh];omega
 have ff:=qD @ho @hag @has ff
 refine aa Jl ?_ (hok:=by (try simp only[go_sem,ff]);all_goals (first|exact pW hf ho|exact pV hf ho))
 refine oK Jl (fun c1=>?_) (fun c1=>?_)
 .
  refine aa Jl ?_;exact fo 3 (k:=by simp only[crashF,ho];split;(first|rfl|(simp;done));rw[X6 (by omega)];first|rfl|(simp;done))
 obtain⟨N,rfl⟩:∃ N:Nat,n=(N:Int):=⟨n.toNat,om⟩
 obtain⟨M,rfl⟩:∃ M:Nat,c=(M:Int):=⟨c.toNat,om⟩
 have hN:N<=d.pend.length:=by omega
 have eN:((N:Int)).toNat=N:=by omega
 have eM:((M:Int)).toNat=M:=by omega
 have hcN:=o6 (l:=d.pend) N
 refine aa Jl ?_
 refine oK Jl (fun c2=>?_) (fun c2=>?_)
 .
  have hk0:N<d.pend.length:=by omega
  have hbr:gX d N=d.pend[N]! := by unfold gX;rw[X6 (by omega),eN]
  have hcs0:=o5 hk0;have hcl0:=o6 (l:=d.pend) (N+1);obtain⟨B,hB⟩:∃ B:Str,B=d.pend[N]!.take M:=⟨_,rfl⟩;have hbt:(d.pend[N]!.map bD).take M=B.map bD:=by rw[hB];exact ZQ.symm
  have hbB:(gX d N).take M=B:=by rw[hbr,hB]
  have ff:=qB (jN hk0) @hbt ff;refine ai Jl ?_;refine oK Jl (fun c3=>?_) (fun c3=>?_)
  .
   have hq:((gX d N).length:Int)<M:=by (rw[hbr];(try simp only[YF]);omega)
   refine aa Jl ?_;exact fo 3 (k:=by simp only[crashF,ho];rw[XZ (by omega),X6 (by omega)];first|rfl|(simp;done))
  have hq : ¬ ((gX d N).length:Int)<M:=by (rw[hbr];(try simp only[YF]);omega)
  have hml:M<=(gX d N).length:=by omega
  have hBM:B.length=M:=by (rw[<- hbB,Yu];omega)
  have hAl:(partB d.safe++catB (d.pend.take N)).length=(partB d.safe).length+(catB (d.pend.take N)).length:=XV;refine aa Jl ?_;refine aa Jl ?_ (hok:=oH (yJ d.safe om));refine ae ?_;refine aa Jl ?_;refine ah ?_;refine lp (α:=(Nat)×(Nat)×Nat) [1,2,3,6,10] (fun ⟨k,r,nx⟩=>(k<=N)/\(1<r)/\(r<nx)/\True) (fun ⟨k,r,nx⟩=>N-k) (fun ⟨k,r,nx⟩=>[(11,.mrow r 0 (partB d.safe++catB (d.pend.take k)).length),(12,.i k)]) (fun ⟨k,r,nx⟩=>[(0,⟨25,[d.d]⟩),(1,⟨25,[[.list true [],.list true []]]⟩),(r,⟨5,(partB d.safe++catB (d.pend.take k)).map bD⟩)]) (fun ⟨k,r,nx⟩=>nx) (0,48,_) (hA:=⟨iv,iv,iv,trivial⟩) (round:=?_)
  rintro⟨k,r,nx⟩ ⟨hk,hr1,hrx, -⟩;simp only[X0,X3];have n0:0<nx:=by omega
  have n1:1<nx:=by omega
  have ff:=qA @n0 (qI @n1 @hrx (nH 0 1) (nH 0 r) (nH 1 r) (nG 0 nx) (nG 1 nx) (nG r nx) ff);refine oL Jl (fun c4=>?_) (fun c4=>?_)
  .
   have hkN:k<N:=by omega
   have hk2:k<d.pend.length:=by omega
   have hcs:=o5 hk2;have hcl:=o6 (l:=d.pend) (k+1);have ff:=qA (jN hk2) ff;refine ae ?_;refine ah ?_;refine ai Jl ?_;refine ai Jl ?_
   show ∃ _,_
   have e9:=wU hk2;have e7 : ∀ a b:Str,(a++b).map bD=a.map bD++b.map bD:=fun a b=>YM
   have e5 : ∀ a b:Str,(a++b).length=a.length+b.length:=fun a b=>XV
   have e3 : ∀ a b c:List (List D),a++b++c=a++(b++c):=fun a b c=>Yz a b c
   have ff:=qF e9 e7 e5 e3 Nat.add_assoc ff;exact au (k+1,(nx+9),_) (h1:=⟨iv,iv,iv,trivial⟩)
  have e8:k=N:=by omega
  subst e8;have htl:(jC o d k M).length=(partB d.safe++catB (d.pend.take k)).length+B.length:=by (unfold jC;rw[eN,eM,hwh,hbB,XV (bs:=B)])
  refine aB ?_;refine aa Jl ?_;refine oK Jl (fun c5=>?_) (fun c5=>?_)
  .
   refine aa Jl ?_;exact fo 3 (k:=by simp only[crashF,ho];rw[XZ (by omega),XZ (by omega),X6 (by rw[htl];omega)];first|rfl|(simp;done))
  refine wM 11 (nx+7) (rows:=(partB d.safe++catB (d.pend.take k)).map bD++B.map bD) (off:=0) (len:=(partB d.safe++catB (d.pend.take k)).length+B.length) ev ev (by (simp only[XV,Zk];omega)) (by rw[<- YM];simp only[go_sem]) ?_
  simp only[X7];rw[Yp (l:=(partB d.safe++catB (d.pend.take k)).map bD++B.map bD) (by (simp only[XV,Zk];omega))]
  refine aa Jl ?_;exact fo 3 (k:=by simp only[crashF,ho];rw[XZ (by omega),XZ (by omega),XZ (by rw[htl];omega)];simp only[jC,hwh,eN,eM,hbB,YM];first|rfl|(simp;done)|(simp;exact hB))
 have hbr:gX d N=[]:=by unfold gX;rw[XZ (by omega)]
 obtain⟨B,hB⟩:∃ B:Str,B=[]:=⟨_,rfl⟩
 have hBm:B.map bD=[]:=by rw[hB];rfl
 have hBl:B.length=0:=by rw[hB];rfl
 have hbB:(gX d N).take M=B:=by rw[hbr,hB,List.take_nil]
 have ff:=qB @hBm @hBl ff
 refine oK Jl (fun c3=>?_) (fun c3=>?_)
 .
  have hq:((gX d N).length:Int)<M:=by (rw[hbr];(try simp only[YF]);omega)
  refine aa Jl ?_;exact fo 3 (k:=by simp only[crashF,ho];rw[XZ (by omega),X6 (by omega)];first|rfl|(simp;done))
 have hq : ¬ ((gX d N).length:Int)<M:=by (rw[hbr];(try simp only[YF]);omega)
 have hml:M<=(gX d N).length:=by omega
 have hBM:B.length=M:=by (rw[<- hbB,Yu];omega)
 have hAl:(partB d.safe++catB (d.pend.take N)).length=(partB d.safe).length+(catB (d.pend.take N)).length:=XV
 refine aa Jl ?_
 refine aa Jl ?_ (hok:=oH (yJ d.safe om))
 refine ae ?_
 refine aa Jl ?_
 refine ah ?_
 refine lp (α:=(Nat)×(Nat)×Nat) [1,2,3,6,10] (fun ⟨k,r,nx⟩=>(k<=N)/\(1<r)/\(r<nx)/\True) (fun ⟨k,r,nx⟩=>N-k) (fun ⟨k,r,nx⟩=>[(11,.mrow r 0 (partB d.safe++catB (d.pend.take k)).length),(12,.i k)]) (fun ⟨k,r,nx⟩=>[(0,⟨25,[d.d]⟩),(1,⟨25,[[.list true [],.list true []]]⟩),(r,⟨5,(partB d.safe++catB (d.pend.take k)).map bD⟩)]) (fun ⟨k,r,nx⟩=>nx) (0,42,_) (hA:=⟨iv,iv,iv,trivial⟩) (round:=?_)
 rintro⟨k,r,nx⟩ ⟨hk,hr1,hrx, -⟩
 simp only[X0,X3]
 have n0:0<nx:=by omega
 have n1:1<nx:=by omega
 have ff:=qA @n0 (qI @n1 @hrx (nH 0 1) (nH 0 r) (nH 1 r) (nG 0 nx) (nG 1 nx) (nG r nx) ff)
 refine oL Jl (fun c4=>?_) (fun c4=>?_)
 .
  have hkN:k<N:=by omega
  have hk2:k<d.pend.length:=by omega
  have hcs:=o5 hk2;have hcl:=o6 (l:=d.pend) (k+1);have ff:=qA (jN hk2) ff;refine ae ?_;refine ah ?_;refine ai Jl ?_;refine ai Jl ?_
  show ∃ _,_
  have e9:=wU hk2;have e7 : ∀ a b:Str,(a++b).map bD=a.map bD++b.map bD:=fun a b=>YM
  have e5 : ∀ a b:Str,(a++b).length=a.length+b.length:=fun a b=>XV
  have e3 : ∀ a b c:List (List D),a++b++c=a++(b++c):=fun a b c=>Yz a b c
  have ff:=qF e9 e7 e5 e3 Nat.add_assoc ff;exact au (k+1,(nx+9),_) (h1:=⟨iv,iv,iv,trivial⟩)
 have e8:k=N:=by omega
 subst e8
 have htl:(jC o d k M).length=(partB d.safe++catB (d.pend.take k)).length+B.length:=by (unfold jC;rw[eN,eM,hwh,hbB,XV (bs:=B)])
 refine aB ?_
 refine aa Jl ?_
 refine oK Jl (fun c5=>?_) (fun c5=>?_)
 .
  refine aa Jl ?_;exact fo 3 (k:=by simp only[crashF,ho];rw[XZ (by omega),XZ (by omega),X6 (by rw[htl];omega)];first|rfl|(simp;done))
 refine wM 11 (nx+7) (rows:=(partB d.safe++catB (d.pend.take k)).map bD++B.map bD) (off:=0) (len:=(partB d.safe++catB (d.pend.take k)).length+B.length) ev ev (by (simp only[XV,Zk];omega)) (by rw[<- YM];simp only[go_sem]) ?_
 simp only[X7]
 rw[Yp (l:=(partB d.safe++catB (d.pend.take k)).map bD++B.map bD) (by (simp only[XV,Zk];omega))]
 refine aa Jl ?_
 exact fo 3 (k:=by simp only[crashF,ho];rw[XZ (by omega),XZ (by omega),XZ (by rw[htl];omega)];simp only[jC,hwh,eN,eM,hbB,YM];first|rfl|(simp;done)|(simp;exact hB))
end Go.Proofs.YtjngdcldglkolaaGreatDoor
namespace Go.Proofs.YtjngdcldglkolaaGreatDoor
open Go.DL Go.Str Go.Rec Go.Cmp Go.Zon Go.Jn
set_option maxRecDepth 10000
variable [Glob Tryz.prog] [Told]
theorem Xf (z:Zon):(beginF z).1.pend.length<=1000000:=by
 unfold beginF
 split
 .
  decide
 split
 .
  decide
 exact (show 1<=1000000 by decide)
theorem Xq {d:Dsk}(x:Dlt) (h:d.pend.length<=20):(appendF d x).1.pend.length<=1000000:=by
 unfold appendF
 have h0:dsk0.pend.length<=1000000:=by decide
 repeat' split
 all_goals first|exact h0|(simp only[XV,List.length_singleton];omega)
theorem Nt (d:Dsk):(syncF d).1.pend.length<=1000000:=by
 unfold syncF
 have h0:dsk0.pend.length<=1000000:=by decide
 repeat' split
 all_goals first|exact h0|exact Yo _
theorem Wd (d:Dsk) (n c:Int):(crashF d n c).1.pend.length<=1000000:=by
 unfold crashF
 have h0:dsk0.pend.length<=1000000:=by decide
 repeat' split
 all_goals first|exact h0|exact Yo _
theorem Kh:dX zon0.sets:=⟨by decide,fun k hk=>absurd hk (Nat.not_lt_zero k)⟩
theorem Sv (d:Dsk):dX (loadF d).1.sets:=by
 cases ho:openF d with
 | none=>unfold loadF;rw[ho];exact Kh
 | some o =>
  rw[za ho]
  cases hw:wholeC d.safe with
  | none=>exact Kh
  | some z=>exact xn (MX hw).2.2
theorem yI (a:Dsk) (hl:a.pend.length<=1000000):PureCt Tryz.prog 15 [.agg a.d,.agg a.d] (.b true):=by
 have:=QB a a hl
 rwa [show sameK a a=true from Y1 rfl] at this
theorem Pw (a:Zon) (h:dX a.sets):PureCt Tryz.prog 24 [.agg a.d,.agg a.d] (.b true):=by
 have:=Bl a a h
 rwa [FO] at this
theorem Pi (a:Dsk):sameK a a=true:=Y1 rfl
theorem lawJM_ct (d:Dsk) (z:Zon) (x:Dlt) (n:Int) (c:Int) (hf:d.safe.length+(catB d.pend).length<=2000000) (hu:SumZ z) (hux:SumD x):PureCt Tryz.prog 3 [.agg d.d,.agg z.d,.agg x.d,.i n,.i c] (.b true):=by
 refine oO Tryz.func3 fun ff=>?_
 unfold Tryz.f3
 have ff:=qB @Pi @FO ff
 refine aa Jl ?_
 refine aa Jl ?_ (hok:=oF Sw)
 refine oK Jl (fun c1=>?_) (fun c1=>?_) (hok:=oJ (QI d hf) (Qn z) (PS x)) (hp:=rfl)
 .
  refine aa Jl ?_;exact fp 0
 have hfw:fewK d=true:=by grind
 have hfx:fewD x=true:=by grind
 have hd:=UX hfw
 have hp:=UW hfx
 have hp2:=(Kn hfw).1
 refine aa Jl ?_ (hok:=oF (Jm z hu))
 refine aa Jl ?_ (hok:=oF (QK z hu))
 refine aa Jl ?_ (hok:=oH (yI _ (Xf z)))
 refine aa Jl ?_ (hok:=oF (CK d x hd hp hux))
 refine aa Jl ?_ (hok:=oF (QL d x hf hux))
 refine aa Jl ?_ (hok:=oH (yI _ (Xq x hp2)))
 refine aa Jl ?_ (hok:=oF (CF d hd))
 refine aa Jl ?_ (hok:=oF (Qv d hf))
 refine aa Jl ?_ (hok:=oH (yI _ (Nt d)))
 refine aa Jl ?_ (hok:=oF (Jk d n c hd))
 refine aa Jl ?_ (hok:=oF (QJ d n c hf))
 refine aa Jl ?_ (hok:=oH (yI _ (Wd d n c)))
 refine aa Jl ?_ (hok:=oF (uq d hd))
 refine aa Jl ?_ (hok:=oF (QE d hf))
 refine aa Jl ?_ (hok:=oH (Pw _ (Sv d)))
 exact fp 0
end Go.Proofs.YtjngdcldglkolaaGreatDoor
