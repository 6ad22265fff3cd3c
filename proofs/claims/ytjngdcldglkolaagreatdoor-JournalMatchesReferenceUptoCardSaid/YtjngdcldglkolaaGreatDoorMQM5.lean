/-
  MANY TEXTS OF MINE IN ONE (a claim has a limit of files): ZoW2, ZoW3, ZoW4, ZoW5, ReW1, ReW2, ReW3, DlW1, DlW2, DlW4, DlW6, DlW8, DlW9, DlW10, DlW11, DlW12, JmW1, JmW2, JmW3, JmW4, JbW7, JbW8, JmW5, JmW6, JqW1, JrW1, JrW2, JrW3, JrW4, JqW2, JqW3, JqW4, JfW1, JfW2, JfW3, JfW4, JfW5, JlW2, JlW3. Conditions: none.
-/
import Derived.Test.YtjngdcldglkolaaGreatDoorMQM4
set_option linter.unusedVariables false
set_option linter.unusedSimpArgs false
set_option linter.unusedSectionVars false
set_option linter.defProp false
set_option linter.unnecessarySimpa false
namespace Go.Proofs.YtjngdcldglkolaaGreatDoor
open Go.DL Go.Str Go.Rec Go.Cmp Go.Zon
set_option maxRecDepth 10000
variable [Glob Tryz.prog] [Told]
theorem jG (s:Str) (z:Str) (hs:s.length<=1000) (hz:z.length<=1000):PureCt Tryz.prog 136 [.v (.string (bs s)),.v (.string (bs z))] (.b (inB s z)):=by
 refine oO Tryz.func136 fun ff=>?_
 unfold Tryz.f136
 refine aa Jl ?_
 refine aa Jl ?_ (hok:=oF (tL _ hs))
 refine aa Jl ?_ (hok:=oF (tL _ hz))
 refine oK Jl (fun c1=>?_) (fun c1=>?_)
 .
  refine aa Jl ?_;exact fo 0 (k:=by simp[inB];omega)
 have hp:=Hq s
 have hq:=Hq z
 refine ae ?_
 refine aa Jl ?_
 refine ah ?_
 refine lp (α:=(Nat)×Nat) [5,6] (fun ⟨k,nx⟩=>(k<=(partsOf z).length)/\(az (partsOf z).length (ow (partsOf s) (partsOf z)) 0=az (partsOf z).length (ow (partsOf s) (partsOf z)) k)/\True) (fun ⟨k,nx⟩=>(partsOf z).length-k) (fun ⟨k,nx⟩=>[(7,.i k)]) (fun ⟨k,nx⟩=>[]) (fun ⟨k,nx⟩=>nx) (0,_) (hA:=⟨iv,rfl,trivial⟩) (round:=?_)
 rintro⟨k,nx⟩ ⟨hk,hv, -⟩
 simp only[X0,X3]
 refine oL Jl (fun c2=>?_) (fun c2=>?_) (hp:=rfl)
 .
  have hk2:k<(partsOf z).length:=by simpa using c2
  have hk3:(partsOf s).length-(partsOf z).length+k<(partsOf s).length:=by omega
  have e1:(((partsOf s).length:Int)-(partsOf z).length+k).toNat=(partsOf s).length-(partsOf z).length+k:=by omega
  have ff:=qD @e1 (iq hk2) (iq hk3) ff;refine ae ?_;refine ah ?_;refine aa Jl ?_;refine cd (fun c3=>?_) (fun c3=>?_)
  .
   refine aa Jl ?_;exact fo 0 (k:=by have hF:(ow (partsOf s) (partsOf z)) k=false:=(by simp only[ow];grind);simp only[inB];rw[hv,bS hk2 hF];try simp)
  refine dw_skip ?_;refine ai Jl ?_
  show ∃ _,_
  have h8:(ow (partsOf s) (partsOf z)) k=true:=by simp only[ow];grind
  exact au (k+1,_) (h1:=⟨iv,(by first|(rw[hv,aY hk2 h8])|(dsimp only;rw[hv,aY hk2 h8])),trivial⟩)
 refine aB ?_
 refine aa Jl ?_
 exact fo 0 (k:=by simp only[inB];rw[hv,gp (by omega)];simp;omega)
theorem ML (l:List RSig) (a:Str):PureCt Tryz.prog 129 [.list false (l.map RSig.d),.v (.string (bs a))] (.b (sigsOk l a)):=by
 refine oO Tryz.func129 fun ff=>?_
 unfold Tryz.f129
 refine aa Jl ?_
 refine oK Jl (fun c1=>?_) (fun c1=>?_)
 .
  refine aa Jl ?_;exact fo 0 (k:=by simp[sigsOk];omega)
 refine ae ?_
 refine aa Jl ?_
 refine ah ?_
 refine lp (α:=(Nat)×Nat) [0,1,10,11] (fun ⟨k,nx⟩=>(k<=l.length)/\(az l.length (gu a l) 0=az l.length (gu a l) k)/\True) (fun ⟨k,nx⟩=>l.length-k) (fun ⟨k,nx⟩=>[(12,.i k)]) (fun ⟨k,nx⟩=>[]) (fun ⟨k,nx⟩=>nx) (0,_) (hA:=⟨iv,rfl,trivial⟩) (round:=?_)
 rintro⟨k,nx⟩ ⟨hk,hv, -⟩
 simp only[X0,X3]
 refine aa Jl ?_
 refine ae ?_
 refine cd (fun c2=>?_) (fun c2=>?_) (hp:=rfl)
 .
  have hk2:k<l.length:=by simpa using c2
  have h0:0<l.length:=by omega
  have hk1:k-1<l.length:=by omega
  have e1:((k:Int)-1).toNat=k-1:=by omega
  have ff:=qE (lV hk2) (lV h0) (lV hk1) @e1 ff;refine dw_skip ?_;refine ae ?_;refine ah ?_;refine aa Jl ?_;refine oK Jl (fun c3=>?_) (fun c3=>?_)
  .
   refine aa Jl ?_;exact fo 0 (k:=by have hF:(gu a l) k=false:=(by simp only[gu,inR];grind);simp only[sigsOk];rw[hv,bS hk2 hF];try simp)
  refine oK Jl (fun c4=>?_) (fun c4=>?_)
  .
   refine aa Jl ?_;exact fo 0 (k:=by have hF:(gu a l) k=false:=(by simp only[gu,inR];grind);simp only[sigsOk];rw[hv,bS hk2 hF];try simp)
  refine aa Jl ?_;refine cd (fun c5=>?_) (fun c5=>?_)
  .
   refine aa Jl ?_;exact fo 0 (k:=by have hF:(gu a l) k=false:=(by simp only[gu,inR];grind);simp only[sigsOk];rw[hv,bS hk2 hF];try simp)
  refine dw_skip ?_;refine ai Jl ?_
  show ∃ _,_
  have h8:(gu a l) k=true:=by simp only[gu,inR];grind
  exact au (k+1,_) (h1:=⟨iv,(by first|(rw[hv,aY hk2 h8])|(dsimp only;rw[hv,aY hk2 h8])),trivial⟩)
 refine aB ?_
 refine aa Jl ?_
 exact fo 0 (k:=by simp only[sigsOk];rw[hv,gp (by omega)];simp;omega)
theorem FX (l:List RSig) (a:Str):PureCt Tryz.prog 141 [.list false (l.map RSig.d),.v (.string (bs a))] (.b (sigsOk l a)):=by
 refine oO Tryz.func141 fun ff=>?_
 unfold Tryz.f141
 refine aa Jl ?_
 refine oK Jl (fun c1=>?_) (fun c1=>?_)
 .
  refine aa Jl ?_;exact fo 0 (k:=by simp[sigsOk];omega)
 refine ae ?_
 refine aa Jl ?_
 refine ah ?_
 refine lp (α:=(Nat)×Nat) [0,1] (fun ⟨k,nx⟩=>(k<=l.length)/\(az l.length (gu a l) 0=az l.length (gu a l) k)/\True) (fun ⟨k,nx⟩=>l.length-k) (fun ⟨k,nx⟩=>[(5,.i k)]) (fun ⟨k,nx⟩=>[]) (fun ⟨k,nx⟩=>nx) (0,_) (hA:=⟨iv,rfl,trivial⟩) (round:=?_)
 rintro⟨k,nx⟩ ⟨hk,hv, -⟩
 simp only[X0,X3]
 refine oL Jl (fun c2=>?_) (fun c2=>?_) (hp:=rfl)
 .
  have hk2:k<l.length:=by simpa using c2
  have h0:0<l.length:=by omega
  have hk1:k-1<l.length:=by omega
  have e1:((k:Int)-1).toNat=k-1:=by omega
  have ff:=qE (lV hk2) (lV h0) (lV hk1) @e1 ff;refine ae ?_;refine ah ?_;refine aa Jl ?_;refine oK Jl (fun c3=>?_) (fun c3=>?_)
  .
   refine aa Jl ?_;exact fo 0 (k:=by have hF:(gu a l) k=false:=(by simp only[gu,inR];grind);simp only[sigsOk];rw[hv,bS hk2 hF];try simp)
  refine aa Jl ?_;refine cd (fun c4=>?_) (fun c4=>?_)
  .
   refine aa Jl ?_;exact fo 0 (k:=by have hF:(gu a l) k=false:=(by simp only[gu,inR];grind);simp only[sigsOk];rw[hv,bS hk2 hF];try simp)
  refine dw_skip ?_;refine ai Jl ?_
  show ∃ _,_
  have h8:(gu a l) k=true:=by simp only[gu,inR];grind
  exact au (k+1,_) (h1:=⟨iv,(by first|(rw[hv,aY hk2 h8])|(dsimp only;rw[hv,aY hk2 h8])),trivial⟩)
 refine aB ?_
 refine aa Jl ?_
 exact fo 0 (k:=by simp only[sigsOk];rw[hv,gp (by omega)];simp;omega)
end Go.Proofs.YtjngdcldglkolaaGreatDoor
namespace Go.Proofs.YtjngdcldglkolaaGreatDoor
open Go.DL Go.Str Go.Rec Go.Cmp Go.Zon
set_option maxRecDepth 10000
variable [Glob Tryz.prog] [Told]
theorem Di {l:List Sgd}{q:Qst}{i j:Nat}(hv:findIx l q=jv (fun k=>qC l[k]!.q q) i j) (h:i<j):(qC l[(i+j) / 2]!.q q<0->findIx l q=jv (fun k=>qC l[k]!.q q) ((i+j) / 2+1) j)/\(¬ qC l[(i+j) / 2]!.q q<0->findIx l q=jv (fun k=>qC l[k]!.q q) i ((i+j) / 2)):=by
 rw[uH,X6 h] at hv
 exact⟨fun h2=>by rw[X6 h2] at hv;exact hv,fun h2=>by rw[XZ h2] at hv;exact hv⟩
theorem uT (s:Sgd) (q:Qst):PureCt Tryz.prog 160 [.agg s.d,.agg q.d] (.i (qC s.q q)):=by
 refine oO Tryz.func160 fun ff=>?_
 unfold Tryz.f160
 refine aa Jl ?_
 refine aa Jl ?_ (hok:=oF (Ew _ _ _ _))
 exact fp 0
theorem MM (l:List Sgd) (q:Qst) (hl:l.length<=1000000):PureCt Tryz.prog 159 [.list false (l.map Sgd.d),.agg q.d,.fn (.func 160) [] []] (.tuple [.i (findIx l q),.b (findOk l q)]):=by
 refine oO Tryz.func159 fun ff=>?_
 unfold Tryz.f159
 refine oD Jl ?_
 refine ae ?_
 refine ah ?_
 refine lp (α:=(Nat)×(Nat)×Nat) [0,2,4,8] (fun ⟨i,j,nx⟩=>(i<=j)/\(j<=l.length)/\(0<nx)/\(findIx l q=jv (fun k=>qC l[k]!.q q) i j)/\True) (fun ⟨i,j,nx⟩=>j-i) (fun ⟨i,j,nx⟩=>[(9,.i i),(10,.i j)]) (fun ⟨i,j,nx⟩=>[(0,⟨86,[q.d]⟩)]) (fun ⟨i,j,nx⟩=>nx) (0,l.length,_) (hA:=⟨iv,iv,iv,rfl,trivial⟩) (round:=?_)
 rintro⟨i,j,nx⟩ ⟨hij,hj,hx,hv, -⟩
 simp only[X0,X3]
 have ff:=qA @hx ff
 refine oL Jl (fun c1=>?_) (fun c1=>?_) (hp:=rfl)
 .
  have hk2:i<j:=by simpa using c1
  have hm:(i+j) / 2<l.length:=by omega
  have ff:=qB (R9 (i:=i) (j:=j) (by omega)) (bJ hm) ff
  refine ah ?_;refine aa Jl ?_;refine aa Jl ?_ (hok:=oH (uT l[(i+j) / 2]! q));refine cd (fun c2=>?_) (fun c2=>?_)
  .
   refine ai Jl ?_
   show ∃ _,_
   exact au ((i+j) / 2+1,j,_) (h1:=⟨iv,iv,iv,(by first|(exact (Di hv hk2).1 c2)|(dsimp only;exact (Di hv hk2).1 c2)),trivial⟩)
  refine ai Jl ?_
  show ∃ _,_
  exact au (i,(i+j) / 2,_) (h1:=⟨iv,iv,iv,(by (try dsimp only);exact (Di hv hk2).2 om),trivial⟩)
 refine aB ?_
 have hij2:i=j:=by have h9 : ¬ i<j:=(by simpa using c1);omega
 have hv2:findIx l q=i:=by rw[hv,uH,XZ (by omega)]
 by_cases hk4:i<l.length
 .
  have ff:=qA (bJ hk4) ff;refine aa Jl ?_ (hok:=by (try simp only[go_sem,ff]);all_goals (first|done|((repeat' (with_reducible apply And.intro))<;>first|(intros;exact uT l[i]! q)|omega|(intro h;have h:=Zj h;omega))))
  exact fo 1 (k:=by simp only[findOk];rw[hv2];simp[hk4])
 have ff:=qA (JL (f:=Sgd.d) (Nat.le_of_not_lt hk4)) ff
 refine aa Jl ?_ (hok:=by (try simp only[go_sem,ff]);all_goals (first|done|((repeat' (with_reducible apply And.intro))<;>first|(intros;exact uT l[i]! q)|omega|(intro h;have h:=Zj h;omega))))
 exact fo 1 (k:=by simp only[findOk];rw[hv2];simp[hk4])
theorem uS (z:Zon) (q:Qst) (hl:z.sets.length<=1000000):PureCt Tryz.prog 102 [.agg z.d,.agg q.d] (.tuple [.i (findIx z.sets q),.b (findOk z.sets q)]):=by
 refine oO Tryz.func102 fun ff=>?_
 unfold Tryz.f102
 refine aa Jl ?_
 refine aa Jl ?_ (hok:=oH (MM _ _ hl))
 exact fp 1
theorem El (z:Zon):PureCt Tryz.prog 69 [.agg z.d] (.b (ordered z)):=by
 refine oO Tryz.func69 fun ff=>?_
 unfold Tryz.f69
 refine aa Jl ?_
 refine oK Jl (fun c1=>?_) (fun c1=>?_) (hok:=oI qg zx)
 .
  refine aa Jl ?_;exact fo 0 (k:=by simp only[ordered];rw[ru] at *;grind)
 refine ae ?_
 refine aa Jl ?_
 refine ah ?_
 refine lp (α:=(Nat)×Nat) [1,28,29] (fun ⟨k,nx⟩=>(k<=z.sets.length)/\(az z.sets.length (iG z.apex z.sets) 0=az z.sets.length (iG z.apex z.sets) k)/\(0<nx)/\True) (fun ⟨k,nx⟩=>z.sets.length-k) (fun ⟨k,nx⟩=>[(30,.i k)]) (fun ⟨k,nx⟩=>[(0,⟨113,[z.d]⟩)]) (fun ⟨k,nx⟩=>nx) (0,_) (hA:=⟨iv,rfl,iv,trivial⟩) (round:=?_)
 rintro⟨k,nx⟩ ⟨hk,hv,hx, -⟩
 simp only[X0,X3]
 have ff:=qA @hx ff
 refine aa Jl ?_
 refine ae ?_
 refine cd (fun c2=>?_) (fun c2=>?_) (hp:=rfl)
 .
  have hk2:k<z.sets.length:=by simpa using c2
  have h0:0<z.sets.length:=by omega
  have hk1:k-1<z.sets.length:=by omega
  have e1:((k:Int)-1).toNat=k-1:=by omega
  have ff:=qE (bJ hk2) (bJ h0) (bJ hk1) @e1 ff;refine dw_skip ?_;refine ae ?_;refine ah ?_;refine aa Jl ?_;refine oK Jl (fun c3=>?_) (fun c3=>?_) (hok:=oF (tK _))
  .
   refine aa Jl ?_;exact fo 0 (k:=by have hF:(iG z.apex z.sets) k=false:=(by simp only[iG];grind [Sgd.q]);simp only[ordered];rw[hv,bS hk2 hF];try simp)
  refine ae ?_;refine aa Jl ?_ (hok:=oF (Ig _ _));refine aa Jl ?_;refine cd (fun c4=>?_) (fun c4=>?_)
  .
   refine aa Jl ?_;exact fo 0 (k:=by have hF:(iG z.apex z.sets) k=false:=(by simp only[iG];grind [Sgd.q]);simp only[ordered];rw[hv,bS hk2 hF];try simp)
  refine dw_skip ?_;refine oK Jl (fun c5=>?_) (fun c5=>?_)
  .
   refine aB ?_;refine ai Jl ?_
   show ∃ _,_
   have h8:(iG z.apex z.sets) k=true:=by simp only[iG];grind [Sgd.q]
   exact au (k+1,_) (h1:=⟨iv,(by first|(rw[hv,aY hk2 h8])|(dsimp only;rw[hv,aY hk2 h8])),iv,trivial⟩)
  refine aa Jl ?_;refine aa Jl ?_ (hok:=oF (Ew _ _ _ _));refine cd (fun c6=>?_) (fun c6=>?_)
  .
   refine aa Jl ?_;exact fo 0 (k:=by have hF:(iG z.apex z.sets) k=false:=(by simp only[iG];grind [Sgd.q]);simp only[ordered];rw[hv,bS hk2 hF];try simp)
  refine dw_skip ?_;refine ai Jl ?_
  show ∃ _,_
  have h8:(iG z.apex z.sets) k=true:=by simp only[iG];grind [Sgd.q]
  exact au (k+1,_) (h1:=⟨iv,(by first|(rw[hv,aY hk2 h8])|(dsimp only;rw[hv,aY hk2 h8])),iv,trivial⟩)
 refine aB ?_
 refine aa Jl ?_
 exact fo 0 (k:=by simp only[ordered];rw[ru] at *;rw[hv,gp (by omega)];grind)
theorem MN (z:Zon) (hl:z.sets.length<=1000000):PureCt Tryz.prog 70 [.agg z.d] (.b (apexHolds z)):=by
 refine oO Tryz.func70 fun ff=>?_
 unfold Tryz.f70
 refine aa Jl ?_
 refine ae ?_
 refine aa Jl ?_
 refine ah ?_
 refine lp (α:=(Nat)×Nat) [1,9,10] (fun ⟨k,nx⟩=>(k<=2)/\(az 2 (iP z) 0=az 2 (iP z) k)/\(0<nx)/\True) (fun ⟨k,nx⟩=>2-k) (fun ⟨k,nx⟩=>[(11,.i k)]) (fun ⟨k,nx⟩=>[(0,⟨113,[z.d]⟩)]) (fun ⟨k,nx⟩=>nx) (0,_) (hA:=⟨iv,rfl,iv,trivial⟩) (round:=?_)
 rintro⟨k,nx⟩ ⟨hk,hv1,hx, -⟩
 simp only[X0,X3]
 have ff:=qA @hx ff
 refine aa Jl ?_
 refine ae ?_
 refine cd (fun c1=>?_) (fun c1=>?_) (hp:=rfl)
 .
  have hk2:k<2:=by have h9:(k:Int)<2:=(by simpa using c1);omega
  refine dw_skip ?_;refine ae ?_;refine ah ?_;have h01:k=0\/k=1:=by omega
  rcases h01 with e0|e0
  .
   have ff:=qA @e0 ff;refine aa Jl ?_;refine aa Jl ?_ (hok:=oI (uS z ⟨z.apex,4⟩ hl) (uS z ⟨z.apex,2⟩ hl));refine aa Jl ?_;refine cd (fun c2=>?_) (fun c2=>?_)
   .
    refine aa Jl ?_;exact fo 0 (k:=by have hF:(iP z) k=false:=(by simpa [iP,e0] using c2);simp only[apexHolds];rw[hv1,bS hk2 hF];try simp)
   refine dw_skip ?_;refine ai Jl ?_
   show ∃ _,_
   have h8:(iP z) k=true:=by simpa [iP,e0] using c2
   exact au (k+1,_) (h1:=⟨iv,(by first|(rw[hv1,aY hk2 h8])|(dsimp only;rw[hv1,aY hk2 h8])),iv,trivial⟩)
  have ff:=qA @e0 ff;refine aa Jl ?_;refine aa Jl ?_ (hok:=oI (uS z ⟨z.apex,4⟩ hl) (uS z ⟨z.apex,2⟩ hl));refine aa Jl ?_;refine cd (fun c2=>?_) (fun c2=>?_)
  .
   refine aa Jl ?_;exact fo 0 (k:=by have hF:(iP z) k=false:=(by simpa [iP,e0] using c2);simp only[apexHolds];rw[hv1,bS hk2 hF];try simp)
  refine dw_skip ?_;refine ai Jl ?_
  show ∃ _,_
  have h8:(iP z) k=true:=by simpa [iP,e0] using c2
  exact au (k+1,_) (h1:=⟨iv,(by first|(rw[hv1,aY hk2 h8])|(dsimp only;rw[hv1,aY hk2 h8])),iv,trivial⟩)
 refine aB ?_
 refine ae ?_
 refine aa Jl ?_
 refine ah ?_
 refine lp (α:=(Nat)×Nat) [1,30,31] (fun ⟨k,nx⟩=>(k<=z.sets.length)/\(az z.sets.length (jO z.apex z.sets) 0=az z.sets.length (jO z.apex z.sets) k)/\(0<nx)/\True) (fun ⟨k,nx⟩=>z.sets.length-k) (fun ⟨k,nx⟩=>[(32,.i k)]) (fun ⟨k,nx⟩=>[(0,⟨113,[z.d]⟩)]) (fun ⟨k,nx⟩=>nx) (0,_) (hA:=⟨iv,rfl,iv,trivial⟩) (round:=?_)
 rintro⟨k,nx⟩ ⟨hk,hv,hx, -⟩
 simp only[X0,X3]
 have ff:=qA @hx ff
 refine aa Jl ?_
 refine ae ?_
 refine cd (fun c3=>?_) (fun c3=>?_) (hp:=rfl)
 .
  have hk2:k<z.sets.length:=by simpa using c3
  have ff:=qA (bJ hk2) ff;refine dw_skip ?_;refine ae ?_;refine ah ?_;refine aa Jl ?_;refine aa Jl ?_ (hok:=oF (UO _ _));refine cd (fun c4=>?_) (fun c4=>?_)
  .
   refine aa Jl ?_;exact fo 0 (k:=by have hF:(jO z.apex z.sets) k=false:=(by simp only[jO];grind);simp only[apexHolds];rw[hv,bS hk2 hF];try simp)
  refine dw_skip ?_;refine ai Jl ?_
  show ∃ _,_
  have h8:(jO z.apex z.sets) k=true:=by simp only[jO];grind
  exact au (k+1,_) (h1:=⟨iv,(by first|(rw[hv,aY hk2 h8])|(dsimp only;rw[hv,aY hk2 h8])),iv,trivial⟩)
 refine aB ?_
 refine aa Jl ?_
 exact fo 0 (k:=by simp only[apexHolds];rw[hv1,hv,gp (n:=2) (by omega),gp (by omega)];rfl)
end Go.Proofs.YtjngdcldglkolaaGreatDoor
namespace Go.Proofs.YtjngdcldglkolaaGreatDoor
open Go.DL Go.Str Go.Rec Go.Cmp Go.Zon
set_option maxRecDepth 10000
variable [Glob Tryz.prog] [Told]
@[go_sem] theorem keysOk_T {m:List Str}:gB Tryz.prog 9 (lQ m)=true:=by
 induction m with
 | nil=>rfl
 | cons s m ih=>rw[rX];simp only[gB,ih,ko9,ZT]
theorem Ex (x:Lay) (hl:x.z.sets.length<=1000000):PureCt Tryz.prog 72 [.agg x.d] (.b (aliasB x)):=by
 refine oO Tryz.func72 fun ff=>?_
 unfold Tryz.f72
 refine aa Jl ?_
 refine ae ?_
 refine aa Jl ?_
 refine ah ?_
 refine lp (α:=(Nat)×Nat) [1,8,9] (fun ⟨k,nx⟩=>(k<=x.z.sets.length)/\(az x.z.sets.length (iC x.z.sets) 0=az x.z.sets.length (iC x.z.sets) k)/\(0<nx)/\True) (fun ⟨k,nx⟩=>x.z.sets.length-k) (fun ⟨k,nx⟩=>[(10,.i k)]) (fun ⟨k,nx⟩=>[(0,⟨116,[x.d]⟩)]) (fun ⟨k,nx⟩=>nx) (0,_) (hA:=⟨iv,rfl,iv,trivial⟩) (round:=?_)
 rintro⟨k,nx⟩ ⟨hk,hv,hx, -⟩
 simp only[X0,X3]
 have ff:=qA @hx ff
 refine aa Jl ?_
 refine ae ?_
 refine cd (fun c1=>?_) (fun c1=>?_) (hp:=rfl)
 .
  have hk2:k<x.z.sets.length:=by simpa using c1
  have hk1:k-1<x.z.sets.length:=by omega
  have e1:((k:Int)-1).toNat=k-1:=by omega
  have e2:((k:Int)+1).toNat=k+1:=by omega
  have ff:=qE (bJ hk2) (bJ hk1) @e1 @e2 ff;refine dw_skip ?_;refine ae ?_;refine ah ?_;refine aa Jl ?_;refine oK Jl (fun c2=>?_) (fun c2=>?_)
  .
   refine aB ?_;refine ai Jl ?_
   show ∃ _,_
   have h8:(iC x.z.sets) k=true:=by simp only[iC];grind
   exact au (k+1,_) (h1:=⟨iv,(by first|(rw[hv,aY hk2 h8])|(dsimp only;rw[hv,aY hk2 h8])),iv,trivial⟩)
  refine oK Jl (fun c3=>?_) (fun c3=>?_)
  .
   refine aa Jl ?_;exact fo 0 (k:=by have hF:(iC x.z.sets) k=false:=(by simp only[iC];grind);simp only[aliasB];rw[hv,bS hk2 hF];try simp)
  by_cases hk4:k+1<x.z.sets.length
  .
   have ff:=qA (bJ hk4) ff;refine aa Jl ?_;refine cd (fun c4=>?_) (fun c4=>?_)
   .
    refine aa Jl ?_;exact fo 0 (k:=by have hF:(iC x.z.sets) k=false:=(by simp only[iC];grind);simp only[aliasB];rw[hv,bS hk2 hF];try simp)
   refine dw_skip ?_;refine ai Jl ?_
   show ∃ _,_
   have h8:(iC x.z.sets) k=true:=by simp only[iC];grind
   exact au (k+1,_) (h1:=⟨iv,(by first|(rw[hv,aY hk2 h8])|(dsimp only;rw[hv,aY hk2 h8])),iv,trivial⟩)
  have e9:decide (((k+1:Nat):Int)<x.z.sets.length)=false:=Y6 om;have ff:=qA (JL (f:=Sgd.d) (Nat.le_of_not_lt hk4)) ff;refine aa Jl ?_;refine cd (fun c5=>?_) (fun c5=>?_)
  .
   refine aa Jl ?_;exact fo 0 (k:=by have hF:(iC x.z.sets) k=false:=(by simp only[iC];grind);simp only[aliasB];rw[hv,bS hk2 hF];try simp)
  refine dw_skip ?_;refine ai Jl ?_
  show ∃ _,_
  have h8:(iC x.z.sets) k=true:=by simp only[iC];grind
  exact au (k+1,_) (h1:=⟨iv,(by first|(rw[hv,aY hk2 h8])|(dsimp only;rw[hv,aY hk2 h8])),iv,trivial⟩)
 refine aB ?_
 refine aa Jl ?_
 exact fo 0 (k:=by simp only[aliasB];rw[hv,gp (by omega)])
theorem Ev (x:Lay) (hl:x.z.sets.length<=1000000) (hb:x.b.length=x.z.sets.length):PureCt Tryz.prog 73 [.agg x.d] (.b (cutB x)):=by
 refine oO Tryz.func73 fun ff=>?_
 unfold Tryz.f73
 refine aa Jl ?_
 refine ae ?_
 refine aa Jl ?_
 refine ah ?_
 refine lp (α:=(Nat)×Nat) [1,9,10] (fun ⟨k,nx⟩=>(k<=x.z.sets.length)/\(az x.z.sets.length (cutAt x) 0=az x.z.sets.length (cutAt x) k)/\(0<nx)/\True) (fun ⟨k,nx⟩=>x.z.sets.length-k) (fun ⟨k,nx⟩=>[(11,.i k)]) (fun ⟨k,nx⟩=>[(0,⟨116,[x.d]⟩)]) (fun ⟨k,nx⟩=>nx) (0,_) (hA:=⟨iv,rfl,iv,trivial⟩) (round:=?_)
 rintro⟨k,nx⟩ ⟨hk,hv,hx, -⟩
 simp only[X0,X3]
 have ff:=qA @hx ff
 refine aa Jl ?_
 refine ae ?_
 refine cd (fun c1=>?_) (fun c1=>?_) (hp:=rfl)
 .
  have hk2:k<x.z.sets.length:=by simpa using c1
  have hk3:k<x.b.length:=by omega
  have ff:=qB (bJ hk2) (iq hk3) ff;refine dw_skip ?_;refine ae ?_;refine ah ?_;refine oD Jl ?_;refine ah ?_;refine aa Jl ?_;refine cd (fun c2=>?_) (fun c2=>?_)
  .
   refine aa Jl ?_;refine cd (fun c3=>?_) (fun c3=>?_)
   .
    refine aa Jl ?_;exact fo 0 (k:=by have hF:(cutAt x) k=false:=(by simp only[cutAt];grind);simp only[cutB];rw[hv,bS hk2 hF];try simp)
   refine dw_skip ?_;refine ai Jl ?_
   show ∃ _,_
   have h8:(cutAt x) k=true:=by simp only[cutAt];grind
   exact au (k+1,_) (h1:=⟨iv,(by first|(rw[hv,aY hk2 h8])|(dsimp only;rw[hv,aY hk2 h8])),iv,trivial⟩)
  refine aa Jl ?_;refine cd (fun c4=>?_) (fun c4=>?_)
  .
   refine aa Jl ?_;refine cd (fun c5=>?_) (fun c5=>?_)
   .
    refine aa Jl ?_;exact fo 0 (k:=by have hF:(cutAt x) k=false:=(by simp only[cutAt];grind);simp only[cutB];rw[hv,bS hk2 hF];try simp)
   refine dw_skip ?_;refine ai Jl ?_
   show ∃ _,_
   have h8:(cutAt x) k=true:=by simp only[cutAt];grind
   exact au (k+1,_) (h1:=⟨iv,(by first|(rw[hv,aY hk2 h8])|(dsimp only;rw[hv,aY hk2 h8])),iv,trivial⟩)
  refine aa Jl ?_;refine cd (fun c6=>?_) (fun c6=>?_)
  .
   refine aa Jl ?_;exact fo 0 (k:=by have hF:(cutAt x) k=false:=(by simp only[cutAt];grind);simp only[cutB];rw[hv,bS hk2 hF];try simp)
  refine dw_skip ?_;refine ai Jl ?_
  show ∃ _,_
  have h8:(cutAt x) k=true:=by simp only[cutAt];grind
  exact au (k+1,_) (h1:=⟨iv,(by first|(rw[hv,aY hk2 h8])|(dsimp only;rw[hv,aY hk2 h8])),iv,trivial⟩)
 refine aB ?_
 refine aa Jl ?_
 exact fo 0 (k:=by simp only[cutB];rw[hv,gp (by omega)])
theorem Et (x:Lay) (hl:x.z.sets.length<=1000000) (hb:x.b.length=x.z.sets.length):PureCt Tryz.prog 74 [.agg x.d] (.b (glueB x)):=by
 refine oO Tryz.func74 fun ff=>?_
 unfold Tryz.f74
 refine aa Jl ?_
 refine ae ?_
 refine aa Jl ?_
 refine ah ?_
 refine lp (α:=(Nat)×Nat) [1,9,10] (fun ⟨k,nx⟩=>(k<=x.z.sets.length)/\(az x.z.sets.length (mV x) 0=az x.z.sets.length (mV x) k)/\(0<nx)/\True) (fun ⟨k,nx⟩=>x.z.sets.length-k) (fun ⟨k,nx⟩=>[(11,.i k)]) (fun ⟨k,nx⟩=>[(0,⟨116,[x.d]⟩)]) (fun ⟨k,nx⟩=>nx) (0,_) (hA:=⟨iv,rfl,iv,trivial⟩) (round:=?_)
 rintro⟨k,nx⟩ ⟨hk,hv,hx, -⟩
 simp only[X0,X3]
 have ff:=qA @hx ff
 refine aa Jl ?_
 refine ae ?_
 refine cd (fun c1=>?_) (fun c1=>?_) (hp:=rfl)
 .
  have hk2:k<x.z.sets.length:=by simpa using c1
  have hk3:k<x.b.length:=by omega
  have ff:=qB (bJ hk2) (iq hk3) ff;refine dw_skip ?_;refine ae ?_;refine ah ?_;refine oD Jl ?_;refine cd (fun c2=>?_) (fun c2=>?_)
  .
   refine aa Jl ?_;exact fo 0 (k:=by have hF:(mV x) k=false:=(by simp only[mV];grind);simp only[glueB];rw[hv,bS hk2 hF];try simp)
  refine dw_skip ?_;refine ai Jl ?_
  show ∃ _,_
  have h8:(mV x) k=true:=by simp only[mV];grind
  exact au (k+1,_) (h1:=⟨iv,(by first|(rw[hv,aY hk2 h8])|(dsimp only;rw[hv,aY hk2 h8])),iv,trivial⟩)
 refine aB ?_
 refine aa Jl ?_
 exact fo 0 (k:=by simp only[glueB];rw[hv,gp (by omega)])
theorem Eu (x:Lay) (hl:x.z.sets.length<=1000000):PureCt Tryz.prog 75 [.agg x.d] (.b (formB x)):=by
 refine oO Tryz.func75 fun ff=>?_
 unfold Tryz.f75
 refine aa Jl ?_
 refine ae ?_
 refine aa Jl ?_
 refine ah ?_
 refine lp (α:=(Nat)×Nat) [1,8,9] (fun ⟨k,nx⟩=>(k<=x.z.sets.length)/\(az x.z.sets.length (kD x.z) 0=az x.z.sets.length (kD x.z) k)/\(0<nx)/\True) (fun ⟨k,nx⟩=>x.z.sets.length-k) (fun ⟨k,nx⟩=>[(10,.i k)]) (fun ⟨k,nx⟩=>[(0,⟨116,[x.d]⟩)]) (fun ⟨k,nx⟩=>nx) (0,_) (hA:=⟨iv,rfl,iv,trivial⟩) (round:=?_)
 rintro⟨k,nx⟩ ⟨hk,hv,hx, -⟩
 simp only[X0,X3]
 have ff:=qA @hx ff
 refine aa Jl ?_
 refine ae ?_
 refine cd (fun c1=>?_) (fun c1=>?_) (hp:=rfl)
 .
  have hk2:k<x.z.sets.length:=by simpa using c1
  have ff:=qA (bJ hk2) ff;refine dw_skip ?_;refine ae ?_;refine ah ?_;refine aa Jl ?_;refine aa Jl ?_ (hok:=oF (ML _ _));refine cd (fun c2=>?_) (fun c2=>?_)
  .
   refine aa Jl ?_;exact fo 0 (k:=by have hF:(kD x.z) k=false:=(by simpa only[kD] using c2);simp only[formB];rw[hv,bS hk2 hF];try simp)
  refine dw_skip ?_;refine ai Jl ?_
  show ∃ _,_
  have h8:(kD x.z) k=true:=by simpa only[kD] using c2
  exact au (k+1,_) (h1:=⟨iv,(by first|(rw[hv,aY hk2 h8])|(dsimp only;rw[hv,aY hk2 h8])),iv,trivial⟩)
 refine aB ?_
 refine aa Jl ?_
 exact fo 0 (k:=by simp only[formB];rw[hv,gp (by omega)])
end Go.Proofs.YtjngdcldglkolaaGreatDoor
namespace Go.Proofs.YtjngdcldglkolaaGreatDoor
open Go.DL Go.Str Go.Rec Go.Cmp Go.Zon
set_option maxRecDepth 10000
variable [Glob Tryz.prog] [Told]
theorem MK (z:Zon) (hl:z.sets.length<=1000000):PureCt Tryz.prog 71 [.agg z.d] (.agg (layOf z).d):=by
 refine oO Tryz.func71 fun ff=>?_
 unfold Tryz.f71
 refine oC Jl ?_
 refine ae ?_
 refine aa Jl ?_
 refine ah ?_
 refine lp (α:=(Nat)×Nat) [1,2,3,16,17] (fun ⟨k,nx⟩=>(k<=z.sets.length)/\(2<nx)/\True) (fun ⟨k,nx⟩=>z.sets.length-k) (fun ⟨k,nx⟩=>[(18,.i k)]) (fun ⟨k,nx⟩=>[(0,⟨113,[z.d]⟩),(1,⟨116,[[.v (.string (bs [])),.list true [],.list true []]]⟩),(2,⟨174,eX (lQ (bQ z (k)))⟩)]) (fun ⟨k,nx⟩=>nx) (0,_) (hA:=⟨iv,iv,trivial⟩) (round:=?_)
 rintro⟨k,nx⟩ ⟨hk,hx, -⟩
 simp only[X0,X3]
 have n0:0<nx:=by omega
 have n1:1<nx:=by omega
 have ff:=qD @hx @n0 @n1 ff
 refine aa Jl ?_
 refine ae ?_
 refine cd (fun c1=>?_) (fun c1=>?_) (hp:=rfl)
 .
  have hk2:k<z.sets.length:=by simpa using c1
  have ff:=qA (bJ hk2) ff;refine dw_skip ?_;refine ae ?_;refine ah ?_;refine oC Jl ?_;refine cd (fun c2=>?_) (fun c2=>?_)
  .
   refine ai Jl ?_;refine ai Jl ?_
   show ∃ _,_
   have ff:=qA (Lh (z:=z) (k:=k) (by grind)) ff
   exact au (k+1,_) (h1:=⟨iv,iv,trivial⟩)
  refine dw_skip ?_;refine ai Jl ?_
  show ∃ _,_
  have ff:=qA (Li (z:=z) (k:=k) (by grind)) ff
  exact au (k+1,_) (h1:=⟨iv,iv,trivial⟩)
 refine aB ?_
 refine Vl 3 2 ev ev rfl RB ?_
 refine oC Jl ?_
 refine ae ?_
 refine aa Jl ?_
 refine ah ?_
 refine lp (α:=(Nat)×(Str)×(Nat)×(Nat)×Nat) [2,3,49,50] (fun ⟨k,cut,r6,rb,nx⟩=>(k<=z.sets.length)/\(rb<nx)/\(r6<nx)/\(2<rb/\rb<r6)/\(cut=(bO (bQ z z.sets.length) z.sets k).2)/\True) (fun ⟨k,cut,r6,rb,nx⟩=>z.sets.length-k) (fun ⟨k,cut,r6,rb,nx⟩=>[(6,.mptr r6 0 0),(7,.v (.string (bs cut))),(51,.i k)]) (fun ⟨k,cut,r6,rb,nx⟩=>[(0,⟨113,[z.d]⟩),(1,⟨116,[[.v (.string (bs [])),.list true [],.list true []]]⟩),(r6,⟨116,[[.v (.string (bs z.apex)),.list false (z.sets.map Sgd.d),.mrow rb 0 z.sets.length]]⟩),(rb,⟨9,(jF (bQ z z.sets.length) z.sets z.sets.length (k)).map sR⟩)]) (fun ⟨k,cut,r6,rb,nx⟩=>nx) (0,[],(nx+8),(nx+6),_) (hA:=⟨iv,iv,iv,iv,iv,trivial⟩) (round:=?_)
 rintro⟨k,cut,r6,rb,nx⟩ ⟨hk,hx,hx6,hbr,hc, -⟩
 simp only[X0,X3]
 have n0:0<nx:=by omega
 have n1:1<nx:=by omega
 have ff:=qA @hx (qI @hx6 @n0 @n1 (nH r6 rb) (nH 0 rb) (nH 1 rb) (nH 0 r6) (nH 1 r6) ff)
 refine aa Jl ?_
 refine ae ?_
 refine cd (fun c3=>?_) (fun c3=>?_) (hp:=rfl)
 .
  have hk2:k<z.sets.length:=by simpa using c3
  have ff:=qD (bJ hk2) (Bq (m:=(bQ z z.sets.length)) (l:=z.sets) hk) (iq (l:=jF (bQ z z.sets.length) z.sets z.sets.length k) (n:=k) (by rw[Bq hk];exact hk2)) ff
  refine dw_skip ?_;refine ae ?_;refine ah ?_;refine oC Jl ?_;refine oK Jl (fun c4=>?_) (fun c4=>?_)
  .
   refine aa Jl ?_ (hok:=oF (Ig _ _));refine aa Jl ?_;refine cd (fun c5=>?_) (fun c5=>?_)
   .
    refine ai Jl ?_;refine oK Jl (fun c6=>?_) (fun c6=>?_)
    .
     refine ai Jl ?_;refine ai Jl ?_;refine ai Jl ?_
     show ∃ _,_
     have hcc:(bO (bQ z z.sets.length) z.sets (k+1)).2=z.sets[k]!.set.name:=by show stepC _ (bO _ _ k).2 _=_;rw[<- hc];simp only[stepC];grind
     have ff:=qB (tN hk2 hcc) hcc ff;exact au (k+1,(bO (bQ z z.sets.length) z.sets (k+1)).2,r6,rb,_) (h1:=⟨iv,iv,iv,iv,iv,trivial⟩)
    refine ai Jl ?_;refine ai Jl ?_
    show ∃ _,_
    have hcc:(bO (bQ z z.sets.length) z.sets (k+1)).2=[]:=by show stepC _ (bO _ _ k).2 _=_;rw[<- hc];simp only[stepC];grind
    have ff:=qB (tN hk2 hcc) hcc ff;exact au (k+1,(bO (bQ z z.sets.length) z.sets (k+1)).2,r6,rb,_) (h1:=⟨iv,iv,iv,iv,iv,trivial⟩)
   refine dw_skip ?_;refine oK Jl (fun c6=>?_) (fun c6=>?_)
   .
    refine ai Jl ?_;refine ai Jl ?_;refine ai Jl ?_
    show ∃ _,_
    have hcc:(bO (bQ z z.sets.length) z.sets (k+1)).2=z.sets[k]!.set.name:=by show stepC _ (bO _ _ k).2 _=_;rw[<- hc];simp only[stepC];grind
    have ff:=qB (tN hk2 hcc) hcc ff;exact au (k+1,(bO (bQ z z.sets.length) z.sets (k+1)).2,r6,rb,_) (h1:=⟨iv,iv,iv,iv,iv,trivial⟩)
   refine ai Jl ?_;refine ai Jl ?_
   show ∃ _,_
   have hcc:(bO (bQ z z.sets.length) z.sets (k+1)).2=cut:=by show stepC _ (bO _ _ k).2 _=_;rw[<- hc];simp only[stepC];grind
   have ff:=qB (tN hk2 hcc) hcc ff;exact au (k+1,(bO (bQ z z.sets.length) z.sets (k+1)).2,r6,rb,_) (h1:=⟨iv,iv,iv,iv,iv,trivial⟩)
  refine oK Jl (fun c6=>?_) (fun c6=>?_)
  .
   refine ai Jl ?_;refine ai Jl ?_;refine ai Jl ?_
   show ∃ _,_
   have hcc:(bO (bQ z z.sets.length) z.sets (k+1)).2=z.sets[k]!.set.name:=by show stepC _ (bO _ _ k).2 _=_;rw[<- hc];simp only[stepC];grind
   have ff:=qB (tN hk2 hcc) hcc ff;exact au (k+1,(bO (bQ z z.sets.length) z.sets (k+1)).2,r6,rb,_) (h1:=⟨iv,iv,iv,iv,iv,trivial⟩)
  refine ai Jl ?_;refine ai Jl ?_
  show ∃ _,_
  have hcc:(bO (bQ z z.sets.length) z.sets (k+1)).2=cut:=by show stepC _ (bO _ _ k).2 _=_;rw[<- hc];simp only[stepC];grind
  have ff:=qB (tN hk2 hcc) hcc ff;exact au (k+1,(bO (bQ z z.sets.length) z.sets (k+1)).2,r6,rb,_) (h1:=⟨iv,iv,iv,iv,iv,trivial⟩)
 refine aB ?_
 have e9:k=z.sets.length:=by omega
 subst e9
 have tk:List.take z.sets.length ((jF (bQ z z.sets.length) z.sets z.sets.length z.sets.length).map sR)=(uJ z).map sR:=by rw[PO];exact Yp (by rw[Zk,qR];exact XY _)
 have ff:=qB @tk (Bq (m:=(bQ z z.sets.length)) (l:=z.sets) (XY z.sets.length)) ff
 refine aa Jl ?_
 exact oN (fin 2 (hr:=oR) (hk:=by (try simp only[go_sem,ff]);all_goals (exact wY z)))
theorem Aw (z:Zon):PureCt Tryz.prog 31 [.agg z.d] (.b (zoneOk z)):=by
 refine oO Tryz.func31 fun ff=>?_
 unfold Tryz.f31
 refine oC Jl ?_
 refine oK Jl (fun c1=>?_) (fun c1=>?_) (hok:=by (try simp only[go_sem,ff]);all_goals (first|done|((repeat' (with_reducible apply And.intro))<;>first|(intros;exact El z)|(intro h;exact MN z (BS h))|(intros;simp_all;done)|skip)))
 .
  refine aa Jl ?_;exact fo 0 (k:=by simp only[zoneOk];grind)
 have ho:=BS c1.1
 refine aa Jl ?_ (hok:=oF (MK z ho))
 refine aa Jl ?_ (hok:=by (try simp only[go_sem,ff]);all_goals (first|done|((repeat' (with_reducible apply And.intro))<;>first|(intros;exact Ex (layOf z) ho)|(intros;exact Ev (layOf z) ho (wY z))|(intros;exact Et (layOf z) ho (wY z))|(intros;exact Eu (layOf z) ho)|skip)))
 exact fo 0 (k:=by simp only[zoneOk];rw[c1.1,c1.2];simp[ZZ])
theorem Ej (z:Zon):PureCt Tryz.prog 46 [.agg z.d] (.tuple [.i (if zoneOk z then serialOf z else 0),.i (if zoneOk z then 0 else 1)]):=by
 refine oO Tryz.func46 fun ff=>?_
 unfold Tryz.f46
 refine aa Jl ?_
 refine oK Jl (fun c1=>?_) (fun c1=>?_) (hok:=oF (Aw z))
 .
  refine aa Jl ?_;exact fo 1 (k:=by simp[c1])
 refine aa Jl ?_ (hok:=oF (uS z ⟨z.apex,4⟩ (Rw c1)))
 obtain⟨hf1,hf2⟩:=NK c1
 have ff:=qB (bJ hf1) (mY hf2) ff
 refine aa Jl ?_
 exact fo 1 (k:=by simp[c1,serialOf])
end Go.Proofs.YtjngdcldglkolaaGreatDoor
namespace Go.Proofs.YtjngdcldglkolaaGreatDoor
open Go.DL Go.Str Go.Rec Go.Cmp Go.Zon
set_option maxRecDepth 10000
variable [Glob Tryz.prog] [Told]
theorem Ol {x y:RSig}(h:x.zone=y.zone/\x.key=y.key/\x.alg=y.alg/\x.frm=y.frm/\x.unt=y.unt/\x.sum=y.sum):x=y:=by
 obtain⟨a,b,c,d,e,f⟩:=x
 obtain⟨g,i,j,k,l,m⟩:=y
 simp at h
 simp[h]
theorem Oi {x y:RSig}(h : ¬x.zone=y.zone \/ ¬x.key=y.key \/ ¬x.alg=y.alg \/ ¬x.frm=y.frm \/ ¬x.unt=y.unt \/ ¬x.sum=y.sum):x≠y:=by
 rintro rfl
 simp at h
theorem Px (a:Sgd) (b:Sgd) (ha:sF a):PureCt Tryz.prog 101 [.agg a.d,.agg b.d] (.b (sameSgd a b)):=by
 refine oO Tryz.func101 fun ff=>?_
 unfold Tryz.f101
 have ha2:=ha.2
 refine aa Jl ?_
 refine oK Jl (fun c1=>?_) (fun c1=>?_) (hok:=oH (Pz _ _ ha.1))
 .
  refine aa Jl ?_;exact fo 0 (k:=by rw[Ow (by grind [sameB])])
 refine ae ?_
 refine aa Jl ?_
 refine ah ?_
 refine lp (α:=(Nat)×Nat) [2,3] (fun ⟨k,nx⟩=>(k<=a.sigs.length)/\(1<nx)/\(∀ i,i<k->a.sigs[i]! = b.sigs[i]!)/\True) (fun ⟨k,nx⟩=>a.sigs.length-k) (fun ⟨k,nx⟩=>[(5,.i k)]) (fun ⟨k,nx⟩=>[(0,⟨66,[a.d]⟩),(1,⟨66,[b.d]⟩)]) (fun ⟨k,nx⟩=>nx) (0,_) (hA:=⟨iv,iv,(by first|(intro i hi;omega)|(dsimp only;intro i hi;omega)),trivial⟩) (round:=?_)
 rintro⟨k,nx⟩ ⟨hk,hx,hv, -⟩
 simp only[X0,X3]
 have n0:0<nx:=by omega
 have ff:=qB @hx @n0 ff
 refine oL Jl (fun c2=>?_) (fun c2=>?_) (hp:=rfl)
 .
  have hk2:k<a.sigs.length:=by simpa using c2
  have hk3:k<b.sigs.length:=by grind
  have ff:=qB (lV hk2) (lV hk3) ff;refine ae ?_;refine ah ?_;refine aa Jl ?_;refine cd (fun c3=>?_) (fun c3=>?_)
  .
   refine aa Jl ?_;exact fo 0 (k:=by rw[Ov (Oi c3)])
  refine dw_skip ?_;refine ai Jl ?_
  show ∃ _,_
  exact au (k+1,_) (h1:=⟨iv,iv,(by (try dsimp only);intro i hi;by_cases e:i=k;subst e;exact Ol c3;exact hv i om),trivial⟩)
 refine aB ?_
 refine aa Jl ?_
 exact fo 0 (k:=by rw[Ot (by grind [sameB]) (by grind) fun i hi=>hv i (by omega)])
theorem Py (a:List Sgd) (b:List Sgd) (ha:dX a):PureCt Tryz.prog 45 [.list false (a.map Sgd.d),.list false (b.map Sgd.d)] (.b (sameList a b)):=by
 refine oO Tryz.func45 fun ff=>?_
 unfold Tryz.f45
 have ha1:=ha.1
 refine aa Jl ?_
 refine oK Jl (fun c1=>?_) (fun c1=>?_)
 .
  refine aa Jl ?_;exact fo 0 (k:=by rw[Oq (by grind)])
 refine ae ?_
 refine aa Jl ?_
 refine ah ?_
 refine lp (α:=(Nat)×Nat) [0,1] (fun ⟨k,nx⟩=>(k<=a.length)/\(∀ i,i<k->sameSgd a[i]! b[i]! = true)/\True) (fun ⟨k,nx⟩=>a.length-k) (fun ⟨k,nx⟩=>[(5,.i k)]) (fun ⟨k,nx⟩=>[]) (fun ⟨k,nx⟩=>nx) (0,_) (hA:=⟨iv,(by first|(intro i hi;omega)|(dsimp only;intro i hi;omega)),trivial⟩) (round:=?_)
 rintro⟨k,nx⟩ ⟨hk,hv, -⟩
 simp only[X0,X3]
 refine oL Jl (fun c2=>?_) (fun c2=>?_) (hp:=rfl)
 .
  have hk2:k<a.length:=by simpa using c2
  have hk3:k<b.length:=by grind
  have ff:=qB (bJ hk2) (bJ hk3) ff;refine ae ?_;refine ah ?_;refine aa Jl ?_ (hok:=oH (Px _ _ (ha.2 k hk2)));refine cd (fun c3=>?_) (fun c3=>?_)
  .
   refine aa Jl ?_;exact fo 0 (k:=by rw[Ou (k:=k) (by grind)])
  refine dw_skip ?_;refine ai Jl ?_
  show ∃ _,_
  exact au (k+1,_) (h1:=⟨iv,(by (try dsimp only);intro i hi;by_cases e:i=k;subst e;grind;exact hv i om),trivial⟩)
 refine aB ?_
 refine aa Jl ?_
 exact fo 0 (k:=by rw[Oo (by grind) fun i hi=>hv i (by omega)])
theorem Bl (a:Zon) (b:Zon) (ha:dX a.sets):PureCt Tryz.prog 24 [.agg a.d,.agg b.d] (.b (sameZ a b)):=by
 refine oO Tryz.func24 fun ff=>?_
 unfold Tryz.f24
 refine aa Jl ?_
 refine aa Jl ?_ (hok:=oH (Py _ _ ha))
 exact fo 0 (k:=by simp[Pg])
theorem BC (z:Zon) (q:Qst) (hl:z.sets.length<=1000000):PureCt Tryz.prog 137 [.agg z.d,.agg q.d] (.i (atF z.sets q)):=by
 refine oO Tryz.func137 fun ff=>?_
 unfold Tryz.f137
 refine aa Jl ?_
 refine ae ?_
 refine aa Jl ?_
 refine ah ?_
 refine lp (α:=(Nat)×Nat) [2,3] (fun ⟨k,nx⟩=>(k<=z.sets.length)/\(1<nx)/\(atF z.sets q=kw z.sets q k)/\True) (fun ⟨k,nx⟩=>z.sets.length-k) (fun ⟨k,nx⟩=>[(5,.i k)]) (fun ⟨k,nx⟩=>[(0,⟨28,[z.d]⟩),(1,⟨86,[q.d]⟩)]) (fun ⟨k,nx⟩=>nx) (0,_) (hA:=⟨iv,iv,rfl,trivial⟩) (round:=?_)
 rintro⟨k,nx⟩ ⟨hk,hx,hv, -⟩
 simp only[X0,X3]
 have n0:0<nx:=by omega
 have ff:=qB @hx @n0 ff
 refine oL Jl (fun c1=>?_) (fun c1=>?_) (hp:=rfl)
 .
  have hk2:k<z.sets.length:=by simpa using c1
  have ff:=qA (bJ hk2) ff;refine ae ?_;refine ah ?_;refine aa Jl ?_;refine cd (fun c2=>?_) (fun c2=>?_)
  .
   refine aa Jl ?_;exact fo 0 (k:=by rw[hv,mK,X6 hk2,X6 (by cases q;simp_all [Sgd.q])])
  refine dw_skip ?_;refine ai Jl ?_
  show ∃ _,_
  exact au (k+1,_) (h1:=⟨iv,iv,(by (try dsimp only);rw[hv,mK,if_pos hk2,if_neg (by intro e;rw[<- e] at c2;simp[Sgd.q] at c2)]),trivial⟩)
 refine aB ?_
 refine aa Jl ?_
 exact fo 0 (k:=by rw[hv,mK,XZ (by omega)])
theorem Gw (z:Zon) (hl:z.sets.length<=1000000):PureCt Tryz.prog 85 [.agg z.d] (.b (twoB z)):=by
 refine oO Tryz.func85 fun ff=>?_
 unfold Tryz.f85
 refine aa Jl ?_
 refine oK Jl (fun c1=>?_) (fun c1=>?_) (hok:=oI (BC z ⟨z.apex,4⟩ hl) (BC z ⟨z.apex,2⟩ hl))
 .
  refine aa Jl ?_;exact fo 0 (k:=by simp only[twoB];grind)
 refine ae ?_
 refine aa Jl ?_
 refine ah ?_
 refine lp (α:=(Nat)×Nat) [1] (fun ⟨k,nx⟩=>(k<=z.sets.length)/\(az z.sets.length (jO z.apex z.sets) 0=az z.sets.length (jO z.apex z.sets) k)/\(0<nx)/\True) (fun ⟨k,nx⟩=>z.sets.length-k) (fun ⟨k,nx⟩=>[(3,.i k)]) (fun ⟨k,nx⟩=>[(0,⟨28,[z.d]⟩)]) (fun ⟨k,nx⟩=>nx) (0,_) (hA:=⟨iv,rfl,iv,trivial⟩) (round:=?_)
 rintro⟨k,nx⟩ ⟨hk,hv,hx, -⟩
 simp only[X0,X3]
 have ff:=qA @hx ff
 refine oL Jl (fun c2=>?_) (fun c2=>?_) (hp:=rfl)
 .
  have hk2:k<z.sets.length:=by simpa using c2
  have ff:=qA (bJ hk2) ff;refine ae ?_;refine ah ?_;refine aa Jl ?_ (hok:=oH PG);refine cd (fun c3=>?_) (fun c3=>?_)
  .
   refine aa Jl ?_;exact fo 0 (k:=by have hF:(jO z.apex z.sets) k=false:=(by simp only[jO];grind);simp only[twoB];rw[hv,bS hk2 hF];try simp)
  refine dw_skip ?_;refine ai Jl ?_
  show ∃ _,_
  have h8:(jO z.apex z.sets) k=true:=by simp only[jO];grind
  exact au (k+1,_) (h1:=⟨iv,(by first|(rw[hv,aY hk2 h8])|(dsimp only;rw[hv,aY hk2 h8])),iv,trivial⟩)
 refine aB ?_
 refine aa Jl ?_
 exact fo 0 (k:=by simp only[twoB];rw[hv,gp (by omega)];grind)
theorem Gy (z:Zon):PureCt Tryz.prog 84 [.agg z.d] (.b (oneB z)):=by
 refine oO Tryz.func84 fun ff=>?_
 unfold Tryz.f84
 refine aa Jl ?_
 refine oK Jl (fun c1=>?_) (fun c1=>?_) (hok:=by (try simp only[go_sem,ff]);all_goals (first|done|((repeat' (with_reducible apply And.intro))<;>first|(intros;exact fw _)|(exact (fun _=>yc _ (by have:=dO (by assumption);omega)))|(exact (fun h=>yc _ (by have:=dO (by simpa using h);omega)))|skip)))
 .
  refine aa Jl ?_;exact fo 0 (k:=by simp only[oneB];grind)
 refine ae ?_
 refine aa Jl ?_
 refine ah ?_
 refine lp (α:=(Nat)×Nat) [1] (fun ⟨k,nx⟩=>(k<=z.sets.length)/\(az z.sets.length (lK z.apex z.sets) 0=az z.sets.length (lK z.apex z.sets) k)/\(0<nx)/\True) (fun ⟨k,nx⟩=>z.sets.length-k) (fun ⟨k,nx⟩=>[(3,.i k)]) (fun ⟨k,nx⟩=>[(0,⟨28,[z.d]⟩)]) (fun ⟨k,nx⟩=>nx) (0,_) (hA:=⟨iv,rfl,iv,trivial⟩) (round:=?_)
 rintro⟨k,nx⟩ ⟨hk,hv,hx, -⟩
 simp only[X0,X3]
 have ff:=qA @hx ff
 refine oL Jl (fun c2=>?_) (fun c2=>?_) (hp:=rfl)
 .
  have hk2:k<z.sets.length:=by simpa using c2
  have hk1:k-1<z.sets.length:=by omega
  have e1:((k:Int)-1).toNat=k-1:=by omega
  have ff:=qD (bJ hk2) (bJ hk1) @e1 ff;refine ae ?_;refine ah ?_;refine aa Jl ?_;refine aa Jl ?_ (hok:=by (try simp only[go_sem,ff]);all_goals (first|done|((repeat' (with_reducible apply And.intro))<;>first|(intros;exact rD _)|(intros;exact Br _ _)|(exact (fun h=>jG _ _ (FC (by simpa using h)) (by have:=dO c1.1.1;omega)))|omega|(intro h;simp only[XW,XX] at h;omega)|(intros;simp_all;done)|skip)))
  refine cd (fun c3=>?_) (fun c3=>?_)
  .
   refine aa Jl ?_;exact fo 0 (k:=by have hF:(lK z.apex z.sets) k=false:=(by simp only[lK];grind);simp only[oneB];rw[hv,bS hk2 hF];try simp)
  refine dw_skip ?_;refine ai Jl ?_
  show ∃ _,_
  have h8:(lK z.apex z.sets) k=true:=by simp only[lK];grind
  exact au (k+1,_) (h1:=⟨iv,(by first|(rw[hv,aY hk2 h8])|(dsimp only;rw[hv,aY hk2 h8])),iv,trivial⟩)
 refine aB ?_
 refine aa Jl ?_
 exact fo 0 (k:=by simp only[oneB];rw[hv,gp (by omega)];grind)
theorem BF (z:Zon) (hl:z.sets.length<=1000000) (h0:0<=atF z.sets ⟨z.apex,4⟩) (h1:0<z.sets[(atF z.sets ⟨z.apex,4⟩).toNat]!.set.data.length):PureCt Tryz.prog 96 [.agg z.d] (.i (serialR z)):=by
 refine oO Tryz.func96 fun ff=>?_
 unfold Tryz.f96
 have h2:=Me z.sets ⟨z.apex,4⟩
 have h3:(atF z.sets ⟨z.apex,4⟩).toNat<z.sets.length:=by omega
 refine aa Jl ?_
 skip
 have ff:=qB (bJ h3) (mY h1) ff
 refine aa Jl ?_ (hok:=oH (BC z ⟨z.apex,4⟩ hl))
 exact fp 0
theorem Qn (z:Zon):PureCt Tryz.prog 11 [.agg z.d] (.b (fewZ z)):=by
 refine oO Tryz.func11 fun ff=>?_
 unfold Tryz.f11
 refine aa Jl ?_
 refine ae ?_
 refine aa Jl ?_
 refine ah ?_
 refine lp (α:=(Nat)×Nat) [1] (fun ⟨k,nx⟩=>(k<=z.sets.length)/\(az z.sets.length (fun i=>decide (z.sets[i]!.set.data.length<=20)&&decide (z.sets[i]!.sigs.length<=20)) 0=az z.sets.length (fun i=>decide (z.sets[i]!.set.data.length<=20)&&decide (z.sets[i]!.sigs.length<=20)) k)/\(0<nx)/\(k<=101)/\True) (fun ⟨k,nx⟩=>z.sets.length-k) (fun ⟨k,nx⟩=>[(3,.i k)]) (fun ⟨k,nx⟩=>[(0,⟨28,[z.d]⟩)]) (fun ⟨k,nx⟩=>nx) (0,_) (hA:=⟨iv,rfl,iv,iv,trivial⟩) (round:=?_)
 rintro⟨k,nx⟩ ⟨hk,hv,hx,hk7, -⟩
 simp only[X0,X3]
 have ff:=qA @hx ff
 refine oL Jl (fun c1=>?_) (fun c1=>?_)
 .
  have hk2:k<z.sets.length:=by grind
  have hk9:k<=100:=by grind
  have ff:=qA (bJ hk2) ff;refine ae ?_;refine ah ?_;refine aa Jl ?_;refine cd (fun c2=>?_) (fun c2=>?_)
  .
   refine aa Jl ?_;exact fo 0 (k:=by have hF:(fun i=>decide (z.sets[i]!.set.data.length<=20)&&decide (z.sets[i]!.sigs.length<=20)) k=false:=(by grind);simp only[fewZ];rw[hv,bS hk2 hF];try simp)
  refine dw_skip ?_;refine ai Jl ?_
  show ∃ _,_
  have h8:(fun i=>decide (z.sets[i]!.set.data.length<=20)&&decide (z.sets[i]!.sigs.length<=20)) k=true:=by grind
  exact au (k+1,_) (h1:=⟨iv,(by first|(rw[hv,aY hk2 h8])|(dsimp only;rw[hv,aY hk2 h8])),iv,iv,trivial⟩)
 refine aB ?_
 refine aa Jl ?_
 exact fo 0 (k:=by simp only[fewZ];by_cases h100:z.sets.length<=100;rw[hv,gp (by grind)];simp;omega;simp[h100];omega)
theorem Gx (z:Zon) (hl:z.sets.length<=1000000):PureCt Tryz.prog 86 [.agg z.d] (.b (threeB z)):=by
 refine oO Tryz.func86 fun ff=>?_
 unfold Tryz.f86
 refine oC Jl ?_
 refine ae ?_
 refine aa Jl ?_
 refine ah ?_
 refine lp (α:=(Nat)×(Str)×Nat) [1] (fun ⟨k,al,nx⟩=>(k<=z.sets.length)/\(0<nx)/\(al=eP z.sets k)/\(az z.sets.length (fT z.sets) 0=az z.sets.length (fT z.sets) k)/\True) (fun ⟨k,al,nx⟩=>z.sets.length-k) (fun ⟨k,al,nx⟩=>[(3,.v (.string (bs al))),(4,.i k)]) (fun ⟨k,al,nx⟩=>[(0,⟨28,[z.d]⟩)]) (fun ⟨k,al,nx⟩=>nx) (0,[],_) (hA:=⟨iv,iv,rfl,rfl,trivial⟩) (round:=?_)
 rintro⟨k,al,nx⟩ ⟨hk,hx,ha,hv, -⟩
 simp only[X0,X3]
 have ff:=qA @hx ff
 refine oL Jl (fun c1=>?_) (fun c1=>?_) (hp:=rfl)
 .
  have hk2:k<z.sets.length:=by simpa using c1
  have hk1:k-1<z.sets.length:=by omega
  have e1:((k:Int)-1).toNat=k-1:=by omega
  have ff:=qD (bJ hk2) (bJ hk1) @e1 ff;refine ae ?_;refine ah ?_;refine oK Jl (fun c2=>?_) (fun c2=>?_)
  .
   refine ai Jl ?_;refine oC Jl ?_;refine oK Jl (fun c3=>?_) (fun c3=>?_)
   .
    refine ai Jl ?_;refine aa Jl ?_ (hok:=by (try simp only[go_sem,ff]);all_goals (first|done|grind|(simp;grind)))
    refine cd (fun c4=>?_) (fun c4=>?_)
    .
     refine aa Jl ?_;exact fo 0 (k:=by have hF:(fT z.sets) k=false:=(by simp only[fT,gP,eP];grind);simp only[threeB];rw[hv,bS hk2 hF];try simp)
    refine dw_skip ?_;refine ai Jl ?_
    show ∃ _,_
    have hal:eP z.sets (k+1)=z.sets[k]!.set.name:=by simp only[eP];grind
    have ff:=qA hal ff;have h8:fT z.sets k=true:=by simp only[fT,gP,hal];grind
    exact au (k+1,eP z.sets (k+1),_) (h1:=⟨iv,iv,rfl,(by first|(rw[hv,aY hk2 h8])|(dsimp only;rw[hv,aY hk2 h8])),trivial⟩)
   refine aa Jl ?_ (hok:=by (try simp only[go_sem,ff]);all_goals (first|done|grind|(simp;grind)))
   refine cd (fun c4=>?_) (fun c4=>?_)
   .
    refine aa Jl ?_;exact fo 0 (k:=by have hF:(fT z.sets) k=false:=(by simp only[fT,gP,eP];grind);simp only[threeB];rw[hv,bS hk2 hF];try simp)
   refine dw_skip ?_;refine ai Jl ?_
   show ∃ _,_
   have hal:eP z.sets (k+1)=z.sets[k]!.set.name:=by simp only[eP];grind
   have ff:=qA hal ff;have h8:fT z.sets k=true:=by simp only[fT,gP,hal];grind
   exact au (k+1,eP z.sets (k+1),_) (h1:=⟨iv,iv,rfl,(by first|(rw[hv,aY hk2 h8])|(dsimp only;rw[hv,aY hk2 h8])),trivial⟩)
  refine oC Jl ?_;refine oK Jl (fun c3=>?_) (fun c3=>?_)
  .
   refine ai Jl ?_;refine aa Jl ?_ (hok:=by (try simp only[go_sem,ff]);all_goals (first|done|grind|(simp;grind)))
   refine cd (fun c4=>?_) (fun c4=>?_)
   .
    refine aa Jl ?_;exact fo 0 (k:=by have hF:(fT z.sets) k=false:=(by simp only[fT,gP,eP];grind);simp only[threeB];rw[hv,bS hk2 hF];try simp)
   refine dw_skip ?_;refine ai Jl ?_
   show ∃ _,_
   have hal:eP z.sets (k+1)=al:=by simp only[eP];grind
   have ff:=qA hal ff;have h8:fT z.sets k=true:=by simp only[fT,gP,hal];grind
   exact au (k+1,eP z.sets (k+1),_) (h1:=⟨iv,iv,rfl,(by first|(rw[hv,aY hk2 h8])|(dsimp only;rw[hv,aY hk2 h8])),trivial⟩)
  refine aa Jl ?_ (hok:=by (try simp only[go_sem,ff]);all_goals (first|done|grind|(simp;grind)))
  refine cd (fun c4=>?_) (fun c4=>?_)
  .
   refine aa Jl ?_;exact fo 0 (k:=by have hF:(fT z.sets) k=false:=(by simp only[fT,gP,eP];grind);simp only[threeB];rw[hv,bS hk2 hF];try simp)
  refine dw_skip ?_;refine ai Jl ?_
  show ∃ _,_
  have hal:eP z.sets (k+1)=al:=by simp only[eP];grind
  have ff:=qA hal ff;have h8:fT z.sets k=true:=by simp only[fT,gP,hal];grind
  exact au (k+1,eP z.sets (k+1),_) (h1:=⟨iv,iv,rfl,(by first|(rw[hv,aY hk2 h8])|(dsimp only;rw[hv,aY hk2 h8])),trivial⟩)
 refine aB ?_
 refine aa Jl ?_
 exact fo 0 (k:=by simp only[threeB];rw[hv,gp (by omega)])
end Go.Proofs.YtjngdcldglkolaaGreatDoor
namespace Go.Proofs.YtjngdcldglkolaaGreatDoor
open Go.DL Go.Str Go.Rec Go.Cmp Go.Zon
set_option maxRecDepth 10000
variable [Glob Tryz.prog] [Told]
@[go_sem] theorem cutsR_0 {z:Zon}:iA z 0=[]:=rfl
@[go_sem] theorem highTo_0 {cs:List Str}:bH cs 0=[]:=rfl
@[go_sem] theorem sR_snoc {l:List Str}{x:Str}:(l++[x]).map sR=l.map sR++[[.v (.string (bs x))]]:=by simp[sR]
theorem Dy {z:Zon}{k:Nat}(h:z.sets[k]!.set.ty=2 /\ ¬ z.sets[k]!.set.name=z.apex):iA z (k+1)=iA z k++[z.sets[k]!.set.name]:=X6 h
theorem Dz {z:Zon}{k:Nat}(h : ¬ (z.sets[k]!.set.ty=2 /\ ¬ z.sets[k]!.set.name=z.apex)):iA z (k+1)=iA z k:=XZ h
theorem DC (z:Zon):∀ k,(iA z k).length<=k
 | 0=>XY _
 | k+1=>by
  have:=DC z k
  by_cases h:z.sets[k]!.set.ty=2 /\ ¬ z.sets[k]!.set.name=z.apex
  .
   rw[Dy h,XV];simp;omega
  rw[Dz h];omega
theorem Ac {z:Zon}(hn:kU z):∀ k,k<=z.sets.length -> ∀ x∈iA z k,x.length<=1000
 | 0,_,x,hx=>by cases hx
 | k+1,h,x,hx=>by
  by_cases h2:z.sets[k]!.set.ty=2 /\ ¬ z.sets[k]!.set.name=z.apex
  .
   rw[Dy h2,Yx,Yq] at hx
   rcases hx with hx|hx
   .
    exact Ac hn k om x hx
   subst hx;exact hn.2 k om
  rw[Dz h2] at hx;exact Ac hn k (by omega) x hx
theorem Lm {z:Zon}(hn:kU z):(cutsF z).length<=1000000:=Yc (DC z _) hn.1
theorem Ae {z:Zon}(hn:kU z) {k:Nat}(h:k<(cutsF z).length):(cutsF z)[k]!.length<=1000:=by
 refine Ac hn _ (XY _) _ ?_
 show (cutsF z)[k]! ∈ cutsF z
 rw[getElem!_pos (cutsF z) k h];exact Yv h
theorem CQ {cs:List Str}{k:Nat}(h:bH cs k=[]\/inB cs[k]! (bH cs k)[(bH cs k).length-1]! = false):bH cs (k+1)=bH cs k++[cs[k]!]:=X6 h
theorem JA {cs:List Str}{k:Nat}(h : ¬ (bH cs k=[]\/inB cs[k]! (bH cs k)[(bH cs k).length-1]! = false)):bH cs (k+1)=bH cs k:=XZ h
theorem zw (cs:List Str):∀ k,k<=cs.length->(bH cs k).length<=k /\ ∀ x∈bH cs k,x∈cs
 | 0,_=>⟨XY _,fun x hx=>by cases hx⟩
 | k+1,h=>by
  have ih:=zw cs k (by omega)
  by_cases h2:bH cs k=[]\/inB cs[k]! (bH cs k)[(bH cs k).length-1]! = false
  .
   rw[CQ h2];refine⟨by rw[XV];simp;omega,fun x hx=>?_⟩
   rcases Yx.1 hx with hx|hx
   .
    exact ih.2 x hx
   rw[Yq] at hx;subst hx;rw[getElem!_pos _ _ (by omega)];exact Yv _
  rw[JA h2];exact⟨om,ih.2⟩
theorem wz {z:Zon}(hn:kU z) {k i:Nat}(hk:k<=(cutsF z).length) (h:i<(bH (cutsF z) k).length):(bH (cutsF z) k)[i]!.length<=1000:=by
 refine Ac hn _ (XY _) _ ((zw _ k hk).2 _ ?_)
 rw[getElem!_pos (bH (cutsF z) k) i h];exact Yv h
theorem Uf {z:Zon}(hn:kU z):(highF z).length<=1000000:=Yc (zw _ _ (XY _)).1 (Lm hn)
theorem kW {z:Zon}(hn:kU z) {i:Nat}(h:i<(highF z).length):(highF z)[i]!.length<=1000:=wz hn (XY _) h
theorem Qo (z:Zon) (hl:z.sets.length<=1000000):PureCt Tryz.prog 221 [.agg z.d] (.list false ((cutsF z).map sR)):=by
 refine oO Tryz.func221 fun ff=>?_
 unfold Tryz.f221
 refine oC Jl ?_
 refine ae ?_
 refine qM 3 9 (by simp only[go_sem,ff]) (by simp only[go_sem,ff]) ?_
 refine aa Jl ?_
 refine ah ?_
 refine lp (α:=(Nat)×(Nat)×Nat) [1] (fun ⟨k,r,nx⟩=>(k<=z.sets.length)/\(r<nx)/\(0<r)/\True) (fun ⟨k,r,nx⟩=>z.sets.length-k) (fun ⟨k,r,nx⟩=>[(3,.mrow r 0 (iA z k).length),(4,.i k)]) (fun ⟨k,r,nx⟩=>[(0,⟨28,[z.d]⟩),(r,⟨9,(iA z k).map sR⟩)]) (fun ⟨k,r,nx⟩=>nx) (0,3,_) (hA:=⟨iv,iv,iv,trivial⟩) (round:=?_)
 rintro⟨k,r,nx⟩ ⟨hk,hr,hr0, -⟩
 simp only[X0,X3]
 have hcl:=DC z k
 have n0:0<nx:=by omega
 have ff:=qD @hr @n0 (nH 0 r) ff
 refine oL Jl (fun c1=>?_) (fun c1=>?_) (hp:=rfl)
 .
  have hk2:k<z.sets.length:=by simpa using c1
  have ff:=qA (bJ hk2) ff;refine ae ?_;refine ah ?_;refine oC Jl ?_;refine cd (fun c2=>?_) (fun c2=>?_)
  .
   refine ai Jl ?_;refine ai Jl ?_
   show ∃ _,_
   have ff:=qA (Dy (z:=z) (k:=k) (by grind)) ff
   exact au (k+1,(nx+27),_) (h1:=⟨iv,iv,iv,trivial⟩)
  refine dw_skip ?_;refine ai Jl ?_
  show ∃ _,_
  have ff:=qA (Dz (z:=z) (k:=k) (by grind)) ff
  exact au (k+1,r,_) (h1:=⟨iv,iv,iv,trivial⟩)
 refine aB ?_
 have e9:k=z.sets.length:=by omega
 subst e9
 refine aa Jl ?_
 exact fp 1
theorem Qm (z:Zon) (hn:kU z):PureCt Tryz.prog 189 [.agg z.d] (.list false ((highF z).map sR)):=by
 refine oO Tryz.func189 fun ff=>?_
 unfold Tryz.f189
 have hl:=hn.1
 have hcl:=Lm hn
 refine aa Jl ?_
 refine aa Jl ?_ (hok:=oF (Qo z hl))
 refine aa Jl ?_
 refine ae ?_
 refine qM 4 9 (by simp only[go_sem,ff]) (by simp only[go_sem,ff]) ?_
 refine aa Jl ?_
 refine ah ?_
 refine lp (α:=(Nat)×(Nat)×Nat) [3] (fun ⟨k,r,nx⟩=>(k<=(cutsF z).length)/\(r<nx)/\True) (fun ⟨k,r,nx⟩=>(cutsF z).length-k) (fun ⟨k,r,nx⟩=>[(4,.mrow r 0 (bH (cutsF z) k).length),(5,.i k)]) (fun ⟨k,r,nx⟩=>[(r,⟨9,(bH (cutsF z) k).map sR⟩)]) (fun ⟨k,r,nx⟩=>nx) (0,6,_) (hA:=⟨iv,iv,trivial⟩) (round:=?_)
 rintro⟨k,r,nx⟩ ⟨hk,hr, -⟩
 simp only[X0,X3]
 have hhl:=(zw (cutsF z) k hk).1
 have ff:=qA @hr ff
 refine oL Jl (fun c1=>?_) (fun c1=>?_) (hp:=rfl)
 .
  have hk2:k<(cutsF z).length:=by simpa using c1
  have e1:(((bH (cutsF z) k).length:Int)-1).toNat=(bH (cutsF z) k).length-1:=by omega
  have ff:=qB (iq hk2) @e1 ff;refine ae ?_;refine ah ?_
  by_cases h0:(bH (cutsF z) k).length=0
  .
   have hnil:=X5 h0;have ff:=qB @h0 @hnil ff;refine aa Jl ?_ (hok:=by (try simp only[go_sem,ff]);all_goals (first|done|((repeat' (with_reducible apply And.intro))<;>first|(exact (fun _=>jG _ _ (Ae hn hk2) (wz hn hk h9)))|omega|(intros;omega)|(intro h;simp at h;done)|skip)))
   refine cd (fun c2=>?_) (fun c2=>?_) (hq:=rfl)
   .
    refine ai Jl ?_;refine ai Jl ?_
    show ∃ _,_
    have ff:=qA (CQ (cs:=cutsF z) (k:=k) (by first|exact .inl (List.eq_nil_of_length_eq_zero h0)|grind)) ff
    exact au (k+1,(nx+27),_) (h1:=⟨iv,iv,trivial⟩)
   grind
  have h9:(bH (cutsF z) k).length-1<(bH (cutsF z) k).length:=by omega
  have ff:=qA (iq h9) ff;refine aa Jl ?_ (hok:=by (try simp only[go_sem,ff]);all_goals (first|done|((repeat' (with_reducible apply And.intro))<;>first|(exact (fun _=>jG _ _ (Ae hn hk2) (wz hn hk h9)))|omega|(intros;omega)|(intro h;simp at h;done)|skip)))
  refine cd (fun c2=>?_) (fun c2=>?_)
  .
   refine ai Jl ?_;refine ai Jl ?_
   show ∃ _,_
   have ff:=qA (CQ (cs:=cutsF z) (k:=k) (by first|exact .inl (List.eq_nil_of_length_eq_zero h0)|grind)) ff
   exact au (k+1,(nx+27),_) (h1:=⟨iv,iv,trivial⟩)
  refine dw_skip ?_;refine ai Jl ?_
  show ∃ _,_
  have ff:=qA (JA (cs:=cutsF z) (k:=k) (by grind)) ff
  exact au (k+1,r,_) (h1:=⟨iv,iv,trivial⟩)
 refine aB ?_
 have e9:k=(cutsF z).length:=by omega
 subst e9
 refine aa Jl ?_
 exact fp 1
theorem GD (z:Zon) (hn:kU z):PureCt Tryz.prog 139 [.agg z.d] (.list false ((behR z).map sR)):=by
 refine oO Tryz.func139 fun ff=>?_
 unfold Tryz.f139
 have hl:=hn.1
 have hcl:=Uf hn
 refine aa Jl ?_
 refine aa Jl ?_ (hok:=oF (Qm z hn))
 refine oC Jl ?_
 refine ae ?_
 refine aa Jl ?_
 refine ah ?_
 refine lp (α:=(Nat)×(Nat)×(Nat)×Nat) [1,3] (fun ⟨k,j,rb,nx⟩=>(k<=z.sets.length)/\(rb<nx)/\(0<rb)/\(j=eD (highF z) z.sets k)/\(j<=(highF z).length)/\True) (fun ⟨k,j,rb,nx⟩=>z.sets.length-k) (fun ⟨k,j,rb,nx⟩=>[(4,.mrow rb 0 z.sets.length),(5,.i j),(6,.i k)]) (fun ⟨k,j,rb,nx⟩=>[(0,⟨28,[z.d]⟩),(rb,⟨9,(gM (highF z) z.sets z.sets.length (k)).map sR⟩)]) (fun ⟨k,j,rb,nx⟩=>nx) (0,0,8,_) (hA:=⟨iv,iv,iv,rfl,iv,trivial⟩) (round:=?_)
 rintro⟨k,j,rb,nx⟩ ⟨hk,hx,hb0,hj,hj2, -⟩
 simp only[X0,X3]
 have n0:0<nx:=by omega
 have ff:=qD @hx @n0 (nH 0 rb) ff
 refine oL Jl (fun c1=>?_) (fun c1=>?_) (hp:=rfl)
 .
  have hk2:k<z.sets.length:=by simpa using c1
  have ff:=qD (bJ hk2) (Bn (hs:=highF z) (l:=z.sets) hk) (iq (l:=gM (highF z) z.sets z.sets.length k) (n:=k) (by rw[Bn hk];exact hk2)) ff
  refine ae ?_;refine ah ?_;refine aa Jl ?_;refine ae ?_;refine ah ?_;refine lp (α:=(Nat)×Nat) [1,3,4,6,7] (fun ⟨i,nx⟩=>(i<=(highF z).length)/\(rb<nx)/\(jU (highF z) z.sets[k]!.set.name j=jU (highF z) z.sets[k]!.set.name i)/\True) (fun ⟨i,nx⟩=>(highF z).length-i) (fun ⟨i,nx⟩=>[(5,.i i)]) (fun ⟨i,nx⟩=>[(0,⟨28,[z.d]⟩),(rb,⟨9,(gM (highF z) z.sets z.sets.length (k)).map sR⟩)]) (fun ⟨i,nx⟩=>nx) (j,_) (hA:=⟨iv,iv,rfl,trivial⟩) (round:=?_)
  rintro⟨i,nx⟩ ⟨hi,hx,hv2, -⟩;simp only[X0,X3];have n0:0<nx:=by omega
  have ff:=qD @hx @n0 (nH 0 rb) ff;refine ae ?_
  by_cases hk4:i<(highF z).length
  .
   have ff:=qA (iq hk4) ff;refine aa Jl ?_ (hok:=by (try simp only[go_sem,ff]);all_goals (first|done|((repeat' (with_reducible apply And.intro))<;>first|(exact (fun _=>vE _ _ (kW hn hk4) (hn.2 _ hk2)))|omega|(intros;omega)|skip)))
   refine cd (fun c2=>?_) (fun c2=>?_) (hq:=rfl)
   .
    refine dw_skip ?_;refine ah ?_;refine ai Jl ?_
    show ∃ _,_
    exact au (i+1,_) (h1:=⟨iv,iv,(by first|(rw[hv2,qY];grind)|(dsimp only;rw[hv2,qY];grind)),trivial⟩)
   have hav:eD (highF z) z.sets (k+1)=i:=by show jU _ _ _=_;rw[<- hj,hv2,qY];grind
   refine aB ?_
   by_cases hi0:i=0
   .
    have ff:=qA @hi0 ff;refine aa Jl ?_ (hok:=by (try simp only[go_sem,ff]);all_goals (first|done|((repeat' (with_reducible apply And.intro))<;>first|(exact (fun _=>jG _ _ (hn.2 _ hk2) (kW hn hi9)))|omega|(intros;omega)|(intro h;simp at h;done)|skip)))
    refine cd (fun c3=>?_) (fun c3=>?_)
    .
     refine ai Jl ?_;refine ai Jl ?_
     show ∃ _,_
     have hcc:eO (highF z) z.sets[k]!.set.name (eD (highF z) z.sets (k+1))=(highF z)[i-1]! := by rw[hav];simp only[eO];grind
     have ff:=qA (yh hk2 hcc) ff;exact au (k+1,i,rb,_) (h1:=⟨iv,iv,iv,(by first|(exact hav.symm)|(dsimp only;exact hav.symm)),iv,trivial⟩)
    refine dw_skip ?_;refine ai Jl ?_
    show ∃ _,_
    have hcc:eO (highF z) z.sets[k]!.set.name (eD (highF z) z.sets (k+1))=[]:=by rw[hav];simp only[eO];grind
    have ff:=qA (yj hk2 hcc) ff;exact au (k+1,i,rb,_) (h1:=⟨iv,iv,iv,(by first|(exact hav.symm)|(dsimp only;exact hav.symm)),iv,trivial⟩)
   have hi9:i-1<(highF z).length:=by omega
   have e1:((i:Int)-1).toNat=i-1:=by omega
   have ff:=qB @e1 (iq hi9) ff;refine aa Jl ?_ (hok:=by (try simp only[go_sem,ff]);all_goals (first|done|((repeat' (with_reducible apply And.intro))<;>first|(exact (fun _=>jG _ _ (hn.2 _ hk2) (kW hn hi9)))|omega|(intros;omega)|(intro h;simp at h;done)|skip)))
   refine cd (fun c3=>?_) (fun c3=>?_)
   .
    refine ai Jl ?_;refine ai Jl ?_
    show ∃ _,_
    have hcc:eO (highF z) z.sets[k]!.set.name (eD (highF z) z.sets (k+1))=(highF z)[i-1]! := by rw[hav];simp only[eO];grind
    have ff:=qA (yh hk2 hcc) ff;exact au (k+1,i,rb,_) (h1:=⟨iv,iv,iv,(by first|(exact hav.symm)|(dsimp only;exact hav.symm)),iv,trivial⟩)
   refine dw_skip ?_;refine ai Jl ?_
   show ∃ _,_
   have hcc:eO (highF z) z.sets[k]!.set.name (eD (highF z) z.sets (k+1))=[]:=by rw[hav];simp only[eO];grind
   have ff:=qA (yj hk2 hcc) ff;exact au (k+1,i,rb,_) (h1:=⟨iv,iv,iv,(by first|(exact hav.symm)|(dsimp only;exact hav.symm)),iv,trivial⟩)
  have e9:decide ((i:Int)<((highF z).length:Int))=false:=Y6 om;have ff:=qA @e9 ff;refine aa Jl ?_ (hok:=by (try simp only[go_sem,ff]);all_goals (first|done|((repeat' (with_reducible apply And.intro))<;>first|(exact (fun _=>vE _ _ (kW hn hk4) (hn.2 _ hk2)))|omega|(intros;omega)|skip)))
  refine cd (fun c2=>?_) (fun c2=>?_) (hp:=rfl) (hq:=rfl)
  .
   grind
  have hav:eD (highF z) z.sets (k+1)=i:=by show jU _ _ _=_;rw[<- hj,hv2,qY];grind
  refine aB ?_
  by_cases hi0:i=0
  .
   have ff:=qA @hi0 ff;refine aa Jl ?_ (hok:=by (try simp only[go_sem,ff]);all_goals (first|done|((repeat' (with_reducible apply And.intro))<;>first|(exact (fun _=>jG _ _ (hn.2 _ hk2) (kW hn hi9)))|omega|(intros;omega)|(intro h;simp at h;done)|skip)))
   refine cd (fun c3=>?_) (fun c3=>?_)
   .
    refine ai Jl ?_;refine ai Jl ?_
    show ∃ _,_
    have hcc:eO (highF z) z.sets[k]!.set.name (eD (highF z) z.sets (k+1))=(highF z)[i-1]! := by rw[hav];simp only[eO];grind
    have ff:=qA (yh hk2 hcc) ff;exact au (k+1,i,rb,_) (h1:=⟨iv,iv,iv,(by first|(exact hav.symm)|(dsimp only;exact hav.symm)),iv,trivial⟩)
   refine dw_skip ?_;refine ai Jl ?_
   show ∃ _,_
   have hcc:eO (highF z) z.sets[k]!.set.name (eD (highF z) z.sets (k+1))=[]:=by rw[hav];simp only[eO];grind
   have ff:=qA (yj hk2 hcc) ff;exact au (k+1,i,rb,_) (h1:=⟨iv,iv,iv,(by first|(exact hav.symm)|(dsimp only;exact hav.symm)),iv,trivial⟩)
  have hi9:i-1<(highF z).length:=by omega
  have e1:((i:Int)-1).toNat=i-1:=by omega
  have ff:=qB @e1 (iq hi9) ff;refine aa Jl ?_ (hok:=by (try simp only[go_sem,ff]);all_goals (first|done|((repeat' (with_reducible apply And.intro))<;>first|(exact (fun _=>jG _ _ (hn.2 _ hk2) (kW hn hi9)))|omega|(intros;omega)|(intro h;simp at h;done)|skip)))
  refine cd (fun c3=>?_) (fun c3=>?_)
  .
   refine ai Jl ?_;refine ai Jl ?_
   show ∃ _,_
   have hcc:eO (highF z) z.sets[k]!.set.name (eD (highF z) z.sets (k+1))=(highF z)[i-1]! := by rw[hav];simp only[eO];grind
   have ff:=qA (yh hk2 hcc) ff;exact au (k+1,i,rb,_) (h1:=⟨iv,iv,iv,(by first|(exact hav.symm)|(dsimp only;exact hav.symm)),iv,trivial⟩)
  refine dw_skip ?_;refine ai Jl ?_
  show ∃ _,_
  have hcc:eO (highF z) z.sets[k]!.set.name (eD (highF z) z.sets (k+1))=[]:=by rw[hav];simp only[eO];grind
  have ff:=qA (yj hk2 hcc) ff;exact au (k+1,i,rb,_) (h1:=⟨iv,iv,iv,(by first|(exact hav.symm)|(dsimp only;exact hav.symm)),iv,trivial⟩)
 refine aB ?_
 have e9:k=z.sets.length:=by omega
 subst e9
 have tk:List.take z.sets.length ((gM (highF z) z.sets z.sets.length z.sets.length).map sR)=(behR z).map sR:=by rw[PK];exact Yp (by rw[Zk,o9];exact XY _)
 have ff:=qB @tk (Bn (hs:=highF z) (l:=z.sets) (XY z.sets.length)) ff
 refine aa Jl ?_
 exact oN (fin 1 (hr:=oR) (hk:=by (try simp only[go_sem,ff]);all_goals (exact o9 _ _ _)))
end Go.Proofs.YtjngdcldglkolaaGreatDoor
namespace Go.Proofs.YtjngdcldglkolaaGreatDoor
open Go.DL Go.Str Go.Rec Go.Cmp Go.Zon
set_option maxRecDepth 10000
variable [Glob Tryz.prog] [Told]
theorem DV (z:Zon):(behR z).length=z.sets.length:=o9 _ _ _
theorem Hr (z:Zon):(ownF z).length=z.sets.length:=rJ _ _
theorem Gz (z:Zon) (hn:kU z):PureCt Tryz.prog 87 [.agg z.d] (.b (fourB z)):=by
 refine oO Tryz.func87 fun ff=>?_
 unfold Tryz.f87
 have hl:=hn.1
 have hbl:=DV z
 refine aa Jl ?_
 refine aa Jl ?_ (hok:=oF (GD z hn))
 refine ae ?_
 refine aa Jl ?_
 refine ah ?_
 refine lp (α:=(Nat)×Nat) [1,3] (fun ⟨k,nx⟩=>(k<=z.sets.length)/\(az z.sets.length (cutAt ⟨z,behR z⟩) 0=az z.sets.length (cutAt ⟨z,behR z⟩) k)/\(0<nx)/\True) (fun ⟨k,nx⟩=>z.sets.length-k) (fun ⟨k,nx⟩=>[(4,.i k)]) (fun ⟨k,nx⟩=>[(0,⟨28,[z.d]⟩)]) (fun ⟨k,nx⟩=>nx) (0,_) (hA:=⟨iv,rfl,iv,trivial⟩) (round:=?_)
 rintro⟨k,nx⟩ ⟨hk,hv,hx, -⟩
 simp only[X0,X3]
 have ff:=qA @hx ff
 refine oL Jl (fun c1=>?_) (fun c1=>?_) (hp:=rfl)
 .
  have hk2:k<z.sets.length:=by simpa using c1
  have hk3:k<(behR z).length:=by omega
  have ff:=qB (bJ hk2) (iq hk3) ff;refine ae ?_;refine ah ?_;refine oC Jl ?_;refine oK Jl (fun c2=>?_) (fun c2=>?_)
  .
   refine aa Jl ?_;exact fo 0 (k:=by have hF:(cutAt ⟨z,behR z⟩) k=false:=(by simp only[cutAt];grind);simp only[fourB,cutB];rw[hv,bS hk2 hF];try simp)
  refine oK Jl (fun c3=>?_) (fun c3=>?_)
  .
   refine aa Jl ?_;exact fo 0 (k:=by have hF:(cutAt ⟨z,behR z⟩) k=false:=(by simp only[cutAt];grind);simp only[fourB,cutB];rw[hv,bS hk2 hF];try simp)
  refine aa Jl ?_;refine cd (fun c4=>?_) (fun c4=>?_)
  .
   refine aa Jl ?_;exact fo 0 (k:=by have hF:(cutAt ⟨z,behR z⟩) k=false:=(by simp only[cutAt];grind);simp only[fourB,cutB];rw[hv,bS hk2 hF];try simp)
  refine dw_skip ?_;refine ai Jl ?_
  show ∃ _,_
  have h8:(cutAt ⟨z,behR z⟩) k=true:=by simp only[cutAt];grind
  exact au (k+1,_) (h1:=⟨iv,(by first|(rw[hv,aY hk2 h8])|(dsimp only;rw[hv,aY hk2 h8])),iv,trivial⟩)
 refine aB ?_
 refine aa Jl ?_
 exact fo 0 (k:=by simp only[fourB,cutB];rw[hv,gp (by omega)])
theorem Ql (z:Zon) (hn:kU z):PureCt Tryz.prog 140 [.agg z.d] (.list false ((ownF z).map bR)):=by
 refine oO Tryz.func140 fun ff=>?_
 unfold Tryz.f140
 have hl:=hn.1
 have hbl:=DV z
 refine aa Jl ?_
 refine aa Jl ?_ (hok:=oF (GD z hn))
 refine aa Jl ?_
 refine ae ?_
 refine aa Jl ?_
 refine ah ?_
 refine lp (α:=(Nat)×(Nat)×Nat) [1,3] (fun ⟨k,rb,nx⟩=>(k<=z.sets.length)/\(rb<nx)/\(0<rb)/\True) (fun ⟨k,rb,nx⟩=>z.sets.length-k) (fun ⟨k,rb,nx⟩=>[(4,.mrow rb 0 z.sets.length),(5,.i k)]) (fun ⟨k,rb,nx⟩=>[(0,⟨28,[z.d]⟩),(rb,⟨4,(jE ⟨z,behR z⟩ z.sets.length (k)).map bR⟩)]) (fun ⟨k,rb,nx⟩=>nx) (0,8,_) (hA:=⟨iv,iv,iv,trivial⟩) (round:=?_)
 rintro⟨k,rb,nx⟩ ⟨hk,hx,hb0, -⟩
 simp only[X0,X3]
 have n0:0<nx:=by omega
 have ff:=qD @hx @n0 (nH 0 rb) ff
 refine oL Jl (fun c1=>?_) (fun c1=>?_) (hp:=rfl)
 .
  have hk2:k<z.sets.length:=by simpa using c1
  have hk3:k<(behR z).length:=by omega
  have ff:=qE (bJ hk2) (iq hk3) (Bp (x:=⟨z,behR z⟩) hk) (JM (l:=jE ⟨z,behR z⟩ z.sets.length k) (n:=k) (by rw[Bp hk];exact hk2)) ff
  refine ae ?_;refine ah ?_;refine aa Jl ?_;refine ai Jl ?_;refine ai Jl ?_
  show ∃ _,_
  exact au (k+1,rb,_) (h1:=⟨iv,iv,iv,trivial⟩) (h3:=by (try simp only[go_sem,ff]);all_goals (first|done|exact congrArg (fun q=>some (Blk.mk 4 q)) (Bo hk2 (by simp only[nR];grind))|(simp;done))) (h4:=by (try simp only[go_sem,ff]);all_goals (first|done|exact congrArg (fun q=>some (Blk.mk 4 q)) (Bo hk2 (by simp only[nR];grind))|(simp;done))) (h5:=by (try simp only[go_sem,ff]);all_goals (first|done|exact congrArg (fun q=>some (Blk.mk 4 q)) (Bo hk2 (by simp only[nR];grind))|(simp;done)))
 refine aB ?_
 have e9:k=z.sets.length:=by omega
 subst e9
 have tk:List.take z.sets.length ((jE ⟨z,behR z⟩ z.sets.length (z.sets.length)).map bR)=(ownF z).map bR:=by rw[PL];exact Yp (by rw[Zk,rJ];exact XY _)
 have ff:=qB @tk (Bp (x:=⟨z,behR z⟩) (XY z.sets.length)) ff
 refine aa Jl ?_
 exact oN (fin 1 (hr:=oR) (hk:=by (try simp only[go_sem,ff]);all_goals (exact Hr z)))
theorem GA (z:Zon) (hn:kU z):PureCt Tryz.prog 88 [.agg z.d] (.b (fiveB z)):=by
 refine oO Tryz.func88 fun ff=>?_
 unfold Tryz.f88
 have hl:=hn.1
 have hbl:=DV z
 have hol:=Hr z
 refine aa Jl ?_
 refine aa Jl ?_ (hok:=oF (Ql z hn))
 refine ae ?_
 refine aa Jl ?_
 refine ah ?_
 refine lp (α:=(Nat)×Nat) [1,3] (fun ⟨k,nx⟩=>(k<=z.sets.length)/\(az z.sets.length (oQ ⟨z,behR z⟩) 0=az z.sets.length (oQ ⟨z,behR z⟩) k)/\(0<nx)/\True) (fun ⟨k,nx⟩=>z.sets.length-k) (fun ⟨k,nx⟩=>[(4,.i k)]) (fun ⟨k,nx⟩=>[(0,⟨28,[z.d]⟩)]) (fun ⟨k,nx⟩=>nx) (0,_) (hA:=⟨iv,rfl,iv,trivial⟩) (round:=?_)
 rintro⟨k,nx⟩ ⟨hk,hv,hx, -⟩
 simp only[X0,X3]
 have ff:=qA @hx ff
 refine oL Jl (fun c1=>?_) (fun c1=>?_) (hp:=rfl)
 .
  have hk2:k<z.sets.length:=by simpa using c1
  have hk3:k<(ownF z).length:=by omega
  have ho:(ownF z)[k]! = nR ⟨z,behR z⟩ k:=Rj _ _ _ hk2;have ff:=qB (bJ hk2) (JM hk3) ff;refine ae ?_;refine ah ?_;refine aa Jl ?_ (hok:=by (try simp only[go_sem,ff]);all_goals (first|done|((repeat' (with_reducible apply And.intro))<;>first|(intros;exact FX _ _)|omega|(intros;omega)|(intros;simp_all;done)|skip)))
  refine cd (fun c2=>?_) (fun c2=>?_)
  .
   refine aa Jl ?_;exact fo 0 (k:=by have hF:(oQ ⟨z,behR z⟩) k=false:=(by simp only[oQ,kD,mV,nR] at *;grind);simp only[fiveB];rw[hv,bS hk2 hF];try simp)
  refine dw_skip ?_;refine ai Jl ?_
  show ∃ _,_
  have h8:(oQ ⟨z,behR z⟩) k=true:=by simp only[oQ,kD,mV,nR] at *;grind
  exact au (k+1,_) (h1:=⟨iv,(by first|(rw[hv,aY hk2 h8])|(dsimp only;rw[hv,aY hk2 h8])),iv,trivial⟩)
 refine aB ?_
 refine aa Jl ?_
 exact fo 0 (k:=by simp only[fiveB];rw[hv,gp (by omega)])
theorem vI (z:Zon):PureCt Tryz.prog 34 [.agg z.d] (.b (refOk z)):=by
 refine oO Tryz.func34 fun ff=>?_
 unfold Tryz.f34
 refine aa Jl ?_
 refine aa Jl ?_ (hok:=by (try simp only[go_sem,ff]);all_goals (first|done|((repeat' (with_reducible apply And.intro))<;>first|(intros;exact Gy z)|(exact (fun h=>Gw z (qd (by simp_all)).1))|(exact (fun h=>Gx z (qd (by simp_all)).1))|(exact (fun h=>Gz z (qd (by simp_all))))|(exact (fun h=>GA z (qd (by simp_all))))|(intros;simp_all;done)|skip)))
 exact fo 0 (k:=by simp[refOk,ZZ])
end Go.Proofs.YtjngdcldglkolaaGreatDoor
namespace Go.Proofs.YtjngdcldglkolaaGreatDoor
open Go.DL Go.Str Go.Rec Go.Cmp Go.Zon
set_option maxRecDepth 10000
variable [Glob Tryz.prog] [Told]
theorem Qx {x y:Qst}(h:x.name=y.name/\x.ty=y.ty):x=y:=by
 obtain⟨a,b⟩:=x
 obtain⟨g,i⟩:=y
 simp at h
 simp[h]
theorem FY (x:Int):PureCt Tryz.prog 61 [.i x] (.b (serB x)):=by
 refine oO Tryz.func61 fun ff=>?_
 unfold Tryz.f61
 refine oC Jl ?_
 exact fo 0 (k:=by simp[serB])
theorem zW (x:Int):PureCt Tryz.prog 105 [.i x] (.b (serB x)):=by
 refine oO Tryz.func105 fun ff=>?_
 unfold Tryz.f105
 refine oC Jl ?_
 exact fo 0 (k:=by simp[serB])
theorem Gu (a:Int) (b:Int) (ha:serB a=true) (hb:serB b=true):PureCt Tryz.prog 62 [.i a,.i b] (.b (befB a b)):=by
 refine oO Tryz.func62 fun ff=>?_
 unfold Tryz.f62
 simp only[serB,XW,XX] at ha hb
 refine oD Jl ?_
 exact fo 0 (k:=by simp[befB])
theorem La (a:Int) (b:Int) (ha:serB a=true) (hb:serB b=true):PureCt Tryz.prog 106 [.i a,.i b] (.b (befB a b)):=by
 refine oO Tryz.func106 fun ff=>?_
 unfold Tryz.f106
 simp only[serB,XW,XX] at ha hb
 refine oD Jl ?_
 exact fo 0 (k:=by simp[befB])
theorem kN (s:Sgd):PureCt Tryz.prog 66 [.agg s.d] (.agg s.q.d):=by
 refine oO Tryz.func66 fun ff=>?_
 unfold Tryz.f66
 refine oC Jl ?_
 exact fp 1
theorem lY (s:Sgd):PureCt Tryz.prog 51 [.agg s.d] (.agg s.q.d):=by
 refine oO Tryz.func51 fun ff=>?_
 unfold Tryz.f51
 refine oC Jl ?_
 exact fp 1
theorem rF (a:Qst) (b:Qst):PureCt Tryz.prog 64 [.agg a.d,.agg b.d] (.i (qO a b)):=by
 refine oO Tryz.func64 fun ff=>?_
 unfold Tryz.f64
 refine aa Jl ?_
 refine aa Jl ?_ (hok:=oF (Br ⟨a.name,a.ty,0,[]⟩ ⟨b.name,b.ty,0,[]⟩))
 exact fp 0
theorem FZ (l:List Sgd) (q:Qst) (hl:l.length<=1000000):PureCt Tryz.prog 97 [.list false (l.map Sgd.d),.agg q.d] (.i (atF l q)):=by
 refine oO Tryz.func97 fun ff=>?_
 unfold Tryz.f97
 refine aa Jl ?_
 refine ae ?_
 refine aa Jl ?_
 refine ah ?_
 refine lp (α:=(Nat)×Nat) [0,3] (fun ⟨k,nx⟩=>(k<=l.length)/\(0<nx)/\(atF l q=kw l q k)/\True) (fun ⟨k,nx⟩=>l.length-k) (fun ⟨k,nx⟩=>[(5,.i k)]) (fun ⟨k,nx⟩=>[(0,⟨86,[q.d]⟩)]) (fun ⟨k,nx⟩=>nx) (0,_) (hA:=⟨iv,iv,rfl,trivial⟩) (round:=?_)
 rintro⟨k,nx⟩ ⟨hk,hx,hv, -⟩
 simp only[X0,X3]
 have ff:=qA @hx ff
 refine oL Jl (fun c1=>?_) (fun c1=>?_) (hp:=rfl)
 .
  have hk2:k<l.length:=by simpa using c1
  have ff:=qA (bJ hk2) ff;refine ae ?_;refine ah ?_;refine aa Jl ?_ (hok:=by (try simp only[go_sem,ff]);all_goals (first|done|((repeat' (with_reducible apply And.intro))<;>first|(intros;exact kN l[k]!)|rfl|omega|skip)))
  refine cd (fun c2=>?_) (fun c2=>?_)
  .
   refine aa Jl ?_;exact fo 0 (k:=by rw[hv,mK,X6 hk2,X6 (by cases q;simp_all [Sgd.q])])
  refine dw_skip ?_;refine ai Jl ?_
  show ∃ _,_
  exact au (k+1,_) (h1:=⟨iv,iv,(by (try dsimp only);rw[hv,mK,if_pos hk2,if_neg (by intro e;rw[<- e] at c2;simp[Sgd.q] at c2)]),trivial⟩)
 refine aB ?_
 refine aa Jl ?_
 exact fo 0 (k:=by rw[hv,mK,XZ (by omega)])
theorem yA (l:List Qst) (q:Qst) (hl:l.length<=1000000):PureCt Tryz.prog 67 [.list false (l.map Qst.d),.agg q.d] (.b (askB l q)):=by
 refine oO Tryz.func67 fun ff=>?_
 unfold Tryz.f67
 refine aa Jl ?_
 refine ae ?_
 refine aa Jl ?_
 refine ah ?_
 refine lp (α:=(Nat)×Nat) [0,3] (fun ⟨k,nx⟩=>(k<=l.length)/\(0<nx)/\(∀ i,i<k->l[i]! ≠ q)/\True) (fun ⟨k,nx⟩=>l.length-k) (fun ⟨k,nx⟩=>[(5,.i k)]) (fun ⟨k,nx⟩=>[(0,⟨86,[q.d]⟩)]) (fun ⟨k,nx⟩=>nx) (0,_) (hA:=⟨iv,iv,(by first|(intro i hi;omega)|(dsimp only;intro i hi;omega)),trivial⟩) (round:=?_)
 rintro⟨k,nx⟩ ⟨hk,hx,hv, -⟩
 simp only[X0,X3]
 have ff:=qA @hx ff
 refine oL Jl (fun c1=>?_) (fun c1=>?_) (hp:=rfl)
 .
  have hk2:k<l.length:=by simpa using c1
  have ff:=qA (qz hk2) ff;refine ae ?_;refine ah ?_;refine aa Jl ?_;refine cd (fun c2=>?_) (fun c2=>?_)
  .
   refine aa Jl ?_;exact fo 0 (k:=by rw[Xj hk2 (Qx c2)])
  refine dw_skip ?_;refine ai Jl ?_
  show ∃ _,_
  exact au (k+1,_) (h1:=⟨iv,iv,(by (try dsimp only);intro i hi;by_cases e:i=k;subst e;intro e2;rw[<- e2] at c2;simp at c2;exact hv i (by omega)),trivial⟩)
 refine aB ?_
 refine aa Jl ?_
 exact fo 0 (k:=by rw[Xk fun i hi=>hv i (by omega)])
theorem PS (d:Dlt):PureCt Tryz.prog 12 [.agg d.d] (.b (fewD d)):=by
 refine oO Tryz.func12 fun ff=>?_
 unfold Tryz.f12
 refine aa Jl ?_
 refine ae ?_
 refine aa Jl ?_
 refine ah ?_
 refine lp (α:=(Nat)×Nat) [1] (fun ⟨k,nx⟩=>(k<=d.put.length)/\(k<=50)/\(0<nx)/\(az (min d.put.length 50) (fun i=>decide (d.put[i]!.sigs.length<=10)&&decide (d.put[i]!.set.data.length<=20)) 0=az (min d.put.length 50) (fun i=>decide (d.put[i]!.sigs.length<=10)&&decide (d.put[i]!.set.data.length<=20)) k)/\True) (fun ⟨k,nx⟩=>d.put.length-k) (fun ⟨k,nx⟩=>[(3,.i k)]) (fun ⟨k,nx⟩=>[(0,⟨31,[d.d]⟩)]) (fun ⟨k,nx⟩=>nx) (0,_) (hA:=⟨iv,iv,iv,rfl,trivial⟩) (round:=?_)
 rintro⟨k,nx⟩ ⟨hk,hk7,hx,hv, -⟩
 simp only[X0,X3]
 have ff:=qA @hx ff
 refine oL Jl (fun c1=>?_) (fun c1=>?_)
 .
  have hk2:k<d.put.length:=by grind
  have hk9:k<50:=by grind
  have hk8:k<min d.put.length 50:=by omega
  have ff:=qA (bJ hk2) ff;refine ae ?_;refine ah ?_;refine aa Jl ?_;refine cd (fun c2=>?_) (fun c2=>?_)
  .
   refine aa Jl ?_;exact fo 0 (k:=by simp only[fewD];rw[hv,bS hk8 (by grind)];rfl)
  refine dw_skip ?_;refine ai Jl ?_
  show ∃ _,_
  exact au (k+1,_) (h1:=⟨iv,iv,iv,(by (try dsimp only);rw[hv,aY hk8 (by grind)]),trivial⟩)
 refine aB ?_
 refine aa Jl ?_
 exact fo 0 (k:=by simp only[fewD];rw[hv,gp (by grind)];simp;rw[Bool.eq_iff_iff];simp;omega)
end Go.Proofs.YtjngdcldglkolaaGreatDoor
namespace Go.Proofs.YtjngdcldglkolaaGreatDoor
open Go.DL Go.Str Go.Rec Go.Cmp Go.Zon
set_option maxRecDepth 10000
variable [Glob Tryz.prog] [Told]
@[go_sem] theorem insTo_0 {α:Type}[Inhabited α] {gt:α->Bool}{l:List α}{s:α}:cO gt l s 0=([],false):=rfl
@[go_sem] theorem Fu {l:List Sgd}{x:Sgd}:(l++[x]).map Sgd.d=l.map Sgd.d++[[.v (.string (bs x.set.name)),.i x.set.ty,.i x.set.life,.list false (x.set.data.map Dat.d),.list false (x.sigs.map RSig.d)]]:=by simp[Sgd.d]
theorem TT {α:Type}[Inhabited α] (gt:α->Bool) (l:List α) (s:α) (k:Nat):(cO gt l s k).1.length<=k+1:=by
 rw[CP];split<;>omega
theorem Pv (l:List Sgd) (s:Sgd) (hl:l.length<=1000000):PureCt Tryz.prog 98 [.list false (l.map Sgd.d),.agg s.d] (.list false ((sortedF l s).map Sgd.d)):=by
 refine oO Tryz.func98 fun ff=>?_
 unfold Tryz.f98
 refine oC Jl ?_
 refine qM 5 66 (by simp only[go_sem,ff]) (by simp only[go_sem,ff]) ?_
 refine aa Jl ?_
 refine ae ?_
 refine aa Jl ?_
 refine ah ?_
 refine lp (α:=(Nat)×(Nat)×Nat) [0,3] (fun ⟨k,r,nx⟩=>(k<=l.length)/\(r<nx)/\(0<r)/\True) (fun ⟨k,r,nx⟩=>l.length-k) (fun ⟨k,r,nx⟩=>[(5,.mrow r 0 (cO (fun x=>decide (0<qO x.q s.q)) l s k).1.length),(6,.b (cO (fun x=>decide (0<qO x.q s.q)) l s k).2),(7,.i k)]) (fun ⟨k,r,nx⟩=>[(0,⟨66,[s.d]⟩),(r,⟨66,(cO (fun x=>decide (0<qO x.q s.q)) l s k).1.map Sgd.d⟩)]) (fun ⟨k,r,nx⟩=>nx) (0,3,_) (hA:=⟨iv,iv,iv,trivial⟩) (round:=?_)
 rintro⟨k,r,nx⟩ ⟨hk,hr,hr0, -⟩
 simp only[X0,X3]
 have n0:0<nx:=by omega
 have hgl:=TT (fun x=>decide (0<qO x.q s.q)) l s k
 have ff:=qD @hr @n0 (nH 0 r) ff
 refine oL Jl (fun c1=>?_) (fun c1=>?_) (hp:=rfl)
 .
  have hk2:k<l.length:=by simpa using c1
  have ff:=qA (bJ hk2) ff;refine ae ?_;refine ah ?_;refine oK Jl (fun c2=>?_) (fun c2=>?_) (hok:=oJ (kN l[k]!) (kN s) (rF l[k]!.q s.q))
  .
   refine aa Jl ?_;refine ai Jl ?_;refine ai Jl ?_;refine ai Jl ?_
   show ∃ _,_
   have hst:=Jr (gt:=fun x=>decide (0<qO x.q s.q)) (l:=l) (s:=s) (k:=k) (by grind)
   have ff:=qA hst ff;exact au (k+1,(nx+29),_) (h1:=⟨iv,iv,iv,trivial⟩)
  refine ai Jl ?_;refine ai Jl ?_
  show ∃ _,_
  have hst:=Jt (gt:=fun x=>decide (0<qO x.q s.q)) (l:=l) (s:=s) (k:=k) (by grind)
  have ff:=qA hst ff;exact au (k+1,(nx+23),_) (h1:=⟨iv,iv,iv,trivial⟩)
 refine aB ?_
 refine oK Jl (fun c3=>?_) (fun c3=>?_)
 .
  refine ai Jl ?_;have e9:k=l.length:=by omega
  subst e9;refine aa Jl ?_;exact fo 1 (k:=by simp only[sortedF,ou];first|(rw[X6 c3,Fu];done)|(rw[XZ (by simp[c3])];done))
 have e9:k=l.length:=by omega
 subst e9
 refine aa Jl ?_
 exact fo 1 (k:=by simp only[sortedF,ou];first|(rw[X6 c3,Fu];done)|(rw[XZ (by simp[c3])];done))
theorem Bu (d:Dlt):PureCt Tryz.prog 29 [.agg d.d] (.b (dltOk d)):=by
 refine oO Tryz.func29 fun ff=>?_
 unfold Tryz.f29
 refine aa Jl ?_
 refine oK Jl (fun c1=>?_) (fun c1=>?_) (hok:=by (try simp only[go_sem,ff]);all_goals (first|done|((repeat' (with_reducible apply And.intro))<;>first|(intros;exact fw _)|(exact (fun _=>gL _))|(exact (fun _=>FY _))|(exact (fun h=>Gu _ _ (by simp_all) (by simp_all)))|(intros;simp_all;done)|skip)))
 .
  refine aa Jl ?_;exact fo 0 (k:=by simp only[dltOk];grind)
 refine ae ?_
 refine aa Jl ?_
 refine ah ?_
 refine lp (α:=(Nat)×Nat) [1] (fun ⟨k,nx⟩=>(k<=d.drop.length)/\(az d.drop.length (lh d.drop) 0=az d.drop.length (lh d.drop) k)/\(0<nx)/\True) (fun ⟨k,nx⟩=>d.drop.length-k) (fun ⟨k,nx⟩=>[(3,.i k)]) (fun ⟨k,nx⟩=>[(0,⟨31,[d.d]⟩)]) (fun ⟨k,nx⟩=>nx) (0,_) (hA:=⟨iv,rfl,iv,trivial⟩) (round:=?_)
 rintro⟨k,nx⟩ ⟨hk,hv1,hx, -⟩
 simp only[X0,X3]
 have ff:=qA @hx ff
 refine oL Jl (fun c2=>?_) (fun c2=>?_) (hp:=rfl)
 .
  have hk2:k<d.drop.length:=by simpa using c2
  have hk1:k-1<d.drop.length:=by omega
  have e1:((k:Int)-1).toNat=k-1:=by omega
  have ff:=qD (qz hk2) (qz hk1) @e1 ff;refine ae ?_;refine ah ?_;refine aa Jl ?_ (hok:=by (try simp only[go_sem,ff]);all_goals (first|done|((repeat' (with_reducible apply And.intro))<;>first|(intros;exact yg _)|(exact (fun _=>rF _ _))|(intros;exact yg d.drop[k]!)|(exact (fun _=>rF d.drop[k-1]! d.drop[k]!))|omega|(intro h;simp only[XW,XX] at h;omega)|(intros;omega)|(intros;simp_all;done)|skip)))
  refine cd (fun c3=>?_) (fun c3=>?_)
  .
   refine aa Jl ?_;exact fo 0 (k:=by have hF:(lh d.drop) k=false:=(by simp only[lh];grind);simp only[dltOk];rw[hv1,bS hk2 hF];try simp)
  refine dw_skip ?_;refine ai Jl ?_
  show ∃ _,_
  have h8:(lh d.drop) k=true:=by simp only[lh];grind
  exact au (k+1,_) (h1:=⟨iv,(by first|(rw[hv1,aY hk2 h8])|(dsimp only;rw[hv1,aY hk2 h8])),iv,trivial⟩)
 refine aB ?_
 refine ae ?_
 refine aa Jl ?_
 refine ah ?_
 refine lp (α:=(Nat)×Nat) [1] (fun ⟨k,nx⟩=>(k<=d.put.length)/\(az d.put.length (putAt d) 0=az d.put.length (putAt d) k)/\(0<nx)/\True) (fun ⟨k,nx⟩=>d.put.length-k) (fun ⟨k,nx⟩=>[(4,.i k)]) (fun ⟨k,nx⟩=>[(0,⟨31,[d.d]⟩)]) (fun ⟨k,nx⟩=>nx) (0,_) (hA:=⟨iv,rfl,iv,trivial⟩) (round:=?_)
 rintro⟨k,nx⟩ ⟨hk,hv,hx, -⟩
 simp only[X0,X3]
 have ff:=qA @hx ff
 refine oL Jl (fun c4=>?_) (fun c4=>?_) (hp:=rfl)
 .
  have hk2:k<d.put.length:=by simpa using c4
  have hk1:k-1<d.put.length:=by omega
  have e1:((k:Int)-1).toNat=k-1:=by omega
  have hdl:d.drop.length<=1000000:=by have:=c1.1.2;omega
  have ff:=qD (bJ hk2) (bJ hk1) @e1 ff;refine ae ?_;refine ah ?_;refine aa Jl ?_ (hok:=by (try simp only[go_sem,ff]);all_goals (first|done|((repeat' (with_reducible apply And.intro))<;>first|(intros;exact rD _)|(intros;exact rD d.put[k]!.set)|(exact (fun _=>kN d.put[k]!))|(exact (fun _=>kN d.put[k-1]!))|(exact (fun _=>rF d.put[k-1]!.q d.put[k]!.q))|(exact (fun _=>yA d.drop d.put[k]!.q om))|omega|(intro h;simp only[XW,XX] at h;omega)|(intros;omega)|(intros;simp_all;done)|skip)))
  refine cd (fun c5=>?_) (fun c5=>?_)
  .
   refine aa Jl ?_;exact fo 0 (k:=by have hF:(putAt d) k=false:=(by simp only[putAt];grind);simp only[dltOk];rw[hv,bS hk2 hF];try simp)
  refine dw_skip ?_;refine ai Jl ?_
  show ∃ _,_
  have h8:(putAt d) k=true:=by simp only[putAt];grind
  exact au (k+1,_) (h1:=⟨iv,(by first|(rw[hv,aY hk2 h8])|(dsimp only;rw[hv,aY hk2 h8])),iv,trivial⟩)
 refine aB ?_
 refine aa Jl ?_
 exact fo 0 (k:=by simp only[dltOk];rw[hv1,hv,gp (n:=d.drop.length) (by omega),gp (by omega)];grind)
end Go.Proofs.YtjngdcldglkolaaGreatDoor
namespace Go.Proofs.YtjngdcldglkolaaGreatDoor
open Go.DL Go.Str Go.Rec Go.Cmp Go.Zon
set_option maxRecDepth 10000
variable [Glob Tryz.prog] [Told]
@[go_sem] theorem addTo_0 {put l:List Sgd}:eZ put l 0=l:=rfl
theorem BD (a:Zon) (d:Dlt):PureCt Tryz.prog 41 [.agg a.d,.agg d.d] (.tuple [.agg (applyR a d).1.d,.i (applyR a d).2]):=by
 refine oO Tryz.func41 fun ff=>?_
 unfold Tryz.f41
 refine aa Jl ?_
 refine oK Jl (fun c1=>?_) (fun c1=>?_) (hok:=oI vI Bu)
 .
  refine aa Jl ?_;exact fo 3 (k:=by rw[applyR,if_pos (by grind)];rfl)
 have ha:refOk a=true:=by grind
 have hd:dltOk d=true:=by grind
 have hla:=vH ha
 have hld:=VC hd
 refine oK Jl (fun c2=>?_) (fun c2=>?_) (hok:=oF (BF a (by have:=vH ha;omega) (vG ha) (Bv ha)))
 .
  refine aa Jl ?_;exact fo 3 (k:=by rw[applyR,if_neg (by grind),if_pos (by grind)];rfl)
 refine aa Jl ?_
 refine ae ?_
 refine nu 27 1 28 66 ev (by rfl) (by simp only[go_sem,ff]) ?_
 simp only[YL,YD]
 refine aa Jl ?_
 refine ah ?_
 refine lp (α:=(Nat)×(Nat)×Nat) [2,3,4,6] (fun ⟨k,r,nx⟩=>(k<=a.sets.length)/\(r<nx)/\(27<r)/\True) (fun ⟨k,r,nx⟩=>a.sets.length-k) (fun ⟨k,r,nx⟩=>[(7,.i k)]) (fun ⟨k,r,nx⟩=>[(0,⟨28,[a.d]⟩),(1,⟨31,[d.d]⟩),(2,⟨28,[[.v (.string (bs [])),.list true []]]⟩),(27,⟨28,[[.v (.string (bs a.apex)),.mrow r 0 (cK a d k).length]]⟩),(r,⟨66,(cK a d k).map Sgd.d⟩)]) (fun ⟨k,r,nx⟩=>nx) (0,29,_) (hA:=⟨iv,iv,iv,trivial⟩) (round:=?_)
 rintro⟨k,r,nx⟩ ⟨hk,hr,hr0, -⟩
 simp only[X0,X3]
 have n0:27<nx:=by omega
 have hdl:=zh a d k
 have ff:=qE @hr @n0 (nH 0 1) (nH 0 2) (qI (nH 0 27) (nH 0 r) (nH 1 2) (nH 1 27) (nH 1 r) (nH 2 27) (nH 2 r) (nH 27 r) ff)
 refine oL Jl (fun c3=>?_) (fun c3=>?_) (hp:=rfl)
 .
  have hk2:k<a.sets.length:=by simpa using c3
  have ff:=qA (bJ hk2) ff;refine ae ?_;refine ah ?_;refine aa Jl ?_ (hok:=by (try simp only[go_sem,ff]);all_goals (first|done|((repeat' (with_reducible apply And.intro))<;>first|(intros;exact kN a.sets[k]!)|(intros;exact yA d.drop a.sets[k]!.q om)|(exact (fun _=>kN a.sets[k]!))|(exact (fun _=>FZ d.put a.sets[k]!.q om))|omega|(intro h;simp only[XW,XX] at h;omega)|(intros;omega)|(intros;simp_all;done)|skip)))
  refine cd (fun c4=>?_) (fun c4=>?_)
  .
   refine ai Jl ?_;refine ai Jl ?_
   show ∃ _,_
   have ff:=qA (Cy (a:=a) (d:=d) (k:=k) (by grind)) ff
   exact au (k+1,(nx+35),_) (h1:=⟨iv,iv,iv,trivial⟩)
  refine dw_skip ?_;refine ai Jl ?_
  show ∃ _,_
  have ff:=qA (Cz (a:=a) (d:=d) (k:=k) (by grind)) ff
  exact au (k+1,r,_) (h1:=⟨iv,iv,iv,trivial⟩)
 have e8:k=a.sets.length:=by omega
 subst e8
 refine aB ?_
 refine ae ?_
 refine kZ 27 1 r (rows:=(cK a d a.sets.length).map Sgd.d) (off:=0) (len:=(cK a d a.sets.length).length) ev rfl ev om (by simp) uh ?_
 simp only[X7,lF,YL,YD]
 refine aa Jl ?_
 refine ah ?_
 refine lp (α:=(Nat)×Nat) [3,4,6] (fun ⟨k,nx⟩=>(k<=d.put.length)/\(27<nx)/\True) (fun ⟨k,nx⟩=>d.put.length-k) (fun ⟨k,nx⟩=>[(8,.i k)]) (fun ⟨k,nx⟩=>[(0,⟨28,[a.d]⟩),(1,⟨31,[d.d]⟩),(2,⟨28,[[.v (.string (bs [])),.list true []]]⟩),(27,⟨28,[[.v (.string (bs a.apex)),.list false ((eZ d.put (cK a d a.sets.length) (k)).map Sgd.d)]]⟩)]) (fun ⟨k,nx⟩=>nx) (0,_) (hA:=⟨iv,iv,trivial⟩) (round:=?_)
 rintro⟨k,nx⟩ ⟨hk,hr, -⟩
 simp only[X0,X3]
 have ff:=qA @hr ff
 refine oL Jl (fun c5=>?_) (fun c5=>?_) (hp:=rfl)
 .
  have hk2:k<d.put.length:=by simpa using c5
  have ff:=qB (bJ hk2) (show eZ d.put (cK a d a.sets.length) (k+1)=sortedF (eZ d.put (cK a d a.sets.length) (k)) d.put[k]! from rfl) ff
  refine ae ?_;refine ah ?_;refine ai Jl ?_ (hok:=oH (Pv (eZ d.put (cK a d a.sets.length) (k)) d.put[k]! (by rw[D9];have:=zh a d a.sets.length;omega)))
  refine ai Jl ?_
  show ∃ _,_
  exact au (k+1,_) (h1:=⟨iv,iv,trivial⟩)
 have e8:k=d.put.length:=by omega
 subst e8
 have hal:=D9 d.put (cK a d a.sets.length) d.put.length
 have hkl:=zh a d a.sets.length
 refine aB ?_
 refine oK Jl (fun c6=>?_) (fun c6=>?_)
 .
  refine aa Jl ?_;exact fo 3 (k:=by rw[applyR,if_neg (by grind),if_neg (by grind),if_pos (by show 20000<(eZ d.put (cK a d a.sets.length) (d.put.length)).length;omega)];rfl)
 refine oK Jl (fun c7=>?_) (fun c7=>?_) (hok:=by (try simp only[go_sem,ff]);all_goals (first|done|((repeat' (with_reducible apply And.intro))<;>first|(intros;exact vI ⟨a.apex,eZ d.put (cK a d a.sets.length) (d.put.length)⟩)|(exact (fun h=>BF ⟨a.apex,eZ d.put (cK a d a.sets.length) (d.put.length)⟩ (by have:=vH (z:=⟨a.apex,eZ d.put (cK a d a.sets.length) (d.put.length)⟩) (by simp_all);omega) (vG (by simp_all)) (Bv (by simp_all))))|skip)))
 .
  refine aa Jl ?_;exact fo 3 (k:=by rw[applyR,if_neg (by grind),if_neg (by grind),if_neg (by show ¬ 20000<(eZ d.put (cK a d a.sets.length) (d.put.length)).length;omega),if_pos (by show refOk ⟨a.apex,eZ d.put (cK a d a.sets.length) (d.put.length)⟩=false\/serialR ⟨a.apex,eZ d.put (cK a d a.sets.length) (d.put.length)⟩≠d.too;grind)];rfl)
 refine aa Jl ?_
 exact fo 3 (k:=by rw[applyR,if_neg (by grind),if_neg (by grind),if_neg (by show ¬ 20000<(eZ d.put (cK a d a.sets.length) (d.put.length)).length;omega),if_neg (by show ¬ (refOk ⟨a.apex,eZ d.put (cK a d a.sets.length) (d.put.length)⟩=false\/serialR ⟨a.apex,eZ d.put (cK a d a.sets.length) (d.put.length)⟩≠d.too);grind)];rfl)
end Go.Proofs.YtjngdcldglkolaaGreatDoor
namespace Go.Proofs.YtjngdcldglkolaaGreatDoor
open Go.DL Go.Str Go.Rec Go.Cmp Go.Zon
set_option maxRecDepth 10000
variable [Glob Tryz.prog] [Told]
@[go_sem] theorem all_dat6 {l:List Dat}:(∀ r∈l.map Dat.d,r.length=3)=True:=by
 apply eq_true
 intro r hr
 obtain⟨x,_,rfl⟩:=Y5.1 hr
 rfl
theorem Wx (l:List Dat) (hl:l.length<=1000000):PureCt Tryz.prog 112 [.list false (l.map Dat.d)] (.list false (l.map Dat.d)):=by
 refine oO Tryz.func112 fun ff=>?_
 unfold Tryz.f112
 refine aa Jl ?_
 refine ae ?_
 refine ae (uA ?_)
 refine xY (C:=Jl) 1 (e:=110) om (bC rfl) rfl rfl (by kernel_rfl) (by simp only[X8,X7,X4,Yf,S.put,Yr,go_sem,ff];exact rfl) ?_ (by rfl) ev (fun y hy=>?_)
 .
  try simp only[go_sem,ff]
  all_goals (first|done|(repeat' (with_reducible apply And.intro))<;>first|omega|(with_reducible assumption)|(intros;omega)|(intros;simp only[XX,X9,Yd,XW,Yj,Ye,Yw] at *;omega)|(simp_all;done)|(simp_all;omega))
 refine tJ (C:=Jl) (by first|decide|simp) (by simp only[X8,X7,X4,Yf,S.put,Yr,go_sem,ff];exact rfl) ?_ rfl ?_
 .
  try simp only[go_sem,ff]
  all_goals (first|done|(repeat' (with_reducible apply And.intro))<;>first|omega|(with_reducible assumption)|(intros;omega)|(intros;simp only[XX,X9,Yd,XW,Yj,Ye,Yw] at *;omega)|(simp_all;done)|(simp_all;omega))
 try simp only[aG]
 refine cd (fun c1=>?_) (fun c1=>?_) (hp:=rfl) (hq:=rfl)
 .
  have hn:l=[]:=List.map_eq_nil_iff.1 (hy c1);subst hn;refine aa Jl ?_;exact fp 1
 refine dw_skip ?_
 refine aa Jl ?_
 exact fp 1
theorem Ww (l:List RSig) (hl:l.length<=1000000):PureCt Tryz.prog 113 [.list false (l.map RSig.d)] (.list false (l.map RSig.d)):=by
 refine oO Tryz.func113 fun ff=>?_
 unfold Tryz.f113
 refine aa Jl ?_
 refine ae ?_
 refine ae (uA ?_)
 refine xY (C:=Jl) 1 (e:=160) om (bC rfl) rfl rfl (by kernel_rfl) (by simp only[X8,X7,X4,Yf,S.put,Yr,go_sem,ff];exact rfl) ?_ (by rfl) ev (fun y hy=>?_)
 .
  try simp only[go_sem,ff]
  all_goals (first|done|(repeat' (with_reducible apply And.intro))<;>first|omega|(with_reducible assumption)|(intros;omega)|(intros;simp only[XX,X9,Yd,XW,Yj,Ye,Yw] at *;omega)|(simp_all;done)|(simp_all;omega))
 refine tJ (C:=Jl) (by first|decide|simp) (by simp only[X8,X7,X4,Yf,S.put,Yr,go_sem,ff];exact rfl) ?_ rfl ?_
 .
  try simp only[go_sem,ff]
  all_goals (first|done|(repeat' (with_reducible apply And.intro))<;>first|omega|(with_reducible assumption)|(intros;omega)|(intros;simp only[XX,X9,Yd,XW,Yj,Ye,Yw] at *;omega)|(simp_all;done)|(simp_all;omega))
 try simp only[aG]
 refine cd (fun c1=>?_) (fun c1=>?_) (hp:=rfl) (hq:=rfl)
 .
  have hn:l=[]:=List.map_eq_nil_iff.1 (hy c1);subst hn;refine aa Jl ?_;exact fp 1
 refine dw_skip ?_
 refine aa Jl ?_
 exact fp 1
theorem VS (s:Sgd) (hs:sF s):PureCt Tryz.prog 55 [.agg s.d] (.agg s.d):=by
 refine oO Tryz.func55 fun ff=>?_
 unfold Tryz.f55
 refine aa Jl ?_
 refine aa Jl ?_ (hok:=by (try simp only[go_sem,ff]);all_goals (exact Wx _ (Yc hs.1 om)))
 refine aa Jl ?_ (hok:=by (try simp only[go_sem,ff]);all_goals (exact Ww _ (Yc hs.2 om)))
 refine aa Jl ?_
 exact fp 2
end Go.Proofs.YtjngdcldglkolaaGreatDoor
namespace Go.Proofs.YtjngdcldglkolaaGreatDoor
open Go.DL Go.Str Go.Rec Go.Cmp Go.Zon
set_option maxRecDepth 10000
variable [Glob Tryz.prog] [Told]
@[go_sem] theorem ofV_map {o:Option Nat}:ic (.map o) = .v (.map o):=by cases o<;>rfl
@[go_sem] theorem keysOk_Q {m:List Sgd}:gB Tryz.prog 86 (lS m)=true:=by
 induction m with
 | nil=>rfl
 | cons s m ih=>rw[wh];simp only[gB,ih,Qst.d,zf,ZT]
@[go_sem] theorem mapTo_0 {l:List Sgd}:nX l 0=[]:=rfl
attribute [go_sem] S9
theorem SY {l:List Sgd}{k:Nat}:fE (lS (nX l k)) (.agg [.v (.string (bs l[k]!.q.name)),.i l[k]!.q.ty]) (.agg [.v (.string (bs l[k]!.set.name)),.i l[k]!.set.ty,.i l[k]!.set.life,.list false (l[k]!.set.data.map Dat.d),.list false (l[k]!.sigs.map RSig.d)])=lS (nX l (k+1)):=SX
end Go.Proofs.YtjngdcldglkolaaGreatDoor
namespace Go.Proofs.YtjngdcldglkolaaGreatDoor
open Go.DL Go.Str Go.Rec Go.Cmp Go.Zon
set_option maxRecDepth 10000
variable [Glob Tryz.prog] [Told]
@[go_sem] theorem keysOk_P {m:PM}:gB Tryz.prog 86 (kvP m)=true:=by
 induction m with
 | nil=>rfl
 | cons p m ih=>rw[uo];simp only[gB,ih,Qst.d,zf,ZT]
theorem V7 (s:Sgd) (m:PM):PureCt Tryz.prog 50 [.agg s.d,.eptr [.fmap (kvP m)]] (.tuple [.agg s.d,.b (newB m s.q)]):=by
 refine oO Tryz.func50 fun ff=>?_
 unfold Tryz.f50
 refine aa Jl ?_
 rcases hp:eB m s.q with _|x
 .
  have ff:=qA @hp ff;refine aa JlF ?_ (hok:=oH (lY s));refine aa Jl ?_;exact fo 3 (k:=by simp[newB,hp])
 have ff:=qA @hp ff
 refine aa JlF ?_ (hok:=oH (lY s))
 refine aa Jl ?_
 exact fo 3 (k:=by simp[newB,hp])
theorem V6 (s:Sgd) (hs:sF s):PureCt Tryz.prog 54 [.agg s.d] (.tuple [.agg s.d,.b true]):=by
 refine oO Tryz.func54 fun ff=>?_
 unfold Tryz.f54
 refine aa Jl ?_
 refine aa Jl ?_ (hok:=oF (VS s hs))
 exact fp 2
end Go.Proofs.YtjngdcldglkolaaGreatDoor
namespace Go.Proofs.YtjngdcldglkolaaGreatDoor
open Go.DL Go.Str Go.Rec Go.Cmp Go.Zon
set_option maxRecDepth 10000
variable [Glob Tryz.prog] [Told]
theorem VP  : PureCt Tryz.prog 53 [.fn (.func 51) [] []] (.fn (.func 111) [] [.eptr [.fn (.func 51) [] []]]):=by
 refine oO Tryz.func53 fun ff=>?_
 unfold Tryz.f53
 refine oC Jl ?_
 exact oN (fin 2 (hr:=oR) (hk:=by (try simp only[go_sem,ff]);all_goals (first|done|rfl|(simp;done))))
theorem VR (a:Sgd) (b:Sgd):PureCt Tryz.prog 111 [.agg a.d,.agg b.d,.eptr [.fn (.func 51) [] []]] (.i (qC a.q b.q)):=by
 refine oO Tryz.func111 fun ff=>?_
 unfold Tryz.f111
 refine aa Jl ?_
 refine aa Jl ?_ (hok:=oJ (lY a) (lY b) (wP a.q b.q))
 exact fp 0
theorem K9 (l:List Sgd)  (hl:dX l):PureCt Tryz.prog 49 [.list false (l.map Sgd.d),.fn (.func 54) [] []] (.list false ((l.filterMap (some)).map Sgd.d)):=by
 refine oO Tryz.func49 fun ff=>?_
 unfold Tryz.f49
 have hl1:=hl.1
 refine oC Jl ?_
 refine ae ?_
 refine qM 5 66 (by simp only[go_sem,ff]) (by simp only[go_sem,ff]) ?_
 refine aa Jl ?_
 refine ah ?_
 refine lp (α:=(Nat)×(Nat)×Nat) [1,10,11] (fun ⟨k,r,nx⟩=>(k<=l.length)/\(r<nx)/\True) (fun ⟨k,r,nx⟩=>l.length-k) (fun ⟨k,r,nx⟩=>[(5,.mrow r 0 ((l.take k).filterMap (some)).length),(12,.i k)]) (fun ⟨k,r,nx⟩=>[(r,⟨66,((l.take k).filterMap (some)).map Sgd.d⟩)]) (fun ⟨k,r,nx⟩=>nx) (0,2,_) (hA:=⟨iv,iv,trivial⟩) (round:=?_)
 rintro⟨k,r,nx⟩ ⟨hk,hr, -⟩
 simp only[X0,X3]
 have hfl:=Kc (some) l k
 have ff:=qA @hr ff
 refine aa Jl ?_
 refine ae ?_
 refine cd (fun c1=>?_) (fun c1=>?_) (hp:=rfl)
 .
  have hk2:k<l.length:=by simpa using c1
  have ff:=qA (bJ hk2) ff;refine dw_skip ?_;refine ae ?_;refine ah ?_;refine aa Jl ?_;refine aa Jl ?_ (hok:=oH (V6 l[k]! (hl.2 k hk2)));refine aa Jl ?_;refine cd (fun c2=>?_) (fun c2=>?_)
  .
   refine ai Jl ?_;refine ai Jl ?_
   show ∃ _,_
   have hst:=Db (f:=some) hk2 (rfl);have hsd:((l.take (k+1)).filterMap (some)).map Sgd.d=((l.take k).filterMap (some)).map Sgd.d++[[.v (.string (bs l[k]!.set.name)),.i l[k]!.set.ty,.i l[k]!.set.life,.list false (l[k]!.set.data.map Dat.d),.list false (l[k]!.sigs.map RSig.d)]]:=by rw[hst,YM];rfl
   have hsl:((l.take (k+1)).filterMap (some)).length=((l.take k).filterMap (some)).length+1:=by rw[hst,XV];rfl
   have ff:=qB hsd hsl ff;exact au (k+1,(nx+18),_) (h1:=⟨iv,iv,trivial⟩)
  refine dw_skip ?_;refine ai Jl ?_
  show ∃ _,_
  have ff:=qA (De (f:=some) hk2 (by cases c2)) ff
  exact au (k+1,r,_) (h1:=⟨iv,iv,trivial⟩)
 refine aB ?_
 have e9:k=l.length:=by have h9 : ¬ (k:Int)<l.length:=(by simpa using c1);omega
 subst e9
 rw[YG] at *
 refine aa Jl ?_
 exact oN (fin 1 (hr:=by (try simp only[go_sem,ff]);all_goals (rw[YG])))
theorem VQ (l:List Sgd) (m:PM) (hl:dX l) (h:H) (n:Nat):RCt Tryz.prog 49 [.list false (l.map Sgd.d),.fn (.func 50) [] [.eptr [.fmap (kvP m)]]] h n (fun d h' n'=>∃ r,d = .mrow r 0 (l.filterMap (eY m)).length/\h'=upd h r (some ⟨66,(l.filterMap (eY m)).map Sgd.d⟩)/\n<=r/\r<n'):=by
 refine oP Tryz.func49 fun hnone ff=>?_
 unfold Tryz.f49
 have hl1:=hl.1
 refine oC Jl ?_
 refine ae ?_
 refine qM 5 66 (by simp only[go_sem,ff]) (by simp only[go_sem,ff]) ?_
 refine aa Jl ?_
 refine ah ?_
 refine dD (α:=(Nat)×(Nat)×Nat) [1,10,11] (fun ⟨k,r,nx⟩=>(k<=l.length)/\(r<nx)/\(n<=r)/\True) (fun ⟨k,r,nx⟩=>l.length-k) (fun ⟨k,r,nx⟩=>[(5,.mrow r 0 ((l.take k).filterMap (eY m)).length),(12,.i k)]) (fun ⟨k,r,nx⟩=>upd h r (some ⟨66,((l.take k).filterMap (eY m)).map Sgd.d⟩)) (fun ⟨k,r,nx⟩=>nx) (0,(n+2),_) (hA:=⟨iv,iv,iv,trivial⟩) (round:=?_)
 rintro⟨k,r,nx⟩ ⟨hk,hr,hr0, -⟩
 simp only[X0,X3]
 have hfl:=Kc (eY m) l k
 have ff:=qA @hr ff
 refine aa Jl ?_
 refine ae ?_
 refine cd (fun c1=>?_) (fun c1=>?_) (hp:=rfl)
 .
  have hk2:k<l.length:=by simpa using c1
  have ff:=qA (bJ hk2) ff;refine dw_skip ?_;refine ae ?_;refine ah ?_;refine aa Jl ?_;refine aa Jl ?_ (hok:=oH (V7 l[k]! m));refine aa Jl ?_;refine cd (fun c2=>?_) (fun c2=>?_)
  .
   refine ai Jl ?_;refine ai Jl ?_
   show ∃ _,_
   have hst:=Db (f:=eY m) hk2 (by simp only[eY];rw[X6 (by first|exact c2|simpa using c2)])
   have hsd:((l.take (k+1)).filterMap (eY m)).map Sgd.d=((l.take k).filterMap (eY m)).map Sgd.d++[[.v (.string (bs l[k]!.set.name)),.i l[k]!.set.ty,.i l[k]!.set.life,.list false (l[k]!.set.data.map Dat.d),.list false (l[k]!.sigs.map RSig.d)]]:=by rw[hst,YM];rfl
   have hsl:((l.take (k+1)).filterMap (eY m)).length=((l.take k).filterMap (eY m)).length+1:=by rw[hst,XV];rfl
   have ff:=qB hsd hsl ff;refine au (k+1,(nx+18),_) (h1:=⟨iv,iv,iv,trivial⟩) (h5:=?_);refine Cu hnone (by simp only[go_sem,ff]) (fun q hq=>?_)
   simp only[upd]
   repeat rw[XZ (by omega)]
  refine dw_skip ?_;refine ai Jl ?_
  show ∃ _,_
  have ff:=qA (De (f:=eY m) hk2 (by simp only[eY];rw[XZ (by rw[c2];exact Bool.false_ne_true)])) ff
  refine au (k+1,r,_) (h1:=⟨iv,iv,iv,trivial⟩) (h5:=?_);refine Cu hnone (by simp only[go_sem,ff]) (fun q hq=>?_)
  simp only[upd]
  repeat rw[XZ (by omega)]
 refine aB ?_
 have e9:k=l.length:=by have h9 : ¬ (k:Int)<l.length:=(by simpa using c1);omega
 subst e9
 rw[YG] at *
 refine aa Jl ?_
 refine aI ?_
 exact aU (upd h r (some ⟨66,(l.filterMap (eY m)).map Sgd.d⟩)) (hr:=oS (k:=by exact⟨r,rfl,rfl,om,om⟩))
theorem VT (l:List Sgd) (hl:l.length<=1000000) (h:H) (n:Nat):RCt Tryz.prog 48 [.list false (l.map Sgd.d)] h n (fun d h' n'=>∃ r,d = .mp r/\h'=upd h r (some ⟨83,eX (jk (mI l))⟩)/\n<=r/\r<n'):=by
 refine oP Tryz.func48 fun hnone ff=>?_
 unfold Tryz.f48
 refine oC Jl ?_
 refine ae ?_
 refine aa Jl ?_
 refine ah ?_
 refine dD (α:=(Nat)×Nat) [3,9,10] (fun ⟨k,nx⟩=>(k<=l.length)/\(n+3<nx)/\True) (fun ⟨k,nx⟩=>l.length-k) (fun ⟨k,nx⟩=>[(11,.i k)]) (fun ⟨k,nx⟩=>upd h (n+3) (some ⟨83,eX (lS (nX l k))⟩)) (fun ⟨k,nx⟩=>nx) (0,_) (hA:=⟨iv,iv,trivial⟩) (round:=?_) (hhh:=by exact fun _=>.inl rfl)
 rintro⟨k,nx⟩ ⟨hk,hx, -⟩
 simp only[X0,X3]
 have ff:=qA @hx ff
 refine aa Jl ?_
 refine ae ?_
 refine cd (fun c1=>?_) (fun c1=>?_) (hp:=rfl)
 .
  have hk2:k<l.length:=by simpa using c1
  have ff:=qB (bJ hk2) (SY (l:=l) (k:=k)) ff;refine dw_skip ?_;refine ae ?_;refine ah ?_;refine aa Jl ?_;refine ai Jl ?_ (hok:=oH (lY l[k]!));refine ai Jl ?_
  show ∃ _,_
  refine au (k+1,_) (h1:=⟨iv,iv,trivial⟩) (h5:=?_);refine Cu hnone (by simp only[go_sem,ff]) (fun q hq=>?_)
  simp only[upd]
  repeat rw[XZ (by omega)]
 refine aB ?_
 have e9:k=l.length:=by have h9 : ¬ (k:Int)<l.length:=(by simpa using c1);omega
 subst e9
 refine aa Jl ?_
 refine aI ?_
 exact aU (upd h (n+3) (some ⟨83,eX (jk (mI l))⟩)) (hr:=oS (k:=by exact⟨n+3,rfl,rfl,om,om⟩)) (hh:=by rw[<- Ta];exact mJ _)
end Go.Proofs.YtjngdcldglkolaaGreatDoor
namespace Go.Proofs.YtjngdcldglkolaaGreatDoor
open Go.DL Go.Str Go.Rec Go.Cmp Go.Zon
set_option maxRecDepth 10000
variable [Glob Tryz.prog] [Told]
theorem xk {z:Zon}(h:zoneOk z=true):PureCt Tryz.prog 46 [.agg z.d] (.tuple [.i (serialOf z),.i 0]):=by
 have:=Ej z
 rwa [X6 h,X6 h] at this
theorem xm {z:Zon}(h:zoneOk z=false):PureCt Tryz.prog 46 [.agg z.d] (.tuple [.i 0,.i 1]):=by
 have:=Ej z
 rwa [XZ (by simp[h]),XZ (by simp[h])] at this
@[go_sem] theorem keysOk_S {m:List Qst}:gB Tryz.prog 86 (kV m)=true:=by
 induction m with
 | nil=>rfl
 | cons p m ih=>rw[vY];simp only[gB,ih,Qst.d,zf,ZT]
@[go_sem] theorem keysOk_Z {m:PZ}:gB Tryz.prog 86 (jk m)=true:=by
 induction m with
 | nil=>rfl
 | cons p m ih=>rw[rW];simp only[gB,ih,Qst.d,zf,ZT]
theorem uC (d:Dlt):PureCt Tryz.prog 47 [.agg d.d] (.b (dltOk d)):=by
 refine oO Tryz.func47 fun ff=>?_
 unfold Tryz.f47
 refine aa Jl ?_
 refine oK Jl (fun c1=>?_) (fun c1=>?_) (hok:=oI qg zx)
 .
  refine aa Jl ?_;exact fo 0 (k:=by rw[<- qN];simp only[nC];(try rw[ru] at *);grind)
 refine oK Jl (fun c2=>?_) (fun c2=>?_) (hok:=by (try simp only[go_sem,ff]);all_goals (first|done|((repeat' (with_reducible apply And.intro))<;>first|(intros;exact zW _)|(exact (fun _=>zW _))|(exact (fun h=>La _ _ (by simp_all) (by simp_all)))|(intros;simp_all;done)|skip)))
 .
  refine aa Jl ?_;exact fo 0 (k:=by rw[<- qN];simp only[nC];(try rw[ru] at *);grind)
 refine oK Jl (fun c3=>?_) (fun c3=>?_)
 .
  refine aa Jl ?_;exact fo 0 (k:=by rw[<- qN];simp only[nC];(try rw[ru] at *);grind)
 refine aa Jl ?_
 refine ae ?_
 refine aa Jl ?_
 refine ah ?_
 refine lp (α:=(Nat)×Nat) [1,3,50,51] (fun ⟨k,nx⟩=>(k<=d.drop.length)/\(az d.drop.length (lg d.drop) 0=az d.drop.length (lg d.drop) k)/\(42<nx)/\True) (fun ⟨k,nx⟩=>d.drop.length-k) (fun ⟨k,nx⟩=>[(52,.i k)]) (fun ⟨k,nx⟩=>[(0,⟨31,[d.d]⟩),(42,⟨153,eX (kV (nO d.drop (k)))⟩)]) (fun ⟨k,nx⟩=>nx) (0,_) (hA:=⟨iv,rfl,iv,trivial⟩) (round:=?_)
 rintro⟨k,nx⟩ ⟨hk,hv1,hx, -⟩
 simp only[X0,X3]
 have n0:0<nx:=by omega
 have ff:=qB @hx @n0 ff
 refine aa Jl ?_
 refine ae ?_
 refine cd (fun c4=>?_) (fun c4=>?_) (hp:=rfl)
 .
  have hk2:k<d.drop.length:=by simpa using c4
  have hk1:k-1<d.drop.length:=by omega
  have e1:((k:Int)-1).toNat=k-1:=by omega
  have ff:=qD (qz hk2) (qz hk1) @e1 ff;refine dw_skip ?_;refine ae ?_;refine ah ?_;refine aa Jl ?_;refine oK Jl (fun c5=>?_) (fun c5=>?_) (hok:=by (try simp only[go_sem,ff]);all_goals (first|done|((repeat' (with_reducible apply And.intro))<;>first|(intros;exact qg _)|omega|(intro h;simp only[XW,XX] at h;omega)|(intros;omega)|(intros;simp_all;done)|skip)))
  .
   refine aa Jl ?_;exact fo 0 (k:=by rw[<- qN];have hF:(lg d.drop) k=false:=(by simp only[lg,qOk,inR];grind);simp only[nC];rw[hv1,bS hk2 hF];try simp)
  refine oK Jl (fun c6=>?_) (fun c6=>?_) (hok:=by (try simp only[go_sem,ff]);all_goals (first|done|((repeat' (with_reducible apply And.intro))<;>first|(exact (fun _=>wP d.drop[k-1]! d.drop[k]!))|omega|(intro h;simp only[XW,XX] at h;omega)|(intros;omega)|(intros;simp_all;done)|skip)))
  .
   refine aa Jl ?_;exact fo 0 (k:=by rw[<- qN];have hF:(lg d.drop) k=false:=(by simp only[lg,qOk,inR];grind);simp only[nC];rw[hv1,bS hk2 hF];try simp)
  refine ai Jl ?_;refine ai Jl ?_
  show ∃ _,_
  have h8:(lg d.drop) k=true:=by simp only[lg,qOk,inR];grind
  have ff:=qA (show kP (nO d.drop k) d.drop[k]! = nO d.drop (k+1) from rfl) ff
  exact au (k+1,_) (h1:=⟨iv,(by first|(rw[hv1,aY hk2 h8])|(dsimp only;rw[hv1,aY hk2 h8])),iv,trivial⟩)
 have e9:k=d.drop.length:=by omega
 subst e9
 refine aB ?_
 refine ae ?_
 refine aa Jl ?_
 refine ah ?_
 refine lp (α:=(Nat)×Nat) [1,3,88,89] (fun ⟨k,nx⟩=>(k<=d.put.length)/\(az d.put.length (kQ d) 0=az d.put.length (kQ d) k)/\(42<nx)/\True) (fun ⟨k,nx⟩=>d.put.length-k) (fun ⟨k,nx⟩=>[(90,.i k)]) (fun ⟨k,nx⟩=>[(0,⟨31,[d.d]⟩),(42,⟨153,eX (kV (nO d.drop (d.drop.length)))⟩)]) (fun ⟨k,nx⟩=>nx) (0,_) (hA:=⟨iv,rfl,iv,trivial⟩) (round:=?_)
 rintro⟨k,nx⟩ ⟨hk,hv,hx, -⟩
 simp only[X0,X3]
 have n0:0<nx:=by omega
 have ff:=qB @hx @n0 ff
 refine aa Jl ?_
 refine ae ?_
 refine cd (fun c7=>?_) (fun c7=>?_) (hp:=rfl)
 .
  have hk2:k<d.put.length:=by simpa using c7
  have hk1:k-1<d.put.length:=by omega
  have e1:((k:Int)-1).toNat=k-1:=by omega
  have ff:=qD (bJ hk2) (bJ hk1) @e1 ff;refine dw_skip ?_;refine ae ?_;refine ah ?_;refine aa Jl ?_;refine oK Jl (fun c8=>?_) (fun c8=>?_) (hok:=by (try simp only[go_sem,ff]);all_goals (first|done|((repeat' (with_reducible apply And.intro))<;>first|(intros;exact tK _)|(exact (fun _=>lY d.put[k]!))|omega|(intro h;simp only[XW,XX] at h;omega)|(intros;omega)|(intros;simp_all;done)|skip)))
  .
   refine aa Jl ?_;exact fo 0 (k:=by rw[<- qN];have hF:(kQ d) k=false:=(by simp only[kQ];grind);simp only[nC];rw[hv,bS hk2 hF];try simp)
  refine aa Jl ?_ (hok:=by (try simp only[go_sem,ff]);all_goals (first|done|((repeat' (with_reducible apply And.intro))<;>first|(exact (fun _=>lY d.put[k]!))|(exact (fun _=>lY d.put[k-1]!))|(exact (fun _=>wP d.put[k-1]!.q d.put[k]!.q))|omega|(intro h;simp only[XW,XX] at h;omega)|(intros;omega)|(intros;simp_all;done)|skip)))
  refine cd (fun c9=>?_) (fun c9=>?_)
  .
   refine aa Jl ?_;exact fo 0 (k:=by rw[<- qN];have hF:(kQ d) k=false:=(by simp only[kQ];grind);simp only[nC];rw[hv,bS hk2 hF];try simp)
  refine dw_skip ?_;refine ai Jl ?_
  show ∃ _,_
  have h8:(kQ d) k=true:=by simp only[kQ];grind
  exact au (k+1,_) (h1:=⟨iv,(by first|(rw[hv,aY hk2 h8])|(dsimp only;rw[hv,aY hk2 h8])),iv,trivial⟩)
 refine aB ?_
 refine aa Jl ?_
 exact fo 0 (k:=by rw[<- qN];simp only[nC];(try rw[ru] at *);rw[hv1,hv,gp (n:=d.drop.length) (by omega),gp (by omega)];grind)
end Go.Proofs.YtjngdcldglkolaaGreatDoor
namespace Go.Proofs.YtjngdcldglkolaaGreatDoor
open Go.DL Go.Str Go.Rec Go.Cmp Go.Zon
set_option maxRecDepth 10000
variable [Glob Tryz.prog] [Told]
def NP:Go.Shelf.Ren:={ f:=fun x=>match x with|6=>52|15=>110|14=>109|28=>177|29=>178|20=>169|21=>170|22=>171|23=>172|24=>173|25=>174|26=>175|27=>176|46=>211|47=>212|48=>213|49=>214|50=>215|57=>236|n=>n,t:=fun x=>match x with|22=>26|24=>66|25=>92|3=>3|39=>156|0=>0|53=>226|55=>129|4=>4|46=>220|45=>219|50=>150|5=>5|9=>9|66=>250|70=>254|76=>281|77=>282|n=>n,g:=fun n=>n }
theorem srtS:Go.Proofs.SlLaysF0.n6 Tryz.prog NP:={
 mixed:=by kernel_rfl
 f6:=⟨Tryz.f52.name,by decide,Tryz.func52.trans (by kernel_rfl)⟩
 f14:=⟨Tryz.f109.name,by decide,Tryz.func109.trans (by kernel_rfl)⟩
 f15:=Tryz.func110.trans (by kernel_rfl)
 f20:=⟨Tryz.f169.name,by decide,Tryz.func169.trans (by kernel_rfl)⟩
 f21:=⟨Tryz.f170.name,by decide,Tryz.func170.trans (by kernel_rfl)⟩
 f22:=⟨Tryz.f171.name,by decide,Tryz.func171.trans (by kernel_rfl)⟩
 f23:=⟨Tryz.f172.name,by decide,Tryz.func172.trans (by kernel_rfl)⟩
 f24:=⟨Tryz.f173.name,by decide,Tryz.func173.trans (by kernel_rfl)⟩
 f25:=⟨Tryz.f174.name,by decide,Tryz.func174.trans (by kernel_rfl)⟩
 f26:=⟨Tryz.f175.name,by decide,Tryz.func175.trans (by kernel_rfl)⟩
 f27:=⟨Tryz.f176.name,by decide,Tryz.func176.trans (by kernel_rfl)⟩
 f28:=Tryz.func177.trans (by kernel_rfl)
 f29:=Tryz.func178.trans (by kernel_rfl)
 f46:=⟨Tryz.f211.name,by decide,Tryz.func211.trans (by kernel_rfl)⟩
 f47:=Tryz.func212.trans (by kernel_rfl)
 f48:=Tryz.func213.trans (by kernel_rfl)
 f49:=⟨Tryz.f214.name,by decide,Tryz.func214.trans (by kernel_rfl)⟩
 f50:=⟨Tryz.f215.name,by decide,Tryz.func215.trans (by kernel_rfl)⟩
 f57:=⟨Tryz.f236.name,by decide,Tryz.func236.trans (by kernel_rfl)⟩
 t0:=Tryz.underlying0
 a0:=Tryz.isAgg0
 z0:=Tryz.sizeOf0
 v0:=Tryz.zeroValue0
 t3:=Tryz.underlying3
 a3:=Tryz.isAgg3
 z3:=Tryz.sizeOf3
 v3:=Tryz.zeroValue3
 t4:=Tryz.underlying4
 a4:=Tryz.isAgg4
 z4:=Tryz.sizeOf4
 v4:=Tryz.zeroValue4
 t5:=Tryz.underlying5
 a5:=Tryz.isAgg5
 z5:=Tryz.sizeOf5
 v5:=Tryz.zeroValue5
 t9:=Tryz.underlying9
 a9:=Tryz.isAgg9
 z9:=Tryz.sizeOf9
 v9:=Tryz.zeroValue9
 t22:=Tryz.underlying26
 a22:=Tryz.isAgg26
 z22:=Tryz.sizeOf26
 v22:=Tryz.zeroValue26
 t25:=Tryz.underlying92
 a25:=Tryz.isAgg92
 z25:=Tryz.sizeOf92
 v25:=Tryz.zeroValue92
 t39:=Tryz.underlying156
 a39:=Tryz.isAgg156
 z39:=Tryz.sizeOf156
 v39:=Tryz.zeroValue156
 t45:=Tryz.underlying219
 a45:=Tryz.isAgg219
 z45:=Tryz.sizeOf219
 v45:=Tryz.zeroValue219
 t46:=Tryz.underlying220
 a46:=Tryz.isAgg220
 z46:=Tryz.sizeOf220
 v46:=Tryz.zeroValue220
 t50:=Tryz.underlying150
 a50:=Tryz.isAgg150
 z50:=Tryz.sizeOf150
 v50:=Tryz.zeroValue150
 t53:=Tryz.underlying226
 a53:=Tryz.isAgg226
 z53:=Tryz.sizeOf226
 v53:=Tryz.zeroValue226
 t55:=Tryz.underlying129
 a55:=Tryz.isAgg129
 z55:=Tryz.sizeOf129
 v55:=Tryz.zeroValue129
 t66:=Tryz.underlying250
 a66:=Tryz.isAgg250
 z66:=Tryz.sizeOf250
 v66:=Tryz.zeroValue250
 t70:=Tryz.underlying254
 a70:=Tryz.isAgg254
 z70:=Tryz.sizeOf254
 v70:=Tryz.zeroValue254
 t76:=Tryz.underlying281
 a76:=Tryz.isAgg281
 z76:=Tryz.sizeOf281
 v76:=Tryz.zeroValue281
 t77:=Tryz.underlying282
 a77:=Tryz.isAgg282
 z77:=Tryz.sizeOf282
 v77:=Tryz.zeroValue282 }
theorem Ob (l:List Sgd) (m:Nat) (h:H) (n r:Nat) (hm:m=l.length) (hl:l.length<=1000000) (hn : ∀ s∈l,nameOk (s.q).name=true) (ho:Once l) (hr:h r=some ⟨66,l.map Sgd.d⟩) :
  RCt Tryz.prog 52 [.mrow r 0 m,.fn (.func 111) [] [.eptr [.fn (.func 51) [] []]]] h n (fun d h' n'=>d = .tuple []/\n'=n/\h'=upd h r (some ⟨66,(dV l).map Sgd.d⟩)):=by
 have e:m=(l.map Sgd.d).length:=by simp[hm]
 rw[e]
 have hx : ∀ x∈l.map Sgd.d,Sgd.d (Sgd.of x)=x/\nameOk ((fun s:Sgd=>s.q) (Sgd.of x)).name=true:=fun x hx=>by
  obtain⟨s,hs,rfl⟩:=Y5.1 hx;rw[yS];exact⟨rfl,hn s hs⟩
 have hc : ∀ x∈l.map Sgd.d,∀ y∈l.map Sgd.d,qC (Sgd.of x).q (Sgd.of y).q=sp (Sgd.of x) (Sgd.of y):=fun x h1 y h2=>yK (hx x h1).2 (hx y h2).2
 refine (NW (ty:=66) srtS rfl rfl Tryz.isAgg66 Tryz.sizeOf66 (fun x y=>qC (Sgd.of x).q (Sgd.of y).q) (by kernel_rfl) hr uh rfl (by simp;omega) (fun x h1 y h2=>?_) ⟨fun x h1=>?_,fun x h1 y h2 z h3=>?_,fun x h1 y h2 z h3=>?_⟩).mono ?_
 .
  have:=VR (Sgd.of x) (Sgd.of y);rw[(hx x h1).1,(hx y h2).1] at this;exact this
 .
  rw[hc x h1 x h1,cm_s.self];omega
 .
  rw[hc x h1 y h2,hc y h2 z h3,hc x h1 z h3];intro a b;exact cm_s.lt_le a om
 .
  rw[hc x h1 y h2,hc y h2 z h3,hc x h1 z h3];intro a b;have h1:=cm_s.anti (Sgd.of x) (Sgd.of y);have h2:=cm_s.anti (Sgd.of y) (Sgd.of z);have h3:=cm_s.anti (Sgd.of x) (Sgd.of z);have:=cm_s.tr (Sgd.of z) (Sgd.of y) (Sgd.of x) om om;omega
 rintro d h' n' ⟨rfl,rfl,rows',hp,hs,rfl⟩
 obtain⟨q1,q2⟩:=PH yS hp
 refine⟨rfl,rfl,?_⟩
 have hs':(rows'.map Sgd.of).Pairwise fun a b=>sp a b<=0:=by
  rw[List.pairwise_map];refine hs.imp_of_mem fun {a b} h1 h2 h3=>?_
  have h3 : ¬ (fun x y=>qC (Sgd.of x).q (Sgd.of y).q) b a<0:=h3
  dsimp only at h3;have h4:=hc b (hp.mem_iff.1 h2) a (hp.mem_iff.1 h1);rw[h4] at h3;have:=cm_s.anti (Sgd.of a) (Sgd.of b);omega
 rw[<- N7 ho q2 hs',q1]
theorem Vj {P:Program}[Glob P] {ro:Option Nat}{Q:Exit->S->Prop}{c:Code}{s:S}(i r:Nat) {ty:TypeId}{row:List D}(hi:s.t i = .mptr r 0 0) (hr:s.h r=some ⟨ty,[row]⟩) (hn:aZ row=true) (h:DW P ro c Q { n:=s.n,t:=upd s.t i (.eptr (di row)),h:=upd s.h r none,nx:=s.nx,e:=s.e }):DW P ro c Q s :=
 Dt i r hi (fun _ _ _ hm hv=>(JZ hm hr hn hv).wk) h
theorem Vs (z:Zon) (d:Dlt) (hl:dX z.sets) (h:H) (n:Nat):RCt Tryz.prog 49 [.list false (z.sets.map Sgd.d),.fn (.func 50) [] [.eptr [.fmap (kvP (zp (mQ (mI d.put) d.drop d.drop.length)))]]] h n (fun x h' n'=>∃ r,x = .mrow r 0 (bU z d).length/\h'=upd h r (some ⟨66,(bU z d).map Sgd.d⟩)/\n<=r/\r<n'):=VQ z.sets _ hl h n
theorem NH {z:Zon}{d:Dlt}(hz:ZOrd z) (hd:DOk d):∀ s∈bU z d++d.put,nameOk s.q.name=true:=fun s hs=>(Yx.1 hs).elim (fun k=>hz.nms s (stay_mem.1 k).1) fun k=>(hd.pok s k).name
theorem Iy {z:Zon}{d:Dlt}(hz:dX z.sets) (hp:dX d.put) (hd:d.put.length<=20000) (hl:(bU z d).length<=20000):dX (dV (bU z d++d.put)):=Ki (by rw[xL,XV];omega) fun s hs=>(Yx.1 (sortS_mem.1 hs)).elim (fun k=>Kj hz (stay_mem.1 k).1) fun k=>Kj hp k
theorem Dx (z:Zon) (d:Dlt) (hp:dX d.put):PureCt Tryz.prog 27 [.agg z.d,.agg d.d] (.tuple [.agg (applyP z d).1.d,.i (applyP z d).2]):=by
 refine oO Tryz.func27 fun ff=>?_
 unfold Tryz.f27
 refine aa Jl ?_
 rcases ha:zoneOk z with _|_
 .
  have ff:=qA @ha ff;refine aa Jl ?_ (hok:=by (try simp only[go_sem,ff]);all_goals (first|exact xk ha|exact xm ha))
  refine ae ?_;refine aa Jl ?_ (hok:=oH (uC d));refine cd (fun c1=>?_) (fun c1=>?_) (hq:=rfl)
  .
   refine aa Jl ?_;exact fo 3 (k:=by rw[applyP,if_pos (by grind)];try rfl)
  first|exact c1.elim|(simp at c1;done)
 have hfa:=xn ha
 have hza:=kJ ha
 have hlz:=hza.len
 have ff:=qA @ha ff
 refine aa Jl ?_ (hok:=by (try simp only[go_sem,ff]);all_goals (first|exact xk ha|exact xm ha))
 refine oK Jl (fun c1=>?_) (fun c1=>?_) (hok:=oH (uC d))
 .
  refine aa Jl ?_;exact fo 3 (k:=by rw[applyP,if_pos (by grind)];try rfl)
 have hd:dltOk d=true:=by grind
 have hax:z.apex=d.apex:=by grind
 have p1 : ¬ (zoneOk z=false\/dltOk d=false\/z.apex≠d.apex):=by rintro (q|q|q);rw[ha] at q;cases q;rw[hd] at q;cases q;exact q hax
 have hdd:=dlt_iff.1 hd
 have hld:=hdd.dlen
 have hlp:=hdd.plen
 have hsl:=NI z d
 refine oK Jl (fun c2=>?_) (fun c2=>?_)
 .
  have p2:serialOf z≠d.frm:=by grind
  refine aa Jl ?_;exact fo 3 (k:=by rw[applyP,XZ p1,X6 p2];try rfl)
 have p2 : ¬ (serialOf z≠d.frm):=fun q=>q (by grind)
 refine ae (aD Jl 2 (hct:=by exact VT d.put hp.1 _ _) (hk:=?_))
 rintro res h2 n2 ⟨r1,rfl,rfl,a1,b1⟩
 try dsimp only at a1 b1
 have ff:=qD @b1 (nH 0 1) (nH 0 2) (qI (nH 0 r1) (nH 0 (n2+3)) (nH 1 2) (nH 1 r1) (nH 1 (n2+3)) (nH 2 r1) (nH 2 (n2+3)) (nH (n2+3) r1) ff)
 refine av Jl ?_
 refine ae ?_
 refine aa Jl ?_
 refine ah ?_
 refine lp (α:=(Nat)×(Nat)×Nat) [2,3,4,43,44] (fun ⟨k,q,nx⟩=>(k<=d.drop.length)/\(q<nx)/\(r1<q)/\(2<r1)/\True) (fun ⟨k,q,nx⟩=>d.drop.length-k) (fun ⟨k,q,nx⟩=>[(8,.mptr q 0 0),(45,.i k)]) (fun ⟨k,q,nx⟩=>[(0,⟨28,[z.d]⟩),(1,⟨31,[d.d]⟩),(2,⟨28,[[.v (.string (bs [])),.list true []]]⟩),(q,⟨83,[[.mp r1]]⟩),(r1,⟨83,eX (jk (mQ (mI d.put) d.drop (k)))⟩)]) (fun ⟨k,q,nx⟩=>nx) (0,n2+3,_) (hA:=⟨iv,iv,iv,iv,trivial⟩) (round:=?_)
 rintro⟨k,q,nx⟩ ⟨hk,hq,hqr,hr1, -⟩
 simp only[X0,X3]
 have n0:0<nx:=by omega
 have hrn:r1<nx:=by omega
 have ff:=qF @hq @n0 @hrn (nH 0 1) (nH 0 2) (qI (nH 0 q) (nH 0 r1) (nH 1 2) (nH 1 q) (nH 1 r1) (nH 2 q) (nH 2 r1) (nH q r1) ff)
 refine aa Jl ?_
 refine ae ?_
 refine cd (fun c3=>?_) (fun c3=>?_) (hp:=rfl)
 .
  have hk2:k<d.drop.length:=by simpa using c3
  have ff:=qA (qz hk2) ff;refine dw_skip ?_;refine ae ?_;refine ah ?_;refine aa Jl ?_;refine ai Jl ?_;refine ai Jl ?_
  show ∃ _,_
  have ff:=qA (show nJ (mQ (mI d.put) d.drop (k)) d.drop[k]! none=mQ (mI d.put) d.drop (k+1) from rfl) ff
  exact au (k+1,q,_) (h1:=⟨iv,iv,iv,iv,trivial⟩)
 have e8:k=d.drop.length:=by omega
 subst e8
 refine aB ?_
 refine Vk q 0 r1 ev rfl ev rfl om Ik ?_
 simp only[YD]
 refine Vj 8 q ev ev RD ?_
 refine ae (aD Jl 3 (hct:=by exact Vs z d hfa _ _) (hk:=?_))
 rintro res h2 n2 ⟨r2,rfl,rfl,a2,b2⟩
 try dsimp only at a2 b2
 have ff:=qH @b2 (nH 0 1) (nH 0 2) (nH 0 r2) (nH 1 2) (nH 1 r2) (nH 2 r2) ff
 refine av Jl ?_
 refine oK Jl (fun c4=>?_) (fun c4=>?_)
 .
  refine aa Jl ?_;exact fo 3 (k:=by rw[applyP,XZ p1,XZ p2,X6 (by omega)];try rfl)
 refine aa Jl ?_
 obtain⟨q5,qy⟩:∃ q,q=n2+15:=⟨_,rfl⟩
 rw[<- qy]
 have hq5b:q5<n2+16:=by omega
 have ff:=qH @hq5b (nH 0 1) (nH 0 2) (nH 0 q5) (nH 1 2) (nH 1 q5) (nH 2 q5) ff
 refine ae (aD Jl 2 (hok:=oH VP) (hct:=by exact Ob (bU z d++d.put) _ _ _ _ (by simp) (by rw[XV];omega) (NH hza hdd) (Iw hza.ord hdd.pord) (by simp only[go_sem,ff,YM])) (hk:=?_))
 rintro res h2 n2 ⟨rfl,rfl,rfl⟩
 refine av Jl ?_
 refine wM 12 q5 (rows:=(dV (bU z d++d.put)).map Sgd.d) (off:=0) (len:=(bU z d).length+d.put.length) ev ev (by simp[xL]) uh ?_
 rw[X7,Yp (by simp[xL])]
 refine aa JlF ?_ (hok:=by (try simp only[go_sem,ff]);all_goals (first|done|((repeat' (with_reducible apply And.intro))<;>first|(intros;exact K9 _ (Iy hfa hp hlp om))|omega|skip)))
 refine ae ?_
 rcases hb:zoneOk (⟨z.apex,dV (bU z d++d.put)⟩:Zon) with _|_
 .
  have ff:=qA @hb ff;have ff:=qA (Kb (dV (bU z d++d.put))) ff;refine aa Jl ?_ (hok:=by (try simp only[go_sem,ff]);all_goals (first|exact xk (z:=(⟨z.apex,dV (bU z d++d.put)⟩:Zon)) hb|exact xm (z:=(⟨z.apex,dV (bU z d++d.put)⟩:Zon)) hb))
  refine aa Jl ?_;refine cd (fun c5=>?_) (fun c5=>?_) (hq:=rfl)
  .
   refine aa Jl ?_;exact fo 3 (k:=by rw[applyP,if_neg p1,if_neg p2,if_neg (by omega),if_pos (by show zoneOk (⟨z.apex,dV (bU z d++d.put)⟩:Zon)=false\/serialOf (⟨z.apex,dV (bU z d++d.put)⟩:Zon)≠d.too;rw[hb];grind)];try rfl)
  first|exact c5.elim|(simp at c5;done)
 have ff:=qA @hb ff
 have ff:=qA (Kb (dV (bU z d++d.put))) ff
 refine aa Jl ?_ (hok:=by (try simp only[go_sem,ff]);all_goals (first|exact xk (z:=(⟨z.apex,dV (bU z d++d.put)⟩:Zon)) hb|exact xm (z:=(⟨z.apex,dV (bU z d++d.put)⟩:Zon)) hb))
 refine aa Jl ?_
 refine cd (fun c5=>?_) (fun c5=>?_)
 .
  refine aa Jl ?_;exact fo 3 (k:=by rw[applyP,if_neg p1,if_neg p2,if_neg (by omega),if_pos (by show zoneOk (⟨z.apex,dV (bU z d++d.put)⟩:Zon)=false\/serialOf (⟨z.apex,dV (bU z d++d.put)⟩:Zon)≠d.too;rw[hb];grind)];try rfl)
 refine dw_skip ?_
 refine aa Jl ?_
 exact fo 3 (k:=by rw[applyP,if_neg p1,if_neg p2,if_neg (by omega),if_neg (by show ¬ (zoneOk (⟨z.apex,dV (bU z d++d.put)⟩:Zon)=false\/serialOf (⟨z.apex,dV (bU z d++d.put)⟩:Zon)≠d.too);rw[hb];grind)];try rfl)
end Go.Proofs.YtjngdcldglkolaaGreatDoor
namespace Go.Proofs.YtjngdcldglkolaaGreatDoor
open Go.DL Go.Str Go.Rec Go.Cmp Go.Zon Go.Jn
set_option maxRecDepth 10000
variable [Glob Tryz.prog] [Told]
theorem LW:bV Tryz.prog 194=true:=by kernel_rfl
theorem QY (ce:Nat) (h:H) (n:Nat):sP Tryz.prog 194 [.mptr ce 0 0] h n .returning .returning (fun h' n'=>(∀ q,q<n->h' q=h q)/\n<=n'):=by
 refine wO (d:=.v .nilIface) (v:=.nilIface) Tryz.func194 rfl LW (by simp[Tryz.f194]) (bC rfl) rfl rfl (by decide) (.inl ⟨rfl,rfl,rfl⟩) (fun _ _=>.v _) (fun hnone=>?_)
 have ff:=True.intro
 refine xZ (C:=Jl) 1 (d:=.v .nilIface) (r:=.tuple [.v .nilIface,.b false]) (fun w=>Mf Tryz.underlying125 rfl rfl w) (fun w g q hq=>by cases hq;rfl) (fun w g=>?_) om (bC rfl) rfl rfl (by simp only[X8,X7,X4,Yf,S.put,Yr,Nat.reduceSub,go_sem,ff];first|done|exact rfl) trivial (by rfl) (by simp only[go_sem,ff]) ?_
 .
  exact .tuple _ _ rfl (fun i d x h1 h2=>by
   match i with
   | 0=>cases h1;cases h2;exact .v _
   | 1=>cases h1;cases h2;exact .v _
   | i+2=>simp at h1)
 refine aO Jl ?_
 try simp only[aG]
 refine aa Jl ?_
 refine cd (fun c1=>?_) (fun c1=>?_)
 .
  simp at c1
 refine dw_skip ?_
 refine⟨(by trivial),h,_,?_,Nat.le_refl _,fun q hq=>rfl,by dsimp only;omega⟩
 intro r
 dsimp only
 first
 | exact .inl rfl
 | exact (Decidable.em (r<n)).elim (fun e=>by left;simp only[upd];repeat (first|rfl|rw[XZ (by omega)])) fun e=>by right;exact hnone r om
theorem Hf (ce:Nat) (h:H) (n:Nat) (c0:D) (he:h ce=some ⟨125,[[c0]]⟩) (hce:ce<n):sP Tryz.prog 194 [.mptr ce 0 0] h n (.panicking lv) (.panicking [{ v:=fH dY,recovered:=true }]) (fun h' n'=>h' ce=some ⟨125,[[.v (fH dY)]]⟩/\n<=n' /\ ∀ q,q<n->q≠ce->h' q=h q):=by
 refine wO (d:=.v (fH dY)) (v:=fH dY) Tryz.func194 rfl LW (by simp[Tryz.f194]) (bC rfl) rfl rfl (by decide) (.inr ⟨rfl,rfl⟩) (fun w g=>.v _) (fun hnone=>?_)
 have hn2 : ∀ k,(ce=n+k)=False:=fun k=>Y7 om
 have hn4 : ∀ k,(n+k=ce)=False:=fun k=>Y7 om
 have ff:=qB he hn2 hn4
 refine xZ (C:=Jl) 1 (d:=.v (fH dY)) (r:=.tuple [.v (fH dY),.b true]) (fun w=>Go.run_typeAssert_hasB Tryz.underlying125 (by kernel_rfl) _ _ w) (fun w g q hq=>by cases hq;rfl) (fun w g=>?_) om (bC rfl) rfl rfl (by simp only[X8,X7,X4,Yf,S.put,Yr,Nat.reduceSub,go_sem,ff];first|done|exact rfl) trivial (by rfl) (by simp only[go_sem,ff]) ?_
 .
  exact .tuple _ _ rfl (fun i d x h1 h2=>by
   match i with
   | 0=>cases h1;cases h2;exact .v _
   | 1=>cases h1;cases h2;exact .v _
   | i+2=>simp at h1)
 refine aO Jl ?_
 try simp only[aG]
 refine aa Jl ?_
 refine cd (fun c1=>?_) (fun c1=>?_)
 .
  refine ai Jl ?_ (hok:=by (try simp only[go_sem,ff]);all_goals (exact⟨rfl,rfl⟩))
  refine⟨(by trivial),_,_,fun _=>.inl rfl,Nat.le_refl _,?_,by dsimp only;omega,fun q q1 q2=>?_⟩
  .
   dsimp only;simp only[upd];repeat (first|rfl|rw[if_neg (by omega)]|rw[if_pos rfl])
  dsimp only;simp only[upd];repeat (first|rfl|rw[if_neg q2]|rw[if_neg (by omega)])
 simp at c1
theorem LV:bV Tryz.prog 199=true:=by kernel_rfl
theorem QZ (ce:Nat) (h:H) (n:Nat):sP Tryz.prog 199 [.mptr ce 0 0] h n .returning .returning (fun h' n'=>(∀ q,q<n->h' q=h q)/\n<=n'):=by
 refine wO (d:=.v .nilIface) (v:=.nilIface) Tryz.func199 rfl LV (by simp[Tryz.f199]) (bC rfl) rfl rfl (by decide) (.inl ⟨rfl,rfl,rfl⟩) (fun _ _=>.v _) (fun hnone=>?_)
 have ff:=True.intro
 refine xZ (C:=Jl) 1 (d:=.v .nilIface) (r:=.tuple [.v .nilIface,.b false]) (fun w=>Mf Tryz.underlying125 rfl rfl w) (fun w g q hq=>by cases hq;rfl) (fun w g=>?_) om (bC rfl) rfl rfl (by simp only[X8,X7,X4,Yf,S.put,Yr,Nat.reduceSub,go_sem,ff];first|done|exact rfl) trivial (by rfl) (by simp only[go_sem,ff]) ?_
 .
  exact .tuple _ _ rfl (fun i d x h1 h2=>by
   match i with
   | 0=>cases h1;cases h2;exact .v _
   | 1=>cases h1;cases h2;exact .v _
   | i+2=>simp at h1)
 refine aO Jl ?_
 try simp only[aG]
 refine aa Jl ?_
 refine cd (fun c1=>?_) (fun c1=>?_)
 .
  simp at c1
 refine dw_skip ?_
 refine⟨(by trivial),h,_,?_,Nat.le_refl _,fun q hq=>rfl,by dsimp only;omega⟩
 intro r
 dsimp only
 first
 | exact .inl rfl
 | exact (Decidable.em (r<n)).elim (fun e=>by left;simp only[upd];repeat (first|rfl|rw[XZ (by omega)])) fun e=>by right;exact hnone r om
theorem Hg (ce:Nat) (h:H) (n:Nat) (c0:D) (he:h ce=some ⟨125,[[c0]]⟩) (hce:ce<n):sP Tryz.prog 199 [.mptr ce 0 0] h n (.panicking lv) (.panicking [{ v:=fH dY,recovered:=true }]) (fun h' n'=>h' ce=some ⟨125,[[.v (fH dY)]]⟩/\n<=n' /\ ∀ q,q<n->q≠ce->h' q=h q):=by
 refine wO (d:=.v (fH dY)) (v:=fH dY) Tryz.func199 rfl LV (by simp[Tryz.f199]) (bC rfl) rfl rfl (by decide) (.inr ⟨rfl,rfl⟩) (fun w g=>.v _) (fun hnone=>?_)
 have hn2 : ∀ k,(ce=n+k)=False:=fun k=>Y7 om
 have hn4 : ∀ k,(n+k=ce)=False:=fun k=>Y7 om
 have ff:=qB he hn2 hn4
 refine xZ (C:=Jl) 1 (d:=.v (fH dY)) (r:=.tuple [.v (fH dY),.b true]) (fun w=>Go.run_typeAssert_hasB Tryz.underlying125 (by kernel_rfl) _ _ w) (fun w g q hq=>by cases hq;rfl) (fun w g=>?_) om (bC rfl) rfl rfl (by simp only[X8,X7,X4,Yf,S.put,Yr,Nat.reduceSub,go_sem,ff];first|done|exact rfl) trivial (by rfl) (by simp only[go_sem,ff]) ?_
 .
  exact .tuple _ _ rfl (fun i d x h1 h2=>by
   match i with
   | 0=>cases h1;cases h2;exact .v _
   | 1=>cases h1;cases h2;exact .v _
   | i+2=>simp at h1)
 refine aO Jl ?_
 try simp only[aG]
 refine aa Jl ?_
 refine cd (fun c1=>?_) (fun c1=>?_)
 .
  refine ai Jl ?_ (hok:=by (try simp only[go_sem,ff]);all_goals (exact⟨rfl,rfl⟩))
  refine⟨(by trivial),_,_,fun _=>.inl rfl,Nat.le_refl _,?_,by dsimp only;omega,fun q q1 q2=>?_⟩
  .
   dsimp only;simp only[upd];repeat (first|rfl|rw[if_neg (by omega)]|rw[if_pos rfl])
  dsimp only;simp only[upd];repeat (first|rfl|rw[if_neg q2]|rw[if_neg (by omega)])
 simp at c1
theorem WV:bV Tryz.prog 144=true:=by kernel_rfl
theorem Tt (w:Str) (h:H) (n:Nat) (hw:w.length<=1000000000):RCt Tryz.prog 144 [.list false (w.map bD),.fn (.func 145) [] []] h n (fun d h' n'=>d.nr=true/\wk d = .tuple [.agg (mG w).d,.v (uz (dn (cz (w,false)).2))]):=by
 have ff:=True.intro
 refine BA (C:=Jl) 1 Tryz.func144 rfl WV (by simp[Tryz.f144]) (by intro o ho;simp only[YK,ZF,or_false] at ho;rcases ho with rfl|rfl<;>rfl) ev (by (try simp only[go_sem,ff]);all_goals exact ok0) (bC rfl) rfl rfl (by intro o ho;simp only[X4,Yf,YK,ZF,or_false] at ho;rcases ho with rfl<;>rfl) (by simp only[X4,Yf,go_sem,ff];exact rfl) (by (try simp only[go_sem,ff]);all_goals exact ok0) (by (try simp only[go_sem,ff]);all_goals (first|done|rfl|decide|simp)) ev (fun hnone=>?_)
 unfold Tryz.f144
 refine aO Jl ?_
 try simp only[aG]
 have ff:=qA (nH n (n+1)) ff
 refine aa Jl ?_
 refine bq ?_
 refine ek 2 (C:=Jl) (hct:=by exact Tm w _ _ (n+6) ⟨false,ev⟩ hw) (hp:=?_) (hk:=?_)
 .
  rintro c9 h9 n9 ⟨rfl,hbad,hst9⟩
  try dsimp only at hst9
  have mP:=hst9.1;have hz9:h9 n=some ⟨28,[[.v (.string (bs [])),.list true []]]⟩:=(hst9.2 n om om).trans ev;have wB:h9 (n+1)=some ⟨125,[[.v .nilIface]]⟩:=(hst9.2 (n+1) om om).trans ev
  try simp only[dM,dR]
  refine⟨_,_,_,rfl,rfl,Hf (n+1) h9 _ _ wB oW,fun h1 m1 ⟨w1,w2,w3⟩=>?_⟩
  try dsimp only at w1 w2 w3
  have hz1:=(w3 n (by omega) (by omega)).trans hz9
  have ff:=qB hz1 w1 ff;exact⟨by simp only[go_sem,ff],h1,m1,fun _=>.inl rfl,XY _,by (try simp only[go_sem,ff]);all_goals (refine⟨by simp[go_sem,D.nr,aZ,aS],?_⟩;(try simp only[go_sem]);rw[mG,X6 hbad,show dn (cz (w,false)).2=true from by simp[dn,hbad]];rfl)⟩
 rintro res h2 n2 ⟨x2,hp2,rfl,hb2,hst2⟩
 try dsimp only at hst2
 have hl2:=hst2.1
 obtain⟨f2,hR2⟩:=hb2
 have hz2:h2 n=some ⟨28,[[.v (.string (bs [])),.list true []]]⟩:=(hst2.2 n om om).trans ev
 have he2:h2 (n+1)=some ⟨125,[[.v .nilIface]]⟩:=(hst2.2 (n+1) om om).trans ev
 have hbn:(cz (w,false)).2.2=false:=by rw[hp2]
 have ff:=qH hR2 hz2 he2 (nH n (n+6)) (nG n n2) (nG (n+1) n2) (nG (n+6) n2) ff
 refine aO Jl ?_
 try simp only[aG]
 refine oK Jl (fun c1=>?_) (fun c1=>?_)
 .
  refine kM ?_;refine zz Jl 1 (d:=.v (fH dY)) (t:=290) (v:=.pointer (some dY)) ?_ (fun w g u hu=>hu.v_inv)
  try simp only[dM,dR]
  refine⟨_,_,_,rfl,rfl,Hf (n+1) _ _ (.v .nilIface) ev oW,fun h1 m1 ⟨w1,w2,w3⟩=>?_⟩
  try dsimp only at w1 w2 w3
  have hz1:=(w3 n oW (by omega))
  simp only[go_sem,ff] at hz1;have ff:=qB hz1 w1 ff;exact⟨by simp only[go_sem,ff],h1,m1,fun _=>.inl rfl,XY _,by (try simp only[go_sem,ff]);all_goals (refine⟨by simp[go_sem,D.nr,aZ,aS],?_⟩;(try simp only[go_sem]);rw[mG,XZ (by rw[hbn];simp),show dn (cz (w,false)).2=true from by rw[hp2];simp[dn];omega];rfl)⟩
 have hx0:x2=[]:=X5 om
 refine aa Jl ?_
 refine aI ?_
 refine⟨_,_,_,rfl,rfl,QY (n+1) _ _,fun h1 m1 ⟨w1,w2⟩=>?_⟩
 try dsimp only at w1 w2 w3
 have hz1:=w1 n oW
 have he1:=w1 (n+1) oW
 simp only[go_sem,ff] at hz1 he1
 have ff:=qB hz1 he1 ff
 exact⟨by simp only[go_sem,ff],h1,m1,fun _=>.inl rfl,XY _,by (try simp only[go_sem,ff]);all_goals (refine⟨by simp[go_sem,D.nr,aZ,aS],?_⟩;(try simp only[go_sem]);rw[mG,XZ (by rw[hbn];simp),show dn (cz (w,false)).2=false from by rw[hp2,hx0];rfl];rfl)⟩
theorem WT:bV Tryz.prog 147=true:=by kernel_rfl
theorem Tv (w:Str) (h:H) (n:Nat) (hw:w.length<=1000000000):RCt Tryz.prog 147 [.list false (w.map bD),.fn (.func 148) [] []] h n (fun d h' n'=>d.nr=true/\wk d = .tuple [.agg (jK w).d,.v (uz (dn (bA (w,false)).2))]):=by
 have ff:=True.intro
 refine BA (C:=Jl) 1 Tryz.func147 rfl WT (by simp[Tryz.f147]) (by intro o ho;simp only[YK,ZF,or_false] at ho;rcases ho with rfl|rfl<;>rfl) ev (by (try simp only[go_sem,ff]);all_goals exact ok0) (bC rfl) rfl rfl (by intro o ho;simp only[X4,Yf,YK,ZF,or_false] at ho;rcases ho with rfl<;>rfl) (by simp only[X4,Yf,go_sem,ff];exact rfl) (by (try simp only[go_sem,ff]);all_goals exact ok0) (by (try simp only[go_sem,ff]);all_goals (first|done|rfl|decide|simp)) ev (fun hnone=>?_)
 unfold Tryz.f147
 refine aO Jl ?_
 try simp only[aG]
 have ff:=qA (nH n (n+1)) ff
 refine aa Jl ?_
 refine bq ?_
 refine ek 2 (C:=Jl) (hct:=by exact TC w _ _ (n+6) ⟨false,ev⟩ hw) (hp:=?_) (hk:=?_)
 .
  rintro c9 h9 n9 ⟨rfl,hbad,hst9⟩
  try dsimp only at hst9
  have mP:=hst9.1;have hz9:h9 n=some ⟨31,[[.v (.string (bs [])),.i 0,.i 0,.list true [],.list true []]]⟩:=(hst9.2 n om om).trans ev;have wB:h9 (n+1)=some ⟨125,[[.v .nilIface]]⟩:=(hst9.2 (n+1) om om).trans ev
  try simp only[dM,dR]
  refine⟨_,_,_,rfl,rfl,Hg (n+1) h9 _ _ wB oW,fun h1 m1 ⟨w1,w2,w3⟩=>?_⟩
  try dsimp only at w1 w2 w3
  have hz1:=(w3 n (by omega) (by omega)).trans hz9
  have ff:=qB hz1 w1 ff;exact⟨by simp only[go_sem,ff],h1,m1,fun _=>.inl rfl,XY _,by (try simp only[go_sem,ff]);all_goals (refine⟨by simp[go_sem,D.nr,aZ,aS],?_⟩;(try simp only[go_sem]);rw[jK,X6 hbad,show dn (bA (w,false)).2=true from by simp[dn,hbad]];rfl)⟩
 rintro res h2 n2 ⟨x2,hp2,rfl,hb2,hst2⟩
 try dsimp only at hst2
 have hl2:=hst2.1
 obtain⟨f2,hR2⟩:=hb2
 have hz2:h2 n=some ⟨31,[[.v (.string (bs [])),.i 0,.i 0,.list true [],.list true []]]⟩:=(hst2.2 n om om).trans ev
 have he2:h2 (n+1)=some ⟨125,[[.v .nilIface]]⟩:=(hst2.2 (n+1) om om).trans ev
 have hbn:(bA (w,false)).2.2=false:=by rw[hp2]
 have ff:=qH hR2 hz2 he2 (nH n (n+6)) (nG n n2) (nG (n+1) n2) (nG (n+6) n2) ff
 refine aO Jl ?_
 try simp only[aG]
 refine oK Jl (fun c1=>?_) (fun c1=>?_)
 .
  refine kM ?_;refine zz Jl 1 (d:=.v (fH dY)) (t:=290) (v:=.pointer (some dY)) ?_ (fun w g u hu=>hu.v_inv)
  try simp only[dM,dR]
  refine⟨_,_,_,rfl,rfl,Hg (n+1) _ _ (.v .nilIface) ev oW,fun h1 m1 ⟨w1,w2,w3⟩=>?_⟩
  try dsimp only at w1 w2 w3
  have hz1:=(w3 n oW (by omega))
  simp only[go_sem,ff] at hz1;have ff:=qB hz1 w1 ff;exact⟨by simp only[go_sem,ff],h1,m1,fun _=>.inl rfl,XY _,by (try simp only[go_sem,ff]);all_goals (refine⟨by simp[go_sem,D.nr,aZ,aS],?_⟩;(try simp only[go_sem]);rw[jK,XZ (by rw[hbn];simp),show dn (bA (w,false)).2=true from by rw[hp2];simp[dn];omega];rfl)⟩
 have hx0:x2=[]:=X5 om
 refine aa Jl ?_
 refine aI ?_
 refine⟨_,_,_,rfl,rfl,QZ (n+1) _ _,fun h1 m1 ⟨w1,w2⟩=>?_⟩
 try dsimp only at w1 w2 w3
 have hz1:=w1 n oW
 have he1:=w1 (n+1) oW
 simp only[go_sem,ff] at hz1 he1
 have ff:=qB hz1 he1 ff
 exact⟨by simp only[go_sem,ff],h1,m1,fun _=>.inl rfl,XY _,by (try simp only[go_sem,ff]);all_goals (refine⟨by simp[go_sem,D.nr,aZ,aS],?_⟩;(try simp only[go_sem]);rw[jK,XZ (by rw[hbn];simp),show dn (bA (w,false)).2=false from by rw[hp2,hx0];rfl];rfl)⟩
theorem Tu (w:Str) (hw:w.length<=1000000000):PureCt Tryz.prog 144 [.list false (w.map bD),.fn (.func 145) [] []] (.tuple [.agg (mG w).d,.v (uz (dn (cz (w,false)).2))]) :=
 G7 (by simp[go_sem,D.nr,aZ,aS]) ((Tt w _ 0 hw).mono fun d h' n' ⟨e1,e2⟩=>⟨0,e1,e2⟩)
theorem Tw (w:Str) (hw:w.length<=1000000000):PureCt Tryz.prog 147 [.list false (w.map bD),.fn (.func 148) [] []] (.tuple [.agg (jK w).d,.v (uz (dn (bA (w,false)).2))]) :=
 G7 (by simp[go_sem,D.nr,aZ,aS]) ((Tv w _ 0 hw).mono fun d h' n' ⟨e1,e2⟩=>⟨0,e1,e2⟩)
end Go.Proofs.YtjngdcldglkolaaGreatDoor
namespace Go.Proofs.YtjngdcldglkolaaGreatDoor
open Go.DL Go.Str Go.Rec Go.Cmp Go.Zon Go.Jn
set_option maxRecDepth 10000
variable [Glob Tryz.prog] [Told]
theorem sZ {k:Nat}{x:Str}(h:k<=x.length):ag k (x,false)=(cB (x.take k),(x.drop k,false)):=by
 unfold ag
 rw[iW rfl h]
theorem zF {k:Nat}{b:Str}(h : ∀ m,21+m<=b.length -> ¬ mO k m b):fst1 k b=(0,[]):=by
 rcases sw k b with e|⟨m,h1,h2,_⟩
 .
  exact e
 exact absurd h2 (h m h1)
attribute [local irreducible] dig cB
def dA:Code->Code
 | .seq _ b=>b
 | c=>c
def lW:Code->Code
 | .seq a _=>a
 | c=>c
def Hz:Code->Array Oper
 | .region _ ops _=>ops
 | _=>#[]
noncomputable def ufrOps:Array Oper:=Hz (lW (lW (dA (dA (dA (dA (Tryz.f143.body.getD .skip)))))))
theorem EO (w:Str) (t:Nat->D) (h:H) (a u n2 nx:Nat) (fl:Bool) (e:Env) (h21:21<=w.length) (hw:w.length<=1000000000)
  (h1:t 1 = .list false (w.map bD)) (h7:t 7 = .i u) (h27:t 27 = .v (.int .u64 a)) (h28:t 28 = .list false (w.map bD)) (h29:t 29 = .list fl ((w.take 5).map bD)) :
  ∃ (t':Nat->D) (p:Prop),aF Tryz.prog (words Tryz.prog) Jl ufrOps.toList n2 4 ((ufrOps.toList.drop 4).take (11-4)) { n:=50,t:=t,h:=h,nx:=nx,ok:=True,e:=e }={ n:=50,t:=t',h:=h,nx:=nx,ok:=p,e:=e }/\p /\
   t' 32 = .b (((a:Nat):Int) != ((dig (w.take 5):Nat):Int))/\t' 33 = .cond (!(((a:Nat):Int) != ((dig (w.take 5):Nat):Int))) (.i u)/\t' 36 = .cond (!(((a:Nat):Int) != ((dig (w.take 5):Nat):Int))) (.i ((w.length:Int)-21)) /\ ∀ i,i<28->t' i=t i:=by
 have ff:=qE h1 h7 h27 h28 h29
 unfold ufrOps Tryz.f143
 simp only[YT,dA,lW,Hz]
 refine⟨_,_,by simp only[X8,X7,X4,Yf,Yr,Nat.reduceSub,Nat.reduceAdd,go_sem,ff];exact rfl,?_,?_,?_,?_,fun i hi=>?_⟩
 .
  (try simp only[go_sem,ff])
  exact⟨zo _ (by rw[Yu];omega),fun _=>by omega⟩
 .
  simp only[go_sem,ff]
 .
  simp only[go_sem,ff]
 .
  simp only[go_sem,ff]
 simp only[upd]
 repeat rw[XZ (by omega)]
theorem M9 (w:Str) (t:Nat->D) (h:H) (a u n2 nx:Nat) (fl:Bool) (e:Env) (h21:21<=w.length) (hw:w.length<=1000000000)
  (h1:t 1 = .list false (w.map bD)) (h7:t 7 = .i u) (h27:t 27 = .v (.int .u64 a)) (h28:t 28 = .list false (w.map bD)) (h29:t 29 = .list fl ((w.take 5).map bD)) :
  (aF Tryz.prog (words Tryz.prog) Jl ufrOps.toList n2 4 ((ufrOps.toList.drop 4).take (11-4)) { n:=50,t:=t,h:=h,nx:=nx,ok:=True,e:=e }).ok:=by
 obtain⟨t',p,he,hp,_⟩:=EO w t h a u n2 nx fl e h21 hw h1 h7 h27 h28 h29
 rw[he]
 exact hp
theorem M8 {ro:Option Nat}{ops:Array Oper}{k b:Nat}{Q:Exit->S->Prop}(w:Str) (t:Nat->D) (h:H) (a u n2 nx:Nat) (fl:Bool) (e:Env) (h21:21<=w.length) (hw:w.length<=1000000000)
  (h1:t 1 = .list false (w.map bD)) (h7:t 7 = .i u) (h27:t 27 = .v (.int .u64 a)) (h28:t 28 = .list false (w.map bD)) (h29:t 29 = .list fl ((w.take 5).map bD))
  (hk : ∀ t':Nat->D,t' 32 = .b (((a:Nat):Int) != ((dig (w.take 5):Nat):Int))->t' 33 = .cond (!(((a:Nat):Int) != ((dig (w.take 5):Nat):Int))) (.i u)->t' 36 = .cond (!(((a:Nat):Int) != ((dig (w.take 5):Nat):Int))) (.i ((w.length:Int)-21))->(∀ i,i<28->t' i=t i) ->
   ax Tryz.prog ro ops k b { n:=50,t:=t',h:=h,nx:=nx,ok:=True,e:=e } Q) :
  ax Tryz.prog ro ops k b (aF Tryz.prog (words Tryz.prog) Jl ufrOps.toList n2 4 ((ufrOps.toList.drop 4).take (11-4)) { n:=50,t:=t,h:=h,nx:=nx,ok:=True,e:=e }) Q:=by
 obtain⟨t',p,he,hp,h2,h3,h4,h5⟩:=EO w t h a u n2 nx fl e h21 hw h1 h7 h27 h28 h29
 rw[he]
 exact FM (hk t' h2 h3 h4 h5)
theorem Ja (k:UInt8) (w:Str) (hw:w.length<=1000000000):PureCt Tryz.prog 143 [.v (.int .u8 ((k).toNat:Int)),.list false (w.map bD)] (.tuple [.list false ((fst1 k.toNat w).2.map bD),.i (fst1 k.toNat w).1]):=by
 refine oO Tryz.func143 fun ff=>?_
 unfold Tryz.f143
 have hkt:=k.toNat_lt
 refine aa Jl ?_
 refine ae ?_
 by_cases h21:21<=w.length
 .
  have h0:0<w.length:=by omega
  have hdm:(w.map bD).drop 1=(w.drop 1).map bD:=List.map_drop.symm;have htm:(w.map bD).take 5=(w.take 5).map bD:=ZQ.symm;have hE1:((1:Int)).toNat=1:=rfl;have hE5:((5:Int)).toNat=5:=rfl;have hx1:(w.drop 1).length<=1000000000:=by rw[Yi];omega
  have ff:=qF (oM (n:=0) h0) @hdm @htm @hE1 @hE5 ff;refine aa Jl ?_;refine cd (fun c1=>?_) (fun c1=>?_)
  .
   have hF0:fst1 k.toNat w=(0,[]):=zF fun m hm hf=>by have:=hf.1;omega
   refine aa Jl ?_;exact fo 1 (k:=by rw[hF0];rfl)
  have hkk:(w.getD 0 0).toNat=k.toNat:=by omega
  refine dw_skip ?_;refine aa Jl ?_;refine bq ?_;refine ek 1 (C:=Jl) (hct:=by exact zm (w.drop 1) _ _ 15 ⟨_,ev⟩ hx1) (hp:=?_) (hk:=?_)
  .
   rintro c9 h9 n9 ⟨rfl,hbad,hst9⟩
   exfalso
   have hbad:(ag ((4:Nat):Int) (w.drop 1,false)).2.2=true:=hbad;rw[sZ (by rw[Yi];omega)] at hbad
   cases hbad
  rintro res h4 n4 ⟨x4,hp4,rfl,hb4,hst4⟩
  try dsimp only at hst4
  have hl4:=hst4.1;obtain⟨f4,hR4⟩:=hb4;have hu4:ag 4 (w.drop 1,false)=(cB ((w.drop 1).take 4),((w.drop 1).drop 4,false)):=sZ (k:=4) (by rw[Yi];omega)
  rw[hu4] at hp4;obtain rfl:(w.drop 1).drop 4=x4:=congrArg Prod.fst hp4;rw[Zt] at hR4;have hul:cB ((w.drop 1).take 4)<256^4:=by have:=ko 4 (w.drop 1,false);rw[show ag ((4:Nat):Int) (w.drop 1,false)=_ from hu4] at this;exact this
  rw[hu4];obtain⟨u,hue⟩:∃ u,u=cB ((w.drop 1).take 4):=⟨_,rfl⟩
  try rw[<- hue]
  rw[<- hue] at hul;have e1:=oG (u:=u) (by omega)
  have ff:=qD hR4 e1 (nG 15 n4) ff;have hx5:(w.drop (1+4)).length<=1000000000:=by rw[Yi];omega
  refine aO Jl ?_
  try simp only[aG]
  refine ae ?_;refine Vz Jl 1 4 11 [(3,28)] (R:=_) (X:=_) (hct:=by exact oh (w.drop (1+4)) _ _ 15 ⟨_,ev⟩ hx5) (hkeep:=?kp27) (hFo:=?fo27) (hk:=?kk27) (hp:=?pp27)
  case kp27 =>
   intro res h2 n2 _ p hp r9 hrr;simp only[Yq] at hp;subst hp;simp only[go_sem,ff,sd,named] at hrr;first|cases hrr|skip
  case fo27 =>
   rintro res h2 n2 ⟨_,_,rfl,_,_⟩;exact M9 w _ h2 _ u n2 _ _ _ h21 hw rfl rfl rfl rfl rfl
  case pp27 =>
   rintro c9 h9 n9 ⟨rfl,hbad,hst9⟩ t9
   exfalso
   have hbad:(ag ((8:Nat):Int) (w.drop (1+4),false)).2.2=true:=hbad;rw[sZ (by rw[Yi];omega)] at hbad
   cases hbad
  rintro res h5 n5 ⟨x5,hp5,rfl,hb5,hst5⟩
  try dsimp only at hst5
  have hl5:=hst5.1;obtain⟨f5,hR5⟩:=hb5;have hu8:ag 8 (w.drop (1+4),false)=(cB ((w.drop (1+4)).take 8),((w.drop (1+4)).drop 8,false)):=sZ (k:=8) (by rw[Yi];omega)
  rw[hu8] at hp5;obtain rfl:(w.drop (1+4)).drop 8=x5:=congrArg Prod.fst hp5;rw[Zt] at hR5;rw[hu8];refine M8 w _ h5 _ u n5 _ _ _ h21 hw rfl rfl rfl rfl rfl ?_;intro t9 h32 h33 h36 hlow;have l1:=(hlow 1 (by omega)).trans rfl
  have l6:t9 6 = .mptr 15 0 0:=(hlow 6 om).trans rfl;have l7:t9 7 = .i u:=(hlow 7 om).trans rfl;have l1:t9 1 = .list false (w.map bD):=(hlow 1 om).trans rfl;have ff:=qI hR5 h32 h33 h36 l1 l6 l7 (nG 15 n5) ff;refine aO Jl ?_
  try simp only[aG]
  refine cd (fun c2=>?_) (fun c2=>?_) (hp:=rfl) (hq:=rfl)
  .
   have hF0:fst1 k.toNat w=(0,[]):=zF fun m hm hf=>by have h1:=hf.2.1;have h2:=hf.2.2.1;simp at c2;omega
   refine aa Jl ?_;exact fo 1 (k:=by rw[hF0];rfl)
  have c2b:cB ((w.drop 5).take 8)=dig (w.take 5)/\u+21<=w.length:=by simp at c2;omega
  refine dw_skip ?_;refine bq ?_;refine ek 2 (C:=Jl) (hct:=by exact zk (w.drop (1+4+8)) u _ _ 15 ⟨_,ev⟩ (by rw[Yi];omega) (by omega)) (hp:=?_) (hk:=?_)
  .
   rintro c9 h9 n9 ⟨rfl,hbad,hst9⟩
   exfalso
   rw[iW rfl (by show u<=(w.drop (1+4+8)).length;rw[Yi];omega)] at hbad
   cases hbad
  rintro res h7 n7 ⟨x7,hp7,⟨f7,rfl⟩,hb7,hst7⟩
  try dsimp only at hst7
  have wy:=hst7.1;obtain⟨g7,hR7⟩:=hb7;have hu7:aH u (w.drop (1+4+8),false)=((w.drop (1+4+8)).take u,((w.drop (1+4+8)).drop u,false)):=iW rfl (by show u<=(w.drop (1+4+8)).length;rw[Yi];omega)
  rw[hu7] at hp7;obtain rfl:(w.drop (1+4+8)).drop u=x7:=congrArg Prod.fst hp7;rw[Zt] at hR7;rw[hu7];have ff:=qB hR7 (nG 15 n7) ff;refine aO Jl ?_
  try simp only[aG]
  refine ae ?_;refine bq ?_;refine ek 1 (C:=Jl) (hct:=by exact oh (w.drop (1+4+8+u)) _ _ 15 ⟨_,ev⟩ (by rw[Yi];omega)) (hp:=?_) (hk:=?_)
  .
   rintro c9 h9 n9 ⟨rfl,hbad,hst9⟩
   exfalso
   have hbad:(ag ((8:Nat):Int) (w.drop (1+4+8+u),false)).2.2=true:=hbad;rw[sZ (by rw[Yi];omega)] at hbad
   cases hbad
  rintro res h8 n8 ⟨x8,hp8,rfl,hb8,hst8⟩;have hu9:ag 8 (w.drop (1+4+8+u),false)=(cB ((w.drop (1+4+8+u)).take 8),((w.drop (1+4+8+u)).drop 8,false)):=sZ (k:=8) (by rw[Yi];omega)
  rw[hu9];refine aO Jl ?_ (hok:=by (try simp only[go_sem,ff]);all_goals (exact zo _ (by rw[Yu,Yi];omega)))
  try simp only[aG]
  refine cd (fun c3=>?_) (fun c3=>?_)
  .
   have hF0:fst1 k.toNat w=(0,[]):=zF fun m hm hf=>by have h1:=hf.2.1;have h2:=hf.2.2.2;rw[show m=u by omega] at h2;omega
   refine aa Jl ?_;exact fo 1 (k:=by rw[hF0];rfl)
  have hF:fst1 k.toNat w=(21+u,(w.drop 13).take u):=fst1_iff.2 ⟨om,⟨hkk,om,c2b.1,om⟩,rfl⟩;refine dw_skip ?_;refine aa Jl ?_;exact fo 1 (k:=by rw[hF];rfl)
 refine aa Jl ?_
 refine cd (fun c1=>?_) (fun c1=>?_) (hp:=rfl) (hq:=rfl)
 .
  have hF0:fst1 k.toNat w=(0,[]):=zF fun m hm _=>by omega
  refine aa Jl ?_;exact fo 1 (k:=by rw[hF0];rfl)
 exfalso;simp at c1;omega
end Go.Proofs.YtjngdcldglkolaaGreatDoor
namespace Go.Proofs.YtjngdcldglkolaaGreatDoor
open Go.DL Go.Str Go.Rec Go.Cmp Go.Zon Go.Jn
set_option maxRecDepth 10000
variable [Glob Tryz.prog] [Told]
theorem Tq (w:Str) (hw:w.length<=1000000000):PureCt Tryz.prog 143 [.v (.int .u8 1),.list false (w.map bD)] (.tuple [.list false ((fst1 1 w).2.map bD),.i (fst1 1 w).1]):=Ja 1 w hw
theorem Tp (w:Str) (hw:w.length<=1000000000):PureCt Tryz.prog 143 [.v (.int .u8 2),.list false (w.map bD)] (.tuple [.list false ((fst1 2 w).2.map bD),.i (fst1 2 w).1]):=Ja 2 w hw
theorem Ty (c:Cnt) (w:Str) (hw:w.length<=1000000):PureCt Tryz.prog 93 [.agg c.d,.list false (w.map bD)] (.tuple [.agg (nextF c w).1.d,.i (nextF c w).2]):=by
 refine oO Tryz.func93 fun ff=>?_
 unfold Tryz.f93
 have hv1:=zD 1 w
 have hv2:=zD 2 w
 have ff:=qE (show (UInt8.ofNat 1).toNat=1 from rfl) (show (UInt8.ofNat 2).toNat=2 from rfl) (show zon0.apex=[] from rfl) (show zon0.sets=[] from rfl) ff
 rcases c with _|z0
 .
  refine aa Jl ?_;refine ae ?_;refine aa Jl ?_;refine cd (fun c1=>?_) (fun c1=>?_) (hq:=rfl)
  .
   refine aa Jl ?_ (hok:=oF (Tq w om));refine ae (aD Jl 1 (hct:=by exact (Tu (fst1 1 w).2 om).rct _ _) (hk:=?_))
   rintro res h2 n2 ⟨rfl,rfl,hn2⟩;refine av Jl ?_;refine oK Jl (fun c2=>?_) (fun c2=>?_) (hok:=oI Jh Aw)
   .
    have hno:=RI (w:=w) (by grind)
    refine aa Jl ?_;exact fo 2 (k:=by rw[hno];first|rfl|(simp;done))
   have hyes:=RH (w:=w) (by grind) (by grind) (by grind)
   refine aa Jl ?_;exact fo 2 (k:=by rw[hyes];first|rfl|(simp;done))
  simp at c1
 refine aa Jl ?_
 refine oK Jl (fun c1=>?_) (fun c1=>?_) (hp:=rfl)
 .
  simp at c1
 refine aa Jl ?_ (hok:=oF (Tp w om))
 refine oK Jl (fun c3=>?_) (fun c3=>?_)
 .
  have hno:=RO (z:=z0) (w:=w) (by grind)
  refine aa Jl ?_;exact fo 2 (k:=by rw[hno];first|rfl|(simp;done))
 refine ae (aD Jl 1 (hct:=by exact (Tw (fst1 2 w).2 om).rct _ _) (hk:=?_))
 rintro res h2 n2 ⟨rfl,rfl,hn2⟩
 refine av Jl ?_
 refine oK Jl (fun c4=>?_) (fun c4=>?_) (hok:=oF (Jh _))
 .
  have hno:=RL (z:=z0) (w:=w) c4;refine aa Jl ?_;exact fo 2 (k:=by rw[hno];first|rfl|(simp;done))
 have hpf:=QS (w:=(fst1 2 w).2) (by omega) c4
 refine aa Jl ?_ (hok:=oF (Dx z0 (jK (fst1 2 w).2) hpf))
 refine oK Jl (fun c5=>?_) (fun c5=>?_)
 .
  have hno:=RN (z:=z0) c4 c5;refine aa Jl ?_;exact fo 2 (k:=by rw[hno];first|rfl|(simp;done))
 have hyes:=RJ (z:=z0) (by omega) c4 c5
 refine aa Jl ?_
 exact fo 2 (k:=by rw[hyes];first|rfl|(simp;done))
end Go.Proofs.YtjngdcldglkolaaGreatDoor
namespace Go.Proofs.YtjngdcldglkolaaGreatDoor
open Go.DL Go.Str Go.Rec Go.Cmp Go.Zon Go.Jn
set_option maxRecDepth 10000
variable [Glob Tryz.prog] [Told]
theorem zn {c c':Cnt}{w:Str}{n:Nat}(hw:w.length<=1000000) (h:nextF c w=(c',n)):PureCt Tryz.prog 93 [.agg c.d,.list false (w.map bD)] (.tuple [.agg c'.d,.i n]):=by
 have:=Ty c w hw
 rwa [h] at this
theorem Tn (w:Str) (hw:w.length<=1000000):PureCt Tryz.prog 92 [.list false (w.map bD)] (.tuple [.agg (wholeC w).d,.i (sumL (frs w))]):=by
 refine oO Tryz.func92 fun ff=>?_
 unfold Tryz.f92
 have z1:(none:Cnt).isSome=false:=rfl
 have z2:((none:Cnt).getD zon0).apex=[]:=rfl
 have z3:((none:Cnt).getD zon0).sets=[]:=rfl
 have ff:=qF @z1 @z2 @z3 (show zon0.apex=[] from rfl) (show zon0.sets=[] from rfl) ff
 refine oD Jl ?_
 refine ah ?_
 refine lp (α:=(Nat)×(Cnt)×(Bool)×Nat) [0,2,4] (fun ⟨a,c,f,nx⟩=>(xc w a c)/\(2<nx)/\True) (fun ⟨a,c,f,nx⟩=>w.length-a) (fun ⟨a,c,f,nx⟩=>[(5,.i a)]) (fun ⟨a,c,f,nx⟩=>[(0,⟨70,[[.v (.bool false),.v (.string (bs [])),.list true []]]⟩),(2,⟨70,[[.v (.bool (c).isSome),.v (.string (bs ((c).getD zon0).apex)),.list f (((c).getD zon0).sets.map Sgd.d)]]⟩)]) (fun ⟨a,c,f,nx⟩=>nx) (0,none,true,_) (hA:=⟨(by first|(exact KP w)|(dsimp only;exact KP w)),(by first|(omega)|(dsimp only;omega)),trivial⟩) (round:=?_)
 rintro⟨a,c,f,nx⟩ ⟨hd,hx, -⟩
 simp only[X0,X3]
 have ha:=hd.1
 have n0:0<nx:=by omega
 have hdm:(w.map bD).drop a=(w.drop a).map bD:=List.map_drop.symm
 have ff:=qD @hdm @hx @n0 ff
 refine ah ?_
 rcases Ir c (w.drop a) with⟨h8,h9⟩|⟨y,n,h8,h9,h10,h11⟩
 .
  have ff:=qA @h9 ff;refine aa JlF ?_ (hok:=oH (zn (by rw[Yi];omega) h9))
  refine ae ?_;refine aa Jl ?_;refine cd (fun c1=>?_) (fun c1=>?_) (hp:=rfl) (hq:=rfl)
  .
   refine aa Jl ?_;exact fo 2 (k:=by obtain⟨q1,q2⟩:=VB hd h8;rw[q1,q2])
  simp at c1
 have h12:a+n<=w.length:=by rw[Yi] at h11;omega
 have ff:=qA @h9 ff
 refine aa JlF ?_ (hok:=oH (zn (by rw[Yi];omega) h9))
 refine oK Jl (fun c1=>?_) (fun c1=>?_) (hp:=rfl) (hq:=rfl)
 .
  exfalso;simp at c1;omega
 refine ai Jl ?_
 show ∃ _,_
 have e9:((a+n:Nat):Int)=(a:Int)+(n:Int):=by omega
 have ff:=qA e9 ff
 exact au (a+n,some y,false,_) (h1:=⟨(by first|(exact KO hd h8)|(dsimp only;exact KO hd h8)),(by first|(omega)|(dsimp only;omega)),trivial⟩) (h2:=by show (_:Nat)<_;(try dsimp only);omega)
theorem Jd (d:Dsk) (hd:DskSz d):PureCt Tryz.prog 36 [.agg d.d] (.tuple [.agg (opnOf d).d,.b (openF d).isSome]):=by
 refine oO Tryz.func36 fun ff=>?_
 unfold Tryz.f36
 refine aa Jl ?_
 refine oK Jl (fun c1=>?_) (fun c1=>?_)
 .
  have hno:=HY (d:=d) (by omega)
  refine aa Jl ?_;exact fo 2 (k:=by rw[opnOf,hno];first|rfl|(simp;done))
 have hs1:d.safe.length<=1000000:=by omega
 have hp1:d.pend.length<=200:=by omega
 have hsm:sumL (frs d.safe)<=d.safe.length:=wG _ none d.safe (XY _)
 have htm:(d.safe.map bD).take (sumL (frs d.safe))=(partB d.safe).map bD:=ZQ.symm
 have hpl:=uf d.safe
 have ff:=qA @htm ff
 refine aa Jl ?_ (hok:=oF (Tn d.safe hs1))
 refine aa Jl ?_
 refine ae ?_
 refine aa Jl ?_
 refine ah ?_
 refine lp (α:=(Nat)×(Cnt)×(Int)×Nat) [2,6,37,38] (fun ⟨k,c,s,nx⟩=>(k<=d.pend.length)/\(rH (wholeC d.safe) d.pend k=some c)/\(s=(((partB d.safe).length:Nat):Int)+(((catB (d.pend.take k)).length:Nat):Int))/\(30<nx)/\True) (fun ⟨k,c,s,nx⟩=>d.pend.length-k) (fun ⟨k,c,s,nx⟩=>[(39,.i k)]) (fun ⟨k,c,s,nx⟩=>[(0,⟨25,[d.d]⟩),(1,⟨72,[[.list true [],.i 0,.v (.bool false),.v (.string (bs [])),.list true [],.v (.bool false),.v (.string (bs [])),.list true []]]⟩),(30,⟨72,[[.list false ((partB d.safe).map bD),.i s,.v (.bool (wholeC d.safe).isSome),.v (.string (bs ((wholeC d.safe).getD zon0).apex)),.list false (((wholeC d.safe).getD zon0).sets.map Sgd.d),.v (.bool (c).isSome),.v (.string (bs ((c).getD zon0).apex)),.list false (((c).getD zon0).sets.map Sgd.d)]]⟩)]) (fun ⟨k,c,s,nx⟩=>nx) (0,wholeC d.safe,(sumL (frs d.safe):Int),_) (hA:=⟨iv,rfl,(by first|(rw[uf];simp[catB])|(dsimp only;rw[uf];simp[catB])),iv,trivial⟩) (round:=?_)
 rintro⟨k,c,s,nx⟩ ⟨hk,hK,hs,hx, -⟩
 simp only[X0,X3]
 have n0:0<nx:=by omega
 have n1:1<nx:=by omega
 have ff:=qD @hx @n0 @n1 ff
 refine aa Jl ?_
 refine ae ?_
 refine cd (fun c2=>?_) (fun c2=>?_) (hp:=rfl)
 .
  have hk2:k<d.pend.length:=by simpa using c2
  have hpk:=hd.at hk2;have hcs:=o5 hk2;have hc1:=wT hd (k+1) hp1;have ff:=qA (jN hk2) ff;refine dw_skip ?_;refine ae ?_;refine ah ?_;refine aa Jl ?_
  rcases Ir c (d.pend[k]!) with⟨h8,h9⟩|⟨y,n,h8,h9,h10,h11⟩
  .
   have ff:=qA @h9 ff;refine aa Jl ?_ (hok:=oF (zn hpk h9));refine ae ?_;refine aa Jl ?_;refine cd (fun c3=>?_) (fun c3=>?_) (hp:=rfl) (hq:=rfl)
   .
    have hst:=BO hK hk2;rw[h9,XZ (by simp)] at hst
    have hno:=HV (Hm hst);refine aa Jl ?_;exact fo 2 (k:=by rw[opnOf,hno];first|rfl|(simp;done))
   simp at c3
  have ff:=qA @h9 ff;refine aa Jl ?_ (hok:=oF (zn hpk h9));refine oK Jl (fun c3=>?_) (fun c3=>?_)
  .
   have hst:=BO hK hk2;rw[h9,if_neg (by dsimp only;omega)] at hst
   have hno:=HV (Hm hst);refine aa Jl ?_;exact fo 2 (k:=by rw[opnOf,hno];first|rfl|(simp;done))
  have hn2:n=d.pend[k]!.length:=by omega
  have hst:=BO hK hk2;rw[h9,if_pos (by dsimp only;omega)] at hst
  refine aa Jl ?_;refine ai Jl ?_;refine ai Jl ?_
  show ∃ _,_
  exact au (k+1,some y,s+n,_) (h1:=⟨iv,(by first|(exact hst)|(dsimp only;exact hst)),(by first|(rw[hs,hcs];omega)|(dsimp only;rw[hs,hcs];omega)),iv,trivial⟩)
 have e8:k=d.pend.length:=by omega
 subst e8
 have hyes:=Rq hs1 hp1 (Q6 ▸ hK)
 refine aB ?_
 refine aa Jl ?_
 exact fo 2 (k:=by rw[opnOf,hyes,hs,YG];first|rfl|(simp;done))
end Go.Proofs.YtjngdcldglkolaaGreatDoor
namespace Go.Proofs.YtjngdcldglkolaaGreatDoor
open Go.DL Go.Str Go.Rec Go.Cmp Go.Zon Go.Jn Go.Jn
set_option maxRecDepth 10000
variable [Glob Tryz.prog] [Told]
theorem xQ {g:RSig}(h:Mw g):(eu g).length<=300:=by
 have:=h.zone
 simp[eu,ay,aX]
 omega
theorem xV {s:Sgd}(h:uP s):(bP s).length<=80000:=by
 have h1:=vC h.set
 have h2:=flat_len (f:=eu) (n:=300) (l:=s.sigs) fun g hg=>xQ (h.sig g hg)
 have h3:=h.len
 simp[bP,bF] at h2 ⊢
 omega
theorem Vu {a b c d:Int}{j:Nat}(h:j<4):([a,b,c,d].drop j).flatMap ak=ak ([a,b,c,d][j]!)++([a,b,c,d].drop (j+1)).flatMap ak:=nz (by simpa using h) ak
theorem Ey (T:TypeId) (l:Str) (s:Sgd) (h:H) (n W:Nat) (hB:BufG T h W n l 0) (hs:uP s) (hl:l.length<=700000000000):RCt Tryz.prog 83 [.mptr W 0 0,.agg s.d] h n (fun d h' n'=>BStep h h' W n n'/\BufG T h' W n' (l++bP s) 0):=by
 refine oP Tryz.func83 fun hnone ff=>?_
 unfold Tryz.f83
 have hWn:=hB.1
 have hb1:bytesF s.set=(setB s.set,0):=by unfold bytesF;rw[(eT s.set).2 hs.set];rfl
 have hsl:=vC hs.set
 have hsg:=hs.len
 have e1:=jW (n:=(setB s.set).length) (by omega)
 have e2:=jW (n:=s.sigs.length) (by omega)
 have ff:=qE @hb1 @e1 @e2 (nG W n) ff
 refine aa Jl ?_
 refine sH 3 n ev ev (by simp[go_sem,aZ,D.nr,aS]) ?_
 simp only[kK]
 refine aa Jl ?_ (hok:=oV (Qh s.set))
 refine ae (aD Jl 4 (hct:=by exact uI T l (setB s.set).length 2 _ _ W (hB.fresh (show n<=n from XY _) oW) om om om) (hk:=?_))
 rintro res h2 n2 ⟨hst2,hG2⟩
 try dsimp only at hst2
 replace hst2:=(BStep.fresh (x:=none) hWn (XY n) (XY n)).trans (hst2.down oW)
 refine av Jl ?_
 refine ae (aD Jl 4 (hct:=by exact uV T _ (setB s.set) _ _ W (hG2.mono oW) (by rw[XV,bF];omega)) (hk:=?_))
 rintro res h3 n3 ⟨rfl,hst3,hG3⟩
 try dsimp only at hst3
 replace hst3:=hst2.trans (hst3.down oW)
 refine av Jl ?_
 refine ae (aD Jl 5 (hct:=by exact uI T _ s.sigs.length 1 _ _ W (hG3.mono oW) (by omega) (by omega) (by rw[XV,XV,bF];omega)) (hk:=?_))
 rintro res h4 n4 ⟨hst4,hG4⟩
 try dsimp only at hst4
 replace hst4:=hst3.trans (hst4.down oW)
 refine av Jl ?_
 refine aa Jl ?_
 refine ah ?_
 refine dD (α:=(Nat)×(Str)×(H)×Nat) [0,33,34] (fun ⟨k,o,hq,nx⟩=>(k<=s.sigs.length)/\(o++(s.sigs.drop k).flatMap eu=l++bP s)/\(o.length<=l.length+1100+k*300)/\(BufG T hq W nx o 0)/\(BStep h hq W n nx)/\True) (fun ⟨k,o,hq,nx⟩=>s.sigs.length-k) (fun ⟨k,o,hq,nx⟩=>[(35,.i k)]) (fun ⟨k,o,hq,nx⟩=>hq) (fun ⟨k,o,hq,nx⟩=>nx) (0,l++bg (setB s.set).length 2++setB s.set++bg s.sigs.length 1,h4,_) (hA:=⟨iv,(by first|(rw[DX];simp[bP])|(dsimp only;rw[DX];simp[bP])),(by first|(simp[bF];omega)|(dsimp only;simp[bF];omega)),(by first|(exact hG4.mono (by omega))|(dsimp only;exact hG4.mono (by omega))),(by first|(exact hst4.up (by omega))|(dsimp only;exact hst4.up (by omega))),trivial⟩) (round:=?_)
 rintro⟨k,o,hq,nx⟩ ⟨hk,ho,hol,hG,hst, -⟩
 simp only[X0,X3]
 refine aa Jl ?_
 refine ae ?_
 refine cd (fun c1=>?_) (fun c1=>?_)
 .
  have hk2:k<s.sigs.length:=by omega
  have hgz:=hs.sig _ (by rw[getElem!_pos s.sigs k hk2];exact Yv hk2:s.sigs[k]! ∈ s.sigs)
  have hgl:=hgz.zone;have hgs:=hgz.sum;have e3:=AX hgs;have e4:=xQ hgz;have ff:=qA (lV hk2) ff;refine dw_skip ?_;refine ae ?_;refine ah ?_;refine aa Jl ?_;refine sH 7 (nx+3) ev ev (by simp[go_sem,aZ,D.nr,aS]) ?_
  simp only[kK];refine ae (aD Jl 3 (hct:=by exact xw T o s.sigs[k]!.zone _ _ W (hG.fresh (show nx<=nx+3 by omega) oW) om om) (hk:=?_))
  rintro res h5 n5 ⟨hst5,hG5⟩
  try dsimp only at hst5
  replace hst5:=(BStep.fresh (x:=none) hG.1 (show nx<=nx+3 by omega) (XY nx)).trans (hst5.down oW)
  refine av Jl ?_;refine ae ?_;refine aa Jl ?_;refine ah ?_;refine dD (α:=(Nat)×(Str)×(H)×Nat) [0,7,33,34,35,51,52] (fun ⟨j,o2,hq2,nx⟩=>(j<=4)/\(o2++([s.sigs[k]!.key,s.sigs[k]!.alg,s.sigs[k]!.frm,s.sigs[k]!.unt].drop j).flatMap ak=o++ay s.sigs[k]!.zone++[s.sigs[k]!.key,s.sigs[k]!.alg,s.sigs[k]!.frm,s.sigs[k]!.unt].flatMap ak)/\(o2.length=(o++ay s.sigs[k]!.zone).length+8*j)/\(BufG T hq2 W nx o2 0)/\(BStep h5 hq2 W n5 nx)/\True) (fun ⟨j,o2,hq2,nx⟩=>4-j) (fun ⟨j,o2,hq2,nx⟩=>[(53,.i j)]) (fun ⟨j,o2,hq2,nx⟩=>hq2) (fun ⟨j,o2,hq2,nx⟩=>nx) (0,o++ay s.sigs[k]!.zone,h5,_) (hA:=⟨iv,rfl,rfl,(by first|(exact hG5.mono om)|(dsimp only;exact hG5.mono om)),(by first|(exact BStep.refl om)|(dsimp only;exact BStep.refl om)),trivial⟩) (round:=?_)
  rintro⟨j,o2,hq2,nx⟩ ⟨hj,ho2,hol2,hG7,hst7, -⟩;simp only[X0,X3];have htl:(o++ay s.sigs[k]!.zone).length<=o.length+300:=by rw[XV,bE];omega
  refine aa Jl ?_;refine ae ?_;refine cd (fun c2=>?_) (fun c2=>?_)
  .
   have hj2:j<4:=by omega
   have e6:=Ry (a:=s.sigs[k]!.key) (b:=s.sigs[k]!.alg) (c:=s.sigs[k]!.frm) (d:=s.sigs[k]!.unt) hj2;have e7:=uZ ([s.sigs[k]!.key,s.sigs[k]!.alg,s.sigs[k]!.frm,s.sigs[k]!.unt][j]!);have e8:=Vu (a:=s.sigs[k]!.key) (b:=s.sigs[k]!.alg) (c:=s.sigs[k]!.frm) (d:=s.sigs[k]!.unt) hj2;have ff:=qB @e6 @e7 ff;refine dw_skip ?_;refine ae ?_;refine ah ?_;refine aa Jl ?_;refine aD Jl 3 (hct:=by exact sU T o2 (uN ([s.sigs[k]!.key,s.sigs[k]!.alg,s.sigs[k]!.frm,s.sigs[k]!.unt][j]!)) _ _ W (hG7.mono oW) (nK _) om) (hk:=?_)
   rintro res h8 n8 ⟨hst8,hG8⟩
   try dsimp only at hst8
   refine av Jl ?_;refine ai Jl ?_
   show ∃ _,_
   exact au (j+1,o2++ak ([s.sigs[k]!.key,s.sigs[k]!.alg,s.sigs[k]!.frm,s.sigs[k]!.unt][j]!),h8,_) (h1:=⟨iv,(by (try dsimp only);rw[<- ho2,e8,List.append_assoc]),(by (try dsimp only);rw[List.length_append,aX,hol2];omega),(by first|(exact hG8.mono (by omega))|(dsimp only;exact hG8.mono (by omega))),(by (try dsimp only);exact (hst7.trans (hst8.down oW)).up (by omega)),trivial⟩)
  obtain rfl:j=4:=by omega
  have ho3:o2=o++ay s.sigs[k]!.zone++[s.sigs[k]!.key,s.sigs[k]!.alg,s.sigs[k]!.frm,s.sigs[k]!.unt].flatMap ak:=by simpa using ho2
  refine aB ?_;refine aD Jl 3 (hct:=by exact (by have q9:=fun H9 n9 (hB9:BufG T H9 W n9 o2 0)=>sU T o2 (uN s.sigs[k]!.sum) H9 n9 W hB9 (nK _) (by omega);simp only[e3] at q9;exact q9 _ _ (hG7.mono oW))) (hk:=?_)
  rintro res h9 n9 ⟨hst9,hG9⟩
  try dsimp only at hst9
  refine av Jl ?_;refine ai Jl ?_
  show ∃ _,_
  exact au (k+1,o2++ak s.sigs[k]!.sum,h9,_) (h1:=⟨iv,(by (try dsimp only);rw[<- ho,nz hk2 eu,ho3];simp[eu]),(by (try dsimp only);rw[ho3];simp[eu] at e4 ⊢;omega),(by first|(exact hG9.mono (by omega))|(dsimp only;exact hG9.mono (by omega))),(by (try dsimp only);exact ((hst.trans hst5).trans (hst7.trans (hst9.down oW))).up (by omega)),trivial⟩)
 have hk3:k=s.sigs.length:=by omega
 subst hk3
 refine aB ?_
 exact aU (_) (hh:=fun _=>.inl rfl) (hr:=oS (k:=by rw[Zg,List.flatMap_nil,YC] at ho;rw[<- ho];exact⟨hst.up (by omega),hG.mono (by omega)⟩))
end Go.Proofs.YtjngdcldglkolaaGreatDoor
namespace Go.Proofs.YtjngdcldglkolaaGreatDoor
open Go.DL Go.Str Go.Rec Go.Cmp Go.Zon Go.Jn
set_option maxRecDepth 10000
variable [Glob Tryz.prog] [Told]
theorem BufG.new {T:TypeId}{h:H}{W nx:Nat}(hW:h W=some ⟨T,[[.list true [],.i 0,.v (.int .i8 0)]]⟩) (hn:W<nx):BufG T h W nx [] 0:=⟨hn,.inl ⟨rfl,0,hW⟩⟩
theorem tq {h:H}(l:Str):bZ (l.map ((fun row=>row.map (bN h 0)) ∘ bD))=l.map bD:=by
 induction l with
 | nil=>rfl
 | cons a l ih =>
  rw[Yb,Yb]
  show _::bZ _=_
  rw[ih];rfl
theorem tu {h:H}(l:Str):∀ a∈l,∀ c∈bD a,cu h 0 c:=by
 intro a _ c hc
 unfold bD at hc
 simp only[Yq] at hc
 subst hc
 rfl
theorem MI (z:Zon):0<(zonB z).length:=by simp[zonB,ay]
theorem VI (d:Dlt):0<(dltB d).length:=by simp[dltB,ay]
theorem wD {res:D}{l:Str}{h:H}{W:Nat}(hd:(l=[]/\res = .list true [])\/(l≠[] /\ ∃ r,res = .mrow r 0 l.length/\h r=some ⟨5,l.map bD⟩/\fJ h W=some r)) (hl:0<l.length):∃ r,res = .mrow r 0 l.length/\h r=some ⟨5,l.map bD⟩/\fJ h W=some r:=by
 rcases hd with⟨e,_⟩|⟨_,q⟩
 .
  subst e;simp at hl
 exact q
theorem GK {q:Qst}(h:Ef q):(je q).length<=300:=by
 have:=h.name
 simp[je,ay]
 omega
theorem Tk (z:Zon) (hz:Ea z) (hz2:z.sets.length<=20000):PureCt Tryz.prog 33 [.agg z.d] (.list false ((zonB z).map bD)):=by
 refine oO Tryz.func33 fun ff=>?_
 unfold Tryz.f33
 have hza:=hz.apex
 refine aa Jl ?_
 refine sH 1 0 ev ev (by simp[go_sem,aZ,D.nr,aS]) ?_
 refine aa Jl ?_
 refine ae (aD Jl 2 (hct:=by exact xw 123 [] z.apex _ _ 2 (BufG.new (by simp only[go_sem,ff];first|done|rfl) oW) om (by simp)) (hk:=?_))
 rintro res h2 n2 ⟨_,hG2⟩
 refine av Jl ?_
 refine ae (aD Jl 3 (hct:=by exact xy 123 _ z.sets.length _ _ 2 (hG2.mono oW) om (by simp only[XV,bF,aX,bE,YF];omega)) (hk:=?_))
 rintro res h3 n3 ⟨_,hG3⟩
 refine av Jl ?_
 refine ae ?_
 refine aa Jl ?_
 refine ah ?_
 refine dD (α:=(Nat)×(Str)×(H)×Nat) [3,14,15] (fun ⟨k,o,hq,nx⟩=>(k<=z.sets.length)/\(o++(z.sets.drop k).flatMap bP=zonB z)/\(o.length<=1000+k*80000)/\(BufG 123 hq 2 nx o 0)/\True) (fun ⟨k,o,hq,nx⟩=>z.sets.length-k) (fun ⟨k,o,hq,nx⟩=>[(16,.i k)]) (fun ⟨k,o,hq,nx⟩=>hq) (fun ⟨k,o,hq,nx⟩=>nx) (0,[]++ay z.apex++bg z.sets.length 4,h3,_) (hA:=⟨iv,(by first|(simp[zonB,dB])|(dsimp only;simp[zonB,dB])),(by (try dsimp only);simp only[List.length_append,bF,bE,List.length_nil];omega),(by first|(exact hG3.mono om)|(dsimp only;exact hG3.mono om)),trivial⟩) (round:=?_)
 rintro⟨k,o,hq,nx⟩ ⟨hk,ho,hol,hG, -⟩
 simp only[X0,X3]
 refine aa Jl ?_
 refine ae ?_
 refine cd (fun c1=>?_) (fun c1=>?_)
 .
  have hk2:k<z.sets.length:=by omega
  have hgz:=hz.sets _ (by rw[getElem!_pos z.sets k hk2];exact Yv hk2:z.sets[k]! ∈ z.sets)
  have hgl:=xV hgz;have ff:=qA (bJ hk2) ff;refine dw_skip ?_;refine ae ?_;refine ah ?_;refine aa Jl ?_;refine sH 5 (nx+3) ev ev (by simp[go_sem,aZ,D.nr,aS]) ?_
  simp only[kK];refine aD Jl 1 (hct:=by exact Ey 123 o z.sets[k]! _ _ 2 (hG.fresh (show nx<=nx+3 by omega) oW) hgz om) (hk:=?_)
  rintro res h5 n5 ⟨hst5,hG5⟩
  try dsimp only at hst5
  replace hst5:=(BStep.fresh (x:=none) hG.1 (show nx<=nx+3 by omega) (XY nx)).trans (hst5.down oW)
  refine av Jl ?_;refine ai Jl ?_
  show ∃ _,_
  exact au (k+1,o++bP z.sets[k]!,h5,_) (h1:=⟨iv,(by (try dsimp only);rw[<- ho,nz hk2 bP,List.append_assoc]),(by (try dsimp only);rw[List.length_append];omega),(by first|(exact hG5.mono (by omega))|(dsimp only;exact hG5.mono (by omega))),trivial⟩)
 have hk3:k=z.sets.length:=by omega
 subst hk3
 have hoz:o=zonB z:=by rw[Zg,List.flatMap_nil,YC] at ho;exact ho
 refine aB ?_
 refine ae (aD Jl 1 (hct:=by exact uK 123 (zonB z) _ _ 2 ((show BufG 123 hq 2 nx (zonB z) 0 by rw[<- hoz];exact hG).mono oW) (by rw[<- hoz];omega)) (hk:=?_))
 rintro res h9 n9 ⟨hd,_,_⟩
 obtain⟨r,rfl,hr,_⟩:=wD hd (by exact MI z)
 have ff:=qA @hr ff
 refine av Jl ?_
 exact fo 1 (k:=by first|rfl|(simp;done)|exact tq _|exact tu _)
theorem TB (d:Dlt) (hz:Eh d) (hz2:d.put.length<=20000) (hz3:d.drop.length<=20000):PureCt Tryz.prog 38 [.agg d.d] (.list false ((dltB d).map bD)):=by
 refine oO Tryz.func38 fun ff=>?_
 unfold Tryz.f38
 have hza:=hz.apex
 have e1:=uZ d.frm
 have e2:=uZ d.too
 have ff:=qB @e1 @e2 ff
 refine aa Jl ?_
 refine sH 1 0 ev ev (by simp[go_sem,aZ,D.nr,aS]) ?_
 refine aa Jl ?_
 refine ae (aD Jl 2 (hct:=by exact xw 123 [] d.apex _ _ 2 (BufG.new (by simp only[go_sem,ff];first|done|rfl) oW) om (by simp)) (hk:=?_))
 rintro res h2 n2 ⟨_,hG2⟩
 refine av Jl ?_
 refine ae (aD Jl 3 (hct:=by exact sU 123 _ (uN d.frm) _ _ 2 (hG2.mono oW) (nK _) (by simp only[XV,bF,aX,bE,YF];omega)) (hk:=?_))
 rintro res h3 n3 ⟨_,hG3⟩
 refine av Jl ?_
 refine ae (aD Jl 3 (hct:=by exact sU 123 _ (uN d.too) _ _ 2 (hG3.mono oW) (nK _) (by simp only[XV,bF,aX,bE,YF];omega)) (hk:=?_))
 rintro res h4 n4 ⟨_,hG4⟩
 refine av Jl ?_
 refine ae (aD Jl 3 (hct:=by exact xy 123 _ d.drop.length _ _ 2 (hG4.mono oW) om (by simp only[XV,bF,aX,bE,YF];omega)) (hk:=?_))
 rintro res h5 n5 ⟨_,hG5⟩
 refine av Jl ?_
 refine ae ?_
 refine aa Jl ?_
 refine ah ?_
 refine dD (α:=(Nat)×(Str)×(H)×Nat) [1,3,24,25] (fun ⟨k,o,hq,nx⟩=>(k<=d.drop.length)/\(o++(d.drop.drop k).flatMap je++dB d.put=dltB d)/\(o.length<=1000+k*300)/\(BufG 123 hq 2 nx o 0)/\True) (fun ⟨k,o,hq,nx⟩=>d.drop.length-k) (fun ⟨k,o,hq,nx⟩=>[(26,.i k)]) (fun ⟨k,o,hq,nx⟩=>hq) (fun ⟨k,o,hq,nx⟩=>nx) (0,[]++ay d.apex++bg (uN d.frm) 8++bg (uN d.too) 8++bg d.drop.length 4,h5,_) (hA:=⟨iv,(by (try dsimp only);rw[Am,Am];simp[dltB]),(by (try dsimp only);simp only[List.length_append,bF,bE,List.length_nil];omega),(by first|(exact hG5.mono (by omega))|(dsimp only;exact hG5.mono (by omega))),trivial⟩) (round:=?_)
 rintro⟨k,o,hq,nx⟩ ⟨hk,ho,hol,hG, -⟩
 simp only[X0,X3]
 refine aa Jl ?_
 refine ae ?_
 refine cd (fun c1=>?_) (fun c1=>?_)
 .
  have hk2:k<d.drop.length:=by omega
  have hgz:=hz.dropq _ (by rw[getElem!_pos d.drop k hk2];exact Yv hk2:d.drop[k]! ∈ d.drop)
  have hgn:=hgz.name;have hgl:=GK hgz;have e3:=uZ d.drop[k]!.ty;have ff:=qB (qz hk2) @e3 ff;refine dw_skip ?_;refine ae ?_;refine ah ?_;refine aa Jl ?_;refine sH 5 (nx+3) ev ev (by simp[go_sem,aZ,D.nr,aS]) ?_
  simp only[kK];refine ae (aD Jl 2 (hct:=by exact xw 123 o d.drop[k]!.name _ _ 2 (hG.fresh (show nx<=nx+3 by omega) oW) om om) (hk:=?_))
  rintro res h6 n6 ⟨_,hG6⟩;refine av Jl ?_;refine aD Jl 3 (hct:=by exact uI 123 _ (uN d.drop[k]!.ty) 1 _ _ 2 (hG6.mono oW) (nK _) (by omega) (by rw[XV,bE];omega)) (hk:=?_)
  rintro res h7 n7 ⟨_,hG7⟩;refine av Jl ?_;refine ai Jl ?_
  show ∃ _,_
  exact au (k+1,o++ay d.drop[k]!.name++bg (uN d.drop[k]!.ty) 1,h7,_) (h1:=⟨iv,(by (try dsimp only);rw[<- ho,nz hk2 je];simp[je,bg]),(by (try dsimp only);simp[je,bF,ay] at hgl ⊢;omega),(by first|(exact hG7.mono (by omega))|(dsimp only;exact hG7.mono (by omega))),trivial⟩)
 have hk3:k=d.drop.length:=by omega
 subst hk3
 refine aB ?_
 refine ae (aD Jl 3 (hct:=by exact xy 123 o d.put.length _ _ 2 (hG.mono oW) om om) (hk:=?_))
 rintro res h8 n8 ⟨_,hG8⟩
 refine av Jl ?_
 refine ae ?_
 refine aa Jl ?_
 refine ah ?_
 refine dD (α:=(Nat)×(Str)×(H)×Nat) [3,43,44] (fun ⟨k,o,hq,nx⟩=>(k<=d.put.length)/\(o++(d.put.drop k).flatMap bP=dltB d)/\(o.length<=10000000+k*80000)/\(BufG 123 hq 2 nx o 0)/\True) (fun ⟨k,o,hq,nx⟩=>d.put.length-k) (fun ⟨k,o,hq,nx⟩=>[(45,.i k)]) (fun ⟨k,o,hq,nx⟩=>hq) (fun ⟨k,o,hq,nx⟩=>nx) (0,o++bg d.put.length 4,h8,_) (hA:=⟨iv,(by (try dsimp only);rw[List.drop_length,List.flatMap_nil,List.append_nil] at ho;rw[<- ho];simp[dB]),(by (try dsimp only);rw[List.length_append,bF];omega),(by first|(exact hG8.mono (by omega))|(dsimp only;exact hG8.mono (by omega))),trivial⟩) (round:=?_)
 rintro⟨k,o,hq,nx⟩ ⟨hk,ho,hol,hG, -⟩
 simp only[X0,X3]
 refine aa Jl ?_
 refine ae ?_
 refine cd (fun c2=>?_) (fun c2=>?_)
 .
  have hk2:k<d.put.length:=by omega
  have hgz:=hz.puts _ (by rw[getElem!_pos d.put k hk2];exact Yv hk2:d.put[k]! ∈ d.put)
  have hgl:=xV hgz;have ff:=qA (bJ hk2) ff;refine dw_skip ?_;refine ae ?_;refine ah ?_;refine aa Jl ?_;refine sH 7 (nx+3) ev ev (by simp[go_sem,aZ,D.nr,aS]) ?_
  simp only[kK];refine aD Jl 1 (hct:=by exact Ey 123 o d.put[k]! _ _ 2 (hG.fresh (show nx<=nx+3 by omega) oW) hgz om) (hk:=?_)
  rintro res h5 n5 ⟨hst5,hG5⟩
  try dsimp only at hst5
  replace hst5:=(BStep.fresh (x:=none) hG.1 (show nx<=nx+3 by omega) (XY nx)).trans (hst5.down oW)
  refine av Jl ?_;refine ai Jl ?_
  show ∃ _,_
  exact au (k+1,o++bP d.put[k]!,h5,_) (h1:=⟨iv,(by (try dsimp only);rw[<- ho,nz hk2 bP,List.append_assoc]),(by (try dsimp only);rw[List.length_append];omega),(by first|(exact hG5.mono (by omega))|(dsimp only;exact hG5.mono (by omega))),trivial⟩)
 have hk3:k=d.put.length:=by omega
 subst hk3
 have hoz:o=dltB d:=by rw[Zg,List.flatMap_nil,YC] at ho;exact ho
 refine aB ?_
 refine ae (aD Jl 1 (hct:=by exact uK 123 (dltB d) _ _ 2 ((show BufG 123 hq 2 nx (dltB d) 0 by rw[<- hoz];exact hG).mono oW) (by rw[<- hoz];omega)) (hk:=?_))
 rintro res h9 n9 ⟨hd,_,_⟩
 obtain⟨r,rfl,hr,_⟩:=wD hd (by exact VI d)
 have ff:=qA @hr ff
 refine av Jl ?_
 exact fo 1 (k:=by first|rfl|(simp;done)|exact tq _|exact tu _)
theorem Jj (k:UInt8) (w:Str) (hw:w.length<=4000000000):PureCt Tryz.prog 32 [.v (.int .u8 ((k).toNat:Int)),.list false (w.map bD)] (.list false ((frmB k w).map bD)):=by
 refine oO Tryz.func32 fun ff=>?_
 unfold Tryz.f32
 refine oC Jl ?_
 refine ae (aD Jl 2 (hct:=by exact EE 123 [] k _ _ 1 (BufG.new (by simp only[go_sem,ff];first|done|rfl) oW) (by simp)) (hk:=?_))
 rintro res h2 n2 ⟨rfl,_,hG2⟩
 refine av Jl ?_
 refine ae (aD Jl 2 (hct:=by exact xy 123 _ w.length _ _ 1 (hG2.mono oW) om (by simp)) (hk:=?_))
 rintro res h3 n3 ⟨_,hG3⟩
 have hG3:BufG 123 h3 1 n3 (fZ k w.length) 0:=hG3
 have hhl:(fZ k w.length).length=5:=by simp[fZ,bF]
 refine av Jl ?_
 refine bq ?_
 refine iZ (C:=Jl) 1 (R:=_) om (bC rfl) rfl rfl (by simp only[X8,X7,X4,Yf,S.put,Yr,Nat.reduceSub,go_sem,ff];first|done|exact rfl) ?_ ?_ ev (by simp only[go_sem,ff]) ev (by exact uK 123 (fZ k w.length) _ _ 1 (hG3.mono oW) om) ?_
 .
  try simp only[go_sem,ff]
  all_goals (exact ok0)
 .
  try simp only[go_sem,ff]
  all_goals (first|done|rfl|decide|simp)
 rintro res h4 n4 ⟨hd,_,hG4⟩
 obtain⟨r4,rfl,hr4,_⟩:=wD hd om
 have ff:=qA hr4 ff
 refine iZ (C:=Jl) 3 (R:=_) om (bC rfl) rfl rfl (by simp only[X8,X7,X4,Yf,S.put,Yr,Nat.reduceSub,go_sem,ff];first|done|exact rfl) ?_ ?_ ev (by simp only[go_sem,ff]) ev (by exact sU 123 _ (dig (fZ k w.length)) _ _ 1 (hG4.mono oW) (uD _) om) ?_
 .
  try simp only[go_sem,ff]
  all_goals (first|exact ok0|exact zo _ om)
 .
  try simp only[go_sem,ff]
  all_goals (first|done|rfl|decide|simp)
 rintro res h5 n5 ⟨_,hG5⟩
 refine aO Jl ?_
 try simp only[aG]
 refine ae (aD Jl 2 (hct:=by exact uV 123 _ w _ _ 1 (hG5.mono oW) (by rw[XV,bF];omega)) (hk:=?_))
 rintro res h6 n6 ⟨rfl,_,hG6⟩
 refine av Jl ?_
 refine ae (aD Jl 2 (hok:=by (try simp only[go_sem,ff]);all_goals (first|exact ok0|exact zo _ (by omega))) (hct:=by exact sU 123 _ (dig w) _ _ 1 (hG6.mono oW) (uD _) (by rw[XV,XV,bF];omega)) (hk:=?_))
 rintro res h7 n7 ⟨_,hG7⟩
 have hG7:BufG 123 h7 1 n7 (frmB k w) 0:=hG7
 refine av Jl ?_
 refine ae (aD Jl 1 (hct:=by exact uK 123 (frmB k w) _ _ 1 (hG7.mono oW) (by rw[zJ];omega)) (hk:=?_))
 rintro res h9 n9 ⟨hd,_,_⟩
 obtain⟨r,rfl,hr,_⟩:=wD hd (by rw[zJ];omega)
 have ff:=qA @hr ff
 refine av Jl ?_
 exact fo 1 (k:=by first|rfl|(simp;done)|exact tq _|exact tu _)
end Go.Proofs.YtjngdcldglkolaaGreatDoor
namespace Go.Proofs.YtjngdcldglkolaaGreatDoor
open Go.DL Go.Str Go.Rec Go.Cmp Go.Zon Go.Jn
set_option maxRecDepth 10000
variable [Glob Tryz.prog] [Told]
theorem vN {l:List Str}{p:Str}:(l++[p]).map byR=l.map byR++[[.list false (p.map bD)]]:=by simp[byR]
theorem vP {d:Dsk}{o:Opn}(h:openF d=some o):opnOf d=o:=by unfold opnOf;rw[h];rfl
theorem vQ {d:Dsk}(h:openF d=none):opnOf d=opn0:=by unfold opnOf;rw[h];rfl
theorem qm {d:Dsk}{o:Opn}(hd:DskSz d) (h:openF d=some o):PureCt Tryz.prog 36 [.agg d.d] (.tuple [.agg o.d,.b true]):=by
 have:=Jd d hd
 rwa [vP h,h] at this
theorem qo {d:Dsk}(hd:DskSz d) (h:openF d=none):PureCt Tryz.prog 36 [.agg d.d] (.tuple [.agg opn0.d,.b false]):=by
 have:=Jd d hd
 rwa [vQ h,h] at this
theorem TA (w:Str) (hw:w.length<=4000000000):PureCt Tryz.prog 32 [.v (.int .u8 1),.list false (w.map bD)] (.list false ((frmB 1 w).map bD)):=Jj 1 w hw
theorem Tz (w:Str) (hw:w.length<=4000000000):PureCt Tryz.prog 32 [.v (.int .u8 2),.list false (w.map bD)] (.list false ((frmB 2 w).map bD)):=Jj 2 w hw
theorem V5 {z:Zon}{d:Dlt}{x:Zon}{e:Int}(hp:dX d.put) (h:applyP z d=(x,e)):PureCt Tryz.prog 27 [.agg z.d,.agg d.d] (.tuple [.agg x.d,.i e]):=by
 have:=Dx z d hp
 rwa [h] at this
theorem bo94:bV Tryz.prog 94=true:=by kernel_rfl
theorem KU (d:Dlt):PureCt Tryz.prog 94 [.agg d.d,.agg d.d] (.tuple [.agg (joinP d d).1.d,.i (joinP d d).2]):=by
 refine G8 Tryz.func94 rfl bo94 (by simp[go_sem,D.nr,aZ,aS]) (by simp[Tryz.f94]) ?_
 unfold Tryz.f94
 simp only[TY]
 have ff:=True.intro
 refine aa Jl ?_
 refine ae ?_
 rcases hd:dltOk d with _|_
 .
  have hj:=Jf hd;have ff:=qB @hj @hd ff;refine aa Jl ?_ (hok:=by (try simp only[go_sem,ff]);all_goals (first|done|((repeat' (with_reducible apply And.intro))<;>first|(have q9:=uC d;rw[hd] at q9;exact q9)|(intros;have q9:=uC d;rw[hd] at q9;exact q9)|skip)))
  refine cd (fun c1=>?_) (fun c1=>?_) (hp:=rfl) (hq:=rfl)
  .
   refine aa Jl ?_;refine aI ?_;exact fin 3 (hr:=by (try simp only[go_sem,ff]);all_goals (first|rfl|(simp;done)))
  .
   simp at c1
 .
  have hj:=Je hd;have hdi:=dlt_iff.1 hd;have hne:(d.too != d.frm)=true:=by simpa using Ma hdi.bef hdi.too
  have ff:=qD @hj @hd @hne ff;refine aa Jl ?_ (hok:=by (try simp only[go_sem,ff]);all_goals (first|done|((repeat' (with_reducible apply And.intro))<;>first|(have q9:=uC d;rw[hd] at q9;exact q9)|(intros;have q9:=uC d;rw[hd] at q9;exact q9)|skip)))
  refine cd (fun c1=>?_) (fun c1=>?_) (hp:=rfl) (hq:=rfl)
  .
   simp at c1
  .
   refine dw_skip ?_
   show DW _ _ _ _ _
   refine ae ?_;refine aa Jl ?_ (hok:=by (try simp only[go_sem,ff]);all_goals (first|done|(simp;done)|(repeat' (with_reducible apply And.intro))<;>first|(intro h;simp at h;done)|(simp;done)))
   refine cd (fun c2=>?_) (fun c2=>?_) (hp:=rfl) (hq:=rfl)
   .
    refine aa Jl ?_;refine aI ?_;exact fin 3 (hr:=by (try simp only[go_sem,ff]);all_goals (first|rfl|(simp;done)))
   .
    simp at c2
theorem Ji (d:Dlt) (hp:dX d.put):PureCt Tryz.prog 37 [.agg d.d] (.b (dltOk d)):=by
 refine oO Tryz.func37 fun ff=>?_
 unfold Tryz.f37
 refine aa Jl ?_
 rcases hd:dltOk d with _|_
 .
  have hj:=Jf hd;have ff:=qB @hj @hd ff;refine aa Jl ?_ (hok:=oV (KU d));refine aa Jl ?_;exact fp 0
 have hj:=Je hd
 have ff:=qB @hj @hd ff
 refine aa Jl ?_ (hok:=oV (KU d))
 refine aa Jl ?_
 exact fp 0
theorem CJ (w:Str) (hw:w.length<=1000000000):PureCt Tryz.prog 39 [.list false (w.map bD)] (.list false (w.map bD)):=by
 refine oO Tryz.func39 fun ff=>?_
 unfold Tryz.f39
 refine aa Jl ?_
 refine ae ?_
 refine ae (uA ?_)
 refine xY (C:=Jl) 1 (e:=5) om (bC rfl) rfl rfl (by kernel_rfl) (by simp only[X8,X7,X4,Yf,S.put,Yr,go_sem,ff];exact rfl) ?_ (by rfl) ev (fun y hy=>?_)
 .
  try simp only[go_sem,ff]
  all_goals (first|done|(repeat' (with_reducible apply And.intro))<;>first|omega|(with_reducible assumption)|(intros;omega)|(intros;simp only[XX,X9,Yd,XW,Yj,Ye,Yw] at *;omega)|(simp_all;done)|(simp_all;omega))
 refine tJ (C:=Jl) (by first|decide|simp) (by simp only[X8,X7,X4,Yf,S.put,Yr,go_sem,ff];exact rfl) ?_ rfl ?_
 .
  try simp only[go_sem,ff]
  all_goals (first|done|(repeat' (with_reducible apply And.intro))<;>first|omega|(with_reducible assumption)|(intros;omega)|(intros;simp only[XX,X9,Yd,XW,Yj,Ye,Yw] at *;omega)|(simp_all;done)|(simp_all;omega))
 try simp only[aG]
 refine cd (fun c1=>?_) (fun c1=>?_) (hp:=rfl) (hq:=rfl)
 .
  have hn:w=[]:=List.map_eq_nil_iff.1 (hy c1);subst hn;refine aa Jl ?_;exact fp 1
 refine dw_skip ?_
 refine aa Jl ?_
 exact fp 1
theorem CB (a:Str) (l:List Str) (b:Str) (ha:a.length<=1000000000) (hb:b.length<=1000000000) (hl:(catB l).length<=1000000000) (hl2:l.length<=1000000):PureCt Tryz.prog 44 [.list false (a.map bD),.list false (l.map byR),.list false (b.map bD)] (.list false ((a++catB l++b).map bD)):=by
 refine oO Tryz.func44 fun ff=>?_
 unfold Tryz.f44
 refine oC Jl ?_
 refine ae (aD Jl 2 (hct:=by exact uV 123 [] a _ _ 1 (BufG.new (by simp only[go_sem,ff];first|done|rfl) oW) (by simp;omega)) (hk:=?_))
 rintro res h2 n2 ⟨rfl,_,hG2⟩
 refine av Jl ?_
 refine ae ?_
 refine aa Jl ?_
 refine ah ?_
 refine dD (α:=(Nat)×(Str)×(H)×Nat) [2,7,13,14] (fun ⟨k,o,hq,nx⟩=>(k<=l.length)/\(o=a++catB (l.take k))/\(o.length<=2000000000)/\(BufG 123 hq 1 nx o 0)/\True) (fun ⟨k,o,hq,nx⟩=>l.length-k) (fun ⟨k,o,hq,nx⟩=>[(15,.i k)]) (fun ⟨k,o,hq,nx⟩=>hq) (fun ⟨k,o,hq,nx⟩=>nx) (0,a,h2,_) (hA:=⟨iv,(by first|(simp[catB])|(dsimp only;simp[catB])),(by first|(omega)|(dsimp only;omega)),(by first|(exact hG2.mono om)|(dsimp only;exact hG2.mono om)),trivial⟩) (round:=?_)
 rintro⟨k,o,hq,nx⟩ ⟨hk,ho,hol,hG, -⟩
 simp only[X0,X3]
 refine aa Jl ?_
 refine ae ?_
 refine cd (fun c1=>?_) (fun c1=>?_)
 .
  have hk2:k<l.length:=by omega
  have hct:=wU hk2;have hcl:=o6 (l:=l) (k+1);have hcs:=o5 hk2;have ff:=qA (jN hk2) ff;refine dw_skip ?_;refine ae ?_;refine ah ?_;refine aa Jl ?_;refine aD Jl 2 (hct:=by exact uV 123 o l[k]! _ _ 1 (hG.mono oW) om) (hk:=?_)
  rintro res h5 n5 ⟨rfl,_,hG5⟩;refine av Jl ?_;refine ai Jl ?_
  show ∃ _,_
  exact au (k+1,o++l[k]!,h5,_) (h1:=⟨iv,(by (try dsimp only);rw[ho,hct,List.append_assoc]),(by (try dsimp only);rw[ho,List.append_assoc,<- hct,List.length_append];omega),(by first|(exact hG5.mono (by omega))|(dsimp only;exact hG5.mono (by omega))),trivial⟩)
 have hk3:k=l.length:=by omega
 subst hk3
 rw[YG] at ho
 refine aB ?_
 refine ae (aD Jl 2 (hct:=by exact uV 123 o b _ _ 1 (hG.mono oW) om) (hk:=?_))
 rintro res h6 n6 ⟨rfl,_,hG6⟩
 have hG6:BufG 123 h6 1 n6 (a++catB l++b) 0:=by rw[<- ho];exact hG6
 refine av Jl ?_
 by_cases hne:a++catB l++b=[]
 .
  refine ae (aD Jl 1 (hct:=by exact uK 123 (a++catB l++b) _ _ 1 (hG6.mono oW) (by rw[XV,XV];omega)) (hk:=?_))
  rintro res h9 n9 ⟨hd,_,_⟩;obtain rfl:res = .list true []:=by rcases hd with⟨_,e⟩|⟨e,_⟩;exact e;exact absurd hne e
  refine av Jl ?_;exact fo 1 (k:=by first|(rw[hne];rfl)|rfl|(simp;done))
 refine ae (aD Jl 1 (hct:=by exact uK 123 (a++catB l++b) _ _ 1 (hG6.mono oW) (by rw[XV,XV];omega)) (hk:=?_))
 rintro res h9 n9 ⟨hd,_,_⟩
 obtain⟨r,rfl,hr,_⟩:=wD hd (Zr.2 hne)
 have ff:=qA @hr ff
 refine av Jl ?_
 exact fo 1 (k:=by first|rfl|(simp;done)|exact tq _|exact tu _)
theorem CE {a:Str}{l:List Str}(ha:a.length<=1000000000) (hl:(catB l).length<=1000000000) (hl2:l.length<=1000000):PureCt Tryz.prog 44 [.list false (a.map bD),.list false (l.map byR),.list false []] (.list false ((a++catB l).map bD)):=by
 have q:=CB a l [] ha (by simp) hl hl2
 rw[YC] at q
 exact q
theorem Jm (z:Zon) (hu:SumZ z):PureCt Tryz.prog 13 [.agg z.d] (.tuple [.agg (beginF z).1.d,.i (beginF z).2]):=by
 refine oO Tryz.func13 fun ff=>?_
 unfold Tryz.f13
 have ff:=qA (show UInt8.ofNat 1=1 from rfl) ff
 refine aa Jl ?_
 refine oK Jl (fun c1=>?_) (fun c1=>?_) (hok:=oF (Aw z))
 .
  refine aa Jl ?_;exact fo 4 (k:=by rw[beginF,if_pos (by grind)];first|rfl|(simp;done))
 have hz:zoneOk z=true:=by grind
 have hzl:=(kJ hz).len
 have hzs:=En hz
 refine aa Jl ?_ (hok:=oI (Tk z (Em hz hu) om) (TA (zonB z) om))
 refine oK Jl (fun c2=>?_) (fun c2=>?_)
 .
  refine aa Jl ?_;exact fo 4 (k:=by rw[beginF,if_neg (by grind),if_pos (by omega)];first|rfl|(simp;done))
 refine aa Jl ?_
 exact fo 4 (k:=by rw[beginF,if_neg (by grind),if_neg (by omega)];first|rfl|(simp;done))
theorem uq (d:Dsk) (hd:DskSz d):PureCt Tryz.prog 22 [.agg d.d] (.tuple [.agg (loadF d).1.d,.i (loadF d).2]):=by
 refine oO Tryz.func22 fun ff=>?_
 unfold Tryz.f22
 refine aa Jl ?_
 rcases ho:openF d with _|o
 .
  have hoo:=vQ ho;have ff:=qB @ho @hoo ff;refine aa Jl ?_ (hok:=by (try simp only[go_sem,ff]);all_goals (first|exact qo hd ho|exact qm hd ho))
  refine ae ?_;refine aa Jl ?_;refine cd (fun c1=>?_) (fun c1=>?_) (hp:=rfl) (hq:=rfl)
  .
   refine aa Jl ?_;exact fo 3 (k:=by simp only[loadF,ho];first|rfl|(simp;done))
  simp at c1
 have hoo:=vP ho
 have ff:=qB @ho @hoo ff
 refine aa Jl ?_ (hok:=by (try simp only[go_sem,ff]);all_goals (first|exact qo hd ho|exact qm hd ho))
 refine oK Jl (fun c1=>?_) (fun c1=>?_) (hp:=rfl) (hq:=rfl)
 .
  simp at c1
 refine ae ?_
 rcases hsv:o.saved with _|y
 .
  have ff:=qA @hsv ff;refine aa Jl ?_;refine cd (fun c2=>?_) (fun c2=>?_) (hp:=rfl) (hq:=rfl)
  .
   refine aa Jl ?_;exact fo 3 (k:=by first|(simp only[loadF,ho,hsv];done)|(simp only[loadF,ho,hsv];first|rfl|(simp;done)))
  simp at c2
 have ff:=qA @hsv ff
 refine aa Jl ?_
 refine cd (fun c2=>?_) (fun c2=>?_) (hp:=rfl) (hq:=rfl)
 .
  simp at c2
 refine dw_skip ?_
 refine aa Jl ?_
 exact fo 3 (k:=by first|(simp only[loadF,ho,hsv];done)|(simp only[loadF,ho,hsv];first|rfl|(simp;done)))
theorem CF (d:Dsk) (hd:DskSz d):PureCt Tryz.prog 18 [.agg d.d] (.tuple [.agg (syncF d).1.d,.i (syncF d).2]):=by
 refine oO Tryz.func18 fun ff=>?_
 unfold Tryz.f18
 refine aa Jl ?_
 rcases ho:openF d with _|o
 .
  have hoo:=vQ ho;have ff:=qB @ho @hoo ff;refine aa Jl ?_ (hok:=by (try simp only[go_sem,ff]);all_goals (first|exact qo hd ho|exact qm hd ho))
  refine ae ?_;refine aa Jl ?_;refine cd (fun c1=>?_) (fun c1=>?_) (hp:=rfl) (hq:=rfl)
  .
   refine aa Jl ?_;exact fo 3 (k:=by simp only[syncF,ho];first|rfl|(simp;done))
  simp at c1
 have hoo:=vP ho
 have ff:=qB @ho @hoo ff
 refine aa Jl ?_ (hok:=by (try simp only[go_sem,ff]);all_goals (first|exact qo hd ho|exact qm hd ho))
 refine oK Jl (fun c1=>?_) (fun c1=>?_) (hp:=rfl) (hq:=rfl)
 .
  simp at c1
 have hos:=lI ho
 have hcs0:=wT hd d.pend.length hos.2.1
 rw[YG] at hcs0
 have hple:=qa d.safe
 have hsz0:=hos.2.2.2.1
 have hwh:=hos.2.2.1
 refine oK Jl (fun c2=>?_) (fun c2=>?_)
 .
  refine aa Jl ?_;exact fo 3 (k:=by simp only[syncF,ho];rw[X6 (by omega)];first|rfl|(simp;done))
 refine aa Jl ?_ (hok:=by (try simp only[go_sem,ff]);all_goals (exact CE (by rw[hwh];omega) (by omega) (by omega)))
 exact fo 3 (k:=by simp only[syncF,ho];rw[XZ (by omega)];first|rfl|(simp;done))
end Go.Proofs.YtjngdcldglkolaaGreatDoor
namespace Go.Proofs.YtjngdcldglkolaaGreatDoor
open Go.DL Go.Str Go.Rec Go.Cmp Go.Zon Go.Jn
set_option maxRecDepth 10000
variable [Glob Tryz.prog] [Told]
theorem Jk (d:Dsk) (n:Int) (c:Int) (hd:DskSz d):PureCt Tryz.prog 20 [.agg d.d,.i n,.i c] (.tuple [.agg (crashF d n c).1.d,.i (crashF d n c).2]):=by
 refine oO Tryz.func20 fun ff=>?_
 unfold Tryz.f20
 refine aa Jl ?_
 rcases ho:openF d with _|o
 .
  have hoo:=vQ ho;have ff:=qB @ho @hoo ff;refine aa Jl ?_ (hok:=by (try simp only[go_sem,ff]);all_goals (first|exact qo hd ho|exact qm hd ho))
  refine ae ?_;refine aa Jl ?_;refine cd (fun c1=>?_) (fun c1=>?_) (hq:=rfl)
  .
   refine aa Jl ?_;exact fo 3 (k:=by simp only[crashF,ho];first|rfl|(simp;done))
  simp at c1
 have hoo:=vP ho
 have ff:=qB @ho @hoo ff
 refine aa Jl ?_ (hok:=by (try simp only[go_sem,ff]);all_goals (first|exact qo hd ho|exact qm hd ho))
 refine oK Jl (fun c1=>?_) (fun c1=>?_)
 .
  refine aa Jl ?_;exact fo 3 (k:=by simp only[crashF,ho];rw[X6 (by omega)];first|rfl|(simp;done))
 have hos:=lI ho
 have hcs0:=wT hd d.pend.length hos.2.1
 rw[YG] at hcs0
 have hple:=qa d.safe
 have hsz0:=hos.2.2.2.1
 have hwh:=hos.2.2.1
 have hwl:o.whole.length<=1000000:=by rw[hwh];omega
 obtain⟨L,hL⟩:∃ L,L=d.pend.take n.toNat:=⟨_,rfl⟩
 have hLl:L.length<=200:=by rw[hL,Yu];omega
 have hcL:(catB L).length<=200000000:=by rw[hL];exact wT hd n.toNat hos.2.1
 have hmt:(d.pend.map byR).take n.toNat=L.map byR:=by rw[hL];exact ZQ.symm
 have hLn:L.length=n.toNat:=by rw[hL,Yu];omega
 refine aa Jl ?_
 refine oK Jl (fun c2=>?_) (fun c2=>?_)
 .
  have hk0:n.toNat<d.pend.length:=by omega
  have hbr:gX d n=d.pend[n.toNat]! := by unfold gX;rw[X6 (by omega)]
  have hpl:=hd.at hk0;have hbt:(d.pend[n.toNat]!.map bD).take c.toNat=(d.pend[n.toNat]!.take c.toNat).map bD:=ZQ.symm;have ff:=qD (jN hk0) @hmt @hbt ff;refine ai Jl ?_;refine oK Jl (fun c3=>?_) (fun c3=>?_)
  .
   refine aa Jl ?_;exact fo 3 (k:=by simp only[crashF,ho];rw[XZ (by omega),X6 (by rw[hbr];(try simp only[YF]);omega)];first|rfl|(simp;done))
  have htl:(jC o d n c).length=o.whole.length+(catB L).length+c.toNat:=by unfold jC;rw[hbr,<- hL,XV,XV,Yu];(try simp only[YF]);omega
  refine aa Jl ?_;refine ae ?_;refine aa Jl ?_;refine ah ?_;refine lp (α:=(Nat)×(Int)×Nat) [1,2,3,6,8,10,60,61] (fun ⟨k,s,nx⟩=>(k<=L.length)/\(s=(o.whole.length:Int)+c+(((catB (L.take k)).length:Nat):Int))/\(8<nx)/\True) (fun ⟨k,s,nx⟩=>L.length-k) (fun ⟨k,s,nx⟩=>[(11,.i s),(62,.i k)]) (fun ⟨k,s,nx⟩=>[(0,⟨25,[d.d]⟩),(1,⟨25,[[.list true [],.list true []]]⟩),(8,⟨72,[o.d]⟩)]) (fun ⟨k,s,nx⟩=>nx) (0,(o.whole.length:Int)+c,_) (hA:=⟨(by first|(omega)|(dsimp only;omega)),(by first|(simp[catB])|(dsimp only;simp[catB])),(by first|(omega)|(dsimp only;omega)),trivial⟩) (round:=?_)
  rintro⟨k,s,nx⟩ ⟨hk,hs,hx, -⟩;simp only[X0,X3];have n0:0<nx:=by omega
  have n1:1<nx:=by omega
  have ff:=qD @hx @n0 @n1 ff;refine aa Jl ?_;refine ae ?_;refine cd (fun c4=>?_) (fun c4=>?_)
  .
   have hk2:k<L.length:=by omega
   have hcs:=o5 hk2;have hcl:=o6 (l:=L) (k+1);have ff:=qA (jN hk2) ff;refine dw_skip ?_;refine ae ?_;refine ah ?_;refine aa Jl ?_;refine ai Jl ?_;refine ai Jl ?_
   show ∃ _,_
   exact au (k+1,s+L[k]!.length,_) (h1:=⟨(by first|(omega)|(dsimp only;omega)),(by (try dsimp only);rw[hs,hcs];push_cast;omega),(by first|(omega)|(dsimp only;omega)),trivial⟩)
  have hk3:k=L.length:=by omega
  subst hk3;rw[YG] at hs;refine aB ?_;refine oK Jl (fun c5=>?_) (fun c5=>?_)
  .
   refine aa Jl ?_;exact fo 3 (k:=by simp only[crashF,ho];rw[XZ (by omega),XZ (by rw[hbr];(try simp only[YF]);omega),X6 (by rw[htl];omega)];first|rfl|(simp;done))
  refine aa JlF ?_ (hok:=oI (CB o.whole L (d.pend[n.toNat]!.take c.toNat) (by omega) (by rw[Yu];omega) (by omega) (by omega)) (CE (a:=o.whole) (l:=L) (by omega) (by omega) (by omega)))
  exact fo 3 (k:=by simp only[crashF,ho];rw[XZ (by omega),XZ (by rw[hbr];(try simp only[YF]);omega),XZ (by rw[htl];omega)];simp only[jC,hbr,<- hL];first|rfl|(simp;done))
 have hbr:gX d n=[]:=by unfold gX;rw[XZ (by omega)]
 have ff:=qA @hmt ff
 refine oK Jl (fun c3=>?_) (fun c3=>?_)
 .
  refine aa Jl ?_;exact fo 3 (k:=by simp only[crashF,ho];rw[XZ (by omega),X6 (by rw[hbr];(try simp only[YF]);omega)];first|rfl|(simp;done))
 have htl:(jC o d n c).length=o.whole.length+(catB L).length+c.toNat:=by unfold jC;rw[hbr,<- hL,XV,XV,Yu];(try simp only[YF]);omega
 refine aa Jl ?_
 refine ae ?_
 refine aa Jl ?_
 refine ah ?_
 refine lp (α:=(Nat)×(Int)×Nat) [1,2,3,6,8,10,60,61] (fun ⟨k,s,nx⟩=>(k<=L.length)/\(s=(o.whole.length:Int)+c+(((catB (L.take k)).length:Nat):Int))/\(8<nx)/\True) (fun ⟨k,s,nx⟩=>L.length-k) (fun ⟨k,s,nx⟩=>[(11,.i s),(62,.i k)]) (fun ⟨k,s,nx⟩=>[(0,⟨25,[d.d]⟩),(1,⟨25,[[.list true [],.list true []]]⟩),(8,⟨72,[o.d]⟩)]) (fun ⟨k,s,nx⟩=>nx) (0,(o.whole.length:Int)+c,_) (hA:=⟨(by first|(omega)|(dsimp only;omega)),(by first|(simp[catB])|(dsimp only;simp[catB])),(by first|(omega)|(dsimp only;omega)),trivial⟩) (round:=?_)
 rintro⟨k,s,nx⟩ ⟨hk,hs,hx, -⟩
 simp only[X0,X3]
 have n0:0<nx:=by omega
 have n1:1<nx:=by omega
 have ff:=qD @hx @n0 @n1 ff
 refine aa Jl ?_
 refine ae ?_
 refine cd (fun c4=>?_) (fun c4=>?_)
 .
  have hk2:k<L.length:=by omega
  have hcs:=o5 hk2;have hcl:=o6 (l:=L) (k+1);have ff:=qA (jN hk2) ff;refine dw_skip ?_;refine ae ?_;refine ah ?_;refine aa Jl ?_;refine ai Jl ?_;refine ai Jl ?_
  show ∃ _,_
  exact au (k+1,s+L[k]!.length,_) (h1:=⟨(by first|(omega)|(dsimp only;omega)),(by (try dsimp only);rw[hs,hcs];push_cast;omega),(by first|(omega)|(dsimp only;omega)),trivial⟩)
 have hk3:k=L.length:=by omega
 subst hk3
 rw[YG] at hs
 refine aB ?_
 refine oK Jl (fun c5=>?_) (fun c5=>?_)
 .
  refine aa Jl ?_;exact fo 3 (k:=by simp only[crashF,ho];rw[XZ (by omega),XZ (by rw[hbr];(try simp only[YF]);omega),X6 (by rw[htl];omega)];first|rfl|(simp;done))
 refine aa JlF ?_ (hok:=oI (CB o.whole L (d.pend[n.toNat]!.take c.toNat) (by omega) (by rw[Yu];omega) (by omega) (by omega)) (CE (a:=o.whole) (l:=L) (by omega) (by omega) (by omega)))
 exact fo 3 (k:=by simp only[crashF,ho];rw[XZ (by omega),XZ (by rw[hbr];(try simp only[YF]);omega),XZ (by rw[htl];omega)];simp only[jC,hbr,<- hL];first|rfl|(simp;done))
theorem CK (d:Dsk) (x:Dlt) (hd:DskSz d) (hp:dX x.put) (hu:SumD x):PureCt Tryz.prog 16 [.agg d.d,.agg x.d] (.tuple [.agg (appendF d x).1.d,.i (appendF d x).2]):=by
 refine oO Tryz.func16 fun ff=>?_
 unfold Tryz.f16
 have ff:=qA (show UInt8.ofNat 2=2 from rfl) ff
 refine aa Jl ?_
 rcases ho:openF d with _|o
 .
  have hoo:=vQ ho;have ff:=qB @ho @hoo ff;refine aa Jl ?_ (hok:=by (try simp only[go_sem,ff]);all_goals (first|exact qo hd ho|exact qm hd ho))
  refine ae ?_;refine aa Jl ?_ (hok:=oH (Ji x hp));refine cd (fun c1=>?_) (fun c1=>?_) (hq:=rfl)
  .
   refine aa Jl ?_;exact fo 4 (k:=by simp only[appendF,ho];first|rfl|(simp;done))
  simp at c1
 have hoo:=vP ho
 have ff:=qB @ho @hoo ff
 refine aa Jl ?_ (hok:=by (try simp only[go_sem,ff]);all_goals (first|exact qo hd ho|exact qm hd ho))
 refine oK Jl (fun c1=>?_) (fun c1=>?_) (hok:=oH (Ji x hp))
 .
  have hnf:dltOk x=false:=by simpa using c1
  refine aa Jl ?_;exact fo 4 (k:=by simp only[appendF,ho];rw[X6 hnf];first|rfl|(simp;done))
 have hdx:dltOk x=true:=by simpa using c1
 have hdk:=dlt_iff.1 hdx
 have hos:=lI ho
 have hcs0:=wT hd d.pend.length hos.2.1
 rw[YG] at hcs0
 have hple:=qa d.safe
 have hsz0:=hos.2.2.2.1
 have hwh:=hos.2.2.1
 have hwl:o.whole.length<=1000000:=by rw[hwh];omega
 refine ae ?_
 rcases hsv:o.all with _|y
 .
  have ff:=qA @hsv ff;refine aa Jl ?_;refine cd (fun c2=>?_) (fun c2=>?_) (hp:=rfl) (hq:=rfl)
  .
   refine aa Jl ?_;exact fo 4 (k:=by rw[Mi ho hsv,hdx];first|rfl|(simp;done))
  simp at c2
 have ff:=qA @hsv ff
 refine aa Jl ?_
 refine cd (fun c2=>?_) (fun c2=>?_) (hp:=rfl) (hq:=rfl)
 .
  simp at c2
 refine dw_skip ?_
 refine ae ?_
 rcases hA:applyP y x with⟨z,e⟩
 have ff:=qA @hA ff
 refine aa Jl ?_ (hok:=oF (V5 hp hA))
 refine aa Jl ?_
 refine cd (fun c3=>?_) (fun c3=>?_)
 .
  refine aa Jl ?_;exact fo 4 (k:=by rw[Mh ho hsv (by rw[hA];exact c3),hA,hdx];first|rfl|(simp;done))
 obtain rfl:e=0:=by omega
 have hxs:=KS hA hu
 have hxl:=KT hA
 have hpl2:=hdk.plen
 have hdl2:=hdk.dlen
 have hfl:=zJ 2 (dltB x)
 refine dw_skip ?_
 refine oK Jl (fun c4=>?_) (fun c4=>?_)
 .
  refine aa Jl ?_;exact fo 4 (k:=by rw[uM ho hsv hA,X6 (by omega)];first|rfl|(simp;done))
 refine aa Jl ?_ (hok:=oI (TB x hxs hdk.plen hdk.dlen) (Tz (dltB x) om))
 refine oK Jl (fun c5=>?_) (fun c5=>?_)
 .
  refine aa Jl ?_;exact fo 4 (k:=by rw[uM ho hsv hA,XZ (by omega),X6 (by omega)];first|rfl|(simp;done))
 refine aa Jl ?_ (hok:=oH (CJ o.whole om))
 refine ae ?_
 refine nu 54 1 25 22 ev (by rfl) (by simp only[go_sem,ff]) ?_
 simp only[YL,YD]
 refine aa Jl ?_
 refine ah ?_
 refine lp (α:=(Nat)×(Nat)×Nat) [4,10,11,64,65] (fun ⟨k,r,nx⟩=>(k<=d.pend.length)/\(r<nx)/\(54<r)/\True) (fun ⟨k,r,nx⟩=>d.pend.length-k) (fun ⟨k,r,nx⟩=>[(66,.i k)]) (fun ⟨k,r,nx⟩=>[(0,⟨25,[d.d]⟩),(1,⟨31,[x.d]⟩),(2,⟨25,[[.list true [],.list true []]]⟩),(54,⟨25,[[.list false (o.whole.map bD),.mrow r 0 k]]⟩),(r,⟨22,(d.pend.take k).map byR⟩)]) (fun ⟨k,r,nx⟩=>nx) (0,56,_) (hA:=⟨iv,iv,iv,trivial⟩) (round:=?_)
 rintro⟨k,r,nx⟩ ⟨hk,hr,hr0, -⟩
 simp only[X0,X3]
 have n0:0<nx:=by omega
 have n1:1<nx:=by omega
 have n2:2<nx:=by omega
 have n54:54<nx:=by omega
 have ff:=qH @hr @n0 @n1 @n2 @n54 (nH 0 1) (nH 0 2) (qI (nH 0 54) (nH 0 r) (nH 1 2) (nH 1 54) (nH 1 r) (nH 2 54) (nH 2 r) (nH 54 r) ff)
 refine aa Jl ?_
 refine ae ?_
 refine cd (fun c6=>?_) (fun c6=>?_) (hp:=rfl)
 .
  have hk2:k<d.pend.length:=by simpa using c6
  have hpk:=hd.at hk2;have ff:=qA (jN hk2) ff;refine dw_skip ?_;refine ae ?_;refine ah ?_;refine aa Jl ?_;refine ai JlF ?_ (hok:=by (try simp only[go_sem,ff]);all_goals (first|done|((repeat' (with_reducible apply And.intro))<;>first|(intros;exact CJ d.pend[k]! (by omega))|omega|(rw[Yu];omega)|skip)))
  refine ai Jl ?_
  show ∃ _,_
  have hst:(d.pend.take (k+1)).map byR=(d.pend.take k).map byR++[[.list false (d.pend[k]!.map bD)]]:=by rw[u7! hk2,vN]
  have ff:=qA hst ff;exact au (k+1,(nx+9),_) (h1:=⟨iv,iv,iv,trivial⟩)
 have e8:k=d.pend.length:=by omega
 subst e8
 refine aB ?_
 refine aa Jl ?_
 refine kZ 54 1 (nx+5) (rows:=d.pend.map byR++[[.list false ((frmB 2 (dltB x)).map bD)]]) (off:=0) (len:=d.pend.length+1) ev rfl ev (by omega) (by simp) (by rw[<- vN];exact Im) ?_
 simp only[X7,YL,YD]
 refine aa Jl ?_
 exact fo 4 (k:=by rw[uM ho hsv hA,XZ (by omega),XZ (by omega)];(try simp only[go_sem,vN]);first|done|rfl|(simp;done))
end Go.Proofs.YtjngdcldglkolaaGreatDoor
namespace Go.Proofs.YtjngdcldglkolaaGreatDoor
open Go.DL Go.Str Go.Rec Go.Cmp Go.Zon Go.Jn
set_option maxRecDepth 10000
variable [Glob Tryz.prog] [Told]
def lD (h:H) (x:D) (b:Str):Prop:=x = .list true (b.map bD) \/ ∃ r,x = .mrow r 0 b.length/\h r=some ⟨5,b.map bD⟩
def iJ:D->Nat->Bool
 | .mrow r _ _,q=>r==q
 | _,_=>false
def lC (X:Str) (x:D) (h:H) (n:Nat) (d:D) (h':H) (n':Nat):Prop:=∃ r',d = .mrow r' 0 X.length/\h' r'=some ⟨5,X.map bD⟩/\r'<n'/\n<=r' /\ ∀ q,q<n->iJ x q=false->h' q=h q
theorem tX {X:Str}{x d:D}{h h':H}{n n' r' L:Nat}{rows:List (List D)}(hr:h' r'=some ⟨5,rows⟩) (hd:d = .mrow r' 0 L) (he:rows=X.map bD) (hL:L=X.length) (hlt:r'<n') (hn:n<=r') (hk : ∀ q,q<n->iJ x q=false->h' q=h q):lC X x h n d h' n':=by
 subst he
 subst hL
 exact⟨r',hd,hr,hlt,hn,hk⟩
theorem LP {X:Str}{x:D}{h:H}{r L:Nat}{rows:List (List D)}(hr:h r=some ⟨5,rows⟩) (hx:x = .mrow r 0 L) (he:rows=X.map bD) (hL:L=X.length):lD h x X:=by
 subst he
 subst hL
 exact .inr ⟨r,hx,hr⟩
theorem Qr {u:Nat}:(u:Int) / 256=((u / 256:Nat):Int):=rfl
theorem PT (u:Nat):IntKind.u8.wrap ((u:Int) % 256)=((dG u 0).toNat:Int):=by
 rw[IntKind.wrap_u8,wW]
 omega
theorem T9 {u:Nat}(h:u<18446744073709551616):gV .u64 (u:Int):=by
 unfold gV
 simp[IntKind.min,IntKind.max,IntKind.signed,IntKind.bits]
 omega
theorem qU (u:Nat):bg u 1=[dG u 0]:=rfl
theorem AB (n:Nat):IntKind.u8.wrap (n:Int)=((bM n).toNat:Int):=MR n
theorem Qt (k:Nat) (ih:1<=k -> ∀ (u:Nat) (b:Str) (x:D) (h:H) (n:Nat),lD h x b->u<18446744073709551616->b.length<=900000000000->RCt Tryz.prog 100 [x,.v (.int .u64 ((u:Nat):Int)),.i (k:Nat)] h n (fun d h' n'=>lC (b++bg u k) x h n d h' n')) (u:Nat) (b:Str) (x:D) (h:H) (n:Nat) (hx:lD h x b) (hu:u<18446744073709551616) (hb:b.length<=900000000000) (hk:k<=7):RCt Tryz.prog 100 [x,.v (.int .u64 ((u:Nat):Int)),.i ((k+1:Nat):Int)] h n (fun d h' n'=>lC (b++bg u (k+1)) x h n d h' n'):=by
 refine oP Tryz.func100 fun hnone ff=>?_
 unfold Tryz.f100
 have e4:=eq_true (T9 hu)
 have e1:=PT u
 have e2:((k+1:Nat):Int)-1=(k:Int):=by omega
 have e2b:(k:Int)+1-1=(k:Int):=by omega
 have ff:=qF @e1 @e2 @e2b @e4 (Qr (u:=u)) ff
 have hx0:=hx
 rcases hx with rfl|⟨r,rfl,hr⟩
 .
  refine aa Jl ?_;refine oK Jl (fun c1=>?_) (fun c1=>?_)
  .
   refine dF Jl 5 (hct:=by exact ih om (u / 256) b _ _ _ hx0 om hb) (hk:=?_)
   rintro res h2 n2 ⟨r2,rfl,hr2,hrn2,hrm2,hk2⟩
   try dsimp only at hrm2 hk2
   have ff:=qA @hr2 ff;refine av Jl ?_
   skip
   have hbl:(b++bg (u / 256) k).length<=1000000000000:=by rw[XV,bF];omega
   have ff:=qA (nG r2 n2) ff;refine aa Jl ?_;refine aI ?_;exact aU (_) (hh:=fun _=>.inl rfl) (hr:=oS (k:=by refine tX ev rfl (by first|(simp[qU,bD];done)|(rw[<- pz];simp[bD];done)) (by first|(simp[qU];done)|(rw[<- pz];simp;omega)) (by omega) (by omega) (fun q q1 q2=>by (try have q3:q≠r:=fun e=>by subst e;simp[iJ] at q2);simp only[upd];repeat (first|rfl|rw[XZ (by omega)]);try exact hk2 q (by omega) q2)))
  obtain rfl:k=0:=by omega
  refine aa Jl ?_;refine aI ?_;exact aU (_) (hh:=fun _=>.inl rfl) (hr:=oS (k:=by refine tX ev rfl (by first|(simp[qU,bD];done)|(rw[<- pz];simp[bD];done)) (by first|(simp[qU];done)|(rw[<- pz];simp;omega)) (by omega) (by omega) (fun q q1 q2=>by (try have q3:q≠r:=fun e=>by subst e;simp[iJ] at q2);simp only[upd];repeat (first|rfl|rw[XZ (by omega)]);try exact hk2 q (by omega) q2)))
 have hrn:r<n:=by rcases YV r n with q|q;exact q;rw[hnone r q] at hr;cases hr
 have ff:=qB @hr (nG r n) ff
 refine aa Jl ?_
 refine oK Jl (fun c1=>?_) (fun c1=>?_)
 .
  refine dF Jl 5 (hct:=by exact ih om (u / 256) b _ _ _ hx0 om hb) (hk:=?_)
  rintro res h2 n2 ⟨r2,rfl,hr2,hrn2,hrm2,hk2⟩
  try dsimp only at hrm2 hk2
  have ff:=qA @hr2 ff;refine av Jl ?_
  skip
  have hbl:(b++bg (u / 256) k).length<=1000000000000:=by rw[XV,bF];omega
  have ff:=qA (nG r2 n2) ff;refine aa Jl ?_;refine aI ?_;exact aU (_) (hh:=fun _=>.inl rfl) (hr:=oS (k:=by refine tX ev rfl (by first|(simp[qU,bD];done)|(rw[<- pz];simp[bD];done)) (by first|(simp[qU];done)|(rw[<- pz];simp;omega)) (by omega) (by omega) (fun q q1 q2=>by (try have q3:q≠r:=fun e=>by subst e;simp[iJ] at q2);simp only[upd];repeat (first|rfl|rw[XZ (by omega)]);try exact hk2 q (by omega) q2)))
 obtain rfl:k=0:=by omega
 refine aa Jl ?_
 refine aI ?_
 exact aU (_) (hh:=fun _=>.inl rfl) (hr:=oS (k:=by refine tX ev rfl (by first|(simp[qU,bD];done)|(rw[<- pz];simp[bD];done)) (by first|(simp[qU];done)|(rw[<- pz];simp;omega)) (by omega) (by omega) (fun q q1 q2=>by (try have q3:q≠r:=fun e=>by subst e;simp[iJ] at q2);simp only[upd];repeat (first|rfl|rw[XZ (by omega)]);try exact hk2 q (by omega) q2)))
theorem yD : ∀ (k:Nat),1<=k->k<=8 -> ∀ (u:Nat) (b:Str) (x:D) (h:H) (n:Nat),lD h x b->u<18446744073709551616->b.length<=900000000000->RCt Tryz.prog 100 [x,.v (.int .u64 ((u:Nat):Int)),.i (k:Nat)] h n (fun d h' n'=>lC (b++bg u k) x h n d h' n')
 | 0,h,_=>by omega
 | k+1,_,hk=>fun u b x h n hx hu hb=>Qt k (fun h1 u b x h n h2 h3 h4=>yD k h1 om u b x h n h2 h3 h4) u b x h n hx hu hb om
theorem GG (u:Nat) (b:Str) (x:D) (h:H) (n:Nat) (hx:lD h x b) (hu:u<18446744073709551616) (hb:b.length<=900000000000):RCt Tryz.prog 100 [x,.v (.int .u64 ((u:Nat):Int)),.i 2] h n (fun d h' n'=>lC (b++bg u 2) x h n d h' n'):=yD 2 om om u b x h n hx hu hb
theorem yC (u:Nat) (b:Str) (x:D) (h:H) (n:Nat) (hx:lD h x b) (hu:u<18446744073709551616) (hb:b.length<=900000000000):RCt Tryz.prog 100 [x,.v (.int .u64 ((u:Nat):Int)),.i 4] h n (fun d h' n'=>lC (b++bg u 4) x h n d h' n'):=yD 4 om om u b x h n hx hu hb
theorem pU (u:Nat) (b:Str) (x:D) (h:H) (n:Nat) (hx:lD h x b) (hu:u<18446744073709551616) (hb:b.length<=900000000000):RCt Tryz.prog 100 [x,.v (.int .u64 ((u:Nat):Int)),.i 8] h n (fun d h' n'=>lC (b++bg u 8) x h n d h' n'):=yD 8 om om u b x h n hx hu hb
theorem mE (b:Str) (x:D) (m:Int) (h:H) (n:Nat) (hx:lD h x b) (hb:b.length<=900000000000):RCt Tryz.prog 99 [x,.i m] h n (fun d h' n'=>lC (b++ak m) x h n d h' n'):=by
 refine oP Tryz.func99 fun hnone ff=>?_
 unfold Tryz.f99
 have e1:=uZ m
 have ff:=qA @e1 ff
 have hx0:=hx
 rcases hx with rfl|⟨r,rfl,hr⟩
 .
  refine aa Jl ?_;refine ae (dF Jl 3 (hct:=by exact pU (uN m) b _ _ _ hx0 (nK _) hb) (hk:=?_))
  rintro res h2 n2 ⟨r2,rfl,hr2,hrn2,hrm2,hk2⟩
  try dsimp only at hrm2 hk2
  have ff:=qA @hr2 ff;refine av Jl ?_;refine aI ?_;exact aU (_) (hh:=fun _=>.inl rfl) (hr:=oS (k:=by exact⟨r2,rfl,hr2,om,om,fun q q1 q2=>hk2 q om q2⟩))
 have hrn:r<n:=by rcases YV r n with q|q;exact q;rw[hnone r q] at hr;cases hr
 have ff:=qB @hr (nG r n) ff
 refine aa Jl ?_
 refine ae (dF Jl 3 (hct:=by exact pU (uN m) b _ _ _ hx0 (nK _) hb) (hk:=?_))
 rintro res h2 n2 ⟨r2,rfl,hr2,hrn2,hrm2,hk2⟩
 try dsimp only at hrm2 hk2
 have ff:=qA @hr2 ff
 refine av Jl ?_
 refine aI ?_
 exact aU (_) (hh:=fun _=>.inl rfl) (hr:=oS (k:=by exact⟨r2,rfl,hr2,om,om,fun q q1 q2=>hk2 q om q2⟩))
theorem yG (b t:Str) (x:D) (h:H) (n:Nat) (hx:lD h x b) (hb:b.length<=900000000000) (ht:t.length<=10000):RCt Tryz.prog 91 [x,.v (.string (bs t))] h n (fun d h' n'=>lC (b++ay t) x h n d h' n'):=by
 refine oP Tryz.func91 fun hnone ff=>?_
 unfold Tryz.f91
 refine aa Jl ?_
 have hx0:=hx
 rcases hx with rfl|⟨r,rfl,hr⟩
 .
  refine oC Jl ?_;refine aI ?_;exact aU (_) (hh:=fun _=>.inl rfl) (hr:=oS (k:=by refine tX ev rfl (by simp[ay,bD]) (by simp[ay];omega) (by omega) (by omega) (fun q q1 q2=>by (try have q3:q≠r:=fun e=>by subst e;simp[iJ] at q2);simp only[upd];repeat (first|rfl|rw[XZ (by omega)]);try exact hk2 q (by omega) q2)))
 have hrn:r<n:=by rcases YV r n with q|q;exact q;rw[hnone r q] at hr;cases hr
 have ff:=qB @hr (nG r n) ff
 refine oC Jl ?_
 refine aI ?_
 exact aU (_) (hh:=fun _=>.inl rfl) (hr:=oS (k:=by refine tX ev rfl (by simp[ay,bD]) (by simp[ay];omega) (by omega) (by omega) (fun q q1 q2=>by (try have q3:q≠r:=fun e=>by subst e;simp[iJ] at q2);simp only[upd];repeat (first|rfl|rw[XZ (by omega)]);try exact hk2 q (by omega) q2)))
end Go.Proofs.YtjngdcldglkolaaGreatDoor
namespace Go.Proofs.YtjngdcldglkolaaGreatDoor
open Go.DL Go.Str Go.Rec Go.Cmp Go.Zon Go.Jn
set_option maxRecDepth 10000
variable [Glob Tryz.prog] [Told]
def gG (h:H) (R:Nat) (st:RS):Prop:=∃ f:Bool,h R=some ⟨99,[[.list f (st.1.map bD),.v (.bool st.2)]]⟩
theorem MQ (c:UInt8):IntKind.u64.wrap (c.toNat:Int)=(c.toNat:Int):=by
 have:=c.toNat_lt
 rw[IntKind.wrap_u64]
 omega
theorem add8 (u:Nat) (c:UInt8):IntKind.u64.wrap (IntKind.u64.wrap ((u:Int)*256)+(c.toNat:Int))=((dz u c:Nat):Int):=by
 rw[IntKind.wrap_u64,IntKind.wrap_u64]
 unfold dz
 omega
theorem yH (x:Str) (bad:Bool) (m:Nat) (h:H) (n R:Nat) (hb:gG h R (x,bad)) (hx:x.length<=1000000000) (hm:m<=1000000000000):RCt Tryz.prog 115 [.mptr R 0 0,.i m] h n (fun d h' n'=>(∃ f1:Bool,d = .list f1 ((aH m (x,bad)).1.map bD))/\gG h' R (aH m (x,bad)).2/\RStep h h' R n n'):=by
 refine oP Tryz.func115 fun hnone ff=>?_
 unfold Tryz.f115
 obtain⟨f,hR⟩:=hb
 have hRn:R<n:=by rcases YV R n with q|q;exact q;rw[hnone R q] at hR;cases hR
 have hE1:((m:Int)).toNat=m:=by omega
 have hE2:((0:Int)).toNat=0:=rfl
 have ff:=qE @hR @hE1 @hE2 (nG R n) ff
 refine aa Jl ?_
 refine ae ?_
 rcases bad with _|_<;>by_cases hle:m<=x.length
 .
  refine aa Jl ?_;refine cd (fun c1=>?_) (fun c1=>?_) (hp:=rfl) (hq:=rfl)
  .
   exfalso;simp at c1;omega
  refine dw_skip ?_;refine oK Jl (fun c2=>?_) (fun c2=>?_) (hp:=rfl) (hq:=rfl)
  .
   simp at c2
  refine oD Jl ?_;refine aI ?_;exact aU (_) (hh:=fun _=>.inl rfl) (hr:=oS (k:=by rw[iW rfl (by omega)];exact⟨⟨_,by rw[ZQ];try rfl⟩,⟨_,by simp only[upd,ZK];rw[List.map_drop];try rfl⟩,⟨om,fun q q1 q2=>by simp only[upd];repeat (first|rfl|rw[XZ (by omega)])⟩⟩))
 .
  refine aa Jl ?_;refine cd (fun c1=>?_) (fun c1=>?_) (hp:=rfl) (hq:=rfl)
  .
   refine ai Jl ?_;refine ae ?_;refine aa Jl ?_;refine cd (fun c2=>?_) (fun c2=>?_) (hp:=rfl) (hq:=rfl)
   .
    refine aa Jl ?_;refine aI ?_;exact aU (_) (hh:=fun _=>.inl rfl) (hr:=oS (k:=by first|(rw[gq (.inr (by show (x.length:Int)<m;omega))];exact⟨⟨_,rfl⟩,⟨f,ev⟩,⟨om,fun q q1 q2=>by simp only[upd];repeat (first|rfl|rw[XZ (by omega)])⟩⟩)|(rw[gq (.inl rfl)];exact⟨⟨_,rfl⟩,⟨f,ev⟩,⟨om,fun q q1 q2=>by simp only[upd];repeat (first|rfl|rw[XZ (by omega)])⟩⟩)))
   simp at c2
  exfalso;simp at c1;omega
 .
  refine aa Jl ?_;refine cd (fun c1=>?_) (fun c1=>?_) (hp:=rfl) (hq:=rfl)
  .
   exfalso;simp at c1;omega
  refine dw_skip ?_;refine ae ?_;refine aa Jl ?_;refine cd (fun c2=>?_) (fun c2=>?_) (hp:=rfl) (hq:=rfl)
  .
   refine aa Jl ?_;refine aI ?_;exact aU (_) (hh:=fun _=>.inl rfl) (hr:=oS (k:=by first|(rw[gq (.inr (by show (x.length:Int)<m;omega))];exact⟨⟨_,rfl⟩,⟨f,ev⟩,⟨om,fun q q1 q2=>by simp only[upd];repeat (first|rfl|rw[XZ (by omega)])⟩⟩)|(rw[gq (.inl rfl)];exact⟨⟨_,rfl⟩,⟨f,ev⟩,⟨om,fun q q1 q2=>by simp only[upd];repeat (first|rfl|rw[XZ (by omega)])⟩⟩)))
  simp at c2
 refine aa Jl ?_
 refine cd (fun c1=>?_) (fun c1=>?_) (hp:=rfl) (hq:=rfl)
 .
  refine ai Jl ?_;refine ae ?_;refine aa Jl ?_;refine cd (fun c2=>?_) (fun c2=>?_) (hp:=rfl) (hq:=rfl)
  .
   refine aa Jl ?_;refine aI ?_;exact aU (_) (hh:=fun _=>.inl rfl) (hr:=oS (k:=by first|(rw[gq (.inr (by show (x.length:Int)<m;omega))];exact⟨⟨_,rfl⟩,⟨f,ev⟩,⟨om,fun q q1 q2=>by simp only[upd];repeat (first|rfl|rw[XZ (by omega)])⟩⟩)|(rw[gq (.inl rfl)];exact⟨⟨_,rfl⟩,⟨f,ev⟩,⟨om,fun q q1 q2=>by simp only[upd];repeat (first|rfl|rw[XZ (by omega)])⟩⟩)))
  simp at c2
 exfalso;simp at c1;omega
end Go.Proofs.YtjngdcldglkolaaGreatDoor
namespace Go.Proofs.YtjngdcldglkolaaGreatDoor
open Go.DL Go.Str Go.Rec Go.Cmp Go.Zon Go.Jn
set_option maxRecDepth 10000
variable [Glob Tryz.prog] [Told]
attribute [local irreducible] dz
theorem yB (st:RS) (m:Nat) (h:H) (n R:Nat) (hb:gG h R st) (hx:st.1.length<=1000000000) (hm:m<=8):RCt Tryz.prog 114 [.mptr R 0 0,.i m] h n (fun d h' n'=>d = .v (.int .u64 (((ag m st).1:Nat):Int))/\gG h' R (ag m st).2/\RStep h h' R n n'):=by
 refine oP Tryz.func114 fun hnone ff=>?_
 unfold Tryz.f114
 refine aa Jl ?_
 refine ae (aD Jl 2 (hct:=by exact yH st.1 st.2 m _ _ R hb hx om) (hk:=?_))
 rintro res h2 n2 ⟨⟨f1,rfl⟩,hq2,hst2⟩
 try dsimp only at hst2
 have hbl:=yO m st
 obtain⟨b,hbe⟩:∃ b,b=(aH m st).1:=⟨_,rfl⟩
 rw[show aH (m:Int) (st.1,st.2)=aH m st from rfl] at hq2
 rw[show aH (m:Int) (st.1,st.2)=aH m st from rfl]
 rw[<- hbe] at hbl
 try rw[<- hbe]
 refine av Jl ?_
 refine aa Jl ?_
 refine ae ?_
 refine aa Jl ?_
 refine ah ?_
 refine dD (α:=(Nat)×(Nat)×Nat) [5] (fun ⟨k,u,nx⟩=>(k<=b.length)/\(u=cB (b.take k))/\(n2<=nx)/\True) (fun ⟨k,u,nx⟩=>b.length-k) (fun ⟨k,u,nx⟩=>[(6,.v (.int .u64 ((u:Nat):Int))),(7,.i k)]) (fun ⟨k,u,nx⟩=>h2) (fun ⟨k,u,nx⟩=>nx) (0,0,_) (hA:=⟨iv,rfl,iv,trivial⟩) (round:=?_)
 rintro⟨k,u,nx⟩ ⟨hk,hu,hn, -⟩
 simp only[X0,X3]
 refine oL Jl (fun c1=>?_) (fun c1=>?_)
 .
  have hk2:k<b.length:=by omega
  have ff:=qD (oM hk2) (MQ (b.getD k 0)) (add8 u (b.getD k 0)) ff;refine ae ?_;refine ah ?_;refine ai Jl ?_;refine ai Jl ?_
  show ∃ _,_
  exact au (k+1,dz u (b.getD k 0),_) (h1:=⟨iv,(by first|(rw[yV b k hk2,<- hu])|(dsimp only;rw[yV b k hk2,<- hu])),iv,trivial⟩)
 have hk3:k=b.length:=by omega
 subst hk3
 rw[YG] at hu
 subst hu
 subst hbe
 refine aB ?_
 refine aa Jl ?_
 refine aI ?_
 exact aU (_) (hh:=fun _=>.inl rfl) (hr:=oS (k:=by exact⟨rfl,hq2,(hst2.down oW).up oW⟩))
theorem BH (st:RS) (h:H) (n R:Nat) (hb:gG h R st) (hx:st.1.length<=1000000000):RCt Tryz.prog 114 [.mptr R 0 0,.i 1] h n (fun d h' n'=>d = .v (.int .u64 (((ag 1 st).1:Nat):Int))/\gG h' R (ag 1 st).2/\RStep h h' R n n'):=yB st 1 h n R hb hx om
theorem Qs (st:RS) (h:H) (n R:Nat) (hb:gG h R st) (hx:st.1.length<=1000000000):RCt Tryz.prog 114 [.mptr R 0 0,.i 2] h n (fun d h' n'=>d = .v (.int .u64 (((ag 2 st).1:Nat):Int))/\gG h' R (ag 2 st).2/\RStep h h' R n n'):=yB st 2 h n R hb hx om
theorem BG (st:RS) (h:H) (n R:Nat) (hb:gG h R st) (hx:st.1.length<=1000000000):RCt Tryz.prog 114 [.mptr R 0 0,.i 4] h n (fun d h' n'=>d = .v (.int .u64 (((ag 4 st).1:Nat):Int))/\gG h' R (ag 4 st).2/\RStep h h' R n n'):=yB st 4 h n R hb hx om
theorem nM (st:RS) (h:H) (n R:Nat) (hb:gG h R st) (hx:st.1.length<=1000000000):RCt Tryz.prog 114 [.mptr R 0 0,.i 8] h n (fun d h' n'=>d = .v (.int .u64 (((ag 8 st).1:Nat):Int))/\gG h' R (ag 8 st).2/\RStep h h' R n n'):=yB st 8 h n R hb hx om
theorem yF (st:RS) (h:H) (n R:Nat) (hb:gG h R st) (hx:st.1.length<=1000000000):RCt Tryz.prog 117 [.mptr R 0 0] h n (fun d h' n'=>d = .v (.string (bs (aj st).1))/\gG h' R (aj st).2/\RStep h h' R n n'):=by
 refine oP Tryz.func117 fun hnone ff=>?_
 unfold Tryz.f117
 refine aa Jl ?_
 refine bq ?_
 refine iZ (C:=Jl) 2 (R:=_) om (bC rfl) rfl rfl (by simp only[X8,X7,X4,Yf,S.put,Yr,Nat.reduceSub,go_sem,ff];first|done|exact rfl) ?_ ?_ ev (by simp only[go_sem,ff]) ev (by exact BH st _ _ R hb hx) ?_
 .
  try simp only[go_sem,ff]
  all_goals (exact ok0)
 .
  try simp only[go_sem,ff]
  all_goals (first|done|rfl|decide|simp)
 rintro res h2 n2 ⟨rfl,hq2,hst2⟩
 try dsimp only at hst2
 have hul:(ag 1 st).1<256^1:=ko 1 st
 obtain⟨u,hue⟩:∃ u,u=(ag 1 st).1:=⟨_,rfl⟩
 try rw[<- hue]
 rw[<- hue] at hul
 have e1:=oG (u:=u) (by omega)
 have ff:=qA e1 ff
 have hx2:(ag 1 st).2.1.length<=1000000000:=Yc (fK 1 st) hx
 have hl2:=hst2.1
 refine iZ (C:=Jl) 4 (R:=_) om (bC rfl) rfl rfl (by simp only[X8,X7,X4,Yf,S.put,Yr,Nat.reduceSub,go_sem,ff];first|done|exact rfl) ?_ ?_ ev (by simp only[go_sem,ff]) ev (by exact yH (ag 1 st).2.1 (ag 1 st).2.2 u _ _ R hq2 hx2 om) ?_
 .
  try simp only[go_sem,ff]
  all_goals (exact ok0)
 .
  try simp only[go_sem,ff]
  all_goals (first|done|rfl|decide|simp)
 rintro res h3 n3 ⟨⟨f1,rfl⟩,hq3,hst3⟩
 try dsimp only at hst3
 rw[show aH (u:Int) ((ag 1 st).2.1,(ag 1 st).2.2)=aj st from by unfold aj;rw[hue]] at hq3
 rw[show aH (u:Int) ((ag 1 st).2.1,(ag 1 st).2.2)=aj st from by unfold aj;rw[hue]]
 refine aO Jl ?_
 try simp only[aG]
 refine aI ?_
 exact aU (_) (hh:=fun _=>.inl rfl) (hr:=oS (k:=by first|exact⟨rfl,hq3,((hst2.down oW).trans (hst3.down oW)).up oW⟩|exact⟨hq3,((hst2.down oW).trans (hst3.down oW)).up oW⟩))
end Go.Proofs.YtjngdcldglkolaaGreatDoor
namespace Go.Proofs.YtjngdcldglkolaaGreatDoor
open Go.DL Go.Str Go.Rec Go.Cmp Go.Zon Go.Jn
set_option maxRecDepth 10000
variable [Glob Tryz.prog] [Told]
theorem dw_nh {ro:Option Nat}{c:Code}{Q:Exit->S->Prop}{s:S}(k : ∀ hz,hz=s.h->DW Tryz.prog ro c Q { n:=s.n,t:=s.t,h:=hz,nx:=s.nx,ok:=s.ok,e:=s.e }):DW Tryz.prog ro c Q s:=k s.h rfl
theorem nU (k:Nat) (st:RS):(nN k st).1.length<=st.1.length:=by
 induction k with
 | zero=>exact XY _
 | succ k ih=>exact Yc (fK 8 (nN k st)) ih
theorem xB (st:RS):(aj st).2.1.length<=st.1.length:=Yc (fK _ _) (fK 1 st)
theorem Qi (st:RS):(dN st).2.1.length<=st.1.length:=Yc (fK _ _) (fK 2 st)
theorem Ox {x y y4 x4:Str}{rs:RSet}{bd qQ b4:Bool}{g:List RSig}(h:dC (x,false)=(rs,(y,bd))) (h2:(ag 1 (y,bd)).2=(y4,qQ)) (h3:eU (ag 1 (y,bd)).1 [] (y4,qQ)=(g,(x4,b4))):dI (x,false)=(⟨rs,g⟩,(x4,b4)):=by
 unfold dI
 simp only[h,h2,h3]
theorem Oj (st:RS):eF st=(⟨(aj st).1,nV 0 (aj st).2,nV 1 (aj st).2,nV 2 (aj st).2,nV 3 (aj st).2,(((ag 8 (nN 4 (aj st).2)).1:Nat):Int)⟩,nN 5 (aj st).2):=rfl
set_option maxHeartbeats 4000000
def lU:Code->Code
 | .block _ c=>c
 | .loop c=>c
 | c=>c
noncomputable def c19:Code:=(dA (dA (dA (dA (dA (lU (lW (dA (lU (lU (dA (lW (dA (dA (dA (dA (lU (lW (dA (lU (lU (dA (lW (dA (dA (dA (Tryz.f118.body.getD .skip)))))))))))))))))))))))))))
theorem q19 {ro:Option Nat}{Q:Exit->S->Prop}(t:Nat->D) (h:H) (nx:Nat) (e:Env) (R C r2 j:Nat) (g:List RSig) (st:RS) (f9:Bool) (zt:Str) (v0 v1 v2 v3:Int) (a b c d:D)
  (t0:t 0 = .mptr R 0 0) (t8:t 8 = .mptr C 0 0) (t11:t 11 = .v (.string (bs zt))) (t12:t 12 = .i v0) (t13:t 13 = .i v1) (t14:t 14 = .i v2) (t15:t 15 = .i v3)
  (hR:h R=some ⟨99,[[.list f9 (st.1.map bD),.v (.bool st.2)]]⟩) (hC:h C=some ⟨66,[[a,b,c,d,.mrow r2 0 j]]⟩) (hg:h r2=some ⟨160,g.map RSig.d⟩) (hj:g.length=j) (hjb:j<=1000000)
  (hx:st.1.length<=1000000000) (hRC:R<C) (hCr:C<r2) (hrn:r2<nx)
  (hk : ∀ (t':Nat->D) (h':H) (nA:Nat) (f:Bool),(∀ i,i<76->t' i=t i)->nx<=nA->h' R=some ⟨99,[[.list f ((ag 8 st).2.1.map bD),.v (.bool (ag 8 st).2.2)]]⟩->h' C=some ⟨66,[[a,b,c,d,.mrow (nA+11) 0 (j+1)]]⟩ ->
   h' (nA+11)=some ⟨160,(g++[(⟨zt,v0,v1,v2,v3,(((ag 8 st).1:Nat):Int)⟩:RSig)]).map RSig.d⟩->(∀ q,q<nx->q≠R->q≠C->q≠r2->h' q=h q)->Q .normal { n:=94,t:=t',h:=h',nx:=nA+14,e:=e }) :
  DW Tryz.prog ro c19 Q { n:=94,t:=t,h:=h,nx:=nx,e:=e }:=by
 have w6:(r2=C)=False:=Y7 om
 have ff:=qF t0 t8 t11 t12 t13 (qI t14 t15 hR hC hg (nH C R) (nH R r2) (nH C r2) w6)
 unfold c19 Tryz.f118
 simp only[YT,dA,lW,lU]
 refine zZ Jl 8 9 11 [(1,76)] (R:=_) (X:=fun _ _ _=>False) (hct:=by exact (nM st _ _ R ⟨f9,ev⟩ hx).xct) (hp:=fun c9 h9 n9 hx9=>hx9.elim) (hkeep:=?_) (hFo:=?_) (hk:=?_)
 .
  rintro res h2 n2 ⟨_,_,hst9⟩ p hp r9 hrr;simp only[Yq] at hp;subst hp;simp only[go_sem,ff,sd,named,YE] at hrr ⊢;subst hrr;exact hst9.2 _ oW om
 .
  rintro res h2 n2 ⟨rfl,_,_⟩
  (try simp only[X8,X7,X4,Yf,S.put,Yr,Nat.reduceSub,Nat.reduceAdd,go_sem,ff])
  all_goals exact ok0
 rintro res hA nA ⟨rfl,hqA,hstA⟩
 try dsimp only at hstA
 have hlA:=hstA.1
 obtain⟨fA,hRA⟩:=hqA
 have kC:hA C=some ⟨66,[[a,b,c,d,.mrow r2 0 j]]⟩:=(hstA.2 C om om).trans hC
 have kg:hA r2=some ⟨160,g.map RSig.d⟩:=(hstA.2 r2 om om).trans hg
 have n2 : ∀ k:Nat,(nA+k=R)=False:=fun k=>Y7 om
 have ff:=qH hRA kC kg (nG R nA) n2 (nG C nA) (nG r2 nA) ff
 refine wC ?_
 refine aO Jl ?_
 try simp only[aG]
 refine hk _ _ nA fA (fun i hi=>?_) om ev ev (by simp only[go_sem,ff,YM,Yb,Yt];first|done|exact rfl) (fun q q1 q2 q3 q4=>?_)
 .
  simp only[upd]
  repeat rw[XZ (by omega)]
 simp only[upd]
 repeat rw[XZ (by omega)]
 exact hstA.2 q om q2
theorem GL (st0:RS) (h:H) (n R:Nat) (hb:gG h R st0) (hx:st0.1.length<=1000000000):RCt Tryz.prog 118 [.mptr R 0 0] h n (fun d h' n'=>d = .list false ((ed st0).1.map Sgd.d)/\gG h' R (ed st0).2/\RStep h h' R n n'):=by
 refine oP Tryz.func118 fun hnone ff=>?_
 unfold Tryz.f118
 obtain⟨f,hR⟩:=hb
 have hRn:R<n:=by rcases YV R n with q|q;exact q;rw[hnone R q] at hR;cases hR
 have ff:=qB @hR (nG R n) ff
 refine oC Jl ?_
 refine ae (aD Jl 1 (hct:=by exact BG st0 _ _ R ⟨f,ev⟩ hx) (hk:=?_))
 rintro res h2 n2 ⟨rfl,hq2,hst2⟩
 try dsimp only at hst2
 have hl2:=hst2.1
 obtain⟨f2,hR2⟩:=hq2
 have hs2:RStep h h2 R n n2:=(rv (RStep.refl (h:=h) (R:=R) (XY n)) hst2)
 have hNl:(ag 4 st0).1<256^4:=ko 4 st0
 obtain⟨N,hNe⟩:∃ N,N=(ag 4 st0).1:=⟨_,rfl⟩
 try rw[<- hNe]
 rw[<- hNe] at hNl
 have e1:=oG (u:=N) (by omega)
 have hx4:(ag 4 st0).2.1.length<=1000000000:=Yc (fK 4 st0) hx
 obtain⟨x4,hx4e⟩:∃ x,x=(ag 4 st0).2.1:=⟨_,rfl⟩
 obtain⟨b4,hb4e⟩:∃ b,b=(ag 4 st0).2.2:=⟨_,rfl⟩
 rw[<- hx4e,<- hb4e] at hR2
 rw[<- hx4e] at hx4
 have hpe:ed st0=fC N [] (x4,b4):=by rw[hNe,hx4e,hb4e];rfl
 have ff:=qD @hR2 (nG R n2) @e1 ff
 refine av Jl ?_
 refine ae ?_
 refine aa Jl ?_
 refine ah ?_
 refine qM 3 66 (by simp only[go_sem,ff]) (by simp only[go_sem,ff]) ?_
 refine dw_nh (fun hw hwe=>?_)
 dsimp only at hwe ⊢
 have hRw:hw R=some ⟨99,[[.list f2 ((x4).map bD),.v (.bool b4)]]⟩:=by rw[hwe];simp only[go_sem,ff];first|done|exact rfl
 have how:hw (n2+5)=some ⟨66,[]⟩:=by rw[hwe];simp only[go_sem,ff];first|done|exact rfl
 have hsw:RStep h hw R n ((n2+5)+1):=⟨om,fun q q1 q2=>by (rw[hwe];simp only[upd];repeat (first|rfl|rw[XZ (by omega)]));exact hs2.2 q q1 q2⟩
 refine dD (α:=(Nat)×(List Sgd)×(Str)×(Bool)×(Nat)×(H)×Nat) [0,4] (fun ⟨k,o,x,bd,r,hq,nx⟩=>(k<=N)/\(fC N [] (x4,b4)=fC (N-k) o (x,bd))/\(o.length=k)/\(∃ f:Bool,hq R=some ⟨99,[[.list f ((x).map bD),.v (.bool bd)]]⟩)/\(hq r=some ⟨66,o.map Sgd.d⟩)/\(RStep h hq R n nx)/\(n<=r)/\(r<nx)/\(x.length<=1000000000)/\True) (fun ⟨k,o,x,bd,r,hq,nx⟩=>N-k) (fun ⟨k,o,x,bd,r,hq,nx⟩=>[(3,.mrow r 0 k),(5,.i k)]) (fun ⟨k,o,x,bd,r,hq,nx⟩=>hq) (fun ⟨k,o,x,bd,r,hq,nx⟩=>nx) (0,[],x4,b4,(n2+5),hw,_) (hA:=⟨iv,rfl,rfl,(by first|(exact⟨f2,hRw⟩)|(dsimp only;exact⟨f2,hRw⟩)),(by first|(exact how)|(dsimp only;exact how)),(by first|(exact hsw.up om)|(dsimp only;exact hsw.up om)),(by first|(omega)|(dsimp only;omega)),(by first|(omega)|(dsimp only;omega)),(by first|(exact hx4)|(dsimp only;exact hx4)),trivial⟩) (round:=?_)
 rintro⟨k,o,x,bd,r,hq,nx⟩ ⟨hk,hps,hol,hb7,hr,hst,hnr,hrx,hxl, -⟩
 simp only[X0,X3]
 obtain⟨fs,hR7⟩:=hb7
 have hlx:=hst.1
 have ff:=qF @hR7 @hr (nG R nx) (nG r nx) (nH R r) ff
 refine oL Jl (fun c1=>?_) (fun c1=>?_) (hq:=rfl)
 .
  have hk2:k<N:=by have:=c1.1;omega
  have hbf:bd=false:=by have:=c1.2;simpa using this
  subst hbf;obtain⟨M,hM⟩:∃ M,N-k=M+1:=⟨N-k-1,om⟩;refine ae ?_;refine ah ?_;refine bq ?_;refine iZ (C:=Jl) 2 (R:=_) om (bC rfl) rfl rfl (by simp only[X8,X7,X4,Yf,S.put,Yr,Nat.reduceSub,go_sem,ff];first|done|exact rfl) ?_ ?_ ev (by simp only[go_sem,ff]) ev (by exact Qs (x,false) _ _ R ⟨fs,ev⟩ hxl) ?_
  .
   try simp only[go_sem,ff]
   all_goals (exact ok0)
  .
   try simp only[go_sem,ff]
   all_goals (first|done|rfl|decide|simp)
  rintro res ha na ⟨rfl,hqa,hsta⟩
  try dsimp only at hsta
  have hla:=hsta.1;obtain⟨fa,hRa⟩:=hqa;have kra:ha r=some ⟨66,o.map Sgd.d⟩:=kp hsta;have hsa:RStep h ha R n na:=(rv hst hsta);have hua:(ag 2 (x,false)).1<256^2:=ko 2 (x,false);obtain⟨u,hue⟩:∃ u,u=(ag 2 (x,false)).1:=⟨_,rfl⟩
  try rw[<- hue]
  rw[<- hue] at hua;have e2:=oG (u:=u) (by omega)
  have hxa:(ag 2 (x,false)).2.1.length<=1000000000:=Yc (fK 2 (x,false)) hxl;have ff:=qF hRa kra (nG R na) (nG r na) e2 ff;refine iZ (C:=Jl) 4 (R:=_) om (bC rfl) rfl rfl (by simp only[X8,X7,X4,Yf,S.put,Yr,Nat.reduceSub,go_sem,ff];first|done|exact rfl) ?_ ?_ ev (by simp only[go_sem,ff]) ev (by exact yH (ag 2 (x,false)).2.1 (ag 2 (x,false)).2.2 u _ _ R ⟨fa,ev⟩ hxa om) ?_
  .
   try simp only[go_sem,ff]
   all_goals (exact ok0)
  .
   try simp only[go_sem,ff]
   all_goals (first|done|rfl|decide|simp)
  rintro res hb nb ⟨⟨f1,rfl⟩,hqb,hstb⟩;rw[show aH (u:Int) ((ag 2 (x,false)).2.1,(ag 2 (x,false)).2.2)=dN (x,false) from by unfold dN;rw[hue]] at hqb
  rw[show aH (u:Int) ((ag 2 (x,false)).2.1,(ag 2 (x,false)).2.2)=dN (x,false) from by unfold dN;rw[hue]]
  try dsimp only at hstb
  have hlb:=hstb.1;obtain⟨fb,hRb⟩:=hqb;have krb:hb r=some ⟨66,o.map Sgd.d⟩:=kp hstb;have hsb:RStep h hb R n nb:=(rv hsa hstb);obtain⟨b,hbe⟩:∃ b,b=(dN (x,false)).1:=⟨_,rfl⟩
  try rw[<- hbe]
  have hbl:b.length<=1000000:=by (have q9:=yO (ag 2 (x,false)).1 (ag 2 (x,false)).2;rw[show (aH ((ag 2 (x,false)).1:Nat) (ag 2 (x,false)).2).1=b from hbe.symm] at q9;omega)
  obtain⟨y,hye⟩:∃ y,y=(dN (x,false)).2.1:=⟨_,rfl⟩;rw[<- hye] at hRb;have hyl:y.length<=1000000000:=by rw[hye];exact Yc (Qi (x,false)) hxl
  obtain⟨rs,hrs⟩:∃ rs,rs=(readF b).1:=⟨_,rfl⟩
  try rw[<- hrs]
  have hrs2:=hrs.symm;have ff:=qF hRb krb (nG R nb) (nG r nb) hrs2 ff;refine aO Jl ?_ (hok:=oV (PD b hbl))
  try simp only[aG]
  refine jnh (α:=(Bool)×(H)×Nat) [0,3,4,5,6] (fun ⟨bd3,hz,nx⟩=>(dC (x,false)=(rs,(y,bd3)))/\(hz R=some ⟨99,[[.list fb ((y).map bD),.v (.bool bd3)]]⟩)/\(hz r=some ⟨66,o.map Sgd.d⟩)/\(hz (nb+9)=some ⟨63,[[.v (.string (bs rs.name)),.i rs.ty,.i rs.life,.list false (rs.data.map Dat.d)]]⟩)/\(RStep h hz R n nb)/\(nb+10<=nx)/\True) (fun ⟨bd3,hz,nx⟩=>[]) (fun ⟨bd3,hz,nx⟩=>hz) (fun ⟨bd3,hz,nx⟩=>nx) ?_ ?_
  .
   refine aa Jl ?_;refine cd (fun c2=>?_) (fun c2=>?_)
   .
    refine ai Jl ?_
    show ∃ _,_
    exact pQ (true,_,_) (h1:=⟨(by (try dsimp only);unfold dC;rw[if_neg (by rw[<- hbe];exact c2),<- hbe,hrs,hye]),(by (try dsimp only);simp only[go_sem,ff];first|done|exact rfl),(by (try dsimp only);simp only[go_sem,ff];first|done|exact rfl),(by (try dsimp only);simp only[go_sem,ff];first|done|exact rfl),(by (try dsimp only);exact⟨hsb.1,fun q q1 q2=>by (simp only[upd];repeat (first|rfl|rw[if_neg (by omega)]));exact hsb.2 q q1 q2⟩),(by first|(omega)|(dsimp only;omega)),trivial⟩) (h5:=fun _=>.inl rfl)
   refine dw_skip ?_
   show ∃ _,_
   exact pQ ((dN (x,false)).2.2,_,_) (h1:=⟨(by (try dsimp only);unfold dC;rw[if_pos (by rw[<- hbe];exact c2),<- hbe,hrs,hye]),(by (try dsimp only);simp only[go_sem,ff];first|done|exact rfl),(by (try dsimp only);simp only[go_sem,ff];first|done|exact rfl),(by (try dsimp only);simp only[go_sem,ff];first|done|exact rfl),(by (try dsimp only);exact⟨hsb.1,fun q q1 q2=>by (simp only[upd];repeat (first|rfl|rw[if_neg (by omega)]));exact hsb.2 q q1 q2⟩),(by first|(omega)|(dsimp only;omega)),trivial⟩) (h5:=fun _=>.inl rfl)
  rintro⟨bd3,hz,nx⟩ ⟨hset,hRz,hrz,h6z,hs9,hnb, -⟩;simp only[X0,X3];have ff:=qG @hRz @hrz @h6z (nG (nb+9) nx) (nG R nx) (nG r nx) ff;refine aa Jl ?_;refine nu (nx+2) 4 66 160 ev (by rfl) (by simp only[go_sem,ff]) ?_
  simp only[YL,YD];obtain⟨C,hCe⟩:∃ C,C=(nx+2):=⟨_,rfl⟩;rw[<- hCe];obtain⟨O,hOe⟩:∃ O,O=(nx+4):=⟨_,rfl⟩;rw[<- hOe];have ff:=qG (nH R r) (nH C R) (nH O R) (nH C r) (nH O r) (nH C O) ff;refine ae (aD Jl 1 (hct:=by exact BH (y,bd3) _ _ R ⟨fb,ev⟩ hyl) (hk:=?_))
  rintro res h4 n4 ⟨rfl,hq4,hst4⟩
  try dsimp only at hst4
  have hl4:=hst4.1;obtain⟨f4,hR4⟩:=hq4;have kr4:h4 r=some ⟨66,o.map Sgd.d⟩:=kp hst4;have kC4:h4 C=some ⟨66,[[.v (.string (bs rs.name)),.i rs.ty,.i rs.life,.list false (rs.data.map Dat.d),.mrow O 0 0]]⟩:=kp hst4;have kO4:h4 O=some ⟨160,[]⟩:=kp hst4;have hs4:RStep h h4 R n n4:=(rv hs9 hst4);have hN2l:(ag 1 (y,bd3)).1<256^1:=ko 1 (y,bd3);obtain⟨N2,hN2e⟩:∃ N,N=(ag 1 (y,bd3)).1:=⟨_,rfl⟩
  try rw[<- hN2e]
  rw[<- hN2e] at hN2l;have e4:=oG (u:=N2) (by omega)
  obtain⟨y4,hy4e⟩:∃ x,x=(ag 1 (y,bd3)).2.1:=⟨_,rfl⟩;obtain⟨qQ,hby4e⟩:∃ b,b=(ag 1 (y,bd3)).2.2:=⟨_,rfl⟩;rw[<- hy4e,<- hby4e] at hR4;have hy4l:y4.length<=1000000000:=by rw[hy4e];exact Yc (fK 1 (y,bd3)) hyl
  have hu4:(ag 1 (y,bd3)).2=(y4,qQ):=by rw[hy4e,hby4e]
  have ff:=qA @hR4 (qI @kr4 @kC4 @kO4 (nG R n4) (nG r n4) (nG C n4) (nG O n4) @e4 ff);refine av Jl ?_;refine ae ?_;refine aa Jl ?_;refine ah ?_;refine dD (α:=(Nat)×(List RSig)×(Str)×(Bool)×(Nat)×(H)×Nat) [0,3,4,5,8,9] (fun ⟨j,g,xs,bs2,r2,hq2,nx⟩=>(j<=N2)/\(eU N2 [] (y4,qQ)=eU (N2-j) g (xs,bs2))/\(g.length=j)/\(∃ f:Bool,hq2 R=some ⟨99,[[.list f ((xs).map bD),.v (.bool bs2)]]⟩)/\(hq2 C=some ⟨66,[[.v (.string (bs rs.name)),.i rs.ty,.i rs.life,.list false (rs.data.map Dat.d),.mrow r2 0 j]]⟩)/\(hq2 r2=some ⟨160,g.map RSig.d⟩)/\(hq2 r=some ⟨66,o.map Sgd.d⟩)/\(RStep h hq2 R n nx)/\(C<r2)/\(r2<nx)/\(xs.length<=1000000000)/\True) (fun ⟨j,g,xs,bs2,r2,hq2,nx⟩=>N2-j) (fun ⟨j,g,xs,bs2,r2,hq2,nx⟩=>[(10,.i j)]) (fun ⟨j,g,xs,bs2,r2,hq2,nx⟩=>hq2) (fun ⟨j,g,xs,bs2,r2,hq2,nx⟩=>nx) (0,[],y4,qQ,O,h4,_) (hA:=⟨iv,rfl,rfl,(by first|(exact⟨f4,hR4⟩)|(dsimp only;exact⟨f4,hR4⟩)),(by first|(exact kC4)|(dsimp only;exact kC4)),(by first|(exact kO4)|(dsimp only;exact kO4)),(by first|(exact kr4)|(dsimp only;exact kr4)),(by first|(exact hs4.up om)|(dsimp only;exact hs4.up om)),(by first|(omega)|(dsimp only;omega)),(by first|(omega)|(dsimp only;omega)),(by first|(exact hy4l)|(dsimp only;exact hy4l)),trivial⟩) (round:=?_)
  rintro⟨j,g,xs,bs2,r2,hq2,nx⟩ ⟨hj,hps2,hol2,hb12,hC,hg,hr12,hstB,hCr,hr2x,hxsl, -⟩;simp only[X0,X3];obtain⟨fs2,hR12⟩:=hb12;have ff:=qG @hR12 @hC @hg @hr12 (nG R nx) (nG r nx) (qI (nG C nx) (nG r2 nx) (nH R r) (nH C R) (nH R r2) (nH C r) (nH r r2) (nH C r2) ff);refine oL Jl (fun c3=>?_) (fun c3=>?_) (hq:=rfl)
  .
   have hj2:j<N2:=by have:=c3.1;omega
   have hbf2:bs2=false:=by have:=c3.2;simpa using this
   subst hbf2;obtain⟨M2,hM2⟩:∃ M,N2-j=M+1:=⟨N2-j-1,om⟩;refine ae ?_;refine ah ?_;refine ae (aD Jl 1 (hct:=by exact yF (xs,false) _ _ R ⟨fs2,ev⟩ hxsl) (hk:=?_))
   rintro res h5 n5 ⟨rfl,qy,hst5⟩
   try dsimp only at hst5
   have hl5:=hst5.1;obtain⟨f5,hR5⟩:=qy;have kr5:h5 r=some ⟨66,o.map Sgd.d⟩:=kp hst5;have kC5:h5 C=some ⟨66,[[.v (.string (bs rs.name)),.i rs.ty,.i rs.life,.list false (rs.data.map Dat.d),.mrow r2 0 j]]⟩:=kp hst5;have kr25:h5 r2=some ⟨160,g.map RSig.d⟩:=kp hst5;have hs5:RStep h h5 R n n5:=(rv hstB hst5);obtain⟨zt,hzt⟩:∃ z,z=(aj (xs,false)).1:=⟨_,rfl⟩
   try rw[<- hzt]
   have hl5x:((aj (xs,false)).2).1.length<=1000000000:=Yc (xB (xs,false)) hxsl;have ff:=qI @hR5 @kr5 @kC5 @kr25 (nG R n5) (nG r n5) (nG C n5) (nG r2 n5) ff;refine av Jl ?_;refine ae (aD Jl 1 (hct:=by exact nM (nN 0 (aj (xs,false)).2) _ _ R ⟨f5,ev⟩ (Yc (nU 0 _) hl5x)) (hk:=?_))
   rintro res h6 n6 ⟨rfl,hq6,hst6⟩
   try dsimp only at hst6
   have hl6:=hst6.1;obtain⟨f6,hR6⟩:=hq6;have kr6:h6 r=some ⟨66,o.map Sgd.d⟩:=kp hst6;have kC6:h6 C=some ⟨66,[[.v (.string (bs rs.name)),.i rs.ty,.i rs.life,.list false (rs.data.map Dat.d),.mrow r2 0 j]]⟩:=kp hst6;have kr26:h6 r2=some ⟨160,g.map RSig.d⟩:=kp hst6;have hs6:RStep h h6 R n n6:=(rv hs5 hst6);have hv6:IntKind.i64.wrap (((ag 8 (nN 0 (aj (xs,false)).2)).1:Nat):Int)=nV 0 (aj (xs,false)).2:=rfl;have ff:=qA @hR6 (qI @kr6 @kC6 @kr26 (nG R n6) (nG r n6) (nG C n6) (nG r2 n6) @hv6 ff);refine av Jl ?_;refine ae (aD Jl 1 (hct:=by exact nM (nN 1 (aj (xs,false)).2) _ _ R ⟨f6,ev⟩ (Yc (nU 1 _) hl5x)) (hk:=?_))
   rintro res h7 n7 ⟨rfl,qx,hst7⟩
   try dsimp only at hst7
   have wy:=hst7.1;obtain⟨f7,hR7⟩:=qx;have kr7:h7 r=some ⟨66,o.map Sgd.d⟩:=kp hst7;have kC7:h7 C=some ⟨66,[[.v (.string (bs rs.name)),.i rs.ty,.i rs.life,.list false (rs.data.map Dat.d),.mrow r2 0 j]]⟩:=kp hst7;have kr27:h7 r2=some ⟨160,g.map RSig.d⟩:=kp hst7;have hs7:RStep h h7 R n n7:=(rv hs6 hst7);have hv7:IntKind.i64.wrap (((ag 8 (nN 1 (aj (xs,false)).2)).1:Nat):Int)=nV 1 (aj (xs,false)).2:=rfl;have ff:=qA @hR7 (qI @kr7 @kC7 @kr27 (nG R n7) (nG r n7) (nG C n7) (nG r2 n7) @hv7 ff);refine av Jl ?_;refine ae (aD Jl 1 (hct:=by exact nM (nN 2 (aj (xs,false)).2) _ _ R ⟨f7,ev⟩ (Yc (nU 2 _) hl5x)) (hk:=?_))
   rintro res h8 n8 ⟨rfl,hq8,hst8⟩
   try dsimp only at hst8
   have gW:=hst8.1;obtain⟨f8,hR8⟩:=hq8;have kr8:h8 r=some ⟨66,o.map Sgd.d⟩:=kp hst8;have kC8:h8 C=some ⟨66,[[.v (.string (bs rs.name)),.i rs.ty,.i rs.life,.list false (rs.data.map Dat.d),.mrow r2 0 j]]⟩:=kp hst8;have kr28:h8 r2=some ⟨160,g.map RSig.d⟩:=kp hst8;have hs8:RStep h h8 R n n8:=(rv hs7 hst8);have hv8:IntKind.i64.wrap (((ag 8 (nN 2 (aj (xs,false)).2)).1:Nat):Int)=nV 2 (aj (xs,false)).2:=rfl;have ff:=qA @hR8 (qI @kr8 @kC8 @kr28 (nG R n8) (nG r n8) (nG C n8) (nG r2 n8) @hv8 ff);refine av Jl ?_;refine ae (aD Jl 1 (hct:=by exact nM (nN 3 (aj (xs,false)).2) _ _ R ⟨f8,ev⟩ (Yc (nU 3 _) hl5x)) (hk:=?_))
   rintro res h9 n9 ⟨rfl,hq9,hst9⟩
   try dsimp only at hst9
   have mP:=hst9.1;obtain⟨f9,hR9⟩:=hq9;have kr9:h9 r=some ⟨66,o.map Sgd.d⟩:=kp hst9;have kC9:h9 C=some ⟨66,[[.v (.string (bs rs.name)),.i rs.ty,.i rs.life,.list false (rs.data.map Dat.d),.mrow r2 0 j]]⟩:=kp hst9;have kr29:h9 r2=some ⟨160,g.map RSig.d⟩:=kp hst9;have hs9:RStep h h9 R n n9:=(rv hs8 hst9);have hv9:IntKind.i64.wrap (((ag 8 (nN 3 (aj (xs,false)).2)).1:Nat):Int)=nV 3 (aj (xs,false)).2:=rfl;have ff:=qA @hR9 (qI @kr9 @kC9 @kr29 (nG R n9) (nG r n9) (nG C n9) (nG r2 n9) @hv9 ff);refine av Jl ?_;refine q19 _ _ _ _ R C r2 j g (nN 4 (aj (xs,false)).2) f9 zt (nV 0 (aj (xs,false)).2) (nV 1 (aj (xs,false)).2) (nV 2 (aj (xs,false)).2) (nV 3 (aj (xs,false)).2) _ _ _ _ rfl rfl rfl rfl rfl rfl rfl ev ev ev hol2 om (Yc (nU 4 _) hl5x) om om oW ?_;intro t9 hA nA fA hlow hlA hRA kCA kgA hkA
   try dsimp only at hlA hkA
   have krA:hA r=some ⟨66,o.map Sgd.d⟩:=(hkA r om om om om).trans ev;have hsA:RStep h hA R n nA:=⟨om,fun q q1 q2=>(hkA q om q2 om om).trans (hs9.2 q q1 q2)⟩
   have hsig:=Oj (xs,false);rw[<- hzt] at hsig;have hRA:hA R=some ⟨99,[[.list fA (((eF (xs,false)).2.1).map bD),.v (.bool (eF (xs,false)).2.2)]]⟩:=hRA;have kgA:hA (nA+11)=some ⟨160,(g++[(eF (xs,false)).1]).map RSig.d⟩:=by rw[hsig];exact kgA
   have l0:t9 0 = .mptr R 0 0:=(hlow 0 om).trans rfl;have l3:t9 3 = .mrow r 0 k:=(hlow 3 om).trans rfl;have l4:t9 4 = .i N:=(hlow 4 om).trans rfl;have l5:t9 5 = .i k:=(hlow 5 om).trans rfl;have l8:t9 8 = .mptr C 0 0:=(hlow 8 om).trans rfl;have l9:t9 9 = .i N2:=(hlow 9 om).trans rfl;have l10:t9 10 = .i j:=(hlow 10 om).trans rfl;have ff:=qG hRA kCA kgA krA l0 l3 (qI l4 l5 l8 l9 l10 (nG R nA) (nG r nA) (nG C nA) ff);refine ai Jl ?_
   show ∃ _,_
   exact au (j+1,g++[(eF (xs,false)).1],(eF (xs,false)).2.1,(eF (xs,false)).2.2,(nA+11),_,_) (h1:=⟨iv,(by (try dsimp only);rw[hps2,hM2,Bh,show N2-(j+1)=M2 by omega]),(by (try dsimp only);rw[List.length_append,hol2];rfl),(by first|(exact⟨fA,hRA⟩)|(dsimp only;exact⟨fA,hRA⟩)),(by first|(exact kCA)|(dsimp only;exact kCA)),(by first|(exact kgA)|(dsimp only;exact kgA)),(by first|(exact krA)|(dsimp only;exact krA)),(by first|(exact hsA.up (by omega))|(dsimp only;exact hsA.up (by omega))),(by first|(omega)|(dsimp only;omega)),(by first|(omega)|(dsimp only;omega)),(by (try dsimp only);exact Nat.le_trans (nU 5 _) hl5x),trivial⟩) (h5:=fun _=>.inl rfl)
  have hps8:eU N2 [] (y4,qQ)=(g,(xs,bs2)):=by (rw[hps2];cases hbd:bs2 with|true=>exact xP rfl g _|false=>rw[hbd] at c3;have:N2-j=0:=(by simp at c3;omega);rw[this];rfl)
  have hfull:=Ox (g:=g) (x4:=xs) (b4:=bs2) hset hu4 (by first|exact hps8|(rw[<- hN2e];exact hps8))
  refine aB ?_;refine kZ C 4 r2 (rows:=g.map RSig.d) (off:=0) (len:=j) ev rfl ev om (by simp[hol2]) vS ?_
  simp only[X7,lF,YL,YD];rw[Yp (by simp[hol2])]
  refine ai Jl ?_;refine ai Jl ?_
  show ∃ _,_
  exact au (k+1,o++[(dI (x,false)).1],(dI (x,false)).2.1,(dI (x,false)).2.2,(nx+13),_,_) (h1:=⟨iv,(by (try dsimp only);rw[hps,hM,xR,show N-(k+1)=M by omega]),(by (try dsimp only);rw[List.length_append,hol];rfl),(by (try dsimp only);rw[hfull];exact⟨fs2,ev⟩),(by (try dsimp only);rw[hfull];simp only[go_sem,ff,List.map_append,List.map_cons,List.map_nil];first|done|exact rfl),(by (try dsimp only);exact (rv hstB (RStep.refl (Nat.le_refl _)))),(by first|(omega)|(dsimp only;omega)),(by first|(omega)|(dsimp only;omega)),(by first|(rw[hfull];exact hxsl)|(dsimp only;rw[hfull];exact hxsl)),trivial⟩) (h5:=fun _=>.inl rfl)
 have hps9:fC N [] (x4,b4)=(o,(x,bd)):=by (rw[hps];cases hbd:bd with|true=>exact xU rfl o _|false=>rw[hbd] at c1;have:N-k=0:=(by simp at c1;omega);rw[this];rfl)
 refine aB ?_
 refine wM 3 r (rows:=o.map Sgd.d) (off:=0) (len:=k) ev ev (by simp[hol]) uh ?_
 rw[X7,Yp (by simp[hol])]
 refine aa Jl ?_
 refine aI ?_
 exact aU (_) (hh:=fun _=>.inl rfl) (hr:=oS (k:=by rw[hpe,hps9];exact⟨rfl,⟨fs,ev⟩,(rv hst (RStep.refl (XY _)))⟩))
end Go.Proofs.YtjngdcldglkolaaGreatDoor
namespace Go.Proofs.YtjngdcldglkolaaGreatDoor
open Go.DL Go.Str Go.Rec Go.Cmp Go.Zon Go.Jn
set_option maxRecDepth 10000
variable [Glob Tryz.prog] [Told]
noncomputable def c9:Code:=(dA (lU (lW (dA (lU (lU (dA (lW (dA (dA (dA (dA (dA (Tryz.f58.body.getD .skip))))))))))))))
theorem q9 {ro:Option Nat}{Q:Exit->S->Prop}(t:Nat->D) (h:H) (nx:Nat) (e:Env) (R C r2 j:Nat) (g:List Qst) (st:RS) (f9:Bool) (zt:Str) (a b c d:D)
  (t0:t 0 = .mptr R 0 0) (t3:t 3 = .mptr C 0 0) (t6:t 6 = .v (.string (bs zt)))
  (hR:h R=some ⟨99,[[.list f9 (st.1.map bD),.v (.bool st.2)]]⟩) (hC:h C=some ⟨31,[[a,b,c,.mrow r2 0 j,d]]⟩) (hg:h r2=some ⟨86,g.map Qst.d⟩) (hj:g.length=j) (hjb:j<=10000000000)
  (hx:st.1.length<=1000000000) (hRC:R<C) (hCr:C<r2) (hrn:r2<nx)
  (hk : ∀ (t':Nat->D) (h':H) (nA:Nat) (f:Bool),(∀ i,i<35->t' i=t i)->nx<=nA->h' R=some ⟨99,[[.list f ((ag 1 st).2.1.map bD),.v (.bool (ag 1 st).2.2)]]⟩->h' C=some ⟨31,[[a,b,c,.mrow (nA+8) 0 (j+1),d]]⟩ ->
   h' (nA+8)=some ⟨86,(g++[(⟨zt,sN (ag 1 st).1⟩:Qst)]).map Qst.d⟩->(∀ q,q<nx->q≠R->q≠C->q≠r2->h' q=h q)->Q .normal { n:=49,t:=t',h:=h',nx:=nA+11,e:=e }) :
  DW Tryz.prog ro c9 Q { n:=49,t:=t,h:=h,nx:=nx,e:=e }:=by
 have e1:IntKind.i64.wrap (((ag 1 st).1:Nat):Int)=sN (ag 1 st).1:=rfl
 have ff:=qA t0 (qI t3 t6 hR hC hg (nH C R) (nH R r2) (nH C r2) e1)
 unfold c9 Tryz.f58
 simp only[YT,dA,lW,lU]
 refine zZ Jl 4 5 8 [(1,35)] (R:=_) (X:=fun _ _ _=>False) (hct:=by exact (BH st _ _ R ⟨f9,ev⟩ hx).xct) (hp:=fun c9 h9 n9 hx9=>hx9.elim) (hkeep:=?_) (hFo:=?_) (hk:=?_)
 .
  rintro res h2 n2 ⟨_,_,hst9⟩ p hp r9 hrr;simp only[Yq] at hp;subst hp;simp only[go_sem,ff,sd,named,YE] at hrr ⊢;subst hrr;exact hst9.2 _ oW om
 .
  rintro res h2 n2 ⟨rfl,_,_⟩
  (try simp only[X8,X7,X4,Yf,S.put,Yr,Nat.reduceSub,Nat.reduceAdd,go_sem,ff])
  all_goals exact ok0
 rintro res hA nA ⟨rfl,hqA,hstA⟩
 try dsimp only at hstA
 have hlA:=hstA.1
 obtain⟨fA,hRA⟩:=hqA
 have kC:hA C=some ⟨31,[[a,b,c,.mrow r2 0 j,d]]⟩:=(hstA.2 C om om).trans hC
 have kg:hA r2=some ⟨86,g.map Qst.d⟩:=(hstA.2 r2 om om).trans hg
 have n2 : ∀ k:Nat,(nA+k=R)=False:=fun k=>Y7 om
 have ff:=qH hRA kC kg (nG R nA) n2 (nG C nA) (nG r2 nA) ff
 refine wC ?_
 refine aO Jl ?_
 try simp only[aG]
 refine hk _ _ nA fA (fun i hi=>?_) om ev ev (by simp only[go_sem,ff,YM,Yb,Yt];first|done|exact rfl) (fun q q1 q2 q3 q4=>?_)
 .
  simp only[upd]
  repeat rw[XZ (by omega)]
 simp only[upd]
 repeat rw[XZ (by omega)]
 exact hstA.2 q om q2
theorem Ri {st0:RS}{x:Str}{b:Bool}{o:List Qst}(h:eG (ag 4 (nN 2 (aj st0).2)).1 [] (ag 4 (nN 2 (aj st0).2)).2=(o,(x,b))):bA st0=(⟨(aj st0).1,nV 0 (aj st0).2,nV 1 (aj st0).2,o,(ed (x,b)).1⟩,(ed (x,b)).2):=by
 show (⟨(aj st0).1,nV 0 (aj st0).2,nV 1 (aj st0).2,(eG (ag 4 (nN 2 (aj st0).2)).1 [] (ag 4 (nN 2 (aj st0).2)).2).1,(ed (eG (ag 4 (nN 2 (aj st0).2)).1 [] (ag 4 (nN 2 (aj st0).2)).2).2).1⟩,(ed (eG (ag 4 (nN 2 (aj st0).2)).1 [] (ag 4 (nN 2 (aj st0).2)).2).2).2)=((_,_):Dlt×RS)
 rw[h]
set_option maxHeartbeats 4000000
theorem Qp (st:RS) (h:H) (n R:Nat) (hb:gG h R st) (hx:st.1.length<=1000000000):RCt Tryz.prog 57 [.mptr R 0 0] h n (fun d h' n'=>d = .agg (cz st).1.d/\gG h' R (cz st).2/\RStep h h' R n n'):=by
 refine oP Tryz.func57 fun hnone ff=>?_
 unfold Tryz.f57
 obtain⟨f,hR⟩:=hb
 have hRn:R<n:=by rcases YV R n with q|q;exact q;rw[hnone R q] at hR;cases hR
 have ff:=qD @hR (nG R n) (nH R n) ff
 refine aa Jl ?_
 refine ae (aD Jl 1 (hct:=by exact yF st _ _ R ⟨f,ev⟩ hx) (hk:=?_))
 rintro res h2 n2 ⟨rfl,hq2,hst2⟩
 try dsimp only at hst2
 have hl2:=hst2.1
 obtain⟨f2,hR2⟩:=hq2
 have kn2:h2 n=some ⟨28,[[.v (.string (bs [])),.list true []]]⟩:=kp hst2
 have hs2:RStep h h2 R n n2:=(rv (RStep.refl (h:=h) (R:=R) (XY n)) hst2)
 have hx2:=Yc (xB st) hx
 have ff:=qE @hR2 @kn2 (nG R n2) (nG n n2) ff
 refine av Jl ?_
 refine ae (aD Jl 2 (hct:=by exact GL (aj st).2 _ _ R ⟨f2,ev⟩ hx2) (hk:=?_))
 rintro res h3 n3 ⟨rfl,hq3,hst3⟩
 try dsimp only at hst3
 have hl3:=hst3.1
 obtain⟨f3,hR3⟩:=hq3
 have kn3:h3 n=some ⟨28,[[.v (.string (bs [])),.list true []]]⟩:=kp hst3
 have hs3:RStep h h3 R n n3:=(rv hs2 hst3)
 have ff:=qE @hR3 @kn3 (nG R n3) (nG n n3) ff
 refine av Jl ?_
 refine aI ?_
 exact aU (_) (hh:=fun _=>.inl rfl) (hr:=oS (k:=by exact⟨rfl,⟨f3,ev⟩,(rv hs3 (RStep.refl (XY _)))⟩))
theorem GY (st0:RS) (h:H) (n R:Nat) (hb:gG h R st0) (hx:st0.1.length<=1000000000):RCt Tryz.prog 58 [.mptr R 0 0] h n (fun d h' n'=>d = .agg (bA st0).1.d/\gG h' R (bA st0).2/\RStep h h' R n n'):=by
 refine oP Tryz.func58 fun hnone ff=>?_
 unfold Tryz.f58
 obtain⟨f,hR⟩:=hb
 have hRn:R<n:=by rcases YV R n with q|q;exact q;rw[hnone R q] at hR;cases hR
 have ff:=qD @hR (nG R n) (nH R n) ff
 refine aa Jl ?_
 refine ae (aD Jl 1 (hct:=by exact yF st0 _ _ R ⟨f,ev⟩ hx) (hk:=?_))
 rintro res ha na ⟨rfl,hqa,hsta⟩
 try dsimp only at hsta
 have hla:=hsta.1
 obtain⟨fa,hRa⟩:=hqa
 have kna:ha n=some ⟨31,[[.v (.string (bs [])),.i 0,.i 0,.list true [],.list true []]]⟩:=kp hsta
 have hsa:RStep h ha R n na:=(rv (RStep.refl (h:=h) (R:=R) (XY n)) hsta)
 obtain⟨zt,hzt⟩:∃ z,z=(aj st0).1:=⟨_,rfl⟩
 try rw[<- hzt]
 have hxa:(aj st0).2.1.length<=1000000000:=Yc (xB st0) hx
 have ff:=qE @hRa @kna (nG R na) (nG n na) ff
 refine av Jl ?_
 obtain⟨C,hCe⟩:∃ C,C=na+3:=⟨_,rfl⟩
 rw[<- hCe]
 have ff:=qD (nH R n) (nH C R) (nH C n) ff
 refine ae (aD Jl 1 (hct:=by exact nM (nN 0 (aj st0).2) _ _ R ⟨fa,ev⟩ hxa) (hk:=?_))
 rintro res hb nb ⟨rfl,hqb,hstb⟩
 try dsimp only at hstb
 have hlb:=hstb.1
 obtain⟨fb,hRb⟩:=hqb
 have knb:hb n=some ⟨31,[[.v (.string (bs [])),.i 0,.i 0,.list true [],.list true []]]⟩:=kp hstb
 have kCb:hb C=some ⟨31,[[.v (.string (bs zt)),.i 0,.i 0,.list true [],.list true []]]⟩:=kp hstb
 have hsb:RStep h hb R n nb:=(rv hsa hstb)
 have hv0:IntKind.i64.wrap (((ag 8 (nN 0 (aj st0).2)).1:Nat):Int)=nV 0 (aj st0).2:=rfl
 have ff:=qH @hRb @knb @kCb (nG R nb) (nG n nb) (nG C nb) @hv0 ff
 refine av Jl ?_
 refine ae (aD Jl 1 (hct:=by exact nM (nN 1 (aj st0).2) _ _ R ⟨fb,ev⟩ (Yc (nU 1 _) hxa)) (hk:=?_))
 rintro res hc nc ⟨rfl,hqc,hstc⟩
 try dsimp only at hstc
 have hlc:=hstc.1
 obtain⟨fc,hRc⟩:=hqc
 have knc:hc n=some ⟨31,[[.v (.string (bs [])),.i 0,.i 0,.list true [],.list true []]]⟩:=kp hstc
 have kCc:hc C=some ⟨31,[[.v (.string (bs zt)),.i (nV 0 (aj st0).2),.i 0,.list true [],.list true []]]⟩:=kp hstc
 have hsc:RStep h hc R n nc:=(rv hsb hstc)
 have hv1:IntKind.i64.wrap (((ag 8 (nN 1 (aj st0).2)).1:Nat):Int)=nV 1 (aj st0).2:=rfl
 have ff:=qH @hRc @knc @kCc (nG R nc) (nG n nc) (nG C nc) @hv1 ff
 refine av Jl ?_
 refine nu C 3 31 86 ev (by rfl) (by simp only[go_sem,ff]) ?_
 simp only[YL,YD]
 obtain⟨r,hre⟩:∃ r,r=(nc+5):=⟨_,rfl⟩
 rw[<- hre]
 have ff:=qG (nH R n) (nH C R) (nH R r) (nH C n) (nH n r) (nH C r) ff
 refine ae (aD Jl 1 (hct:=by exact BG (nN 2 (aj st0).2) _ _ R ⟨fc,ev⟩ (Yc (nU 2 _) hxa)) (hk:=?_))
 rintro res he ne ⟨rfl,hqe,hste⟩
 try dsimp only at hste
 have hle:=hste.1
 obtain⟨fe,hRe⟩:=hqe
 have kne:he n=some ⟨31,[[.v (.string (bs [])),.i 0,.i 0,.list true [],.list true []]]⟩:=kp hste
 have kCe:he C=some ⟨31,[[.v (.string (bs zt)),.i (nV 0 (aj st0).2),.i (nV 1 (aj st0).2),.mrow r 0 0,.list true []]]⟩:=kp hste
 have kre:he r=some ⟨86,[]⟩:=kp hste
 have hse:RStep h he R n ne:=(rv hsc hste)
 have hNl:(ag 4 (nN 2 (aj st0).2)).1<256^4:=ko 4 _
 obtain⟨N,hNe⟩:∃ N,N=(ag 4 (nN 2 (aj st0).2)).1:=⟨_,rfl⟩
 try rw[<- hNe]
 rw[<- hNe] at hNl
 have e1:=oG (u:=N) (by omega)
 obtain⟨x4,hx4e⟩:∃ x,x=(ag 4 (nN 2 (aj st0).2)).2.1:=⟨_,rfl⟩
 obtain⟨b4,hb4e⟩:∃ b,b=(ag 4 (nN 2 (aj st0).2)).2.2:=⟨_,rfl⟩
 rw[<- hx4e,<- hb4e] at hRe
 have hx4:x4.length<=1000000000:=by rw[hx4e];exact Yc (fK 4 _) (Yc (nU 2 _) hxa)
 have hpe:eG (ag 4 (nN 2 (aj st0).2)).1 [] (ag 4 (nN 2 (aj st0).2)).2=eG N [] (x4,b4):=by rw[hNe,hx4e,hb4e]
 have ff:=qA @hRe (qI @kne @kCe @kre (nG R ne) (nG n ne) (nG C ne) (nG r ne) @e1 ff)
 refine av Jl ?_
 refine ae ?_
 refine aa Jl ?_
 refine ah ?_
 refine dD (α:=(Nat)×(List Qst)×(Str)×(Bool)×(Nat)×(H)×Nat) [0,2,3,4] (fun ⟨k,o,x,bd,r,hq,nx⟩=>(k<=N)/\(eG N [] (x4,b4)=eG (N-k) o (x,bd))/\(o.length=k)/\(∃ f:Bool,hq R=some ⟨99,[[.list f ((x).map bD),.v (.bool bd)]]⟩)/\(hq C=some ⟨31,[[.v (.string (bs zt)),.i (nV 0 (aj st0).2),.i (nV 1 (aj st0).2),.mrow r 0 k,.list true []]]⟩)/\(hq r=some ⟨86,o.map Qst.d⟩)/\(hq n=some ⟨31,[[.v (.string (bs [])),.i 0,.i 0,.list true [],.list true []]]⟩)/\(RStep h hq R n nx)/\(C<r)/\(r<nx)/\(x.length<=1000000000)/\True) (fun ⟨k,o,x,bd,r,hq,nx⟩=>N-k) (fun ⟨k,o,x,bd,r,hq,nx⟩=>[(5,.i k)]) (fun ⟨k,o,x,bd,r,hq,nx⟩=>hq) (fun ⟨k,o,x,bd,r,hq,nx⟩=>nx) (0,[],x4,b4,r,he,_) (hA:=⟨iv,rfl,rfl,(by first|(exact⟨fe,hRe⟩)|(dsimp only;exact⟨fe,hRe⟩)),(by first|(exact kCe)|(dsimp only;exact kCe)),(by first|(exact kre)|(dsimp only;exact kre)),(by first|(exact kne)|(dsimp only;exact kne)),(by first|(exact hse.up om)|(dsimp only;exact hse.up om)),(by first|(omega)|(dsimp only;omega)),(by first|(omega)|(dsimp only;omega)),(by first|(exact hx4)|(dsimp only;exact hx4)),trivial⟩) (round:=?_)
 rintro⟨k,o,x,bd,r,hq,nx⟩ ⟨hk,hps,hol,hb7,hC,hr,hn,hst,hCr,hrx,hxl, -⟩
 simp only[X0,X3]
 obtain⟨fs,hR7⟩:=hb7
 have hlx:=hst.1
 have ff:=qG @hR7 @hC @hr @hn (nG R nx) (nG n nx) (qI (nG C nx) (nG r nx) (nH R n) (nH C R) (nH R r) (nH C n) (nH n r) (nH C r) ff)
 refine oL Jl (fun c1=>?_) (fun c1=>?_) (hq:=rfl)
 .
  have hk2:k<N:=by have:=c1.1;omega
  have hbf:bd=false:=by have:=c1.2;simpa using this
  subst hbf;obtain⟨M,hM⟩:∃ M,N-k=M+1:=⟨N-k-1,om⟩;refine ae ?_;refine ah ?_;refine ae (aD Jl 1 (hct:=by exact yF (x,false) _ _ R ⟨fs,ev⟩ hxl) (hk:=?_))
  rintro res hg ng ⟨rfl,hqg,hstg⟩
  try dsimp only at hstg
  have hlg:=hstg.1;obtain⟨fg,hRg⟩:=hqg;have kng:hg n=some ⟨31,[[.v (.string (bs [])),.i 0,.i 0,.list true [],.list true []]]⟩:=kp hstg;have kCg:hg C=some ⟨31,[[.v (.string (bs zt)),.i (nV 0 (aj st0).2),.i (nV 1 (aj st0).2),.mrow r 0 k,.list true []]]⟩:=kp hstg;have krg:hg r=some ⟨86,o.map Qst.d⟩:=kp hstg;have hsg:RStep h hg R n ng:=(rv hst hstg);obtain⟨qt,hqt⟩:∃ z,z=(aj (x,false)).1:=⟨_,rfl⟩
  try rw[<- hqt]
  have hxg:(aj (x,false)).2.1.length<=1000000000:=Yc (xB (x,false)) hxl;have ff:=qI @hRg @kng @kCg @krg (nG R ng) (nG n ng) (nG C ng) (nG r ng) ff;refine av Jl ?_;refine q9 _ _ _ _ R C r k o (aj (x,false)).2 fg qt _ _ _ _ rfl rfl rfl ev ev ev hol om hxg om om oW ?_;intro t9 hA nA fA hlow hlA hRA kCA kgA hkA
  try dsimp only at hlA hkA
  have knA:hA n=some ⟨31,[[.v (.string (bs [])),.i 0,.i 0,.list true [],.list true []]]⟩:=(hkA n om om om om).trans ev;have hsA:RStep h hA R n nA:=⟨om,fun q q1 q2=>(hkA q om q2 om om).trans (hsg.2 q q1 q2)⟩
  have hqo:fV (x,false)=(⟨qt,sN (ag 1 (aj (x,false)).2).1⟩,(ag 1 (aj (x,false)).2).2):=by rw[hqt];rfl
  have hRA:hA R=some ⟨99,[[.list fA (((fV (x,false)).2.1).map bD),.v (.bool (fV (x,false)).2.2)]]⟩:=hRA;have kgA:hA (nA+8)=some ⟨86,(o++[(fV (x,false)).1]).map Qst.d⟩:=by rw[hqo];exact kgA
  have l0:t9 0 = .mptr R 0 0:=(hlow 0 om).trans rfl;have l2:t9 2 = .mptr n 0 0:=(hlow 2 om).trans rfl;have l3:t9 3 = .mptr C 0 0:=(hlow 3 om).trans rfl;have l4:t9 4 = .i N:=(hlow 4 om).trans rfl;have l5:t9 5 = .i k:=(hlow 5 om).trans rfl;have ff:=qE hRA kCA kgA knA (qI l0 l2 l3 l4 l5 (nG R nA) (nG n nA) (nG C nA) ff);refine ai Jl ?_
  show ∃ _,_
  exact au (k+1,o++[(fV (x,false)).1],(fV (x,false)).2.1,(fV (x,false)).2.2,(nA+8),_,_) (h1:=⟨iv,(by (try dsimp only);rw[hps,hM,BJ,show N-(k+1)=M by omega]),(by (try dsimp only);rw[List.length_append,hol];rfl),(by first|(exact⟨fA,hRA⟩)|(dsimp only;exact⟨fA,hRA⟩)),(by first|(exact kCA)|(dsimp only;exact kCA)),(by first|(exact kgA)|(dsimp only;exact kgA)),(by first|(exact knA)|(dsimp only;exact knA)),(by first|(exact hsA.up (by omega))|(dsimp only;exact hsA.up (by omega))),(by first|(omega)|(dsimp only;omega)),(by first|(omega)|(dsimp only;omega)),(by (try dsimp only);exact Nat.le_trans (fK 1 _) hxg),trivial⟩) (h5:=fun _=>.inl rfl)
 have hps9:eG N [] (x4,b4)=(o,(x,bd)):=by (rw[hps];cases hbd:bd with|true=>exact tZ rfl o _|false=>rw[hbd] at c1;have:N-k=0:=(by simp at c1;omega);rw[this];rfl)
 have hfull:=Ri (hpe.trans hps9)
 refine aB ?_
 refine kZ C 3 r (rows:=o.map Qst.d) (off:=0) (len:=k) ev rfl ev om (by simp[hol]) Il ?_
 simp only[X7,lF,YL,YD]
 rw[Yp (by simp[hol])]
 refine ae (aD Jl 1 (hct:=by exact GL (x,bd) _ _ R ⟨fs,ev⟩ hxl) (hk:=?_))
 rintro res hi ni ⟨rfl,hqi,hsti⟩
 try dsimp only at hsti
 have hli:=hsti.1
 obtain⟨fi,hRi⟩:=hqi
 have kni:hi n=some ⟨31,[[.v (.string (bs [])),.i 0,.i 0,.list true [],.list true []]]⟩:=kp hsti
 have kCi:hi C=some ⟨31,[[.v (.string (bs zt)),.i (nV 0 (aj st0).2),.i (nV 1 (aj st0).2),.list false (o.map Qst.d),.list true []]]⟩:=kp hsti
 have hsi:RStep h hi R n ni:=(rv hst hsti)
 have ff:=qG @hRi @kni @kCi (nG R ni) (nG n ni) (nG C ni) ff
 refine av Jl ?_
 refine aa Jl ?_
 refine aI ?_
 exact aU (_) (hh:=fun _=>.inl rfl) (hr:=oS (k:=by rw[hfull,<- hzt];exact⟨rfl,⟨fi,ev⟩,(rv hsi (RStep.refl (XY _)))⟩))
end Go.Proofs.YtjngdcldglkolaaGreatDoor
namespace Go.Proofs.YtjngdcldglkolaaGreatDoor
open Go.DL Go.Str Go.Rec Go.Cmp Go.Zon Go.Jn
set_option maxRecDepth 10000
variable [Glob Tryz.prog] [Told]
theorem Fq (o:Str) (g:RSig):o++ay g.zone++ak g.key++ak g.alg++ak g.frm++ak g.unt++ak g.sum=o++eu g:=by simp[eu]
theorem xW (o:Str) (s:Sgd):o++bg (setB s.set).length 2++setB s.set++[bM s.sigs.length]++(s.sigs.drop 0).flatMap eu=o++bP s:=by simp[bP]
theorem dE {r q:Nat}{L:Nat}(h:r≠q):iJ (.mrow r 0 L) q=false:=by simp[iJ,h]
set_option maxHeartbeats 4000000 in
theorem GM (b:Str) (x:D) (l:List Sgd) (h:H) (n:Nat) (hx:lD h x b) (hl : ∀ s∈l,uP s) (hl2:l.length<=20000) (hb:b.length<=100000000000):RCt Tryz.prog 90 [x,.list false (l.map Sgd.d)] h n (fun d h' n'=>lC (b++dB l) x h n d h' n'):=by
 refine oP Tryz.func90 fun hnone ff=>?_
 unfold Tryz.f90
 have e1:=jW (n:=l.length) (by omega)
 have hx0:=hx
 obtain⟨xo,hxo⟩:∃ xo,xo=x:=⟨_,rfl⟩
 have ff:=qA @e1 ff
 refine aa Jl ?_
 rcases hx with rfl|⟨r,rfl,hr⟩
 .
  refine ae (dF Jl 4 (hct:=by exact yC l.length b _ _ _ hx0 om om) (hk:=?_))
  rintro res h1 n1 ⟨r1,rfl,hr1,hrn1,hrm1,hk1⟩
  try dsimp only at hrm1 hk1
  have ff:=qA @hr1 ff;refine av Jl ?_;refine ae ?_;refine aa Jl ?_;refine ah ?_;refine dD (α:=(Nat)×(Str)×(Nat)×(H)×Nat) [1] (fun ⟨k,o,r8,hq,nx⟩=>(k<=l.length)/\(o++(l.drop k).flatMap bP=b++dB l)/\(o.length<=b.length+4+k*80000)/\(hq r8=some ⟨5,o.map bD⟩)/\(r8<nx)/\(n<=r8)/\(∀ q,q<n->iJ xo q=false->hq q=h q)/\True) (fun ⟨k,o,r8,hq,nx⟩=>l.length-k) (fun ⟨k,o,r8,hq,nx⟩=>[(0,.mrow r8 0 o.length),(5,.i k)]) (fun ⟨k,o,r8,hq,nx⟩=>hq) (fun ⟨k,o,r8,hq,nx⟩=>nx) (0,b++bg l.length 4,r1,h1,_) (hA:=⟨iv,(by first|(simp[dB])|(dsimp only;simp[dB])),(by first|(simp[bF])|(dsimp only;simp[bF])),(by first|(exact hr1)|(dsimp only;exact hr1)),(by first|(omega)|(dsimp only;omega)),(by first|(omega)|(dsimp only;omega)),(by (try dsimp only);exact fun q q1 q2=>hk1 q (by omega) (by rw[<- hxo];exact q2)),trivial⟩) (round:=?_)
  rintro⟨k,o,r8,hq,nx⟩ ⟨hk,ho,hol,hr8,hrx,hrm,hkp, -⟩;simp only[X0,X3];have ff:=qB @hr8 (nG r8 nx) ff;refine oL Jl (fun c1=>?_) (fun c1=>?_)
  .
   have hk2:k<l.length:=by omega
   have hgz:=hl _ (by rw[getElem!_pos l k hk2];exact Yv hk2:l[k]! ∈ l)
   have hsl:=vC hgz.set;have hsg:=hgz.len;have hgl:=xV hgz;have e2:=jW (n:=(setB l[k]!.set).length) (by omega)
   have e4:=AB l[k]!.sigs.length;have ff:=qD (bJ hk2) @e2 @e4 ff;refine ae ?_;refine ah ?_;refine aa Jl ?_ (hok:=oH (FP l[k]!.set hgz.set));refine ae (dF Jl 4 (hct:=by exact GG (setB l[k]!.set).length o _ _ _ (.inr ⟨_,rfl,ev⟩) om om) (hk:=?_))
   rintro res hy ny ⟨ry,rfl,hry,hrny,hrmy,hky⟩
   try dsimp only at hrmy hky
   have hl2b:(o++bg (setB l[k]!.set).length 2).length=o.length+2:=by rw[XV,bF]
   have ff:=qA @hry ff;refine av Jl ?_;refine oD Jl ?_;refine ah ?_;refine dw_nh (fun hz hze=>?_)
   dsimp only at hze ⊢;have hzr:hz (ny+19)=some ⟨5,(o++bg (setB l[k]!.set).length 2++setB l[k]!.set++[bM l[k]!.sigs.length]).map bD⟩:=by rw[hze];simp only[go_sem,ff];simp[bD]
   have hzk : ∀ q,q<n->iJ xo q=false->hz q=h q:=fun q q1 q2=>by (rw[hze];simp only[upd];repeat (first|rfl|rw[XZ (by omega)]));exact (hky q (by omega) (dE (by omega))).trans (hkp q q1 q2)
   refine dD (α:=(Nat)×(Str)×(Nat)×(H)×Nat) [1,5] (fun ⟨j,o2,r9,hq2,nx⟩=>(j<=l[k]!.sigs.length)/\(o2++(l[k]!.sigs.drop j).flatMap eu=o++bP l[k]!)/\(o2.length<=o.length+1100+j*300)/\(hq2 r9=some ⟨5,o2.map bD⟩)/\(r9<nx)/\(n<=r9)/\(∀ q,q<n->iJ xo q=false->hq2 q=h q)/\True) (fun ⟨j,o2,r9,hq2,nx⟩=>l[k]!.sigs.length-j) (fun ⟨j,o2,r9,hq2,nx⟩=>[(0,.mrow r9 0 o2.length),(7,.i j)]) (fun ⟨j,o2,r9,hq2,nx⟩=>hq2) (fun ⟨j,o2,r9,hq2,nx⟩=>nx) (0,o++bg (setB l[k]!.set).length 2++setB l[k]!.set++[bM l[k]!.sigs.length],(ny+19),hz,_) (hA:=⟨iv,(by first|(exact xW o l[k]!)|(dsimp only;exact xW o l[k]!)),(by (try dsimp only);simp only[List.length_append,bF,List.length_cons,List.length_nil];omega),(by first|(exact hzr)|(dsimp only;exact hzr)),(by first|(omega)|(dsimp only;omega)),(by first|(omega)|(dsimp only;omega)),(by first|(exact hzk)|(dsimp only;exact hzk)),trivial⟩) (round:=?_)
   rintro⟨j,o2,r9,hq2,nx⟩ ⟨hj,ho2,hol2,hr9,hrx2,hrm2b,hkp2, -⟩;simp only[X0,X3];have ff:=qB @hr9 (nG r9 nx) ff;refine oL Jl (fun c2=>?_) (fun c2=>?_)
   .
    have hj2:j<l[k]!.sigs.length:=by omega
    have hgs:=hgz.sig _ (by rw[getElem!_pos l[k]!.sigs j hj2];exact Yv hj2:l[k]!.sigs[j]! ∈ l[k]!.sigs)
    have hzl:=hgs.zone;have hsm:=hgs.sum;have e3:=AX hsm;have e4:=xQ hgs;have ff:=qB (lV hj2) (Am l[k]!.sigs[j]!.sum) ff;refine ae ?_;refine ah ?_;refine aa Jl ?_;obtain⟨q8,hq8⟩:∃ q,q=nx+16:=⟨_,rfl⟩;rw[<- hq8];have ff:=qA (nH q8 r9) ff;refine ae (dF Jl 3 (hct:=by exact yG (o2) l[k]!.sigs[j]!.zone _ _ _ (.inr ⟨_,rfl,ev⟩) om om) (hk:=?_))
    rintro res ha na ⟨ra,rfl,hra,hrna,hrma,hka⟩
    try dsimp only at hrma hka
    have hqa:ha q8=some ⟨160,[l[k]!.sigs[j]!.d]⟩:=(hka q8 om (dE om)).trans ev;have hla:(o2++ay l[k]!.sigs[j]!.zone).length<=o2.length+300:=by simp only[XV,aX,bE];omega
    have ff:=qF @hra (nG ra na) @hqa (nG q8 na) (nH q8 ra) ff;refine av Jl ?_;refine ae (dF Jl 3 (hct:=by exact mE (o2++ay l[k]!.sigs[j]!.zone) _ l[k]!.sigs[j]!.key _ _ (.inr ⟨_,rfl,ev⟩) om) (hk:=?_))
    rintro res hb nb ⟨rb,rfl,hrb,hrnb,hrmb,hkb⟩
    try dsimp only at hrmb hkb
    have hqb:hb q8=some ⟨160,[l[k]!.sigs[j]!.d]⟩:=(hkb q8 om (dE om)).trans ev;have hlb:(o2++ay l[k]!.sigs[j]!.zone++ak l[k]!.sigs[j]!.key).length<=o2.length+300:=by simp only[XV,aX,bE];omega
    have ff:=qF @hrb (nG rb nb) @hqb (nG q8 nb) (nH q8 rb) ff;refine av Jl ?_;refine ae (dF Jl 3 (hct:=by exact mE (o2++ay l[k]!.sigs[j]!.zone++ak l[k]!.sigs[j]!.key) _ l[k]!.sigs[j]!.alg _ _ (.inr ⟨_,rfl,ev⟩) om) (hk:=?_))
    rintro res hc nc ⟨rc,rfl,hrc,hrnc,hrmc,hkc⟩
    try dsimp only at hrmc hkc
    have hqc:hc q8=some ⟨160,[l[k]!.sigs[j]!.d]⟩:=(hkc q8 om (dE om)).trans ev;have hlc:(o2++ay l[k]!.sigs[j]!.zone++ak l[k]!.sigs[j]!.key++ak l[k]!.sigs[j]!.alg).length<=o2.length+300:=by simp only[XV,aX,bE];omega
    have ff:=qF @hrc (nG rc nc) @hqc (nG q8 nc) (nH q8 rc) ff;refine av Jl ?_;refine ae (dF Jl 3 (hct:=by exact mE (o2++ay l[k]!.sigs[j]!.zone++ak l[k]!.sigs[j]!.key++ak l[k]!.sigs[j]!.alg) _ l[k]!.sigs[j]!.frm _ _ (.inr ⟨_,rfl,ev⟩) om) (hk:=?_))
    rintro res hd nd ⟨rd,rfl,hrd,hrnd,hrmd,hkd⟩
    try dsimp only at hrmd hkd
    have hqd:hd q8=some ⟨160,[l[k]!.sigs[j]!.d]⟩:=(hkd q8 om (dE om)).trans ev;have hld:(o2++ay l[k]!.sigs[j]!.zone++ak l[k]!.sigs[j]!.key++ak l[k]!.sigs[j]!.alg++ak l[k]!.sigs[j]!.frm).length<=o2.length+300:=by simp only[XV,aX,bE];omega
    have ff:=qF @hrd (nG rd nd) @hqd (nG q8 nd) (nH q8 rd) ff;refine av Jl ?_;refine ae (dF Jl 3 (hct:=by exact mE (o2++ay l[k]!.sigs[j]!.zone++ak l[k]!.sigs[j]!.key++ak l[k]!.sigs[j]!.alg++ak l[k]!.sigs[j]!.frm) _ l[k]!.sigs[j]!.unt _ _ (.inr ⟨_,rfl,ev⟩) om) (hk:=?_))
    rintro res he ne ⟨re,rfl,hre,hrne,hrme,hke⟩
    try dsimp only at hrme hke
    have hqe:he q8=some ⟨160,[l[k]!.sigs[j]!.d]⟩:=(hke q8 om (dE om)).trans ev;have hle:(o2++ay l[k]!.sigs[j]!.zone++ak l[k]!.sigs[j]!.key++ak l[k]!.sigs[j]!.alg++ak l[k]!.sigs[j]!.frm++ak l[k]!.sigs[j]!.unt).length<=o2.length+300:=by simp only[XV,aX,bE];omega
    have ff:=qF @hre (nG re ne) @hqe (nG q8 ne) (nH q8 re) ff;refine av Jl ?_;refine dF Jl 3 (hct:=by exact (by have q9:=fun H9 n9 x9 (hB9:lD H9 x9 (o2++ay l[k]!.sigs[j]!.zone++ak l[k]!.sigs[j]!.key++ak l[k]!.sigs[j]!.alg++ak l[k]!.sigs[j]!.frm++ak l[k]!.sigs[j]!.unt))=>pU (uN l[k]!.sigs[j]!.sum) (o2++ay l[k]!.sigs[j]!.zone++ak l[k]!.sigs[j]!.key++ak l[k]!.sigs[j]!.alg++ak l[k]!.sigs[j]!.frm++ak l[k]!.sigs[j]!.unt) x9 H9 n9 hB9 (nK _) (by omega);simp only[e3] at q9;exact q9 _ _ _ (.inr ⟨_,rfl,ev⟩))) (hk:=?_)
    rintro res hf nf ⟨rf,rfl,hrf,hrnf,hrmf,hkf⟩
    try dsimp only at hrmf hkf
    have hlf:(o2++ay l[k]!.sigs[j]!.zone++ak l[k]!.sigs[j]!.key++ak l[k]!.sigs[j]!.alg++ak l[k]!.sigs[j]!.frm++ak l[k]!.sigs[j]!.unt++ak l[k]!.sigs[j]!.sum).length<=o2.length+300:=by simp only[XV,aX,bE];omega
    have ff:=qB @hrf (nG rf nf) ff;refine av Jl ?_;refine ai Jl ?_
    show ∃ _,_
    exact au (j+1,o2++ay l[k]!.sigs[j]!.zone++ak l[k]!.sigs[j]!.key++ak l[k]!.sigs[j]!.alg++ak l[k]!.sigs[j]!.frm++ak l[k]!.sigs[j]!.unt++ak l[k]!.sigs[j]!.sum,rf,hf,_) (h1:=⟨iv,(by (try dsimp only);rw[<- ho2,nz hj2 eu,Fq,List.append_assoc]),(by (try dsimp only);simp only[eu,List.length_append,aX,bE] at e4 ⊢;omega),(by first|(exact hrf)|(dsimp only;exact hrf)),(by first|(omega)|(dsimp only;omega)),(by first|(omega)|(dsimp only;omega)),(by (try dsimp only);exact fun q q1 q2=>(hkf q (by omega) (dE (by omega))).trans ((hke q (by omega) (dE (by omega))).trans ((hkd q (by omega) (dE (by omega))).trans ((hkc q (by omega) (dE (by omega))).trans ((hkb q (by omega) (dE (by omega))).trans ((hka q (by omega) (dE (by omega))).trans ((by simp only[upd];repeat (first|rfl|rw[if_neg (by omega)])):_=hq2 q) |>.trans (hkp2 q q1 q2))))))),trivial⟩)
   have hj3:j=l[k]!.sigs.length:=by omega
   subst hj3;rw[Zg,List.flatMap_nil,YC] at ho2;refine aB ?_;refine ai Jl ?_
   show ∃ _,_
   exact au (k+1,o2,r9,hq2,_) (h1:=⟨iv,(by (try dsimp only);rw[<- ho,nz hk2 bP,<- List.append_assoc,ho2]),(by (try dsimp only);have:=congrArg List.length ho2;rw[List.length_append] at this;omega),(by first|(exact hr9)|(dsimp only;exact hr9)),(by first|(omega)|(dsimp only;omega)),(by first|(omega)|(dsimp only;omega)),(by first|(exact hkp2)|(dsimp only;exact hkp2)),trivial⟩)
  have hk3:k=l.length:=by omega
  subst hk3;rw[Zg,List.flatMap_nil,YC] at ho;refine aB ?_;refine aa Jl ?_;refine aI ?_;exact aU (_) (hh:=fun _=>.inl rfl) (hr:=oS (k:=by subst hxo;rw[<- ho];exact⟨r8,rfl,hr8,om,hrm,hkp⟩))
 have hrn:r<n:=by rcases YV r n with q|q;exact q;rw[hnone r q] at hr;cases hr
 have ff:=qB @hr (nG r n) ff
 refine ae (dF Jl 4 (hct:=by exact yC l.length b _ _ _ hx0 om om) (hk:=?_))
 rintro res h1 n1 ⟨r1,rfl,hr1,hrn1,hrm1,hk1⟩
 try dsimp only at hrm1 hk1
 have ff:=qA @hr1 ff
 refine av Jl ?_
 refine ae ?_
 refine aa Jl ?_
 refine ah ?_
 refine dD (α:=(Nat)×(Str)×(Nat)×(H)×Nat) [1] (fun ⟨k,o,r8,hq,nx⟩=>(k<=l.length)/\(o++(l.drop k).flatMap bP=b++dB l)/\(o.length<=b.length+4+k*80000)/\(hq r8=some ⟨5,o.map bD⟩)/\(r8<nx)/\(n<=r8)/\(∀ q,q<n->iJ xo q=false->hq q=h q)/\True) (fun ⟨k,o,r8,hq,nx⟩=>l.length-k) (fun ⟨k,o,r8,hq,nx⟩=>[(0,.mrow r8 0 o.length),(5,.i k)]) (fun ⟨k,o,r8,hq,nx⟩=>hq) (fun ⟨k,o,r8,hq,nx⟩=>nx) (0,b++bg l.length 4,r1,h1,_) (hA:=⟨iv,(by first|(simp[dB])|(dsimp only;simp[dB])),(by first|(simp[bF])|(dsimp only;simp[bF])),(by first|(exact hr1)|(dsimp only;exact hr1)),(by first|(omega)|(dsimp only;omega)),(by first|(omega)|(dsimp only;omega)),(by (try dsimp only);exact fun q q1 q2=>hk1 q (by omega) (by rw[<- hxo];exact q2)),trivial⟩) (round:=?_)
 rintro⟨k,o,r8,hq,nx⟩ ⟨hk,ho,hol,hr8,hrx,hrm,hkp, -⟩
 simp only[X0,X3]
 have ff:=qB @hr8 (nG r8 nx) ff
 refine oL Jl (fun c1=>?_) (fun c1=>?_)
 .
  have hk2:k<l.length:=by omega
  have hgz:=hl _ (by rw[getElem!_pos l k hk2];exact Yv hk2:l[k]! ∈ l)
  have hsl:=vC hgz.set;have hsg:=hgz.len;have hgl:=xV hgz;have e2:=jW (n:=(setB l[k]!.set).length) (by omega)
  have e4:=AB l[k]!.sigs.length;have ff:=qD (bJ hk2) @e2 @e4 ff;refine ae ?_;refine ah ?_;refine aa Jl ?_ (hok:=oH (FP l[k]!.set hgz.set));refine ae (dF Jl 4 (hct:=by exact GG (setB l[k]!.set).length o _ _ _ (.inr ⟨_,rfl,ev⟩) om om) (hk:=?_))
  rintro res hy ny ⟨ry,rfl,hry,hrny,hrmy,hky⟩
  try dsimp only at hrmy hky
  have hl2b:(o++bg (setB l[k]!.set).length 2).length=o.length+2:=by rw[XV,bF]
  have ff:=qA @hry ff;refine av Jl ?_;refine oD Jl ?_;refine ah ?_;refine dw_nh (fun hz hze=>?_)
  dsimp only at hze ⊢;have hzr:hz (ny+19)=some ⟨5,(o++bg (setB l[k]!.set).length 2++setB l[k]!.set++[bM l[k]!.sigs.length]).map bD⟩:=by rw[hze];simp only[go_sem,ff];simp[bD]
  have hzk : ∀ q,q<n->iJ xo q=false->hz q=h q:=fun q q1 q2=>by (rw[hze];simp only[upd];repeat (first|rfl|rw[XZ (by omega)]));exact (hky q (by omega) (dE (by omega))).trans (hkp q q1 q2)
  refine dD (α:=(Nat)×(Str)×(Nat)×(H)×Nat) [1,5] (fun ⟨j,o2,r9,hq2,nx⟩=>(j<=l[k]!.sigs.length)/\(o2++(l[k]!.sigs.drop j).flatMap eu=o++bP l[k]!)/\(o2.length<=o.length+1100+j*300)/\(hq2 r9=some ⟨5,o2.map bD⟩)/\(r9<nx)/\(n<=r9)/\(∀ q,q<n->iJ xo q=false->hq2 q=h q)/\True) (fun ⟨j,o2,r9,hq2,nx⟩=>l[k]!.sigs.length-j) (fun ⟨j,o2,r9,hq2,nx⟩=>[(0,.mrow r9 0 o2.length),(7,.i j)]) (fun ⟨j,o2,r9,hq2,nx⟩=>hq2) (fun ⟨j,o2,r9,hq2,nx⟩=>nx) (0,o++bg (setB l[k]!.set).length 2++setB l[k]!.set++[bM l[k]!.sigs.length],(ny+19),hz,_) (hA:=⟨iv,(by first|(exact xW o l[k]!)|(dsimp only;exact xW o l[k]!)),(by (try dsimp only);simp only[List.length_append,bF,List.length_cons,List.length_nil];omega),(by first|(exact hzr)|(dsimp only;exact hzr)),(by first|(omega)|(dsimp only;omega)),(by first|(omega)|(dsimp only;omega)),(by first|(exact hzk)|(dsimp only;exact hzk)),trivial⟩) (round:=?_)
  rintro⟨j,o2,r9,hq2,nx⟩ ⟨hj,ho2,hol2,hr9,hrx2,hrm2b,hkp2, -⟩;simp only[X0,X3];have ff:=qB @hr9 (nG r9 nx) ff;refine oL Jl (fun c2=>?_) (fun c2=>?_)
  .
   have hj2:j<l[k]!.sigs.length:=by omega
   have hgs:=hgz.sig _ (by rw[getElem!_pos l[k]!.sigs j hj2];exact Yv hj2:l[k]!.sigs[j]! ∈ l[k]!.sigs)
   have hzl:=hgs.zone;have hsm:=hgs.sum;have e3:=AX hsm;have e4:=xQ hgs;have ff:=qB (lV hj2) (Am l[k]!.sigs[j]!.sum) ff;refine ae ?_;refine ah ?_;refine aa Jl ?_;obtain⟨q8,hq8⟩:∃ q,q=nx+16:=⟨_,rfl⟩;rw[<- hq8];have ff:=qA (nH q8 r9) ff;refine ae (dF Jl 3 (hct:=by exact yG (o2) l[k]!.sigs[j]!.zone _ _ _ (.inr ⟨_,rfl,ev⟩) om om) (hk:=?_))
   rintro res ha na ⟨ra,rfl,hra,hrna,hrma,hka⟩
   try dsimp only at hrma hka
   have hqa:ha q8=some ⟨160,[l[k]!.sigs[j]!.d]⟩:=(hka q8 om (dE om)).trans ev;have hla:(o2++ay l[k]!.sigs[j]!.zone).length<=o2.length+300:=by simp only[XV,aX,bE];omega
   have ff:=qF @hra (nG ra na) @hqa (nG q8 na) (nH q8 ra) ff;refine av Jl ?_;refine ae (dF Jl 3 (hct:=by exact mE (o2++ay l[k]!.sigs[j]!.zone) _ l[k]!.sigs[j]!.key _ _ (.inr ⟨_,rfl,ev⟩) om) (hk:=?_))
   rintro res hb nb ⟨rb,rfl,hrb,hrnb,hrmb,hkb⟩
   try dsimp only at hrmb hkb
   have hqb:hb q8=some ⟨160,[l[k]!.sigs[j]!.d]⟩:=(hkb q8 om (dE om)).trans ev;have hlb:(o2++ay l[k]!.sigs[j]!.zone++ak l[k]!.sigs[j]!.key).length<=o2.length+300:=by simp only[XV,aX,bE];omega
   have ff:=qF @hrb (nG rb nb) @hqb (nG q8 nb) (nH q8 rb) ff;refine av Jl ?_;refine ae (dF Jl 3 (hct:=by exact mE (o2++ay l[k]!.sigs[j]!.zone++ak l[k]!.sigs[j]!.key) _ l[k]!.sigs[j]!.alg _ _ (.inr ⟨_,rfl,ev⟩) om) (hk:=?_))
   rintro res hc nc ⟨rc,rfl,hrc,hrnc,hrmc,hkc⟩
   try dsimp only at hrmc hkc
   have hqc:hc q8=some ⟨160,[l[k]!.sigs[j]!.d]⟩:=(hkc q8 om (dE om)).trans ev;have hlc:(o2++ay l[k]!.sigs[j]!.zone++ak l[k]!.sigs[j]!.key++ak l[k]!.sigs[j]!.alg).length<=o2.length+300:=by simp only[XV,aX,bE];omega
   have ff:=qF @hrc (nG rc nc) @hqc (nG q8 nc) (nH q8 rc) ff;refine av Jl ?_;refine ae (dF Jl 3 (hct:=by exact mE (o2++ay l[k]!.sigs[j]!.zone++ak l[k]!.sigs[j]!.key++ak l[k]!.sigs[j]!.alg) _ l[k]!.sigs[j]!.frm _ _ (.inr ⟨_,rfl,ev⟩) om) (hk:=?_))
   rintro res hd nd ⟨rd,rfl,hrd,hrnd,hrmd,hkd⟩
   try dsimp only at hrmd hkd
   have hqd:hd q8=some ⟨160,[l[k]!.sigs[j]!.d]⟩:=(hkd q8 om (dE om)).trans ev;have hld:(o2++ay l[k]!.sigs[j]!.zone++ak l[k]!.sigs[j]!.key++ak l[k]!.sigs[j]!.alg++ak l[k]!.sigs[j]!.frm).length<=o2.length+300:=by simp only[XV,aX,bE];omega
   have ff:=qF @hrd (nG rd nd) @hqd (nG q8 nd) (nH q8 rd) ff;refine av Jl ?_;refine ae (dF Jl 3 (hct:=by exact mE (o2++ay l[k]!.sigs[j]!.zone++ak l[k]!.sigs[j]!.key++ak l[k]!.sigs[j]!.alg++ak l[k]!.sigs[j]!.frm) _ l[k]!.sigs[j]!.unt _ _ (.inr ⟨_,rfl,ev⟩) om) (hk:=?_))
   rintro res he ne ⟨re,rfl,hre,hrne,hrme,hke⟩
   try dsimp only at hrme hke
   have hqe:he q8=some ⟨160,[l[k]!.sigs[j]!.d]⟩:=(hke q8 om (dE om)).trans ev;have hle:(o2++ay l[k]!.sigs[j]!.zone++ak l[k]!.sigs[j]!.key++ak l[k]!.sigs[j]!.alg++ak l[k]!.sigs[j]!.frm++ak l[k]!.sigs[j]!.unt).length<=o2.length+300:=by simp only[XV,aX,bE];omega
   have ff:=qF @hre (nG re ne) @hqe (nG q8 ne) (nH q8 re) ff;refine av Jl ?_;refine dF Jl 3 (hct:=by exact (by have q9:=fun H9 n9 x9 (hB9:lD H9 x9 (o2++ay l[k]!.sigs[j]!.zone++ak l[k]!.sigs[j]!.key++ak l[k]!.sigs[j]!.alg++ak l[k]!.sigs[j]!.frm++ak l[k]!.sigs[j]!.unt))=>pU (uN l[k]!.sigs[j]!.sum) (o2++ay l[k]!.sigs[j]!.zone++ak l[k]!.sigs[j]!.key++ak l[k]!.sigs[j]!.alg++ak l[k]!.sigs[j]!.frm++ak l[k]!.sigs[j]!.unt) x9 H9 n9 hB9 (nK _) (by omega);simp only[e3] at q9;exact q9 _ _ _ (.inr ⟨_,rfl,ev⟩))) (hk:=?_)
   rintro res hf nf ⟨rf,rfl,hrf,hrnf,hrmf,hkf⟩
   try dsimp only at hrmf hkf
   have hlf:(o2++ay l[k]!.sigs[j]!.zone++ak l[k]!.sigs[j]!.key++ak l[k]!.sigs[j]!.alg++ak l[k]!.sigs[j]!.frm++ak l[k]!.sigs[j]!.unt++ak l[k]!.sigs[j]!.sum).length<=o2.length+300:=by simp only[XV,aX,bE];omega
   have ff:=qB @hrf (nG rf nf) ff;refine av Jl ?_;refine ai Jl ?_
   show ∃ _,_
   exact au (j+1,o2++ay l[k]!.sigs[j]!.zone++ak l[k]!.sigs[j]!.key++ak l[k]!.sigs[j]!.alg++ak l[k]!.sigs[j]!.frm++ak l[k]!.sigs[j]!.unt++ak l[k]!.sigs[j]!.sum,rf,hf,_) (h1:=⟨iv,(by (try dsimp only);rw[<- ho2,nz hj2 eu,Fq,List.append_assoc]),(by (try dsimp only);simp only[eu,List.length_append,aX,bE] at e4 ⊢;omega),(by first|(exact hrf)|(dsimp only;exact hrf)),(by first|(omega)|(dsimp only;omega)),(by first|(omega)|(dsimp only;omega)),(by (try dsimp only);exact fun q q1 q2=>(hkf q (by omega) (dE (by omega))).trans ((hke q (by omega) (dE (by omega))).trans ((hkd q (by omega) (dE (by omega))).trans ((hkc q (by omega) (dE (by omega))).trans ((hkb q (by omega) (dE (by omega))).trans ((hka q (by omega) (dE (by omega))).trans ((by simp only[upd];repeat (first|rfl|rw[if_neg (by omega)])):_=hq2 q) |>.trans (hkp2 q q1 q2))))))),trivial⟩)
  have hj3:j=l[k]!.sigs.length:=by omega
  subst hj3;rw[Zg,List.flatMap_nil,YC] at ho2;refine aB ?_;refine ai Jl ?_
  show ∃ _,_
  exact au (k+1,o2,r9,hq2,_) (h1:=⟨iv,(by (try dsimp only);rw[<- ho,nz hk2 bP,<- List.append_assoc,ho2]),(by (try dsimp only);have:=congrArg List.length ho2;rw[List.length_append] at this;omega),(by first|(exact hr9)|(dsimp only;exact hr9)),(by first|(omega)|(dsimp only;omega)),(by first|(omega)|(dsimp only;omega)),(by first|(exact hkp2)|(dsimp only;exact hkp2)),trivial⟩)
 have hk3:k=l.length:=by omega
 subst hk3
 rw[Zg,List.flatMap_nil,YC] at ho
 refine aB ?_
 refine aa Jl ?_
 refine aI ?_
 exact aU (_) (hh:=fun _=>.inl rfl) (hr:=oS (k:=by subst hxo;rw[<- ho];exact⟨r8,rfl,hr8,om,hrm,hkp⟩))
end Go.Proofs.YtjngdcldglkolaaGreatDoor
namespace Go.Proofs.YtjngdcldglkolaaGreatDoor
open Go.DL Go.Str Go.Rec Go.Cmp Go.Zon Go.Jn
set_option maxRecDepth 10000
variable [Glob Tryz.prog] [Told]
theorem GR (k:Nat) (w:Str) (h:H) (n:Nat) (hw:w.length<=4000000000):RCt Tryz.prog 100 [.list true [[.v (.int .u8 ((bM k).toNat:Int))]],.v (.int .u64 ((w.length:Nat):Int)),.i 4] h n (fun d h' n'=>lC (fZ (bM k) w.length) (.list true [[.v (.int .u8 ((bM k).toNat:Int))]]) h n d h' n') :=
 yC w.length [bM k] _ h n (.inl rfl) om (by simp)
theorem GX (k:Nat) (w:Str) (x:D) (h:H) (n:Nat) (hx:x = .list false (w.map bD) \/ ∃ r,x = .mrow r 0 w.length/\h r=some ⟨5,w.map bD⟩) (hk:k<=255) (hw:w.length<=4000000000):RCt Tryz.prog 89 [.i k,x] h n (fun d h' n'=>∃ r',d = .mrow r' 0 (frmB (bM k) w).length/\h' r'=some ⟨5,(frmB (bM k) w).map bD⟩/\r'<n'):=by
 refine oP Tryz.func89 fun hnone ff=>?_
 unfold Tryz.f89
 have e1:=AB k
 have e2:=jW (n:=w.length) (by omega)
 have hhl:(fZ (bM k) w.length).length=5:=by simp[fZ,bF]
 have ff:=qB @e1 @e2 ff
 refine aa Jl ?_
 rcases hx with rfl|⟨r,rfl,hr⟩
 .
  refine aa Jl ?_;refine ae (dF Jl 4 (hct:=by exact GR k w _ _ hw) (hk:=?_))
  rintro res ha na ⟨ra,rfl,hra,hrna,hrma,hka⟩
  try dsimp only at hrma hka
  have ff:=qB @hra (nG ra na) ff;refine av Jl ?_;refine ae (dF Jl 3 (hok:=by (try simp only[go_sem,ff]);all_goals (first|exact ok0|exact tV _ om)) (hct:=by exact pU (dig (fZ (bM k) w.length)) (fZ (bM k) w.length) _ _ _ (.inr ⟨_,rfl,ev⟩) (uD _) om) (hk:=?_))
  rintro res hc nc ⟨rc,rfl,hrc,hrnc,hrmc,hkc⟩
  try dsimp only at hrmc hkc
  have mP:(bg (dig (fZ (bM k) w.length)) 8).length=8:=bF _ _;have ff:=qB @hrc (nG rc nc) ff;refine av Jl ?_;refine aa Jl ?_;refine ae (dF Jl 3 (hok:=by (try simp only[go_sem,ff]);all_goals (first|exact ok0|exact tV _ om)) (hct:=by exact pU (dig w) ((fZ (bM k) w.length)++bg (dig (fZ (bM k) w.length)) 8++w) _ _ _ (LP ev rfl (by first|rfl|(simp;done)) (by first|rfl|(simp;done)|(simp;omega))) (uD _) (by simp only[XV,bF];omega)) (hk:=?_))
  rintro res he ne ⟨re,rfl,hre,hrne,hrme,hke⟩
  try dsimp only at hrme hke
  have ff:=qB @hre (nG re ne) ff;refine av Jl ?_;refine aI ?_;exact aU (_) (hh:=fun _=>.inl rfl) (hr:=oS (k:=by exact⟨re,rfl,hre,om⟩))
 have hrn:r<n:=by rcases YV r n with q|q;exact q;rw[hnone r q] at hr;cases hr
 have ff:=qB @hr (nG r n) ff
 refine aa Jl ?_
 refine ae (dF Jl 4 (hct:=by exact GR k w _ _ hw) (hk:=?_))
 rintro res ha na ⟨ra,rfl,hra,hrna,hrma,hka⟩
 try dsimp only at hrma hka
 have hqa:ha r=some ⟨5,w.map bD⟩:=(hka r om (by first|rfl|exact dE om)).trans hr
 have ff:=qF @hra (nG ra na) @hqa (nH r ra) (nG r na) ff
 refine av Jl ?_
 refine ae (dF Jl 3 (hok:=by (try simp only[go_sem,ff]);all_goals (first|exact ok0|exact tV _ om)) (hct:=by exact pU (dig (fZ (bM k) w.length)) (fZ (bM k) w.length) _ _ _ (.inr ⟨_,rfl,ev⟩) (uD _) om) (hk:=?_))
 rintro res hc nc ⟨rc,rfl,hrc,hrnc,hrmc,hkc⟩
 try dsimp only at hrmc hkc
 have mP:(bg (dig (fZ (bM k) w.length)) 8).length=8:=bF _ _
 have hqc:hc r=some ⟨5,w.map bD⟩:=(hkc r om (by first|rfl|exact dE om)).trans hqa
 have ff:=qF @hrc (nG rc nc) @hqc (nH r rc) (nG r nc) ff
 refine av Jl ?_
 refine aa Jl ?_
 refine ae (dF Jl 3 (hok:=by (try simp only[go_sem,ff]);all_goals (first|exact ok0|exact tV _ om)) (hct:=by exact pU (dig w) ((fZ (bM k) w.length)++bg (dig (fZ (bM k) w.length)) 8++w) _ _ _ (LP ev rfl (by first|rfl|(simp;done)) (by first|rfl|(simp;done)|(simp;omega))) (uD _) (by simp only[XV,bF];omega)) (hk:=?_))
 rintro res he ne ⟨re,rfl,hre,hrne,hrme,hke⟩
 try dsimp only at hrme hke
 have ff:=qB @hre (nG re ne) ff
 refine av Jl ?_
 refine aI ?_
 exact aU (_) (hh:=fun _=>.inl rfl) (hr:=oS (k:=by exact⟨re,rfl,hre,om⟩))
end Go.Proofs.YtjngdcldglkolaaGreatDoor
namespace Go.Proofs.YtjngdcldglkolaaGreatDoor
open Go.DL Go.Str Go.Rec Go.Cmp Go.Zon Go.Jn
set_option maxRecDepth 10000
variable [Glob Tryz.prog] [Told]
theorem GI (t:Str) (h:H) (n:Nat) (ht:t.length<=10000):RCt Tryz.prog 91 [.list true [],.v (.string (bs t))] h n (fun d h' n'=>lC (ay t) (.list true []) h n d h' n'):=yG [] t _ h n (.inl rfl) (by simp) ht
theorem QH (w:Str) (x:D) (h:H) (n:Nat) (hx:x = .list false (w.map bD) \/ ∃ r,x = .mrow r 0 w.length/\h r=some ⟨5,w.map bD⟩) (hw:w.length<=4000000000):RCt Tryz.prog 89 [.i 1,x] h n (fun d h' n'=>∃ r',d = .mrow r' 0 (frmB 1 w).length/\h' r'=some ⟨5,(frmB 1 w).map bD⟩/\r'<n'):=GX 1 w x h n hx om hw
theorem QG (w:Str) (x:D) (h:H) (n:Nat) (hx:x = .list false (w.map bD) \/ ∃ r,x = .mrow r 0 w.length/\h r=some ⟨5,w.map bD⟩) (hw:w.length<=4000000000):RCt Tryz.prog 89 [.i 2,x] h n (fun d h' n'=>∃ r',d = .mrow r' 0 (frmB 2 w).length/\h' r'=some ⟨5,(frmB 2 w).map bD⟩/\r'<n'):=GX 2 w x h n hx om hw
theorem MJ (z:Zon):ay z.apex++dB z.sets=zonB z:=rfl
theorem QC (z:Zon) (hz:Ea z) (hz2:z.sets.length<=20000) (hzl:(zonB z).length<=4000000000):PureCt Tryz.prog 35 [.agg z.d] (.list false ((frmB 1 (zonB z)).map bD)):=by
 refine oO Tryz.func35 fun ff=>?_
 unfold Tryz.f35
 have hza:=hz.apex
 refine aa Jl ?_
 refine VA Jl 2 5 5 [(4,6)] (R:=_) (X:=fun _ _ _=>False) (hct:=by exact (GI z.apex _ _ om).xct) (hkeep:=?kp1) (hFo:=?fo1) (hk:=?kk1) (hp:=?pp1)
 case kp1 =>
  rintro res h2 n2 ⟨_,_,_,_,_,hk9⟩ p hp r9 hrr;simp only[Yq] at hp;subst hp;simp only[go_sem,ff,sd,named,YE] at hrr ⊢;subst hrr;exact hk9 0 oW rfl
 case fo1 =>
  intro res h2 n2 _
  (try simp only[X8,X7,X4,Yf,S.put,Yr,Nat.reduceSub,Nat.reduceAdd,go_sem,ff]);all_goals trivial
 case pp1 =>
  intro c9 h9 n9 hx9;exact hx9.elim
 rintro res ha na ⟨ra,rfl,hra,hrna,hrma,hka⟩
 try dsimp only at hrma hka
 have ff:=qB hra (nG ra na) ff
 refine wC ?_
 refine iZ (C:=Jl) 5 (R:=_) (by omega) (bC rfl) rfl rfl (by simp only[X8,X7,X4,Yf,S.put,Yr,Nat.reduceSub,go_sem,ff];first|done|exact rfl) ?_ ?_ ev (by simp only[go_sem,ff]) ev (by exact GM (ay z.apex) _ z.sets _ _ (.inr ⟨_,rfl,ev⟩) hz.sets hz2 (by rw[bE];omega)) ?_
 .
  try simp only[go_sem,ff]
  all_goals (exact ok0)
 .
  try simp only[go_sem,ff]
  all_goals (first|done|rfl|decide|simp)
 rintro res hb nb ⟨rb,rfl,hrb,hrnb,hrmb,hkb⟩
 try dsimp only at hrmb hkb
 rw[MJ] at hrb
 have ff:=qA hrb ff
 refine iZ (C:=Jl) 6 (R:=_) om (bC rfl) rfl rfl (by simp only[X8,X7,X4,Yf,S.put,Yr,Nat.reduceSub,go_sem,ff];first|done|exact rfl) ?_ ?_ ev (by simp only[go_sem,ff]) ev (by exact QH (zonB z) _ _ _ (.inr ⟨_,rfl,ev⟩) hzl) ?_
 .
  try simp only[go_sem,ff]
  all_goals (exact ok0)
 .
  try simp only[go_sem,ff]
  all_goals (first|done|rfl|decide|simp)
 rintro res hc nc ⟨rc,rfl,hrc,hrnc⟩
 have ff:=qA hrc ff
 refine aO Jl ?_
 try simp only[aG]
 exact fo 1 (k:=by first|rfl|(simp;done)|exact tq _|exact tu _)
theorem QD (d:Dlt) (hz:Eh d) (hz2:d.put.length<=20000) (hz3:d.drop.length<=20000) (hzl:(dltB d).length<=4000000000):PureCt Tryz.prog 42 [.agg d.d] (.list false ((frmB 2 (dltB d)).map bD)):=by
 refine oO Tryz.func42 fun ff=>?_
 unfold Tryz.f42
 have hza:=hz.apex
 have e1:=jW (n:=d.drop.length) (by omega)
 have ff:=qA @e1 ff
 refine aa Jl ?_
 refine ae (dF Jl 2 (hct:=by exact GI d.apex _ _ om) (hk:=?_))
 rintro res ha na ⟨ra,rfl,hra,hrna,hrma,hka⟩
 try dsimp only at hrma hka
 have h0a:ha 0=some ⟨31,[d.d]⟩:=(hka 0 oW (by first|rfl|exact dE om)).trans ev
 have z0a:0<ra:=by omega
 have y0a:0<na:=by omega
 have hl:(ay d.apex).length<=1000:=by simp only[XV,aX,bF,bE];omega
 have ff:=qF @hra @h0a (nH 0 ra) (nG ra na) (nG 0 na) ff
 refine av Jl ?_
 refine ae (dF Jl 3 (hct:=by exact mE (ay d.apex) _ d.frm _ _ (.inr ⟨_,rfl,ev⟩) om) (hk:=?_))
 rintro res hb nb ⟨rb,rfl,hrb,hrnb,hrmb,hkb⟩
 try dsimp only at hrmb hkb
 have h0b:hb 0=some ⟨31,[d.d]⟩:=(hkb 0 oW (by first|rfl|exact dE om)).trans ev
 have z0b:0<rb:=by omega
 have y0b:0<nb:=by omega
 have hl:(ay d.apex++ak d.frm).length<=1000:=by simp only[XV,aX,bF,bE];omega
 have ff:=qF @hrb @h0b (nH 0 rb) (nG rb nb) (nG 0 nb) ff
 refine av Jl ?_
 refine ae (dF Jl 3 (hct:=by exact mE (ay d.apex++ak d.frm) _ d.too _ _ (.inr ⟨_,rfl,ev⟩) om) (hk:=?_))
 rintro res hc nc ⟨rc,rfl,hrc,hrnc,hrmc,hkc⟩
 try dsimp only at hrmc hkc
 have h0c:hc 0=some ⟨31,[d.d]⟩:=(hkc 0 oW (by first|rfl|exact dE om)).trans ev
 have z0c:0<rc:=by omega
 have y0c:0<nc:=by omega
 have hl:(ay d.apex++ak d.frm++ak d.too).length<=1000:=by simp only[XV,aX,bF,bE];omega
 have ff:=qF @hrc @h0c (nH 0 rc) (nG rc nc) (nG 0 nc) ff
 refine av Jl ?_
 refine ae (dF Jl 5 (hct:=by exact yC d.drop.length (ay d.apex++ak d.frm++ak d.too) _ _ _ (.inr ⟨_,rfl,ev⟩) om om) (hk:=?_))
 rintro res he ne ⟨re,rfl,hre,hrne,hrme,hke⟩
 try dsimp only at hrme hke
 have h0e:he 0=some ⟨31,[d.d]⟩:=(hke 0 oW (by first|rfl|exact dE om)).trans ev
 have z0e:0<re:=by omega
 have y0e:0<ne:=by omega
 have hl:(ay d.apex++ak d.frm++ak d.too++bg d.drop.length 4).length<=1000:=by simp only[XV,aX,bF,bE];omega
 have ff:=qF @hre @h0e (nH 0 re) (nG re ne) (nG 0 ne) ff
 refine av Jl ?_
 refine ae ?_
 refine aa Jl ?_
 refine ah ?_
 refine dD (α:=(Nat)×(Str)×(Nat)×(H)×Nat) [1] (fun ⟨k,o,r8,hq,nx⟩=>(k<=d.drop.length)/\(o++(d.drop.drop k).flatMap je++dB d.put=dltB d)/\(o.length<=2000+k*400)/\(hq r8=some ⟨5,o.map bD⟩)/\(r8<nx)/\(0<r8)/\(hq 0=some ⟨31,[d.d]⟩)/\True) (fun ⟨k,o,r8,hq,nx⟩=>d.drop.length-k) (fun ⟨k,o,r8,hq,nx⟩=>[(3,.mrow r8 0 o.length),(4,.i k)]) (fun ⟨k,o,r8,hq,nx⟩=>hq) (fun ⟨k,o,r8,hq,nx⟩=>nx) (0,ay d.apex++ak d.frm++ak d.too++bg d.drop.length 4,re,he,_) (hA:=⟨iv,(by first|(simp[dltB])|(dsimp only;simp[dltB])),(by (try dsimp only);simp only[List.length_append,aX,bF,bE];omega),(by first|(exact hre)|(dsimp only;exact hre)),(by first|(omega)|(dsimp only;omega)),(by first|(omega)|(dsimp only;omega)),(by first|(exact h0e)|(dsimp only;exact h0e)),trivial⟩) (round:=?_)
 rintro⟨k,o,r8,hq,nx⟩ ⟨hk,ho,hol,hr8,hrx,hr80,h00, -⟩
 simp only[X0,X3]
 have ff:=qF @hr8 @h00 (nH 0 r8) (nG r8 nx) (nG 0 nx) ff
 refine oL Jl (fun c1=>?_) (fun c1=>?_)
 .
  have hk2:k<d.drop.length:=by omega
  have hgz:=hz.dropq _ (by rw[getElem!_pos d.drop k hk2];exact Yv hk2:d.drop[k]! ∈ d.drop)
  have hgn:=hgz.name;have hgl:=GK hgz;have hgt:=hgz.ty;have e5:IntKind.u8.wrap d.drop[k]!.ty=((dG (uN d.drop[k]!.ty) 0).toNat:Int):=by rw[IntKind.wrap_u8,wW];unfold uN;omega
  have ff:=qB (qz hk2) @e5 ff;refine ae ?_;refine ah ?_;refine ae (dF Jl 7 (hct:=by exact yG o d.drop[k]!.name _ _ _ (.inr ⟨_,rfl,ev⟩) om om) (hk:=?_))
  rintro res hf nf ⟨rf,rfl,hrf,hrnf,hrmf,hkf⟩
  try dsimp only at hrmf hkf
  have h0f:hf 0=some ⟨31,[d.d]⟩:=(hkf 0 oW (by first|rfl|exact dE om)).trans ev
  have z0f:0<rf:=by omega
  have y0f:0<nf:=by omega
  have mP:(o++ay d.drop[k]!.name).length<=o.length+300:=by rw[XV,bE];omega
  have ff:=qF @hrf @h0f (nH 0 rf) (nG rf nf) (nG 0 nf) ff;refine av Jl ?_;refine ai Jl ?_;refine ai Jl ?_
  show ∃ _,_
  exact au (k+1,o++ay d.drop[k]!.name++[dG (uN d.drop[k]!.ty) 0],(nf+18),_,_) (h1:=⟨iv,(by (try dsimp only);rw[<- ho,nz hk2 je];simp[je]),(by (try dsimp only);simp only[List.length_append,bE,List.length_cons,List.length_nil];omega),(by (try dsimp only);simp only[go_sem,ff];simp[bD]),(by first|(omega)|(dsimp only;omega)),(by first|(omega)|(dsimp only;omega)),(by (try dsimp only);simp only[go_sem,ff];first|done|exact rfl),trivial⟩) (h5:=fun _=>.inl rfl)
 have hk3:k=d.drop.length:=by omega
 subst hk3
 rw[Zg,List.flatMap_nil,YC] at ho
 refine aB ?_
 refine bq ?_
 refine iZ (C:=Jl) 3 (R:=_) om (bC rfl) rfl rfl (by simp only[X8,X7,X4,Yf,S.put,Yr,Nat.reduceSub,go_sem,ff];first|done|exact rfl) ?_ ?_ ev (by simp only[go_sem,ff]) ev (by exact GM o _ d.put _ _ (.inr ⟨_,rfl,ev⟩) hz.puts hz2 om) ?_
 .
  try simp only[go_sem,ff]
  all_goals (exact ok0)
 .
  try simp only[go_sem,ff]
  all_goals (first|done|rfl|decide|simp)
 rintro res hg ng ⟨rg,rfl,hrg,hrng,hrmg,hkg⟩
 try dsimp only at hrmg hkg
 rw[ho] at hrg
 have hog:(o++dB d.put)=dltB d:=ho
 have ff:=qB hrg hog ff
 rw[ho]
 refine iZ (C:=Jl) 4 (R:=_) om (bC rfl) rfl rfl (by simp only[X8,X7,X4,Yf,S.put,Yr,Nat.reduceSub,go_sem,ff];first|done|exact rfl) ?_ ?_ ev (by simp only[go_sem,ff]) ev (by exact QG (dltB d) _ _ _ (.inr ⟨_,rfl,ev⟩) hzl) ?_
 .
  try simp only[go_sem,ff]
  all_goals (exact ok0)
 .
  try simp only[go_sem,ff]
  all_goals (first|done|rfl|decide|simp)
 rintro res hj nj ⟨rj,rfl,hrj,hrnj⟩
 have ff:=qA hrj ff
 refine aO Jl ?_
 try simp only[aG]
 exact fo 1 (k:=by first|rfl|(simp;done)|exact tq _|exact tu _)
end Go.Proofs.YtjngdcldglkolaaGreatDoor
namespace Go.Proofs.YtjngdcldglkolaaGreatDoor
open Go.DL Go.Str Go.Rec Go.Cmp Go.Zon Go.Jn
set_option maxRecDepth 10000
variable [Glob Tryz.prog] [Told]
theorem Rf (k:Int) (st:RS):(aH k st).1.length<=st.1.length:=by
 unfold aH
 split
 .
  exact Yo _
 show (st.1.take k.toNat).length<=_
 rw[Yu]
 exact Nat.min_le_right _ _
set_option maxHeartbeats 4000000
theorem GU (w:Str) (k:Int) (hw:w.length<=1000000000) (hk:0<=k):PureCt Tryz.prog 56 [.list false (w.map bD),.i k] (.tuple [.i (fst1 k.toNat w).1,.list false ((fst1 k.toNat w).2.map bD)]):=by
 refine oO Tryz.func56 fun ff=>?_
 unfold Tryz.f56
 obtain⟨m,rfl⟩:∃ m:Nat,k=m:=⟨k.toNat,om⟩
 have ekm:((m:Int)).toNat=m:=Int.toNat_natCast m
 have ff:=qA @ekm ff
 refine aa Jl ?_
 refine ae ?_
 by_cases h13:13<=w.length
 .
  have h0:0<w.length:=by omega
  have hdm:(w.map bD).drop 1=(w.drop 1).map bD:=List.map_drop.symm;have htm:(w.map bD).take 5=(w.take 5).map bD:=ZQ.symm;have hE1:((1:Int)).toNat=1:=rfl;have hE5:((5:Int)).toNat=5:=rfl;have hx1:(w.drop 1).length<=1000000000:=by rw[Yi];omega
  have hb0:=(w.getD 0 0).toNat_lt;have e0:IntKind.i64.wrap ((w.getD 0 0).toNat:Int)=((w.getD 0 0).toNat:Int):=by rw[IntKind.wrap_i64];omega
  have ff:=qG (oM (n:=0) h0) @hdm @htm @hE1 @hE5 @e0 ff;refine aa Jl ?_;refine cd (fun c1=>?_) (fun c1=>?_)
  .
   have hF0:fst1 m w=(0,[]):=JR (.inr om);refine aa Jl ?_;exact fo 1 (k:=by rw[hF0];rfl)
  have hkk:(w.getD 0 0).toNat=m:=by omega
  refine dw_skip ?_;refine aa Jl ?_;refine ae (aD Jl 1 (hct:=by exact BG (w.drop 1,false) _ _ 16 ⟨_,ev⟩ hx1) (hk:=?_))
  rintro res h2 n2 ⟨rfl,hq2,hst2⟩
  try dsimp only at hst2
  have hl2:=hst2.1;obtain⟨f2,hR2⟩:=hq2;obtain⟨A,hA⟩:∃ v,v=ag 4 (w.drop 1,false):=⟨_,rfl⟩;rw[<- hA] at hR2
  try rw[<- hA]
  have hAl:A.1<256^4:=by rw[hA];exact ko 4 _
  have e1:=oG (u:=A.1) (by omega)
  have hA2:A.2.1.length<=1000000000:=by rw[hA];exact Yc (fK 4 _) hx1
  have ff:=qD @hR2 (nG 16 n2) @e1 ff;refine av Jl ?_;refine ae (aD Jl 1 (hct:=by exact nM A.2 _ _ 16 ⟨f2,ev⟩ hA2) (hk:=?_))
  rintro res h3 n3 ⟨rfl,hq3,hst3⟩
  try dsimp only at hst3
  have hl3:=hst3.1;obtain⟨f3,hR3⟩:=hq3;obtain⟨B,hB⟩:∃ v,v=ag 8 A.2:=⟨_,rfl⟩;rw[<- hB] at hR3
  try rw[<- hB]
  have hB2:B.2.1.length<=1000000000:=by rw[hB];exact Yc (fK 8 _) hA2
  have ff:=qB @hR3 (nG 16 n3) ff;refine av Jl ?_;refine ae (aD Jl 2 (hct:=by exact yH B.2.1 B.2.2 A.1 _ _ 16 ⟨f3,ev⟩ hB2 om) (hk:=?_))
  rintro res h4 n4 ⟨⟨g4,rfl⟩,hq4,hst4⟩
  try dsimp only at hst4
  have hl4:=hst4.1;obtain⟨f4,hR4⟩:=hq4;obtain⟨C,hC⟩:∃ v,v=aH (A.1:Nat) (B.2.1,B.2.2):=⟨_,rfl⟩;rw[<- hC] at hR4
  try rw[<- hC]
  have hC2:C.2.1.length<=1000000000:=by rw[hC];exact Yc (fK _ _) hB2
  have hC1:C.1.length<=1000000000:=by rw[hC];exact Yc (Rf _ _) hB2
  have ff:=qB @hR4 (nG 16 n4) ff;refine av Jl ?_;refine ae (aD Jl 1 (hct:=by exact nM C.2 _ _ 16 ⟨f4,ev⟩ hC2) (hk:=?_))
  rintro res h5 n5 ⟨rfl,qy,hst5⟩
  try dsimp only at hst5
  have hl5:=hst5.1;obtain⟨f5,hR5⟩:=qy;obtain⟨E,hE⟩:∃ v,v=ag 8 C.2:=⟨_,rfl⟩;rw[<- hE] at hR5
  try rw[<- hE]
  have ff:=qB @hR5 (nG 16 n5) ff;refine av Jl ?_;refine oK Jl (fun c2=>?_) (fun c2=>?_) (hok:=oI (tV (w.take 5) (by rw[Yu];omega)) (tV C.1 (by omega)))
  .
   refine aa Jl ?_;exact fo 1 (k:=by rw[JX h13 (by omega),<- hA,<- hB];rw[show aH (A.1:Nat) B.2=C from hC.symm,<- hE];rw[if_pos (by grind)];rfl)
  refine aa Jl ?_;exact fo 1 (k:=by rw[JX h13 (by omega),<- hA,<- hB];rw[show aH (A.1:Nat) B.2=C from hC.symm,<- hE];rw[if_neg (by grind)];first|rfl|(simp;omega))
 refine aa Jl ?_
 refine cd (fun c1=>?_) (fun c1=>?_) (hp:=rfl) (hq:=rfl)
 .
  have hF0:fst1 m w=(0,[]):=JR (.inl om);refine aa Jl ?_;exact fo 1 (k:=by rw[hF0];rfl)
 exfalso;simp at c1;omega
end Go.Proofs.YtjngdcldglkolaaGreatDoor
namespace Go.Proofs.YtjngdcldglkolaaGreatDoor
open Go.DL Go.Str Go.Rec Go.Cmp Go.Zon Go.Jn
set_option maxRecDepth 10000
variable [Glob Tryz.prog] [Told]
theorem QF (w:Str) (hw:w.length<=1000000000):PureCt Tryz.prog 56 [.list false (w.map bD),.i 1] (.tuple [.i (fst1 1 w).1,.list false ((fst1 1 w).2.map bD)]):=GU w 1 hw (by decide)
theorem GV (w:Str) (hw:w.length<=1000000000):PureCt Tryz.prog 56 [.list false (w.map bD),.i 2] (.tuple [.i (fst1 2 w).1,.list false ((fst1 2 w).2.map bD)]):=GU w 2 hw (by decide)
def IsN (h:H) (x:D) (E:List Nat) (C nx:Nat):Prop:=x = .list true (E.map nD) \/ ∃ r,x = .mrow r 0 E.length/\h r=some ⟨3,E.map nD⟩/\C<r/\r<nx
set_option maxHeartbeats 4000000
theorem vJ (w:Str) (hw:w.length<=3000000):PureCt Tryz.prog 28 [.list false (w.map bD)] (.tuple [.agg (wholeZ w).d,.list false ((endsB w).map nD)]):=by
 refine oO Tryz.func28 fun ff=>?_
 unfold Tryz.f28
 have hv1:=zD 1 w
 have ff:=qE (show zon0.apex=[] from rfl) (show zon0.sets=[] from rfl) (show ((1:Int)).toNat=1 from rfl) (show ((2:Int)).toNat=2 from rfl) ff
 refine aa Jl ?_
 refine aa Jl ?_ (hok:=oF (QF w om))
 refine aa Jl ?_
 refine ae (aD Jl 1 (hct:=by exact Qp ((fst1 1 w).2,false) _ _ 11 ⟨_,ev⟩ (by show (fst1 1 w).2.length<=_;omega)) (hk:=?_))
 rintro res h3 n3 ⟨rfl,hq3,hst3⟩
 try dsimp only at hst3
 have hl3:=hst3.1
 obtain⟨f3,hR3⟩:=hq3
 obtain⟨z,hze⟩:∃ z,z=(cz ((fst1 1 w).2,false)).1:=⟨_,rfl⟩
 try rw[<- hze]
 have hzr:=qZ z
 have k03:h3 0=some ⟨28,[[.v (.string (bs [])),.list true []]]⟩:=(hst3.2 0 om om).trans ev
 have ff:=qE @hR3 @k03 (nG 0 n3) (nG 11 n3) ff
 refine av Jl ?_
 refine aa Jl ?_ (hok:=oF (vI z))
 refine oK Jl (fun c1=>?_) (fun c1=>?_)
 .
  have hno:=MW (NC (w:=w) (by rw[<- hze,hzr];grind))
  refine aa Jl ?_;exact fo 2 (k:=by rw[hno.1,hno.2];first|done|rfl|(simp;done))
 have hst9:=NB (w:=w) (by grind) (by grind) (by grind) (by rw[<- hze,hzr];grind)
 rw[<- hze] at hst9
 refine aa Jl ?_
 refine ah ?_
 refine dw_nh (fun hw9 hwe=>?_)
 dsimp only at hwe ⊢
 have h0w:hw9 0=some ⟨28,[[.v (.string (bs [])),.list true []]]⟩:=by rw[hwe];simp only[go_sem,ff];first|done|exact rfl
 have hCw:hw9 (n3+2)=some ⟨28,[[.v (.string (bs z.apex)),.list false (z.sets.map Sgd.d)]]⟩:=by rw[hwe];simp only[go_sem,ff];first|done|exact rfl
 refine dD (α:=(Nat)×(Zon)×(List Nat)×(D)×(Nat)×(H)×Nat) [0,2] (fun ⟨a,z,E,x9,C,hq,nx⟩=>(xe w a z E)/\(E.length<=a)/\(IsN hq x9 E C nx)/\(hq C=some ⟨28,[[.v (.string (bs z.apex)),.list false (z.sets.map Sgd.d)]]⟩)/\(hq 0=some ⟨28,[[.v (.string (bs [])),.list true []]]⟩)/\(0<C)/\(C<nx)/\True) (fun ⟨a,z,E,x9,C,hq,nx⟩=>w.length-a) (fun ⟨a,z,E,x9,C,hq,nx⟩=>[(4,.i a),(7,.mptr C 0 0),(9,x9)]) (fun ⟨a,z,E,x9,C,hq,nx⟩=>hq) (fun ⟨a,z,E,x9,C,hq,nx⟩=>nx) ((fst1 1 w).1,z,[(fst1 1 w).1],.list true [[.i (fst1 1 w).1]],(n3+2),hw9,_) (hA:=⟨(by first|(exact KR hst9)|(dsimp only;exact KR hst9)),(by (try dsimp only);exact Nat.pos_of_ne_zero (by grind)),(by first|(exact .inl rfl)|(dsimp only;exact .inl rfl)),(by first|(exact hCw)|(dsimp only;exact hCw)),(by first|(exact h0w)|(dsimp only;exact h0w)),(by first|(omega)|(dsimp only;omega)),(by first|(omega)|(dsimp only;omega)),trivial⟩) (round:=?_)
 rintro⟨a,z,E,x9,C,hq,nx⟩ ⟨hD,hEl,hI,hC,h00,hC0,hCx, -⟩
 simp only[X0,X3]
 have ha:=hD.le
 have hv2:=zD 2 (w.drop a)
 rw[Yi] at hv2
 have hdm:(w.map bD).drop a=(w.drop a).map bD:=List.map_drop.symm
 have ff:=qG @hC @h00 @hdm (nH 0 C) (nG 0 nx) (nG C nx) ff
 refine ah ?_
 rcases hI with rfl|⟨r,rfl,hr,hCr,hrx⟩
 .
  refine aa Jl ?_ (hok:=oH (GV (w.drop a) (by rw[Yi];omega)))
  refine aa Jl ?_;obtain⟨q7,qx⟩:∃ q,q=(nx+11):=⟨_,rfl⟩;rw[<- qx];have ff:=qB (nH C q7) (nH 0 q7) ff;refine ae (aD Jl 1 (hct:=by exact GY ((fst1 2 (w.drop a)).2,false) _ _ q7 ⟨_,ev⟩ (by show (fst1 2 (w.drop a)).2.length<=_;omega)) (hk:=?_))
  rintro res h4 n4 ⟨rfl,hq4,hst4⟩
  try dsimp only at hst4
  have hl4:=hst4.1;obtain⟨f4,hR4⟩:=hq4;obtain⟨x,hxe⟩:∃ x,x=(bA ((fst1 2 (w.drop a)).2,false)).1:=⟨_,rfl⟩
  try rw[<- hxe]
  have k04:h4 0=some ⟨28,[[.v (.string (bs [])),.list true []]]⟩:=(hst4.2 0 om om).trans ev;have kC4:h4 C=some ⟨28,[[.v (.string (bs z.apex)),.list false (z.sets.map Sgd.d)]]⟩:=(hst4.2 C om om).trans ev;have ff:=qG @hR4 @k04 @kC4 (nG 0 n4) (nG C n4) (nG q7 n4) ff;refine av Jl ?_;refine oK Jl (fun c2=>?_) (fun c2=>?_)
  .
   have hend:=z8 hD (xJ (z:=z) (w:=w.drop a) (by grind))
   refine aa Jl ?_;exact fo 2 (k:=by rw[hend.1,hend.2];first|done|rfl|(simp;done))
  have g1:(fst1 2 (w.drop a)).1≠0:=by grind
  have g2:(bA ((fst1 2 (w.drop a)).2,false)).2.2=false:=by grind
  have g3 : ¬ 0<(bA ((fst1 2 (w.drop a)).2,false)).2.1.length:=by grind
  rcases hA:applyP z x with⟨y,e⟩
  have hAR:applyR z x=(y,e):=by rw[D6];exact hA
  have ff:=qB @hAR @hA ff;refine aa Jl ?_ (hok:=oV (BD z x));refine oK Jl (fun c3=>?_) (fun c3=>?_)
  .
   have hend:=z8 hD (xJ (z:=z) (w:=w.drop a) (.inr (.inr (.inr (by rw[<- hxe,hA];exact c3)))))
   refine aa Jl ?_;exact fo 2 (k:=by rw[hend.1,hend.2];first|done|rfl|(simp;done))
  obtain rfl:e=0:=by omega
  have hso:=EY (z:=z) (w:=w.drop a) g1 g2 g3 (by rw[<- hxe];exact hA)
  have hnx:=KQ hD hso;have hln:=(iD (c:=some z) hso);refine aa Jl ?_;refine aa Jl ?_ (hok:=by (try simp only[go_sem,ff]);all_goals (first|done|((repeat' (with_reducible apply And.intro))<;>omega)))
  refine ai Jl ?_
  show ∃ _,_
  have e9:((a+(fst1 2 (w.drop a)).1:Nat):Int)=(a:Int)+((fst1 2 (w.drop a)).1:Int):=by omega
  have ff:=qA e9 ff;exact au (a+(fst1 2 (w.drop a)).1,y,E++[a+(fst1 2 (w.drop a)).1],.mrow (n4+40) 0 (E.length+1),C,_,_) (h1:=⟨(by first|(exact hnx)|(dsimp only;exact hnx)),(by (try dsimp only);rw[List.length_append,List.length_singleton];omega),(by (try dsimp only);exact .inr ⟨_,by rw[List.length_append];rfl,by simp only[go_sem,ff,List.map_append,List.map_cons,List.map_nil,nD];first|done|exact rfl,om,om⟩),(by (try dsimp only);simp only[go_sem,ff];first|done|exact rfl),(by (try dsimp only);simp only[go_sem,ff];first|done|exact rfl),(by first|(omega)|(dsimp only;omega)),(by first|(omega)|(dsimp only;omega)),trivial⟩) (h2:=by show (_:Nat)<_;(try dsimp only);rw[List.length_drop] at hln;omega) (h5:=fun _=>.inl rfl)
 have ff:=qE @hr (nH C r) (nH 0 r) (nG r nx) ff
 refine aa Jl ?_ (hok:=oH (GV (w.drop a) (by rw[Yi];omega)))
 refine aa Jl ?_
 obtain⟨q7,qx⟩:∃ q,q=(nx+11):=⟨_,rfl⟩
 rw[<- qx]
 have ff:=qB (nH C q7) (nH 0 q7) ff
 refine ae (aD Jl 1 (hct:=by exact GY ((fst1 2 (w.drop a)).2,false) _ _ q7 ⟨_,ev⟩ (by show (fst1 2 (w.drop a)).2.length<=_;omega)) (hk:=?_))
 rintro res h4 n4 ⟨rfl,hq4,hst4⟩
 try dsimp only at hst4
 have hl4:=hst4.1
 obtain⟨f4,hR4⟩:=hq4
 obtain⟨x,hxe⟩:∃ x,x=(bA ((fst1 2 (w.drop a)).2,false)).1:=⟨_,rfl⟩
 try rw[<- hxe]
 have k04:h4 0=some ⟨28,[[.v (.string (bs [])),.list true []]]⟩:=(hst4.2 0 om om).trans ev
 have kC4:h4 C=some ⟨28,[[.v (.string (bs z.apex)),.list false (z.sets.map Sgd.d)]]⟩:=(hst4.2 C om om).trans ev
 have ff:=qA (nH q7 r) ff
 have kr4:h4 r=some ⟨3,E.map nD⟩:=(hst4.2 r om om).trans ev
 have ff:=qI @hR4 @k04 @kC4 (nG 0 n4) (nG C n4) (nG q7 n4) @kr4 (nG r n4) ff
 refine av Jl ?_
 refine oK Jl (fun c2=>?_) (fun c2=>?_)
 .
  have hend:=z8 hD (xJ (z:=z) (w:=w.drop a) (by grind))
  refine aa Jl ?_;exact fo 2 (k:=by rw[hend.1,hend.2];first|done|rfl|(simp;done))
 have g1:(fst1 2 (w.drop a)).1≠0:=by grind
 have g2:(bA ((fst1 2 (w.drop a)).2,false)).2.2=false:=by grind
 have g3 : ¬ 0<(bA ((fst1 2 (w.drop a)).2,false)).2.1.length:=by grind
 rcases hA:applyP z x with⟨y,e⟩
 have hAR:applyR z x=(y,e):=by rw[D6];exact hA
 have ff:=qB @hAR @hA ff
 refine aa Jl ?_ (hok:=oV (BD z x))
 refine oK Jl (fun c3=>?_) (fun c3=>?_)
 .
  have hend:=z8 hD (xJ (z:=z) (w:=w.drop a) (.inr (.inr (.inr (by rw[<- hxe,hA];exact c3)))))
  refine aa Jl ?_;exact fo 2 (k:=by rw[hend.1,hend.2];first|done|rfl|(simp;done))
 obtain rfl:e=0:=by omega
 have hso:=EY (z:=z) (w:=w.drop a) g1 g2 g3 (by rw[<- hxe];exact hA)
 have hnx:=KQ hD hso
 have hln:=(iD (c:=some z) hso)
 refine aa Jl ?_
 refine aa Jl ?_ (hok:=by (try simp only[go_sem,ff]);all_goals (first|done|((repeat' (with_reducible apply And.intro))<;>omega)))
 refine ai Jl ?_
 show ∃ _,_
 have e9:((a+(fst1 2 (w.drop a)).1:Nat):Int)=(a:Int)+((fst1 2 (w.drop a)).1:Int):=by omega
 have ff:=qA e9 ff
 exact au (a+(fst1 2 (w.drop a)).1,y,E++[a+(fst1 2 (w.drop a)).1],.mrow (n4+40) 0 (E.length+1),C,_,_) (h1:=⟨(by first|(exact hnx)|(dsimp only;exact hnx)),(by (try dsimp only);rw[List.length_append,List.length_singleton];omega),(by (try dsimp only);exact .inr ⟨_,by rw[List.length_append];rfl,by simp only[go_sem,ff,List.map_append,List.map_cons,List.map_nil,nD];first|done|exact rfl,om,om⟩),(by (try dsimp only);simp only[go_sem,ff];first|done|exact rfl),(by (try dsimp only);simp only[go_sem,ff];first|done|exact rfl),(by first|(omega)|(dsimp only;omega)),(by first|(omega)|(dsimp only;omega)),trivial⟩) (h2:=by show (_:Nat)<_;(try dsimp only);rw[List.length_drop] at hln;omega) (h5:=fun _=>.inl rfl)
end Go.Proofs.YtjngdcldglkolaaGreatDoor
namespace Go.Proofs.YtjngdcldglkolaaGreatDoor
open Go.DL Go.Str Go.Rec Go.Cmp Go.Zon Go.Jn
set_option maxRecDepth 10000
variable [Glob Tryz.prog] [Told]
theorem Q9 {w:Str}(h:endsB w=[]):partB w=[]:=by
 unfold partB
 rw[ends_nil.1 h]
 rfl
theorem Ra {w:Str}(h:endsB w≠[]):w.take ((endsB w)[(endsB w).length-1]!)=partB w:=by
 rw[Kw w h]
 rfl
theorem SI {w:Str}(h:endsB w≠[]):(endsB w)[(endsB w).length-1]! <= w.length:=by
 rw[Kw w h]
 exact wG _ none w (XY _)
theorem yJ (w:Str) (hw:w.length<=3000000):PureCt Tryz.prog 43 [.list false (w.map bD)] (.list false ((partB w).map bD)):=by
 refine oO Tryz.func43 fun ff=>?_
 unfold Tryz.f43
 refine aa Jl ?_
 refine aa Jl ?_ (hok:=oF (vJ w hw))
 refine oK Jl (fun c1=>?_) (fun c1=>?_)
 .
  have hE:endsB w=[]:=X5 om;refine aa Jl ?_;exact fo 1 (k:=by rw[Q9 hE];first|rfl|(simp;done))
 have hE:endsB w≠[]:=fun e=>by rw[e] at c1;simp at c1
 have hp0:0<(endsB w).length:=Zr.2 hE
 have hk2:(endsB w).length-1<(endsB w).length:=by omega
 have e1:(((endsB w).length:Int)-1).toNat=(endsB w).length-1:=by omega
 have hle:=SI hE
 have hpl:=Ra hE
 have htm:(w.map bD).take ((endsB w)[(endsB w).length-1]!)=(partB w).map bD:=by rw[<- hpl];exact ZQ.symm
 have hLw:(endsB w).length<=1000000000000:=by unfold endsB;rw[zV];exact Kv w hw
 have ff:=qD (CY hk2) @e1 @htm ff
 refine aa Jl ?_
 exact fp 1
end Go.Proofs.YtjngdcldglkolaaGreatDoor
namespace Go.Proofs.YtjngdcldglkolaaGreatDoor
open Go.DL Go.Str Go.Rec Go.Cmp Go.Zon Go.Jn
set_option maxRecDepth 10000
variable [Glob Tryz.prog] [Told]
@[go_sem] theorem catB_nil:catB ([]:List Str)=[]:=rfl
@[go_sem] theorem XQ (n:Nat):dZ n []=[]:=rfl
@[go_sem] theorem Zaa (l:List Str):l.take 0=[]:=rfl
theorem EF : ∀ (l m:List Str) (n:Nat),dZ n (l++m)=dZ n l++dZ (n+(catB l).length) m
 | [],m,n=>by simp[dZ,catB]
 | p::l,m,n=>by
  show (n+p.length)::dZ (n+p.length) (l++m)=_
  rw[EF l m,catB_cons,XV,Nat.add_assoc];rfl
theorem MZ {n k:Nat}{l:List Str}(h:k<l.length):dZ n (l.take (k+1))=dZ n (l.take k)++[n+(catB (l.take (k+1))).length]:=by
 rw[Y8]
 have e:l[k]?.toList=[l[k]!]:=by simp[h,getElem!_pos]
 rw[e,EF,LH,XV]
 show _++[n+(catB (l.take k)).length+l[k]!.length]=_++[n+((catB (l.take k)).length+(catB [l[k]!]).length)]
 have:(catB [l[k]!]).length=l[k]!.length:=by simp[catB]
 rw[this,Nat.add_assoc]
theorem Qq (w:Str) (hw:w.length<=3000000) {r len:Nat}{ty:TypeId}{h:H}{n:Nat}(hr:h r=some ⟨ty,w.map bD⟩) (hl:len=w.length):RCt Tryz.prog 28 [.mrow r 0 len] h n (fun d h' n'=>d = .tuple [.agg [.v (.string (bs (wholeZ w).apex)),.mrow n 0 (wholeZ w).sets.length],.mrow n 0 (endsB w).length]/\h'=h/\n'=n+1):=by
 refine (Qd 2 hr (by rw[hl,Zk]) (by simp only[go_sem]) (by simp only[go_sem]) (vJ w hw)).mono ?_
 rintro d h' n' ⟨rfl,rfl,rfl⟩
 refine⟨?_,rfl,rfl⟩
 simp only[mW,Zon.d,Yb,Yt,Zk]
theorem Xw {d:Dsk}(h:1000000<d.safe.length\/200<d.pend.length):allR d=none:=by unfold allR;rw[HY h];rfl
theorem Xv {d:Dsk}{k:Nat}(hk:k<d.pend.length) (h:d.pend[k]!.length=0):allR d=none:=by
 rw[D7,XZ]
 intro hq
 unfold uO at hq
 simp only[XW,XX] at hq
 obtain⟨⟨_,q⟩,_⟩:=hq
 exact q d.pend[k]! (by rw[getElem!_pos d.pend k hk];exact Yv hk) (X5 h)
theorem Ml {d:Dsk}(h:endsB (partB d.safe++catB d.pend)≠endsB (partB d.safe)++dZ (partB d.safe).length d.pend):allR d=none:=by
 rw[D7,XZ]
 unfold uO
 simp only[XW,XX,not_and]
 intro _ q
 exact h q
theorem Xt {d:Dsk}(h1:d.safe.length<=1000000) (h2:d.pend.length<=200) (h3 : ∀ k,k<d.pend.length->d.pend[k]!.length≠0) (h4:endsB (partB d.safe++catB d.pend)=endsB (partB d.safe)++dZ (partB d.safe).length d.pend):allR d=some (partB d.safe++catB d.pend):=by
 rw[D7,X6]
 unfold uO
 simp only[XW,XX]
 refine⟨⟨⟨h1,h2⟩,fun p hp e=>?_⟩,h4⟩
 obtain⟨k,hk,rfl⟩:=Zd hp
 have:=h3 k hk
 rw[getElem!_pos d.pend k hk,e] at this
 exact this rfl
theorem U5 {d:Dsk}(hl:(endsB (partB d.safe++catB d.pend)).length=(endsB (partB d.safe)).length+d.pend.length) (h : ∀ j,j<d.pend.length->(endsB (partB d.safe++catB d.pend))[(endsB (partB d.safe)).length+j]! = (dZ (partB d.safe).length d.pend)[j]!) :
  endsB (partB d.safe++catB d.pend)=endsB (partB d.safe)++dZ (partB d.safe).length d.pend:=by
 rw[Ku] at hl h ⊢
 congr 1
 rw[XV] at hl
 refine vX! (by rw[pJ];omega) fun i hi=>?_
 have hi2:i<d.pend.length:=by omega
 have:=h i hi2
 rw[<- this,getElem!_pos _ i hi,getElem!_pos _ _ (by rw[XV];omega),List.getElem_append_right (by omega)]
 congr 1
 omega
theorem U4 {d:Dsk}{j:Nat}(hj:j<d.pend.length) (hl:(endsB (partB d.safe++catB d.pend)).length=(endsB (partB d.safe)).length+d.pend.length) (h:(endsB (partB d.safe++catB d.pend))[(endsB (partB d.safe)).length+j]! ≠ (dZ (partB d.safe).length d.pend)[j]!):endsB (partB d.safe++catB d.pend)≠endsB (partB d.safe)++dZ (partB d.safe).length d.pend:=by
 intro e
 apply h
 rw[e,getElem!_pos _ _ (by rw[XV,pJ];omega),List.getElem_append_right (by omega),getElem!_pos _ j (by rw[pJ];exact hj)]
 congr 1
 omega
set_option maxHeartbeats 4000000
theorem GZ (d:Dsk) (hf:d.safe.length+(catB d.pend).length<=2000000):PureCt Tryz.prog 40 [.agg d.d] (.tuple [.list false (((allR d).getD []).map bD),.b (allR d).isSome]):=by
 refine oO Tryz.func40 fun ff=>?_
 unfold Tryz.f40
 refine aa Jl ?_
 refine oK Jl (fun c1=>?_) (fun c1=>?_)
 .
  have hno:=Xw (d:=d) (by omega)
  refine aa Jl ?_;exact fo 2 (k:=by rw[hno];first|rfl|(simp;done))
 have hs1:d.safe.length<=1000000:=by omega
 have hp1:d.pend.length<=200:=by omega
 have hpl:=qa d.safe
 have hLw:(endsB (partB d.safe)).length<=1000000000000:=by (unfold endsB;rw[zV];exact Kv _ (by omega))
 refine aa Jl ?_
 refine aa Jl ?_ (hok:=oH (yJ d.safe om))
 refine ae (aD Jl 1 (hct:=by exact Qq (partB d.safe) om ev (by first|done|rfl|(simp;done))) (hk:=?_))
 rintro res h2 n2 ⟨rfl,rfl,hn2⟩
 have hn3:n2=22:=hn2
 have ff:=qA @hn3 ff
 refine av Jl ?_
 refine aa Jl ?_
 refine ae ?_
 refine aa Jl ?_
 refine ah ?_
 refine qM 7 3 (by simp only[go_sem,ff]) (by simp only[go_sem,ff]) ?_
 refine lp (α:=(Nat)×(Nat)×(Nat)×Nat) [1,6] (fun ⟨k,r,r7,nx⟩=>(k<=d.pend.length)/\(∀ i,i<k->d.pend[i]!.length≠0)/\(0<r)/\(0<r7)/\(r≠r7)/\(r<nx)/\(r7<nx)/\True) (fun ⟨k,r,r7,nx⟩=>d.pend.length-k) (fun ⟨k,r,r7,nx⟩=>[(4,.mrow r 0 (partB d.safe++catB (d.pend.take k)).length),(7,.mrow r7 0 k),(8,.i k)]) (fun ⟨k,r,r7,nx⟩=>[(0,⟨25,[d.d]⟩),(r,⟨5,(partB d.safe++catB (d.pend.take k)).map bD⟩),(r7,⟨3,(dZ (partB d.safe).length (d.pend.take k)).map nD⟩)]) (fun ⟨k,r,r7,nx⟩=>nx) (0,18,(n2+10),_) (hA:=⟨iv,(by first|(intro i hi;omega)|(dsimp only;intro i hi;omega)),iv,iv,iv,iv,iv,trivial⟩) (round:=?_)
 rintro⟨k,r,r7,nx⟩ ⟨hk,hne9,hr0,hr7,hrr,hrx,hr7x, -⟩
 simp only[X0,X3]
 have n0:0<nx:=by omega
 have ff:=qA @n0 (qI @hrx @hr7x (nH 0 r) (nH 0 r7) (nH r r7) (nG 0 nx) (nG r nx) (nG r7 nx) ff)
 refine oL Jl (fun c2=>?_) (fun c2=>?_)
 .
  have hk2:k<d.pend.length:=by omega
  have hcs:=o5 hk2;have hcl:=o6 (l:=d.pend) (k+1);have hwl:(dZ (partB d.safe).length (d.pend.take k)).length=k:=by rw[pJ,Yu];omega
  have ff:=qA (jN hk2) ff;refine ae ?_;refine ah ?_;refine oK Jl (fun c3=>?_) (fun c3=>?_)
  .
   have hno:=Xv hk2 (by omega)
   refine aa Jl ?_;exact fo 2 (k:=by rw[hno];first|rfl|(simp;done))
  have hne:d.pend[k]!.length≠0:=by omega
  refine aa Jl ?_;refine ai Jl ?_;refine ai Jl ?_
  show ∃ _,_
  have e9:=wU hk2;have e8:=MZ (n:=(partB d.safe).length) hk2;have e7 : ∀ a b:Str,(a++b).map bD=a.map bD++b.map bD:=fun a b=>YM
  have e6 : ∀ a b:List Nat,(a++b).map nD=a.map nD++b.map nD:=fun a b=>YM
  have e5 : ∀ a b:Str,(a++b).length=a.length+b.length:=fun a b=>XV
  have e4 : ∀ x:Nat,[x].map nD=[[.i (x:Int)]]:=fun _=>rfl
  have e3 : ∀ a b c:List (List D),a++b++c=a++(b++c):=fun a b c=>Yz a b c
  have ff:=qI e9 e8 e7 e6 e5 e4 e3 Nat.add_assoc ff;exact au (k+1,(nx+18),(nx+24),_) (h1:=⟨iv,(by (try dsimp only);intro i hi;by_cases e:i=k;subst e;exact hne;exact hne9 i om),iv,iv,iv,iv,iv,trivial⟩)
 have e8:k=d.pend.length:=by omega
 subst e8
 refine aB ?_
 refine wM 4 r (rows:=(partB d.safe++catB d.pend).map bD) (off:=0) (len:=(partB d.safe++catB d.pend).length) ev ev (by simp) (by simp only[go_sem]) ?_
 simp only[X7,lF]
 try rw[Yp (XY _)]
 refine aa Jl ?_ (hok:=oH (vJ (partB d.safe++catB d.pend) (by rw[XV];omega)))
 refine oK Jl (fun c4=>?_) (fun c4=>?_)
 .
  have hno:=Ml (d:=d) (fun e=>by have:=congrArg List.length e;rw[XV,pJ] at this;omega)
  refine aa Jl ?_;exact fo 2 (k:=by rw[hno];first|rfl|(simp;done))
 have hln:(endsB (partB d.safe++catB d.pend)).length=(endsB (partB d.safe)).length+d.pend.length:=by omega
 refine ae ?_
 refine aa Jl ?_
 refine ah ?_
 refine lp (α:=(Nat)×Nat) [4,6,7,10] (fun ⟨j,nx⟩=>(j<=d.pend.length)/\(∀ i,i<j->(endsB (partB d.safe++catB d.pend))[(endsB (partB d.safe)).length+i]! = (dZ (partB d.safe).length d.pend)[i]!)/\True) (fun ⟨j,nx⟩=>d.pend.length-j) (fun ⟨j,nx⟩=>[(11,.i j)]) (fun ⟨j,nx⟩=>[(r7,⟨3,(dZ (partB d.safe).length d.pend).map nD⟩)]) (fun ⟨j,nx⟩=>nx) (0,_) (hA:=⟨iv,(by first|(intro i hi;omega)|(dsimp only;intro i hi;omega)),trivial⟩) (round:=?_)
 rintro⟨j,nx⟩ ⟨hj,hv, -⟩
 simp only[X0,X3]
 refine oL Jl (fun c5=>?_) (fun c5=>?_)
 .
  have hj2:j<d.pend.length:=by omega
  have hwl:(dZ (partB d.safe).length d.pend).length=d.pend.length:=pJ _ _;have hj4:j<(dZ (partB d.safe).length d.pend).length:=by rw[pJ];exact hj2
  have hj5:(endsB (partB d.safe)).length+j<(endsB (partB d.safe++catB d.pend)).length:=by omega
  have e1:(((endsB (partB d.safe)).length:Int)+(j:Int)).toNat=(endsB (partB d.safe)).length+j:=by omega
  have ff:=qD (CY hj4) (CY hj5) @e1 ff;refine ae ?_;refine ah ?_;refine aa Jl ?_;refine cd (fun c6=>?_) (fun c6=>?_)
  .
   have hno:=Ml (d:=d) (U4 hj2 hln (by omega))
   refine aa Jl ?_;exact fo 2 (k:=by rw[hno];first|rfl|(simp;done))
  refine dw_skip ?_;refine ai Jl ?_
  show ∃ _,_
  exact au (j+1,_) (h1:=⟨iv,(by (try dsimp only);intro i hi;by_cases e:i=j;subst e;(first|omega|(simp at c6;omega));exact hv i om),trivial⟩)
 have hj3:j=d.pend.length:=by omega
 have hyes:=Xt hs1 hp1 hne9 (U5 hln (fun i hi=>hv i (by omega)))
 refine aB ?_
 refine aa Jl ?_
 exact fo 2 (k:=by rw[hyes];first|rfl|(simp;done))
end Go.Proofs.YtjngdcldglkolaaGreatDoor
namespace Go.Proofs.YtjngdcldglkolaaGreatDoor
open Go.DL Go.Str Go.Rec Go.Cmp Go.Zon Go.Jn
set_option maxRecDepth 10000
variable [Glob Tryz.prog] [Told]
theorem Pe {a b:Dsk}(h:a.safe≠b.safe\/a.pend.length≠b.pend.length):sameK a b=false:=by
 unfold sameK
 refine Y6 fun e=>?_
 subst e
 rcases h with h|h<;>exact h rfl
theorem Pd {a b:Dsk}{k:Nat}(h:a.pend[k]! ≠ b.pend[k]!):sameK a b=false:=by
 unfold sameK
 refine Y6 fun e=>?_
 subst e
 exact h rfl
theorem Pb {a b:Dsk}(h1:a.safe=b.safe) (h2:a.pend.length=b.pend.length) (h3 : ∀ i,i<a.pend.length->a.pend[i]! = b.pend[i]!):sameK a b=true:=by
 unfold sameK
 refine Y1 ?_
 cases a
 cases b
 simp only at h1 h2 h3
 subst h1
 rw[vX! h2 h3]
theorem QI (d:Dsk) (hf:d.safe.length+(catB d.pend).length<=2000000):PureCt Tryz.prog 10 [.agg d.d] (.b (fewK d)):=by
 refine oO Tryz.func10 fun ff=>?_
 unfold Tryz.f10
 refine oC Jl ?_
 refine ae ?_
 refine aa Jl ?_
 refine ah ?_
 refine lp (α:=(Nat)×(Int)×Nat) [1] (fun ⟨k,s,nx⟩=>(k<=d.pend.length/\k<=21)/\(s=(d.safe.length:Int)+(((catB (d.pend.take k)).length:Nat):Int))/\(0<nx)/\True) (fun ⟨k,s,nx⟩=>d.pend.length-k) (fun ⟨k,s,nx⟩=>[(3,.i s),(4,.i k)]) (fun ⟨k,s,nx⟩=>[(0,⟨25,[d.d]⟩)]) (fun ⟨k,s,nx⟩=>nx) (0,(d.safe.length:Int),_) (hA:=⟨(by first|(omega)|(dsimp only;omega)),(by first|(simp[catB])|(dsimp only;simp[catB])),(by first|(omega)|(dsimp only;omega)),trivial⟩) (round:=?_)
 rintro⟨k,s,nx⟩ ⟨hk,hs,hx, -⟩
 simp only[X0,X3]
 have ff:=qA @hx ff
 refine oL Jl (fun c1=>?_) (fun c1=>?_)
 .
  have hk2:k<d.pend.length:=by have:=c1.1;omega
  have hcs:=o5 hk2;have hcl:=o6 (l:=d.pend) (k+1);have ff:=qA (jN hk2) ff;refine ae ?_;refine ah ?_;refine ai Jl ?_;refine ai Jl ?_
  show ∃ _,_
  exact au (k+1,s+d.pend[k]!.length,_) (h1:=⟨(by first|(have:=c1.2;omega)|(dsimp only;have:=c1.2;omega)),(by (try dsimp only);rw[hs,hcs];push_cast;omega),(by first|(omega)|(dsimp only;omega)),trivial⟩)
 have hkk:d.pend.take k=d.pend.take 21:=by (rcases YV k d.pend.length with q|q;rw[show k=21 by omega];rw[Yp q,Yp (by omega)])
 refine aB ?_
 refine aa Jl ?_
 exact fo 0 (k:=by unfold fewK;(try rw[hs]);(try rw[hkk]);first|rfl|(simp;done)|(show D.v (.bool _)=D.v (.bool _);congr 2;rw[Za];simp only[XW,XX];omega))
theorem QB (a:Dsk) (b:Dsk) (hl:a.pend.length<=1000000):PureCt Tryz.prog 15 [.agg a.d,.agg b.d] (.b (sameK a b)):=by
 refine oO Tryz.func15 fun ff=>?_
 unfold Tryz.f15
 refine aa Jl ?_
 refine oK Jl (fun c1=>?_) (fun c1=>?_)
 .
  have hno:sameK a b=false:=Pe (by grind)
  refine aa Jl ?_;exact fo 0 (k:=by rw[hno])
 have hs1:a.safe=b.safe:=by grind
 have hl1:a.pend.length=b.pend.length:=by grind
 refine ae ?_
 refine aa Jl ?_
 refine ah ?_
 refine lp (α:=(Nat)×Nat) [2,3] (fun ⟨k,nx⟩=>(k<=a.pend.length)/\(∀ i,i<k->a.pend[i]! = b.pend[i]!)/\(1<nx)/\True) (fun ⟨k,nx⟩=>a.pend.length-k) (fun ⟨k,nx⟩=>[(5,.i k)]) (fun ⟨k,nx⟩=>[(0,⟨25,[a.d]⟩),(1,⟨25,[b.d]⟩)]) (fun ⟨k,nx⟩=>nx) (0,_) (hA:=⟨iv,(by first|(intro i hi;omega)|(dsimp only;intro i hi;omega)),(by first|(omega)|(dsimp only;omega)),trivial⟩) (round:=?_)
 rintro⟨k,nx⟩ ⟨hk,hv,hx, -⟩
 simp only[X0,X3]
 have n0:0<nx:=by omega
 have ff:=qB @hx @n0 ff
 refine oL Jl (fun c2=>?_) (fun c2=>?_)
 .
  have hk2:k<a.pend.length:=by omega
  have hk3:k<b.pend.length:=by omega
  have ff:=qB (jN hk2) (jN hk3) ff;refine ae ?_;refine ah ?_;refine aa Jl ?_;refine cd (fun c3=>?_) (fun c3=>?_)
  .
   have hno:sameK a b=false:=Pd (k:=k) (by grind)
   refine aa Jl ?_;exact fo 0 (k:=by rw[hno])
  have hkk:a.pend[k]! = b.pend[k]! := by grind
  refine dw_skip ?_;refine ai Jl ?_
  show ∃ _,_
  exact au (k+1,_) (h1:=⟨iv,(by (try dsimp only);intro i hi;by_cases e:i=k;subst e;exact hkk;exact hv i om),(by first|(omega)|(dsimp only;omega)),trivial⟩)
 have hyes:sameK a b=true:=Pb hs1 hl1 (fun i hi=>hv i om)
 refine aB ?_
 refine aa Jl ?_
 exact fo 0 (k:=by rw[hyes])
end Go.Proofs.YtjngdcldglkolaaGreatDoor
namespace Go.Proofs.YtjngdcldglkolaaGreatDoor
open Go.DL Go.Str Go.Rec Go.Cmp Go.Zon Go.Jn
set_option maxRecDepth 10000
variable [Glob Tryz.prog] [Told]
theorem iH (s:Str) (k:Int) (t:Dat):PureCt Tryz.prog 68 [.v (.string (bs s)),.i k,.agg t.d] (.agg (mZ s k t).d):=by
 refine oO Tryz.func68 fun ff=>?_
 unfold Tryz.f68
 refine oC Jl ?_
 exact fo 3 (k:=by first|rfl|(unfold mZ;simp only[go_sem];first|done|rfl)|(trace_state;rfl))
end Go.Proofs.YtjngdcldglkolaaGreatDoor
namespace Go.Proofs.YtjngdcldglkolaaGreatDoor
open Go.DL Go.Str Go.Rec Go.Cmp Go.Zon Go.Jn
set_option maxRecDepth 10000
variable [Glob Tryz.prog] [Told]
theorem Sy  : PureCt Tryz.prog 30 [] (.tuple [.agg exZ.d,.agg exX.d]):=by
 refine oO Tryz.func30 fun ff=>?_
 unfold Tryz.f30
 refine oC Jl ?_
 refine aa Jl ?_ (hok:=by (try simp only[go_sem,ff]);all_goals (first|done|((repeat' (with_reducible apply And.intro))<;>first|(intros;exact iH [120] 2 ⟨[97],0,0⟩)|(intros;exact iH [120] 4 ⟨[],1,0⟩)|(intros;exact iH [120] 4 ⟨[],2,0⟩)|(intros;exact iH [116,46,120] 5 ⟨[116],0,0⟩)|skip)))
 refine aa Jl ?_ (hok:=by (try simp only[go_sem,ff]);all_goals (first|done|((repeat' (with_reducible apply And.intro))<;>first|(intros;exact iH [120] 2 ⟨[97],0,0⟩)|(intros;exact iH [120] 4 ⟨[],1,0⟩)|(intros;exact iH [120] 4 ⟨[],2,0⟩)|(intros;exact iH [116,46,120] 5 ⟨[116],0,0⟩)|skip)))
 exact fp 3
end Go.Proofs.YtjngdcldglkolaaGreatDoor
