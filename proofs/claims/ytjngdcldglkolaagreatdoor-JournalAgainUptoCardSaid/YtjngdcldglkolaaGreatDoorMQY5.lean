/-
  MANY TEXTS OF MINE IN ONE (a claim has a limit of files): ZoW3, ZoW4, ZoW5, ReW1, ReW2, ReW3, DlW1, DlW2, DlW4, DlW6, DlW8, DlW9, DlW10, DlW11, DlW12, JmW1, JmW2, JmW3, JmW4, JbW7, JbW8, JmW5, JmW6, JqW1, JrW1, JrW2, JrW3, JrW4, JqW2, JqW3, JqW4, JfW1, JfW2, JfW3, JfW4, JfW5, JlW2, JlW3, JlW4, JfW6, JfW7, JfW8, JlW5, JlW7, JlW1, JlW8, JlW9, JlW10, JlW11. Conditions: none.
-/
import Derived.Test.YtjngdcldglkolaaGreatDoorMQY4
set_option linter.unusedVariables false
set_option linter.unusedSimpArgs false
set_option linter.unusedSectionVars false
set_option linter.defProp false
set_option linter.unnecessarySimpa false
namespace Go.Proofs.YtjngdcldglkolaaGreatDoor
open Go.DL Go.Str Go.Rec Go.Cmp Go.Zon
set_option maxRecDepth 10000
variable [Glob Tryz.prog] [Told]
theorem Dq {l:List Sgd}{q:Qst}{i j:Nat}(hv:findIx l q=jq (fun k=>qC l[k]!.q q) i j) (h:i<j):(qC l[(i+j) / 2]!.q q<0->findIx l q=jq (fun k=>qC l[k]!.q q) ((i+j) / 2+1) j)/\(¬ qC l[(i+j) / 2]!.q q<0->findIx l q=jq (fun k=>qC l[k]!.q q) i ((i+j) / 2)):=by
 rw[uK,X4 h] at hv
 exact⟨fun h2=>by rw[X4 h2] at hv;exact hv,fun h2=>by rw[XZ h2] at hv;exact hv⟩
theorem uX (s:Sgd) (q:Qst):PureCt Tryz.prog 160 [.agg s.d,.agg q.d] (.i (qC s.q q)):=by
 refine oO Tryz.func160 fun ff=>?_
 unfold Tryz.f160
 refine aa Jl ?_
 refine aa Jl ?_ (hok:=oF (Ez _ _ _ _))
 exact fp 0
theorem Ni (l:List Sgd) (q:Qst) (hl:l.length<=1000000):PureCt Tryz.prog 159 [.list false (l.map Sgd.d),.agg q.d,.fn (.func 160) [] []] (.tuple [.i (findIx l q),.b (findOk l q)]):=by
 refine oO Tryz.func159 fun ff=>?_
 unfold Tryz.f159
 refine oD Jl ?_
 refine ae ?_
 refine ai ?_
 refine lp (α:=(Nat)×(Nat)×Nat) [0,2,4,8] (fun ⟨i,j,nx⟩=>(i<=j)/\(j<=l.length)/\(0<nx)/\(findIx l q=jq (fun k=>qC l[k]!.q q) i j)/\True) (fun ⟨i,j,nx⟩=>j-i) (fun ⟨i,j,nx⟩=>[(9,.i i),(10,.i j)]) (fun ⟨i,j,nx⟩=>[(0,⟨86,[q.d]⟩)]) (fun ⟨i,j,nx⟩=>nx) (0,l.length,_) (hA:=⟨iv,iv,iv,rfl,trivial⟩) (round:=?_)
 rintro⟨i,j,nx⟩ ⟨hij,hj,hx,hv, -⟩
 simp only[X0,X3]
 have ff:=qA @hx ff
 refine oL Jl (fun c1=>?_) (fun c1=>?_) (hp:=rfl)
 .
  have hk2:i<j:=by simpa using c1
  have hm:(i+j) / 2<l.length:=by omega
  have ff:=qB (SH (i:=i) (j:=j) (by omega)) (bI hm) ff
  refine ai ?_;refine aa Jl ?_;refine aa Jl ?_ (hok:=oH (uX l[(i+j) / 2]! q));refine cd (fun c2=>?_) (fun c2=>?_)
  .
   refine ah Jl ?_
   show ∃ _,_
   exact ak ((i+j) / 2+1,j,_) (h1:=⟨iv,iv,iv,(by first|(exact (Dq hv hk2).1 c2)|(dsimp only;exact (Dq hv hk2).1 c2)),trivial⟩)
  refine ah Jl ?_
  show ∃ _,_
  exact ak (i,(i+j) / 2,_) (h1:=⟨iv,iv,iv,(by (try dsimp only);exact (Dq hv hk2).2 om),trivial⟩)
 refine aB ?_
 have hij2:i=j:=by have h9 : ¬ i<j:=(by simpa using c1);omega
 have hv2:findIx l q=i:=by rw[hv,uK,XZ (by omega)]
 by_cases hk4:i<l.length
 .
  have ff:=qA (bI hk4) ff;refine aa Jl ?_ (hok:=by (try simp only[go_sem,ff]);all_goals (first|done|((repeat' (with_reducible apply And.intro))<;>first|(intros;exact uX l[i]! q)|omega|(intro h;have h:=Zl h;omega))))
  exact fo 1 (k:=by simp only[findOk];rw[hv2];simp[hk4])
 have ff:=qA (JZ (f:=Sgd.d) (Nat.le_of_not_lt hk4)) ff
 refine aa Jl ?_ (hok:=by (try simp only[go_sem,ff]);all_goals (first|done|((repeat' (with_reducible apply And.intro))<;>first|(intros;exact uX l[i]! q)|omega|(intro h;have h:=Zl h;omega))))
 exact fo 1 (k:=by simp only[findOk];rw[hv2];simp[hk4])
theorem uW (z:Zon) (q:Qst) (hl:z.sets.length<=1000000):PureCt Tryz.prog 102 [.agg z.d,.agg q.d] (.tuple [.i (findIx z.sets q),.b (findOk z.sets q)]):=by
 refine oO Tryz.func102 fun ff=>?_
 unfold Tryz.f102
 refine aa Jl ?_
 refine aa Jl ?_ (hok:=oH (Ni _ _ hl))
 exact fp 1
theorem Eo (z:Zon):PureCt Tryz.prog 69 [.agg z.d] (.b (ordered z)):=by
 refine oO Tryz.func69 fun ff=>?_
 unfold Tryz.f69
 refine aa Jl ?_
 refine oK Jl (fun c1=>?_) (fun c1=>?_) (hok:=oI qf zz)
 .
  refine aa Jl ?_;exact fo 0 (k:=by simp only[ordered];rw[qX] at *;grind)
 refine ae ?_
 refine aa Jl ?_
 refine ai ?_
 refine lp (α:=(Nat)×Nat) [1,28,29] (fun ⟨k,nx⟩=>(k<=z.sets.length)/\(av z.sets.length (iJ z.apex z.sets) 0=av z.sets.length (iJ z.apex z.sets) k)/\(0<nx)/\True) (fun ⟨k,nx⟩=>z.sets.length-k) (fun ⟨k,nx⟩=>[(30,.i k)]) (fun ⟨k,nx⟩=>[(0,⟨113,[z.d]⟩)]) (fun ⟨k,nx⟩=>nx) (0,_) (hA:=⟨iv,rfl,iv,trivial⟩) (round:=?_)
 rintro⟨k,nx⟩ ⟨hk,hv,hx, -⟩
 simp only[X0,X3]
 have ff:=qA @hx ff
 refine aa Jl ?_
 refine ae ?_
 refine cd (fun c2=>?_) (fun c2=>?_) (hp:=rfl)
 .
  have hk2:k<z.sets.length:=by simpa using c2
  have h0:0<z.sets.length:=by omega
  have hk1:k-1<z.sets.length:=by omega
  have e1:((k:Int)-1).toNat=k-1:=by omega
  have ff:=qE (bI hk2) (bI h0) (bI hk1) @e1 ff;refine dw_skip ?_;refine ae ?_;refine ai ?_;refine aa Jl ?_;refine oK Jl (fun c3=>?_) (fun c3=>?_) (hok:=oF (tL _))
  .
   refine aa Jl ?_;exact fo 0 (k:=by have hF:(iJ z.apex z.sets) k=false:=(by simp only[iJ];grind [Sgd.q]);simp only[ordered];rw[hv,bT hk2 hF];try simp)
  refine ae ?_;refine aa Jl ?_ (hok:=oF (Iw _ _));refine aa Jl ?_;refine cd (fun c4=>?_) (fun c4=>?_)
  .
   refine aa Jl ?_;exact fo 0 (k:=by have hF:(iJ z.apex z.sets) k=false:=(by simp only[iJ];grind [Sgd.q]);simp only[ordered];rw[hv,bT hk2 hF];try simp)
  refine dw_skip ?_;refine oK Jl (fun c5=>?_) (fun c5=>?_)
  .
   refine aB ?_;refine ah Jl ?_
   show ∃ _,_
   have h8:(iJ z.apex z.sets) k=true:=by simp only[iJ];grind [Sgd.q]
   exact ak (k+1,_) (h1:=⟨iv,(by first|(rw[hv,aY hk2 h8])|(dsimp only;rw[hv,aY hk2 h8])),iv,trivial⟩)
  refine aa Jl ?_;refine aa Jl ?_ (hok:=oF (Ez _ _ _ _));refine cd (fun c6=>?_) (fun c6=>?_)
  .
   refine aa Jl ?_;exact fo 0 (k:=by have hF:(iJ z.apex z.sets) k=false:=(by simp only[iJ];grind [Sgd.q]);simp only[ordered];rw[hv,bT hk2 hF];try simp)
  refine dw_skip ?_;refine ah Jl ?_
  show ∃ _,_
  have h8:(iJ z.apex z.sets) k=true:=by simp only[iJ];grind [Sgd.q]
  exact ak (k+1,_) (h1:=⟨iv,(by first|(rw[hv,aY hk2 h8])|(dsimp only;rw[hv,aY hk2 h8])),iv,trivial⟩)
 refine aB ?_
 refine aa Jl ?_
 exact fo 0 (k:=by simp only[ordered];rw[qX] at *;rw[hv,gI (by omega)];grind)
theorem Nj (z:Zon) (hl:z.sets.length<=1000000):PureCt Tryz.prog 70 [.agg z.d] (.b (apexHolds z)):=by
 refine oO Tryz.func70 fun ff=>?_
 unfold Tryz.f70
 refine aa Jl ?_
 refine ae ?_
 refine aa Jl ?_
 refine ai ?_
 refine lp (α:=(Nat)×Nat) [1,9,10] (fun ⟨k,nx⟩=>(k<=2)/\(av 2 (iU z) 0=av 2 (iU z) k)/\(0<nx)/\True) (fun ⟨k,nx⟩=>2-k) (fun ⟨k,nx⟩=>[(11,.i k)]) (fun ⟨k,nx⟩=>[(0,⟨113,[z.d]⟩)]) (fun ⟨k,nx⟩=>nx) (0,_) (hA:=⟨iv,rfl,iv,trivial⟩) (round:=?_)
 rintro⟨k,nx⟩ ⟨hk,hv1,hx, -⟩
 simp only[X0,X3]
 have ff:=qA @hx ff
 refine aa Jl ?_
 refine ae ?_
 refine cd (fun c1=>?_) (fun c1=>?_) (hp:=rfl)
 .
  have hk2:k<2:=by have h9:(k:Int)<2:=(by simpa using c1);omega
  refine dw_skip ?_;refine ae ?_;refine ai ?_;have h01:k=0\/k=1:=by omega
  rcases h01 with e0|e0
  .
   have ff:=qA @e0 ff;refine aa Jl ?_;refine aa Jl ?_ (hok:=oI (uW z ⟨z.apex,4⟩ hl) (uW z ⟨z.apex,2⟩ hl));refine aa Jl ?_;refine cd (fun c2=>?_) (fun c2=>?_)
   .
    refine aa Jl ?_;exact fo 0 (k:=by have hF:(iU z) k=false:=(by simpa [iU,e0] using c2);simp only[apexHolds];rw[hv1,bT hk2 hF];try simp)
   refine dw_skip ?_;refine ah Jl ?_
   show ∃ _,_
   have h8:(iU z) k=true:=by simpa [iU,e0] using c2
   exact ak (k+1,_) (h1:=⟨iv,(by first|(rw[hv1,aY hk2 h8])|(dsimp only;rw[hv1,aY hk2 h8])),iv,trivial⟩)
  have ff:=qA @e0 ff;refine aa Jl ?_;refine aa Jl ?_ (hok:=oI (uW z ⟨z.apex,4⟩ hl) (uW z ⟨z.apex,2⟩ hl));refine aa Jl ?_;refine cd (fun c2=>?_) (fun c2=>?_)
  .
   refine aa Jl ?_;exact fo 0 (k:=by have hF:(iU z) k=false:=(by simpa [iU,e0] using c2);simp only[apexHolds];rw[hv1,bT hk2 hF];try simp)
  refine dw_skip ?_;refine ah Jl ?_
  show ∃ _,_
  have h8:(iU z) k=true:=by simpa [iU,e0] using c2
  exact ak (k+1,_) (h1:=⟨iv,(by first|(rw[hv1,aY hk2 h8])|(dsimp only;rw[hv1,aY hk2 h8])),iv,trivial⟩)
 refine aB ?_
 refine ae ?_
 refine aa Jl ?_
 refine ai ?_
 refine lp (α:=(Nat)×Nat) [1,30,31] (fun ⟨k,nx⟩=>(k<=z.sets.length)/\(av z.sets.length (jO z.apex z.sets) 0=av z.sets.length (jO z.apex z.sets) k)/\(0<nx)/\True) (fun ⟨k,nx⟩=>z.sets.length-k) (fun ⟨k,nx⟩=>[(32,.i k)]) (fun ⟨k,nx⟩=>[(0,⟨113,[z.d]⟩)]) (fun ⟨k,nx⟩=>nx) (0,_) (hA:=⟨iv,rfl,iv,trivial⟩) (round:=?_)
 rintro⟨k,nx⟩ ⟨hk,hv,hx, -⟩
 simp only[X0,X3]
 have ff:=qA @hx ff
 refine aa Jl ?_
 refine ae ?_
 refine cd (fun c3=>?_) (fun c3=>?_) (hp:=rfl)
 .
  have hk2:k<z.sets.length:=by simpa using c3
  have ff:=qA (bI hk2) ff;refine dw_skip ?_;refine ae ?_;refine ai ?_;refine aa Jl ?_;refine aa Jl ?_ (hok:=oF (Vb _ _));refine cd (fun c4=>?_) (fun c4=>?_)
  .
   refine aa Jl ?_;exact fo 0 (k:=by have hF:(jO z.apex z.sets) k=false:=(by simp only[jO];grind);simp only[apexHolds];rw[hv,bT hk2 hF];try simp)
  refine dw_skip ?_;refine ah Jl ?_
  show ∃ _,_
  have h8:(jO z.apex z.sets) k=true:=by simp only[jO];grind
  exact ak (k+1,_) (h1:=⟨iv,(by first|(rw[hv,aY hk2 h8])|(dsimp only;rw[hv,aY hk2 h8])),iv,trivial⟩)
 refine aB ?_
 refine aa Jl ?_
 exact fo 0 (k:=by simp only[apexHolds];rw[hv1,hv,gI (n:=2) (by omega),gI (by omega)];rfl)
end Go.Proofs.YtjngdcldglkolaaGreatDoor
namespace Go.Proofs.YtjngdcldglkolaaGreatDoor
open Go.DL Go.Str Go.Rec Go.Cmp Go.Zon
set_option maxRecDepth 10000
variable [Glob Tryz.prog] [Told]
@[go_sem] theorem keysOk_T {m:List Str}:gD Tryz.prog 9 (lS m)=true:=by
 induction m with
 | nil=>rfl
 | cons s m ih=>rw[rW];simp only[gD,ih,ko9,ZV]
theorem EA (x:Lay) (hl:x.z.sets.length<=1000000):PureCt Tryz.prog 72 [.agg x.d] (.b (aliasB x)):=by
 refine oO Tryz.func72 fun ff=>?_
 unfold Tryz.f72
 refine aa Jl ?_
 refine ae ?_
 refine aa Jl ?_
 refine ai ?_
 refine lp (α:=(Nat)×Nat) [1,8,9] (fun ⟨k,nx⟩=>(k<=x.z.sets.length)/\(av x.z.sets.length (iE x.z.sets) 0=av x.z.sets.length (iE x.z.sets) k)/\(0<nx)/\True) (fun ⟨k,nx⟩=>x.z.sets.length-k) (fun ⟨k,nx⟩=>[(10,.i k)]) (fun ⟨k,nx⟩=>[(0,⟨116,[x.d]⟩)]) (fun ⟨k,nx⟩=>nx) (0,_) (hA:=⟨iv,rfl,iv,trivial⟩) (round:=?_)
 rintro⟨k,nx⟩ ⟨hk,hv,hx, -⟩
 simp only[X0,X3]
 have ff:=qA @hx ff
 refine aa Jl ?_
 refine ae ?_
 refine cd (fun c1=>?_) (fun c1=>?_) (hp:=rfl)
 .
  have hk2:k<x.z.sets.length:=by simpa using c1
  have hk1:k-1<x.z.sets.length:=by omega
  have e1:((k:Int)-1).toNat=k-1:=by omega
  have e2:((k:Int)+1).toNat=k+1:=by omega
  have ff:=qE (bI hk2) (bI hk1) @e1 @e2 ff;refine dw_skip ?_;refine ae ?_;refine ai ?_;refine aa Jl ?_;refine oK Jl (fun c2=>?_) (fun c2=>?_)
  .
   refine aB ?_;refine ah Jl ?_
   show ∃ _,_
   have h8:(iE x.z.sets) k=true:=by simp only[iE];grind
   exact ak (k+1,_) (h1:=⟨iv,(by first|(rw[hv,aY hk2 h8])|(dsimp only;rw[hv,aY hk2 h8])),iv,trivial⟩)
  refine oK Jl (fun c3=>?_) (fun c3=>?_)
  .
   refine aa Jl ?_;exact fo 0 (k:=by have hF:(iE x.z.sets) k=false:=(by simp only[iE];grind);simp only[aliasB];rw[hv,bT hk2 hF];try simp)
  by_cases hk4:k+1<x.z.sets.length
  .
   have ff:=qA (bI hk4) ff;refine aa Jl ?_;refine cd (fun c4=>?_) (fun c4=>?_)
   .
    refine aa Jl ?_;exact fo 0 (k:=by have hF:(iE x.z.sets) k=false:=(by simp only[iE];grind);simp only[aliasB];rw[hv,bT hk2 hF];try simp)
   refine dw_skip ?_;refine ah Jl ?_
   show ∃ _,_
   have h8:(iE x.z.sets) k=true:=by simp only[iE];grind
   exact ak (k+1,_) (h1:=⟨iv,(by first|(rw[hv,aY hk2 h8])|(dsimp only;rw[hv,aY hk2 h8])),iv,trivial⟩)
  have e9:decide (((k+1:Nat):Int)<x.z.sets.length)=false:=YE om;have ff:=qA (JZ (f:=Sgd.d) (Nat.le_of_not_lt hk4)) ff;refine aa Jl ?_;refine cd (fun c5=>?_) (fun c5=>?_)
  .
   refine aa Jl ?_;exact fo 0 (k:=by have hF:(iE x.z.sets) k=false:=(by simp only[iE];grind);simp only[aliasB];rw[hv,bT hk2 hF];try simp)
  refine dw_skip ?_;refine ah Jl ?_
  show ∃ _,_
  have h8:(iE x.z.sets) k=true:=by simp only[iE];grind
  exact ak (k+1,_) (h1:=⟨iv,(by first|(rw[hv,aY hk2 h8])|(dsimp only;rw[hv,aY hk2 h8])),iv,trivial⟩)
 refine aB ?_
 refine aa Jl ?_
 exact fo 0 (k:=by simp only[aliasB];rw[hv,gI (by omega)])
theorem Ey (x:Lay) (hl:x.z.sets.length<=1000000) (hb:x.b.length=x.z.sets.length):PureCt Tryz.prog 73 [.agg x.d] (.b (cutB x)):=by
 refine oO Tryz.func73 fun ff=>?_
 unfold Tryz.f73
 refine aa Jl ?_
 refine ae ?_
 refine aa Jl ?_
 refine ai ?_
 refine lp (α:=(Nat)×Nat) [1,9,10] (fun ⟨k,nx⟩=>(k<=x.z.sets.length)/\(av x.z.sets.length (cutAt x) 0=av x.z.sets.length (cutAt x) k)/\(0<nx)/\True) (fun ⟨k,nx⟩=>x.z.sets.length-k) (fun ⟨k,nx⟩=>[(11,.i k)]) (fun ⟨k,nx⟩=>[(0,⟨116,[x.d]⟩)]) (fun ⟨k,nx⟩=>nx) (0,_) (hA:=⟨iv,rfl,iv,trivial⟩) (round:=?_)
 rintro⟨k,nx⟩ ⟨hk,hv,hx, -⟩
 simp only[X0,X3]
 have ff:=qA @hx ff
 refine aa Jl ?_
 refine ae ?_
 refine cd (fun c1=>?_) (fun c1=>?_) (hp:=rfl)
 .
  have hk2:k<x.z.sets.length:=by simpa using c1
  have hk3:k<x.b.length:=by omega
  have ff:=qB (bI hk2) (iA hk3) ff;refine dw_skip ?_;refine ae ?_;refine ai ?_;refine oD Jl ?_;refine ai ?_;refine aa Jl ?_;refine cd (fun c2=>?_) (fun c2=>?_)
  .
   refine aa Jl ?_;refine cd (fun c3=>?_) (fun c3=>?_)
   .
    refine aa Jl ?_;exact fo 0 (k:=by have hF:(cutAt x) k=false:=(by simp only[cutAt];grind);simp only[cutB];rw[hv,bT hk2 hF];try simp)
   refine dw_skip ?_;refine ah Jl ?_
   show ∃ _,_
   have h8:(cutAt x) k=true:=by simp only[cutAt];grind
   exact ak (k+1,_) (h1:=⟨iv,(by first|(rw[hv,aY hk2 h8])|(dsimp only;rw[hv,aY hk2 h8])),iv,trivial⟩)
  refine aa Jl ?_;refine cd (fun c4=>?_) (fun c4=>?_)
  .
   refine aa Jl ?_;refine cd (fun c5=>?_) (fun c5=>?_)
   .
    refine aa Jl ?_;exact fo 0 (k:=by have hF:(cutAt x) k=false:=(by simp only[cutAt];grind);simp only[cutB];rw[hv,bT hk2 hF];try simp)
   refine dw_skip ?_;refine ah Jl ?_
   show ∃ _,_
   have h8:(cutAt x) k=true:=by simp only[cutAt];grind
   exact ak (k+1,_) (h1:=⟨iv,(by first|(rw[hv,aY hk2 h8])|(dsimp only;rw[hv,aY hk2 h8])),iv,trivial⟩)
  refine aa Jl ?_;refine cd (fun c6=>?_) (fun c6=>?_)
  .
   refine aa Jl ?_;exact fo 0 (k:=by have hF:(cutAt x) k=false:=(by simp only[cutAt];grind);simp only[cutB];rw[hv,bT hk2 hF];try simp)
  refine dw_skip ?_;refine ah Jl ?_
  show ∃ _,_
  have h8:(cutAt x) k=true:=by simp only[cutAt];grind
  exact ak (k+1,_) (h1:=⟨iv,(by first|(rw[hv,aY hk2 h8])|(dsimp only;rw[hv,aY hk2 h8])),iv,trivial⟩)
 refine aB ?_
 refine aa Jl ?_
 exact fo 0 (k:=by simp only[cutB];rw[hv,gI (by omega)])
theorem Ew (x:Lay) (hl:x.z.sets.length<=1000000) (hb:x.b.length=x.z.sets.length):PureCt Tryz.prog 74 [.agg x.d] (.b (glueB x)):=by
 refine oO Tryz.func74 fun ff=>?_
 unfold Tryz.f74
 refine aa Jl ?_
 refine ae ?_
 refine aa Jl ?_
 refine ai ?_
 refine lp (α:=(Nat)×Nat) [1,9,10] (fun ⟨k,nx⟩=>(k<=x.z.sets.length)/\(av x.z.sets.length (mO x) 0=av x.z.sets.length (mO x) k)/\(0<nx)/\True) (fun ⟨k,nx⟩=>x.z.sets.length-k) (fun ⟨k,nx⟩=>[(11,.i k)]) (fun ⟨k,nx⟩=>[(0,⟨116,[x.d]⟩)]) (fun ⟨k,nx⟩=>nx) (0,_) (hA:=⟨iv,rfl,iv,trivial⟩) (round:=?_)
 rintro⟨k,nx⟩ ⟨hk,hv,hx, -⟩
 simp only[X0,X3]
 have ff:=qA @hx ff
 refine aa Jl ?_
 refine ae ?_
 refine cd (fun c1=>?_) (fun c1=>?_) (hp:=rfl)
 .
  have hk2:k<x.z.sets.length:=by simpa using c1
  have hk3:k<x.b.length:=by omega
  have ff:=qB (bI hk2) (iA hk3) ff;refine dw_skip ?_;refine ae ?_;refine ai ?_;refine oD Jl ?_;refine cd (fun c2=>?_) (fun c2=>?_)
  .
   refine aa Jl ?_;exact fo 0 (k:=by have hF:(mO x) k=false:=(by simp only[mO];grind);simp only[glueB];rw[hv,bT hk2 hF];try simp)
  refine dw_skip ?_;refine ah Jl ?_
  show ∃ _,_
  have h8:(mO x) k=true:=by simp only[mO];grind
  exact ak (k+1,_) (h1:=⟨iv,(by first|(rw[hv,aY hk2 h8])|(dsimp only;rw[hv,aY hk2 h8])),iv,trivial⟩)
 refine aB ?_
 refine aa Jl ?_
 exact fo 0 (k:=by simp only[glueB];rw[hv,gI (by omega)])
theorem Ex (x:Lay) (hl:x.z.sets.length<=1000000):PureCt Tryz.prog 75 [.agg x.d] (.b (formB x)):=by
 refine oO Tryz.func75 fun ff=>?_
 unfold Tryz.f75
 refine aa Jl ?_
 refine ae ?_
 refine aa Jl ?_
 refine ai ?_
 refine lp (α:=(Nat)×Nat) [1,8,9] (fun ⟨k,nx⟩=>(k<=x.z.sets.length)/\(av x.z.sets.length (kz x.z) 0=av x.z.sets.length (kz x.z) k)/\(0<nx)/\True) (fun ⟨k,nx⟩=>x.z.sets.length-k) (fun ⟨k,nx⟩=>[(10,.i k)]) (fun ⟨k,nx⟩=>[(0,⟨116,[x.d]⟩)]) (fun ⟨k,nx⟩=>nx) (0,_) (hA:=⟨iv,rfl,iv,trivial⟩) (round:=?_)
 rintro⟨k,nx⟩ ⟨hk,hv,hx, -⟩
 simp only[X0,X3]
 have ff:=qA @hx ff
 refine aa Jl ?_
 refine ae ?_
 refine cd (fun c1=>?_) (fun c1=>?_) (hp:=rfl)
 .
  have hk2:k<x.z.sets.length:=by simpa using c1
  have ff:=qA (bI hk2) ff;refine dw_skip ?_;refine ae ?_;refine ai ?_;refine aa Jl ?_;refine aa Jl ?_ (hok:=oF (Nh _ _));refine cd (fun c2=>?_) (fun c2=>?_)
  .
   refine aa Jl ?_;exact fo 0 (k:=by have hF:(kz x.z) k=false:=(by simpa only[kz] using c2);simp only[formB];rw[hv,bT hk2 hF];try simp)
  refine dw_skip ?_;refine ah Jl ?_
  show ∃ _,_
  have h8:(kz x.z) k=true:=by simpa only[kz] using c2
  exact ak (k+1,_) (h1:=⟨iv,(by first|(rw[hv,aY hk2 h8])|(dsimp only;rw[hv,aY hk2 h8])),iv,trivial⟩)
 refine aB ?_
 refine aa Jl ?_
 exact fo 0 (k:=by simp only[formB];rw[hv,gI (by omega)])
end Go.Proofs.YtjngdcldglkolaaGreatDoor
namespace Go.Proofs.YtjngdcldglkolaaGreatDoor
open Go.DL Go.Str Go.Rec Go.Cmp Go.Zon
set_option maxRecDepth 10000
variable [Glob Tryz.prog] [Told]
theorem Ng (z:Zon) (hl:z.sets.length<=1000000):PureCt Tryz.prog 71 [.agg z.d] (.agg (layOf z).d):=by
 refine oO Tryz.func71 fun ff=>?_
 unfold Tryz.f71
 refine oC Jl ?_
 refine ae ?_
 refine aa Jl ?_
 refine ai ?_
 refine lp (α:=(Nat)×Nat) [1,2,3,16,17] (fun ⟨k,nx⟩=>(k<=z.sets.length)/\(2<nx)/\True) (fun ⟨k,nx⟩=>z.sets.length-k) (fun ⟨k,nx⟩=>[(18,.i k)]) (fun ⟨k,nx⟩=>[(0,⟨113,[z.d]⟩),(1,⟨116,[[.v (.string (bs [])),.list true [],.list true []]]⟩),(2,⟨174,eY (lS (bP z (k)))⟩)]) (fun ⟨k,nx⟩=>nx) (0,_) (hA:=⟨iv,iv,trivial⟩) (round:=?_)
 rintro⟨k,nx⟩ ⟨hk,hx, -⟩
 simp only[X0,X3]
 have n0:0<nx:=by omega
 have n1:1<nx:=by omega
 have ff:=qD @hx @n0 @n1 ff
 refine aa Jl ?_
 refine ae ?_
 refine cd (fun c1=>?_) (fun c1=>?_) (hp:=rfl)
 .
  have hk2:k<z.sets.length:=by simpa using c1
  have ff:=qA (bI hk2) ff;refine dw_skip ?_;refine ae ?_;refine ai ?_;refine oC Jl ?_;refine cd (fun c2=>?_) (fun c2=>?_)
  .
   refine ah Jl ?_;refine ah Jl ?_
   show ∃ _,_
   have ff:=qA (LD (z:=z) (k:=k) (by grind)) ff
   exact ak (k+1,_) (h1:=⟨iv,iv,trivial⟩)
  refine dw_skip ?_;refine ah Jl ?_
  show ∃ _,_
  have ff:=qA (LF (z:=z) (k:=k) (by grind)) ff
  exact ak (k+1,_) (h1:=⟨iv,iv,trivial⟩)
 refine aB ?_
 refine VH 3 2 ev ev rfl Sd ?_
 refine oC Jl ?_
 refine ae ?_
 refine aa Jl ?_
 refine ai ?_
 refine lp (α:=(Nat)×(Str)×(Nat)×(Nat)×Nat) [2,3,49,50] (fun ⟨k,cut,r6,rb,nx⟩=>(k<=z.sets.length)/\(rb<nx)/\(r6<nx)/\(2<rb/\rb<r6)/\(cut=(bM (bP z z.sets.length) z.sets k).2)/\True) (fun ⟨k,cut,r6,rb,nx⟩=>z.sets.length-k) (fun ⟨k,cut,r6,rb,nx⟩=>[(6,.mptr r6 0 0),(7,.v (.string (bs cut))),(51,.i k)]) (fun ⟨k,cut,r6,rb,nx⟩=>[(0,⟨113,[z.d]⟩),(1,⟨116,[[.v (.string (bs [])),.list true [],.list true []]]⟩),(r6,⟨116,[[.v (.string (bs z.apex)),.list false (z.sets.map Sgd.d),.mrow rb 0 z.sets.length]]⟩),(rb,⟨9,(jE (bP z z.sets.length) z.sets z.sets.length (k)).map sR⟩)]) (fun ⟨k,cut,r6,rb,nx⟩=>nx) (0,[],(nx+8),(nx+6),_) (hA:=⟨iv,iv,iv,iv,iv,trivial⟩) (round:=?_)
 rintro⟨k,cut,r6,rb,nx⟩ ⟨hk,hx,hx6,hbr,hc, -⟩
 simp only[X0,X3]
 have n0:0<nx:=by omega
 have n1:1<nx:=by omega
 have ff:=qA @hx (qI @hx6 @n0 @n1 (nH r6 rb) (nH 0 rb) (nH 1 rb) (nH 0 r6) (nH 1 r6) ff)
 refine aa Jl ?_
 refine ae ?_
 refine cd (fun c3=>?_) (fun c3=>?_) (hp:=rfl)
 .
  have hk2:k<z.sets.length:=by simpa using c3
  have ff:=qD (bI hk2) (Bz (m:=(bP z z.sets.length)) (l:=z.sets) hk) (iA (l:=jE (bP z z.sets.length) z.sets z.sets.length k) (n:=k) (by rw[Bz hk];exact hk2)) ff
  refine dw_skip ?_;refine ae ?_;refine ai ?_;refine oC Jl ?_;refine oK Jl (fun c4=>?_) (fun c4=>?_)
  .
   refine aa Jl ?_ (hok:=oF (Iw _ _));refine aa Jl ?_;refine cd (fun c5=>?_) (fun c5=>?_)
   .
    refine ah Jl ?_;refine oK Jl (fun c6=>?_) (fun c6=>?_)
    .
     refine ah Jl ?_;refine ah Jl ?_;refine ah Jl ?_
     show ∃ _,_
     have hcc:(bM (bP z z.sets.length) z.sets (k+1)).2=z.sets[k]!.set.name:=by show stepC _ (bM _ _ k).2 _=_;rw[<- hc];simp only[stepC];grind
     have ff:=qB (tO hk2 hcc) hcc ff;exact ak (k+1,(bM (bP z z.sets.length) z.sets (k+1)).2,r6,rb,_) (h1:=⟨iv,iv,iv,iv,iv,trivial⟩)
    refine ah Jl ?_;refine ah Jl ?_
    show ∃ _,_
    have hcc:(bM (bP z z.sets.length) z.sets (k+1)).2=[]:=by show stepC _ (bM _ _ k).2 _=_;rw[<- hc];simp only[stepC];grind
    have ff:=qB (tO hk2 hcc) hcc ff;exact ak (k+1,(bM (bP z z.sets.length) z.sets (k+1)).2,r6,rb,_) (h1:=⟨iv,iv,iv,iv,iv,trivial⟩)
   refine dw_skip ?_;refine oK Jl (fun c6=>?_) (fun c6=>?_)
   .
    refine ah Jl ?_;refine ah Jl ?_;refine ah Jl ?_
    show ∃ _,_
    have hcc:(bM (bP z z.sets.length) z.sets (k+1)).2=z.sets[k]!.set.name:=by show stepC _ (bM _ _ k).2 _=_;rw[<- hc];simp only[stepC];grind
    have ff:=qB (tO hk2 hcc) hcc ff;exact ak (k+1,(bM (bP z z.sets.length) z.sets (k+1)).2,r6,rb,_) (h1:=⟨iv,iv,iv,iv,iv,trivial⟩)
   refine ah Jl ?_;refine ah Jl ?_
   show ∃ _,_
   have hcc:(bM (bP z z.sets.length) z.sets (k+1)).2=cut:=by show stepC _ (bM _ _ k).2 _=_;rw[<- hc];simp only[stepC];grind
   have ff:=qB (tO hk2 hcc) hcc ff;exact ak (k+1,(bM (bP z z.sets.length) z.sets (k+1)).2,r6,rb,_) (h1:=⟨iv,iv,iv,iv,iv,trivial⟩)
  refine oK Jl (fun c6=>?_) (fun c6=>?_)
  .
   refine ah Jl ?_;refine ah Jl ?_;refine ah Jl ?_
   show ∃ _,_
   have hcc:(bM (bP z z.sets.length) z.sets (k+1)).2=z.sets[k]!.set.name:=by show stepC _ (bM _ _ k).2 _=_;rw[<- hc];simp only[stepC];grind
   have ff:=qB (tO hk2 hcc) hcc ff;exact ak (k+1,(bM (bP z z.sets.length) z.sets (k+1)).2,r6,rb,_) (h1:=⟨iv,iv,iv,iv,iv,trivial⟩)
  refine ah Jl ?_;refine ah Jl ?_
  show ∃ _,_
  have hcc:(bM (bP z z.sets.length) z.sets (k+1)).2=cut:=by show stepC _ (bM _ _ k).2 _=_;rw[<- hc];simp only[stepC];grind
  have ff:=qB (tO hk2 hcc) hcc ff;exact ak (k+1,(bM (bP z z.sets.length) z.sets (k+1)).2,r6,rb,_) (h1:=⟨iv,iv,iv,iv,iv,trivial⟩)
 refine aB ?_
 have e9:k=z.sets.length:=by omega
 subst e9
 have tk:List.take z.sets.length ((jE (bP z z.sets.length) z.sets z.sets.length z.sets.length).map sR)=(uM z).map sR:=by rw[Qp];exact Yp (by rw[Za,qU];exact XX _)
 have ff:=qB @tk (Bz (m:=(bP z z.sets.length)) (l:=z.sets) (XX z.sets.length)) ff
 refine aa Jl ?_
 exact oN (fin 2 (hr:=oR) (hk:=by (try simp only[go_sem,ff]);all_goals (exact wZ z)))
theorem AJ (z:Zon):PureCt Tryz.prog 31 [.agg z.d] (.b (zoneOk z)):=by
 refine oO Tryz.func31 fun ff=>?_
 unfold Tryz.f31
 refine oC Jl ?_
 refine oK Jl (fun c1=>?_) (fun c1=>?_) (hok:=by (try simp only[go_sem,ff]);all_goals (first|done|((repeat' (with_reducible apply And.intro))<;>first|(intros;exact Eo z)|(intro h;exact Nj z (Cc h))|(intros;simp_all;done)|skip)))
 .
  refine aa Jl ?_;exact fo 0 (k:=by simp only[zoneOk];grind)
 have ho:=Cc c1.1
 refine aa Jl ?_ (hok:=oF (Ng z ho))
 refine aa Jl ?_ (hok:=by (try simp only[go_sem,ff]);all_goals (first|done|((repeat' (with_reducible apply And.intro))<;>first|(intros;exact EA (layOf z) ho)|(intros;exact Ey (layOf z) ho (wZ z))|(intros;exact Ew (layOf z) ho (wZ z))|(intros;exact Ex (layOf z) ho)|skip)))
 exact fo 0 (k:=by simp only[zoneOk];rw[c1.1,c1.2];simp[Z0])
theorem En (z:Zon):PureCt Tryz.prog 46 [.agg z.d] (.tuple [.i (if zoneOk z then serialOf z else 0),.i (if zoneOk z then 0 else 1)]):=by
 refine oO Tryz.func46 fun ff=>?_
 unfold Tryz.f46
 refine aa Jl ?_
 refine oK Jl (fun c1=>?_) (fun c1=>?_) (hok:=oF (AJ z))
 .
  refine aa Jl ?_;exact fo 1 (k:=by simp[c1])
 refine aa Jl ?_ (hok:=oF (uW z ⟨z.apex,4⟩ (R5 c1)))
 obtain⟨hf1,hf2⟩:=Ou c1
 have ff:=qB (bI hf1) (oM hf2) ff
 refine aa Jl ?_
 exact fo 1 (k:=by simp[c1,serialOf])
end Go.Proofs.YtjngdcldglkolaaGreatDoor
namespace Go.Proofs.YtjngdcldglkolaaGreatDoor
open Go.DL Go.Str Go.Rec Go.Cmp Go.Zon
set_option maxRecDepth 10000
variable [Glob Tryz.prog] [Told]
theorem O0 {x y:RSig}(h:x.zone=y.zone/\x.key=y.key/\x.alg=y.alg/\x.frm=y.frm/\x.unt=y.unt/\x.sum=y.sum):x=y:=by
 obtain⟨a,b,c,d,e,f⟩:=x
 obtain⟨g,i,j,k,l,m⟩:=y
 simp at h
 simp[h]
theorem OX {x y:RSig}(h : ¬x.zone=y.zone \/ ¬x.key=y.key \/ ¬x.alg=y.alg \/ ¬x.frm=y.frm \/ ¬x.unt=y.unt \/ ¬x.sum=y.sum):x≠y:=by
 rintro rfl
 simp at h
theorem Qd (a:Sgd) (b:Sgd) (ha:sG a):PureCt Tryz.prog 101 [.agg a.d,.agg b.d] (.b (sameSgd a b)):=by
 refine oO Tryz.func101 fun ff=>?_
 unfold Tryz.f101
 have ha2:=ha.2
 refine aa Jl ?_
 refine oK Jl (fun c1=>?_) (fun c1=>?_) (hok:=oH (Qf _ _ ha.1))
 .
  refine aa Jl ?_;exact fo 0 (k:=by rw[O8 (by grind [sameB])])
 refine ae ?_
 refine aa Jl ?_
 refine ai ?_
 refine lp (α:=(Nat)×Nat) [2,3] (fun ⟨k,nx⟩=>(k<=a.sigs.length)/\(1<nx)/\(∀ i,i<k->a.sigs[i]! = b.sigs[i]!)/\True) (fun ⟨k,nx⟩=>a.sigs.length-k) (fun ⟨k,nx⟩=>[(5,.i k)]) (fun ⟨k,nx⟩=>[(0,⟨66,[a.d]⟩),(1,⟨66,[b.d]⟩)]) (fun ⟨k,nx⟩=>nx) (0,_) (hA:=⟨iv,iv,(by first|(intro i hi;omega)|(dsimp only;intro i hi;omega)),trivial⟩) (round:=?_)
 rintro⟨k,nx⟩ ⟨hk,hx,hv, -⟩
 simp only[X0,X3]
 have n0:0<nx:=by omega
 have ff:=qB @hx @n0 ff
 refine oL Jl (fun c2=>?_) (fun c2=>?_) (hp:=rfl)
 .
  have hk2:k<a.sigs.length:=by simpa using c2
  have hk3:k<b.sigs.length:=by grind
  have ff:=qB (oG hk2) (oG hk3) ff;refine ae ?_;refine ai ?_;refine aa Jl ?_;refine cd (fun c3=>?_) (fun c3=>?_)
  .
   refine aa Jl ?_;exact fo 0 (k:=by rw[O7 (OX c3)])
  refine dw_skip ?_;refine ah Jl ?_
  show ∃ _,_
  exact ak (k+1,_) (h1:=⟨iv,iv,(by (try dsimp only);intro i hi;by_cases e:i=k;subst e;exact O0 c3;exact hv i om),trivial⟩)
 refine aB ?_
 refine aa Jl ?_
 exact fo 0 (k:=by rw[O5 (by grind [sameB]) (by grind) fun i hi=>hv i (by omega)])
theorem Qe (a:List Sgd) (b:List Sgd) (ha:dY a):PureCt Tryz.prog 45 [.list false (a.map Sgd.d),.list false (b.map Sgd.d)] (.b (sameList a b)):=by
 refine oO Tryz.func45 fun ff=>?_
 unfold Tryz.f45
 have ha1:=ha.1
 refine aa Jl ?_
 refine oK Jl (fun c1=>?_) (fun c1=>?_)
 .
  refine aa Jl ?_;exact fo 0 (k:=by rw[O4 (by grind)])
 refine ae ?_
 refine aa Jl ?_
 refine ai ?_
 refine lp (α:=(Nat)×Nat) [0,1] (fun ⟨k,nx⟩=>(k<=a.length)/\(∀ i,i<k->sameSgd a[i]! b[i]! = true)/\True) (fun ⟨k,nx⟩=>a.length-k) (fun ⟨k,nx⟩=>[(5,.i k)]) (fun ⟨k,nx⟩=>[]) (fun ⟨k,nx⟩=>nx) (0,_) (hA:=⟨iv,(by first|(intro i hi;omega)|(dsimp only;intro i hi;omega)),trivial⟩) (round:=?_)
 rintro⟨k,nx⟩ ⟨hk,hv, -⟩
 simp only[X0,X3]
 refine oL Jl (fun c2=>?_) (fun c2=>?_) (hp:=rfl)
 .
  have hk2:k<a.length:=by simpa using c2
  have hk3:k<b.length:=by grind
  have ff:=qB (bI hk2) (bI hk3) ff;refine ae ?_;refine ai ?_;refine aa Jl ?_ (hok:=oH (Qd _ _ (ha.2 k hk2)));refine cd (fun c3=>?_) (fun c3=>?_)
  .
   refine aa Jl ?_;exact fo 0 (k:=by rw[O6 (k:=k) (by grind)])
  refine dw_skip ?_;refine ah Jl ?_
  show ∃ _,_
  exact ak (k+1,_) (h1:=⟨iv,(by (try dsimp only);intro i hi;by_cases e:i=k;subst e;grind;exact hv i om),trivial⟩)
 refine aB ?_
 refine aa Jl ?_
 exact fo 0 (k:=by rw[O3 (by grind) fun i hi=>hv i (by omega)])
theorem Bt (a:Zon) (b:Zon) (ha:dY a.sets):PureCt Tryz.prog 24 [.agg a.d,.agg b.d] (.b (sameZ a b)):=by
 refine oO Tryz.func24 fun ff=>?_
 unfold Tryz.f24
 refine aa Jl ?_
 refine aa Jl ?_ (hok:=oH (Qe _ _ ha))
 exact fo 0 (k:=by simp[PV])
theorem BI (z:Zon) (q:Qst) (hl:z.sets.length<=1000000):PureCt Tryz.prog 137 [.agg z.d,.agg q.d] (.i (atF z.sets q)):=by
 refine oO Tryz.func137 fun ff=>?_
 unfold Tryz.f137
 refine aa Jl ?_
 refine ae ?_
 refine aa Jl ?_
 refine ai ?_
 refine lp (α:=(Nat)×Nat) [2,3] (fun ⟨k,nx⟩=>(k<=z.sets.length)/\(1<nx)/\(atF z.sets q=ku z.sets q k)/\True) (fun ⟨k,nx⟩=>z.sets.length-k) (fun ⟨k,nx⟩=>[(5,.i k)]) (fun ⟨k,nx⟩=>[(0,⟨28,[z.d]⟩),(1,⟨86,[q.d]⟩)]) (fun ⟨k,nx⟩=>nx) (0,_) (hA:=⟨iv,iv,rfl,trivial⟩) (round:=?_)
 rintro⟨k,nx⟩ ⟨hk,hx,hv, -⟩
 simp only[X0,X3]
 have n0:0<nx:=by omega
 have ff:=qB @hx @n0 ff
 refine oL Jl (fun c1=>?_) (fun c1=>?_) (hp:=rfl)
 .
  have hk2:k<z.sets.length:=by simpa using c1
  have ff:=qA (bI hk2) ff;refine ae ?_;refine ai ?_;refine aa Jl ?_;refine cd (fun c2=>?_) (fun c2=>?_)
  .
   refine aa Jl ?_;exact fo 0 (k:=by rw[hv,mH,X4 hk2,X4 (by cases q;simp_all [Sgd.q])])
  refine dw_skip ?_;refine ah Jl ?_
  show ∃ _,_
  exact ak (k+1,_) (h1:=⟨iv,iv,(by (try dsimp only);rw[hv,mH,if_pos hk2,if_neg (by intro e;rw[<- e] at c2;simp[Sgd.q] at c2)]),trivial⟩)
 refine aB ?_
 refine aa Jl ?_
 exact fo 0 (k:=by rw[hv,mH,XZ (by omega)])
theorem GQ (z:Zon) (hl:z.sets.length<=1000000):PureCt Tryz.prog 85 [.agg z.d] (.b (twoB z)):=by
 refine oO Tryz.func85 fun ff=>?_
 unfold Tryz.f85
 refine aa Jl ?_
 refine oK Jl (fun c1=>?_) (fun c1=>?_) (hok:=oI (BI z ⟨z.apex,4⟩ hl) (BI z ⟨z.apex,2⟩ hl))
 .
  refine aa Jl ?_;exact fo 0 (k:=by simp only[twoB];grind)
 refine ae ?_
 refine aa Jl ?_
 refine ai ?_
 refine lp (α:=(Nat)×Nat) [1] (fun ⟨k,nx⟩=>(k<=z.sets.length)/\(av z.sets.length (jO z.apex z.sets) 0=av z.sets.length (jO z.apex z.sets) k)/\(0<nx)/\True) (fun ⟨k,nx⟩=>z.sets.length-k) (fun ⟨k,nx⟩=>[(3,.i k)]) (fun ⟨k,nx⟩=>[(0,⟨28,[z.d]⟩)]) (fun ⟨k,nx⟩=>nx) (0,_) (hA:=⟨iv,rfl,iv,trivial⟩) (round:=?_)
 rintro⟨k,nx⟩ ⟨hk,hv,hx, -⟩
 simp only[X0,X3]
 have ff:=qA @hx ff
 refine oL Jl (fun c2=>?_) (fun c2=>?_) (hp:=rfl)
 .
  have hk2:k<z.sets.length:=by simpa using c2
  have ff:=qA (bI hk2) ff;refine ae ?_;refine ai ?_;refine aa Jl ?_ (hok:=oH Qi);refine cd (fun c3=>?_) (fun c3=>?_)
  .
   refine aa Jl ?_;exact fo 0 (k:=by have hF:(jO z.apex z.sets) k=false:=(by simp only[jO];grind);simp only[twoB];rw[hv,bT hk2 hF];try simp)
  refine dw_skip ?_;refine ah Jl ?_
  show ∃ _,_
  have h8:(jO z.apex z.sets) k=true:=by simp only[jO];grind
  exact ak (k+1,_) (h1:=⟨iv,(by first|(rw[hv,aY hk2 h8])|(dsimp only;rw[hv,aY hk2 h8])),iv,trivial⟩)
 refine aB ?_
 refine aa Jl ?_
 exact fo 0 (k:=by simp only[twoB];rw[hv,gI (by omega)];grind)
theorem GU (z:Zon):PureCt Tryz.prog 84 [.agg z.d] (.b (oneB z)):=by
 refine oO Tryz.func84 fun ff=>?_
 unfold Tryz.f84
 refine aa Jl ?_
 refine oK Jl (fun c1=>?_) (fun c1=>?_) (hok:=by (try simp only[go_sem,ff]);all_goals (first|done|((repeat' (with_reducible apply And.intro))<;>first|(intros;exact fD _)|(exact (fun _=>yj _ (by have:=dN (by assumption);omega)))|(exact (fun h=>yj _ (by have:=dN (by simpa using h);omega)))|skip)))
 .
  refine aa Jl ?_;exact fo 0 (k:=by simp only[oneB];grind)
 refine ae ?_
 refine aa Jl ?_
 refine ai ?_
 refine lp (α:=(Nat)×Nat) [1] (fun ⟨k,nx⟩=>(k<=z.sets.length)/\(av z.sets.length (lL z.apex z.sets) 0=av z.sets.length (lL z.apex z.sets) k)/\(0<nx)/\True) (fun ⟨k,nx⟩=>z.sets.length-k) (fun ⟨k,nx⟩=>[(3,.i k)]) (fun ⟨k,nx⟩=>[(0,⟨28,[z.d]⟩)]) (fun ⟨k,nx⟩=>nx) (0,_) (hA:=⟨iv,rfl,iv,trivial⟩) (round:=?_)
 rintro⟨k,nx⟩ ⟨hk,hv,hx, -⟩
 simp only[X0,X3]
 have ff:=qA @hx ff
 refine oL Jl (fun c2=>?_) (fun c2=>?_) (hp:=rfl)
 .
  have hk2:k<z.sets.length:=by simpa using c2
  have hk1:k-1<z.sets.length:=by omega
  have e1:((k:Int)-1).toNat=k-1:=by omega
  have ff:=qD (bI hk2) (bI hk1) @e1 ff;refine ae ?_;refine ai ?_;refine aa Jl ?_;refine aa Jl ?_ (hok:=by (try simp only[go_sem,ff]);all_goals (first|done|((repeat' (with_reducible apply And.intro))<;>first|(intros;exact rz _)|(intros;exact BA _ _)|(exact (fun h=>jF _ _ (FU (by simpa using h)) (by have:=dN c1.1.1;omega)))|omega|(intro h;simp only[XV,XW] at h;omega)|(intros;simp_all;done)|skip)))
  refine cd (fun c3=>?_) (fun c3=>?_)
  .
   refine aa Jl ?_;exact fo 0 (k:=by have hF:(lL z.apex z.sets) k=false:=(by simp only[lL];grind);simp only[oneB];rw[hv,bT hk2 hF];try simp)
  refine dw_skip ?_;refine ah Jl ?_
  show ∃ _,_
  have h8:(lL z.apex z.sets) k=true:=by simp only[lL];grind
  exact ak (k+1,_) (h1:=⟨iv,(by first|(rw[hv,aY hk2 h8])|(dsimp only;rw[hv,aY hk2 h8])),iv,trivial⟩)
 refine aB ?_
 refine aa Jl ?_
 exact fo 0 (k:=by simp only[oneB];rw[hv,gI (by omega)];grind)
theorem BJ (z:Zon) (hl:z.sets.length<=1000000) (h0:0<=atF z.sets ⟨z.apex,4⟩) (h1:0<z.sets[(atF z.sets ⟨z.apex,4⟩).toNat]!.set.data.length):PureCt Tryz.prog 96 [.agg z.d] (.i (serialR z)):=by
 refine oO Tryz.func96 fun ff=>?_
 unfold Tryz.f96
 have h2:=MC z.sets ⟨z.apex,4⟩
 have h3:(atF z.sets ⟨z.apex,4⟩).toNat<z.sets.length:=by omega
 refine aa Jl ?_
 skip
 have ff:=qB (bI h3) (oM h1) ff
 refine aa Jl ?_ (hok:=oH (BI z ⟨z.apex,4⟩ hl))
 exact fp 0
theorem GR (z:Zon) (hl:z.sets.length<=1000000):PureCt Tryz.prog 86 [.agg z.d] (.b (threeB z)):=by
 refine oO Tryz.func86 fun ff=>?_
 unfold Tryz.f86
 refine oC Jl ?_
 refine ae ?_
 refine aa Jl ?_
 refine ai ?_
 refine lp (α:=(Nat)×(Str)×Nat) [1] (fun ⟨k,al,nx⟩=>(k<=z.sets.length)/\(0<nx)/\(al=eT z.sets k)/\(av z.sets.length (fZ z.sets) 0=av z.sets.length (fZ z.sets) k)/\True) (fun ⟨k,al,nx⟩=>z.sets.length-k) (fun ⟨k,al,nx⟩=>[(3,.v (.string (bs al))),(4,.i k)]) (fun ⟨k,al,nx⟩=>[(0,⟨28,[z.d]⟩)]) (fun ⟨k,al,nx⟩=>nx) (0,[],_) (hA:=⟨iv,iv,rfl,rfl,trivial⟩) (round:=?_)
 rintro⟨k,al,nx⟩ ⟨hk,hx,ha,hv, -⟩
 simp only[X0,X3]
 have ff:=qA @hx ff
 refine oL Jl (fun c1=>?_) (fun c1=>?_) (hp:=rfl)
 .
  have hk2:k<z.sets.length:=by simpa using c1
  have hk1:k-1<z.sets.length:=by omega
  have e1:((k:Int)-1).toNat=k-1:=by omega
  have ff:=qD (bI hk2) (bI hk1) @e1 ff;refine ae ?_;refine ai ?_;refine oK Jl (fun c2=>?_) (fun c2=>?_)
  .
   refine ah Jl ?_;refine oC Jl ?_;refine oK Jl (fun c3=>?_) (fun c3=>?_)
   .
    refine ah Jl ?_;refine aa Jl ?_ (hok:=by (try simp only[go_sem,ff]);all_goals (first|done|grind|(simp;grind)))
    refine cd (fun c4=>?_) (fun c4=>?_)
    .
     refine aa Jl ?_;exact fo 0 (k:=by have hF:(fZ z.sets) k=false:=(by simp only[fZ,gU,eT];grind);simp only[threeB];rw[hv,bT hk2 hF];try simp)
    refine dw_skip ?_;refine ah Jl ?_
    show ∃ _,_
    have hal:eT z.sets (k+1)=z.sets[k]!.set.name:=by simp only[eT];grind
    have ff:=qA hal ff;have h8:fZ z.sets k=true:=by simp only[fZ,gU,hal];grind
    exact ak (k+1,eT z.sets (k+1),_) (h1:=⟨iv,iv,rfl,(by first|(rw[hv,aY hk2 h8])|(dsimp only;rw[hv,aY hk2 h8])),trivial⟩)
   refine aa Jl ?_ (hok:=by (try simp only[go_sem,ff]);all_goals (first|done|grind|(simp;grind)))
   refine cd (fun c4=>?_) (fun c4=>?_)
   .
    refine aa Jl ?_;exact fo 0 (k:=by have hF:(fZ z.sets) k=false:=(by simp only[fZ,gU,eT];grind);simp only[threeB];rw[hv,bT hk2 hF];try simp)
   refine dw_skip ?_;refine ah Jl ?_
   show ∃ _,_
   have hal:eT z.sets (k+1)=z.sets[k]!.set.name:=by simp only[eT];grind
   have ff:=qA hal ff;have h8:fZ z.sets k=true:=by simp only[fZ,gU,hal];grind
   exact ak (k+1,eT z.sets (k+1),_) (h1:=⟨iv,iv,rfl,(by first|(rw[hv,aY hk2 h8])|(dsimp only;rw[hv,aY hk2 h8])),trivial⟩)
  refine oC Jl ?_;refine oK Jl (fun c3=>?_) (fun c3=>?_)
  .
   refine ah Jl ?_;refine aa Jl ?_ (hok:=by (try simp only[go_sem,ff]);all_goals (first|done|grind|(simp;grind)))
   refine cd (fun c4=>?_) (fun c4=>?_)
   .
    refine aa Jl ?_;exact fo 0 (k:=by have hF:(fZ z.sets) k=false:=(by simp only[fZ,gU,eT];grind);simp only[threeB];rw[hv,bT hk2 hF];try simp)
   refine dw_skip ?_;refine ah Jl ?_
   show ∃ _,_
   have hal:eT z.sets (k+1)=al:=by simp only[eT];grind
   have ff:=qA hal ff;have h8:fZ z.sets k=true:=by simp only[fZ,gU,hal];grind
   exact ak (k+1,eT z.sets (k+1),_) (h1:=⟨iv,iv,rfl,(by first|(rw[hv,aY hk2 h8])|(dsimp only;rw[hv,aY hk2 h8])),trivial⟩)
  refine aa Jl ?_ (hok:=by (try simp only[go_sem,ff]);all_goals (first|done|grind|(simp;grind)))
  refine cd (fun c4=>?_) (fun c4=>?_)
  .
   refine aa Jl ?_;exact fo 0 (k:=by have hF:(fZ z.sets) k=false:=(by simp only[fZ,gU,eT];grind);simp only[threeB];rw[hv,bT hk2 hF];try simp)
  refine dw_skip ?_;refine ah Jl ?_
  show ∃ _,_
  have hal:eT z.sets (k+1)=al:=by simp only[eT];grind
  have ff:=qA hal ff;have h8:fZ z.sets k=true:=by simp only[fZ,gU,hal];grind
  exact ak (k+1,eT z.sets (k+1),_) (h1:=⟨iv,iv,rfl,(by first|(rw[hv,aY hk2 h8])|(dsimp only;rw[hv,aY hk2 h8])),trivial⟩)
 refine aB ?_
 refine aa Jl ?_
 exact fo 0 (k:=by simp only[threeB];rw[hv,gI (by omega)])
end Go.Proofs.YtjngdcldglkolaaGreatDoor
namespace Go.Proofs.YtjngdcldglkolaaGreatDoor
open Go.DL Go.Str Go.Rec Go.Cmp Go.Zon
set_option maxRecDepth 10000
variable [Glob Tryz.prog] [Told]
@[go_sem] theorem cutsR_0 {z:Zon}:iC z 0=[]:=rfl
@[go_sem] theorem highTo_0 {cs:List Str}:bA cs 0=[]:=rfl
@[go_sem] theorem sR_snoc {l:List Str}{x:Str}:(l++[x]).map sR=l.map sR++[[.v (.string (bs x))]]:=by simp[sR]
theorem DJ {z:Zon}{k:Nat}(h:z.sets[k]!.set.ty=2 /\ ¬ z.sets[k]!.set.name=z.apex):iC z (k+1)=iC z k++[z.sets[k]!.set.name]:=X4 h
theorem DK {z:Zon}{k:Nat}(h : ¬ (z.sets[k]!.set.ty=2 /\ ¬ z.sets[k]!.set.name=z.apex)):iC z (k+1)=iC z k:=XZ h
theorem DN (z:Zon):∀ k,(iC z k).length<=k
 | 0=>XX _
 | k+1=>by
  have:=DN z k
  by_cases h:z.sets[k]!.set.ty=2 /\ ¬ z.sets[k]!.set.name=z.apex
  .
   rw[DJ h,XY];simp;omega
  rw[DK h];omega
theorem Ag {z:Zon}(hn:kX z):∀ k,k<=z.sets.length -> ∀ x∈iC z k,x.length<=1000
 | 0,_,x,hx=>by cases hx
 | k+1,h,x,hx=>by
  by_cases h2:z.sets[k]!.set.ty=2 /\ ¬ z.sets[k]!.set.name=z.apex
  .
   rw[DJ h2,Yt,Yq] at hx
   rcases hx with hx|hx
   .
    exact Ag hn k om x hx
   subst hx;exact hn.2 k om
  rw[DK h2] at hx;exact Ag hn k (by omega) x hx
theorem LJ {z:Zon}(hn:kX z):(cutsF z).length<=1000000:=Yb (DN z _) hn.1
theorem Ai {z:Zon}(hn:kX z) {k:Nat}(h:k<(cutsF z).length):(cutsF z)[k]!.length<=1000:=by
 refine Ag hn _ (XX _) _ ?_
 show (cutsF z)[k]! ∈ cutsF z
 rw[getElem!_pos (cutsF z) k h];exact YD h
theorem CZ {cs:List Str}{k:Nat}(h:bA cs k=[]\/inB cs[k]! (bA cs k)[(bA cs k).length-1]! = false):bA cs (k+1)=bA cs k++[cs[k]!]:=X4 h
theorem JN {cs:List Str}{k:Nat}(h : ¬ (bA cs k=[]\/inB cs[k]! (bA cs k)[(bA cs k).length-1]! = false)):bA cs (k+1)=bA cs k:=XZ h
theorem zy (cs:List Str):∀ k,k<=cs.length->(bA cs k).length<=k /\ ∀ x∈bA cs k,x∈cs
 | 0,_=>⟨XX _,fun x hx=>by cases hx⟩
 | k+1,h=>by
  have ih:=zy cs k (by omega)
  by_cases h2:bA cs k=[]\/inB cs[k]! (bA cs k)[(bA cs k).length-1]! = false
  .
   rw[CZ h2];refine⟨by rw[XY];simp;omega,fun x hx=>?_⟩
   rcases Yt.1 hx with hx|hx
   .
    exact ih.2 x hx
   rw[Yq] at hx;subst hx;rw[getElem!_pos _ _ (by omega)];exact YD _
  rw[JN h2];exact⟨om,ih.2⟩
theorem wB {z:Zon}(hn:kX z) {k i:Nat}(hk:k<=(cutsF z).length) (h:i<(bA (cutsF z) k).length):(bA (cutsF z) k)[i]!.length<=1000:=by
 refine Ag hn _ (XX _) _ ((zy _ k hk).2 _ ?_)
 rw[getElem!_pos (bA (cutsF z) k) i h];exact YD h
theorem UB {z:Zon}(hn:kX z):(highF z).length<=1000000:=Yb (zy _ _ (XX _)).1 (LJ hn)
theorem kZ {z:Zon}(hn:kX z) {i:Nat}(h:i<(highF z).length):(highF z)[i]!.length<=1000:=wB hn (XX _) h
theorem QU (z:Zon) (hl:z.sets.length<=1000000):PureCt Tryz.prog 221 [.agg z.d] (.list false ((cutsF z).map sR)):=by
 refine oO Tryz.func221 fun ff=>?_
 unfold Tryz.f221
 refine oC Jl ?_
 refine ae ?_
 refine qM 3 9 (by simp only[go_sem,ff]) (by simp only[go_sem,ff]) ?_
 refine aa Jl ?_
 refine ai ?_
 refine lp (α:=(Nat)×(Nat)×Nat) [1] (fun ⟨k,r,nx⟩=>(k<=z.sets.length)/\(r<nx)/\(0<r)/\True) (fun ⟨k,r,nx⟩=>z.sets.length-k) (fun ⟨k,r,nx⟩=>[(3,.mrow r 0 (iC z k).length),(4,.i k)]) (fun ⟨k,r,nx⟩=>[(0,⟨28,[z.d]⟩),(r,⟨9,(iC z k).map sR⟩)]) (fun ⟨k,r,nx⟩=>nx) (0,3,_) (hA:=⟨iv,iv,iv,trivial⟩) (round:=?_)
 rintro⟨k,r,nx⟩ ⟨hk,hr,hr0, -⟩
 simp only[X0,X3]
 have hcl:=DN z k
 have n0:0<nx:=by omega
 have ff:=qD @hr @n0 (nH 0 r) ff
 refine oL Jl (fun c1=>?_) (fun c1=>?_) (hp:=rfl)
 .
  have hk2:k<z.sets.length:=by simpa using c1
  have ff:=qA (bI hk2) ff;refine ae ?_;refine ai ?_;refine oC Jl ?_;refine cd (fun c2=>?_) (fun c2=>?_)
  .
   refine ah Jl ?_;refine ah Jl ?_
   show ∃ _,_
   have ff:=qA (DJ (z:=z) (k:=k) (by grind)) ff
   exact ak (k+1,(nx+27),_) (h1:=⟨iv,iv,iv,trivial⟩)
  refine dw_skip ?_;refine ah Jl ?_
  show ∃ _,_
  have ff:=qA (DK (z:=z) (k:=k) (by grind)) ff
  exact ak (k+1,r,_) (h1:=⟨iv,iv,iv,trivial⟩)
 refine aB ?_
 have e9:k=z.sets.length:=by omega
 subst e9
 refine aa Jl ?_
 exact fp 1
theorem QT (z:Zon) (hn:kX z):PureCt Tryz.prog 189 [.agg z.d] (.list false ((highF z).map sR)):=by
 refine oO Tryz.func189 fun ff=>?_
 unfold Tryz.f189
 have hl:=hn.1
 have hcl:=LJ hn
 refine aa Jl ?_
 refine aa Jl ?_ (hok:=oF (QU z hl))
 refine aa Jl ?_
 refine ae ?_
 refine qM 4 9 (by simp only[go_sem,ff]) (by simp only[go_sem,ff]) ?_
 refine aa Jl ?_
 refine ai ?_
 refine lp (α:=(Nat)×(Nat)×Nat) [3] (fun ⟨k,r,nx⟩=>(k<=(cutsF z).length)/\(r<nx)/\True) (fun ⟨k,r,nx⟩=>(cutsF z).length-k) (fun ⟨k,r,nx⟩=>[(4,.mrow r 0 (bA (cutsF z) k).length),(5,.i k)]) (fun ⟨k,r,nx⟩=>[(r,⟨9,(bA (cutsF z) k).map sR⟩)]) (fun ⟨k,r,nx⟩=>nx) (0,6,_) (hA:=⟨iv,iv,trivial⟩) (round:=?_)
 rintro⟨k,r,nx⟩ ⟨hk,hr, -⟩
 simp only[X0,X3]
 have hhl:=(zy (cutsF z) k hk).1
 have ff:=qA @hr ff
 refine oL Jl (fun c1=>?_) (fun c1=>?_) (hp:=rfl)
 .
  have hk2:k<(cutsF z).length:=by simpa using c1
  have e1:(((bA (cutsF z) k).length:Int)-1).toNat=(bA (cutsF z) k).length-1:=by omega
  have ff:=qB (iA hk2) @e1 ff;refine ae ?_;refine ai ?_
  by_cases h0:(bA (cutsF z) k).length=0
  .
   have hnil:=X5 h0;have ff:=qB @h0 @hnil ff;refine aa Jl ?_ (hok:=by (try simp only[go_sem,ff]);all_goals (first|done|((repeat' (with_reducible apply And.intro))<;>first|(exact (fun _=>jF _ _ (Ai hn hk2) (wB hn hk h9)))|omega|(intros;omega)|(intro h;simp at h;done)|skip)))
   refine cd (fun c2=>?_) (fun c2=>?_) (hq:=rfl)
   .
    refine ah Jl ?_;refine ah Jl ?_
    show ∃ _,_
    have ff:=qA (CZ (cs:=cutsF z) (k:=k) (by first|exact .inl (List.eq_nil_of_length_eq_zero h0)|grind)) ff
    exact ak (k+1,(nx+27),_) (h1:=⟨iv,iv,trivial⟩)
   grind
  have h9:(bA (cutsF z) k).length-1<(bA (cutsF z) k).length:=by omega
  have ff:=qA (iA h9) ff;refine aa Jl ?_ (hok:=by (try simp only[go_sem,ff]);all_goals (first|done|((repeat' (with_reducible apply And.intro))<;>first|(exact (fun _=>jF _ _ (Ai hn hk2) (wB hn hk h9)))|omega|(intros;omega)|(intro h;simp at h;done)|skip)))
  refine cd (fun c2=>?_) (fun c2=>?_)
  .
   refine ah Jl ?_;refine ah Jl ?_
   show ∃ _,_
   have ff:=qA (CZ (cs:=cutsF z) (k:=k) (by first|exact .inl (List.eq_nil_of_length_eq_zero h0)|grind)) ff
   exact ak (k+1,(nx+27),_) (h1:=⟨iv,iv,trivial⟩)
  refine dw_skip ?_;refine ah Jl ?_
  show ∃ _,_
  have ff:=qA (JN (cs:=cutsF z) (k:=k) (by grind)) ff
  exact ak (k+1,r,_) (h1:=⟨iv,iv,trivial⟩)
 refine aB ?_
 have e9:k=(cutsF z).length:=by omega
 subst e9
 refine aa Jl ?_
 exact fp 1
theorem GY (z:Zon) (hn:kX z):PureCt Tryz.prog 139 [.agg z.d] (.list false ((behR z).map sR)):=by
 refine oO Tryz.func139 fun ff=>?_
 unfold Tryz.f139
 have hl:=hn.1
 have hcl:=UB hn
 refine aa Jl ?_
 refine aa Jl ?_ (hok:=oF (QT z hn))
 refine oC Jl ?_
 refine ae ?_
 refine aa Jl ?_
 refine ai ?_
 refine lp (α:=(Nat)×(Nat)×(Nat)×Nat) [1,3] (fun ⟨k,j,rb,nx⟩=>(k<=z.sets.length)/\(rb<nx)/\(0<rb)/\(j=eG (highF z) z.sets k)/\(j<=(highF z).length)/\True) (fun ⟨k,j,rb,nx⟩=>z.sets.length-k) (fun ⟨k,j,rb,nx⟩=>[(4,.mrow rb 0 z.sets.length),(5,.i j),(6,.i k)]) (fun ⟨k,j,rb,nx⟩=>[(0,⟨28,[z.d]⟩),(rb,⟨9,(gT (highF z) z.sets z.sets.length (k)).map sR⟩)]) (fun ⟨k,j,rb,nx⟩=>nx) (0,0,8,_) (hA:=⟨iv,iv,iv,rfl,iv,trivial⟩) (round:=?_)
 rintro⟨k,j,rb,nx⟩ ⟨hk,hx,hb0,hj,hj2, -⟩
 simp only[X0,X3]
 have n0:0<nx:=by omega
 have ff:=qD @hx @n0 (nH 0 rb) ff
 refine oL Jl (fun c1=>?_) (fun c1=>?_) (hp:=rfl)
 .
  have hk2:k<z.sets.length:=by simpa using c1
  have ff:=qD (bI hk2) (Bu (hs:=highF z) (l:=z.sets) hk) (iA (l:=gT (highF z) z.sets z.sets.length k) (n:=k) (by rw[Bu hk];exact hk2)) ff
  refine ae ?_;refine ai ?_;refine aa Jl ?_;refine ae ?_;refine ai ?_;refine lp (α:=(Nat)×Nat) [1,3,4,6,7] (fun ⟨i,nx⟩=>(i<=(highF z).length)/\(rb<nx)/\(jU (highF z) z.sets[k]!.set.name j=jU (highF z) z.sets[k]!.set.name i)/\True) (fun ⟨i,nx⟩=>(highF z).length-i) (fun ⟨i,nx⟩=>[(5,.i i)]) (fun ⟨i,nx⟩=>[(0,⟨28,[z.d]⟩),(rb,⟨9,(gT (highF z) z.sets z.sets.length (k)).map sR⟩)]) (fun ⟨i,nx⟩=>nx) (j,_) (hA:=⟨iv,iv,rfl,trivial⟩) (round:=?_)
  rintro⟨i,nx⟩ ⟨hi,hx,hv2, -⟩;simp only[X0,X3];have n0:0<nx:=by omega
  have ff:=qD @hx @n0 (nH 0 rb) ff;refine ae ?_
  by_cases hk4:i<(highF z).length
  .
   have ff:=qA (iA hk4) ff;refine aa Jl ?_ (hok:=by (try simp only[go_sem,ff]);all_goals (first|done|((repeat' (with_reducible apply And.intro))<;>first|(exact (fun _=>vI _ _ (kZ hn hk4) (hn.2 _ hk2)))|omega|(intros;omega)|skip)))
   refine cd (fun c2=>?_) (fun c2=>?_) (hq:=rfl)
   .
    refine dw_skip ?_;refine ai ?_;refine ah Jl ?_
    show ∃ _,_
    exact ak (i+1,_) (h1:=⟨iv,iv,(by first|(rw[hv2,qW];grind)|(dsimp only;rw[hv2,qW];grind)),trivial⟩)
   have hav:eG (highF z) z.sets (k+1)=i:=by show jU _ _ _=_;rw[<- hj,hv2,qW];grind
   refine aB ?_
   by_cases hi0:i=0
   .
    have ff:=qA @hi0 ff;refine aa Jl ?_ (hok:=by (try simp only[go_sem,ff]);all_goals (first|done|((repeat' (with_reducible apply And.intro))<;>first|(exact (fun _=>jF _ _ (hn.2 _ hk2) (kZ hn hi9)))|omega|(intros;omega)|(intro h;simp at h;done)|skip)))
    refine cd (fun c3=>?_) (fun c3=>?_)
    .
     refine ah Jl ?_;refine ah Jl ?_
     show ∃ _,_
     have hcc:eQ (highF z) z.sets[k]!.set.name (eG (highF z) z.sets (k+1))=(highF z)[i-1]! := by rw[hav];simp only[eQ];grind
     have ff:=qA (yn hk2 hcc) ff;exact ak (k+1,i,rb,_) (h1:=⟨iv,iv,iv,(by first|(exact hav.symm)|(dsimp only;exact hav.symm)),iv,trivial⟩)
    refine dw_skip ?_;refine ah Jl ?_
    show ∃ _,_
    have hcc:eQ (highF z) z.sets[k]!.set.name (eG (highF z) z.sets (k+1))=[]:=by rw[hav];simp only[eQ];grind
    have ff:=qA (yo hk2 hcc) ff;exact ak (k+1,i,rb,_) (h1:=⟨iv,iv,iv,(by first|(exact hav.symm)|(dsimp only;exact hav.symm)),iv,trivial⟩)
   have hi9:i-1<(highF z).length:=by omega
   have e1:((i:Int)-1).toNat=i-1:=by omega
   have ff:=qB @e1 (iA hi9) ff;refine aa Jl ?_ (hok:=by (try simp only[go_sem,ff]);all_goals (first|done|((repeat' (with_reducible apply And.intro))<;>first|(exact (fun _=>jF _ _ (hn.2 _ hk2) (kZ hn hi9)))|omega|(intros;omega)|(intro h;simp at h;done)|skip)))
   refine cd (fun c3=>?_) (fun c3=>?_)
   .
    refine ah Jl ?_;refine ah Jl ?_
    show ∃ _,_
    have hcc:eQ (highF z) z.sets[k]!.set.name (eG (highF z) z.sets (k+1))=(highF z)[i-1]! := by rw[hav];simp only[eQ];grind
    have ff:=qA (yn hk2 hcc) ff;exact ak (k+1,i,rb,_) (h1:=⟨iv,iv,iv,(by first|(exact hav.symm)|(dsimp only;exact hav.symm)),iv,trivial⟩)
   refine dw_skip ?_;refine ah Jl ?_
   show ∃ _,_
   have hcc:eQ (highF z) z.sets[k]!.set.name (eG (highF z) z.sets (k+1))=[]:=by rw[hav];simp only[eQ];grind
   have ff:=qA (yo hk2 hcc) ff;exact ak (k+1,i,rb,_) (h1:=⟨iv,iv,iv,(by first|(exact hav.symm)|(dsimp only;exact hav.symm)),iv,trivial⟩)
  have e9:decide ((i:Int)<((highF z).length:Int))=false:=YE om;have ff:=qA @e9 ff;refine aa Jl ?_ (hok:=by (try simp only[go_sem,ff]);all_goals (first|done|((repeat' (with_reducible apply And.intro))<;>first|(exact (fun _=>vI _ _ (kZ hn hk4) (hn.2 _ hk2)))|omega|(intros;omega)|skip)))
  refine cd (fun c2=>?_) (fun c2=>?_) (hp:=rfl) (hq:=rfl)
  .
   grind
  have hav:eG (highF z) z.sets (k+1)=i:=by show jU _ _ _=_;rw[<- hj,hv2,qW];grind
  refine aB ?_
  by_cases hi0:i=0
  .
   have ff:=qA @hi0 ff;refine aa Jl ?_ (hok:=by (try simp only[go_sem,ff]);all_goals (first|done|((repeat' (with_reducible apply And.intro))<;>first|(exact (fun _=>jF _ _ (hn.2 _ hk2) (kZ hn hi9)))|omega|(intros;omega)|(intro h;simp at h;done)|skip)))
   refine cd (fun c3=>?_) (fun c3=>?_)
   .
    refine ah Jl ?_;refine ah Jl ?_
    show ∃ _,_
    have hcc:eQ (highF z) z.sets[k]!.set.name (eG (highF z) z.sets (k+1))=(highF z)[i-1]! := by rw[hav];simp only[eQ];grind
    have ff:=qA (yn hk2 hcc) ff;exact ak (k+1,i,rb,_) (h1:=⟨iv,iv,iv,(by first|(exact hav.symm)|(dsimp only;exact hav.symm)),iv,trivial⟩)
   refine dw_skip ?_;refine ah Jl ?_
   show ∃ _,_
   have hcc:eQ (highF z) z.sets[k]!.set.name (eG (highF z) z.sets (k+1))=[]:=by rw[hav];simp only[eQ];grind
   have ff:=qA (yo hk2 hcc) ff;exact ak (k+1,i,rb,_) (h1:=⟨iv,iv,iv,(by first|(exact hav.symm)|(dsimp only;exact hav.symm)),iv,trivial⟩)
  have hi9:i-1<(highF z).length:=by omega
  have e1:((i:Int)-1).toNat=i-1:=by omega
  have ff:=qB @e1 (iA hi9) ff;refine aa Jl ?_ (hok:=by (try simp only[go_sem,ff]);all_goals (first|done|((repeat' (with_reducible apply And.intro))<;>first|(exact (fun _=>jF _ _ (hn.2 _ hk2) (kZ hn hi9)))|omega|(intros;omega)|(intro h;simp at h;done)|skip)))
  refine cd (fun c3=>?_) (fun c3=>?_)
  .
   refine ah Jl ?_;refine ah Jl ?_
   show ∃ _,_
   have hcc:eQ (highF z) z.sets[k]!.set.name (eG (highF z) z.sets (k+1))=(highF z)[i-1]! := by rw[hav];simp only[eQ];grind
   have ff:=qA (yn hk2 hcc) ff;exact ak (k+1,i,rb,_) (h1:=⟨iv,iv,iv,(by first|(exact hav.symm)|(dsimp only;exact hav.symm)),iv,trivial⟩)
  refine dw_skip ?_;refine ah Jl ?_
  show ∃ _,_
  have hcc:eQ (highF z) z.sets[k]!.set.name (eG (highF z) z.sets (k+1))=[]:=by rw[hav];simp only[eQ];grind
  have ff:=qA (yo hk2 hcc) ff;exact ak (k+1,i,rb,_) (h1:=⟨iv,iv,iv,(by first|(exact hav.symm)|(dsimp only;exact hav.symm)),iv,trivial⟩)
 refine aB ?_
 have e9:k=z.sets.length:=by omega
 subst e9
 have tk:List.take z.sets.length ((gT (highF z) z.sets z.sets.length z.sets.length).map sR)=(behR z).map sR:=by rw[Qm];exact Yp (by rw[Za,o8];exact XX _)
 have ff:=qB @tk (Bu (hs:=highF z) (l:=z.sets) (XX z.sets.length)) ff
 refine aa Jl ?_
 exact oN (fin 1 (hr:=oR) (hk:=by (try simp only[go_sem,ff]);all_goals (exact o8 _ _ _)))
end Go.Proofs.YtjngdcldglkolaaGreatDoor
namespace Go.Proofs.YtjngdcldglkolaaGreatDoor
open Go.DL Go.Str Go.Rec Go.Cmp Go.Zon
set_option maxRecDepth 10000
variable [Glob Tryz.prog] [Told]
theorem D8 (z:Zon):(behR z).length=z.sets.length:=o8 _ _ _
theorem H8 (z:Zon):(ownF z).length=z.sets.length:=rG _ _
theorem GV (z:Zon) (hn:kX z):PureCt Tryz.prog 87 [.agg z.d] (.b (fourB z)):=by
 refine oO Tryz.func87 fun ff=>?_
 unfold Tryz.f87
 have hl:=hn.1
 have hbl:=D8 z
 refine aa Jl ?_
 refine aa Jl ?_ (hok:=oF (GY z hn))
 refine ae ?_
 refine aa Jl ?_
 refine ai ?_
 refine lp (α:=(Nat)×Nat) [1,3] (fun ⟨k,nx⟩=>(k<=z.sets.length)/\(av z.sets.length (cutAt ⟨z,behR z⟩) 0=av z.sets.length (cutAt ⟨z,behR z⟩) k)/\(0<nx)/\True) (fun ⟨k,nx⟩=>z.sets.length-k) (fun ⟨k,nx⟩=>[(4,.i k)]) (fun ⟨k,nx⟩=>[(0,⟨28,[z.d]⟩)]) (fun ⟨k,nx⟩=>nx) (0,_) (hA:=⟨iv,rfl,iv,trivial⟩) (round:=?_)
 rintro⟨k,nx⟩ ⟨hk,hv,hx, -⟩
 simp only[X0,X3]
 have ff:=qA @hx ff
 refine oL Jl (fun c1=>?_) (fun c1=>?_) (hp:=rfl)
 .
  have hk2:k<z.sets.length:=by simpa using c1
  have hk3:k<(behR z).length:=by omega
  have ff:=qB (bI hk2) (iA hk3) ff;refine ae ?_;refine ai ?_;refine oC Jl ?_;refine oK Jl (fun c2=>?_) (fun c2=>?_)
  .
   refine aa Jl ?_;exact fo 0 (k:=by have hF:(cutAt ⟨z,behR z⟩) k=false:=(by simp only[cutAt];grind);simp only[fourB,cutB];rw[hv,bT hk2 hF];try simp)
  refine oK Jl (fun c3=>?_) (fun c3=>?_)
  .
   refine aa Jl ?_;exact fo 0 (k:=by have hF:(cutAt ⟨z,behR z⟩) k=false:=(by simp only[cutAt];grind);simp only[fourB,cutB];rw[hv,bT hk2 hF];try simp)
  refine aa Jl ?_;refine cd (fun c4=>?_) (fun c4=>?_)
  .
   refine aa Jl ?_;exact fo 0 (k:=by have hF:(cutAt ⟨z,behR z⟩) k=false:=(by simp only[cutAt];grind);simp only[fourB,cutB];rw[hv,bT hk2 hF];try simp)
  refine dw_skip ?_;refine ah Jl ?_
  show ∃ _,_
  have h8:(cutAt ⟨z,behR z⟩) k=true:=by simp only[cutAt];grind
  exact ak (k+1,_) (h1:=⟨iv,(by first|(rw[hv,aY hk2 h8])|(dsimp only;rw[hv,aY hk2 h8])),iv,trivial⟩)
 refine aB ?_
 refine aa Jl ?_
 exact fo 0 (k:=by simp only[fourB,cutB];rw[hv,gI (by omega)])
theorem QS (z:Zon) (hn:kX z):PureCt Tryz.prog 140 [.agg z.d] (.list false ((ownF z).map bR)):=by
 refine oO Tryz.func140 fun ff=>?_
 unfold Tryz.f140
 have hl:=hn.1
 have hbl:=D8 z
 refine aa Jl ?_
 refine aa Jl ?_ (hok:=oF (GY z hn))
 refine aa Jl ?_
 refine ae ?_
 refine aa Jl ?_
 refine ai ?_
 refine lp (α:=(Nat)×(Nat)×Nat) [1,3] (fun ⟨k,rb,nx⟩=>(k<=z.sets.length)/\(rb<nx)/\(0<rb)/\True) (fun ⟨k,rb,nx⟩=>z.sets.length-k) (fun ⟨k,rb,nx⟩=>[(4,.mrow rb 0 z.sets.length),(5,.i k)]) (fun ⟨k,rb,nx⟩=>[(0,⟨28,[z.d]⟩),(rb,⟨4,(jD ⟨z,behR z⟩ z.sets.length (k)).map bR⟩)]) (fun ⟨k,rb,nx⟩=>nx) (0,8,_) (hA:=⟨iv,iv,iv,trivial⟩) (round:=?_)
 rintro⟨k,rb,nx⟩ ⟨hk,hx,hb0, -⟩
 simp only[X0,X3]
 have n0:0<nx:=by omega
 have ff:=qD @hx @n0 (nH 0 rb) ff
 refine oL Jl (fun c1=>?_) (fun c1=>?_) (hp:=rfl)
 .
  have hk2:k<z.sets.length:=by simpa using c1
  have hk3:k<(behR z).length:=by omega
  have ff:=qE (bI hk2) (iA hk3) (Bw (x:=⟨z,behR z⟩) hk) (J2 (l:=jD ⟨z,behR z⟩ z.sets.length k) (n:=k) (by rw[Bw hk];exact hk2)) ff
  refine ae ?_;refine ai ?_;refine aa Jl ?_;refine ah Jl ?_;refine ah Jl ?_
  show ∃ _,_
  exact ak (k+1,rb,_) (h1:=⟨iv,iv,iv,trivial⟩) (h3:=by (try simp only[go_sem,ff]);all_goals (first|done|exact congrArg (fun q=>some (Blk.mk 4 q)) (Bv hk2 (by simp only[nQ];grind))|(simp;done))) (h4:=by (try simp only[go_sem,ff]);all_goals (first|done|exact congrArg (fun q=>some (Blk.mk 4 q)) (Bv hk2 (by simp only[nQ];grind))|(simp;done))) (h5:=by (try simp only[go_sem,ff]);all_goals (first|done|exact congrArg (fun q=>some (Blk.mk 4 q)) (Bv hk2 (by simp only[nQ];grind))|(simp;done)))
 refine aB ?_
 have e9:k=z.sets.length:=by omega
 subst e9
 have tk:List.take z.sets.length ((jD ⟨z,behR z⟩ z.sets.length (z.sets.length)).map bR)=(ownF z).map bR:=by rw[Qn];exact Yp (by rw[Za,rG];exact XX _)
 have ff:=qB @tk (Bw (x:=⟨z,behR z⟩) (XX z.sets.length)) ff
 refine aa Jl ?_
 exact oN (fin 1 (hr:=oR) (hk:=by (try simp only[go_sem,ff]);all_goals (exact H8 z)))
theorem GX (z:Zon) (hn:kX z):PureCt Tryz.prog 88 [.agg z.d] (.b (fiveB z)):=by
 refine oO Tryz.func88 fun ff=>?_
 unfold Tryz.f88
 have hl:=hn.1
 have hbl:=D8 z
 have hol:=H8 z
 refine aa Jl ?_
 refine aa Jl ?_ (hok:=oF (QS z hn))
 refine ae ?_
 refine aa Jl ?_
 refine ai ?_
 refine lp (α:=(Nat)×Nat) [1,3] (fun ⟨k,nx⟩=>(k<=z.sets.length)/\(av z.sets.length (oU ⟨z,behR z⟩) 0=av z.sets.length (oU ⟨z,behR z⟩) k)/\(0<nx)/\True) (fun ⟨k,nx⟩=>z.sets.length-k) (fun ⟨k,nx⟩=>[(4,.i k)]) (fun ⟨k,nx⟩=>[(0,⟨28,[z.d]⟩)]) (fun ⟨k,nx⟩=>nx) (0,_) (hA:=⟨iv,rfl,iv,trivial⟩) (round:=?_)
 rintro⟨k,nx⟩ ⟨hk,hv,hx, -⟩
 simp only[X0,X3]
 have ff:=qA @hx ff
 refine oL Jl (fun c1=>?_) (fun c1=>?_) (hp:=rfl)
 .
  have hk2:k<z.sets.length:=by simpa using c1
  have hk3:k<(ownF z).length:=by omega
  have ho:(ownF z)[k]! = nQ ⟨z,behR z⟩ k:=RN _ _ _ hk2;have ff:=qB (bI hk2) (J2 hk3) ff;refine ae ?_;refine ai ?_;refine aa Jl ?_ (hok:=by (try simp only[go_sem,ff]);all_goals (first|done|((repeat' (with_reducible apply And.intro))<;>first|(intros;exact Gd _ _)|omega|(intros;omega)|(intros;simp_all;done)|skip)))
  refine cd (fun c2=>?_) (fun c2=>?_)
  .
   refine aa Jl ?_;exact fo 0 (k:=by have hF:(oU ⟨z,behR z⟩) k=false:=(by simp only[oU,kz,mO,nQ] at *;grind);simp only[fiveB];rw[hv,bT hk2 hF];try simp)
  refine dw_skip ?_;refine ah Jl ?_
  show ∃ _,_
  have h8:(oU ⟨z,behR z⟩) k=true:=by simp only[oU,kz,mO,nQ] at *;grind
  exact ak (k+1,_) (h1:=⟨iv,(by first|(rw[hv,aY hk2 h8])|(dsimp only;rw[hv,aY hk2 h8])),iv,trivial⟩)
 refine aB ?_
 refine aa Jl ?_
 exact fo 0 (k:=by simp only[fiveB];rw[hv,gI (by omega)])
theorem yE (z:Zon):PureCt Tryz.prog 34 [.agg z.d] (.b (refOk z)):=by
 refine oO Tryz.func34 fun ff=>?_
 unfold Tryz.f34
 refine aa Jl ?_
 refine aa Jl ?_ (hok:=by (try simp only[go_sem,ff]);all_goals (first|done|((repeat' (with_reducible apply And.intro))<;>first|(intros;exact GU z)|(exact (fun h=>GQ z (qc (by simp_all)).1))|(exact (fun h=>GR z (qc (by simp_all)).1))|(exact (fun h=>GV z (qc (by simp_all))))|(exact (fun h=>GX z (qc (by simp_all))))|(intros;simp_all;done)|skip)))
 exact fo 0 (k:=by simp[refOk,Z0])
end Go.Proofs.YtjngdcldglkolaaGreatDoor
namespace Go.Proofs.YtjngdcldglkolaaGreatDoor
open Go.DL Go.Str Go.Rec Go.Cmp Go.Zon
set_option maxRecDepth 10000
variable [Glob Tryz.prog] [Told]
theorem Q4 {x y:Qst}(h:x.name=y.name/\x.ty=y.ty):x=y:=by
 obtain⟨a,b⟩:=x
 obtain⟨g,i⟩:=y
 simp at h
 simp[h]
theorem Gf (x:Int):PureCt Tryz.prog 61 [.i x] (.b (serB x)):=by
 refine oO Tryz.func61 fun ff=>?_
 unfold Tryz.f61
 refine oC Jl ?_
 exact fo 0 (k:=by simp[serB])
theorem z8 (x:Int):PureCt Tryz.prog 105 [.i x] (.b (serB x)):=by
 refine oO Tryz.func105 fun ff=>?_
 unfold Tryz.f105
 refine oC Jl ?_
 exact fo 0 (k:=by simp[serB])
theorem GL (a:Int) (b:Int) (ha:serB a=true) (hb:serB b=true):PureCt Tryz.prog 62 [.i a,.i b] (.b (befB a b)):=by
 refine oO Tryz.func62 fun ff=>?_
 unfold Tryz.f62
 simp only[serB,XV,XW] at ha hb
 refine oD Jl ?_
 exact fo 0 (k:=by simp[befB])
theorem Ls (a:Int) (b:Int) (ha:serB a=true) (hb:serB b=true):PureCt Tryz.prog 106 [.i a,.i b] (.b (befB a b)):=by
 refine oO Tryz.func106 fun ff=>?_
 unfold Tryz.f106
 simp only[serB,XV,XW] at ha hb
 refine oD Jl ?_
 exact fo 0 (k:=by simp[befB])
theorem kM (s:Sgd):PureCt Tryz.prog 66 [.agg s.d] (.agg s.q.d):=by
 refine oO Tryz.func66 fun ff=>?_
 unfold Tryz.f66
 refine oC Jl ?_
 exact fp 1
theorem ma (s:Sgd):PureCt Tryz.prog 51 [.agg s.d] (.agg s.q.d):=by
 refine oO Tryz.func51 fun ff=>?_
 unfold Tryz.f51
 refine oC Jl ?_
 exact fp 1
theorem rC (a:Qst) (b:Qst):PureCt Tryz.prog 64 [.agg a.d,.agg b.d] (.i (qO a b)):=by
 refine oO Tryz.func64 fun ff=>?_
 unfold Tryz.f64
 refine aa Jl ?_
 refine aa Jl ?_ (hok:=oF (BA ⟨a.name,a.ty,0,[]⟩ ⟨b.name,b.ty,0,[]⟩))
 exact fp 0
theorem Gg (l:List Sgd) (q:Qst) (hl:l.length<=1000000):PureCt Tryz.prog 97 [.list false (l.map Sgd.d),.agg q.d] (.i (atF l q)):=by
 refine oO Tryz.func97 fun ff=>?_
 unfold Tryz.f97
 refine aa Jl ?_
 refine ae ?_
 refine aa Jl ?_
 refine ai ?_
 refine lp (α:=(Nat)×Nat) [0,3] (fun ⟨k,nx⟩=>(k<=l.length)/\(0<nx)/\(atF l q=ku l q k)/\True) (fun ⟨k,nx⟩=>l.length-k) (fun ⟨k,nx⟩=>[(5,.i k)]) (fun ⟨k,nx⟩=>[(0,⟨86,[q.d]⟩)]) (fun ⟨k,nx⟩=>nx) (0,_) (hA:=⟨iv,iv,rfl,trivial⟩) (round:=?_)
 rintro⟨k,nx⟩ ⟨hk,hx,hv, -⟩
 simp only[X0,X3]
 have ff:=qA @hx ff
 refine oL Jl (fun c1=>?_) (fun c1=>?_) (hp:=rfl)
 .
  have hk2:k<l.length:=by simpa using c1
  have ff:=qA (bI hk2) ff;refine ae ?_;refine ai ?_;refine aa Jl ?_ (hok:=by (try simp only[go_sem,ff]);all_goals (first|done|((repeat' (with_reducible apply And.intro))<;>first|(intros;exact kM l[k]!)|rfl|omega|skip)))
  refine cd (fun c2=>?_) (fun c2=>?_)
  .
   refine aa Jl ?_;exact fo 0 (k:=by rw[hv,mH,X4 hk2,X4 (by cases q;simp_all [Sgd.q])])
  refine dw_skip ?_;refine ah Jl ?_
  show ∃ _,_
  exact ak (k+1,_) (h1:=⟨iv,iv,(by (try dsimp only);rw[hv,mH,if_pos hk2,if_neg (by intro e;rw[<- e] at c2;simp[Sgd.q] at c2)]),trivial⟩)
 refine aB ?_
 refine aa Jl ?_
 exact fo 0 (k:=by rw[hv,mH,XZ (by omega)])
theorem yD (l:List Qst) (q:Qst) (hl:l.length<=1000000):PureCt Tryz.prog 67 [.list false (l.map Qst.d),.agg q.d] (.b (askB l q)):=by
 refine oO Tryz.func67 fun ff=>?_
 unfold Tryz.f67
 refine aa Jl ?_
 refine ae ?_
 refine aa Jl ?_
 refine ai ?_
 refine lp (α:=(Nat)×Nat) [0,3] (fun ⟨k,nx⟩=>(k<=l.length)/\(0<nx)/\(∀ i,i<k->l[i]! ≠ q)/\True) (fun ⟨k,nx⟩=>l.length-k) (fun ⟨k,nx⟩=>[(5,.i k)]) (fun ⟨k,nx⟩=>[(0,⟨86,[q.d]⟩)]) (fun ⟨k,nx⟩=>nx) (0,_) (hA:=⟨iv,iv,(by first|(intro i hi;omega)|(dsimp only;intro i hi;omega)),trivial⟩) (round:=?_)
 rintro⟨k,nx⟩ ⟨hk,hx,hv, -⟩
 simp only[X0,X3]
 have ff:=qA @hx ff
 refine oL Jl (fun c1=>?_) (fun c1=>?_) (hp:=rfl)
 .
  have hk2:k<l.length:=by simpa using c1
  have ff:=qA (sD hk2) ff;refine ae ?_;refine ai ?_;refine aa Jl ?_;refine cd (fun c2=>?_) (fun c2=>?_)
  .
   refine aa Jl ?_;exact fo 0 (k:=by rw[XL hk2 (Q4 c2)])
  refine dw_skip ?_;refine ah Jl ?_
  show ∃ _,_
  exact ak (k+1,_) (h1:=⟨iv,iv,(by (try dsimp only);intro i hi;by_cases e:i=k;subst e;intro e2;rw[<- e2] at c2;simp at c2;exact hv i (by omega)),trivial⟩)
 refine aB ?_
 refine aa Jl ?_
 exact fo 0 (k:=by rw[XM fun i hi=>hv i (by omega)])
theorem Qt (d:Dlt):PureCt Tryz.prog 12 [.agg d.d] (.b (fewD d)):=by
 refine oO Tryz.func12 fun ff=>?_
 unfold Tryz.f12
 refine aa Jl ?_
 refine ae ?_
 refine aa Jl ?_
 refine ai ?_
 refine lp (α:=(Nat)×Nat) [1] (fun ⟨k,nx⟩=>(k<=d.put.length)/\(k<=50)/\(0<nx)/\(av (min d.put.length 50) (fun i=>decide (d.put[i]!.sigs.length<=10)&&decide (d.put[i]!.set.data.length<=20)) 0=av (min d.put.length 50) (fun i=>decide (d.put[i]!.sigs.length<=10)&&decide (d.put[i]!.set.data.length<=20)) k)/\True) (fun ⟨k,nx⟩=>d.put.length-k) (fun ⟨k,nx⟩=>[(3,.i k)]) (fun ⟨k,nx⟩=>[(0,⟨31,[d.d]⟩)]) (fun ⟨k,nx⟩=>nx) (0,_) (hA:=⟨iv,iv,iv,rfl,trivial⟩) (round:=?_)
 rintro⟨k,nx⟩ ⟨hk,hk7,hx,hv, -⟩
 simp only[X0,X3]
 have ff:=qA @hx ff
 refine oL Jl (fun c1=>?_) (fun c1=>?_)
 .
  have hk2:k<d.put.length:=by grind
  have hk9:k<50:=by grind
  have hk8:k<min d.put.length 50:=by omega
  have ff:=qA (bI hk2) ff;refine ae ?_;refine ai ?_;refine aa Jl ?_;refine cd (fun c2=>?_) (fun c2=>?_)
  .
   refine aa Jl ?_;exact fo 0 (k:=by simp only[fewD];rw[hv,bT hk8 (by grind)];rfl)
  refine dw_skip ?_;refine ah Jl ?_
  show ∃ _,_
  exact ak (k+1,_) (h1:=⟨iv,iv,iv,(by (try dsimp only);rw[hv,aY hk8 (by grind)]),trivial⟩)
 refine aB ?_
 refine aa Jl ?_
 exact fo 0 (k:=by simp only[fewD];rw[hv,gI (by grind)];simp;rw[Bool.eq_iff_iff];simp;omega)
end Go.Proofs.YtjngdcldglkolaaGreatDoor
namespace Go.Proofs.YtjngdcldglkolaaGreatDoor
open Go.DL Go.Str Go.Rec Go.Cmp Go.Zon
set_option maxRecDepth 10000
variable [Glob Tryz.prog] [Told]
@[go_sem] theorem insTo_0 {α:Type}[Inhabited α] {gt:α->Bool}{l:List α}{s:α}:di gt l s 0=([],false):=rfl
@[go_sem] theorem FL {l:List Sgd}{x:Sgd}:(l++[x]).map Sgd.d=l.map Sgd.d++[[.v (.string (bs x.set.name)),.i x.set.ty,.i x.set.life,.list false (x.set.data.map Dat.d),.list false (x.sigs.map RSig.d)]]:=by simp[Sgd.d]
theorem Uq {α:Type}[Inhabited α] (gt:α->Bool) (l:List α) (s:α) (k:Nat):(di gt l s k).1.length<=k+1:=by
 rw[CY];split<;>omega
theorem Qc (l:List Sgd) (s:Sgd) (hl:l.length<=1000000):PureCt Tryz.prog 98 [.list false (l.map Sgd.d),.agg s.d] (.list false ((sortedF l s).map Sgd.d)):=by
 refine oO Tryz.func98 fun ff=>?_
 unfold Tryz.f98
 refine oC Jl ?_
 refine qM 5 66 (by simp only[go_sem,ff]) (by simp only[go_sem,ff]) ?_
 refine aa Jl ?_
 refine ae ?_
 refine aa Jl ?_
 refine ai ?_
 refine lp (α:=(Nat)×(Nat)×Nat) [0,3] (fun ⟨k,r,nx⟩=>(k<=l.length)/\(r<nx)/\(0<r)/\True) (fun ⟨k,r,nx⟩=>l.length-k) (fun ⟨k,r,nx⟩=>[(5,.mrow r 0 (di (fun x=>decide (0<qO x.q s.q)) l s k).1.length),(6,.b (di (fun x=>decide (0<qO x.q s.q)) l s k).2),(7,.i k)]) (fun ⟨k,r,nx⟩=>[(0,⟨66,[s.d]⟩),(r,⟨66,(di (fun x=>decide (0<qO x.q s.q)) l s k).1.map Sgd.d⟩)]) (fun ⟨k,r,nx⟩=>nx) (0,3,_) (hA:=⟨iv,iv,iv,trivial⟩) (round:=?_)
 rintro⟨k,r,nx⟩ ⟨hk,hr,hr0, -⟩
 simp only[X0,X3]
 have n0:0<nx:=by omega
 have hgl:=Uq (fun x=>decide (0<qO x.q s.q)) l s k
 have ff:=qD @hr @n0 (nH 0 r) ff
 refine oL Jl (fun c1=>?_) (fun c1=>?_) (hp:=rfl)
 .
  have hk2:k<l.length:=by simpa using c1
  have ff:=qA (bI hk2) ff;refine ae ?_;refine ai ?_;refine oK Jl (fun c2=>?_) (fun c2=>?_) (hok:=oJ (kM l[k]!) (kM s) (rC l[k]!.q s.q))
  .
   refine aa Jl ?_;refine ah Jl ?_;refine ah Jl ?_;refine ah Jl ?_
   show ∃ _,_
   have hst:=JF (gt:=fun x=>decide (0<qO x.q s.q)) (l:=l) (s:=s) (k:=k) (by grind)
   have ff:=qA hst ff;exact ak (k+1,(nx+29),_) (h1:=⟨iv,iv,iv,trivial⟩)
  refine ah Jl ?_;refine ah Jl ?_
  show ∃ _,_
  have hst:=JH (gt:=fun x=>decide (0<qO x.q s.q)) (l:=l) (s:=s) (k:=k) (by grind)
  have ff:=qA hst ff;exact ak (k+1,(nx+23),_) (h1:=⟨iv,iv,iv,trivial⟩)
 refine aB ?_
 refine oK Jl (fun c3=>?_) (fun c3=>?_)
 .
  refine ah Jl ?_;have e9:k=l.length:=by omega
  subst e9;refine aa Jl ?_;exact fo 1 (k:=by simp only[sortedF,oq];first|(rw[X4 c3,FL];done)|(rw[XZ (by simp[c3])];done))
 have e9:k=l.length:=by omega
 subst e9
 refine aa Jl ?_
 exact fo 1 (k:=by simp only[sortedF,oq];first|(rw[X4 c3,FL];done)|(rw[XZ (by simp[c3])];done))
theorem Qs (d:Dlt):PureCt Tryz.prog 29 [.agg d.d] (.b (dltOk d)):=by
 refine oO Tryz.func29 fun ff=>?_
 unfold Tryz.f29
 refine aa Jl ?_
 refine oK Jl (fun c1=>?_) (fun c1=>?_) (hok:=by (try simp only[go_sem,ff]);all_goals (first|done|((repeat' (with_reducible apply And.intro))<;>first|(intros;exact fD _)|(exact (fun _=>gQ _))|(exact (fun _=>Gf _))|(exact (fun h=>GL _ _ (by simp_all) (by simp_all)))|(intros;simp_all;done)|skip)))
 .
  refine aa Jl ?_;exact fo 0 (k:=by simp only[dltOk];grind)
 refine ae ?_
 refine aa Jl ?_
 refine ai ?_
 refine lp (α:=(Nat)×Nat) [1] (fun ⟨k,nx⟩=>(k<=d.drop.length)/\(av d.drop.length (lm d.drop) 0=av d.drop.length (lm d.drop) k)/\(0<nx)/\True) (fun ⟨k,nx⟩=>d.drop.length-k) (fun ⟨k,nx⟩=>[(3,.i k)]) (fun ⟨k,nx⟩=>[(0,⟨31,[d.d]⟩)]) (fun ⟨k,nx⟩=>nx) (0,_) (hA:=⟨iv,rfl,iv,trivial⟩) (round:=?_)
 rintro⟨k,nx⟩ ⟨hk,hv1,hx, -⟩
 simp only[X0,X3]
 have ff:=qA @hx ff
 refine oL Jl (fun c2=>?_) (fun c2=>?_) (hp:=rfl)
 .
  have hk2:k<d.drop.length:=by simpa using c2
  have hk1:k-1<d.drop.length:=by omega
  have e1:((k:Int)-1).toNat=k-1:=by omega
  have ff:=qD (sD hk2) (sD hk1) @e1 ff;refine ae ?_;refine ai ?_;refine aa Jl ?_ (hok:=by (try simp only[go_sem,ff]);all_goals (first|done|((repeat' (with_reducible apply And.intro))<;>first|(intros;exact ym _)|(exact (fun _=>rC _ _))|(intros;exact ym d.drop[k]!)|(exact (fun _=>rC d.drop[k-1]! d.drop[k]!))|omega|(intro h;simp only[XV,XW] at h;omega)|(intros;omega)|(intros;simp_all;done)|skip)))
  refine cd (fun c3=>?_) (fun c3=>?_)
  .
   refine aa Jl ?_;exact fo 0 (k:=by have hF:(lm d.drop) k=false:=(by simp only[lm];grind);simp only[dltOk];rw[hv1,bT hk2 hF];try simp)
  refine dw_skip ?_;refine ah Jl ?_
  show ∃ _,_
  have h8:(lm d.drop) k=true:=by simp only[lm];grind
  exact ak (k+1,_) (h1:=⟨iv,(by first|(rw[hv1,aY hk2 h8])|(dsimp only;rw[hv1,aY hk2 h8])),iv,trivial⟩)
 refine aB ?_
 refine ae ?_
 refine aa Jl ?_
 refine ai ?_
 refine lp (α:=(Nat)×Nat) [1] (fun ⟨k,nx⟩=>(k<=d.put.length)/\(av d.put.length (putAt d) 0=av d.put.length (putAt d) k)/\(0<nx)/\True) (fun ⟨k,nx⟩=>d.put.length-k) (fun ⟨k,nx⟩=>[(4,.i k)]) (fun ⟨k,nx⟩=>[(0,⟨31,[d.d]⟩)]) (fun ⟨k,nx⟩=>nx) (0,_) (hA:=⟨iv,rfl,iv,trivial⟩) (round:=?_)
 rintro⟨k,nx⟩ ⟨hk,hv,hx, -⟩
 simp only[X0,X3]
 have ff:=qA @hx ff
 refine oL Jl (fun c4=>?_) (fun c4=>?_) (hp:=rfl)
 .
  have hk2:k<d.put.length:=by simpa using c4
  have hk1:k-1<d.put.length:=by omega
  have e1:((k:Int)-1).toNat=k-1:=by omega
  have hdl:d.drop.length<=1000000:=by have:=c1.1.2;omega
  have ff:=qD (bI hk2) (bI hk1) @e1 ff;refine ae ?_;refine ai ?_;refine aa Jl ?_ (hok:=by (try simp only[go_sem,ff]);all_goals (first|done|((repeat' (with_reducible apply And.intro))<;>first|(intros;exact rz _)|(intros;exact rz d.put[k]!.set)|(exact (fun _=>kM d.put[k]!))|(exact (fun _=>kM d.put[k-1]!))|(exact (fun _=>rC d.put[k-1]!.q d.put[k]!.q))|(exact (fun _=>yD d.drop d.put[k]!.q om))|omega|(intro h;simp only[XV,XW] at h;omega)|(intros;omega)|(intros;simp_all;done)|skip)))
  refine cd (fun c5=>?_) (fun c5=>?_)
  .
   refine aa Jl ?_;exact fo 0 (k:=by have hF:(putAt d) k=false:=(by simp only[putAt];grind);simp only[dltOk];rw[hv,bT hk2 hF];try simp)
  refine dw_skip ?_;refine ah Jl ?_
  show ∃ _,_
  have h8:(putAt d) k=true:=by simp only[putAt];grind
  exact ak (k+1,_) (h1:=⟨iv,(by first|(rw[hv,aY hk2 h8])|(dsimp only;rw[hv,aY hk2 h8])),iv,trivial⟩)
 refine aB ?_
 refine aa Jl ?_
 exact fo 0 (k:=by simp only[dltOk];rw[hv1,hv,gI (n:=d.drop.length) (by omega),gI (by omega)];grind)
end Go.Proofs.YtjngdcldglkolaaGreatDoor
namespace Go.Proofs.YtjngdcldglkolaaGreatDoor
open Go.DL Go.Str Go.Rec Go.Cmp Go.Zon
set_option maxRecDepth 10000
variable [Glob Tryz.prog] [Told]
@[go_sem] theorem addTo_0 {put l:List Sgd}:fu put l 0=l:=rfl
theorem GM (a:Zon) (d:Dlt):PureCt Tryz.prog 41 [.agg a.d,.agg d.d] (.tuple [.agg (applyR a d).1.d,.i (applyR a d).2]):=by
 refine oO Tryz.func41 fun ff=>?_
 unfold Tryz.f41
 refine aa Jl ?_
 refine oK Jl (fun c1=>?_) (fun c1=>?_) (hok:=oI yE Qs)
 .
  refine aa Jl ?_;exact fo 3 (k:=by rw[applyR,if_pos (by grind)];rfl)
 have ha:refOk a=true:=by grind
 have hd:dltOk d=true:=by grind
 have hla:=vL ha
 have hld:=VY hd
 refine oK Jl (fun c2=>?_) (fun c2=>?_) (hok:=oF (BJ a (by have:=vL ha;omega) (vK ha) (BD ha)))
 .
  refine aa Jl ?_;exact fo 3 (k:=by rw[applyR,if_neg (by grind),if_pos (by grind)];rfl)
 refine aa Jl ?_
 refine ae ?_
 refine mW 27 1 28 66 ev (by rfl) (by simp only[go_sem,ff]) ?_
 simp only[YM,YF]
 refine aa Jl ?_
 refine ai ?_
 refine lp (α:=(Nat)×(Nat)×Nat) [2,3,4,6] (fun ⟨k,r,nx⟩=>(k<=a.sets.length)/\(r<nx)/\(27<r)/\True) (fun ⟨k,r,nx⟩=>a.sets.length-k) (fun ⟨k,r,nx⟩=>[(7,.i k)]) (fun ⟨k,r,nx⟩=>[(0,⟨28,[a.d]⟩),(1,⟨31,[d.d]⟩),(2,⟨28,[[.v (.string (bs [])),.list true []]]⟩),(27,⟨28,[[.v (.string (bs a.apex)),.mrow r 0 (cZ a d k).length]]⟩),(r,⟨66,(cZ a d k).map Sgd.d⟩)]) (fun ⟨k,r,nx⟩=>nx) (0,29,_) (hA:=⟨iv,iv,iv,trivial⟩) (round:=?_)
 rintro⟨k,r,nx⟩ ⟨hk,hr,hr0, -⟩
 simp only[X0,X3]
 have n0:27<nx:=by omega
 have hdl:=zi a d k
 have ff:=qE @hr @n0 (nH 0 1) (nH 0 2) (qI (nH 0 27) (nH 0 r) (nH 1 2) (nH 1 27) (nH 1 r) (nH 2 27) (nH 2 r) (nH 27 r) ff)
 refine oL Jl (fun c3=>?_) (fun c3=>?_) (hp:=rfl)
 .
  have hk2:k<a.sets.length:=by simpa using c3
  have ff:=qA (bI hk2) ff;refine ae ?_;refine ai ?_;refine aa Jl ?_ (hok:=by (try simp only[go_sem,ff]);all_goals (first|done|((repeat' (with_reducible apply And.intro))<;>first|(intros;exact kM a.sets[k]!)|(intros;exact yD d.drop a.sets[k]!.q om)|(exact (fun _=>kM a.sets[k]!))|(exact (fun _=>Gg d.put a.sets[k]!.q om))|omega|(intro h;simp only[XV,XW] at h;omega)|(intros;omega)|(intros;simp_all;done)|skip)))
  refine cd (fun c4=>?_) (fun c4=>?_)
  .
   refine ah Jl ?_;refine ah Jl ?_
   show ∃ _,_
   have ff:=qA (CL (a:=a) (d:=d) (k:=k) (by grind)) ff
   exact ak (k+1,(nx+35),_) (h1:=⟨iv,iv,iv,trivial⟩)
  refine dw_skip ?_;refine ah Jl ?_
  show ∃ _,_
  have ff:=qA (CO (a:=a) (d:=d) (k:=k) (by grind)) ff
  exact ak (k+1,r,_) (h1:=⟨iv,iv,iv,trivial⟩)
 have e8:k=a.sets.length:=by omega
 subst e8
 refine aB ?_
 refine ae ?_
 refine lZ 27 1 r (rows:=(cZ a d a.sets.length).map Sgd.d) (off:=0) (len:=(cZ a d a.sets.length).length) ev rfl ev om (by simp) ug ?_
 simp only[X8,lI,YM,YF]
 refine aa Jl ?_
 refine ai ?_
 refine lp (α:=(Nat)×Nat) [3,4,6] (fun ⟨k,nx⟩=>(k<=d.put.length)/\(27<nx)/\True) (fun ⟨k,nx⟩=>d.put.length-k) (fun ⟨k,nx⟩=>[(8,.i k)]) (fun ⟨k,nx⟩=>[(0,⟨28,[a.d]⟩),(1,⟨31,[d.d]⟩),(2,⟨28,[[.v (.string (bs [])),.list true []]]⟩),(27,⟨28,[[.v (.string (bs a.apex)),.list false ((fu d.put (cZ a d a.sets.length) (k)).map Sgd.d)]]⟩)]) (fun ⟨k,nx⟩=>nx) (0,_) (hA:=⟨iv,iv,trivial⟩) (round:=?_)
 rintro⟨k,nx⟩ ⟨hk,hr, -⟩
 simp only[X0,X3]
 have ff:=qA @hr ff
 refine oL Jl (fun c5=>?_) (fun c5=>?_) (hp:=rfl)
 .
  have hk2:k<d.put.length:=by simpa using c5
  have ff:=qB (bI hk2) (show fu d.put (cZ a d a.sets.length) (k+1)=sortedF (fu d.put (cZ a d a.sets.length) (k)) d.put[k]! from rfl) ff
  refine ae ?_;refine ai ?_;refine ah Jl ?_ (hok:=oH (Qc (fu d.put (cZ a d a.sets.length) (k)) d.put[k]! (by rw[Ee];have:=zi a d a.sets.length;omega)))
  refine ah Jl ?_
  show ∃ _,_
  exact ak (k+1,_) (h1:=⟨iv,iv,trivial⟩)
 have e8:k=d.put.length:=by omega
 subst e8
 have hal:=Ee d.put (cZ a d a.sets.length) d.put.length
 have hkl:=zi a d a.sets.length
 refine aB ?_
 refine oK Jl (fun c6=>?_) (fun c6=>?_)
 .
  refine aa Jl ?_;exact fo 3 (k:=by rw[applyR,if_neg (by grind),if_neg (by grind),if_pos (by show 20000<(fu d.put (cZ a d a.sets.length) (d.put.length)).length;omega)];rfl)
 refine oK Jl (fun c7=>?_) (fun c7=>?_) (hok:=by (try simp only[go_sem,ff]);all_goals (first|done|((repeat' (with_reducible apply And.intro))<;>first|(intros;exact yE ⟨a.apex,fu d.put (cZ a d a.sets.length) (d.put.length)⟩)|(exact (fun h=>BJ ⟨a.apex,fu d.put (cZ a d a.sets.length) (d.put.length)⟩ (by have:=vL (z:=⟨a.apex,fu d.put (cZ a d a.sets.length) (d.put.length)⟩) (by simp_all);omega) (vK (by simp_all)) (BD (by simp_all))))|skip)))
 .
  refine aa Jl ?_;exact fo 3 (k:=by rw[applyR,if_neg (by grind),if_neg (by grind),if_neg (by show ¬ 20000<(fu d.put (cZ a d a.sets.length) (d.put.length)).length;omega),if_pos (by show refOk ⟨a.apex,fu d.put (cZ a d a.sets.length) (d.put.length)⟩=false\/serialR ⟨a.apex,fu d.put (cZ a d a.sets.length) (d.put.length)⟩≠d.too;grind)];rfl)
 refine aa Jl ?_
 exact fo 3 (k:=by rw[applyR,if_neg (by grind),if_neg (by grind),if_neg (by show ¬ 20000<(fu d.put (cZ a d a.sets.length) (d.put.length)).length;omega),if_neg (by show ¬ (refOk ⟨a.apex,fu d.put (cZ a d a.sets.length) (d.put.length)⟩=false\/serialR ⟨a.apex,fu d.put (cZ a d a.sets.length) (d.put.length)⟩≠d.too);grind)];rfl)
end Go.Proofs.YtjngdcldglkolaaGreatDoor
namespace Go.Proofs.YtjngdcldglkolaaGreatDoor
open Go.DL Go.Str Go.Rec Go.Cmp Go.Zon
set_option maxRecDepth 10000
variable [Glob Tryz.prog] [Told]
@[go_sem] theorem all_dat6 {l:List Dat}:(∀ r∈l.map Dat.d,r.length=3)=True:=by
 apply eq_true
 intro r hr
 obtain⟨x,_,rfl⟩:=Y2.1 hr
 rfl
theorem W9 (l:List Dat) (hl:l.length<=1000000):PureCt Tryz.prog 112 [.list false (l.map Dat.d)] (.list false (l.map Dat.d)):=by
 refine oO Tryz.func112 fun ff=>?_
 unfold Tryz.f112
 refine aa Jl ?_
 refine ae ?_
 refine ae (uB ?_)
 refine yg (C:=Jl) 1 (e:=110) om (bN rfl) rfl rfl (by kernel_rfl) (by simp only[Yf,X8,Ya,Yj,S.put,YC,go_sem,ff];exact rfl) ?_ (by rfl) ev (fun y hy=>?_)
 .
  try simp only[go_sem,ff]
  all_goals (first|done|(repeat' (with_reducible apply And.intro))<;>first|omega|(with_reducible assumption)|(intros;omega)|(intros;simp only[XW,X6,Yc,XV,Yh,Yd,Yv] at *;omega)|(simp_all;done)|(simp_all;omega))
 refine tK (C:=Jl) (by first|decide|simp) (by simp only[Yf,X8,Ya,Yj,S.put,YC,go_sem,ff];exact rfl) ?_ rfl ?_
 .
  try simp only[go_sem,ff]
  all_goals (first|done|(repeat' (with_reducible apply And.intro))<;>first|omega|(with_reducible assumption)|(intros;omega)|(intros;simp only[XW,X6,Yc,XV,Yh,Yd,Yv] at *;omega)|(simp_all;done)|(simp_all;omega))
 try simp only[aF]
 refine cd (fun c1=>?_) (fun c1=>?_) (hp:=rfl) (hq:=rfl)
 .
  have hn:l=[]:=List.map_eq_nil_iff.1 (hy c1);subst hn;refine aa Jl ?_;exact fp 1
 refine dw_skip ?_
 refine aa Jl ?_
 exact fp 1
theorem WZ (l:List RSig) (hl:l.length<=1000000):PureCt Tryz.prog 113 [.list false (l.map RSig.d)] (.list false (l.map RSig.d)):=by
 refine oO Tryz.func113 fun ff=>?_
 unfold Tryz.f113
 refine aa Jl ?_
 refine ae ?_
 refine ae (uB ?_)
 refine yg (C:=Jl) 1 (e:=160) om (bN rfl) rfl rfl (by kernel_rfl) (by simp only[Yf,X8,Ya,Yj,S.put,YC,go_sem,ff];exact rfl) ?_ (by rfl) ev (fun y hy=>?_)
 .
  try simp only[go_sem,ff]
  all_goals (first|done|(repeat' (with_reducible apply And.intro))<;>first|omega|(with_reducible assumption)|(intros;omega)|(intros;simp only[XW,X6,Yc,XV,Yh,Yd,Yv] at *;omega)|(simp_all;done)|(simp_all;omega))
 refine tK (C:=Jl) (by first|decide|simp) (by simp only[Yf,X8,Ya,Yj,S.put,YC,go_sem,ff];exact rfl) ?_ rfl ?_
 .
  try simp only[go_sem,ff]
  all_goals (first|done|(repeat' (with_reducible apply And.intro))<;>first|omega|(with_reducible assumption)|(intros;omega)|(intros;simp only[XW,X6,Yc,XV,Yh,Yd,Yv] at *;omega)|(simp_all;done)|(simp_all;omega))
 try simp only[aF]
 refine cd (fun c1=>?_) (fun c1=>?_) (hp:=rfl) (hq:=rfl)
 .
  have hn:l=[]:=List.map_eq_nil_iff.1 (hy c1);subst hn;refine aa Jl ?_;exact fp 1
 refine dw_skip ?_
 refine aa Jl ?_
 exact fp 1
theorem Wo (s:Sgd) (hs:sG s):PureCt Tryz.prog 55 [.agg s.d] (.agg s.d):=by
 refine oO Tryz.func55 fun ff=>?_
 unfold Tryz.f55
 refine aa Jl ?_
 refine aa Jl ?_ (hok:=by (try simp only[go_sem,ff]);all_goals (exact W9 _ (Yb hs.1 om)))
 refine aa Jl ?_ (hok:=by (try simp only[go_sem,ff]);all_goals (exact WZ _ (Yb hs.2 om)))
 refine aa Jl ?_
 exact fp 2
end Go.Proofs.YtjngdcldglkolaaGreatDoor
namespace Go.Proofs.YtjngdcldglkolaaGreatDoor
open Go.DL Go.Str Go.Rec Go.Cmp Go.Zon
set_option maxRecDepth 10000
variable [Glob Tryz.prog] [Told]
@[go_sem] theorem ofV_map {o:Option Nat}:il (.map o) = .v (.map o):=by cases o<;>rfl
@[go_sem] theorem keysOk_Q {m:List Sgd}:gD Tryz.prog 86 (lT m)=true:=by
 induction m with
 | nil=>rfl
 | cons s m ih=>rw[wm];simp only[gD,ih,Qst.d,zg,ZV]
@[go_sem] theorem mapTo_0 {l:List Sgd}:nW l 0=[]:=rfl
attribute [go_sem] TA
theorem Tz {l:List Sgd}{k:Nat}:fG (lT (nW l k)) (.agg [.v (.string (bs l[k]!.q.name)),.i l[k]!.q.ty]) (.agg [.v (.string (bs l[k]!.set.name)),.i l[k]!.set.ty,.i l[k]!.set.life,.list false (l[k]!.set.data.map Dat.d),.list false (l[k]!.sigs.map RSig.d)])=lT (nW l (k+1)):=Ty
end Go.Proofs.YtjngdcldglkolaaGreatDoor
namespace Go.Proofs.YtjngdcldglkolaaGreatDoor
open Go.DL Go.Str Go.Rec Go.Cmp Go.Zon
set_option maxRecDepth 10000
variable [Glob Tryz.prog] [Told]
@[go_sem] theorem keysOk_P {m:PM}:gD Tryz.prog 86 (kvP m)=true:=by
 induction m with
 | nil=>rfl
 | cons p m ih=>rw[um];simp only[gD,ih,Qst.d,zg,ZV]
theorem WC (s:Sgd) (m:PM):PureCt Tryz.prog 50 [.agg s.d,.eptr [.fmap (kvP m)]] (.tuple [.agg s.d,.b (newB m s.q)]):=by
 refine oO Tryz.func50 fun ff=>?_
 unfold Tryz.f50
 refine aa Jl ?_
 rcases hp:eD m s.q with _|x
 .
  have ff:=qA @hp ff;refine aa JlF ?_ (hok:=oH (ma s));refine aa Jl ?_;exact fo 3 (k:=by simp[newB,hp])
 have ff:=qA @hp ff
 refine aa JlF ?_ (hok:=oH (ma s))
 refine aa Jl ?_
 exact fo 3 (k:=by simp[newB,hp])
theorem WB (s:Sgd) (hs:sG s):PureCt Tryz.prog 54 [.agg s.d] (.tuple [.agg s.d,.b true]):=by
 refine oO Tryz.func54 fun ff=>?_
 unfold Tryz.f54
 refine aa Jl ?_
 refine aa Jl ?_ (hok:=oF (Wo s hs))
 exact fp 2
end Go.Proofs.YtjngdcldglkolaaGreatDoor
namespace Go.Proofs.YtjngdcldglkolaaGreatDoor
open Go.DL Go.Str Go.Rec Go.Cmp Go.Zon
set_option maxRecDepth 10000
variable [Glob Tryz.prog] [Told]
theorem Wl  : PureCt Tryz.prog 53 [.fn (.func 51) [] []] (.fn (.func 111) [] [.eptr [.fn (.func 51) [] []]]):=by
 refine oO Tryz.func53 fun ff=>?_
 unfold Tryz.f53
 refine oC Jl ?_
 exact oN (fin 2 (hr:=oR) (hk:=by (try simp only[go_sem,ff]);all_goals (first|done|rfl|(simp;done))))
theorem Wn (a:Sgd) (b:Sgd):PureCt Tryz.prog 111 [.agg a.d,.agg b.d,.eptr [.fn (.func 51) [] []]] (.i (qC a.q b.q)):=by
 refine oO Tryz.func111 fun ff=>?_
 unfold Tryz.f111
 refine aa Jl ?_
 refine aa Jl ?_ (hok:=oJ (ma a) (ma b) (wR a.q b.q))
 exact fp 0
theorem Lr (l:List Sgd)  (hl:dY l):PureCt Tryz.prog 49 [.list false (l.map Sgd.d),.fn (.func 54) [] []] (.list false ((l.filterMap (some)).map Sgd.d)):=by
 refine oO Tryz.func49 fun ff=>?_
 unfold Tryz.f49
 have hl1:=hl.1
 refine oC Jl ?_
 refine ae ?_
 refine qM 5 66 (by simp only[go_sem,ff]) (by simp only[go_sem,ff]) ?_
 refine aa Jl ?_
 refine ai ?_
 refine lp (α:=(Nat)×(Nat)×Nat) [1,10,11] (fun ⟨k,r,nx⟩=>(k<=l.length)/\(r<nx)/\True) (fun ⟨k,r,nx⟩=>l.length-k) (fun ⟨k,r,nx⟩=>[(5,.mrow r 0 ((l.take k).filterMap (some)).length),(12,.i k)]) (fun ⟨k,r,nx⟩=>[(r,⟨66,((l.take k).filterMap (some)).map Sgd.d⟩)]) (fun ⟨k,r,nx⟩=>nx) (0,2,_) (hA:=⟨iv,iv,trivial⟩) (round:=?_)
 rintro⟨k,r,nx⟩ ⟨hk,hr, -⟩
 simp only[X0,X3]
 have hfl:=Kw (some) l k
 have ff:=qA @hr ff
 refine aa Jl ?_
 refine ae ?_
 refine cd (fun c1=>?_) (fun c1=>?_) (hp:=rfl)
 .
  have hk2:k<l.length:=by simpa using c1
  have ff:=qA (bI hk2) ff;refine dw_skip ?_;refine ae ?_;refine ai ?_;refine aa Jl ?_;refine aa Jl ?_ (hok:=oH (WB l[k]! (hl.2 k hk2)));refine aa Jl ?_;refine cd (fun c2=>?_) (fun c2=>?_)
  .
   refine ah Jl ?_;refine ah Jl ?_
   show ∃ _,_
   have hst:=Dj (f:=some) hk2 (rfl);have hsd:((l.take (k+1)).filterMap (some)).map Sgd.d=((l.take k).filterMap (some)).map Sgd.d++[[.v (.string (bs l[k]!.set.name)),.i l[k]!.set.ty,.i l[k]!.set.life,.list false (l[k]!.set.data.map Dat.d),.list false (l[k]!.sigs.map RSig.d)]]:=by rw[hst,YS];rfl
   have hsl:((l.take (k+1)).filterMap (some)).length=((l.take k).filterMap (some)).length+1:=by rw[hst,XY];rfl
   have ff:=qB hsd hsl ff;exact ak (k+1,(nx+18),_) (h1:=⟨iv,iv,trivial⟩)
  refine dw_skip ?_;refine ah Jl ?_
  show ∃ _,_
  have ff:=qA (Dl (f:=some) hk2 (by cases c2)) ff
  exact ak (k+1,r,_) (h1:=⟨iv,iv,trivial⟩)
 refine aB ?_
 have e9:k=l.length:=by have h9 : ¬ (k:Int)<l.length:=(by simpa using c1);omega
 subst e9
 rw[YB] at *
 refine aa Jl ?_
 exact oN (fin 1 (hr:=by (try simp only[go_sem,ff]);all_goals (rw[YB])))
theorem Wm (l:List Sgd) (m:PM) (hl:dY l) (h:H) (n:Nat):RCt Tryz.prog 49 [.list false (l.map Sgd.d),.fn (.func 50) [] [.eptr [.fmap (kvP m)]]] h n (fun d h' n'=>∃ r,d = .mrow r 0 (l.filterMap (fq m)).length/\h'=upd h r (some ⟨66,(l.filterMap (fq m)).map Sgd.d⟩)/\n<=r/\r<n'):=by
 refine oP Tryz.func49 fun hnone ff=>?_
 unfold Tryz.f49
 have hl1:=hl.1
 refine oC Jl ?_
 refine ae ?_
 refine qM 5 66 (by simp only[go_sem,ff]) (by simp only[go_sem,ff]) ?_
 refine aa Jl ?_
 refine ai ?_
 refine eF (α:=(Nat)×(Nat)×Nat) [1,10,11] (fun ⟨k,r,nx⟩=>(k<=l.length)/\(r<nx)/\(n<=r)/\True) (fun ⟨k,r,nx⟩=>l.length-k) (fun ⟨k,r,nx⟩=>[(5,.mrow r 0 ((l.take k).filterMap (fq m)).length),(12,.i k)]) (fun ⟨k,r,nx⟩=>upd h r (some ⟨66,((l.take k).filterMap (fq m)).map Sgd.d⟩)) (fun ⟨k,r,nx⟩=>nx) (0,(n+2),_) (hA:=⟨iv,iv,iv,trivial⟩) (round:=?_)
 rintro⟨k,r,nx⟩ ⟨hk,hr,hr0, -⟩
 simp only[X0,X3]
 have hfl:=Kw (fq m) l k
 have ff:=qA @hr ff
 refine aa Jl ?_
 refine ae ?_
 refine cd (fun c1=>?_) (fun c1=>?_) (hp:=rfl)
 .
  have hk2:k<l.length:=by simpa using c1
  have ff:=qA (bI hk2) ff;refine dw_skip ?_;refine ae ?_;refine ai ?_;refine aa Jl ?_;refine aa Jl ?_ (hok:=oH (WC l[k]! m));refine aa Jl ?_;refine cd (fun c2=>?_) (fun c2=>?_)
  .
   refine ah Jl ?_;refine ah Jl ?_
   show ∃ _,_
   have hst:=Dj (f:=fq m) hk2 (by simp only[fq];rw[X4 (by first|exact c2|simpa using c2)])
   have hsd:((l.take (k+1)).filterMap (fq m)).map Sgd.d=((l.take k).filterMap (fq m)).map Sgd.d++[[.v (.string (bs l[k]!.set.name)),.i l[k]!.set.ty,.i l[k]!.set.life,.list false (l[k]!.set.data.map Dat.d),.list false (l[k]!.sigs.map RSig.d)]]:=by rw[hst,YS];rfl
   have hsl:((l.take (k+1)).filterMap (fq m)).length=((l.take k).filterMap (fq m)).length+1:=by rw[hst,XY];rfl
   have ff:=qB hsd hsl ff;refine ak (k+1,(nx+18),_) (h1:=⟨iv,iv,iv,trivial⟩) (h5:=?_);refine CE hnone (by simp only[go_sem,ff]) (fun q hq=>?_)
   simp only[upd]
   repeat rw[XZ (by omega)]
  refine dw_skip ?_;refine ah Jl ?_
  show ∃ _,_
  have ff:=qA (Dl (f:=fq m) hk2 (by simp only[fq];rw[XZ (by rw[c2];exact Bool.false_ne_true)])) ff
  refine ak (k+1,r,_) (h1:=⟨iv,iv,iv,trivial⟩) (h5:=?_);refine CE hnone (by simp only[go_sem,ff]) (fun q hq=>?_)
  simp only[upd]
  repeat rw[XZ (by omega)]
 refine aB ?_
 have e9:k=l.length:=by have h9 : ¬ (k:Int)<l.length:=(by simpa using c1);omega
 subst e9
 rw[YB] at *
 refine aa Jl ?_
 refine aO ?_
 exact bu (upd h r (some ⟨66,(l.filterMap (fq m)).map Sgd.d⟩)) (hr:=oS (k:=by exact⟨r,rfl,rfl,om,om⟩))
theorem Wp (l:List Sgd) (hl:l.length<=1000000) (h:H) (n:Nat):RCt Tryz.prog 48 [.list false (l.map Sgd.d)] h n (fun d h' n'=>∃ r,d = .mp r/\h'=upd h r (some ⟨83,eY (ji (mF l))⟩)/\n<=r/\r<n'):=by
 refine oP Tryz.func48 fun hnone ff=>?_
 unfold Tryz.f48
 refine oC Jl ?_
 refine ae ?_
 refine aa Jl ?_
 refine ai ?_
 refine eF (α:=(Nat)×Nat) [3,9,10] (fun ⟨k,nx⟩=>(k<=l.length)/\(n+3<nx)/\True) (fun ⟨k,nx⟩=>l.length-k) (fun ⟨k,nx⟩=>[(11,.i k)]) (fun ⟨k,nx⟩=>upd h (n+3) (some ⟨83,eY (lT (nW l k))⟩)) (fun ⟨k,nx⟩=>nx) (0,_) (hA:=⟨iv,iv,trivial⟩) (round:=?_) (hhh:=by exact fun _=>.inl rfl)
 rintro⟨k,nx⟩ ⟨hk,hx, -⟩
 simp only[X0,X3]
 have ff:=qA @hx ff
 refine aa Jl ?_
 refine ae ?_
 refine cd (fun c1=>?_) (fun c1=>?_) (hp:=rfl)
 .
  have hk2:k<l.length:=by simpa using c1
  have ff:=qB (bI hk2) (Tz (l:=l) (k:=k)) ff;refine dw_skip ?_;refine ae ?_;refine ai ?_;refine aa Jl ?_;refine ah Jl ?_ (hok:=oH (ma l[k]!));refine ah Jl ?_
  show ∃ _,_
  refine ak (k+1,_) (h1:=⟨iv,iv,trivial⟩) (h5:=?_);refine CE hnone (by simp only[go_sem,ff]) (fun q hq=>?_)
  simp only[upd]
  repeat rw[XZ (by omega)]
 refine aB ?_
 have e9:k=l.length:=by have h9 : ¬ (k:Int)<l.length:=(by simpa using c1);omega
 subst e9
 refine aa Jl ?_
 refine aO ?_
 exact bu (upd h (n+3) (some ⟨83,eY (ji (mF l))⟩)) (hr:=oS (k:=by exact⟨n+3,rfl,rfl,om,om⟩)) (hh:=by rw[<- TB];exact mG _)
end Go.Proofs.YtjngdcldglkolaaGreatDoor
namespace Go.Proofs.YtjngdcldglkolaaGreatDoor
open Go.DL Go.Str Go.Rec Go.Cmp Go.Zon
set_option maxRecDepth 10000
variable [Glob Tryz.prog] [Told]
theorem xn {z:Zon}(h:zoneOk z=true):PureCt Tryz.prog 46 [.agg z.d] (.tuple [.i (serialOf z),.i 0]):=by
 have:=En z
 rwa [X4 h,X4 h] at this
theorem xq {z:Zon}(h:zoneOk z=false):PureCt Tryz.prog 46 [.agg z.d] (.tuple [.i 0,.i 1]):=by
 have:=En z
 rwa [XZ (by simp[h]),XZ (by simp[h])] at this
@[go_sem] theorem keysOk_S {m:List Qst}:gD Tryz.prog 86 (kY m)=true:=by
 induction m with
 | nil=>rfl
 | cons p m ih=>rw[wh];simp only[gD,ih,Qst.d,zg,ZV]
@[go_sem] theorem keysOk_Z {m:PZ}:gD Tryz.prog 86 (ji m)=true:=by
 induction m with
 | nil=>rfl
 | cons p m ih=>rw[rV];simp only[gD,ih,Qst.d,zg,ZV]
theorem uD (d:Dlt):PureCt Tryz.prog 47 [.agg d.d] (.b (dltOk d)):=by
 refine oO Tryz.func47 fun ff=>?_
 unfold Tryz.f47
 refine aa Jl ?_
 refine oK Jl (fun c1=>?_) (fun c1=>?_) (hok:=oI qf zz)
 .
  refine aa Jl ?_;exact fo 0 (k:=by rw[<- qN];simp only[mY];(try rw[qX] at *);grind)
 refine oK Jl (fun c2=>?_) (fun c2=>?_) (hok:=by (try simp only[go_sem,ff]);all_goals (first|done|((repeat' (with_reducible apply And.intro))<;>first|(intros;exact z8 _)|(exact (fun _=>z8 _))|(exact (fun h=>Ls _ _ (by simp_all) (by simp_all)))|(intros;simp_all;done)|skip)))
 .
  refine aa Jl ?_;exact fo 0 (k:=by rw[<- qN];simp only[mY];(try rw[qX] at *);grind)
 refine oK Jl (fun c3=>?_) (fun c3=>?_)
 .
  refine aa Jl ?_;exact fo 0 (k:=by rw[<- qN];simp only[mY];(try rw[qX] at *);grind)
 refine aa Jl ?_
 refine ae ?_
 refine aa Jl ?_
 refine ai ?_
 refine lp (α:=(Nat)×Nat) [1,3,50,51] (fun ⟨k,nx⟩=>(k<=d.drop.length)/\(av d.drop.length (ll d.drop) 0=av d.drop.length (ll d.drop) k)/\(42<nx)/\True) (fun ⟨k,nx⟩=>d.drop.length-k) (fun ⟨k,nx⟩=>[(52,.i k)]) (fun ⟨k,nx⟩=>[(0,⟨31,[d.d]⟩),(42,⟨153,eY (kY (nL d.drop (k)))⟩)]) (fun ⟨k,nx⟩=>nx) (0,_) (hA:=⟨iv,rfl,iv,trivial⟩) (round:=?_)
 rintro⟨k,nx⟩ ⟨hk,hv1,hx, -⟩
 simp only[X0,X3]
 have n0:0<nx:=by omega
 have ff:=qB @hx @n0 ff
 refine aa Jl ?_
 refine ae ?_
 refine cd (fun c4=>?_) (fun c4=>?_) (hp:=rfl)
 .
  have hk2:k<d.drop.length:=by simpa using c4
  have hk1:k-1<d.drop.length:=by omega
  have e1:((k:Int)-1).toNat=k-1:=by omega
  have ff:=qD (sD hk2) (sD hk1) @e1 ff;refine dw_skip ?_;refine ae ?_;refine ai ?_;refine aa Jl ?_;refine oK Jl (fun c5=>?_) (fun c5=>?_) (hok:=by (try simp only[go_sem,ff]);all_goals (first|done|((repeat' (with_reducible apply And.intro))<;>first|(intros;exact qf _)|omega|(intro h;simp only[XV,XW] at h;omega)|(intros;omega)|(intros;simp_all;done)|skip)))
  .
   refine aa Jl ?_;exact fo 0 (k:=by rw[<- qN];have hF:(ll d.drop) k=false:=(by simp only[ll,qOk,inR];grind);simp only[mY];rw[hv1,bT hk2 hF];try simp)
  refine oK Jl (fun c6=>?_) (fun c6=>?_) (hok:=by (try simp only[go_sem,ff]);all_goals (first|done|((repeat' (with_reducible apply And.intro))<;>first|(exact (fun _=>wR d.drop[k-1]! d.drop[k]!))|omega|(intro h;simp only[XV,XW] at h;omega)|(intros;omega)|(intros;simp_all;done)|skip)))
  .
   refine aa Jl ?_;exact fo 0 (k:=by rw[<- qN];have hF:(ll d.drop) k=false:=(by simp only[ll,qOk,inR];grind);simp only[mY];rw[hv1,bT hk2 hF];try simp)
  refine ah Jl ?_;refine ah Jl ?_
  show ∃ _,_
  have h8:(ll d.drop) k=true:=by simp only[ll,qOk,inR];grind
  have ff:=qA (show kQ (nL d.drop k) d.drop[k]! = nL d.drop (k+1) from rfl) ff
  exact ak (k+1,_) (h1:=⟨iv,(by first|(rw[hv1,aY hk2 h8])|(dsimp only;rw[hv1,aY hk2 h8])),iv,trivial⟩)
 have e9:k=d.drop.length:=by omega
 subst e9
 refine aB ?_
 refine ae ?_
 refine aa Jl ?_
 refine ai ?_
 refine lp (α:=(Nat)×Nat) [1,3,88,89] (fun ⟨k,nx⟩=>(k<=d.put.length)/\(av d.put.length (kR d) 0=av d.put.length (kR d) k)/\(42<nx)/\True) (fun ⟨k,nx⟩=>d.put.length-k) (fun ⟨k,nx⟩=>[(90,.i k)]) (fun ⟨k,nx⟩=>[(0,⟨31,[d.d]⟩),(42,⟨153,eY (kY (nL d.drop (d.drop.length)))⟩)]) (fun ⟨k,nx⟩=>nx) (0,_) (hA:=⟨iv,rfl,iv,trivial⟩) (round:=?_)
 rintro⟨k,nx⟩ ⟨hk,hv,hx, -⟩
 simp only[X0,X3]
 have n0:0<nx:=by omega
 have ff:=qB @hx @n0 ff
 refine aa Jl ?_
 refine ae ?_
 refine cd (fun c7=>?_) (fun c7=>?_) (hp:=rfl)
 .
  have hk2:k<d.put.length:=by simpa using c7
  have hk1:k-1<d.put.length:=by omega
  have e1:((k:Int)-1).toNat=k-1:=by omega
  have ff:=qD (bI hk2) (bI hk1) @e1 ff;refine dw_skip ?_;refine ae ?_;refine ai ?_;refine aa Jl ?_;refine oK Jl (fun c8=>?_) (fun c8=>?_) (hok:=by (try simp only[go_sem,ff]);all_goals (first|done|((repeat' (with_reducible apply And.intro))<;>first|(intros;exact tL _)|(exact (fun _=>ma d.put[k]!))|omega|(intro h;simp only[XV,XW] at h;omega)|(intros;omega)|(intros;simp_all;done)|skip)))
  .
   refine aa Jl ?_;exact fo 0 (k:=by rw[<- qN];have hF:(kR d) k=false:=(by simp only[kR];grind);simp only[mY];rw[hv,bT hk2 hF];try simp)
  refine aa Jl ?_ (hok:=by (try simp only[go_sem,ff]);all_goals (first|done|((repeat' (with_reducible apply And.intro))<;>first|(exact (fun _=>ma d.put[k]!))|(exact (fun _=>ma d.put[k-1]!))|(exact (fun _=>wR d.put[k-1]!.q d.put[k]!.q))|omega|(intro h;simp only[XV,XW] at h;omega)|(intros;omega)|(intros;simp_all;done)|skip)))
  refine cd (fun c9=>?_) (fun c9=>?_)
  .
   refine aa Jl ?_;exact fo 0 (k:=by rw[<- qN];have hF:(kR d) k=false:=(by simp only[kR];grind);simp only[mY];rw[hv,bT hk2 hF];try simp)
  refine dw_skip ?_;refine ah Jl ?_
  show ∃ _,_
  have h8:(kR d) k=true:=by simp only[kR];grind
  exact ak (k+1,_) (h1:=⟨iv,(by first|(rw[hv,aY hk2 h8])|(dsimp only;rw[hv,aY hk2 h8])),iv,trivial⟩)
 refine aB ?_
 refine aa Jl ?_
 exact fo 0 (k:=by rw[<- qN];simp only[mY];(try rw[qX] at *);rw[hv1,hv,gI (n:=d.drop.length) (by omega),gI (by omega)];grind)
end Go.Proofs.YtjngdcldglkolaaGreatDoor
namespace Go.Proofs.YtjngdcldglkolaaGreatDoor
open Go.DL Go.Str Go.Rec Go.Cmp Go.Zon
set_option maxRecDepth 10000
variable [Glob Tryz.prog] [Told]
def Oy:Go.Shelf.Ren:={ f:=fun x=>match x with|6=>52|15=>110|14=>109|28=>177|29=>178|20=>169|21=>170|22=>171|23=>172|24=>173|25=>174|26=>175|27=>176|46=>211|47=>212|48=>213|49=>214|50=>215|57=>236|n=>n,t:=fun x=>match x with|22=>26|24=>66|25=>92|3=>3|39=>156|0=>0|53=>226|55=>129|4=>4|46=>220|45=>219|50=>150|5=>5|9=>9|66=>250|70=>254|76=>281|77=>282|n=>n,g:=fun n=>n }
theorem srtS:Go.Proofs.SlLaysF0.n6 Tryz.prog Oy:={
 mixed:=by kernel_rfl
 f6:=⟨Tryz.f52.name,by decide,Tryz.func52.trans (by kernel_rfl)⟩
 f14:=⟨Tryz.f109.name,by decide,Tryz.func109.trans (by kernel_rfl)⟩
 f15:=Tryz.func110.trans (by kernel_rfl)
 f20:=⟨Tryz.f169.name,by decide,Tryz.func169.trans (by kernel_rfl)⟩
 f21:=⟨Tryz.f170.name,by decide,Tryz.func170.trans (by kernel_rfl)⟩
 f22:=⟨Tryz.f171.name,by decide,Tryz.func171.trans (by kernel_rfl)⟩
 f23:=⟨Tryz.f172.name,by decide,Tryz.func172.trans (by kernel_rfl)⟩
 f24:=⟨Tryz.f173.name,by decide,Tryz.func173.trans (by kernel_rfl)⟩
 f25:=⟨Tryz.f174.name,by decide,Tryz.func174.trans (by kernel_rfl)⟩
 f26:=⟨Tryz.f175.name,by decide,Tryz.func175.trans (by kernel_rfl)⟩
 f27:=⟨Tryz.f176.name,by decide,Tryz.func176.trans (by kernel_rfl)⟩
 f28:=Tryz.func177.trans (by kernel_rfl)
 f29:=Tryz.func178.trans (by kernel_rfl)
 f46:=⟨Tryz.f211.name,by decide,Tryz.func211.trans (by kernel_rfl)⟩
 f47:=Tryz.func212.trans (by kernel_rfl)
 f48:=Tryz.func213.trans (by kernel_rfl)
 f49:=⟨Tryz.f214.name,by decide,Tryz.func214.trans (by kernel_rfl)⟩
 f50:=⟨Tryz.f215.name,by decide,Tryz.func215.trans (by kernel_rfl)⟩
 f57:=⟨Tryz.f236.name,by decide,Tryz.func236.trans (by kernel_rfl)⟩
 t0:=Tryz.underlying0
 a0:=Tryz.isAgg0
 z0:=Tryz.sizeOf0
 v0:=Tryz.zeroValue0
 t3:=Tryz.underlying3
 a3:=Tryz.isAgg3
 z3:=Tryz.sizeOf3
 v3:=Tryz.zeroValue3
 t4:=Tryz.underlying4
 a4:=Tryz.isAgg4
 z4:=Tryz.sizeOf4
 v4:=Tryz.zeroValue4
 t5:=Tryz.underlying5
 a5:=Tryz.isAgg5
 z5:=Tryz.sizeOf5
 v5:=Tryz.zeroValue5
 t9:=Tryz.underlying9
 a9:=Tryz.isAgg9
 z9:=Tryz.sizeOf9
 v9:=Tryz.zeroValue9
 t22:=Tryz.underlying26
 a22:=Tryz.isAgg26
 z22:=Tryz.sizeOf26
 v22:=Tryz.zeroValue26
 t25:=Tryz.underlying92
 a25:=Tryz.isAgg92
 z25:=Tryz.sizeOf92
 v25:=Tryz.zeroValue92
 t39:=Tryz.underlying156
 a39:=Tryz.isAgg156
 z39:=Tryz.sizeOf156
 v39:=Tryz.zeroValue156
 t45:=Tryz.underlying219
 a45:=Tryz.isAgg219
 z45:=Tryz.sizeOf219
 v45:=Tryz.zeroValue219
 t46:=Tryz.underlying220
 a46:=Tryz.isAgg220
 z46:=Tryz.sizeOf220
 v46:=Tryz.zeroValue220
 t50:=Tryz.underlying150
 a50:=Tryz.isAgg150
 z50:=Tryz.sizeOf150
 v50:=Tryz.zeroValue150
 t53:=Tryz.underlying226
 a53:=Tryz.isAgg226
 z53:=Tryz.sizeOf226
 v53:=Tryz.zeroValue226
 t55:=Tryz.underlying129
 a55:=Tryz.isAgg129
 z55:=Tryz.sizeOf129
 v55:=Tryz.zeroValue129
 t66:=Tryz.underlying250
 a66:=Tryz.isAgg250
 z66:=Tryz.sizeOf250
 v66:=Tryz.zeroValue250
 t70:=Tryz.underlying254
 a70:=Tryz.isAgg254
 z70:=Tryz.sizeOf254
 v70:=Tryz.zeroValue254
 t76:=Tryz.underlying281
 a76:=Tryz.isAgg281
 z76:=Tryz.sizeOf281
 v76:=Tryz.zeroValue281
 t77:=Tryz.underlying282
 a77:=Tryz.isAgg282
 z77:=Tryz.sizeOf282
 v77:=Tryz.zeroValue282 }
theorem OP (l:List Sgd) (m:Nat) (h:H) (n r:Nat) (hm:m=l.length) (hl:l.length<=1000000) (hn : ∀ s∈l,nameOk (s.q).name=true) (ho:Once l) (hr:h r=some ⟨66,l.map Sgd.d⟩) :
  RCt Tryz.prog 52 [.mrow r 0 m,.fn (.func 111) [] [.eptr [.fn (.func 51) [] []]]] h n (fun d h' n'=>d = .tuple []/\n'=n/\h'=upd h r (some ⟨66,(dS l).map Sgd.d⟩)):=by
 have e:m=(l.map Sgd.d).length:=by simp[hm]
 rw[e]
 have hx : ∀ x∈l.map Sgd.d,Sgd.d (Sgd.of x)=x/\nameOk ((fun s:Sgd=>s.q) (Sgd.of x)).name=true:=fun x hx=>by
  obtain⟨s,hs,rfl⟩:=Y2.1 hx;rw[yR];exact⟨rfl,hn s hs⟩
 have hc : ∀ x∈l.map Sgd.d,∀ y∈l.map Sgd.d,qC (Sgd.of x).q (Sgd.of y).q=sp (Sgd.of x) (Sgd.of y):=fun x h1 y h2=>yJ (hx x h1).2 (hx y h2).2
 refine (OG (ty:=66) srtS rfl rfl Tryz.isAgg66 Tryz.sizeOf66 (fun x y=>qC (Sgd.of x).q (Sgd.of y).q) (by kernel_rfl) hr ug rfl (by simp;omega) (fun x h1 y h2=>?_) ⟨fun x h1=>?_,fun x h1 y h2 z h3=>?_,fun x h1 y h2 z h3=>?_⟩).mono ?_
 .
  have:=Wn (Sgd.of x) (Sgd.of y);rw[(hx x h1).1,(hx y h2).1] at this;exact this
 .
  rw[hc x h1 x h1,cm_s.self];omega
 .
  rw[hc x h1 y h2,hc y h2 z h3,hc x h1 z h3];intro a b;exact cm_s.lt_le a om
 .
  rw[hc x h1 y h2,hc y h2 z h3,hc x h1 z h3];intro a b;have h1:=cm_s.anti (Sgd.of x) (Sgd.of y);have h2:=cm_s.anti (Sgd.of y) (Sgd.of z);have h3:=cm_s.anti (Sgd.of x) (Sgd.of z);have:=cm_s.tr (Sgd.of z) (Sgd.of y) (Sgd.of x) om om;omega
 rintro d h' n' ⟨rfl,rfl,rows',hp,hs,rfl⟩
 obtain⟨q1,q2⟩:=Qk yR hp
 refine⟨rfl,rfl,?_⟩
 have hs':(rows'.map Sgd.of).Pairwise fun a b=>sp a b<=0:=by
  rw[List.pairwise_map];refine hs.imp_of_mem fun {a b} h1 h2 h3=>?_
  have h3 : ¬ (fun x y=>qC (Sgd.of x).q (Sgd.of y).q) b a<0:=h3
  dsimp only at h3;have h4:=hc b (hp.mem_iff.1 h2) a (hp.mem_iff.1 h1);rw[h4] at h3;have:=cm_s.anti (Sgd.of a) (Sgd.of b);omega
 rw[<- OJ ho q2 hs',q1]
theorem VF {P:Program}[Glob P] {ro:Option Nat}{Q:Exit->S->Prop}{c:Code}{s:S}(i r:Nat) {ty:TypeId}{row:List D}(hi:s.t i = .mptr r 0 0) (hr:s.h r=some ⟨ty,[row]⟩) (hn:aW row=true) (h:DW P ro c Q { n:=s.n,t:=upd s.t i (.eptr (bU row)),h:=upd s.h r none,nx:=s.nx,e:=s.e }):DW P ro c Q s :=
 DD i r hi (fun _ _ _ hm hv=>(Kh hm hr hn hv).wk) h
theorem VO (z:Zon) (d:Dlt) (hl:dY z.sets) (h:H) (n:Nat):RCt Tryz.prog 49 [.list false (z.sets.map Sgd.d),.fn (.func 50) [] [.eptr [.fmap (kvP (zp (mK (mF d.put) d.drop d.drop.length)))]]] h n (fun x h' n'=>∃ r,x = .mrow r 0 (bW z d).length/\h'=upd h r (some ⟨66,(bW z d).map Sgd.d⟩)/\n<=r/\r<n'):=Wm z.sets _ hl h n
theorem Oo {z:Zon}{d:Dlt}(hz:ZOrd z) (hd:DOk d):∀ s∈bW z d++d.put,nameOk s.q.name=true:=fun s hs=>(Yt.1 hs).elim (fun k=>hz.nms s (stay_mem.1 k).1) fun k=>(hd.pok s k).name
theorem IP {z:Zon}{d:Dlt}(hz:dY z.sets) (hp:dY d.put) (hd:d.put.length<=20000) (hl:(bW z d).length<=20000):dY (dS (bW z d++d.put)):=KD (by rw[xP,XY];omega) fun s hs=>(Yt.1 (sortS_mem.1 hs)).elim (fun k=>KE hz (stay_mem.1 k).1) fun k=>KE hp k
theorem uF (z:Zon) (d:Dlt) (hp:dY d.put):PureCt Tryz.prog 27 [.agg z.d,.agg d.d] (.tuple [.agg (applyP z d).1.d,.i (applyP z d).2]):=by
 refine oO Tryz.func27 fun ff=>?_
 unfold Tryz.f27
 refine aa Jl ?_
 rcases ha:zoneOk z with _|_
 .
  have ff:=qA @ha ff;refine aa Jl ?_ (hok:=by (try simp only[go_sem,ff]);all_goals (first|exact xn ha|exact xq ha))
  refine ae ?_;refine aa Jl ?_ (hok:=oH (uD d));refine cd (fun c1=>?_) (fun c1=>?_) (hq:=rfl)
  .
   refine aa Jl ?_;exact fo 3 (k:=by rw[applyP,if_pos (by grind)];try rfl)
  first|exact c1.elim|(simp at c1;done)
 have hfa:=xu ha
 have hza:=lG ha
 have hlz:=hza.len
 have ff:=qA @ha ff
 refine aa Jl ?_ (hok:=by (try simp only[go_sem,ff]);all_goals (first|exact xn ha|exact xq ha))
 refine oK Jl (fun c1=>?_) (fun c1=>?_) (hok:=oH (uD d))
 .
  refine aa Jl ?_;exact fo 3 (k:=by rw[applyP,if_pos (by grind)];try rfl)
 have hd:dltOk d=true:=by grind
 have hax:z.apex=d.apex:=by grind
 have p1 : ¬ (zoneOk z=false\/dltOk d=false\/z.apex≠d.apex):=by rintro (q|q|q);rw[ha] at q;cases q;rw[hd] at q;cases q;exact q hax
 have hdd:=dlt_iff.1 hd
 have hld:=hdd.dlen
 have hlp:=hdd.plen
 have hsl:=Oq z d
 refine oK Jl (fun c2=>?_) (fun c2=>?_)
 .
  have p2:serialOf z≠d.frm:=by grind
  refine aa Jl ?_;exact fo 3 (k:=by rw[applyP,XZ p1,X4 p2];try rfl)
 have p2 : ¬ (serialOf z≠d.frm):=fun q=>q (by grind)
 refine ae (aA Jl 2 (hct:=by exact Wp d.put hp.1 _ _) (hk:=?_))
 rintro res h2 n2 ⟨r1,rfl,rfl,a1,b1⟩
 try dsimp only at a1 b1
 have ff:=qD @b1 (nH 0 1) (nH 0 2) (qI (nH 0 r1) (nH 0 (n2+3)) (nH 1 2) (nH 1 r1) (nH 1 (n2+3)) (nH 2 r1) (nH 2 (n2+3)) (nH (n2+3) r1) ff)
 refine az Jl ?_
 refine ae ?_
 refine aa Jl ?_
 refine ai ?_
 refine lp (α:=(Nat)×(Nat)×Nat) [2,3,4,43,44] (fun ⟨k,q,nx⟩=>(k<=d.drop.length)/\(q<nx)/\(r1<q)/\(2<r1)/\True) (fun ⟨k,q,nx⟩=>d.drop.length-k) (fun ⟨k,q,nx⟩=>[(8,.mptr q 0 0),(45,.i k)]) (fun ⟨k,q,nx⟩=>[(0,⟨28,[z.d]⟩),(1,⟨31,[d.d]⟩),(2,⟨28,[[.v (.string (bs [])),.list true []]]⟩),(q,⟨83,[[.mp r1]]⟩),(r1,⟨83,eY (ji (mK (mF d.put) d.drop (k)))⟩)]) (fun ⟨k,q,nx⟩=>nx) (0,n2+3,_) (hA:=⟨iv,iv,iv,iv,trivial⟩) (round:=?_)
 rintro⟨k,q,nx⟩ ⟨hk,hq,hqr,hr1, -⟩
 simp only[X0,X3]
 have n0:0<nx:=by omega
 have hrn:r1<nx:=by omega
 have ff:=qF @hq @n0 @hrn (nH 0 1) (nH 0 2) (qI (nH 0 q) (nH 0 r1) (nH 1 2) (nH 1 q) (nH 1 r1) (nH 2 q) (nH 2 r1) (nH q r1) ff)
 refine aa Jl ?_
 refine ae ?_
 refine cd (fun c3=>?_) (fun c3=>?_) (hp:=rfl)
 .
  have hk2:k<d.drop.length:=by simpa using c3
  have ff:=qA (sD hk2) ff;refine dw_skip ?_;refine ae ?_;refine ai ?_;refine aa Jl ?_;refine ah Jl ?_;refine ah Jl ?_
  show ∃ _,_
  have ff:=qA (show nC (mK (mF d.put) d.drop (k)) d.drop[k]! none=mK (mF d.put) d.drop (k+1) from rfl) ff
  exact ak (k+1,q,_) (h1:=⟨iv,iv,iv,iv,trivial⟩)
 have e8:k=d.drop.length:=by omega
 subst e8
 refine aB ?_
 refine VG q 0 r1 ev rfl ev rfl om IA ?_
 simp only[YF]
 refine VF 8 q ev ev Sg ?_
 refine ae (aA Jl 3 (hct:=by exact VO z d hfa _ _) (hk:=?_))
 rintro res h2 n2 ⟨r2,rfl,rfl,a2,b2⟩
 try dsimp only at a2 b2
 have ff:=qH @b2 (nH 0 1) (nH 0 2) (nH 0 r2) (nH 1 2) (nH 1 r2) (nH 2 r2) ff
 refine az Jl ?_
 refine oK Jl (fun c4=>?_) (fun c4=>?_)
 .
  refine aa Jl ?_;exact fo 3 (k:=by rw[applyP,XZ p1,XZ p2,X4 (by omega)];try rfl)
 refine aa Jl ?_
 obtain⟨q5,qz⟩:∃ q,q=n2+15:=⟨_,rfl⟩
 rw[<- qz]
 have hq5b:q5<n2+16:=by omega
 have ff:=qH @hq5b (nH 0 1) (nH 0 2) (nH 0 q5) (nH 1 2) (nH 1 q5) (nH 2 q5) ff
 refine ae (aA Jl 2 (hok:=oH Wl) (hct:=by exact OP (bW z d++d.put) _ _ _ _ (by simp) (by rw[XY];omega) (Oo hza hdd) (IL hza.ord hdd.pord) (by simp only[go_sem,ff,YS])) (hk:=?_))
 rintro res h2 n2 ⟨rfl,rfl,rfl⟩
 refine az Jl ?_
 refine zZ 12 q5 (rows:=(dS (bW z d++d.put)).map Sgd.d) (off:=0) (len:=(bW z d).length+d.put.length) ev ev (by simp[xP]) ug ?_
 rw[X8,Yp (by simp[xP])]
 refine aa JlF ?_ (hok:=by (try simp only[go_sem,ff]);all_goals (first|done|((repeat' (with_reducible apply And.intro))<;>first|(intros;exact Lr _ (IP hfa hp hlp om))|omega|skip)))
 refine ae ?_
 rcases hb:zoneOk (⟨z.apex,dS (bW z d++d.put)⟩:Zon) with _|_
 .
  have ff:=qA @hb ff;have ff:=qA (Kv (dS (bW z d++d.put))) ff;refine aa Jl ?_ (hok:=by (try simp only[go_sem,ff]);all_goals (first|exact xn (z:=(⟨z.apex,dS (bW z d++d.put)⟩:Zon)) hb|exact xq (z:=(⟨z.apex,dS (bW z d++d.put)⟩:Zon)) hb))
  refine aa Jl ?_;refine cd (fun c5=>?_) (fun c5=>?_) (hq:=rfl)
  .
   refine aa Jl ?_;exact fo 3 (k:=by rw[applyP,if_neg p1,if_neg p2,if_neg (by omega),if_pos (by show zoneOk (⟨z.apex,dS (bW z d++d.put)⟩:Zon)=false\/serialOf (⟨z.apex,dS (bW z d++d.put)⟩:Zon)≠d.too;rw[hb];grind)];try rfl)
  first|exact c5.elim|(simp at c5;done)
 have ff:=qA @hb ff
 have ff:=qA (Kv (dS (bW z d++d.put))) ff
 refine aa Jl ?_ (hok:=by (try simp only[go_sem,ff]);all_goals (first|exact xn (z:=(⟨z.apex,dS (bW z d++d.put)⟩:Zon)) hb|exact xq (z:=(⟨z.apex,dS (bW z d++d.put)⟩:Zon)) hb))
 refine aa Jl ?_
 refine cd (fun c5=>?_) (fun c5=>?_)
 .
  refine aa Jl ?_;exact fo 3 (k:=by rw[applyP,if_neg p1,if_neg p2,if_neg (by omega),if_pos (by show zoneOk (⟨z.apex,dS (bW z d++d.put)⟩:Zon)=false\/serialOf (⟨z.apex,dS (bW z d++d.put)⟩:Zon)≠d.too;rw[hb];grind)];try rfl)
 refine dw_skip ?_
 refine aa Jl ?_
 exact fo 3 (k:=by rw[applyP,if_neg p1,if_neg p2,if_neg (by omega),if_neg (by show ¬ (zoneOk (⟨z.apex,dS (bW z d++d.put)⟩:Zon)=false\/serialOf (⟨z.apex,dS (bW z d++d.put)⟩:Zon)≠d.too);rw[hb];grind)];try rfl)
end Go.Proofs.YtjngdcldglkolaaGreatDoor
namespace Go.Proofs.YtjngdcldglkolaaGreatDoor
open Go.DL Go.Str Go.Rec Go.Cmp Go.Zon Go.Jn
set_option maxRecDepth 10000
variable [Glob Tryz.prog] [Told]
theorem Mk:bY Tryz.prog 194=true:=by kernel_rfl
theorem Ro (ce:Nat) (h:H) (n:Nat):sU Tryz.prog 194 [.mptr ce 0 0] h n .returning .returning (fun h' n'=>(∀ q,q<n->h' q=h q)/\n<=n'):=by
 refine wQ (d:=.v .nilIface) (v:=.nilIface) Tryz.func194 rfl Mk (by simp[Tryz.f194]) (bN rfl) rfl rfl (by decide) (.inl ⟨rfl,rfl,rfl⟩) (fun _ _=>.v _) (fun hnone=>?_)
 have ff:=True.intro
 refine yh (C:=Jl) 1 (d:=.v .nilIface) (r:=.tuple [.v .nilIface,.b false]) (fun w=>ME Tryz.underlying125 rfl rfl w) (fun w g q hq=>by cases hq;rfl) (fun w g=>?_) om (bN rfl) rfl rfl (by simp only[Yf,X8,Ya,Yj,S.put,YC,Nat.reduceSub,go_sem,ff];first|done|exact rfl) trivial (by rfl) (by simp only[go_sem,ff]) ?_
 .
  exact .tuple _ _ rfl (fun i d x h1 h2=>by
   match i with
   | 0=>cases h1;cases h2;exact .v _
   | 1=>cases h1;cases h2;exact .v _
   | i+2=>simp at h1)
 refine aN Jl ?_
 try simp only[aF]
 refine aa Jl ?_
 refine cd (fun c1=>?_) (fun c1=>?_)
 .
  simp at c1
 refine dw_skip ?_
 refine⟨(by trivial),h,_,?_,Nat.le_refl _,fun q hq=>rfl,by dsimp only;omega⟩
 intro r
 dsimp only
 first
 | exact .inl rfl
 | exact (Decidable.em (r<n)).elim (fun e=>by left;simp only[upd];repeat (first|rfl|rw[XZ (by omega)])) fun e=>by right;exact hnone r om
theorem Hy (ce:Nat) (h:H) (n:Nat) (c0:D) (he:h ce=some ⟨125,[[c0]]⟩) (hce:ce<n):sU Tryz.prog 194 [.mptr ce 0 0] h n (.panicking lC) (.panicking [{ v:=fJ dZ,recovered:=true }]) (fun h' n'=>h' ce=some ⟨125,[[.v (fJ dZ)]]⟩/\n<=n' /\ ∀ q,q<n->q≠ce->h' q=h q):=by
 refine wQ (d:=.v (fJ dZ)) (v:=fJ dZ) Tryz.func194 rfl Mk (by simp[Tryz.f194]) (bN rfl) rfl rfl (by decide) (.inr ⟨rfl,rfl⟩) (fun w g=>.v _) (fun hnone=>?_)
 have hn2 : ∀ k,(ce=n+k)=False:=fun k=>Y6 om
 have hn4 : ∀ k,(n+k=ce)=False:=fun k=>Y6 om
 have ff:=qB he hn2 hn4
 refine yh (C:=Jl) 1 (d:=.v (fJ dZ)) (r:=.tuple [.v (fJ dZ),.b true]) (fun w=>Go.run_typeAssert_hasB Tryz.underlying125 (by kernel_rfl) _ _ w) (fun w g q hq=>by cases hq;rfl) (fun w g=>?_) om (bN rfl) rfl rfl (by simp only[Yf,X8,Ya,Yj,S.put,YC,Nat.reduceSub,go_sem,ff];first|done|exact rfl) trivial (by rfl) (by simp only[go_sem,ff]) ?_
 .
  exact .tuple _ _ rfl (fun i d x h1 h2=>by
   match i with
   | 0=>cases h1;cases h2;exact .v _
   | 1=>cases h1;cases h2;exact .v _
   | i+2=>simp at h1)
 refine aN Jl ?_
 try simp only[aF]
 refine aa Jl ?_
 refine cd (fun c1=>?_) (fun c1=>?_)
 .
  refine ah Jl ?_ (hok:=by (try simp only[go_sem,ff]);all_goals (exact⟨rfl,rfl⟩))
  refine⟨(by trivial),_,_,fun _=>.inl rfl,Nat.le_refl _,?_,by dsimp only;omega,fun q q1 q2=>?_⟩
  .
   dsimp only;simp only[upd];repeat (first|rfl|rw[if_neg (by omega)]|rw[if_pos rfl])
  dsimp only;simp only[upd];repeat (first|rfl|rw[if_neg q2]|rw[if_neg (by omega)])
 simp at c1
theorem Mj:bY Tryz.prog 199=true:=by kernel_rfl
theorem Rp (ce:Nat) (h:H) (n:Nat):sU Tryz.prog 199 [.mptr ce 0 0] h n .returning .returning (fun h' n'=>(∀ q,q<n->h' q=h q)/\n<=n'):=by
 refine wQ (d:=.v .nilIface) (v:=.nilIface) Tryz.func199 rfl Mj (by simp[Tryz.f199]) (bN rfl) rfl rfl (by decide) (.inl ⟨rfl,rfl,rfl⟩) (fun _ _=>.v _) (fun hnone=>?_)
 have ff:=True.intro
 refine yh (C:=Jl) 1 (d:=.v .nilIface) (r:=.tuple [.v .nilIface,.b false]) (fun w=>ME Tryz.underlying125 rfl rfl w) (fun w g q hq=>by cases hq;rfl) (fun w g=>?_) om (bN rfl) rfl rfl (by simp only[Yf,X8,Ya,Yj,S.put,YC,Nat.reduceSub,go_sem,ff];first|done|exact rfl) trivial (by rfl) (by simp only[go_sem,ff]) ?_
 .
  exact .tuple _ _ rfl (fun i d x h1 h2=>by
   match i with
   | 0=>cases h1;cases h2;exact .v _
   | 1=>cases h1;cases h2;exact .v _
   | i+2=>simp at h1)
 refine aN Jl ?_
 try simp only[aF]
 refine aa Jl ?_
 refine cd (fun c1=>?_) (fun c1=>?_)
 .
  simp at c1
 refine dw_skip ?_
 refine⟨(by trivial),h,_,?_,Nat.le_refl _,fun q hq=>rfl,by dsimp only;omega⟩
 intro r
 dsimp only
 first
 | exact .inl rfl
 | exact (Decidable.em (r<n)).elim (fun e=>by left;simp only[upd];repeat (first|rfl|rw[XZ (by omega)])) fun e=>by right;exact hnone r om
theorem Hz (ce:Nat) (h:H) (n:Nat) (c0:D) (he:h ce=some ⟨125,[[c0]]⟩) (hce:ce<n):sU Tryz.prog 199 [.mptr ce 0 0] h n (.panicking lC) (.panicking [{ v:=fJ dZ,recovered:=true }]) (fun h' n'=>h' ce=some ⟨125,[[.v (fJ dZ)]]⟩/\n<=n' /\ ∀ q,q<n->q≠ce->h' q=h q):=by
 refine wQ (d:=.v (fJ dZ)) (v:=fJ dZ) Tryz.func199 rfl Mj (by simp[Tryz.f199]) (bN rfl) rfl rfl (by decide) (.inr ⟨rfl,rfl⟩) (fun w g=>.v _) (fun hnone=>?_)
 have hn2 : ∀ k,(ce=n+k)=False:=fun k=>Y6 om
 have hn4 : ∀ k,(n+k=ce)=False:=fun k=>Y6 om
 have ff:=qB he hn2 hn4
 refine yh (C:=Jl) 1 (d:=.v (fJ dZ)) (r:=.tuple [.v (fJ dZ),.b true]) (fun w=>Go.run_typeAssert_hasB Tryz.underlying125 (by kernel_rfl) _ _ w) (fun w g q hq=>by cases hq;rfl) (fun w g=>?_) om (bN rfl) rfl rfl (by simp only[Yf,X8,Ya,Yj,S.put,YC,Nat.reduceSub,go_sem,ff];first|done|exact rfl) trivial (by rfl) (by simp only[go_sem,ff]) ?_
 .
  exact .tuple _ _ rfl (fun i d x h1 h2=>by
   match i with
   | 0=>cases h1;cases h2;exact .v _
   | 1=>cases h1;cases h2;exact .v _
   | i+2=>simp at h1)
 refine aN Jl ?_
 try simp only[aF]
 refine aa Jl ?_
 refine cd (fun c1=>?_) (fun c1=>?_)
 .
  refine ah Jl ?_ (hok:=by (try simp only[go_sem,ff]);all_goals (exact⟨rfl,rfl⟩))
  refine⟨(by trivial),_,_,fun _=>.inl rfl,Nat.le_refl _,?_,by dsimp only;omega,fun q q1 q2=>?_⟩
  .
   dsimp only;simp only[upd];repeat (first|rfl|rw[if_neg (by omega)]|rw[if_pos rfl])
  dsimp only;simp only[upd];repeat (first|rfl|rw[if_neg q2]|rw[if_neg (by omega)])
 simp at c1
theorem Xv:bY Tryz.prog 144=true:=by kernel_rfl
theorem TP (w:Str) (h:H) (n:Nat) (hw:w.length<=1000000000):RCt Tryz.prog 144 [.list false (w.map bD),.fn (.func 145) [] []] h n (fun d h' n'=>d.nr=true/\wk d = .tuple [.agg (mD w).d,.v (uz (cu (bX (w,false)).2))]):=by
 have ff:=True.intro
 refine BH (C:=Jl) 1 Tryz.func144 rfl Xv (by simp[Tryz.f144]) (by intro o ho;simp only[YL,ZK,or_false] at ho;rcases ho with rfl|rfl<;>rfl) ev (by (try simp only[go_sem,ff]);all_goals exact ok0) (bN rfl) rfl rfl (by intro o ho;simp only[Ya,Yj,YL,ZK,or_false] at ho;rcases ho with rfl<;>rfl) (by simp only[Ya,Yj,go_sem,ff];exact rfl) (by (try simp only[go_sem,ff]);all_goals exact ok0) (by (try simp only[go_sem,ff]);all_goals (first|done|rfl|decide|simp)) ev (fun hnone=>?_)
 unfold Tryz.f144
 refine aN Jl ?_
 try simp only[aF]
 have ff:=qA (nH n (n+1)) ff
 refine aa Jl ?_
 refine bf ?_
 refine eB 2 (C:=Jl) (hct:=by exact TK w _ _ (n+6) ⟨false,ev⟩ hw) (hp:=?_) (hk:=?_)
 .
  rintro c9 h9 n9 ⟨rfl,hbad,hst9⟩
  try dsimp only at hst9
  have su:=hst9.1;have hz9:h9 n=some ⟨28,[[.v (.string (bs [])),.list true []]]⟩:=(hst9.2 n om om).trans ev;have wC:h9 (n+1)=some ⟨125,[[.v .nilIface]]⟩:=(hst9.2 (n+1) om om).trans ev
  try simp only[dK,dQ]
  refine⟨_,_,_,rfl,rfl,Hy (n+1) h9 _ _ wC oW,fun h1 m1 ⟨w1,w2,w3⟩=>?_⟩
  try dsimp only at w1 w2 w3
  have hz1:=(w3 n (by omega) (by omega)).trans hz9
  have ff:=qB hz1 w1 ff;exact⟨by simp only[go_sem,ff],h1,m1,fun _=>.inl rfl,XX _,by (try simp only[go_sem,ff]);all_goals (refine⟨by simp[go_sem,D.nr,aW,aR],?_⟩;(try simp only[go_sem]);rw[mD,X4 hbad,show cu (bX (w,false)).2=true from by simp[cu,hbad]];rfl)⟩
 rintro res h2 n2 ⟨x2,hp2,rfl,hb2,hst2⟩
 try dsimp only at hst2
 have hl2:=hst2.1
 obtain⟨f2,hR2⟩:=hb2
 have hz2:h2 n=some ⟨28,[[.v (.string (bs [])),.list true []]]⟩:=(hst2.2 n om om).trans ev
 have he2:h2 (n+1)=some ⟨125,[[.v .nilIface]]⟩:=(hst2.2 (n+1) om om).trans ev
 have hbn:(bX (w,false)).2.2=false:=by rw[hp2]
 have ff:=qH hR2 hz2 he2 (nH n (n+6)) (nG n n2) (nG (n+1) n2) (nG (n+6) n2) ff
 refine aN Jl ?_
 try simp only[aF]
 refine oK Jl (fun c1=>?_) (fun c1=>?_)
 .
  refine kL ?_;refine zB Jl 1 (d:=.v (fJ dZ)) (t:=290) (v:=.pointer (some dZ)) ?_ (fun w g u hu=>hu.v_inv)
  try simp only[dK,dQ]
  refine⟨_,_,_,rfl,rfl,Hy (n+1) _ _ (.v .nilIface) ev oW,fun h1 m1 ⟨w1,w2,w3⟩=>?_⟩
  try dsimp only at w1 w2 w3
  have hz1:=(w3 n oW (by omega))
  simp only[go_sem,ff] at hz1;have ff:=qB hz1 w1 ff;exact⟨by simp only[go_sem,ff],h1,m1,fun _=>.inl rfl,XX _,by (try simp only[go_sem,ff]);all_goals (refine⟨by simp[go_sem,D.nr,aW,aR],?_⟩;(try simp only[go_sem]);rw[mD,XZ (by rw[hbn];simp),show cu (bX (w,false)).2=true from by rw[hp2];simp[cu];omega];rfl)⟩
 have hx0:x2=[]:=X5 om
 refine aa Jl ?_
 refine aO ?_
 refine⟨_,_,_,rfl,rfl,Ro (n+1) _ _,fun h1 m1 ⟨w1,w2⟩=>?_⟩
 try dsimp only at w1 w2 w3
 have hz1:=w1 n oW
 have he1:=w1 (n+1) oW
 simp only[go_sem,ff] at hz1 he1
 have ff:=qB hz1 he1 ff
 exact⟨by simp only[go_sem,ff],h1,m1,fun _=>.inl rfl,XX _,by (try simp only[go_sem,ff]);all_goals (refine⟨by simp[go_sem,D.nr,aW,aR],?_⟩;(try simp only[go_sem]);rw[mD,XZ (by rw[hbn];simp),show cu (bX (w,false)).2=false from by rw[hp2,hx0];rfl];rfl)⟩
theorem Xt:bY Tryz.prog 147=true:=by kernel_rfl
theorem TR (w:Str) (h:H) (n:Nat) (hw:w.length<=1000000000):RCt Tryz.prog 147 [.list false (w.map bD),.fn (.func 148) [] []] h n (fun d h' n'=>d.nr=true/\wk d = .tuple [.agg (jJ w).d,.v (uz (cu (aZ (w,false)).2))]):=by
 have ff:=True.intro
 refine BH (C:=Jl) 1 Tryz.func147 rfl Xt (by simp[Tryz.f147]) (by intro o ho;simp only[YL,ZK,or_false] at ho;rcases ho with rfl|rfl<;>rfl) ev (by (try simp only[go_sem,ff]);all_goals exact ok0) (bN rfl) rfl rfl (by intro o ho;simp only[Ya,Yj,YL,ZK,or_false] at ho;rcases ho with rfl<;>rfl) (by simp only[Ya,Yj,go_sem,ff];exact rfl) (by (try simp only[go_sem,ff]);all_goals exact ok0) (by (try simp only[go_sem,ff]);all_goals (first|done|rfl|decide|simp)) ev (fun hnone=>?_)
 unfold Tryz.f147
 refine aN Jl ?_
 try simp only[aF]
 have ff:=qA (nH n (n+1)) ff
 refine aa Jl ?_
 refine bf ?_
 refine eB 2 (C:=Jl) (hct:=by exact TZ w _ _ (n+6) ⟨false,ev⟩ hw) (hp:=?_) (hk:=?_)
 .
  rintro c9 h9 n9 ⟨rfl,hbad,hst9⟩
  try dsimp only at hst9
  have su:=hst9.1;have hz9:h9 n=some ⟨31,[[.v (.string (bs [])),.i 0,.i 0,.list true [],.list true []]]⟩:=(hst9.2 n om om).trans ev;have wC:h9 (n+1)=some ⟨125,[[.v .nilIface]]⟩:=(hst9.2 (n+1) om om).trans ev
  try simp only[dK,dQ]
  refine⟨_,_,_,rfl,rfl,Hz (n+1) h9 _ _ wC oW,fun h1 m1 ⟨w1,w2,w3⟩=>?_⟩
  try dsimp only at w1 w2 w3
  have hz1:=(w3 n (by omega) (by omega)).trans hz9
  have ff:=qB hz1 w1 ff;exact⟨by simp only[go_sem,ff],h1,m1,fun _=>.inl rfl,XX _,by (try simp only[go_sem,ff]);all_goals (refine⟨by simp[go_sem,D.nr,aW,aR],?_⟩;(try simp only[go_sem]);rw[jJ,X4 hbad,show cu (aZ (w,false)).2=true from by simp[cu,hbad]];rfl)⟩
 rintro res h2 n2 ⟨x2,hp2,rfl,hb2,hst2⟩
 try dsimp only at hst2
 have hl2:=hst2.1
 obtain⟨f2,hR2⟩:=hb2
 have hz2:h2 n=some ⟨31,[[.v (.string (bs [])),.i 0,.i 0,.list true [],.list true []]]⟩:=(hst2.2 n om om).trans ev
 have he2:h2 (n+1)=some ⟨125,[[.v .nilIface]]⟩:=(hst2.2 (n+1) om om).trans ev
 have hbn:(aZ (w,false)).2.2=false:=by rw[hp2]
 have ff:=qH hR2 hz2 he2 (nH n (n+6)) (nG n n2) (nG (n+1) n2) (nG (n+6) n2) ff
 refine aN Jl ?_
 try simp only[aF]
 refine oK Jl (fun c1=>?_) (fun c1=>?_)
 .
  refine kL ?_;refine zB Jl 1 (d:=.v (fJ dZ)) (t:=290) (v:=.pointer (some dZ)) ?_ (fun w g u hu=>hu.v_inv)
  try simp only[dK,dQ]
  refine⟨_,_,_,rfl,rfl,Hz (n+1) _ _ (.v .nilIface) ev oW,fun h1 m1 ⟨w1,w2,w3⟩=>?_⟩
  try dsimp only at w1 w2 w3
  have hz1:=(w3 n oW (by omega))
  simp only[go_sem,ff] at hz1;have ff:=qB hz1 w1 ff;exact⟨by simp only[go_sem,ff],h1,m1,fun _=>.inl rfl,XX _,by (try simp only[go_sem,ff]);all_goals (refine⟨by simp[go_sem,D.nr,aW,aR],?_⟩;(try simp only[go_sem]);rw[jJ,XZ (by rw[hbn];simp),show cu (aZ (w,false)).2=true from by rw[hp2];simp[cu];omega];rfl)⟩
 have hx0:x2=[]:=X5 om
 refine aa Jl ?_
 refine aO ?_
 refine⟨_,_,_,rfl,rfl,Rp (n+1) _ _,fun h1 m1 ⟨w1,w2⟩=>?_⟩
 try dsimp only at w1 w2 w3
 have hz1:=w1 n oW
 have he1:=w1 (n+1) oW
 simp only[go_sem,ff] at hz1 he1
 have ff:=qB hz1 he1 ff
 exact⟨by simp only[go_sem,ff],h1,m1,fun _=>.inl rfl,XX _,by (try simp only[go_sem,ff]);all_goals (refine⟨by simp[go_sem,D.nr,aW,aR],?_⟩;(try simp only[go_sem]);rw[jJ,XZ (by rw[hbn];simp),show cu (aZ (w,false)).2=false from by rw[hp2,hx0];rfl];rfl)⟩
theorem TQ (w:Str) (hw:w.length<=1000000000):PureCt Tryz.prog 144 [.list false (w.map bD),.fn (.func 145) [] []] (.tuple [.agg (mD w).d,.v (uz (cu (bX (w,false)).2))]) :=
 Ho (by simp[go_sem,D.nr,aW,aR]) ((TP w _ 0 hw).mono fun d h' n' ⟨e1,e2⟩=>⟨0,e1,e2⟩)
theorem TS (w:Str) (hw:w.length<=1000000000):PureCt Tryz.prog 147 [.list false (w.map bD),.fn (.func 148) [] []] (.tuple [.agg (jJ w).d,.v (uz (cu (aZ (w,false)).2))]) :=
 Ho (by simp[go_sem,D.nr,aW,aR]) ((TR w _ 0 hw).mono fun d h' n' ⟨e1,e2⟩=>⟨0,e1,e2⟩)
end Go.Proofs.YtjngdcldglkolaaGreatDoor
namespace Go.Proofs.YtjngdcldglkolaaGreatDoor
open Go.DL Go.Str Go.Rec Go.Cmp Go.Zon Go.Jn
set_option maxRecDepth 10000
variable [Glob Tryz.prog] [Told]
theorem tC {k:Nat}{x:Str}(h:k<=x.length):ag k (x,false)=(bO (x.take k),(x.drop k,false)):=by
 unfold ag
 rw[gu rfl h]
theorem zH {k:Nat}{b:Str}(h : ∀ m,21+m<=b.length -> ¬ mJ k m b):fst1 k b=(0,[]):=by
 rcases sF k b with e|⟨m,h1,h2,_⟩
 .
  exact e
 exact absurd h2 (h m h1)
attribute [local irreducible] dig bO
def dC:Code->Code
 | .seq _ b=>b
 | c=>c
def lW:Code->Code
 | .seq a _=>a
 | c=>c
def Ig:Code->Array Oper
 | .region _ ops _=>ops
 | _=>#[]
noncomputable def ufrOps:Array Oper:=Ig (lW (lW (dC (dC (dC (dC (Tryz.f143.body.getD .skip)))))))
theorem EU (w:Str) (t:Nat->D) (h:H) (a u n2 nx:Nat) (fl:Bool) (e:Env) (h21:21<=w.length) (hw:w.length<=1000000000)
  (h1:t 1 = .list false (w.map bD)) (h7:t 7 = .i u) (h27:t 27 = .v (.int .u64 a)) (h28:t 28 = .list false (w.map bD)) (h29:t 29 = .list fl ((w.take 5).map bD)) :
  ∃ (t':Nat->D) (p:Prop),aH Tryz.prog (words Tryz.prog) Jl ufrOps.toList n2 4 ((ufrOps.toList.drop 4).take (11-4)) { n:=50,t:=t,h:=h,nx:=nx,ok:=True,e:=e }={ n:=50,t:=t',h:=h,nx:=nx,ok:=p,e:=e }/\p /\
   t' 32 = .b (((a:Nat):Int) != ((dig (w.take 5):Nat):Int))/\t' 33 = .cond (!(((a:Nat):Int) != ((dig (w.take 5):Nat):Int))) (.i u)/\t' 36 = .cond (!(((a:Nat):Int) != ((dig (w.take 5):Nat):Int))) (.i ((w.length:Int)-21)) /\ ∀ i,i<28->t' i=t i:=by
 have ff:=qE h1 h7 h27 h28 h29
 unfold ufrOps Tryz.f143
 simp only[YT,dC,lW,Ig]
 refine⟨_,_,by simp only[Yf,X8,Ya,Yj,YC,Nat.reduceSub,Nat.reduceAdd,go_sem,ff];exact rfl,?_,?_,?_,?_,fun i hi=>?_⟩
 .
  (try simp only[go_sem,ff])
  exact⟨zu _ (by rw[Yr];omega),fun _=>by omega⟩
 .
  simp only[go_sem,ff]
 .
  simp only[go_sem,ff]
 .
  simp only[go_sem,ff]
 simp only[upd]
 repeat rw[XZ (by omega)]
theorem NG (w:Str) (t:Nat->D) (h:H) (a u n2 nx:Nat) (fl:Bool) (e:Env) (h21:21<=w.length) (hw:w.length<=1000000000)
  (h1:t 1 = .list false (w.map bD)) (h7:t 7 = .i u) (h27:t 27 = .v (.int .u64 a)) (h28:t 28 = .list false (w.map bD)) (h29:t 29 = .list fl ((w.take 5).map bD)) :
  (aH Tryz.prog (words Tryz.prog) Jl ufrOps.toList n2 4 ((ufrOps.toList.drop 4).take (11-4)) { n:=50,t:=t,h:=h,nx:=nx,ok:=True,e:=e }).ok:=by
 obtain⟨t',p,he,hp,_⟩:=EU w t h a u n2 nx fl e h21 hw h1 h7 h27 h28 h29
 rw[he]
 exact hp
theorem NF {ro:Option Nat}{ops:Array Oper}{k b:Nat}{Q:Exit->S->Prop}(w:Str) (t:Nat->D) (h:H) (a u n2 nx:Nat) (fl:Bool) (e:Env) (h21:21<=w.length) (hw:w.length<=1000000000)
  (h1:t 1 = .list false (w.map bD)) (h7:t 7 = .i u) (h27:t 27 = .v (.int .u64 a)) (h28:t 28 = .list false (w.map bD)) (h29:t 29 = .list fl ((w.take 5).map bD))
  (hk : ∀ t':Nat->D,t' 32 = .b (((a:Nat):Int) != ((dig (w.take 5):Nat):Int))->t' 33 = .cond (!(((a:Nat):Int) != ((dig (w.take 5):Nat):Int))) (.i u)->t' 36 = .cond (!(((a:Nat):Int) != ((dig (w.take 5):Nat):Int))) (.i ((w.length:Int)-21))->(∀ i,i<28->t' i=t i) ->
   au Tryz.prog ro ops k b { n:=50,t:=t',h:=h,nx:=nx,ok:=True,e:=e } Q) :
  au Tryz.prog ro ops k b (aH Tryz.prog (words Tryz.prog) Jl ufrOps.toList n2 4 ((ufrOps.toList.drop 4).take (11-4)) { n:=50,t:=t,h:=h,nx:=nx,ok:=True,e:=e }) Q:=by
 obtain⟨t',p,he,hp,h2,h3,h4,h5⟩:=EU w t h a u n2 nx fl e h21 hw h1 h7 h27 h28 h29
 rw[he]
 exact F5 (hk t' h2 h3 h4 h5)
theorem Jr (k:UInt8) (w:Str) (hw:w.length<=1000000000):PureCt Tryz.prog 143 [.v (.int .u8 ((k).toNat:Int)),.list false (w.map bD)] (.tuple [.list false ((fst1 k.toNat w).2.map bD),.i (fst1 k.toNat w).1]):=by
 refine oO Tryz.func143 fun ff=>?_
 unfold Tryz.f143
 have hkt:=k.toNat_lt
 refine aa Jl ?_
 refine ae ?_
 by_cases h21:21<=w.length
 .
  have h0:0<w.length:=by omega
  have hdm:(w.map bD).drop 1=(w.drop 1).map bD:=List.map_drop.symm;have htm:(w.map bD).take 5=(w.take 5).map bD:=ZT.symm;have hE1:((1:Int)).toNat=1:=rfl;have hE5:((5:Int)).toNat=5:=rfl;have hx1:(w.drop 1).length<=1000000000:=by rw[Yi];omega
  have ff:=qF (oQ (n:=0) h0) @hdm @htm @hE1 @hE5 ff;refine aa Jl ?_;refine cd (fun c1=>?_) (fun c1=>?_)
  .
   have hF0:fst1 k.toNat w=(0,[]):=zH fun m hm hf=>by have:=hf.1;omega
   refine aa Jl ?_;exact fo 1 (k:=by rw[hF0];rfl)
  have hkk:(w.getD 0 0).toNat=k.toNat:=by omega
  refine dw_skip ?_;refine aa Jl ?_;refine bf ?_;refine eB 1 (C:=Jl) (hct:=by exact zo (w.drop 1) _ _ 15 ⟨_,ev⟩ hx1) (hp:=?_) (hk:=?_)
  .
   rintro c9 h9 n9 ⟨rfl,hbad,hst9⟩
   exfalso
   have hbad:(ag ((4:Nat):Int) (w.drop 1,false)).2.2=true:=hbad;rw[tC (by rw[Yi];omega)] at hbad
   cases hbad
  rintro res h4 n4 ⟨x4,hp4,rfl,hb4,hst4⟩
  try dsimp only at hst4
  have hl4:=hst4.1;obtain⟨f4,hR4⟩:=hb4;have hu4:ag 4 (w.drop 1,false)=(bO ((w.drop 1).take 4),((w.drop 1).drop 4,false)):=tC (k:=4) (by rw[Yi];omega)
  rw[hu4] at hp4;obtain rfl:(w.drop 1).drop 4=x4:=congrArg Prod.fst hp4;rw[Zm] at hR4;have hul:bO ((w.drop 1).take 4)<256^4:=by have:=j6 4 (w.drop 1,false);rw[show ag ((4:Nat):Int) (w.drop 1,false)=_ from hu4] at this;exact this
  rw[hu4];obtain⟨u,hue⟩:∃ u,u=bO ((w.drop 1).take 4):=⟨_,rfl⟩
  try rw[<- hue]
  rw[<- hue] at hul;have e1:=oz (u:=u) (by omega)
  have ff:=qD hR4 e1 (nG 15 n4) ff;have hx5:(w.drop (1+4)).length<=1000000000:=by rw[Yi];omega
  refine aN Jl ?_
  try simp only[aF]
  refine ae ?_;refine VW Jl 1 4 11 [(3,28)] (R:=_) (X:=_) (hct:=by exact nZ (w.drop (1+4)) _ _ 15 ⟨_,ev⟩ hx5) (hkeep:=?kp27) (hFo:=?fo27) (hk:=?kk27) (hp:=?pp27)
  case kp27 =>
   intro res h2 n2 _ p hp r9 hrr;simp only[Yq] at hp;subst hp;simp only[go_sem,ff,sd,named] at hrr;first|cases hrr|skip
  case fo27 =>
   rintro res h2 n2 ⟨_,_,rfl,_,_⟩;exact NG w _ h2 _ u n2 _ _ _ h21 hw rfl rfl rfl rfl rfl
  case pp27 =>
   rintro c9 h9 n9 ⟨rfl,hbad,hst9⟩ t9
   exfalso
   have hbad:(ag ((8:Nat):Int) (w.drop (1+4),false)).2.2=true:=hbad;rw[tC (by rw[Yi];omega)] at hbad
   cases hbad
  rintro res h5 n5 ⟨x5,hp5,rfl,hb5,hst5⟩
  try dsimp only at hst5
  have hl5:=hst5.1;obtain⟨f5,hR5⟩:=hb5;have hu8:ag 8 (w.drop (1+4),false)=(bO ((w.drop (1+4)).take 8),((w.drop (1+4)).drop 8,false)):=tC (k:=8) (by rw[Yi];omega)
  rw[hu8] at hp5;obtain rfl:(w.drop (1+4)).drop 8=x5:=congrArg Prod.fst hp5;rw[Zm] at hR5;rw[hu8];refine NF w _ h5 _ u n5 _ _ _ h21 hw rfl rfl rfl rfl rfl ?_;intro t9 h32 h33 h36 hlow;have l1:=(hlow 1 (by omega)).trans rfl
  have l6:t9 6 = .mptr 15 0 0:=(hlow 6 om).trans rfl;have l7:t9 7 = .i u:=(hlow 7 om).trans rfl;have l1:t9 1 = .list false (w.map bD):=(hlow 1 om).trans rfl;have ff:=qI hR5 h32 h33 h36 l1 l6 l7 (nG 15 n5) ff;refine aN Jl ?_
  try simp only[aF]
  refine cd (fun c2=>?_) (fun c2=>?_) (hp:=rfl) (hq:=rfl)
  .
   have hF0:fst1 k.toNat w=(0,[]):=zH fun m hm hf=>by have h1:=hf.2.1;have h2:=hf.2.2.1;simp at c2;omega
   refine aa Jl ?_;exact fo 1 (k:=by rw[hF0];rfl)
  have c2b:bO ((w.drop 5).take 8)=dig (w.take 5)/\u+21<=w.length:=by simp at c2;omega
  refine dw_skip ?_;refine bf ?_;refine eB 2 (C:=Jl) (hct:=by exact zl (w.drop (1+4+8)) u _ _ 15 ⟨_,ev⟩ (by rw[Yi];omega) (by omega)) (hp:=?_) (hk:=?_)
  .
   rintro c9 h9 n9 ⟨rfl,hbad,hst9⟩
   exfalso
   rw[gu rfl (by show u<=(w.drop (1+4+8)).length;rw[Yi];omega)] at hbad
   cases hbad
  rintro res h7 n7 ⟨x7,hp7,⟨f7,rfl⟩,hb7,hst7⟩
  try dsimp only at hst7
  have wz:=hst7.1;obtain⟨g7,hR7⟩:=hb7;have hu7:aC u (w.drop (1+4+8),false)=((w.drop (1+4+8)).take u,((w.drop (1+4+8)).drop u,false)):=gu rfl (by show u<=(w.drop (1+4+8)).length;rw[Yi];omega)
  rw[hu7] at hp7;obtain rfl:(w.drop (1+4+8)).drop u=x7:=congrArg Prod.fst hp7;rw[Zm] at hR7;rw[hu7];have ff:=qB hR7 (nG 15 n7) ff;refine aN Jl ?_
  try simp only[aF]
  refine ae ?_;refine bf ?_;refine eB 1 (C:=Jl) (hct:=by exact nZ (w.drop (1+4+8+u)) _ _ 15 ⟨_,ev⟩ (by rw[Yi];omega)) (hp:=?_) (hk:=?_)
  .
   rintro c9 h9 n9 ⟨rfl,hbad,hst9⟩
   exfalso
   have hbad:(ag ((8:Nat):Int) (w.drop (1+4+8+u),false)).2.2=true:=hbad;rw[tC (by rw[Yi];omega)] at hbad
   cases hbad
  rintro res h8 n8 ⟨x8,hp8,rfl,hb8,hst8⟩;have hu9:ag 8 (w.drop (1+4+8+u),false)=(bO ((w.drop (1+4+8+u)).take 8),((w.drop (1+4+8+u)).drop 8,false)):=tC (k:=8) (by rw[Yi];omega)
  rw[hu9];refine aN Jl ?_ (hok:=by (try simp only[go_sem,ff]);all_goals (exact zu _ (by rw[Yr,Yi];omega)))
  try simp only[aF]
  refine cd (fun c3=>?_) (fun c3=>?_)
  .
   have hF0:fst1 k.toNat w=(0,[]):=zH fun m hm hf=>by have h1:=hf.2.1;have h2:=hf.2.2.2;rw[show m=u by omega] at h2;omega
   refine aa Jl ?_;exact fo 1 (k:=by rw[hF0];rfl)
  have hF:fst1 k.toNat w=(21+u,(w.drop 13).take u):=fst1_iff.2 ⟨om,⟨hkk,om,c2b.1,om⟩,rfl⟩;refine dw_skip ?_;refine aa Jl ?_;exact fo 1 (k:=by rw[hF];rfl)
 refine aa Jl ?_
 refine cd (fun c1=>?_) (fun c1=>?_) (hp:=rfl) (hq:=rfl)
 .
  have hF0:fst1 k.toNat w=(0,[]):=zH fun m hm _=>by omega
  refine aa Jl ?_;exact fo 1 (k:=by rw[hF0];rfl)
 exfalso;simp at c1;omega
end Go.Proofs.YtjngdcldglkolaaGreatDoor
namespace Go.Proofs.YtjngdcldglkolaaGreatDoor
open Go.DL Go.Str Go.Rec Go.Cmp Go.Zon Go.Jn
set_option maxRecDepth 10000
variable [Glob Tryz.prog] [Told]
theorem TN (w:Str) (hw:w.length<=1000000000):PureCt Tryz.prog 143 [.v (.int .u8 1),.list false (w.map bD)] (.tuple [.list false ((fst1 1 w).2.map bD),.i (fst1 1 w).1]):=Jr 1 w hw
theorem TM (w:Str) (hw:w.length<=1000000000):PureCt Tryz.prog 143 [.v (.int .u8 2),.list false (w.map bD)] (.tuple [.list false ((fst1 2 w).2.map bD),.i (fst1 2 w).1]):=Jr 2 w hw
theorem TU (c:Cnt) (w:Str) (hw:w.length<=1000000):PureCt Tryz.prog 93 [.agg c.d,.list false (w.map bD)] (.tuple [.agg (nextF c w).1.d,.i (nextF c w).2]):=by
 refine oO Tryz.func93 fun ff=>?_
 unfold Tryz.f93
 have hv1:=zG 1 w
 have hv2:=zG 2 w
 have ff:=qE (show (UInt8.ofNat 1).toNat=1 from rfl) (show (UInt8.ofNat 2).toNat=2 from rfl) (show zon0.apex=[] from rfl) (show zon0.sets=[] from rfl) ff
 rcases c with _|z0
 .
  refine aa Jl ?_;refine ae ?_;refine aa Jl ?_;refine cd (fun c1=>?_) (fun c1=>?_) (hq:=rfl)
  .
   refine aa Jl ?_ (hok:=oF (TN w om));refine ae (aA Jl 1 (hct:=by exact (TQ (fst1 1 w).2 om).rct _ _) (hk:=?_))
   rintro res h2 n2 ⟨rfl,rfl,hn2⟩;refine az Jl ?_;refine oK Jl (fun c2=>?_) (fun c2=>?_) (hok:=oI Jz AJ)
   .
    have hno:=Sm (w:=w) (by grind)
    refine aa Jl ?_;exact fo 2 (k:=by rw[hno];first|rfl|(simp;done))
   have hyes:=Sl (w:=w) (by grind) (by grind) (by grind)
   refine aa Jl ?_;exact fo 2 (k:=by rw[hyes];first|rfl|(simp;done))
  simp at c1
 refine aa Jl ?_
 refine oK Jl (fun c1=>?_) (fun c1=>?_) (hp:=rfl)
 .
  simp at c1
 refine aa Jl ?_ (hok:=oF (TM w om))
 refine oK Jl (fun c3=>?_) (fun c3=>?_)
 .
  have hno:=Su (z:=z0) (w:=w) (by grind)
  refine aa Jl ?_;exact fo 2 (k:=by rw[hno];first|rfl|(simp;done))
 refine ae (aA Jl 1 (hct:=by exact (TS (fst1 2 w).2 om).rct _ _) (hk:=?_))
 rintro res h2 n2 ⟨rfl,rfl,hn2⟩
 refine az Jl ?_
 refine oK Jl (fun c4=>?_) (fun c4=>?_) (hok:=oF (Jz _))
 .
  have hno:=Sq (z:=z0) (w:=w) c4;refine aa Jl ?_;exact fo 2 (k:=by rw[hno];first|rfl|(simp;done))
 have hpf:=Ri (w:=(fst1 2 w).2) (by omega) c4
 refine aa Jl ?_ (hok:=oF (uF z0 (jJ (fst1 2 w).2) hpf))
 refine oK Jl (fun c5=>?_) (fun c5=>?_)
 .
  have hno:=Sr (z:=z0) c4 c5;refine aa Jl ?_;exact fo 2 (k:=by rw[hno];first|rfl|(simp;done))
 have hyes:=Sn (z:=z0) (by omega) c4 c5
 refine aa Jl ?_
 exact fo 2 (k:=by rw[hyes];first|rfl|(simp;done))
end Go.Proofs.YtjngdcldglkolaaGreatDoor
namespace Go.Proofs.YtjngdcldglkolaaGreatDoor
open Go.DL Go.Str Go.Rec Go.Cmp Go.Zon Go.Jn
set_option maxRecDepth 10000
variable [Glob Tryz.prog] [Told]
theorem zq {c c':Cnt}{w:Str}{n:Nat}(hw:w.length<=1000000) (h:nextF c w=(c',n)):PureCt Tryz.prog 93 [.agg c.d,.list false (w.map bD)] (.tuple [.agg c'.d,.i n]):=by
 have:=TU c w hw
 rwa [h] at this
theorem TL (w:Str) (hw:w.length<=1000000):PureCt Tryz.prog 92 [.list false (w.map bD)] (.tuple [.agg (wholeC w).d,.i (sumL (frs w))]):=by
 refine oO Tryz.func92 fun ff=>?_
 unfold Tryz.f92
 have z1:(none:Cnt).isSome=false:=rfl
 have z2:((none:Cnt).getD zon0).apex=[]:=rfl
 have z3:((none:Cnt).getD zon0).sets=[]:=rfl
 have ff:=qF @z1 @z2 @z3 (show zon0.apex=[] from rfl) (show zon0.sets=[] from rfl) ff
 refine oD Jl ?_
 refine ai ?_
 refine lp (α:=(Nat)×(Cnt)×(Bool)×Nat) [0,2,4] (fun ⟨a,c,f,nx⟩=>(xh w a c)/\(2<nx)/\True) (fun ⟨a,c,f,nx⟩=>w.length-a) (fun ⟨a,c,f,nx⟩=>[(5,.i a)]) (fun ⟨a,c,f,nx⟩=>[(0,⟨70,[[.v (.bool false),.v (.string (bs [])),.list true []]]⟩),(2,⟨70,[[.v (.bool (c).isSome),.v (.string (bs ((c).getD zon0).apex)),.list f (((c).getD zon0).sets.map Sgd.d)]]⟩)]) (fun ⟨a,c,f,nx⟩=>nx) (0,none,true,_) (hA:=⟨(by first|(exact K6 w)|(dsimp only;exact K6 w)),(by first|(omega)|(dsimp only;omega)),trivial⟩) (round:=?_)
 rintro⟨a,c,f,nx⟩ ⟨hd,hx, -⟩
 simp only[X0,X3]
 have ha:=hd.1
 have n0:0<nx:=by omega
 have hdm:(w.map bD).drop a=(w.drop a).map bD:=List.map_drop.symm
 have ff:=qD @hdm @hx @n0 ff
 refine ai ?_
 rcases II c (w.drop a) with⟨h8,h9⟩|⟨y,n,h8,h9,h10,h11⟩
 .
  have ff:=qA @h9 ff;refine aa JlF ?_ (hok:=oH (zq (by rw[Yi];omega) h9))
  refine ae ?_;refine aa Jl ?_;refine cd (fun c1=>?_) (fun c1=>?_) (hp:=rfl) (hq:=rfl)
  .
   refine aa Jl ?_;exact fo 2 (k:=by obtain⟨q1,q2⟩:=VX hd h8;rw[q1,q2])
  simp at c1
 have h12:a+n<=w.length:=by rw[Yi] at h11;omega
 have ff:=qA @h9 ff
 refine aa JlF ?_ (hok:=oH (zq (by rw[Yi];omega) h9))
 refine oK Jl (fun c1=>?_) (fun c1=>?_) (hp:=rfl) (hq:=rfl)
 .
  exfalso;simp at c1;omega
 refine ah Jl ?_
 show ∃ _,_
 have e9:((a+n:Nat):Int)=(a:Int)+(n:Int):=by omega
 have ff:=qA e9 ff
 exact ak (a+n,some y,false,_) (h1:=⟨(by first|(exact K5 hd h8)|(dsimp only;exact K5 hd h8)),(by first|(omega)|(dsimp only;omega)),trivial⟩) (h2:=by show (_:Nat)<_;(try dsimp only);omega)
theorem Ju (d:Dsk) (hd:DskSz d):PureCt Tryz.prog 36 [.agg d.d] (.tuple [.agg (opnOf d).d,.b (openF d).isSome]):=by
 refine oO Tryz.func36 fun ff=>?_
 unfold Tryz.f36
 refine aa Jl ?_
 refine oK Jl (fun c1=>?_) (fun c1=>?_)
 .
  have hno:=Ii (d:=d) (by omega)
  refine aa Jl ?_;exact fo 2 (k:=by rw[opnOf,hno];first|rfl|(simp;done))
 have hs1:d.safe.length<=1000000:=by omega
 have hp1:d.pend.length<=200:=by omega
 have hsm:sumL (frs d.safe)<=d.safe.length:=uu _ none d.safe (XX _)
 have htm:(d.safe.map bD).take (sumL (frs d.safe))=(partB d.safe).map bD:=ZT.symm
 have hpl:=rF d.safe
 have ff:=qA @htm ff
 refine aa Jl ?_ (hok:=oF (TL d.safe hs1))
 refine aa Jl ?_
 refine ae ?_
 refine aa Jl ?_
 refine ai ?_
 refine lp (α:=(Nat)×(Cnt)×(Int)×Nat) [2,6,37,38] (fun ⟨k,c,s,nx⟩=>(k<=d.pend.length)/\(rE (wholeC d.safe) d.pend k=some c)/\(s=(((partB d.safe).length:Nat):Int)+(((catB (d.pend.take k)).length:Nat):Int))/\(30<nx)/\True) (fun ⟨k,c,s,nx⟩=>d.pend.length-k) (fun ⟨k,c,s,nx⟩=>[(39,.i k)]) (fun ⟨k,c,s,nx⟩=>[(0,⟨25,[d.d]⟩),(1,⟨72,[[.list true [],.i 0,.v (.bool false),.v (.string (bs [])),.list true [],.v (.bool false),.v (.string (bs [])),.list true []]]⟩),(30,⟨72,[[.list false ((partB d.safe).map bD),.i s,.v (.bool (wholeC d.safe).isSome),.v (.string (bs ((wholeC d.safe).getD zon0).apex)),.list false (((wholeC d.safe).getD zon0).sets.map Sgd.d),.v (.bool (c).isSome),.v (.string (bs ((c).getD zon0).apex)),.list false (((c).getD zon0).sets.map Sgd.d)]]⟩)]) (fun ⟨k,c,s,nx⟩=>nx) (0,wholeC d.safe,(sumL (frs d.safe):Int),_) (hA:=⟨iv,rfl,(by first|(rw[rF];simp[catB])|(dsimp only;rw[rF];simp[catB])),iv,trivial⟩) (round:=?_)
 rintro⟨k,c,s,nx⟩ ⟨hk,hK,hs,hx, -⟩
 simp only[X0,X3]
 have n0:0<nx:=by omega
 have n1:1<nx:=by omega
 have ff:=qD @hx @n0 @n1 ff
 refine aa Jl ?_
 refine ae ?_
 refine cd (fun c2=>?_) (fun c2=>?_) (hp:=rfl)
 .
  have hk2:k<d.pend.length:=by simpa using c2
  have hpk:=hd.at hk2;have hcs:=sK hk2;have hc1:=wW hd (k+1) hp1;have ff:=qA (lg hk2) ff;refine dw_skip ?_;refine ae ?_;refine ai ?_;refine aa Jl ?_
  rcases II c (d.pend[k]!) with⟨h8,h9⟩|⟨y,n,h8,h9,h10,h11⟩
  .
   have ff:=qA @h9 ff;refine aa Jl ?_ (hok:=oF (zq hpk h9));refine ae ?_;refine aa Jl ?_;refine cd (fun c3=>?_) (fun c3=>?_) (hp:=rfl) (hq:=rfl)
   .
    have hst:=BX hK hk2;rw[h9,XZ (by simp)] at hst
    have hno:=Ih (H5 hst);refine aa Jl ?_;exact fo 2 (k:=by rw[opnOf,hno];first|rfl|(simp;done))
   simp at c3
  have ff:=qA @h9 ff;refine aa Jl ?_ (hok:=oF (zq hpk h9));refine oK Jl (fun c3=>?_) (fun c3=>?_)
  .
   have hst:=BX hK hk2;rw[h9,if_neg (by dsimp only;omega)] at hst
   have hno:=Ih (H5 hst);refine aa Jl ?_;exact fo 2 (k:=by rw[opnOf,hno];first|rfl|(simp;done))
  have hn2:n=d.pend[k]!.length:=by omega
  have hst:=BX hK hk2;rw[h9,if_pos (by dsimp only;omega)] at hst
  refine aa Jl ?_;refine ah Jl ?_;refine ah Jl ?_
  show ∃ _,_
  exact ak (k+1,some y,s+n,_) (h1:=⟨iv,(by first|(exact hst)|(dsimp only;exact hst)),(by first|(rw[hs,hcs];omega)|(dsimp only;rw[hs,hcs];omega)),iv,trivial⟩)
 have e8:k=d.pend.length:=by omega
 subst e8
 have hyes:=RY hs1 hp1 (Rx ▸ hK)
 refine aB ?_
 refine aa Jl ?_
 exact fo 2 (k:=by rw[opnOf,hyes,hs,YB];first|rfl|(simp;done))
end Go.Proofs.YtjngdcldglkolaaGreatDoor
namespace Go.Proofs.YtjngdcldglkolaaGreatDoor
open Go.DL Go.Str Go.Rec Go.Cmp Go.Zon Go.Jn Go.Jn
set_option maxRecDepth 10000
variable [Glob Tryz.prog] [Told]
theorem FH {g:RSig}(h:AA g):(dU g).length<=300:=by
 have:=h.zone
 simp[dU,aQ,eu]
 omega
theorem FO {s:Sgd}(h:pg s):(bK s).length<=80000:=by
 have h1:=yf h.set
 have h2:=flat_len (f:=dU) (n:=300) (l:=s.sigs) fun g hg=>FH (h.sig g hg)
 have h3:=h.len
 simp[bK,bZ] at h2 ⊢
 omega
theorem VR {a b c d:Int}{j:Nat}(h:j<4):([a,b,c,d].drop j).flatMap aT=aT ([a,b,c,d][j]!)++([a,b,c,d].drop (j+1)).flatMap aT:=wN (by simpa using h) aT
theorem EB (T:TypeId) (l:Str) (s:Sgd) (h:H) (n W:Nat) (hB:BufG T h W n l 0) (hs:pg s) (hl:l.length<=700000000000):RCt Tryz.prog 83 [.mptr W 0 0,.agg s.d] h n (fun d h' n'=>BStep h h' W n n'/\BufG T h' W n' (l++bK s) 0):=by
 refine oP Tryz.func83 fun hnone ff=>?_
 unfold Tryz.f83
 have hWn:=hB.1
 have hb1:bytesF s.set=(setB s.set,0):=by unfold bytesF;rw[(eO s.set).2 hs.set];rfl
 have hsl:=yf hs.set
 have hsg:=hs.len
 have e1:=pK (n:=(setB s.set).length) (by omega)
 have e2:=pK (n:=s.sigs.length) (by omega)
 have ff:=qE @hb1 @e1 @e2 (nG W n) ff
 refine aa Jl ?_
 refine sI 3 n ev ev (by simp[go_sem,aW,D.nr,aR]) ?_
 simp only[kJ]
 refine aa Jl ?_ (hok:=oV (QO s.set))
 refine ae (aA Jl 4 (hct:=by exact uL T l (setB s.set).length 2 _ _ W (hB.fresh (show n<=n from XX _) oW) om om om) (hk:=?_))
 rintro res h2 n2 ⟨hst2,hG2⟩
 try dsimp only at hst2
 replace hst2:=(BStep.fresh (x:=none) hWn (XX n) (XX n)).trans (hst2.down oW)
 refine az Jl ?_
 refine ae (aA Jl 4 (hct:=by exact u6 T _ (setB s.set) _ _ W (hG2.mono oW) (by rw[XY,bZ];omega)) (hk:=?_))
 rintro res h3 n3 ⟨rfl,hst3,hG3⟩
 try dsimp only at hst3
 replace hst3:=hst2.trans (hst3.down oW)
 refine az Jl ?_
 refine ae (aA Jl 5 (hct:=by exact uL T _ s.sigs.length 1 _ _ W (hG3.mono oW) (by omega) (by omega) (by rw[XY,XY,bZ];omega)) (hk:=?_))
 rintro res h4 n4 ⟨hst4,hG4⟩
 try dsimp only at hst4
 replace hst4:=hst3.trans (hst4.down oW)
 refine az Jl ?_
 refine aa Jl ?_
 refine ai ?_
 refine eF (α:=(Nat)×(Str)×(H)×Nat) [0,33,34] (fun ⟨k,o,hq,nx⟩=>(k<=s.sigs.length)/\(o++(s.sigs.drop k).flatMap dU=l++bK s)/\(o.length<=l.length+1100+k*300)/\(BufG T hq W nx o 0)/\(BStep h hq W n nx)/\True) (fun ⟨k,o,hq,nx⟩=>s.sigs.length-k) (fun ⟨k,o,hq,nx⟩=>[(35,.i k)]) (fun ⟨k,o,hq,nx⟩=>hq) (fun ⟨k,o,hq,nx⟩=>nx) (0,l++bB (setB s.set).length 2++setB s.set++bB s.sigs.length 1,h4,_) (hA:=⟨iv,(by first|(rw[Au];simp[bK])|(dsimp only;rw[Au];simp[bK])),(by first|(simp[bZ];omega)|(dsimp only;simp[bZ];omega)),(by first|(exact hG4.mono (by omega))|(dsimp only;exact hG4.mono (by omega))),(by first|(exact hst4.up (by omega))|(dsimp only;exact hst4.up (by omega))),trivial⟩) (round:=?_)
 rintro⟨k,o,hq,nx⟩ ⟨hk,ho,hol,hG,hst, -⟩
 simp only[X0,X3]
 refine aa Jl ?_
 refine ae ?_
 refine cd (fun c1=>?_) (fun c1=>?_)
 .
  have hk2:k<s.sigs.length:=by omega
  have hgz:=hs.sig _ (by rw[getElem!_pos s.sigs k hk2];exact YD hk2:s.sigs[k]! ∈ s.sigs)
  have hgl:=hgz.zone;have hgs:=hgz.sum;have e3:=NI hgs;have e4:=FH hgz;have ff:=qA (oG hk2) ff;refine dw_skip ?_;refine ae ?_;refine ai ?_;refine aa Jl ?_;refine sI 7 (nx+3) ev ev (by simp[go_sem,aW,D.nr,aR]) ?_
  simp only[kJ];refine ae (aA Jl 3 (hct:=by exact xy T o s.sigs[k]!.zone _ _ W (hG.fresh (show nx<=nx+3 by omega) oW) om om) (hk:=?_))
  rintro res h5 n5 ⟨hst5,hG5⟩
  try dsimp only at hst5
  replace hst5:=(BStep.fresh (x:=none) hG.1 (show nx<=nx+3 by omega) (XX nx)).trans (hst5.down oW)
  refine az Jl ?_;refine ae ?_;refine aa Jl ?_;refine ai ?_;refine eF (α:=(Nat)×(Str)×(H)×Nat) [0,7,33,34,35,51,52] (fun ⟨j,o2,hq2,nx⟩=>(j<=4)/\(o2++([s.sigs[k]!.key,s.sigs[k]!.alg,s.sigs[k]!.frm,s.sigs[k]!.unt].drop j).flatMap aT=o++aQ s.sigs[k]!.zone++[s.sigs[k]!.key,s.sigs[k]!.alg,s.sigs[k]!.frm,s.sigs[k]!.unt].flatMap aT)/\(o2.length=(o++aQ s.sigs[k]!.zone).length+8*j)/\(BufG T hq2 W nx o2 0)/\(BStep h5 hq2 W n5 nx)/\True) (fun ⟨j,o2,hq2,nx⟩=>4-j) (fun ⟨j,o2,hq2,nx⟩=>[(53,.i j)]) (fun ⟨j,o2,hq2,nx⟩=>hq2) (fun ⟨j,o2,hq2,nx⟩=>nx) (0,o++aQ s.sigs[k]!.zone,h5,_) (hA:=⟨iv,rfl,rfl,(by first|(exact hG5.mono om)|(dsimp only;exact hG5.mono om)),(by first|(exact BStep.refl om)|(dsimp only;exact BStep.refl om)),trivial⟩) (round:=?_)
  rintro⟨j,o2,hq2,nx⟩ ⟨hj,ho2,hol2,hG7,hst7, -⟩;simp only[X0,X3];have htl:(o++aQ s.sigs[k]!.zone).length<=o.length+300:=by rw[XY,jB];omega
  refine aa Jl ?_;refine ae ?_;refine cd (fun c2=>?_) (fun c2=>?_)
  .
   have hj2:j<4:=by omega
   have e6:=R7 (a:=s.sigs[k]!.key) (b:=s.sigs[k]!.alg) (c:=s.sigs[k]!.frm) (d:=s.sigs[k]!.unt) hj2;have e7:=xC ([s.sigs[k]!.key,s.sigs[k]!.alg,s.sigs[k]!.frm,s.sigs[k]!.unt][j]!);have e8:=VR (a:=s.sigs[k]!.key) (b:=s.sigs[k]!.alg) (c:=s.sigs[k]!.frm) (d:=s.sigs[k]!.unt) hj2;have ff:=qB @e6 @e7 ff;refine dw_skip ?_;refine ae ?_;refine ai ?_;refine aa Jl ?_;refine aA Jl 3 (hct:=by exact sZ T o2 (uN ([s.sigs[k]!.key,s.sigs[k]!.alg,s.sigs[k]!.frm,s.sigs[k]!.unt][j]!)) _ _ W (hG7.mono oW) (pJ _) om) (hk:=?_)
   rintro res h8 n8 ⟨hst8,hG8⟩
   try dsimp only at hst8
   refine az Jl ?_;refine ah Jl ?_
   show ∃ _,_
   exact ak (j+1,o2++aT ([s.sigs[k]!.key,s.sigs[k]!.alg,s.sigs[k]!.frm,s.sigs[k]!.unt][j]!),h8,_) (h1:=⟨iv,(by (try dsimp only);rw[<- ho2,e8,List.append_assoc]),(by (try dsimp only);rw[List.length_append,eu,hol2];omega),(by first|(exact hG8.mono (by omega))|(dsimp only;exact hG8.mono (by omega))),(by (try dsimp only);exact (hst7.trans (hst8.down oW)).up (by omega)),trivial⟩)
  obtain rfl:j=4:=by omega
  have ho3:o2=o++aQ s.sigs[k]!.zone++[s.sigs[k]!.key,s.sigs[k]!.alg,s.sigs[k]!.frm,s.sigs[k]!.unt].flatMap aT:=by simpa using ho2
  refine aB ?_;refine aA Jl 3 (hct:=by exact (by have q9:=fun H9 n9 (hB9:BufG T H9 W n9 o2 0)=>sZ T o2 (uN s.sigs[k]!.sum) H9 n9 W hB9 (pJ _) (by omega);simp only[e3] at q9;exact q9 _ _ (hG7.mono oW))) (hk:=?_)
  rintro res h9 n9 ⟨hst9,hG9⟩
  try dsimp only at hst9
  refine az Jl ?_;refine ah Jl ?_
  show ∃ _,_
  exact ak (k+1,o2++aT s.sigs[k]!.sum,h9,_) (h1:=⟨iv,(by (try dsimp only);rw[<- ho,wN hk2 dU,ho3];simp[dU]),(by (try dsimp only);rw[ho3];simp[dU] at e4 ⊢;omega),(by first|(exact hG9.mono (by omega))|(dsimp only;exact hG9.mono (by omega))),(by (try dsimp only);exact ((hst.trans hst5).trans (hst7.trans (hst9.down oW))).up (by omega)),trivial⟩)
 have hk3:k=s.sigs.length:=by omega
 subst hk3
 refine aB ?_
 exact bu (_) (hh:=fun _=>.inl rfl) (hr:=oS (k:=by rw[ZG,List.flatMap_nil,Yy] at ho;rw[<- ho];exact⟨hst.up (by omega),hG.mono (by omega)⟩))
end Go.Proofs.YtjngdcldglkolaaGreatDoor
namespace Go.Proofs.YtjngdcldglkolaaGreatDoor
open Go.DL Go.Str Go.Rec Go.Cmp Go.Zon Go.Jn
set_option maxRecDepth 10000
variable [Glob Tryz.prog] [Told]
theorem BufG.new {T:TypeId}{h:H}{W nx:Nat}(hW:h W=some ⟨T,[[.list true [],.i 0,.v (.int .i8 0)]]⟩) (hn:W<nx):BufG T h W nx [] 0:=⟨hn,.inl ⟨rfl,0,hW⟩⟩
theorem xS {h:H}(l:Str):bV (l.map ((fun row=>row.map (bL h 0)) ∘ bD))=l.map bD:=by
 induction l with
 | nil=>rfl
 | cons a l ih =>
  rw[X9,X9]
  show _::bV _=_
  rw[ih];rfl
theorem xU {h:H}(l:Str):∀ a∈l,∀ c∈bD a,cK h 0 c:=by
 intro a _ c hc
 unfold bD at hc
 simp only[Yq] at hc
 subst hc
 rfl
theorem Nc (z:Zon):0<(zonB z).length:=by simp[zonB,aQ]
theorem V8 (d:Dlt):0<(dltB d).length:=by simp[dltB,aQ]
theorem wD {res:D}{l:Str}{h:H}{W:Nat}(hd:(l=[]/\res = .list true [])\/(l≠[] /\ ∃ r,res = .mrow r 0 l.length/\h r=some ⟨5,l.map bD⟩/\fK h W=some r)) (hl:0<l.length):∃ r,res = .mrow r 0 l.length/\h r=some ⟨5,l.map bD⟩/\fK h W=some r:=by
 rcases hd with⟨e,_⟩|⟨_,q⟩
 .
  subst e;simp at hl
 exact q
theorem Q0 {q:Qst}(h:xe q):(gq q).length<=300:=by
 have:=h.name
 simp[gq,aQ]
 omega
theorem TJ (z:Zon) (hz:w9 z) (hz2:z.sets.length<=20000):PureCt Tryz.prog 33 [.agg z.d] (.list false ((zonB z).map bD)):=by
 refine oO Tryz.func33 fun ff=>?_
 unfold Tryz.f33
 have hza:=hz.apex
 refine aa Jl ?_
 refine sI 1 0 ev ev (by simp[go_sem,aW,D.nr,aR]) ?_
 refine aa Jl ?_
 refine ae (aA Jl 2 (hct:=by exact xy 123 [] z.apex _ _ 2 (BufG.new (by simp only[go_sem,ff];first|done|rfl) oW) om (by simp)) (hk:=?_))
 rintro res h2 n2 ⟨_,hG2⟩
 refine az Jl ?_
 refine ae (aA Jl 3 (hct:=by exact xA 123 _ z.sets.length _ _ 2 (hG2.mono oW) om (by simp only[XY,bZ,eu,jB,YW];omega)) (hk:=?_))
 rintro res h3 n3 ⟨_,hG3⟩
 refine az Jl ?_
 refine ae ?_
 refine aa Jl ?_
 refine ai ?_
 refine eF (α:=(Nat)×(Str)×(H)×Nat) [3,14,15] (fun ⟨k,o,hq,nx⟩=>(k<=z.sets.length)/\(o++(z.sets.drop k).flatMap bK=zonB z)/\(o.length<=1000+k*80000)/\(BufG 123 hq 2 nx o 0)/\True) (fun ⟨k,o,hq,nx⟩=>z.sets.length-k) (fun ⟨k,o,hq,nx⟩=>[(16,.i k)]) (fun ⟨k,o,hq,nx⟩=>hq) (fun ⟨k,o,hq,nx⟩=>nx) (0,[]++aQ z.apex++bB z.sets.length 4,h3,_) (hA:=⟨iv,(by first|(simp[zonB,eH])|(dsimp only;simp[zonB,eH])),(by (try dsimp only);simp only[List.length_append,bZ,jB,List.length_nil];omega),(by first|(exact hG3.mono om)|(dsimp only;exact hG3.mono om)),trivial⟩) (round:=?_)
 rintro⟨k,o,hq,nx⟩ ⟨hk,ho,hol,hG, -⟩
 simp only[X0,X3]
 refine aa Jl ?_
 refine ae ?_
 refine cd (fun c1=>?_) (fun c1=>?_)
 .
  have hk2:k<z.sets.length:=by omega
  have hgz:=hz.sets _ (by rw[getElem!_pos z.sets k hk2];exact YD hk2:z.sets[k]! ∈ z.sets)
  have hgl:=FO hgz;have ff:=qA (bI hk2) ff;refine dw_skip ?_;refine ae ?_;refine ai ?_;refine aa Jl ?_;refine sI 5 (nx+3) ev ev (by simp[go_sem,aW,D.nr,aR]) ?_
  simp only[kJ];refine aA Jl 1 (hct:=by exact EB 123 o z.sets[k]! _ _ 2 (hG.fresh (show nx<=nx+3 by omega) oW) hgz om) (hk:=?_)
  rintro res h5 n5 ⟨hst5,hG5⟩
  try dsimp only at hst5
  replace hst5:=(BStep.fresh (x:=none) hG.1 (show nx<=nx+3 by omega) (XX nx)).trans (hst5.down oW)
  refine az Jl ?_;refine ah Jl ?_
  show ∃ _,_
  exact ak (k+1,o++bK z.sets[k]!,h5,_) (h1:=⟨iv,(by (try dsimp only);rw[<- ho,wN hk2 bK,List.append_assoc]),(by (try dsimp only);rw[List.length_append];omega),(by first|(exact hG5.mono (by omega))|(dsimp only;exact hG5.mono (by omega))),trivial⟩)
 have hk3:k=z.sets.length:=by omega
 subst hk3
 have hoz:o=zonB z:=by rw[ZG,List.flatMap_nil,Yy] at ho;exact ho
 refine aB ?_
 refine ae (aA Jl 1 (hct:=by exact uO 123 (zonB z) _ _ 2 ((show BufG 123 hq 2 nx (zonB z) 0 by rw[<- hoz];exact hG).mono oW) (by rw[<- hoz];omega)) (hk:=?_))
 rintro res h9 n9 ⟨hd,_,_⟩
 obtain⟨r,rfl,hr,_⟩:=wD hd (by exact Nc z)
 have ff:=qA @hr ff
 refine az Jl ?_
 exact fo 1 (k:=by first|rfl|(simp;done)|exact xS _|exact xU _)
theorem TY (d:Dlt) (hz:sP d) (hz2:d.put.length<=20000) (hz3:d.drop.length<=20000):PureCt Tryz.prog 38 [.agg d.d] (.list false ((dltB d).map bD)):=by
 refine oO Tryz.func38 fun ff=>?_
 unfold Tryz.f38
 have hza:=hz.apex
 have e1:=xC d.frm
 have e2:=xC d.too
 have ff:=qB @e1 @e2 ff
 refine aa Jl ?_
 refine sI 1 0 ev ev (by simp[go_sem,aW,D.nr,aR]) ?_
 refine aa Jl ?_
 refine ae (aA Jl 2 (hct:=by exact xy 123 [] d.apex _ _ 2 (BufG.new (by simp only[go_sem,ff];first|done|rfl) oW) om (by simp)) (hk:=?_))
 rintro res h2 n2 ⟨_,hG2⟩
 refine az Jl ?_
 refine ae (aA Jl 3 (hct:=by exact sZ 123 _ (uN d.frm) _ _ 2 (hG2.mono oW) (pJ _) (by simp only[XY,bZ,eu,jB,YW];omega)) (hk:=?_))
 rintro res h3 n3 ⟨_,hG3⟩
 refine az Jl ?_
 refine ae (aA Jl 3 (hct:=by exact sZ 123 _ (uN d.too) _ _ 2 (hG3.mono oW) (pJ _) (by simp only[XY,bZ,eu,jB,YW];omega)) (hk:=?_))
 rintro res h4 n4 ⟨_,hG4⟩
 refine az Jl ?_
 refine ae (aA Jl 3 (hct:=by exact xA 123 _ d.drop.length _ _ 2 (hG4.mono oW) om (by simp only[XY,bZ,eu,jB,YW];omega)) (hk:=?_))
 rintro res h5 n5 ⟨_,hG5⟩
 refine az Jl ?_
 refine ae ?_
 refine aa Jl ?_
 refine ai ?_
 refine eF (α:=(Nat)×(Str)×(H)×Nat) [1,3,24,25] (fun ⟨k,o,hq,nx⟩=>(k<=d.drop.length)/\(o++(d.drop.drop k).flatMap gq++eH d.put=dltB d)/\(o.length<=1000+k*300)/\(BufG 123 hq 2 nx o 0)/\True) (fun ⟨k,o,hq,nx⟩=>d.drop.length-k) (fun ⟨k,o,hq,nx⟩=>[(26,.i k)]) (fun ⟨k,o,hq,nx⟩=>hq) (fun ⟨k,o,hq,nx⟩=>nx) (0,[]++aQ d.apex++bB (uN d.frm) 8++bB (uN d.too) 8++bB d.drop.length 4,h5,_) (hA:=⟨iv,(by (try dsimp only);rw[Mx,Mx];simp[dltB]),(by (try dsimp only);simp only[List.length_append,bZ,jB,List.length_nil];omega),(by first|(exact hG5.mono (by omega))|(dsimp only;exact hG5.mono (by omega))),trivial⟩) (round:=?_)
 rintro⟨k,o,hq,nx⟩ ⟨hk,ho,hol,hG, -⟩
 simp only[X0,X3]
 refine aa Jl ?_
 refine ae ?_
 refine cd (fun c1=>?_) (fun c1=>?_)
 .
  have hk2:k<d.drop.length:=by omega
  have hgz:=hz.dropq _ (by rw[getElem!_pos d.drop k hk2];exact YD hk2:d.drop[k]! ∈ d.drop)
  have hgn:=hgz.name;have hgl:=Q0 hgz;have e3:=xC d.drop[k]!.ty;have ff:=qB (sD hk2) @e3 ff;refine dw_skip ?_;refine ae ?_;refine ai ?_;refine aa Jl ?_;refine sI 5 (nx+3) ev ev (by simp[go_sem,aW,D.nr,aR]) ?_
  simp only[kJ];refine ae (aA Jl 2 (hct:=by exact xy 123 o d.drop[k]!.name _ _ 2 (hG.fresh (show nx<=nx+3 by omega) oW) om om) (hk:=?_))
  rintro res h6 n6 ⟨_,hG6⟩;refine az Jl ?_;refine aA Jl 3 (hct:=by exact uL 123 _ (uN d.drop[k]!.ty) 1 _ _ 2 (hG6.mono oW) (pJ _) (by omega) (by rw[XY,jB];omega)) (hk:=?_)
  rintro res h7 n7 ⟨_,hG7⟩;refine az Jl ?_;refine ah Jl ?_
  show ∃ _,_
  exact ak (k+1,o++aQ d.drop[k]!.name++bB (uN d.drop[k]!.ty) 1,h7,_) (h1:=⟨iv,(by (try dsimp only);rw[<- ho,wN hk2 gq];simp[gq,bB]),(by (try dsimp only);simp[gq,bZ,aQ] at hgl ⊢;omega),(by first|(exact hG7.mono (by omega))|(dsimp only;exact hG7.mono (by omega))),trivial⟩)
 have hk3:k=d.drop.length:=by omega
 subst hk3
 refine aB ?_
 refine ae (aA Jl 3 (hct:=by exact xA 123 o d.put.length _ _ 2 (hG.mono oW) om om) (hk:=?_))
 rintro res h8 n8 ⟨_,hG8⟩
 refine az Jl ?_
 refine ae ?_
 refine aa Jl ?_
 refine ai ?_
 refine eF (α:=(Nat)×(Str)×(H)×Nat) [3,43,44] (fun ⟨k,o,hq,nx⟩=>(k<=d.put.length)/\(o++(d.put.drop k).flatMap bK=dltB d)/\(o.length<=10000000+k*80000)/\(BufG 123 hq 2 nx o 0)/\True) (fun ⟨k,o,hq,nx⟩=>d.put.length-k) (fun ⟨k,o,hq,nx⟩=>[(45,.i k)]) (fun ⟨k,o,hq,nx⟩=>hq) (fun ⟨k,o,hq,nx⟩=>nx) (0,o++bB d.put.length 4,h8,_) (hA:=⟨iv,(by (try dsimp only);rw[List.drop_length,List.flatMap_nil,List.append_nil] at ho;rw[<- ho];simp[eH]),(by (try dsimp only);rw[List.length_append,bZ];omega),(by first|(exact hG8.mono (by omega))|(dsimp only;exact hG8.mono (by omega))),trivial⟩) (round:=?_)
 rintro⟨k,o,hq,nx⟩ ⟨hk,ho,hol,hG, -⟩
 simp only[X0,X3]
 refine aa Jl ?_
 refine ae ?_
 refine cd (fun c2=>?_) (fun c2=>?_)
 .
  have hk2:k<d.put.length:=by omega
  have hgz:=hz.puts _ (by rw[getElem!_pos d.put k hk2];exact YD hk2:d.put[k]! ∈ d.put)
  have hgl:=FO hgz;have ff:=qA (bI hk2) ff;refine dw_skip ?_;refine ae ?_;refine ai ?_;refine aa Jl ?_;refine sI 7 (nx+3) ev ev (by simp[go_sem,aW,D.nr,aR]) ?_
  simp only[kJ];refine aA Jl 1 (hct:=by exact EB 123 o d.put[k]! _ _ 2 (hG.fresh (show nx<=nx+3 by omega) oW) hgz om) (hk:=?_)
  rintro res h5 n5 ⟨hst5,hG5⟩
  try dsimp only at hst5
  replace hst5:=(BStep.fresh (x:=none) hG.1 (show nx<=nx+3 by omega) (XX nx)).trans (hst5.down oW)
  refine az Jl ?_;refine ah Jl ?_
  show ∃ _,_
  exact ak (k+1,o++bK d.put[k]!,h5,_) (h1:=⟨iv,(by (try dsimp only);rw[<- ho,wN hk2 bK,List.append_assoc]),(by (try dsimp only);rw[List.length_append];omega),(by first|(exact hG5.mono (by omega))|(dsimp only;exact hG5.mono (by omega))),trivial⟩)
 have hk3:k=d.put.length:=by omega
 subst hk3
 have hoz:o=dltB d:=by rw[ZG,List.flatMap_nil,Yy] at ho;exact ho
 refine aB ?_
 refine ae (aA Jl 1 (hct:=by exact uO 123 (dltB d) _ _ 2 ((show BufG 123 hq 2 nx (dltB d) 0 by rw[<- hoz];exact hG).mono oW) (by rw[<- hoz];omega)) (hk:=?_))
 rintro res h9 n9 ⟨hd,_,_⟩
 obtain⟨r,rfl,hr,_⟩:=wD hd (by exact V8 d)
 have ff:=qA @hr ff
 refine az Jl ?_
 exact fo 1 (k:=by first|rfl|(simp;done)|exact xS _|exact xU _)
theorem JB (k:UInt8) (w:Str) (hw:w.length<=4000000000):PureCt Tryz.prog 32 [.v (.int .u8 ((k).toNat:Int)),.list false (w.map bD)] (.list false ((frmB k w).map bD)):=by
 refine oO Tryz.func32 fun ff=>?_
 unfold Tryz.f32
 refine oC Jl ?_
 refine ae (aA Jl 2 (hct:=by exact EI 123 [] k _ _ 1 (BufG.new (by simp only[go_sem,ff];first|done|rfl) oW) (by simp)) (hk:=?_))
 rintro res h2 n2 ⟨rfl,_,hG2⟩
 refine az Jl ?_
 refine ae (aA Jl 2 (hct:=by exact xA 123 _ w.length _ _ 1 (hG2.mono oW) om (by simp)) (hk:=?_))
 rintro res h3 n3 ⟨_,hG3⟩
 have hG3:BufG 123 h3 1 n3 (jN k w.length) 0:=hG3
 have hhl:(jN k w.length).length=5:=by simp[jN,bZ]
 refine az Jl ?_
 refine bf ?_
 refine nJ (C:=Jl) 1 (R:=_) om (bN rfl) rfl rfl (by simp only[Yf,X8,Ya,Yj,S.put,YC,Nat.reduceSub,go_sem,ff];first|done|exact rfl) ?_ ?_ ev (by simp only[go_sem,ff]) ev (by exact uO 123 (jN k w.length) _ _ 1 (hG3.mono oW) om) ?_
 .
  try simp only[go_sem,ff]
  all_goals (exact ok0)
 .
  try simp only[go_sem,ff]
  all_goals (first|done|rfl|decide|simp)
 rintro res h4 n4 ⟨hd,_,hG4⟩
 obtain⟨r4,rfl,hr4,_⟩:=wD hd om
 have ff:=qA hr4 ff
 refine nJ (C:=Jl) 3 (R:=_) om (bN rfl) rfl rfl (by simp only[Yf,X8,Ya,Yj,S.put,YC,Nat.reduceSub,go_sem,ff];first|done|exact rfl) ?_ ?_ ev (by simp only[go_sem,ff]) ev (by exact sZ 123 _ (dig (jN k w.length)) _ _ 1 (hG4.mono oW) (uE _) om) ?_
 .
  try simp only[go_sem,ff]
  all_goals (first|exact ok0|exact zu _ om)
 .
  try simp only[go_sem,ff]
  all_goals (first|done|rfl|decide|simp)
 rintro res h5 n5 ⟨_,hG5⟩
 refine aN Jl ?_
 try simp only[aF]
 refine ae (aA Jl 2 (hct:=by exact u6 123 _ w _ _ 1 (hG5.mono oW) (by rw[XY,bZ];omega)) (hk:=?_))
 rintro res h6 n6 ⟨rfl,_,hG6⟩
 refine az Jl ?_
 refine ae (aA Jl 2 (hok:=by (try simp only[go_sem,ff]);all_goals (first|exact ok0|exact zu _ (by omega))) (hct:=by exact sZ 123 _ (dig w) _ _ 1 (hG6.mono oW) (uE _) (by rw[XY,XY,bZ];omega)) (hk:=?_))
 rintro res h7 n7 ⟨_,hG7⟩
 have hG7:BufG 123 h7 1 n7 (frmB k w) 0:=hG7
 refine az Jl ?_
 refine ae (aA Jl 1 (hct:=by exact uO 123 (frmB k w) _ _ 1 (hG7.mono oW) (by rw[lh];omega)) (hk:=?_))
 rintro res h9 n9 ⟨hd,_,_⟩
 obtain⟨r,rfl,hr,_⟩:=wD hd (by rw[lh];omega)
 have ff:=qA @hr ff
 refine az Jl ?_
 exact fo 1 (k:=by first|rfl|(simp;done)|exact xS _|exact xU _)
end Go.Proofs.YtjngdcldglkolaaGreatDoor
namespace Go.Proofs.YtjngdcldglkolaaGreatDoor
open Go.DL Go.Str Go.Rec Go.Cmp Go.Zon Go.Jn
set_option maxRecDepth 10000
variable [Glob Tryz.prog] [Told]
theorem BR {l:List Str}{p:Str}:(l++[p]).map byR=l.map byR++[[.list false (p.map bD)]]:=by simp[byR]
theorem vR {d:Dsk}{o:Opn}(h:openF d=some o):opnOf d=o:=by unfold opnOf;rw[h];rfl
theorem vS {d:Dsk}(h:openF d=none):opnOf d=opn0:=by unfold opnOf;rw[h];rfl
theorem qo {d:Dsk}{o:Opn}(hd:DskSz d) (h:openF d=some o):PureCt Tryz.prog 36 [.agg d.d] (.tuple [.agg o.d,.b true]):=by
 have:=Ju d hd
 rwa [vR h,h] at this
theorem qw {d:Dsk}(hd:DskSz d) (h:openF d=none):PureCt Tryz.prog 36 [.agg d.d] (.tuple [.agg opn0.d,.b false]):=by
 have:=Ju d hd
 rwa [vS h,h] at this
theorem TW (w:Str) (hw:w.length<=4000000000):PureCt Tryz.prog 32 [.v (.int .u8 1),.list false (w.map bD)] (.list false ((frmB 1 w).map bD)):=JB 1 w hw
theorem TV (w:Str) (hw:w.length<=4000000000):PureCt Tryz.prog 32 [.v (.int .u8 2),.list false (w.map bD)] (.list false ((frmB 2 w).map bD)):=JB 2 w hw
theorem WA {z:Zon}{d:Dlt}{x:Zon}{e:Int}(hp:dY d.put) (h:applyP z d=(x,e)):PureCt Tryz.prog 27 [.agg z.d,.agg d.d] (.tuple [.agg x.d,.i e]):=by
 have:=uF z d hp
 rwa [h] at this
theorem bo94:bY Tryz.prog 94=true:=by kernel_rfl
theorem Lb (d:Dlt):PureCt Tryz.prog 94 [.agg d.d,.agg d.d] (.tuple [.agg (joinP d d).1.d,.i (joinP d d).2]):=by
 refine Hq Tryz.func94 rfl bo94 (by simp[go_sem,D.nr,aW,aR]) (by simp[Tryz.f94]) ?_
 unfold Tryz.f94
 simp only[Uu]
 have ff:=True.intro
 refine aa Jl ?_
 refine ae ?_
 rcases hd:dltOk d with _|_
 .
  have hj:=Jw hd;have ff:=qB @hj @hd ff;refine aa Jl ?_ (hok:=by (try simp only[go_sem,ff]);all_goals (first|done|((repeat' (with_reducible apply And.intro))<;>first|(have q9:=uD d;rw[hd] at q9;exact q9)|(intros;have q9:=uD d;rw[hd] at q9;exact q9)|skip)))
  refine cd (fun c1=>?_) (fun c1=>?_) (hp:=rfl) (hq:=rfl)
  .
   refine aa Jl ?_;refine aO ?_;exact fin 3 (hr:=by (try simp only[go_sem,ff]);all_goals (first|rfl|(simp;done)))
  .
   simp at c1
 .
  have hj:=Jv hd;have hdi:=dlt_iff.1 hd;have hne:(d.too != d.frm)=true:=by simpa using Mt hdi.bef hdi.too
  have ff:=qD @hj @hd @hne ff;refine aa Jl ?_ (hok:=by (try simp only[go_sem,ff]);all_goals (first|done|((repeat' (with_reducible apply And.intro))<;>first|(have q9:=uD d;rw[hd] at q9;exact q9)|(intros;have q9:=uD d;rw[hd] at q9;exact q9)|skip)))
  refine cd (fun c1=>?_) (fun c1=>?_) (hp:=rfl) (hq:=rfl)
  .
   simp at c1
  .
   refine dw_skip ?_
   show DW _ _ _ _ _
   refine ae ?_;refine aa Jl ?_ (hok:=by (try simp only[go_sem,ff]);all_goals (first|done|(simp;done)|(repeat' (with_reducible apply And.intro))<;>first|(intro h;simp at h;done)|(simp;done)))
   refine cd (fun c2=>?_) (fun c2=>?_) (hp:=rfl) (hq:=rfl)
   .
    refine aa Jl ?_;refine aO ?_;exact fin 3 (hr:=by (try simp only[go_sem,ff]);all_goals (first|rfl|(simp;done)))
   .
    simp at c2
theorem JA (d:Dlt) (hp:dY d.put):PureCt Tryz.prog 37 [.agg d.d] (.b (dltOk d)):=by
 refine oO Tryz.func37 fun ff=>?_
 unfold Tryz.f37
 refine aa Jl ?_
 rcases hd:dltOk d with _|_
 .
  have hj:=Jw hd;have ff:=qB @hj @hd ff;refine aa Jl ?_ (hok:=oV (Lb d));refine aa Jl ?_;exact fp 0
 have hj:=Jv hd
 have ff:=qB @hj @hd ff
 refine aa Jl ?_ (hok:=oV (Lb d))
 refine aa Jl ?_
 exact fp 0
theorem CS (w:Str) (hw:w.length<=1000000000):PureCt Tryz.prog 39 [.list false (w.map bD)] (.list false (w.map bD)):=by
 refine oO Tryz.func39 fun ff=>?_
 unfold Tryz.f39
 refine aa Jl ?_
 refine ae ?_
 refine ae (uB ?_)
 refine yg (C:=Jl) 1 (e:=5) om (bN rfl) rfl rfl (by kernel_rfl) (by simp only[Yf,X8,Ya,Yj,S.put,YC,go_sem,ff];exact rfl) ?_ (by rfl) ev (fun y hy=>?_)
 .
  try simp only[go_sem,ff]
  all_goals (first|done|(repeat' (with_reducible apply And.intro))<;>first|omega|(with_reducible assumption)|(intros;omega)|(intros;simp only[XW,X6,Yc,XV,Yh,Yd,Yv] at *;omega)|(simp_all;done)|(simp_all;omega))
 refine tK (C:=Jl) (by first|decide|simp) (by simp only[Yf,X8,Ya,Yj,S.put,YC,go_sem,ff];exact rfl) ?_ rfl ?_
 .
  try simp only[go_sem,ff]
  all_goals (first|done|(repeat' (with_reducible apply And.intro))<;>first|omega|(with_reducible assumption)|(intros;omega)|(intros;simp only[XW,X6,Yc,XV,Yh,Yd,Yv] at *;omega)|(simp_all;done)|(simp_all;omega))
 try simp only[aF]
 refine cd (fun c1=>?_) (fun c1=>?_) (hp:=rfl) (hq:=rfl)
 .
  have hn:w=[]:=List.map_eq_nil_iff.1 (hy c1);subst hn;refine aa Jl ?_;exact fp 1
 refine dw_skip ?_
 refine aa Jl ?_
 exact fp 1
theorem CP (a:Str) (l:List Str) (b:Str) (ha:a.length<=1000000000) (hb:b.length<=1000000000) (hl:(catB l).length<=1000000000) (hl2:l.length<=1000000):PureCt Tryz.prog 44 [.list false (a.map bD),.list false (l.map byR),.list false (b.map bD)] (.list false ((a++catB l++b).map bD)):=by
 refine oO Tryz.func44 fun ff=>?_
 unfold Tryz.f44
 refine oC Jl ?_
 refine ae (aA Jl 2 (hct:=by exact u6 123 [] a _ _ 1 (BufG.new (by simp only[go_sem,ff];first|done|rfl) oW) (by simp;omega)) (hk:=?_))
 rintro res h2 n2 ⟨rfl,_,hG2⟩
 refine az Jl ?_
 refine ae ?_
 refine aa Jl ?_
 refine ai ?_
 refine eF (α:=(Nat)×(Str)×(H)×Nat) [2,7,13,14] (fun ⟨k,o,hq,nx⟩=>(k<=l.length)/\(o=a++catB (l.take k))/\(o.length<=2000000000)/\(BufG 123 hq 1 nx o 0)/\True) (fun ⟨k,o,hq,nx⟩=>l.length-k) (fun ⟨k,o,hq,nx⟩=>[(15,.i k)]) (fun ⟨k,o,hq,nx⟩=>hq) (fun ⟨k,o,hq,nx⟩=>nx) (0,a,h2,_) (hA:=⟨iv,(by first|(simp[catB])|(dsimp only;simp[catB])),(by first|(omega)|(dsimp only;omega)),(by first|(exact hG2.mono om)|(dsimp only;exact hG2.mono om)),trivial⟩) (round:=?_)
 rintro⟨k,o,hq,nx⟩ ⟨hk,ho,hol,hG, -⟩
 simp only[X0,X3]
 refine aa Jl ?_
 refine ae ?_
 refine cd (fun c1=>?_) (fun c1=>?_)
 .
  have hk2:k<l.length:=by omega
  have hct:=uI hk2;have hcl:=uH (l:=l) (k+1);have hcs:=sK hk2;have ff:=qA (lg hk2) ff;refine dw_skip ?_;refine ae ?_;refine ai ?_;refine aa Jl ?_;refine aA Jl 2 (hct:=by exact u6 123 o l[k]! _ _ 1 (hG.mono oW) om) (hk:=?_)
  rintro res h5 n5 ⟨rfl,_,hG5⟩;refine az Jl ?_;refine ah Jl ?_
  show ∃ _,_
  exact ak (k+1,o++l[k]!,h5,_) (h1:=⟨iv,(by (try dsimp only);rw[ho,hct,List.append_assoc]),(by (try dsimp only);rw[ho,List.append_assoc,<- hct,List.length_append];omega),(by first|(exact hG5.mono (by omega))|(dsimp only;exact hG5.mono (by omega))),trivial⟩)
 have hk3:k=l.length:=by omega
 subst hk3
 rw[YB] at ho
 refine aB ?_
 refine ae (aA Jl 2 (hct:=by exact u6 123 o b _ _ 1 (hG.mono oW) om) (hk:=?_))
 rintro res h6 n6 ⟨rfl,_,hG6⟩
 have hG6:BufG 123 h6 1 n6 (a++catB l++b) 0:=by rw[<- ho];exact hG6
 refine az Jl ?_
 by_cases hne:a++catB l++b=[]
 .
  refine ae (aA Jl 1 (hct:=by exact uO 123 (a++catB l++b) _ _ 1 (hG6.mono oW) (by rw[XY,XY];omega)) (hk:=?_))
  rintro res h9 n9 ⟨hd,_,_⟩;obtain rfl:res = .list true []:=by rcases hd with⟨_,e⟩|⟨e,_⟩;exact e;exact absurd hne e
  refine az Jl ?_;exact fo 1 (k:=by first|(rw[hne];rfl)|rfl|(simp;done))
 refine ae (aA Jl 1 (hct:=by exact uO 123 (a++catB l++b) _ _ 1 (hG6.mono oW) (by rw[XY,XY];omega)) (hk:=?_))
 rintro res h9 n9 ⟨hd,_,_⟩
 obtain⟨r,rfl,hr,_⟩:=wD hd (Zi.2 hne)
 have ff:=qA @hr ff
 refine az Jl ?_
 exact fo 1 (k:=by first|rfl|(simp;done)|exact xS _|exact xU _)
theorem CQ {a:Str}{l:List Str}(ha:a.length<=1000000000) (hl:(catB l).length<=1000000000) (hl2:l.length<=1000000):PureCt Tryz.prog 44 [.list false (a.map bD),.list false (l.map byR),.list false []] (.list false ((a++catB l).map bD)):=by
 have q:=CP a l [] ha (by simp) hl hl2
 rw[Yy] at q
 exact q
theorem JC (z:Zon) (hu:lF z):PureCt Tryz.prog 13 [.agg z.d] (.tuple [.agg (beginF z).1.d,.i (beginF z).2]):=by
 refine oO Tryz.func13 fun ff=>?_
 unfold Tryz.f13
 have ff:=qA (show UInt8.ofNat 1=1 from rfl) ff
 refine aa Jl ?_
 refine oK Jl (fun c1=>?_) (fun c1=>?_) (hok:=oF (AJ z))
 .
  refine aa Jl ?_;exact fo 4 (k:=by rw[beginF,if_pos (by grind)];first|rfl|(simp;done))
 have hz:zoneOk z=true:=by grind
 have hzl:=(lG hz).len
 have hzs:=M5 hz
 refine aa Jl ?_ (hok:=oI (TJ z (Er hz hu) om) (TW (zonB z) om))
 refine oK Jl (fun c2=>?_) (fun c2=>?_)
 .
  refine aa Jl ?_;exact fo 4 (k:=by rw[beginF,if_neg (by grind),if_pos (by omega)];first|rfl|(simp;done))
 refine aa Jl ?_
 exact fo 4 (k:=by rw[beginF,if_neg (by grind),if_neg (by omega)];first|rfl|(simp;done))
theorem gF (d:Dsk) (hd:DskSz d):PureCt Tryz.prog 22 [.agg d.d] (.tuple [.agg (loadF d).1.d,.i (loadF d).2]):=by
 refine oO Tryz.func22 fun ff=>?_
 unfold Tryz.f22
 refine aa Jl ?_
 rcases ho:openF d with _|o
 .
  have hoo:=vS ho;have ff:=qB @ho @hoo ff;refine aa Jl ?_ (hok:=by (try simp only[go_sem,ff]);all_goals (first|exact qw hd ho|exact qo hd ho))
  refine ae ?_;refine aa Jl ?_;refine cd (fun c1=>?_) (fun c1=>?_) (hp:=rfl) (hq:=rfl)
  .
   refine aa Jl ?_;exact fo 3 (k:=by simp only[loadF,ho];first|rfl|(simp;done))
  simp at c1
 have hoo:=vR ho
 have ff:=qB @ho @hoo ff
 refine aa Jl ?_ (hok:=by (try simp only[go_sem,ff]);all_goals (first|exact qw hd ho|exact qo hd ho))
 refine oK Jl (fun c1=>?_) (fun c1=>?_) (hp:=rfl) (hq:=rfl)
 .
  simp at c1
 refine ae ?_
 rcases hsv:o.saved with _|y
 .
  have ff:=qA @hsv ff;refine aa Jl ?_;refine cd (fun c2=>?_) (fun c2=>?_) (hp:=rfl) (hq:=rfl)
  .
   refine aa Jl ?_;exact fo 3 (k:=by first|(simp only[loadF,ho,hsv];done)|(simp only[loadF,ho,hsv];first|rfl|(simp;done)))
  simp at c2
 have ff:=qA @hsv ff
 refine aa Jl ?_
 refine cd (fun c2=>?_) (fun c2=>?_) (hp:=rfl) (hq:=rfl)
 .
  simp at c2
 refine dw_skip ?_
 refine aa Jl ?_
 exact fo 3 (k:=by first|(simp only[loadF,ho,hsv];done)|(simp only[loadF,ho,hsv];first|rfl|(simp;done)))
theorem zm (d:Dsk) (hd:DskSz d):PureCt Tryz.prog 18 [.agg d.d] (.tuple [.agg (syncF d).1.d,.i (syncF d).2]):=by
 refine oO Tryz.func18 fun ff=>?_
 unfold Tryz.f18
 refine aa Jl ?_
 rcases ho:openF d with _|o
 .
  have hoo:=vS ho;have ff:=qB @ho @hoo ff;refine aa Jl ?_ (hok:=by (try simp only[go_sem,ff]);all_goals (first|exact qw hd ho|exact qo hd ho))
  refine ae ?_;refine aa Jl ?_;refine cd (fun c1=>?_) (fun c1=>?_) (hp:=rfl) (hq:=rfl)
  .
   refine aa Jl ?_;exact fo 3 (k:=by simp only[syncF,ho];first|rfl|(simp;done))
  simp at c1
 have hoo:=vR ho
 have ff:=qB @ho @hoo ff
 refine aa Jl ?_ (hok:=by (try simp only[go_sem,ff]);all_goals (first|exact qw hd ho|exact qo hd ho))
 refine oK Jl (fun c1=>?_) (fun c1=>?_) (hp:=rfl) (hq:=rfl)
 .
  simp at c1
 have hos:=kV ho
 have hcs0:=wW hd d.pend.length hos.2.1
 rw[YB] at hcs0
 have hple:=nP d.safe
 have hsz0:=hos.2.2.2.1
 have hwh:=hos.2.2.1
 refine oK Jl (fun c2=>?_) (fun c2=>?_)
 .
  refine aa Jl ?_;exact fo 3 (k:=by simp only[syncF,ho];rw[X4 (by omega)];first|rfl|(simp;done))
 refine aa Jl ?_ (hok:=by (try simp only[go_sem,ff]);all_goals (exact CQ (by rw[hwh];omega) (by omega) (by omega)))
 exact fo 3 (k:=by simp only[syncF,ho];rw[XZ (by omega)];first|rfl|(simp;done))
end Go.Proofs.YtjngdcldglkolaaGreatDoor
namespace Go.Proofs.YtjngdcldglkolaaGreatDoor
open Go.DL Go.Str Go.Rec Go.Cmp Go.Zon Go.Jn
set_option maxRecDepth 10000
variable [Glob Tryz.prog] [Told]
theorem rY (d:Dsk) (n:Int) (c:Int) (hd:DskSz d):PureCt Tryz.prog 20 [.agg d.d,.i n,.i c] (.tuple [.agg (crashF d n c).1.d,.i (crashF d n c).2]):=by
 refine oO Tryz.func20 fun ff=>?_
 unfold Tryz.f20
 refine aa Jl ?_
 rcases ho:openF d with _|o
 .
  have hoo:=vS ho;have ff:=qB @ho @hoo ff;refine aa Jl ?_ (hok:=by (try simp only[go_sem,ff]);all_goals (first|exact qw hd ho|exact qo hd ho))
  refine ae ?_;refine aa Jl ?_;refine cd (fun c1=>?_) (fun c1=>?_) (hq:=rfl)
  .
   refine aa Jl ?_;exact fo 3 (k:=by simp only[crashF,ho];first|rfl|(simp;done))
  simp at c1
 have hoo:=vR ho
 have ff:=qB @ho @hoo ff
 refine aa Jl ?_ (hok:=by (try simp only[go_sem,ff]);all_goals (first|exact qw hd ho|exact qo hd ho))
 refine oK Jl (fun c1=>?_) (fun c1=>?_)
 .
  refine aa Jl ?_;exact fo 3 (k:=by simp only[crashF,ho];rw[X4 (by omega)];first|rfl|(simp;done))
 have hos:=kV ho
 have hcs0:=wW hd d.pend.length hos.2.1
 rw[YB] at hcs0
 have hple:=nP d.safe
 have hsz0:=hos.2.2.2.1
 have hwh:=hos.2.2.1
 have hwl:o.whole.length<=1000000:=by rw[hwh];omega
 obtain⟨L,hL⟩:∃ L,L=d.pend.take n.toNat:=⟨_,rfl⟩
 have hLl:L.length<=200:=by rw[hL,Yr];omega
 have hcL:(catB L).length<=200000000:=by rw[hL];exact wW hd n.toNat hos.2.1
 have hmt:(d.pend.map byR).take n.toNat=L.map byR:=by rw[hL];exact ZT.symm
 have hLn:L.length=n.toNat:=by rw[hL,Yr];omega
 refine aa Jl ?_
 refine oK Jl (fun c2=>?_) (fun c2=>?_)
 .
  have hk0:n.toNat<d.pend.length:=by omega
  have hbr:gM d n=d.pend[n.toNat]! := by unfold gM;rw[X4 (by omega)]
  have hpl:=hd.at hk0;have hbt:(d.pend[n.toNat]!.map bD).take c.toNat=(d.pend[n.toNat]!.take c.toNat).map bD:=ZT.symm;have ff:=qD (lg hk0) @hmt @hbt ff;refine ah Jl ?_;refine oK Jl (fun c3=>?_) (fun c3=>?_)
  .
   refine aa Jl ?_;exact fo 3 (k:=by simp only[crashF,ho];rw[XZ (by omega),X4 (by rw[hbr];(try simp only[YW]);omega)];first|rfl|(simp;done))
  have htl:(iX o d n c).length=o.whole.length+(catB L).length+c.toNat:=by unfold iX;rw[hbr,<- hL,XY,XY,Yr];(try simp only[YW]);omega
  refine aa Jl ?_;refine ae ?_;refine aa Jl ?_;refine ai ?_;refine lp (α:=(Nat)×(Int)×Nat) [1,2,3,6,8,10,60,61] (fun ⟨k,s,nx⟩=>(k<=L.length)/\(s=(o.whole.length:Int)+c+(((catB (L.take k)).length:Nat):Int))/\(8<nx)/\True) (fun ⟨k,s,nx⟩=>L.length-k) (fun ⟨k,s,nx⟩=>[(11,.i s),(62,.i k)]) (fun ⟨k,s,nx⟩=>[(0,⟨25,[d.d]⟩),(1,⟨25,[[.list true [],.list true []]]⟩),(8,⟨72,[o.d]⟩)]) (fun ⟨k,s,nx⟩=>nx) (0,(o.whole.length:Int)+c,_) (hA:=⟨(by first|(omega)|(dsimp only;omega)),(by first|(simp[catB])|(dsimp only;simp[catB])),(by first|(omega)|(dsimp only;omega)),trivial⟩) (round:=?_)
  rintro⟨k,s,nx⟩ ⟨hk,hs,hx, -⟩;simp only[X0,X3];have n0:0<nx:=by omega
  have n1:1<nx:=by omega
  have ff:=qD @hx @n0 @n1 ff;refine aa Jl ?_;refine ae ?_;refine cd (fun c4=>?_) (fun c4=>?_)
  .
   have hk2:k<L.length:=by omega
   have hcs:=sK hk2;have hcl:=uH (l:=L) (k+1);have ff:=qA (lg hk2) ff;refine dw_skip ?_;refine ae ?_;refine ai ?_;refine aa Jl ?_;refine ah Jl ?_;refine ah Jl ?_
   show ∃ _,_
   exact ak (k+1,s+L[k]!.length,_) (h1:=⟨(by first|(omega)|(dsimp only;omega)),(by (try dsimp only);rw[hs,hcs];push_cast;omega),(by first|(omega)|(dsimp only;omega)),trivial⟩)
  have hk3:k=L.length:=by omega
  subst hk3;rw[YB] at hs;refine aB ?_;refine oK Jl (fun c5=>?_) (fun c5=>?_)
  .
   refine aa Jl ?_;exact fo 3 (k:=by simp only[crashF,ho];rw[XZ (by omega),XZ (by rw[hbr];(try simp only[YW]);omega),X4 (by rw[htl];omega)];first|rfl|(simp;done))
  refine aa JlF ?_ (hok:=oI (CP o.whole L (d.pend[n.toNat]!.take c.toNat) (by omega) (by rw[Yr];omega) (by omega) (by omega)) (CQ (a:=o.whole) (l:=L) (by omega) (by omega) (by omega)))
  exact fo 3 (k:=by simp only[crashF,ho];rw[XZ (by omega),XZ (by rw[hbr];(try simp only[YW]);omega),XZ (by rw[htl];omega)];simp only[iX,hbr,<- hL];first|rfl|(simp;done))
 have hbr:gM d n=[]:=by unfold gM;rw[XZ (by omega)]
 have ff:=qA @hmt ff
 refine oK Jl (fun c3=>?_) (fun c3=>?_)
 .
  refine aa Jl ?_;exact fo 3 (k:=by simp only[crashF,ho];rw[XZ (by omega),X4 (by rw[hbr];(try simp only[YW]);omega)];first|rfl|(simp;done))
 have htl:(iX o d n c).length=o.whole.length+(catB L).length+c.toNat:=by unfold iX;rw[hbr,<- hL,XY,XY,Yr];(try simp only[YW]);omega
 refine aa Jl ?_
 refine ae ?_
 refine aa Jl ?_
 refine ai ?_
 refine lp (α:=(Nat)×(Int)×Nat) [1,2,3,6,8,10,60,61] (fun ⟨k,s,nx⟩=>(k<=L.length)/\(s=(o.whole.length:Int)+c+(((catB (L.take k)).length:Nat):Int))/\(8<nx)/\True) (fun ⟨k,s,nx⟩=>L.length-k) (fun ⟨k,s,nx⟩=>[(11,.i s),(62,.i k)]) (fun ⟨k,s,nx⟩=>[(0,⟨25,[d.d]⟩),(1,⟨25,[[.list true [],.list true []]]⟩),(8,⟨72,[o.d]⟩)]) (fun ⟨k,s,nx⟩=>nx) (0,(o.whole.length:Int)+c,_) (hA:=⟨(by first|(omega)|(dsimp only;omega)),(by first|(simp[catB])|(dsimp only;simp[catB])),(by first|(omega)|(dsimp only;omega)),trivial⟩) (round:=?_)
 rintro⟨k,s,nx⟩ ⟨hk,hs,hx, -⟩
 simp only[X0,X3]
 have n0:0<nx:=by omega
 have n1:1<nx:=by omega
 have ff:=qD @hx @n0 @n1 ff
 refine aa Jl ?_
 refine ae ?_
 refine cd (fun c4=>?_) (fun c4=>?_)
 .
  have hk2:k<L.length:=by omega
  have hcs:=sK hk2;have hcl:=uH (l:=L) (k+1);have ff:=qA (lg hk2) ff;refine dw_skip ?_;refine ae ?_;refine ai ?_;refine aa Jl ?_;refine ah Jl ?_;refine ah Jl ?_
  show ∃ _,_
  exact ak (k+1,s+L[k]!.length,_) (h1:=⟨(by first|(omega)|(dsimp only;omega)),(by (try dsimp only);rw[hs,hcs];push_cast;omega),(by first|(omega)|(dsimp only;omega)),trivial⟩)
 have hk3:k=L.length:=by omega
 subst hk3
 rw[YB] at hs
 refine aB ?_
 refine oK Jl (fun c5=>?_) (fun c5=>?_)
 .
  refine aa Jl ?_;exact fo 3 (k:=by simp only[crashF,ho];rw[XZ (by omega),XZ (by rw[hbr];(try simp only[YW]);omega),X4 (by rw[htl];omega)];first|rfl|(simp;done))
 refine aa JlF ?_ (hok:=oI (CP o.whole L (d.pend[n.toNat]!.take c.toNat) (by omega) (by rw[Yr];omega) (by omega) (by omega)) (CQ (a:=o.whole) (l:=L) (by omega) (by omega) (by omega)))
 exact fo 3 (k:=by simp only[crashF,ho];rw[XZ (by omega),XZ (by rw[hbr];(try simp only[YW]);omega),XZ (by rw[htl];omega)];simp only[iX,hbr,<- hL];first|rfl|(simp;done))
theorem CU (d:Dsk) (x:Dlt) (hd:DskSz d) (hp:dY x.put) (hu:SumD x):PureCt Tryz.prog 16 [.agg d.d,.agg x.d] (.tuple [.agg (appendF d x).1.d,.i (appendF d x).2]):=by
 refine oO Tryz.func16 fun ff=>?_
 unfold Tryz.f16
 have ff:=qA (show UInt8.ofNat 2=2 from rfl) ff
 refine aa Jl ?_
 rcases ho:openF d with _|o
 .
  have hoo:=vS ho;have ff:=qB @ho @hoo ff;refine aa Jl ?_ (hok:=by (try simp only[go_sem,ff]);all_goals (first|exact qw hd ho|exact qo hd ho))
  refine ae ?_;refine aa Jl ?_ (hok:=oH (JA x hp));refine cd (fun c1=>?_) (fun c1=>?_) (hq:=rfl)
  .
   refine aa Jl ?_;exact fo 4 (k:=by simp only[appendF,ho];first|rfl|(simp;done))
  simp at c1
 have hoo:=vR ho
 have ff:=qB @ho @hoo ff
 refine aa Jl ?_ (hok:=by (try simp only[go_sem,ff]);all_goals (first|exact qw hd ho|exact qo hd ho))
 refine oK Jl (fun c1=>?_) (fun c1=>?_) (hok:=oH (JA x hp))
 .
  have hnf:dltOk x=false:=by simpa using c1
  refine aa Jl ?_;exact fo 4 (k:=by simp only[appendF,ho];rw[X4 hnf];first|rfl|(simp;done))
 have hdx:dltOk x=true:=by simpa using c1
 have hdk:=dlt_iff.1 hdx
 have hos:=kV ho
 have hcs0:=wW hd d.pend.length hos.2.1
 rw[YB] at hcs0
 have hple:=nP d.safe
 have hsz0:=hos.2.2.2.1
 have hwh:=hos.2.2.1
 have hwl:o.whole.length<=1000000:=by rw[hwh];omega
 refine ae ?_
 rcases hsv:o.all with _|y
 .
  have ff:=qA @hsv ff;refine aa Jl ?_;refine cd (fun c2=>?_) (fun c2=>?_) (hp:=rfl) (hq:=rfl)
  .
   refine aa Jl ?_;exact fo 4 (k:=by rw[Zaa ho hsv,hdx];first|rfl|(simp;done))
  simp at c2
 have ff:=qA @hsv ff
 refine aa Jl ?_
 refine cd (fun c2=>?_) (fun c2=>?_) (hp:=rfl) (hq:=rfl)
 .
  simp at c2
 refine dw_skip ?_
 refine ae ?_
 rcases hA:applyP y x with⟨z,e⟩
 have ff:=qA @hA ff
 refine aa Jl ?_ (hok:=oF (WA hp hA))
 refine aa Jl ?_
 refine cd (fun c3=>?_) (fun c3=>?_)
 .
  refine aa Jl ?_;exact fo 4 (k:=by rw[XT ho hsv (by rw[hA];exact c3),hA,hdx];first|rfl|(simp;done))
 obtain rfl:e=0:=by omega
 have hxs:=K9 hA hu
 have hxl:=La hA
 have hpl2:=hdk.plen
 have hdl2:=hdk.dlen
 have hfl:=lh 2 (dltB x)
 refine dw_skip ?_
 refine oK Jl (fun c4=>?_) (fun c4=>?_)
 .
  refine aa Jl ?_;exact fo 4 (k:=by rw[Av ho hsv hA,X4 (by omega)];first|rfl|(simp;done))
 refine aa Jl ?_ (hok:=oI (TY x hxs hdk.plen hdk.dlen) (TV (dltB x) om))
 refine oK Jl (fun c5=>?_) (fun c5=>?_)
 .
  refine aa Jl ?_;exact fo 4 (k:=by rw[Av ho hsv hA,XZ (by omega),X4 (by omega)];first|rfl|(simp;done))
 refine aa Jl ?_ (hok:=oH (CS o.whole om))
 refine ae ?_
 refine mW 54 1 25 22 ev (by rfl) (by simp only[go_sem,ff]) ?_
 simp only[YM,YF]
 refine aa Jl ?_
 refine ai ?_
 refine lp (α:=(Nat)×(Nat)×Nat) [4,10,11,64,65] (fun ⟨k,r,nx⟩=>(k<=d.pend.length)/\(r<nx)/\(54<r)/\True) (fun ⟨k,r,nx⟩=>d.pend.length-k) (fun ⟨k,r,nx⟩=>[(66,.i k)]) (fun ⟨k,r,nx⟩=>[(0,⟨25,[d.d]⟩),(1,⟨31,[x.d]⟩),(2,⟨25,[[.list true [],.list true []]]⟩),(54,⟨25,[[.list false (o.whole.map bD),.mrow r 0 k]]⟩),(r,⟨22,(d.pend.take k).map byR⟩)]) (fun ⟨k,r,nx⟩=>nx) (0,56,_) (hA:=⟨iv,iv,iv,trivial⟩) (round:=?_)
 rintro⟨k,r,nx⟩ ⟨hk,hr,hr0, -⟩
 simp only[X0,X3]
 have n0:0<nx:=by omega
 have n1:1<nx:=by omega
 have n2:2<nx:=by omega
 have n54:54<nx:=by omega
 have ff:=qH @hr @n0 @n1 @n2 @n54 (nH 0 1) (nH 0 2) (qI (nH 0 54) (nH 0 r) (nH 1 2) (nH 1 54) (nH 1 r) (nH 2 54) (nH 2 r) (nH 54 r) ff)
 refine aa Jl ?_
 refine ae ?_
 refine cd (fun c6=>?_) (fun c6=>?_) (hp:=rfl)
 .
  have hk2:k<d.pend.length:=by simpa using c6
  have hpk:=hd.at hk2;have ff:=qA (lg hk2) ff;refine dw_skip ?_;refine ae ?_;refine ai ?_;refine aa Jl ?_;refine ah JlF ?_ (hok:=by (try simp only[go_sem,ff]);all_goals (first|done|((repeat' (with_reducible apply And.intro))<;>first|(intros;exact CS d.pend[k]! (by omega))|omega|(rw[Yr];omega)|skip)))
  refine ah Jl ?_
  show ∃ _,_
  have hst:(d.pend.take (k+1)).map byR=(d.pend.take k).map byR++[[.list false (d.pend[k]!.map bD)]]:=by rw[vz! hk2,BR]
  have ff:=qA hst ff;exact ak (k+1,(nx+9),_) (h1:=⟨iv,iv,iv,trivial⟩)
 have e8:k=d.pend.length:=by omega
 subst e8
 refine aB ?_
 refine aa Jl ?_
 refine lZ 54 1 (nx+5) (rows:=d.pend.map byR++[[.list false ((frmB 2 (dltB x)).map bD)]]) (off:=0) (len:=d.pend.length+1) ev rfl ev (by omega) (by simp) (by rw[<- BR];exact Sj) ?_
 simp only[X8,YM,YF]
 refine aa Jl ?_
 exact fo 4 (k:=by rw[Av ho hsv hA,XZ (by omega),XZ (by omega)];(try simp only[go_sem,BR]);first|done|rfl|(simp;done))
end Go.Proofs.YtjngdcldglkolaaGreatDoor
namespace Go.Proofs.YtjngdcldglkolaaGreatDoor
open Go.DL Go.Str Go.Rec Go.Cmp Go.Zon Go.Jn
set_option maxRecDepth 10000
variable [Glob Tryz.prog] [Told]
end Go.Proofs.YtjngdcldglkolaaGreatDoor
namespace Go.Proofs.YtjngdcldglkolaaGreatDoor
open Go.DL Go.Str Go.Rec Go.Cmp Go.Zon Go.Jn
set_option maxRecDepth 10000
variable [Glob Tryz.prog] [Told]
def gJ (h:H) (R:Nat) (st:RS):Prop:=∃ f:Bool,h R=some ⟨99,[[.list f (st.1.map bD),.v (.bool st.2)]]⟩
theorem Np (c:UInt8):IntKind.u64.wrap (c.toNat:Int)=(c.toNat:Int):=by
 have:=c.toNat_lt
 rw[IntKind.wrap_u64]
 omega
theorem add8 (u:Nat) (c:UInt8):IntKind.u64.wrap (IntKind.u64.wrap ((u:Int)*256)+(c.toNat:Int))=((bG u c:Nat):Int):=by
 rw[IntKind.wrap_u64,IntKind.wrap_u64]
 unfold bG
 omega
theorem yI (x:Str) (bad:Bool) (m:Nat) (h:H) (n R:Nat) (hb:gJ h R (x,bad)) (hx:x.length<=1000000000) (hm:m<=1000000000000):RCt Tryz.prog 115 [.mptr R 0 0,.i m] h n (fun d h' n'=>(∃ f1:Bool,d = .list f1 ((aC m (x,bad)).1.map bD))/\gJ h' R (aC m (x,bad)).2/\RStep h h' R n n'):=by
 refine oP Tryz.func115 fun hnone ff=>?_
 unfold Tryz.f115
 obtain⟨f,hR⟩:=hb
 have hRn:R<n:=by rcases Zd R n with q|q;exact q;rw[hnone R q] at hR;cases hR
 have hE1:((m:Int)).toNat=m:=by omega
 have hE2:((0:Int)).toNat=0:=rfl
 have ff:=qE @hR @hE1 @hE2 (nG R n) ff
 refine aa Jl ?_
 refine ae ?_
 rcases bad with _|_<;>by_cases hle:m<=x.length
 .
  refine aa Jl ?_;refine cd (fun c1=>?_) (fun c1=>?_) (hp:=rfl) (hq:=rfl)
  .
   exfalso;simp at c1;omega
  refine dw_skip ?_;refine oK Jl (fun c2=>?_) (fun c2=>?_) (hp:=rfl) (hq:=rfl)
  .
   simp at c2
  refine oD Jl ?_;refine aO ?_;exact bu (_) (hh:=fun _=>.inl rfl) (hr:=oS (k:=by rw[gu rfl (by omega)];exact⟨⟨_,by rw[ZT];try rfl⟩,⟨_,by simp only[upd,ZL];rw[List.map_drop];try rfl⟩,⟨om,fun q q1 q2=>by simp only[upd];repeat (first|rfl|rw[XZ (by omega)])⟩⟩))
 .
  refine aa Jl ?_;refine cd (fun c1=>?_) (fun c1=>?_) (hp:=rfl) (hq:=rfl)
  .
   refine ah Jl ?_;refine ae ?_;refine aa Jl ?_;refine cd (fun c2=>?_) (fun c2=>?_) (hp:=rfl) (hq:=rfl)
   .
    refine aa Jl ?_;refine aO ?_;exact bu (_) (hh:=fun _=>.inl rfl) (hr:=oS (k:=by first|(rw[gy (.inr (by show (x.length:Int)<m;omega))];exact⟨⟨_,rfl⟩,⟨f,ev⟩,⟨om,fun q q1 q2=>by simp only[upd];repeat (first|rfl|rw[XZ (by omega)])⟩⟩)|(rw[gy (.inl rfl)];exact⟨⟨_,rfl⟩,⟨f,ev⟩,⟨om,fun q q1 q2=>by simp only[upd];repeat (first|rfl|rw[XZ (by omega)])⟩⟩)))
   simp at c2
  exfalso;simp at c1;omega
 .
  refine aa Jl ?_;refine cd (fun c1=>?_) (fun c1=>?_) (hp:=rfl) (hq:=rfl)
  .
   exfalso;simp at c1;omega
  refine dw_skip ?_;refine ae ?_;refine aa Jl ?_;refine cd (fun c2=>?_) (fun c2=>?_) (hp:=rfl) (hq:=rfl)
  .
   refine aa Jl ?_;refine aO ?_;exact bu (_) (hh:=fun _=>.inl rfl) (hr:=oS (k:=by first|(rw[gy (.inr (by show (x.length:Int)<m;omega))];exact⟨⟨_,rfl⟩,⟨f,ev⟩,⟨om,fun q q1 q2=>by simp only[upd];repeat (first|rfl|rw[XZ (by omega)])⟩⟩)|(rw[gy (.inl rfl)];exact⟨⟨_,rfl⟩,⟨f,ev⟩,⟨om,fun q q1 q2=>by simp only[upd];repeat (first|rfl|rw[XZ (by omega)])⟩⟩)))
  simp at c2
 refine aa Jl ?_
 refine cd (fun c1=>?_) (fun c1=>?_) (hp:=rfl) (hq:=rfl)
 .
  refine ah Jl ?_;refine ae ?_;refine aa Jl ?_;refine cd (fun c2=>?_) (fun c2=>?_) (hp:=rfl) (hq:=rfl)
  .
   refine aa Jl ?_;refine aO ?_;exact bu (_) (hh:=fun _=>.inl rfl) (hr:=oS (k:=by first|(rw[gy (.inr (by show (x.length:Int)<m;omega))];exact⟨⟨_,rfl⟩,⟨f,ev⟩,⟨om,fun q q1 q2=>by simp only[upd];repeat (first|rfl|rw[XZ (by omega)])⟩⟩)|(rw[gy (.inl rfl)];exact⟨⟨_,rfl⟩,⟨f,ev⟩,⟨om,fun q q1 q2=>by simp only[upd];repeat (first|rfl|rw[XZ (by omega)])⟩⟩)))
  simp at c2
 exfalso;simp at c1;omega
end Go.Proofs.YtjngdcldglkolaaGreatDoor
namespace Go.Proofs.YtjngdcldglkolaaGreatDoor
open Go.DL Go.Str Go.Rec Go.Cmp Go.Zon Go.Jn
set_option maxRecDepth 10000
variable [Glob Tryz.prog] [Told]
attribute [local irreducible] bG
theorem yF (st:RS) (m:Nat) (h:H) (n R:Nat) (hb:gJ h R st) (hx:st.1.length<=1000000000) (hm:m<=8):RCt Tryz.prog 114 [.mptr R 0 0,.i m] h n (fun d h' n'=>d = .v (.int .u64 (((ag m st).1:Nat):Int))/\gJ h' R (ag m st).2/\RStep h h' R n n'):=by
 refine oP Tryz.func114 fun hnone ff=>?_
 unfold Tryz.f114
 refine aa Jl ?_
 refine ae (aA Jl 2 (hct:=by exact yI st.1 st.2 m _ _ R hb hx om) (hk:=?_))
 rintro res h2 n2 ⟨⟨f1,rfl⟩,hq2,hst2⟩
 try dsimp only at hst2
 have hbl:=yN m st
 obtain⟨b,hbe⟩:∃ b,b=(aC m st).1:=⟨_,rfl⟩
 rw[show aC (m:Int) (st.1,st.2)=aC m st from rfl] at hq2
 rw[show aC (m:Int) (st.1,st.2)=aC m st from rfl]
 rw[<- hbe] at hbl
 try rw[<- hbe]
 refine az Jl ?_
 refine aa Jl ?_
 refine ae ?_
 refine aa Jl ?_
 refine ai ?_
 refine eF (α:=(Nat)×(Nat)×Nat) [5] (fun ⟨k,u,nx⟩=>(k<=b.length)/\(u=bO (b.take k))/\(n2<=nx)/\True) (fun ⟨k,u,nx⟩=>b.length-k) (fun ⟨k,u,nx⟩=>[(6,.v (.int .u64 ((u:Nat):Int))),(7,.i k)]) (fun ⟨k,u,nx⟩=>h2) (fun ⟨k,u,nx⟩=>nx) (0,0,_) (hA:=⟨iv,rfl,iv,trivial⟩) (round:=?_)
 rintro⟨k,u,nx⟩ ⟨hk,hu,hn, -⟩
 simp only[X0,X3]
 refine oL Jl (fun c1=>?_) (fun c1=>?_)
 .
  have hk2:k<b.length:=by omega
  have ff:=qD (oQ hk2) (Np (b.getD k 0)) (add8 u (b.getD k 0)) ff;refine ae ?_;refine ai ?_;refine ah Jl ?_;refine ah Jl ?_
  show ∃ _,_
  exact ak (k+1,bG u (b.getD k 0),_) (h1:=⟨iv,(by first|(rw[yU b k hk2,<- hu])|(dsimp only;rw[yU b k hk2,<- hu])),iv,trivial⟩)
 have hk3:k=b.length:=by omega
 subst hk3
 rw[YB] at hu
 subst hu
 subst hbe
 refine aB ?_
 refine aa Jl ?_
 refine aO ?_
 exact bu (_) (hh:=fun _=>.inl rfl) (hr:=oS (k:=by exact⟨rfl,hq2,(hst2.down oW).up oW⟩))
theorem BL (st:RS) (h:H) (n R:Nat) (hb:gJ h R st) (hx:st.1.length<=1000000000):RCt Tryz.prog 114 [.mptr R 0 0,.i 1] h n (fun d h' n'=>d = .v (.int .u64 (((ag 1 st).1:Nat):Int))/\gJ h' R (ag 1 st).2/\RStep h h' R n n'):=yF st 1 h n R hb hx om
theorem QX (st:RS) (h:H) (n R:Nat) (hb:gJ h R st) (hx:st.1.length<=1000000000):RCt Tryz.prog 114 [.mptr R 0 0,.i 2] h n (fun d h' n'=>d = .v (.int .u64 (((ag 2 st).1:Nat):Int))/\gJ h' R (ag 2 st).2/\RStep h h' R n n'):=yF st 2 h n R hb hx om
theorem BK (st:RS) (h:H) (n R:Nat) (hb:gJ h R st) (hx:st.1.length<=1000000000):RCt Tryz.prog 114 [.mptr R 0 0,.i 4] h n (fun d h' n'=>d = .v (.int .u64 (((ag 4 st).1:Nat):Int))/\gJ h' R (ag 4 st).2/\RStep h h' R n n'):=yF st 4 h n R hb hx om
theorem nK (st:RS) (h:H) (n R:Nat) (hb:gJ h R st) (hx:st.1.length<=1000000000):RCt Tryz.prog 114 [.mptr R 0 0,.i 8] h n (fun d h' n'=>d = .v (.int .u64 (((ag 8 st).1:Nat):Int))/\gJ h' R (ag 8 st).2/\RStep h h' R n n'):=yF st 8 h n R hb hx om
theorem yH (st:RS) (h:H) (n R:Nat) (hb:gJ h R st) (hx:st.1.length<=1000000000):RCt Tryz.prog 117 [.mptr R 0 0] h n (fun d h' n'=>d = .v (.string (bs (aj st).1))/\gJ h' R (aj st).2/\RStep h h' R n n'):=by
 refine oP Tryz.func117 fun hnone ff=>?_
 unfold Tryz.f117
 refine aa Jl ?_
 refine bf ?_
 refine nJ (C:=Jl) 2 (R:=_) om (bN rfl) rfl rfl (by simp only[Yf,X8,Ya,Yj,S.put,YC,Nat.reduceSub,go_sem,ff];first|done|exact rfl) ?_ ?_ ev (by simp only[go_sem,ff]) ev (by exact BL st _ _ R hb hx) ?_
 .
  try simp only[go_sem,ff]
  all_goals (exact ok0)
 .
  try simp only[go_sem,ff]
  all_goals (first|done|rfl|decide|simp)
 rintro res h2 n2 ⟨rfl,hq2,hst2⟩
 try dsimp only at hst2
 have hul:(ag 1 st).1<256^1:=j6 1 st
 obtain⟨u,hue⟩:∃ u,u=(ag 1 st).1:=⟨_,rfl⟩
 try rw[<- hue]
 rw[<- hue] at hul
 have e1:=oz (u:=u) (by omega)
 have ff:=qA e1 ff
 have hx2:(ag 1 st).2.1.length<=1000000000:=Yb (fM 1 st) hx
 have hl2:=hst2.1
 refine nJ (C:=Jl) 4 (R:=_) om (bN rfl) rfl rfl (by simp only[Yf,X8,Ya,Yj,S.put,YC,Nat.reduceSub,go_sem,ff];first|done|exact rfl) ?_ ?_ ev (by simp only[go_sem,ff]) ev (by exact yI (ag 1 st).2.1 (ag 1 st).2.2 u _ _ R hq2 hx2 om) ?_
 .
  try simp only[go_sem,ff]
  all_goals (exact ok0)
 .
  try simp only[go_sem,ff]
  all_goals (first|done|rfl|decide|simp)
 rintro res h3 n3 ⟨⟨f1,rfl⟩,hq3,hst3⟩
 try dsimp only at hst3
 rw[show aC (u:Int) ((ag 1 st).2.1,(ag 1 st).2.2)=aj st from by unfold aj;rw[hue]] at hq3
 rw[show aC (u:Int) ((ag 1 st).2.1,(ag 1 st).2.2)=aj st from by unfold aj;rw[hue]]
 refine aN Jl ?_
 try simp only[aF]
 refine aO ?_
 exact bu (_) (hh:=fun _=>.inl rfl) (hr:=oS (k:=by first|exact⟨rfl,hq3,((hst2.down oW).trans (hst3.down oW)).up oW⟩|exact⟨hq3,((hst2.down oW).trans (hst3.down oW)).up oW⟩))
end Go.Proofs.YtjngdcldglkolaaGreatDoor
namespace Go.Proofs.YtjngdcldglkolaaGreatDoor
open Go.DL Go.Str Go.Rec Go.Cmp Go.Zon Go.Jn
set_option maxRecDepth 10000
variable [Glob Tryz.prog] [Told]
theorem dw_nh {ro:Option Nat}{c:Code}{Q:Exit->S->Prop}{s:S}(k : ∀ hz,hz=s.h->DW Tryz.prog ro c Q { n:=s.n,t:=s.t,h:=hz,nx:=s.nx,ok:=s.ok,e:=s.e }):DW Tryz.prog ro c Q s:=k s.h rfl
theorem nT (k:Nat) (st:RS):(nN k st).1.length<=st.1.length:=by
 induction k with
 | zero=>exact XX _
 | succ k ih=>exact Yb (fM 8 (nN k st)) ih
theorem xE (st:RS):(aj st).2.1.length<=st.1.length:=Yb (fM _ _) (fM 1 st)
theorem QP (st:RS):(dD st).2.1.length<=st.1.length:=Yb (fM _ _) (fM 2 st)
theorem Pb {x y y4 x4:Str}{rs:RSet}{bd qR b4:Bool}{g:List RSig}(h:dz (x,false)=(rs,(y,bd))) (h2:(ag 1 (y,bd)).2=(y4,qR)) (h3:dV (ag 1 (y,bd)).1 [] (y4,qR)=(g,(x4,b4))):dB (x,false)=(⟨rs,g⟩,(x4,b4)):=by
 unfold dB
 simp only[h,h2,h3]
theorem OZ (st:RS):ek st=(⟨(aj st).1,nV 0 (aj st).2,nV 1 (aj st).2,nV 2 (aj st).2,nV 3 (aj st).2,(((ag 8 (nN 4 (aj st).2)).1:Nat):Int)⟩,nN 5 (aj st).2):=rfl
set_option maxHeartbeats 4000000
def lV:Code->Code
 | .block _ c=>c
 | .loop c=>c
 | c=>c
noncomputable def c19:Code:=(dC (dC (dC (dC (dC (lV (lW (dC (lV (lV (dC (lW (dC (dC (dC (dC (lV (lW (dC (lV (lV (dC (lW (dC (dC (dC (Tryz.f118.body.getD .skip)))))))))))))))))))))))))))
theorem q19 {ro:Option Nat}{Q:Exit->S->Prop}(t:Nat->D) (h:H) (nx:Nat) (e:Env) (R C r2 j:Nat) (g:List RSig) (st:RS) (f9:Bool) (zt:Str) (v0 v1 v2 v3:Int) (a b c d:D)
  (t0:t 0 = .mptr R 0 0) (t8:t 8 = .mptr C 0 0) (t11:t 11 = .v (.string (bs zt))) (t12:t 12 = .i v0) (t13:t 13 = .i v1) (t14:t 14 = .i v2) (t15:t 15 = .i v3)
  (hR:h R=some ⟨99,[[.list f9 (st.1.map bD),.v (.bool st.2)]]⟩) (hC:h C=some ⟨66,[[a,b,c,d,.mrow r2 0 j]]⟩) (hg:h r2=some ⟨160,g.map RSig.d⟩) (hj:g.length=j) (hjb:j<=1000000)
  (hx:st.1.length<=1000000000) (hRC:R<C) (hCr:C<r2) (hrn:r2<nx)
  (hk : ∀ (t':Nat->D) (h':H) (nA:Nat) (f:Bool),(∀ i,i<76->t' i=t i)->nx<=nA->h' R=some ⟨99,[[.list f ((ag 8 st).2.1.map bD),.v (.bool (ag 8 st).2.2)]]⟩->h' C=some ⟨66,[[a,b,c,d,.mrow (nA+11) 0 (j+1)]]⟩ ->
   h' (nA+11)=some ⟨160,(g++[(⟨zt,v0,v1,v2,v3,(((ag 8 st).1:Nat):Int)⟩:RSig)]).map RSig.d⟩->(∀ q,q<nx->q≠R->q≠C->q≠r2->h' q=h q)->Q .normal { n:=94,t:=t',h:=h',nx:=nA+14,e:=e }) :
  DW Tryz.prog ro c19 Q { n:=94,t:=t,h:=h,nx:=nx,e:=e }:=by
 have w6:(r2=C)=False:=Y6 om
 have ff:=qF t0 t8 t11 t12 t13 (qI t14 t15 hR hC hg (nH C R) (nH R r2) (nH C r2) w6)
 unfold c19 Tryz.f118
 simp only[YT,dC,lW,lV]
 refine Ac Jl 8 9 11 [(1,76)] (R:=_) (X:=fun _ _ _=>False) (hct:=by exact (nK st _ _ R ⟨f9,ev⟩ hx).xct) (hp:=fun c9 h9 n9 hx9=>hx9.elim) (hkeep:=?_) (hFo:=?_) (hk:=?_)
 .
  rintro res h2 n2 ⟨_,_,hst9⟩ p hp r9 hrr;simp only[Yq] at hp;subst hp;simp only[go_sem,ff,sd,named,YG] at hrr ⊢;subst hrr;exact hst9.2 _ oW om
 .
  rintro res h2 n2 ⟨rfl,_,_⟩
  (try simp only[Yf,X8,Ya,Yj,S.put,YC,Nat.reduceSub,Nat.reduceAdd,go_sem,ff])
  all_goals exact ok0
 rintro res hA nA ⟨rfl,hqA,hstA⟩
 try dsimp only at hstA
 have hlA:=hstA.1
 obtain⟨fA,hRA⟩:=hqA
 have kC:hA C=some ⟨66,[[a,b,c,d,.mrow r2 0 j]]⟩:=(hstA.2 C om om).trans hC
 have kg:hA r2=some ⟨160,g.map RSig.d⟩:=(hstA.2 r2 om om).trans hg
 have n2 : ∀ k:Nat,(nA+k=R)=False:=fun k=>Y6 om
 have ff:=qH hRA kC kg (nG R nA) n2 (nG C nA) (nG r2 nA) ff
 refine gto ?_
 refine aN Jl ?_
 try simp only[aF]
 refine hk _ _ nA fA (fun i hi=>?_) om ev ev (by simp only[go_sem,ff,YS,X9,Yx];first|done|exact rfl) (fun q q1 q2 q3 q4=>?_)
 .
  simp only[upd]
  repeat rw[XZ (by omega)]
 simp only[upd]
 repeat rw[XZ (by omega)]
 exact hstA.2 q om q2
theorem G7 (st0:RS) (h:H) (n R:Nat) (hb:gJ h R st0) (hx:st0.1.length<=1000000000):RCt Tryz.prog 118 [.mptr R 0 0] h n (fun d h' n'=>d = .list false ((dL st0).1.map Sgd.d)/\gJ h' R (dL st0).2/\RStep h h' R n n'):=by
 refine oP Tryz.func118 fun hnone ff=>?_
 unfold Tryz.f118
 obtain⟨f,hR⟩:=hb
 have hRn:R<n:=by rcases Zd R n with q|q;exact q;rw[hnone R q] at hR;cases hR
 have ff:=qB @hR (nG R n) ff
 refine oC Jl ?_
 refine ae (aA Jl 1 (hct:=by exact BK st0 _ _ R ⟨f,ev⟩ hx) (hk:=?_))
 rintro res h2 n2 ⟨rfl,hq2,hst2⟩
 try dsimp only at hst2
 have hl2:=hst2.1
 obtain⟨f2,hR2⟩:=hq2
 have hs2:RStep h h2 R n n2:=(rv (RStep.refl (h:=h) (R:=R) (XX n)) hst2)
 have hNl:(ag 4 st0).1<256^4:=j6 4 st0
 obtain⟨N,hNe⟩:∃ N,N=(ag 4 st0).1:=⟨_,rfl⟩
 try rw[<- hNe]
 rw[<- hNe] at hNl
 have e1:=oz (u:=N) (by omega)
 have hx4:(ag 4 st0).2.1.length<=1000000000:=Yb (fM 4 st0) hx
 obtain⟨x4,hx4e⟩:∃ x,x=(ag 4 st0).2.1:=⟨_,rfl⟩
 obtain⟨b4,hb4e⟩:∃ b,b=(ag 4 st0).2.2:=⟨_,rfl⟩
 rw[<- hx4e,<- hb4e] at hR2
 rw[<- hx4e] at hx4
 have hpe:dL st0=dW N [] (x4,b4):=by rw[hNe,hx4e,hb4e];rfl
 have ff:=qD @hR2 (nG R n2) @e1 ff
 refine az Jl ?_
 refine ae ?_
 refine aa Jl ?_
 refine ai ?_
 refine qM 3 66 (by simp only[go_sem,ff]) (by simp only[go_sem,ff]) ?_
 refine dw_nh (fun hw hwe=>?_)
 dsimp only at hwe ⊢
 have hRw:hw R=some ⟨99,[[.list f2 ((x4).map bD),.v (.bool b4)]]⟩:=by rw[hwe];simp only[go_sem,ff];first|done|exact rfl
 have how:hw (n2+5)=some ⟨66,[]⟩:=by rw[hwe];simp only[go_sem,ff];first|done|exact rfl
 have hsw:RStep h hw R n ((n2+5)+1):=⟨om,fun q q1 q2=>by (rw[hwe];simp only[upd];repeat (first|rfl|rw[XZ (by omega)]));exact hs2.2 q q1 q2⟩
 refine eF (α:=(Nat)×(List Sgd)×(Str)×(Bool)×(Nat)×(H)×Nat) [0,4] (fun ⟨k,o,x,bd,r,hq,nx⟩=>(k<=N)/\(dW N [] (x4,b4)=dW (N-k) o (x,bd))/\(o.length=k)/\(∃ f:Bool,hq R=some ⟨99,[[.list f ((x).map bD),.v (.bool bd)]]⟩)/\(hq r=some ⟨66,o.map Sgd.d⟩)/\(RStep h hq R n nx)/\(n<=r)/\(r<nx)/\(x.length<=1000000000)/\True) (fun ⟨k,o,x,bd,r,hq,nx⟩=>N-k) (fun ⟨k,o,x,bd,r,hq,nx⟩=>[(3,.mrow r 0 k),(5,.i k)]) (fun ⟨k,o,x,bd,r,hq,nx⟩=>hq) (fun ⟨k,o,x,bd,r,hq,nx⟩=>nx) (0,[],x4,b4,(n2+5),hw,_) (hA:=⟨iv,rfl,rfl,(by first|(exact⟨f2,hRw⟩)|(dsimp only;exact⟨f2,hRw⟩)),(by first|(exact how)|(dsimp only;exact how)),(by first|(exact hsw.up om)|(dsimp only;exact hsw.up om)),(by first|(omega)|(dsimp only;omega)),(by first|(omega)|(dsimp only;omega)),(by first|(exact hx4)|(dsimp only;exact hx4)),trivial⟩) (round:=?_)
 rintro⟨k,o,x,bd,r,hq,nx⟩ ⟨hk,hps,hol,hb7,hr,hst,hnr,hrx,hxl, -⟩
 simp only[X0,X3]
 obtain⟨fs,hR7⟩:=hb7
 have hlx:=hst.1
 have ff:=qF @hR7 @hr (nG R nx) (nG r nx) (nH R r) ff
 refine oL Jl (fun c1=>?_) (fun c1=>?_) (hq:=rfl)
 .
  have hk2:k<N:=by have:=c1.1;omega
  have hbf:bd=false:=by have:=c1.2;simpa using this
  subst hbf;obtain⟨M,hM⟩:∃ M,N-k=M+1:=⟨N-k-1,om⟩;refine ae ?_;refine ai ?_;refine bf ?_;refine nJ (C:=Jl) 2 (R:=_) om (bN rfl) rfl rfl (by simp only[Yf,X8,Ya,Yj,S.put,YC,Nat.reduceSub,go_sem,ff];first|done|exact rfl) ?_ ?_ ev (by simp only[go_sem,ff]) ev (by exact QX (x,false) _ _ R ⟨fs,ev⟩ hxl) ?_
  .
   try simp only[go_sem,ff]
   all_goals (exact ok0)
  .
   try simp only[go_sem,ff]
   all_goals (first|done|rfl|decide|simp)
  rintro res ha na ⟨rfl,hqa,hsta⟩
  try dsimp only at hsta
  have hla:=hsta.1;obtain⟨fa,hRa⟩:=hqa;have kra:ha r=some ⟨66,o.map Sgd.d⟩:=kp hsta;have hsa:RStep h ha R n na:=(rv hst hsta);have hua:(ag 2 (x,false)).1<256^2:=j6 2 (x,false);obtain⟨u,hue⟩:∃ u,u=(ag 2 (x,false)).1:=⟨_,rfl⟩
  try rw[<- hue]
  rw[<- hue] at hua;have e2:=oz (u:=u) (by omega)
  have hxa:(ag 2 (x,false)).2.1.length<=1000000000:=Yb (fM 2 (x,false)) hxl;have ff:=qF hRa kra (nG R na) (nG r na) e2 ff;refine nJ (C:=Jl) 4 (R:=_) om (bN rfl) rfl rfl (by simp only[Yf,X8,Ya,Yj,S.put,YC,Nat.reduceSub,go_sem,ff];first|done|exact rfl) ?_ ?_ ev (by simp only[go_sem,ff]) ev (by exact yI (ag 2 (x,false)).2.1 (ag 2 (x,false)).2.2 u _ _ R ⟨fa,ev⟩ hxa om) ?_
  .
   try simp only[go_sem,ff]
   all_goals (exact ok0)
  .
   try simp only[go_sem,ff]
   all_goals (first|done|rfl|decide|simp)
  rintro res hb nb ⟨⟨f1,rfl⟩,hqb,hstb⟩;rw[show aC (u:Int) ((ag 2 (x,false)).2.1,(ag 2 (x,false)).2.2)=dD (x,false) from by unfold dD;rw[hue]] at hqb
  rw[show aC (u:Int) ((ag 2 (x,false)).2.1,(ag 2 (x,false)).2.2)=dD (x,false) from by unfold dD;rw[hue]]
  try dsimp only at hstb
  have hlb:=hstb.1;obtain⟨fb,hRb⟩:=hqb;have krb:hb r=some ⟨66,o.map Sgd.d⟩:=kp hstb;have hsb:RStep h hb R n nb:=(rv hsa hstb);obtain⟨b,hbe⟩:∃ b,b=(dD (x,false)).1:=⟨_,rfl⟩
  try rw[<- hbe]
  have hbl:b.length<=1000000:=by (have q9:=yN (ag 2 (x,false)).1 (ag 2 (x,false)).2;rw[show (aC ((ag 2 (x,false)).1:Nat) (ag 2 (x,false)).2).1=b from hbe.symm] at q9;omega)
  obtain⟨y,hye⟩:∃ y,y=(dD (x,false)).2.1:=⟨_,rfl⟩;rw[<- hye] at hRb;have hyl:y.length<=1000000000:=by rw[hye];exact Yb (QP (x,false)) hxl
  obtain⟨rs,hrs⟩:∃ rs,rs=(readF b).1:=⟨_,rfl⟩
  try rw[<- hrs]
  have hrs2:=hrs.symm;have ff:=qF hRb krb (nG R nb) (nG r nb) hrs2 ff;refine aN Jl ?_ (hok:=oV (Qg b hbl))
  try simp only[aF]
  refine jnh (α:=(Bool)×(H)×Nat) [0,3,4,5,6] (fun ⟨bd3,hz,nx⟩=>(dz (x,false)=(rs,(y,bd3)))/\(hz R=some ⟨99,[[.list fb ((y).map bD),.v (.bool bd3)]]⟩)/\(hz r=some ⟨66,o.map Sgd.d⟩)/\(hz (nb+9)=some ⟨63,[[.v (.string (bs rs.name)),.i rs.ty,.i rs.life,.list false (rs.data.map Dat.d)]]⟩)/\(RStep h hz R n nb)/\(nb+10<=nx)/\True) (fun ⟨bd3,hz,nx⟩=>[]) (fun ⟨bd3,hz,nx⟩=>hz) (fun ⟨bd3,hz,nx⟩=>nx) ?_ ?_
  .
   refine aa Jl ?_;refine cd (fun c2=>?_) (fun c2=>?_)
   .
    refine ah Jl ?_
    show ∃ _,_
    exact pV (true,_,_) (h1:=⟨(by (try dsimp only);unfold dz;rw[if_neg (by rw[<- hbe];exact c2),<- hbe,hrs,hye]),(by (try dsimp only);simp only[go_sem,ff];first|done|exact rfl),(by (try dsimp only);simp only[go_sem,ff];first|done|exact rfl),(by (try dsimp only);simp only[go_sem,ff];first|done|exact rfl),(by (try dsimp only);exact⟨hsb.1,fun q q1 q2=>by (simp only[upd];repeat (first|rfl|rw[if_neg (by omega)]));exact hsb.2 q q1 q2⟩),(by first|(omega)|(dsimp only;omega)),trivial⟩) (h5:=fun _=>.inl rfl)
   refine dw_skip ?_
   show ∃ _,_
   exact pV ((dD (x,false)).2.2,_,_) (h1:=⟨(by (try dsimp only);unfold dz;rw[if_pos (by rw[<- hbe];exact c2),<- hbe,hrs,hye]),(by (try dsimp only);simp only[go_sem,ff];first|done|exact rfl),(by (try dsimp only);simp only[go_sem,ff];first|done|exact rfl),(by (try dsimp only);simp only[go_sem,ff];first|done|exact rfl),(by (try dsimp only);exact⟨hsb.1,fun q q1 q2=>by (simp only[upd];repeat (first|rfl|rw[if_neg (by omega)]));exact hsb.2 q q1 q2⟩),(by first|(omega)|(dsimp only;omega)),trivial⟩) (h5:=fun _=>.inl rfl)
  rintro⟨bd3,hz,nx⟩ ⟨hset,hRz,hrz,h6z,hs9,hnb, -⟩;simp only[X0,X3];have ff:=qG @hRz @hrz @h6z (nG (nb+9) nx) (nG R nx) (nG r nx) ff;refine aa Jl ?_;refine mW (nx+2) 4 66 160 ev (by rfl) (by simp only[go_sem,ff]) ?_
  simp only[YM,YF];obtain⟨C,hCe⟩:∃ C,C=(nx+2):=⟨_,rfl⟩;rw[<- hCe];obtain⟨O,hOe⟩:∃ O,O=(nx+4):=⟨_,rfl⟩;rw[<- hOe];have ff:=qG (nH R r) (nH C R) (nH O R) (nH C r) (nH O r) (nH C O) ff;refine ae (aA Jl 1 (hct:=by exact BL (y,bd3) _ _ R ⟨fb,ev⟩ hyl) (hk:=?_))
  rintro res h4 n4 ⟨rfl,hq4,hst4⟩
  try dsimp only at hst4
  have hl4:=hst4.1;obtain⟨f4,hR4⟩:=hq4;have kr4:h4 r=some ⟨66,o.map Sgd.d⟩:=kp hst4;have kC4:h4 C=some ⟨66,[[.v (.string (bs rs.name)),.i rs.ty,.i rs.life,.list false (rs.data.map Dat.d),.mrow O 0 0]]⟩:=kp hst4;have kO4:h4 O=some ⟨160,[]⟩:=kp hst4;have hs4:RStep h h4 R n n4:=(rv hs9 hst4);have hN2l:(ag 1 (y,bd3)).1<256^1:=j6 1 (y,bd3);obtain⟨N2,hN2e⟩:∃ N,N=(ag 1 (y,bd3)).1:=⟨_,rfl⟩
  try rw[<- hN2e]
  rw[<- hN2e] at hN2l;have e4:=oz (u:=N2) (by omega)
  obtain⟨y4,hy4e⟩:∃ x,x=(ag 1 (y,bd3)).2.1:=⟨_,rfl⟩;obtain⟨qR,hby4e⟩:∃ b,b=(ag 1 (y,bd3)).2.2:=⟨_,rfl⟩;rw[<- hy4e,<- hby4e] at hR4;have hy4l:y4.length<=1000000000:=by rw[hy4e];exact Yb (fM 1 (y,bd3)) hyl
  have hu4:(ag 1 (y,bd3)).2=(y4,qR):=by rw[hy4e,hby4e]
  have ff:=qA @hR4 (qI @kr4 @kC4 @kO4 (nG R n4) (nG r n4) (nG C n4) (nG O n4) @e4 ff);refine az Jl ?_;refine ae ?_;refine aa Jl ?_;refine ai ?_;refine eF (α:=(Nat)×(List RSig)×(Str)×(Bool)×(Nat)×(H)×Nat) [0,3,4,5,8,9] (fun ⟨j,g,xs,bs2,r2,hq2,nx⟩=>(j<=N2)/\(dV N2 [] (y4,qR)=dV (N2-j) g (xs,bs2))/\(g.length=j)/\(∃ f:Bool,hq2 R=some ⟨99,[[.list f ((xs).map bD),.v (.bool bs2)]]⟩)/\(hq2 C=some ⟨66,[[.v (.string (bs rs.name)),.i rs.ty,.i rs.life,.list false (rs.data.map Dat.d),.mrow r2 0 j]]⟩)/\(hq2 r2=some ⟨160,g.map RSig.d⟩)/\(hq2 r=some ⟨66,o.map Sgd.d⟩)/\(RStep h hq2 R n nx)/\(C<r2)/\(r2<nx)/\(xs.length<=1000000000)/\True) (fun ⟨j,g,xs,bs2,r2,hq2,nx⟩=>N2-j) (fun ⟨j,g,xs,bs2,r2,hq2,nx⟩=>[(10,.i j)]) (fun ⟨j,g,xs,bs2,r2,hq2,nx⟩=>hq2) (fun ⟨j,g,xs,bs2,r2,hq2,nx⟩=>nx) (0,[],y4,qR,O,h4,_) (hA:=⟨iv,rfl,rfl,(by first|(exact⟨f4,hR4⟩)|(dsimp only;exact⟨f4,hR4⟩)),(by first|(exact kC4)|(dsimp only;exact kC4)),(by first|(exact kO4)|(dsimp only;exact kO4)),(by first|(exact kr4)|(dsimp only;exact kr4)),(by first|(exact hs4.up om)|(dsimp only;exact hs4.up om)),(by first|(omega)|(dsimp only;omega)),(by first|(omega)|(dsimp only;omega)),(by first|(exact hy4l)|(dsimp only;exact hy4l)),trivial⟩) (round:=?_)
  rintro⟨j,g,xs,bs2,r2,hq2,nx⟩ ⟨hj,hps2,hol2,hb12,hC,hg,hr12,hstB,hCr,hr2x,hxsl, -⟩;simp only[X0,X3];obtain⟨fs2,hR12⟩:=hb12;have ff:=qG @hR12 @hC @hg @hr12 (nG R nx) (nG r nx) (qI (nG C nx) (nG r2 nx) (nH R r) (nH C R) (nH R r2) (nH C r) (nH r r2) (nH C r2) ff);refine oL Jl (fun c3=>?_) (fun c3=>?_) (hq:=rfl)
  .
   have hj2:j<N2:=by have:=c3.1;omega
   have hbf2:bs2=false:=by have:=c3.2;simpa using this
   subst hbf2;obtain⟨M2,hM2⟩:∃ M,N2-j=M+1:=⟨N2-j-1,om⟩;refine ae ?_;refine ai ?_;refine ae (aA Jl 1 (hct:=by exact yH (xs,false) _ _ R ⟨fs2,ev⟩ hxsl) (hk:=?_))
   rintro res h5 n5 ⟨rfl,qz,hst5⟩
   try dsimp only at hst5
   have hl5:=hst5.1;obtain⟨f5,hR5⟩:=qz;have kr5:h5 r=some ⟨66,o.map Sgd.d⟩:=kp hst5;have kC5:h5 C=some ⟨66,[[.v (.string (bs rs.name)),.i rs.ty,.i rs.life,.list false (rs.data.map Dat.d),.mrow r2 0 j]]⟩:=kp hst5;have kr25:h5 r2=some ⟨160,g.map RSig.d⟩:=kp hst5;have hs5:RStep h h5 R n n5:=(rv hstB hst5);obtain⟨zt,hzt⟩:∃ z,z=(aj (xs,false)).1:=⟨_,rfl⟩
   try rw[<- hzt]
   have hl5x:((aj (xs,false)).2).1.length<=1000000000:=Yb (xE (xs,false)) hxsl;have ff:=qI @hR5 @kr5 @kC5 @kr25 (nG R n5) (nG r n5) (nG C n5) (nG r2 n5) ff;refine az Jl ?_;refine ae (aA Jl 1 (hct:=by exact nK (nN 0 (aj (xs,false)).2) _ _ R ⟨f5,ev⟩ (Yb (nT 0 _) hl5x)) (hk:=?_))
   rintro res h6 n6 ⟨rfl,hq6,hst6⟩
   try dsimp only at hst6
   have hl6:=hst6.1;obtain⟨f6,hR6⟩:=hq6;have kr6:h6 r=some ⟨66,o.map Sgd.d⟩:=kp hst6;have kC6:h6 C=some ⟨66,[[.v (.string (bs rs.name)),.i rs.ty,.i rs.life,.list false (rs.data.map Dat.d),.mrow r2 0 j]]⟩:=kp hst6;have kr26:h6 r2=some ⟨160,g.map RSig.d⟩:=kp hst6;have hs6:RStep h h6 R n n6:=(rv hs5 hst6);have hv6:IntKind.i64.wrap (((ag 8 (nN 0 (aj (xs,false)).2)).1:Nat):Int)=nV 0 (aj (xs,false)).2:=rfl;have ff:=qA @hR6 (qI @kr6 @kC6 @kr26 (nG R n6) (nG r n6) (nG C n6) (nG r2 n6) @hv6 ff);refine az Jl ?_;refine ae (aA Jl 1 (hct:=by exact nK (nN 1 (aj (xs,false)).2) _ _ R ⟨f6,ev⟩ (Yb (nT 1 _) hl5x)) (hk:=?_))
   rintro res h7 n7 ⟨rfl,qy,hst7⟩
   try dsimp only at hst7
   have wz:=hst7.1;obtain⟨f7,hR7⟩:=qy;have kr7:h7 r=some ⟨66,o.map Sgd.d⟩:=kp hst7;have kC7:h7 C=some ⟨66,[[.v (.string (bs rs.name)),.i rs.ty,.i rs.life,.list false (rs.data.map Dat.d),.mrow r2 0 j]]⟩:=kp hst7;have kr27:h7 r2=some ⟨160,g.map RSig.d⟩:=kp hst7;have hs7:RStep h h7 R n n7:=(rv hs6 hst7);have hv7:IntKind.i64.wrap (((ag 8 (nN 1 (aj (xs,false)).2)).1:Nat):Int)=nV 1 (aj (xs,false)).2:=rfl;have ff:=qA @hR7 (qI @kr7 @kC7 @kr27 (nG R n7) (nG r n7) (nG C n7) (nG r2 n7) @hv7 ff);refine az Jl ?_;refine ae (aA Jl 1 (hct:=by exact nK (nN 2 (aj (xs,false)).2) _ _ R ⟨f7,ev⟩ (Yb (nT 2 _) hl5x)) (hk:=?_))
   rintro res h8 n8 ⟨rfl,hq8,hst8⟩
   try dsimp only at hst8
   have iy:=hst8.1;obtain⟨f8,hR8⟩:=hq8;have kr8:h8 r=some ⟨66,o.map Sgd.d⟩:=kp hst8;have kC8:h8 C=some ⟨66,[[.v (.string (bs rs.name)),.i rs.ty,.i rs.life,.list false (rs.data.map Dat.d),.mrow r2 0 j]]⟩:=kp hst8;have kr28:h8 r2=some ⟨160,g.map RSig.d⟩:=kp hst8;have hs8:RStep h h8 R n n8:=(rv hs7 hst8);have hv8:IntKind.i64.wrap (((ag 8 (nN 2 (aj (xs,false)).2)).1:Nat):Int)=nV 2 (aj (xs,false)).2:=rfl;have ff:=qA @hR8 (qI @kr8 @kC8 @kr28 (nG R n8) (nG r n8) (nG C n8) (nG r2 n8) @hv8 ff);refine az Jl ?_;refine ae (aA Jl 1 (hct:=by exact nK (nN 3 (aj (xs,false)).2) _ _ R ⟨f8,ev⟩ (Yb (nT 3 _) hl5x)) (hk:=?_))
   rintro res h9 n9 ⟨rfl,hq9,hst9⟩
   try dsimp only at hst9
   have su:=hst9.1;obtain⟨f9,hR9⟩:=hq9;have kr9:h9 r=some ⟨66,o.map Sgd.d⟩:=kp hst9;have kC9:h9 C=some ⟨66,[[.v (.string (bs rs.name)),.i rs.ty,.i rs.life,.list false (rs.data.map Dat.d),.mrow r2 0 j]]⟩:=kp hst9;have kr29:h9 r2=some ⟨160,g.map RSig.d⟩:=kp hst9;have hs9:RStep h h9 R n n9:=(rv hs8 hst9);have hv9:IntKind.i64.wrap (((ag 8 (nN 3 (aj (xs,false)).2)).1:Nat):Int)=nV 3 (aj (xs,false)).2:=rfl;have ff:=qA @hR9 (qI @kr9 @kC9 @kr29 (nG R n9) (nG r n9) (nG C n9) (nG r2 n9) @hv9 ff);refine az Jl ?_;refine q19 _ _ _ _ R C r2 j g (nN 4 (aj (xs,false)).2) f9 zt (nV 0 (aj (xs,false)).2) (nV 1 (aj (xs,false)).2) (nV 2 (aj (xs,false)).2) (nV 3 (aj (xs,false)).2) _ _ _ _ rfl rfl rfl rfl rfl rfl rfl ev ev ev hol2 om (Yb (nT 4 _) hl5x) om om oW ?_;intro t9 hA nA fA hlow hlA hRA kCA kgA hkA
   try dsimp only at hlA hkA
   have krA:hA r=some ⟨66,o.map Sgd.d⟩:=(hkA r om om om om).trans ev;have hsA:RStep h hA R n nA:=⟨om,fun q q1 q2=>(hkA q om q2 om om).trans (hs9.2 q q1 q2)⟩
   have hsig:=OZ (xs,false);rw[<- hzt] at hsig;have hRA:hA R=some ⟨99,[[.list fA (((ek (xs,false)).2.1).map bD),.v (.bool (ek (xs,false)).2.2)]]⟩:=hRA;have kgA:hA (nA+11)=some ⟨160,(g++[(ek (xs,false)).1]).map RSig.d⟩:=by rw[hsig];exact kgA
   have l0:t9 0 = .mptr R 0 0:=(hlow 0 om).trans rfl;have l3:t9 3 = .mrow r 0 k:=(hlow 3 om).trans rfl;have l4:t9 4 = .i N:=(hlow 4 om).trans rfl;have l5:t9 5 = .i k:=(hlow 5 om).trans rfl;have l8:t9 8 = .mptr C 0 0:=(hlow 8 om).trans rfl;have l9:t9 9 = .i N2:=(hlow 9 om).trans rfl;have l10:t9 10 = .i j:=(hlow 10 om).trans rfl;have ff:=qG hRA kCA kgA krA l0 l3 (qI l4 l5 l8 l9 l10 (nG R nA) (nG r nA) (nG C nA) ff);refine ah Jl ?_
   show ∃ _,_
   exact ak (j+1,g++[(ek (xs,false)).1],(ek (xs,false)).2.1,(ek (xs,false)).2.2,(nA+11),_,_) (h1:=⟨iv,(by (try dsimp only);rw[hps2,hM2,Bp,show N2-(j+1)=M2 by omega]),(by (try dsimp only);rw[List.length_append,hol2];rfl),(by first|(exact⟨fA,hRA⟩)|(dsimp only;exact⟨fA,hRA⟩)),(by first|(exact kCA)|(dsimp only;exact kCA)),(by first|(exact kgA)|(dsimp only;exact kgA)),(by first|(exact krA)|(dsimp only;exact krA)),(by first|(exact hsA.up (by omega))|(dsimp only;exact hsA.up (by omega))),(by first|(omega)|(dsimp only;omega)),(by first|(omega)|(dsimp only;omega)),(by (try dsimp only);exact Nat.le_trans (nT 5 _) hl5x),trivial⟩) (h5:=fun _=>.inl rfl)
  have hps8:dV N2 [] (y4,qR)=(g,(xs,bs2)):=by (rw[hps2];cases hbd:bs2 with|true=>exact xW rfl g _|false=>rw[hbd] at c3;have:N2-j=0:=(by simp at c3;omega);rw[this];rfl)
  have hfull:=Pb (g:=g) (x4:=xs) (b4:=bs2) hset hu4 (by first|exact hps8|(rw[<- hN2e];exact hps8))
  refine aB ?_;refine lZ C 4 r2 (rows:=g.map RSig.d) (off:=0) (len:=j) ev rfl ev om (by simp[hol2]) vU ?_
  simp only[X8,lI,YM,YF];rw[Yp (by simp[hol2])]
  refine ah Jl ?_;refine ah Jl ?_
  show ∃ _,_
  exact ak (k+1,o++[(dB (x,false)).1],(dB (x,false)).2.1,(dB (x,false)).2.2,(nx+13),_,_) (h1:=⟨iv,(by (try dsimp only);rw[hps,hM,xX,show N-(k+1)=M by omega]),(by (try dsimp only);rw[List.length_append,hol];rfl),(by (try dsimp only);rw[hfull];exact⟨fs2,ev⟩),(by (try dsimp only);rw[hfull];simp only[go_sem,ff,List.map_append,List.map_cons,List.map_nil];first|done|exact rfl),(by (try dsimp only);exact (rv hstB (RStep.refl (Nat.le_refl _)))),(by first|(omega)|(dsimp only;omega)),(by first|(omega)|(dsimp only;omega)),(by first|(rw[hfull];exact hxsl)|(dsimp only;rw[hfull];exact hxsl)),trivial⟩) (h5:=fun _=>.inl rfl)
 have hps9:dW N [] (x4,b4)=(o,(x,bd)):=by (rw[hps];cases hbd:bd with|true=>exact xZ rfl o _|false=>rw[hbd] at c1;have:N-k=0:=(by simp at c1;omega);rw[this];rfl)
 refine aB ?_
 refine zZ 3 r (rows:=o.map Sgd.d) (off:=0) (len:=k) ev ev (by simp[hol]) ug ?_
 rw[X8,Yp (by simp[hol])]
 refine aa Jl ?_
 refine aO ?_
 exact bu (_) (hh:=fun _=>.inl rfl) (hr:=oS (k:=by rw[hpe,hps9];exact⟨rfl,⟨fs,ev⟩,(rv hst (RStep.refl (XX _)))⟩))
end Go.Proofs.YtjngdcldglkolaaGreatDoor
namespace Go.Proofs.YtjngdcldglkolaaGreatDoor
open Go.DL Go.Str Go.Rec Go.Cmp Go.Zon Go.Jn
set_option maxRecDepth 10000
variable [Glob Tryz.prog] [Told]
noncomputable def c9:Code:=(dC (lV (lW (dC (lV (lV (dC (lW (dC (dC (dC (dC (dC (Tryz.f58.body.getD .skip))))))))))))))
theorem q9 {ro:Option Nat}{Q:Exit->S->Prop}(t:Nat->D) (h:H) (nx:Nat) (e:Env) (R C r2 j:Nat) (g:List Qst) (st:RS) (f9:Bool) (zt:Str) (a b c d:D)
  (t0:t 0 = .mptr R 0 0) (t3:t 3 = .mptr C 0 0) (t6:t 6 = .v (.string (bs zt)))
  (hR:h R=some ⟨99,[[.list f9 (st.1.map bD),.v (.bool st.2)]]⟩) (hC:h C=some ⟨31,[[a,b,c,.mrow r2 0 j,d]]⟩) (hg:h r2=some ⟨86,g.map Qst.d⟩) (hj:g.length=j) (hjb:j<=10000000000)
  (hx:st.1.length<=1000000000) (hRC:R<C) (hCr:C<r2) (hrn:r2<nx)
  (hk : ∀ (t':Nat->D) (h':H) (nA:Nat) (f:Bool),(∀ i,i<35->t' i=t i)->nx<=nA->h' R=some ⟨99,[[.list f ((ag 1 st).2.1.map bD),.v (.bool (ag 1 st).2.2)]]⟩->h' C=some ⟨31,[[a,b,c,.mrow (nA+8) 0 (j+1),d]]⟩ ->
   h' (nA+8)=some ⟨86,(g++[(⟨zt,sN (ag 1 st).1⟩:Qst)]).map Qst.d⟩->(∀ q,q<nx->q≠R->q≠C->q≠r2->h' q=h q)->Q .normal { n:=49,t:=t',h:=h',nx:=nA+11,e:=e }) :
  DW Tryz.prog ro c9 Q { n:=49,t:=t,h:=h,nx:=nx,e:=e }:=by
 have e1:IntKind.i64.wrap (((ag 1 st).1:Nat):Int)=sN (ag 1 st).1:=rfl
 have ff:=qA t0 (qI t3 t6 hR hC hg (nH C R) (nH R r2) (nH C r2) e1)
 unfold c9 Tryz.f58
 simp only[YT,dC,lW,lV]
 refine Ac Jl 4 5 8 [(1,35)] (R:=_) (X:=fun _ _ _=>False) (hct:=by exact (BL st _ _ R ⟨f9,ev⟩ hx).xct) (hp:=fun c9 h9 n9 hx9=>hx9.elim) (hkeep:=?_) (hFo:=?_) (hk:=?_)
 .
  rintro res h2 n2 ⟨_,_,hst9⟩ p hp r9 hrr;simp only[Yq] at hp;subst hp;simp only[go_sem,ff,sd,named,YG] at hrr ⊢;subst hrr;exact hst9.2 _ oW om
 .
  rintro res h2 n2 ⟨rfl,_,_⟩
  (try simp only[Yf,X8,Ya,Yj,S.put,YC,Nat.reduceSub,Nat.reduceAdd,go_sem,ff])
  all_goals exact ok0
 rintro res hA nA ⟨rfl,hqA,hstA⟩
 try dsimp only at hstA
 have hlA:=hstA.1
 obtain⟨fA,hRA⟩:=hqA
 have kC:hA C=some ⟨31,[[a,b,c,.mrow r2 0 j,d]]⟩:=(hstA.2 C om om).trans hC
 have kg:hA r2=some ⟨86,g.map Qst.d⟩:=(hstA.2 r2 om om).trans hg
 have n2 : ∀ k:Nat,(nA+k=R)=False:=fun k=>Y6 om
 have ff:=qH hRA kC kg (nG R nA) n2 (nG C nA) (nG r2 nA) ff
 refine gto ?_
 refine aN Jl ?_
 try simp only[aF]
 refine hk _ _ nA fA (fun i hi=>?_) om ev ev (by simp only[go_sem,ff,YS,X9,Yx];first|done|exact rfl) (fun q q1 q2 q3 q4=>?_)
 .
  simp only[upd]
  repeat rw[XZ (by omega)]
 simp only[upd]
 repeat rw[XZ (by omega)]
 exact hstA.2 q om q2
theorem RL {st0:RS}{x:Str}{b:Bool}{o:List Qst}(h:dM (ag 4 (nN 2 (aj st0).2)).1 [] (ag 4 (nN 2 (aj st0).2)).2=(o,(x,b))):aZ st0=(⟨(aj st0).1,nV 0 (aj st0).2,nV 1 (aj st0).2,o,(dL (x,b)).1⟩,(dL (x,b)).2):=by
 show (⟨(aj st0).1,nV 0 (aj st0).2,nV 1 (aj st0).2,(dM (ag 4 (nN 2 (aj st0).2)).1 [] (ag 4 (nN 2 (aj st0).2)).2).1,(dL (dM (ag 4 (nN 2 (aj st0).2)).1 [] (ag 4 (nN 2 (aj st0).2)).2).2).1⟩,(dL (dM (ag 4 (nN 2 (aj st0).2)).1 [] (ag 4 (nN 2 (aj st0).2)).2).2).2)=((_,_):Dlt×RS)
 rw[h]
set_option maxHeartbeats 4000000
theorem QV (st:RS) (h:H) (n R:Nat) (hb:gJ h R st) (hx:st.1.length<=1000000000):RCt Tryz.prog 57 [.mptr R 0 0] h n (fun d h' n'=>d = .agg (bX st).1.d/\gJ h' R (bX st).2/\RStep h h' R n n'):=by
 refine oP Tryz.func57 fun hnone ff=>?_
 unfold Tryz.f57
 obtain⟨f,hR⟩:=hb
 have hRn:R<n:=by rcases Zd R n with q|q;exact q;rw[hnone R q] at hR;cases hR
 have ff:=qD @hR (nG R n) (nH R n) ff
 refine aa Jl ?_
 refine ae (aA Jl 1 (hct:=by exact yH st _ _ R ⟨f,ev⟩ hx) (hk:=?_))
 rintro res h2 n2 ⟨rfl,hq2,hst2⟩
 try dsimp only at hst2
 have hl2:=hst2.1
 obtain⟨f2,hR2⟩:=hq2
 have kn2:h2 n=some ⟨28,[[.v (.string (bs [])),.list true []]]⟩:=kp hst2
 have hs2:RStep h h2 R n n2:=(rv (RStep.refl (h:=h) (R:=R) (XX n)) hst2)
 have hx2:=Yb (xE st) hx
 have ff:=qE @hR2 @kn2 (nG R n2) (nG n n2) ff
 refine az Jl ?_
 refine ae (aA Jl 2 (hct:=by exact G7 (aj st).2 _ _ R ⟨f2,ev⟩ hx2) (hk:=?_))
 rintro res h3 n3 ⟨rfl,hq3,hst3⟩
 try dsimp only at hst3
 have hl3:=hst3.1
 obtain⟨f3,hR3⟩:=hq3
 have kn3:h3 n=some ⟨28,[[.v (.string (bs [])),.list true []]]⟩:=kp hst3
 have hs3:RStep h h3 R n n3:=(rv hs2 hst3)
 have ff:=qE @hR3 @kn3 (nG R n3) (nG n n3) ff
 refine az Jl ?_
 refine aO ?_
 exact bu (_) (hh:=fun _=>.inl rfl) (hr:=oS (k:=by exact⟨rfl,⟨f3,ev⟩,(rv hs3 (RStep.refl (XX _)))⟩))
theorem Hg (st0:RS) (h:H) (n R:Nat) (hb:gJ h R st0) (hx:st0.1.length<=1000000000):RCt Tryz.prog 58 [.mptr R 0 0] h n (fun d h' n'=>d = .agg (aZ st0).1.d/\gJ h' R (aZ st0).2/\RStep h h' R n n'):=by
 refine oP Tryz.func58 fun hnone ff=>?_
 unfold Tryz.f58
 obtain⟨f,hR⟩:=hb
 have hRn:R<n:=by rcases Zd R n with q|q;exact q;rw[hnone R q] at hR;cases hR
 have ff:=qD @hR (nG R n) (nH R n) ff
 refine aa Jl ?_
 refine ae (aA Jl 1 (hct:=by exact yH st0 _ _ R ⟨f,ev⟩ hx) (hk:=?_))
 rintro res ha na ⟨rfl,hqa,hsta⟩
 try dsimp only at hsta
 have hla:=hsta.1
 obtain⟨fa,hRa⟩:=hqa
 have kna:ha n=some ⟨31,[[.v (.string (bs [])),.i 0,.i 0,.list true [],.list true []]]⟩:=kp hsta
 have hsa:RStep h ha R n na:=(rv (RStep.refl (h:=h) (R:=R) (XX n)) hsta)
 obtain⟨zt,hzt⟩:∃ z,z=(aj st0).1:=⟨_,rfl⟩
 try rw[<- hzt]
 have hxa:(aj st0).2.1.length<=1000000000:=Yb (xE st0) hx
 have ff:=qE @hRa @kna (nG R na) (nG n na) ff
 refine az Jl ?_
 obtain⟨C,hCe⟩:∃ C,C=na+3:=⟨_,rfl⟩
 rw[<- hCe]
 have ff:=qD (nH R n) (nH C R) (nH C n) ff
 refine ae (aA Jl 1 (hct:=by exact nK (nN 0 (aj st0).2) _ _ R ⟨fa,ev⟩ hxa) (hk:=?_))
 rintro res hb nb ⟨rfl,hqb,hstb⟩
 try dsimp only at hstb
 have hlb:=hstb.1
 obtain⟨fb,hRb⟩:=hqb
 have knb:hb n=some ⟨31,[[.v (.string (bs [])),.i 0,.i 0,.list true [],.list true []]]⟩:=kp hstb
 have kCb:hb C=some ⟨31,[[.v (.string (bs zt)),.i 0,.i 0,.list true [],.list true []]]⟩:=kp hstb
 have hsb:RStep h hb R n nb:=(rv hsa hstb)
 have hv0:IntKind.i64.wrap (((ag 8 (nN 0 (aj st0).2)).1:Nat):Int)=nV 0 (aj st0).2:=rfl
 have ff:=qH @hRb @knb @kCb (nG R nb) (nG n nb) (nG C nb) @hv0 ff
 refine az Jl ?_
 refine ae (aA Jl 1 (hct:=by exact nK (nN 1 (aj st0).2) _ _ R ⟨fb,ev⟩ (Yb (nT 1 _) hxa)) (hk:=?_))
 rintro res hc nc ⟨rfl,hqc,hstc⟩
 try dsimp only at hstc
 have hlc:=hstc.1
 obtain⟨fc,hRc⟩:=hqc
 have knc:hc n=some ⟨31,[[.v (.string (bs [])),.i 0,.i 0,.list true [],.list true []]]⟩:=kp hstc
 have kCc:hc C=some ⟨31,[[.v (.string (bs zt)),.i (nV 0 (aj st0).2),.i 0,.list true [],.list true []]]⟩:=kp hstc
 have hsc:RStep h hc R n nc:=(rv hsb hstc)
 have hv1:IntKind.i64.wrap (((ag 8 (nN 1 (aj st0).2)).1:Nat):Int)=nV 1 (aj st0).2:=rfl
 have ff:=qH @hRc @knc @kCc (nG R nc) (nG n nc) (nG C nc) @hv1 ff
 refine az Jl ?_
 refine mW C 3 31 86 ev (by rfl) (by simp only[go_sem,ff]) ?_
 simp only[YM,YF]
 obtain⟨r,hre⟩:∃ r,r=(nc+5):=⟨_,rfl⟩
 rw[<- hre]
 have ff:=qG (nH R n) (nH C R) (nH R r) (nH C n) (nH n r) (nH C r) ff
 refine ae (aA Jl 1 (hct:=by exact BK (nN 2 (aj st0).2) _ _ R ⟨fc,ev⟩ (Yb (nT 2 _) hxa)) (hk:=?_))
 rintro res he ne ⟨rfl,hqe,hste⟩
 try dsimp only at hste
 have hle:=hste.1
 obtain⟨fe,hRe⟩:=hqe
 have kne:he n=some ⟨31,[[.v (.string (bs [])),.i 0,.i 0,.list true [],.list true []]]⟩:=kp hste
 have kCe:he C=some ⟨31,[[.v (.string (bs zt)),.i (nV 0 (aj st0).2),.i (nV 1 (aj st0).2),.mrow r 0 0,.list true []]]⟩:=kp hste
 have kre:he r=some ⟨86,[]⟩:=kp hste
 have hse:RStep h he R n ne:=(rv hsc hste)
 have hNl:(ag 4 (nN 2 (aj st0).2)).1<256^4:=j6 4 _
 obtain⟨N,hNe⟩:∃ N,N=(ag 4 (nN 2 (aj st0).2)).1:=⟨_,rfl⟩
 try rw[<- hNe]
 rw[<- hNe] at hNl
 have e1:=oz (u:=N) (by omega)
 obtain⟨x4,hx4e⟩:∃ x,x=(ag 4 (nN 2 (aj st0).2)).2.1:=⟨_,rfl⟩
 obtain⟨b4,hb4e⟩:∃ b,b=(ag 4 (nN 2 (aj st0).2)).2.2:=⟨_,rfl⟩
 rw[<- hx4e,<- hb4e] at hRe
 have hx4:x4.length<=1000000000:=by rw[hx4e];exact Yb (fM 4 _) (Yb (nT 2 _) hxa)
 have hpe:dM (ag 4 (nN 2 (aj st0).2)).1 [] (ag 4 (nN 2 (aj st0).2)).2=dM N [] (x4,b4):=by rw[hNe,hx4e,hb4e]
 have ff:=qA @hRe (qI @kne @kCe @kre (nG R ne) (nG n ne) (nG C ne) (nG r ne) @e1 ff)
 refine az Jl ?_
 refine ae ?_
 refine aa Jl ?_
 refine ai ?_
 refine eF (α:=(Nat)×(List Qst)×(Str)×(Bool)×(Nat)×(H)×Nat) [0,2,3,4] (fun ⟨k,o,x,bd,r,hq,nx⟩=>(k<=N)/\(dM N [] (x4,b4)=dM (N-k) o (x,bd))/\(o.length=k)/\(∃ f:Bool,hq R=some ⟨99,[[.list f ((x).map bD),.v (.bool bd)]]⟩)/\(hq C=some ⟨31,[[.v (.string (bs zt)),.i (nV 0 (aj st0).2),.i (nV 1 (aj st0).2),.mrow r 0 k,.list true []]]⟩)/\(hq r=some ⟨86,o.map Qst.d⟩)/\(hq n=some ⟨31,[[.v (.string (bs [])),.i 0,.i 0,.list true [],.list true []]]⟩)/\(RStep h hq R n nx)/\(C<r)/\(r<nx)/\(x.length<=1000000000)/\True) (fun ⟨k,o,x,bd,r,hq,nx⟩=>N-k) (fun ⟨k,o,x,bd,r,hq,nx⟩=>[(5,.i k)]) (fun ⟨k,o,x,bd,r,hq,nx⟩=>hq) (fun ⟨k,o,x,bd,r,hq,nx⟩=>nx) (0,[],x4,b4,r,he,_) (hA:=⟨iv,rfl,rfl,(by first|(exact⟨fe,hRe⟩)|(dsimp only;exact⟨fe,hRe⟩)),(by first|(exact kCe)|(dsimp only;exact kCe)),(by first|(exact kre)|(dsimp only;exact kre)),(by first|(exact kne)|(dsimp only;exact kne)),(by first|(exact hse.up om)|(dsimp only;exact hse.up om)),(by first|(omega)|(dsimp only;omega)),(by first|(omega)|(dsimp only;omega)),(by first|(exact hx4)|(dsimp only;exact hx4)),trivial⟩) (round:=?_)
 rintro⟨k,o,x,bd,r,hq,nx⟩ ⟨hk,hps,hol,hb7,hC,hr,hn,hst,hCr,hrx,hxl, -⟩
 simp only[X0,X3]
 obtain⟨fs,hR7⟩:=hb7
 have hlx:=hst.1
 have ff:=qG @hR7 @hC @hr @hn (nG R nx) (nG n nx) (qI (nG C nx) (nG r nx) (nH R n) (nH C R) (nH R r) (nH C n) (nH n r) (nH C r) ff)
 refine oL Jl (fun c1=>?_) (fun c1=>?_) (hq:=rfl)
 .
  have hk2:k<N:=by have:=c1.1;omega
  have hbf:bd=false:=by have:=c1.2;simpa using this
  subst hbf;obtain⟨M,hM⟩:∃ M,N-k=M+1:=⟨N-k-1,om⟩;refine ae ?_;refine ai ?_;refine ae (aA Jl 1 (hct:=by exact yH (x,false) _ _ R ⟨fs,ev⟩ hxl) (hk:=?_))
  rintro res hg ng ⟨rfl,hqg,hstg⟩
  try dsimp only at hstg
  have hlg:=hstg.1;obtain⟨fg,hRg⟩:=hqg;have kng:hg n=some ⟨31,[[.v (.string (bs [])),.i 0,.i 0,.list true [],.list true []]]⟩:=kp hstg;have kCg:hg C=some ⟨31,[[.v (.string (bs zt)),.i (nV 0 (aj st0).2),.i (nV 1 (aj st0).2),.mrow r 0 k,.list true []]]⟩:=kp hstg;have krg:hg r=some ⟨86,o.map Qst.d⟩:=kp hstg;have hsg:RStep h hg R n ng:=(rv hst hstg);obtain⟨qt,hqt⟩:∃ z,z=(aj (x,false)).1:=⟨_,rfl⟩
  try rw[<- hqt]
  have hxg:(aj (x,false)).2.1.length<=1000000000:=Yb (xE (x,false)) hxl;have ff:=qI @hRg @kng @kCg @krg (nG R ng) (nG n ng) (nG C ng) (nG r ng) ff;refine az Jl ?_;refine q9 _ _ _ _ R C r k o (aj (x,false)).2 fg qt _ _ _ _ rfl rfl rfl ev ev ev hol om hxg om om oW ?_;intro t9 hA nA fA hlow hlA hRA kCA kgA hkA
  try dsimp only at hlA hkA
  have knA:hA n=some ⟨31,[[.v (.string (bs [])),.i 0,.i 0,.list true [],.list true []]]⟩:=(hkA n om om om om).trans ev;have hsA:RStep h hA R n nA:=⟨om,fun q q1 q2=>(hkA q om q2 om om).trans (hsg.2 q q1 q2)⟩
  have hqo:fE (x,false)=(⟨qt,sN (ag 1 (aj (x,false)).2).1⟩,(ag 1 (aj (x,false)).2).2):=by rw[hqt];rfl
  have hRA:hA R=some ⟨99,[[.list fA (((fE (x,false)).2.1).map bD),.v (.bool (fE (x,false)).2.2)]]⟩:=hRA;have kgA:hA (nA+8)=some ⟨86,(o++[(fE (x,false)).1]).map Qst.d⟩:=by rw[hqo];exact kgA
  have l0:t9 0 = .mptr R 0 0:=(hlow 0 om).trans rfl;have l2:t9 2 = .mptr n 0 0:=(hlow 2 om).trans rfl;have l3:t9 3 = .mptr C 0 0:=(hlow 3 om).trans rfl;have l4:t9 4 = .i N:=(hlow 4 om).trans rfl;have l5:t9 5 = .i k:=(hlow 5 om).trans rfl;have ff:=qE hRA kCA kgA knA (qI l0 l2 l3 l4 l5 (nG R nA) (nG n nA) (nG C nA) ff);refine ah Jl ?_
  show ∃ _,_
  exact ak (k+1,o++[(fE (x,false)).1],(fE (x,false)).2.1,(fE (x,false)).2.2,(nA+8),_,_) (h1:=⟨iv,(by (try dsimp only);rw[hps,hM,BO,show N-(k+1)=M by omega]),(by (try dsimp only);rw[List.length_append,hol];rfl),(by first|(exact⟨fA,hRA⟩)|(dsimp only;exact⟨fA,hRA⟩)),(by first|(exact kCA)|(dsimp only;exact kCA)),(by first|(exact kgA)|(dsimp only;exact kgA)),(by first|(exact knA)|(dsimp only;exact knA)),(by first|(exact hsA.up (by omega))|(dsimp only;exact hsA.up (by omega))),(by first|(omega)|(dsimp only;omega)),(by first|(omega)|(dsimp only;omega)),(by (try dsimp only);exact Nat.le_trans (fM 1 _) hxg),trivial⟩) (h5:=fun _=>.inl rfl)
 have hps9:dM N [] (x4,b4)=(o,(x,bd)):=by (rw[hps];cases hbd:bd with|true=>exact tY rfl o _|false=>rw[hbd] at c1;have:N-k=0:=(by simp at c1;omega);rw[this];rfl)
 have hfull:=RL (hpe.trans hps9)
 refine aB ?_
 refine lZ C 3 r (rows:=o.map Qst.d) (off:=0) (len:=k) ev rfl ev om (by simp[hol]) IB ?_
 simp only[X8,lI,YM,YF]
 rw[Yp (by simp[hol])]
 refine ae (aA Jl 1 (hct:=by exact G7 (x,bd) _ _ R ⟨fs,ev⟩ hxl) (hk:=?_))
 rintro res hi ni ⟨rfl,hqi,hsti⟩
 try dsimp only at hsti
 have hli:=hsti.1
 obtain⟨fi,hRi⟩:=hqi
 have kni:hi n=some ⟨31,[[.v (.string (bs [])),.i 0,.i 0,.list true [],.list true []]]⟩:=kp hsti
 have kCi:hi C=some ⟨31,[[.v (.string (bs zt)),.i (nV 0 (aj st0).2),.i (nV 1 (aj st0).2),.list false (o.map Qst.d),.list true []]]⟩:=kp hsti
 have hsi:RStep h hi R n ni:=(rv hst hsti)
 have ff:=qG @hRi @kni @kCi (nG R ni) (nG n ni) (nG C ni) ff
 refine az Jl ?_
 refine aa Jl ?_
 refine aO ?_
 exact bu (_) (hh:=fun _=>.inl rfl) (hr:=oS (k:=by rw[hfull,<- hzt];exact⟨rfl,⟨fi,ev⟩,(rv hsi (RStep.refl (XX _)))⟩))
end Go.Proofs.YtjngdcldglkolaaGreatDoor
namespace Go.Proofs.YtjngdcldglkolaaGreatDoor
open Go.DL Go.Str Go.Rec Go.Cmp Go.Zon Go.Jn
set_option maxRecDepth 10000
variable [Glob Tryz.prog] [Told]
end Go.Proofs.YtjngdcldglkolaaGreatDoor
namespace Go.Proofs.YtjngdcldglkolaaGreatDoor
open Go.DL Go.Str Go.Rec Go.Cmp Go.Zon Go.Jn
set_option maxRecDepth 10000
variable [Glob Tryz.prog] [Told]
end Go.Proofs.YtjngdcldglkolaaGreatDoor
namespace Go.Proofs.YtjngdcldglkolaaGreatDoor
open Go.DL Go.Str Go.Rec Go.Cmp Go.Zon Go.Jn
set_option maxRecDepth 10000
variable [Glob Tryz.prog] [Told]
end Go.Proofs.YtjngdcldglkolaaGreatDoor
namespace Go.Proofs.YtjngdcldglkolaaGreatDoor
open Go.DL Go.Str Go.Rec Go.Cmp Go.Zon Go.Jn
set_option maxRecDepth 10000
variable [Glob Tryz.prog] [Told]
theorem RI (k:Int) (st:RS):(aC k st).1.length<=st.1.length:=by
 unfold aC
 split
 .
  exact Yl _
 show (st.1.take k.toNat).length<=_
 rw[Yr]
 exact Nat.min_le_right _ _
set_option maxHeartbeats 4000000
theorem Hd (w:Str) (k:Int) (hw:w.length<=1000000000) (hk:0<=k):PureCt Tryz.prog 56 [.list false (w.map bD),.i k] (.tuple [.i (fst1 k.toNat w).1,.list false ((fst1 k.toNat w).2.map bD)]):=by
 refine oO Tryz.func56 fun ff=>?_
 unfold Tryz.f56
 obtain⟨m,rfl⟩:∃ m:Nat,k=m:=⟨k.toNat,om⟩
 have ekm:((m:Int)).toNat=m:=Int.toNat_natCast m
 have ff:=qA @ekm ff
 refine aa Jl ?_
 refine ae ?_
 by_cases h13:13<=w.length
 .
  have h0:0<w.length:=by omega
  have hdm:(w.map bD).drop 1=(w.drop 1).map bD:=List.map_drop.symm;have htm:(w.map bD).take 5=(w.take 5).map bD:=ZT.symm;have hE1:((1:Int)).toNat=1:=rfl;have hE5:((5:Int)).toNat=5:=rfl;have hx1:(w.drop 1).length<=1000000000:=by rw[Yi];omega
  have hb0:=(w.getD 0 0).toNat_lt;have e0:IntKind.i64.wrap ((w.getD 0 0).toNat:Int)=((w.getD 0 0).toNat:Int):=by rw[IntKind.wrap_i64];omega
  have ff:=qG (oQ (n:=0) h0) @hdm @htm @hE1 @hE5 @e0 ff;refine aa Jl ?_;refine cd (fun c1=>?_) (fun c1=>?_)
  .
   have hF0:fst1 m w=(0,[]):=J7 (.inr om);refine aa Jl ?_;exact fo 1 (k:=by rw[hF0];rfl)
  have hkk:(w.getD 0 0).toNat=m:=by omega
  refine dw_skip ?_;refine aa Jl ?_;refine ae (aA Jl 1 (hct:=by exact BK (w.drop 1,false) _ _ 16 ⟨_,ev⟩ hx1) (hk:=?_))
  rintro res h2 n2 ⟨rfl,hq2,hst2⟩
  try dsimp only at hst2
  have hl2:=hst2.1;obtain⟨f2,hR2⟩:=hq2;obtain⟨A,hA⟩:∃ v,v=ag 4 (w.drop 1,false):=⟨_,rfl⟩;rw[<- hA] at hR2
  try rw[<- hA]
  have hAl:A.1<256^4:=by rw[hA];exact j6 4 _
  have e1:=oz (u:=A.1) (by omega)
  have hA2:A.2.1.length<=1000000000:=by rw[hA];exact Yb (fM 4 _) hx1
  have ff:=qD @hR2 (nG 16 n2) @e1 ff;refine az Jl ?_;refine ae (aA Jl 1 (hct:=by exact nK A.2 _ _ 16 ⟨f2,ev⟩ hA2) (hk:=?_))
  rintro res h3 n3 ⟨rfl,hq3,hst3⟩
  try dsimp only at hst3
  have hl3:=hst3.1;obtain⟨f3,hR3⟩:=hq3;obtain⟨B,hB⟩:∃ v,v=ag 8 A.2:=⟨_,rfl⟩;rw[<- hB] at hR3
  try rw[<- hB]
  have hB2:B.2.1.length<=1000000000:=by rw[hB];exact Yb (fM 8 _) hA2
  have ff:=qB @hR3 (nG 16 n3) ff;refine az Jl ?_;refine ae (aA Jl 2 (hct:=by exact yI B.2.1 B.2.2 A.1 _ _ 16 ⟨f3,ev⟩ hB2 om) (hk:=?_))
  rintro res h4 n4 ⟨⟨g4,rfl⟩,hq4,hst4⟩
  try dsimp only at hst4
  have hl4:=hst4.1;obtain⟨f4,hR4⟩:=hq4;obtain⟨C,hC⟩:∃ v,v=aC (A.1:Nat) (B.2.1,B.2.2):=⟨_,rfl⟩;rw[<- hC] at hR4
  try rw[<- hC]
  have hC2:C.2.1.length<=1000000000:=by rw[hC];exact Yb (fM _ _) hB2
  have hC1:C.1.length<=1000000000:=by rw[hC];exact Yb (RI _ _) hB2
  have ff:=qB @hR4 (nG 16 n4) ff;refine az Jl ?_;refine ae (aA Jl 1 (hct:=by exact nK C.2 _ _ 16 ⟨f4,ev⟩ hC2) (hk:=?_))
  rintro res h5 n5 ⟨rfl,qz,hst5⟩
  try dsimp only at hst5
  have hl5:=hst5.1;obtain⟨f5,hR5⟩:=qz;obtain⟨E,hE⟩:∃ v,v=ag 8 C.2:=⟨_,rfl⟩;rw[<- hE] at hR5
  try rw[<- hE]
  have ff:=qB @hR5 (nG 16 n5) ff;refine az Jl ?_;refine oK Jl (fun c2=>?_) (fun c2=>?_) (hok:=oI (GJ (w.take 5) (by rw[Yr];omega)) (GJ C.1 (by omega)))
  .
   refine aa Jl ?_;exact fo 1 (k:=by rw[Ke h13 (by omega),<- hA,<- hB];rw[show aC (A.1:Nat) B.2=C from hC.symm,<- hE];rw[if_pos (by grind)];rfl)
  refine aa Jl ?_;exact fo 1 (k:=by rw[Ke h13 (by omega),<- hA,<- hB];rw[show aC (A.1:Nat) B.2=C from hC.symm,<- hE];rw[if_neg (by grind)];first|rfl|(simp;omega))
 refine aa Jl ?_
 refine cd (fun c1=>?_) (fun c1=>?_) (hp:=rfl) (hq:=rfl)
 .
  have hF0:fst1 m w=(0,[]):=J7 (.inl om);refine aa Jl ?_;exact fo 1 (k:=by rw[hF0];rfl)
 exfalso;simp at c1;omega
end Go.Proofs.YtjngdcldglkolaaGreatDoor
namespace Go.Proofs.YtjngdcldglkolaaGreatDoor
open Go.DL Go.Str Go.Rec Go.Cmp Go.Zon Go.Jn
set_option maxRecDepth 10000
variable [Glob Tryz.prog] [Told]
theorem Q8 (w:Str) (hw:w.length<=1000000000):PureCt Tryz.prog 56 [.list false (w.map bD),.i 1] (.tuple [.i (fst1 1 w).1,.list false ((fst1 1 w).2.map bD)]):=Hd w 1 hw (by decide)
theorem He (w:Str) (hw:w.length<=1000000000):PureCt Tryz.prog 56 [.list false (w.map bD),.i 2] (.tuple [.i (fst1 2 w).1,.list false ((fst1 2 w).2.map bD)]):=Hd w 2 hw (by decide)
def IsN (h:H) (x:D) (E:List Nat) (C nx:Nat):Prop:=x = .list true (E.map nD) \/ ∃ r,x = .mrow r 0 E.length/\h r=some ⟨3,E.map nD⟩/\C<r/\r<nx
set_option maxHeartbeats 4000000
theorem tX (w:Str) (hw:w.length<=3000000):PureCt Tryz.prog 28 [.list false (w.map bD)] (.tuple [.agg (wholeZ w).d,.list false ((endsB w).map nD)]):=by
 refine oO Tryz.func28 fun ff=>?_
 unfold Tryz.f28
 have hv1:=zG 1 w
 have ff:=qE (show zon0.apex=[] from rfl) (show zon0.sets=[] from rfl) (show ((1:Int)).toNat=1 from rfl) (show ((2:Int)).toNat=2 from rfl) ff
 refine aa Jl ?_
 refine aa Jl ?_ (hok:=oF (Q8 w om))
 refine aa Jl ?_
 refine ae (aA Jl 1 (hct:=by exact QV ((fst1 1 w).2,false) _ _ 11 ⟨_,ev⟩ (by show (fst1 1 w).2.length<=_;omega)) (hk:=?_))
 rintro res h3 n3 ⟨rfl,hq3,hst3⟩
 try dsimp only at hst3
 have hl3:=hst3.1
 obtain⟨f3,hR3⟩:=hq3
 obtain⟨z,hze⟩:∃ z,z=(bX ((fst1 1 w).2,false)).1:=⟨_,rfl⟩
 try rw[<- hze]
 have hzr:=uV z
 have k03:h3 0=some ⟨28,[[.v (.string (bs [])),.list true []]]⟩:=(hst3.2 0 om om).trans ev
 have ff:=qE @hR3 @k03 (nG 0 n3) (nG 11 n3) ff
 refine az Jl ?_
 refine aa Jl ?_ (hok:=oF (yE z))
 refine oK Jl (fun c1=>?_) (fun c1=>?_)
 .
  have hno:=Nw (Og (w:=w) (by rw[<- hze,hzr];grind))
  refine aa Jl ?_;exact fo 2 (k:=by rw[hno.1,hno.2];first|done|rfl|(simp;done))
 have hst9:=Oe (w:=w) (by grind) (by grind) (by grind) (by rw[<- hze,hzr];grind)
 rw[<- hze] at hst9
 refine aa Jl ?_
 refine ai ?_
 refine dw_nh (fun hw9 hwe=>?_)
 dsimp only at hwe ⊢
 have h0w:hw9 0=some ⟨28,[[.v (.string (bs [])),.list true []]]⟩:=by rw[hwe];simp only[go_sem,ff];first|done|exact rfl
 have hCw:hw9 (n3+2)=some ⟨28,[[.v (.string (bs z.apex)),.list false (z.sets.map Sgd.d)]]⟩:=by rw[hwe];simp only[go_sem,ff];first|done|exact rfl
 refine eF (α:=(Nat)×(Zon)×(List Nat)×(D)×(Nat)×(H)×Nat) [0,2] (fun ⟨a,z,E,x9,C,hq,nx⟩=>(xk w a z E)/\(E.length<=a)/\(IsN hq x9 E C nx)/\(hq C=some ⟨28,[[.v (.string (bs z.apex)),.list false (z.sets.map Sgd.d)]]⟩)/\(hq 0=some ⟨28,[[.v (.string (bs [])),.list true []]]⟩)/\(0<C)/\(C<nx)/\True) (fun ⟨a,z,E,x9,C,hq,nx⟩=>w.length-a) (fun ⟨a,z,E,x9,C,hq,nx⟩=>[(4,.i a),(7,.mptr C 0 0),(9,x9)]) (fun ⟨a,z,E,x9,C,hq,nx⟩=>hq) (fun ⟨a,z,E,x9,C,hq,nx⟩=>nx) ((fst1 1 w).1,z,[(fst1 1 w).1],.list true [[.i (fst1 1 w).1]],(n3+2),hw9,_) (hA:=⟨(by first|(exact K8 hst9)|(dsimp only;exact K8 hst9)),(by (try dsimp only);exact Nat.pos_of_ne_zero (by grind)),(by first|(exact .inl rfl)|(dsimp only;exact .inl rfl)),(by first|(exact hCw)|(dsimp only;exact hCw)),(by first|(exact h0w)|(dsimp only;exact h0w)),(by first|(omega)|(dsimp only;omega)),(by first|(omega)|(dsimp only;omega)),trivial⟩) (round:=?_)
 rintro⟨a,z,E,x9,C,hq,nx⟩ ⟨hD,hEl,hI,hC,h00,hC0,hCx, -⟩
 simp only[X0,X3]
 have ha:=hD.le
 have hv2:=zG 2 (w.drop a)
 rw[Yi] at hv2
 have hdm:(w.map bD).drop a=(w.drop a).map bD:=List.map_drop.symm
 have ff:=qG @hC @h00 @hdm (nH 0 C) (nG 0 nx) (nG C nx) ff
 refine ai ?_
 rcases hI with rfl|⟨r,rfl,hr,hCr,hrx⟩
 .
  refine aa Jl ?_ (hok:=oH (He (w.drop a) (by rw[Yi];omega)))
  refine aa Jl ?_;obtain⟨q7,qy⟩:∃ q,q=(nx+11):=⟨_,rfl⟩;rw[<- qy];have ff:=qB (nH C q7) (nH 0 q7) ff;refine ae (aA Jl 1 (hct:=by exact Hg ((fst1 2 (w.drop a)).2,false) _ _ q7 ⟨_,ev⟩ (by show (fst1 2 (w.drop a)).2.length<=_;omega)) (hk:=?_))
  rintro res h4 n4 ⟨rfl,hq4,hst4⟩
  try dsimp only at hst4
  have hl4:=hst4.1;obtain⟨f4,hR4⟩:=hq4;obtain⟨x,hxe⟩:∃ x,x=(aZ ((fst1 2 (w.drop a)).2,false)).1:=⟨_,rfl⟩
  try rw[<- hxe]
  have k04:h4 0=some ⟨28,[[.v (.string (bs [])),.list true []]]⟩:=(hst4.2 0 om om).trans ev;have kC4:h4 C=some ⟨28,[[.v (.string (bs z.apex)),.list false (z.sets.map Sgd.d)]]⟩:=(hst4.2 C om om).trans ev;have ff:=qG @hR4 @k04 @kC4 (nG 0 n4) (nG C n4) (nG q7 n4) ff;refine az Jl ?_;refine oK Jl (fun c2=>?_) (fun c2=>?_)
  .
   have hend:=Ad hD (xN (z:=z) (w:=w.drop a) (by grind))
   refine aa Jl ?_;exact fo 2 (k:=by rw[hend.1,hend.2];first|done|rfl|(simp;done))
  have g1:(fst1 2 (w.drop a)).1≠0:=by grind
  have g2:(aZ ((fst1 2 (w.drop a)).2,false)).2.2=false:=by grind
  have g3 : ¬ 0<(aZ ((fst1 2 (w.drop a)).2,false)).2.1.length:=by grind
  rcases hA:applyP z x with⟨y,e⟩
  have hAR:applyR z x=(y,e):=by rw[MF];exact hA
  have ff:=qB @hAR @hA ff;refine aa Jl ?_ (hok:=oV (GM z x));refine oK Jl (fun c3=>?_) (fun c3=>?_)
  .
   have hend:=Ad hD (xN (z:=z) (w:=w.drop a) (.inr (.inr (.inr (by rw[<- hxe,hA];exact c3)))))
   refine aa Jl ?_;exact fo 2 (k:=by rw[hend.1,hend.2];first|done|rfl|(simp;done))
  obtain rfl:e=0:=by omega
  have hso:=Fg (z:=z) (w:=w.drop a) g1 g2 g3 (by rw[<- hxe];exact hA)
  have hnx:=K7 hD hso;have hln:=(gN (c:=some z) hso);refine aa Jl ?_;refine aa Jl ?_ (hok:=by (try simp only[go_sem,ff]);all_goals (first|done|((repeat' (with_reducible apply And.intro))<;>omega)))
  refine ah Jl ?_
  show ∃ _,_
  have e9:((a+(fst1 2 (w.drop a)).1:Nat):Int)=(a:Int)+((fst1 2 (w.drop a)).1:Int):=by omega
  have ff:=qA e9 ff;exact ak (a+(fst1 2 (w.drop a)).1,y,E++[a+(fst1 2 (w.drop a)).1],.mrow (n4+40) 0 (E.length+1),C,_,_) (h1:=⟨(by first|(exact hnx)|(dsimp only;exact hnx)),(by (try dsimp only);rw[List.length_append,List.length_singleton];omega),(by (try dsimp only);exact .inr ⟨_,by rw[List.length_append];rfl,by simp only[go_sem,ff,List.map_append,List.map_cons,List.map_nil,nD];first|done|exact rfl,om,om⟩),(by (try dsimp only);simp only[go_sem,ff];first|done|exact rfl),(by (try dsimp only);simp only[go_sem,ff];first|done|exact rfl),(by first|(omega)|(dsimp only;omega)),(by first|(omega)|(dsimp only;omega)),trivial⟩) (h2:=by show (_:Nat)<_;(try dsimp only);rw[List.length_drop] at hln;omega) (h5:=fun _=>.inl rfl)
 have ff:=qE @hr (nH C r) (nH 0 r) (nG r nx) ff
 refine aa Jl ?_ (hok:=oH (He (w.drop a) (by rw[Yi];omega)))
 refine aa Jl ?_
 obtain⟨q7,qy⟩:∃ q,q=(nx+11):=⟨_,rfl⟩
 rw[<- qy]
 have ff:=qB (nH C q7) (nH 0 q7) ff
 refine ae (aA Jl 1 (hct:=by exact Hg ((fst1 2 (w.drop a)).2,false) _ _ q7 ⟨_,ev⟩ (by show (fst1 2 (w.drop a)).2.length<=_;omega)) (hk:=?_))
 rintro res h4 n4 ⟨rfl,hq4,hst4⟩
 try dsimp only at hst4
 have hl4:=hst4.1
 obtain⟨f4,hR4⟩:=hq4
 obtain⟨x,hxe⟩:∃ x,x=(aZ ((fst1 2 (w.drop a)).2,false)).1:=⟨_,rfl⟩
 try rw[<- hxe]
 have k04:h4 0=some ⟨28,[[.v (.string (bs [])),.list true []]]⟩:=(hst4.2 0 om om).trans ev
 have kC4:h4 C=some ⟨28,[[.v (.string (bs z.apex)),.list false (z.sets.map Sgd.d)]]⟩:=(hst4.2 C om om).trans ev
 have ff:=qA (nH q7 r) ff
 have kr4:h4 r=some ⟨3,E.map nD⟩:=(hst4.2 r om om).trans ev
 have ff:=qI @hR4 @k04 @kC4 (nG 0 n4) (nG C n4) (nG q7 n4) @kr4 (nG r n4) ff
 refine az Jl ?_
 refine oK Jl (fun c2=>?_) (fun c2=>?_)
 .
  have hend:=Ad hD (xN (z:=z) (w:=w.drop a) (by grind))
  refine aa Jl ?_;exact fo 2 (k:=by rw[hend.1,hend.2];first|done|rfl|(simp;done))
 have g1:(fst1 2 (w.drop a)).1≠0:=by grind
 have g2:(aZ ((fst1 2 (w.drop a)).2,false)).2.2=false:=by grind
 have g3 : ¬ 0<(aZ ((fst1 2 (w.drop a)).2,false)).2.1.length:=by grind
 rcases hA:applyP z x with⟨y,e⟩
 have hAR:applyR z x=(y,e):=by rw[MF];exact hA
 have ff:=qB @hAR @hA ff
 refine aa Jl ?_ (hok:=oV (GM z x))
 refine oK Jl (fun c3=>?_) (fun c3=>?_)
 .
  have hend:=Ad hD (xN (z:=z) (w:=w.drop a) (.inr (.inr (.inr (by rw[<- hxe,hA];exact c3)))))
  refine aa Jl ?_;exact fo 2 (k:=by rw[hend.1,hend.2];first|done|rfl|(simp;done))
 obtain rfl:e=0:=by omega
 have hso:=Fg (z:=z) (w:=w.drop a) g1 g2 g3 (by rw[<- hxe];exact hA)
 have hnx:=K7 hD hso
 have hln:=(gN (c:=some z) hso)
 refine aa Jl ?_
 refine aa Jl ?_ (hok:=by (try simp only[go_sem,ff]);all_goals (first|done|((repeat' (with_reducible apply And.intro))<;>omega)))
 refine ah Jl ?_
 show ∃ _,_
 have e9:((a+(fst1 2 (w.drop a)).1:Nat):Int)=(a:Int)+((fst1 2 (w.drop a)).1:Int):=by omega
 have ff:=qA e9 ff
 exact ak (a+(fst1 2 (w.drop a)).1,y,E++[a+(fst1 2 (w.drop a)).1],.mrow (n4+40) 0 (E.length+1),C,_,_) (h1:=⟨(by first|(exact hnx)|(dsimp only;exact hnx)),(by (try dsimp only);rw[List.length_append,List.length_singleton];omega),(by (try dsimp only);exact .inr ⟨_,by rw[List.length_append];rfl,by simp only[go_sem,ff,List.map_append,List.map_cons,List.map_nil,nD];first|done|exact rfl,om,om⟩),(by (try dsimp only);simp only[go_sem,ff];first|done|exact rfl),(by (try dsimp only);simp only[go_sem,ff];first|done|exact rfl),(by first|(omega)|(dsimp only;omega)),(by first|(omega)|(dsimp only;omega)),trivial⟩) (h2:=by show (_:Nat)<_;(try dsimp only);rw[List.length_drop] at hln;omega) (h5:=fun _=>.inl rfl)
end Go.Proofs.YtjngdcldglkolaaGreatDoor
namespace Go.Proofs.YtjngdcldglkolaaGreatDoor
open Go.DL Go.Str Go.Rec Go.Cmp Go.Zon Go.Jn
set_option maxRecDepth 10000
variable [Glob Tryz.prog] [Told]
theorem RB {w:Str}(h:endsB w=[]):partB w=[]:=by
 unfold partB
 rw[ends_nil.1 h]
 rfl
theorem RD {w:Str}(h:endsB w≠[]):w.take ((endsB w)[(endsB w).length-1]!)=partB w:=by
 rw[Dw w h]
 rfl
theorem Tt {w:Str}(h:endsB w≠[]):(endsB w)[(endsB w).length-1]! <= w.length:=by
 rw[Dw w h]
 exact uu _ none w (XX _)
theorem G9 (w:Str) (hw:w.length<=3000000):PureCt Tryz.prog 43 [.list false (w.map bD)] (.list false ((partB w).map bD)):=by
 refine oO Tryz.func43 fun ff=>?_
 unfold Tryz.f43
 refine aa Jl ?_
 refine aa Jl ?_ (hok:=oF (tX w hw))
 refine oK Jl (fun c1=>?_) (fun c1=>?_)
 .
  have hE:endsB w=[]:=X5 om;refine aa Jl ?_;exact fo 1 (k:=by rw[RB hE];first|rfl|(simp;done))
 have hE:endsB w≠[]:=fun e=>by rw[e] at c1;simp at c1
 have hp0:0<(endsB w).length:=Zi.2 hE
 have hk2:(endsB w).length-1<(endsB w).length:=by omega
 have e1:(((endsB w).length:Int)-1).toNat=(endsB w).length-1:=by omega
 have hle:=Tt hE
 have hpl:=RD hE
 have htm:(w.map bD).take ((endsB w)[(endsB w).length-1]!)=(partB w).map bD:=by rw[<- hpl];exact ZT.symm
 have hLw:(endsB w).length<=1000000000000:=by unfold endsB;rw[uA];exact zY w hw
 have ff:=qD (wE hk2) @e1 @htm ff
 refine aa Jl ?_
 exact fp 1
end Go.Proofs.YtjngdcldglkolaaGreatDoor
namespace Go.Proofs.YtjngdcldglkolaaGreatDoor
open Go.DL Go.Str Go.Rec Go.Cmp Go.Zon Go.Jn
set_option maxRecDepth 10000
variable [Glob Tryz.prog] [Told]
@[go_sem] theorem catB_nil:catB ([]:List Str)=[]:=rfl
@[go_sem] theorem Zat (n:Nat):d9 n []=[]:=rfl
@[go_sem] theorem Zaw (l:List Str):l.take 0=[]:=rfl
theorem EJ : ∀ (l m:List Str) (n:Nat),d9 n (l++m)=d9 n l++d9 (n+(catB l).length) m
 | [],m,n=>by simp[d9,catB]
 | p::l,m,n=>by
  show (n+p.length)::d9 (n+p.length) (l++m)=_
  rw[EJ l m,catB_cons,XY,Nat.add_assoc];rfl
theorem Ny {n k:Nat}{l:List Str}(h:k<l.length):d9 n (l.take (k+1))=d9 n (l.take k)++[n+(catB (l.take (k+1))).length]:=by
 rw[Y1]
 have e:l[k]?.toList=[l[k]!]:=by simp[h,getElem!_pos]
 rw[e,EJ,D5,XY]
 show _++[n+(catB (l.take k)).length+l[k]!.length]=_++[n+((catB (l.take k)).length+(catB [l[k]!]).length)]
 have:(catB [l[k]!]).length=l[k]!.length:=by simp[catB]
 rw[this,Nat.add_assoc]
theorem QW (w:Str) (hw:w.length<=3000000) {r len:Nat}{ty:TypeId}{h:H}{n:Nat}(hr:h r=some ⟨ty,w.map bD⟩) (hl:len=w.length):RCt Tryz.prog 28 [.mrow r 0 len] h n (fun d h' n'=>d = .tuple [.agg [.v (.string (bs (wholeZ w).apex)),.mrow n 0 (wholeZ w).sets.length],.mrow n 0 (endsB w).length]/\h'=h/\n'=n+1):=by
 refine (QK 2 hr (by rw[hl,Za]) (by simp only[go_sem]) (by simp only[go_sem]) (tX w hw)).mono ?_
 rintro d h' n' ⟨rfl,rfl,rfl⟩
 refine⟨?_,rfl,rfl⟩
 simp only[mP,Zon.d,X9,Yx,Za]
theorem Zaf {d:Dsk}(h:1000000<d.safe.length\/200<d.pend.length):allR d=none:=by unfold allR;rw[Ii h];rfl
theorem Zae {d:Dsk}{k:Nat}(hk:k<d.pend.length) (h:d.pend[k]!.length=0):allR d=none:=by
 rw[Ec,XZ]
 intro hq
 unfold uR at hq
 simp only[XV,XW] at hq
 obtain⟨⟨_,q⟩,_⟩:=hq
 exact q d.pend[k]! (by rw[getElem!_pos d.pend k hk];exact YD hk) (X5 h)
theorem MJ {d:Dsk}(h:endsB (partB d.safe++catB d.pend)≠endsB (partB d.safe)++d9 (partB d.safe).length d.pend):allR d=none:=by
 rw[Ec,XZ]
 unfold uR
 simp only[XV,XW,not_and]
 intro _ q
 exact h q
theorem Zad {d:Dsk}(h1:d.safe.length<=1000000) (h2:d.pend.length<=200) (h3 : ∀ k,k<d.pend.length->d.pend[k]!.length≠0) (h4:endsB (partB d.safe++catB d.pend)=endsB (partB d.safe)++d9 (partB d.safe).length d.pend):allR d=some (partB d.safe++catB d.pend):=by
 rw[Ec,X4]
 unfold uR
 simp only[XV,XW]
 refine⟨⟨⟨h1,h2⟩,fun p hp e=>?_⟩,h4⟩
 obtain⟨k,hk,rfl⟩:=Zf hp
 have:=h3 k hk
 rw[getElem!_pos d.pend k hk,e] at this
 exact this rfl
theorem Vs {d:Dsk}(hl:(endsB (partB d.safe++catB d.pend)).length=(endsB (partB d.safe)).length+d.pend.length) (h : ∀ j,j<d.pend.length->(endsB (partB d.safe++catB d.pend))[(endsB (partB d.safe)).length+j]! = (d9 (partB d.safe).length d.pend)[j]!) :
  endsB (partB d.safe++catB d.pend)=endsB (partB d.safe)++d9 (partB d.safe).length d.pend:=by
 rw[KO] at hl h ⊢
 congr 1
 rw[XY] at hl
 refine zb! (by rw[pG];omega) fun i hi=>?_
 have hi2:i<d.pend.length:=by omega
 have:=h i hi2
 rw[<- this,getElem!_pos _ i hi,getElem!_pos _ _ (by rw[XY];omega),List.getElem_append_right (by omega)]
 congr 1
 omega
theorem Vr {d:Dsk}{j:Nat}(hj:j<d.pend.length) (hl:(endsB (partB d.safe++catB d.pend)).length=(endsB (partB d.safe)).length+d.pend.length) (h:(endsB (partB d.safe++catB d.pend))[(endsB (partB d.safe)).length+j]! ≠ (d9 (partB d.safe).length d.pend)[j]!):endsB (partB d.safe++catB d.pend)≠endsB (partB d.safe)++d9 (partB d.safe).length d.pend:=by
 intro e
 apply h
 rw[e,getElem!_pos _ _ (by rw[XY,pG];omega),List.getElem_append_right (by omega),getElem!_pos _ j (by rw[pG];exact hj)]
 congr 1
 omega
set_option maxHeartbeats 4000000
theorem Q9 (d:Dsk) (hf:d.safe.length+(catB d.pend).length<=2000000):PureCt Tryz.prog 40 [.agg d.d] (.tuple [.list false (((allR d).getD []).map bD),.b (allR d).isSome]):=by
 refine oO Tryz.func40 fun ff=>?_
 unfold Tryz.f40
 refine aa Jl ?_
 refine oK Jl (fun c1=>?_) (fun c1=>?_)
 .
  have hno:=Zaf (d:=d) (by omega)
  refine aa Jl ?_;exact fo 2 (k:=by rw[hno];first|rfl|(simp;done))
 have hs1:d.safe.length<=1000000:=by omega
 have hp1:d.pend.length<=200:=by omega
 have hpl:=nP d.safe
 have hLw:(endsB (partB d.safe)).length<=1000000000000:=by (unfold endsB;rw[uA];exact zY _ (by omega))
 refine aa Jl ?_
 refine aa Jl ?_ (hok:=oH (G9 d.safe om))
 refine ae (aA Jl 1 (hct:=by exact QW (partB d.safe) om ev (by first|done|rfl|(simp;done))) (hk:=?_))
 rintro res h2 n2 ⟨rfl,rfl,hn2⟩
 have hn3:n2=22:=hn2
 have ff:=qA @hn3 ff
 refine az Jl ?_
 refine aa Jl ?_
 refine ae ?_
 refine aa Jl ?_
 refine ai ?_
 refine qM 7 3 (by simp only[go_sem,ff]) (by simp only[go_sem,ff]) ?_
 refine lp (α:=(Nat)×(Nat)×(Nat)×Nat) [1,6] (fun ⟨k,r,r7,nx⟩=>(k<=d.pend.length)/\(∀ i,i<k->d.pend[i]!.length≠0)/\(0<r)/\(0<r7)/\(r≠r7)/\(r<nx)/\(r7<nx)/\True) (fun ⟨k,r,r7,nx⟩=>d.pend.length-k) (fun ⟨k,r,r7,nx⟩=>[(4,.mrow r 0 (partB d.safe++catB (d.pend.take k)).length),(7,.mrow r7 0 k),(8,.i k)]) (fun ⟨k,r,r7,nx⟩=>[(0,⟨25,[d.d]⟩),(r,⟨5,(partB d.safe++catB (d.pend.take k)).map bD⟩),(r7,⟨3,(d9 (partB d.safe).length (d.pend.take k)).map nD⟩)]) (fun ⟨k,r,r7,nx⟩=>nx) (0,18,(n2+10),_) (hA:=⟨iv,(by first|(intro i hi;omega)|(dsimp only;intro i hi;omega)),iv,iv,iv,iv,iv,trivial⟩) (round:=?_)
 rintro⟨k,r,r7,nx⟩ ⟨hk,hne9,hr0,hr7,hrr,hrx,hr7x, -⟩
 simp only[X0,X3]
 have n0:0<nx:=by omega
 have ff:=qA @n0 (qI @hrx @hr7x (nH 0 r) (nH 0 r7) (nH r r7) (nG 0 nx) (nG r nx) (nG r7 nx) ff)
 refine oL Jl (fun c2=>?_) (fun c2=>?_)
 .
  have hk2:k<d.pend.length:=by omega
  have hcs:=sK hk2;have hcl:=uH (l:=d.pend) (k+1);have hwl:(d9 (partB d.safe).length (d.pend.take k)).length=k:=by rw[pG,Yr];omega
  have ff:=qA (lg hk2) ff;refine ae ?_;refine ai ?_;refine oK Jl (fun c3=>?_) (fun c3=>?_)
  .
   have hno:=Zae hk2 (by omega)
   refine aa Jl ?_;exact fo 2 (k:=by rw[hno];first|rfl|(simp;done))
  have hne:d.pend[k]!.length≠0:=by omega
  refine aa Jl ?_;refine ah Jl ?_;refine ah Jl ?_
  show ∃ _,_
  have e9:=uI hk2;have e8:=Ny (n:=(partB d.safe).length) hk2;have e7 : ∀ a b:Str,(a++b).map bD=a.map bD++b.map bD:=fun a b=>YS
  have e6 : ∀ a b:List Nat,(a++b).map nD=a.map nD++b.map nD:=fun a b=>YS
  have e5 : ∀ a b:Str,(a++b).length=a.length+b.length:=fun a b=>XY
  have e4 : ∀ x:Nat,[x].map nD=[[.i (x:Int)]]:=fun _=>rfl
  have e3 : ∀ a b c:List (List D),a++b++c=a++(b++c):=fun a b c=>Yw a b c
  have ff:=qI e9 e8 e7 e6 e5 e4 e3 Nat.add_assoc ff;exact ak (k+1,(nx+18),(nx+24),_) (h1:=⟨iv,(by (try dsimp only);intro i hi;by_cases e:i=k;subst e;exact hne;exact hne9 i om),iv,iv,iv,iv,iv,trivial⟩)
 have e8:k=d.pend.length:=by omega
 subst e8
 refine aB ?_
 refine zZ 4 r (rows:=(partB d.safe++catB d.pend).map bD) (off:=0) (len:=(partB d.safe++catB d.pend).length) ev ev (by simp) (by simp only[go_sem]) ?_
 simp only[X8,lI]
 try rw[Yp (XX _)]
 refine aa Jl ?_ (hok:=oH (tX (partB d.safe++catB d.pend) (by rw[XY];omega)))
 refine oK Jl (fun c4=>?_) (fun c4=>?_)
 .
  have hno:=MJ (d:=d) (fun e=>by have:=congrArg List.length e;rw[XY,pG] at this;omega)
  refine aa Jl ?_;exact fo 2 (k:=by rw[hno];first|rfl|(simp;done))
 have hln:(endsB (partB d.safe++catB d.pend)).length=(endsB (partB d.safe)).length+d.pend.length:=by omega
 refine ae ?_
 refine aa Jl ?_
 refine ai ?_
 refine lp (α:=(Nat)×Nat) [4,6,7,10] (fun ⟨j,nx⟩=>(j<=d.pend.length)/\(∀ i,i<j->(endsB (partB d.safe++catB d.pend))[(endsB (partB d.safe)).length+i]! = (d9 (partB d.safe).length d.pend)[i]!)/\True) (fun ⟨j,nx⟩=>d.pend.length-j) (fun ⟨j,nx⟩=>[(11,.i j)]) (fun ⟨j,nx⟩=>[(r7,⟨3,(d9 (partB d.safe).length d.pend).map nD⟩)]) (fun ⟨j,nx⟩=>nx) (0,_) (hA:=⟨iv,(by first|(intro i hi;omega)|(dsimp only;intro i hi;omega)),trivial⟩) (round:=?_)
 rintro⟨j,nx⟩ ⟨hj,hv, -⟩
 simp only[X0,X3]
 refine oL Jl (fun c5=>?_) (fun c5=>?_)
 .
  have hj2:j<d.pend.length:=by omega
  have hwl:(d9 (partB d.safe).length d.pend).length=d.pend.length:=pG _ _;have hj4:j<(d9 (partB d.safe).length d.pend).length:=by rw[pG];exact hj2
  have hj5:(endsB (partB d.safe)).length+j<(endsB (partB d.safe++catB d.pend)).length:=by omega
  have e1:(((endsB (partB d.safe)).length:Int)+(j:Int)).toNat=(endsB (partB d.safe)).length+j:=by omega
  have ff:=qD (wE hj4) (wE hj5) @e1 ff;refine ae ?_;refine ai ?_;refine aa Jl ?_;refine cd (fun c6=>?_) (fun c6=>?_)
  .
   have hno:=MJ (d:=d) (Vr hj2 hln (by omega))
   refine aa Jl ?_;exact fo 2 (k:=by rw[hno];first|rfl|(simp;done))
  refine dw_skip ?_;refine ah Jl ?_
  show ∃ _,_
  exact ak (j+1,_) (h1:=⟨iv,(by (try dsimp only);intro i hi;by_cases e:i=j;subst e;(first|omega|(simp at c6;omega));exact hv i om),trivial⟩)
 have hj3:j=d.pend.length:=by omega
 have hyes:=Zad hs1 hp1 hne9 (Vs hln (fun i hi=>hv i (by omega)))
 refine aB ?_
 refine aa Jl ?_
 exact fo 2 (k:=by rw[hyes];first|rfl|(simp;done))
end Go.Proofs.YtjngdcldglkolaaGreatDoor
namespace Go.Proofs.YtjngdcldglkolaaGreatDoor
open Go.DL Go.Str Go.Rec Go.Cmp Go.Zon Go.Jn
set_option maxRecDepth 10000
variable [Glob Tryz.prog] [Told]
theorem Hf (d:Dsk) (hf:d.safe.length+(catB d.pend).length<=2000000):PureCt Tryz.prog 10 [.agg d.d] (.b (fewK d)):=by
 refine oO Tryz.func10 fun ff=>?_
 unfold Tryz.f10
 refine oC Jl ?_
 refine ae ?_
 refine aa Jl ?_
 refine ai ?_
 refine lp (α:=(Nat)×(Int)×Nat) [1] (fun ⟨k,s,nx⟩=>(k<=d.pend.length/\k<=21)/\(s=(d.safe.length:Int)+(((catB (d.pend.take k)).length:Nat):Int))/\(0<nx)/\True) (fun ⟨k,s,nx⟩=>d.pend.length-k) (fun ⟨k,s,nx⟩=>[(3,.i s),(4,.i k)]) (fun ⟨k,s,nx⟩=>[(0,⟨25,[d.d]⟩)]) (fun ⟨k,s,nx⟩=>nx) (0,(d.safe.length:Int),_) (hA:=⟨(by first|(omega)|(dsimp only;omega)),(by first|(simp[catB])|(dsimp only;simp[catB])),(by first|(omega)|(dsimp only;omega)),trivial⟩) (round:=?_)
 rintro⟨k,s,nx⟩ ⟨hk,hs,hx, -⟩
 simp only[X0,X3]
 have ff:=qA @hx ff
 refine oL Jl (fun c1=>?_) (fun c1=>?_)
 .
  have hk2:k<d.pend.length:=by have:=c1.1;omega
  have hcs:=sK hk2;have hcl:=uH (l:=d.pend) (k+1);have ff:=qA (lg hk2) ff;refine ae ?_;refine ai ?_;refine ah Jl ?_;refine ah Jl ?_
  show ∃ _,_
  exact ak (k+1,s+d.pend[k]!.length,_) (h1:=⟨(by first|(have:=c1.2;omega)|(dsimp only;have:=c1.2;omega)),(by (try dsimp only);rw[hs,hcs];push_cast;omega),(by first|(omega)|(dsimp only;omega)),trivial⟩)
 have hkk:d.pend.take k=d.pend.take 21:=by (rcases Zd k d.pend.length with q|q;rw[show k=21 by omega];rw[Yp q,Yp (by omega)])
 refine aB ?_
 refine aa Jl ?_
 exact fo 0 (k:=by unfold fewK;(try rw[hs]);(try rw[hkk]);first|rfl|(simp;done)|(show D.v (.bool _)=D.v (.bool _);congr 2;rw[Zb];simp only[XV,XW];omega))
end Go.Proofs.YtjngdcldglkolaaGreatDoor
namespace Go.Proofs.YtjngdcldglkolaaGreatDoor
open Go.DL Go.Str Go.Rec Go.Cmp Go.Zon Go.Jn
set_option maxRecDepth 10000
variable [Glob Tryz.prog] [Told]
theorem iK (s:Str) (k:Int) (t:Dat):PureCt Tryz.prog 68 [.v (.string (bs s)),.i k,.agg t.d] (.agg (mQ s k t).d):=by
 refine oO Tryz.func68 fun ff=>?_
 unfold Tryz.f68
 refine oC Jl ?_
 exact fo 3 (k:=by first|rfl|(unfold mQ;simp only[go_sem];first|done|rfl)|(trace_state;rfl))
end Go.Proofs.YtjngdcldglkolaaGreatDoor
namespace Go.Proofs.YtjngdcldglkolaaGreatDoor
open Go.DL Go.Str Go.Rec Go.Cmp Go.Zon Go.Jn
set_option maxRecDepth 10000
variable [Glob Tryz.prog] [Told]
theorem Tg  : PureCt Tryz.prog 30 [] (.tuple [.agg exZ.d,.agg exX.d]):=by
 refine oO Tryz.func30 fun ff=>?_
 unfold Tryz.f30
 refine oC Jl ?_
 refine aa Jl ?_ (hok:=by (try simp only[go_sem,ff]);all_goals (first|done|((repeat' (with_reducible apply And.intro))<;>first|(intros;exact iK [120] 2 ⟨[97],0,0⟩)|(intros;exact iK [120] 4 ⟨[],1,0⟩)|(intros;exact iK [120] 4 ⟨[],2,0⟩)|(intros;exact iK [116,46,120] 5 ⟨[116],0,0⟩)|skip)))
 refine aa Jl ?_ (hok:=by (try simp only[go_sem,ff]);all_goals (first|done|((repeat' (with_reducible apply And.intro))<;>first|(intros;exact iK [120] 2 ⟨[97],0,0⟩)|(intros;exact iK [120] 4 ⟨[],1,0⟩)|(intros;exact iK [120] 4 ⟨[],2,0⟩)|(intros;exact iK [116,46,120] 5 ⟨[116],0,0⟩)|skip)))
 exact fp 3
end Go.Proofs.YtjngdcldglkolaaGreatDoor
namespace Go.Proofs.YtjngdcldglkolaaGreatDoor
open Go.DL Go.Str Go.Rec Go.Cmp Go.Zon Go.Jn
set_option maxRecDepth 10000
variable [Glob Tryz.prog] [Told]
noncomputable def hF1:Str:=frmB 1 (zonB exZ)
noncomputable def hF2:Str:=frmB 2 (dltB exX)
noncomputable def hY:Zon:=(applyP exZ exX).1
noncomputable def hD0:Dsk:=⟨[],[hF1]⟩
noncomputable def hT:Dsk:=⟨hF1.take 105,[]⟩
noncomputable def hD1:Dsk:=⟨hF1,[]⟩
noncomputable def hD2:Dsk:=⟨hF1,[hF2]⟩
noncomputable def hD3:Dsk:=⟨hF1++hF2,[]⟩
theorem hl1:beginF exZ=(hD0,0):=by kernel_rfl
theorem hl2:crashF hD0 0 105=(hT,0):=by kernel_rfl
theorem hl3:loadF hT=(zon0,42):=by kernel_rfl
theorem hl4:loadF hD0=(zon0,42):=by kernel_rfl
theorem hl5:syncF hD0=(hD1,0):=by kernel_rfl
theorem hl6:loadF hD1=(exZ,0):=by kernel_rfl
theorem wz:appendF hD1 exX=(hD2,0):=by kernel_rfl
theorem iy:loadF hD2=(exZ,0):=by kernel_rfl
theorem su:syncF hD2=(hD3,0):=by kernel_rfl
theorem JL:loadF hD3=(hY,0):=by kernel_rfl
theorem JK:appendF hD3 exX=(dsk0,23):=by kernel_rfl
theorem hl12:applyP exZ exX=(hY,0):=by kernel_rfl
theorem hq1:hD0.pend.length=1:=rfl
theorem hq2:hD0.safe.length=0:=rfl
theorem hq3:hD0.pend.map byR=[[.list false (hF1.map bD)]]:=rfl
theorem hq4:hF1.length=106:=by kernel_rfl
theorem qz:hF2.length<=1000:=Zl (show decide (hF2.length<=1000)=true by kernel_rfl)
theorem hq6:sameZ exZ exZ=true:=by kernel_rfl
theorem qy:sameZ hY hY=true:=by kernel_rfl
theorem sz0:DskSz hD0:=⟨fun p hp=>by (rw[Yq.1 hp,hq4];decide),by decide,by decide⟩
theorem szT:DskSz hT:=⟨fun p hp=>(by cases hp),by (show (hF1.take 105).length<=_;rw[Yr,hq4];decide),by decide⟩
theorem sz1:DskSz hD1:=⟨fun p hp=>(by cases hp),by (show hF1.length<=_;rw[hq4];decide),by decide⟩
theorem sz2:DskSz hD2:=⟨fun p hp=>by (have:=qz;rw[Yq.1 hp];omega),by (show hF1.length<=_;rw[hq4];decide),by decide⟩
theorem sz3:DskSz hD3:=⟨fun p hp=>(by cases hp),by (have:=qz;have:=hq4;show (hF1++hF2).length<=_;rw[XY];omega),by decide⟩
theorem suZ:lF exZ:=by (intro s hs g hg;simp[exZ,mQ] at hs;rcases hs with rfl|rfl<;>simp at hg)
theorem suX:SumD exX:=by (intro s hs g hg;simp[exX,mQ] at hs;rcases hs with rfl|rfl<;>simp at hg)
theorem he2:PureCt Tryz.prog 13 [.agg exZ.d] (.tuple [.agg hD0.d,.i 0]):=by have:=JC exZ suZ;rwa [hl1] at this
theorem he6:PureCt Tryz.prog 20 [.agg hD0.d,.i 0,.i 105] (.tuple [.agg hT.d,.i 0]):=by have:=rY hD0 0 105 sz0;rwa [hl2] at this
theorem he7:PureCt Tryz.prog 22 [.agg hT.d] (.tuple [.agg zon0.d,.i 42]):=by have:=gF hT szT;rwa [hl3] at this
theorem he8:PureCt Tryz.prog 22 [.agg hD0.d] (.tuple [.agg zon0.d,.i 42]):=by have:=gF hD0 sz0;rwa [hl4] at this
theorem wC:PureCt Tryz.prog 18 [.agg hD0.d] (.tuple [.agg hD1.d,.i 0]):=by have:=zm hD0 sz0;rwa [hl5] at this
theorem he10:PureCt Tryz.prog 22 [.agg hD1.d] (.tuple [.agg exZ.d,.i 0]):=by have:=gF hD1 sz1;rwa [hl6] at this
theorem he11 (hp:dY exX.put):PureCt Tryz.prog 16 [.agg hD1.d,.agg exX.d] (.tuple [.agg hD2.d,.i 0]):=by have:=CU hD1 exX sz1 hp suX;rwa [wz] at this
theorem he12:PureCt Tryz.prog 22 [.agg hD2.d] (.tuple [.agg exZ.d,.i 0]):=by have:=gF hD2 sz2;rwa [iy] at this
theorem he13:PureCt Tryz.prog 18 [.agg hD2.d] (.tuple [.agg hD3.d,.i 0]):=by have:=zm hD2 sz2;rwa [su] at this
theorem he14:PureCt Tryz.prog 22 [.agg hD3.d] (.tuple [.agg hY.d,.i 0]):=by have:=gF hD3 sz3;rwa [JL] at this
theorem he15 (hp:dY exX.put):PureCt Tryz.prog 16 [.agg hD3.d,.agg exX.d] (.tuple [.agg dsk0.d,.i 23]):=by have:=CU hD3 exX sz3 hp suX;rwa [JK] at this
theorem he16 (hp:dY exX.put):PureCt Tryz.prog 27 [.agg exZ.d,.agg exX.d] (.tuple [.agg hY.d,.i 0]):=by have:=uF exZ exX hp;rwa [hl12] at this
theorem Dp:dY exX.put:=⟨by decide,by intro k hk;have:k=0\/k=1:=(by have:exX.put.length=2:=rfl;omega);rcases this with e|e<;>subst e<;>exact⟨by decide,by decide⟩⟩
theorem fitZ:dY exZ.sets:=xu (by kernel_rfl)
theorem fitY:dY hY.sets:=xu (by kernel_rfl)
theorem hq9:(106:Int)-1=105:=rfl
theorem he18:PureCt Tryz.prog 24 [.agg exZ.d,.agg exZ.d] (.b true):=by have:=Bt exZ exZ fitZ;rwa [hq6] at this
theorem he19:PureCt Tryz.prog 24 [.agg hY.d,.agg hY.d] (.b true):=by have:=Bt hY hY fitY;rwa [qy] at this
theorem hq0:0<hD0.pend.length:=by decide
theorem hq8:((hD0.pend[0]!.length:Nat):Int)=106:=by (show ((hF1.length:Nat):Int)=106;rw[hq4];rfl)
theorem Cz  : PureCt Tryz.prog 9 [] (.b true):=by
 refine oO Tryz.func9 fun ff=>?_
 unfold Tryz.f9
 have ff:=qD @hl1 @hl2 @hl3 (qI @hl4 @hl5 @hl6 @wz @iy @su @JL @JK (qI @hl12 @hq1 @hq2 (lg hq0) @hq8 @hq9 @hq6 @qy ff))
 refine aa Jl ?_
 refine aa Jl ?_ (hok:=oF Tg)
 refine aa Jl ?_ (hok:=oF he2)
 refine oK Jl (fun c1=>?_) (fun c1=>?_) (hp:=rfl) (hq:=rfl)
 .
  simp at c1
 refine aa Jl ?_
 refine aa Jl ?_ (hok:=oH he6)
 refine aa Jl ?_ (hok:=oF he7)
 refine aa Jl ?_ (hok:=oF he8)
 refine aa Jl ?_ (hok:=oF wC)
 refine aa Jl ?_ (hok:=oF he10)
 refine aa Jl ?_ (hok:=oF (he11 Dp))
 refine aa Jl ?_ (hok:=oF he12)
 refine aa Jl ?_ (hok:=oF he13)
 refine aa Jl ?_ (hok:=oF he14)
 refine aa Jl ?_ (hok:=oF (he15 Dp))
 refine aa Jl ?_ (hok:=oF (he16 Dp))
 refine aa Jl ?_
 refine aa Jl ?_ (hok:=oI he18 he19)
 exact fp 0
end Go.Proofs.YtjngdcldglkolaaGreatDoor
namespace Go.Proofs.YtjngdcldglkolaaGreatDoor
open Go.DL Go.Str Go.Rec Go.Cmp Go.Zon Go.Jn
set_option maxRecDepth 10000
variable [Glob Tryz.prog] [Told]
end Go.Proofs.YtjngdcldglkolaaGreatDoor
namespace Go.Proofs.YtjngdcldglkolaaGreatDoor
open Go.DL Go.Str Go.Rec Go.Cmp Go.Zon Go.Jn
set_option maxRecDepth 10000
variable [Glob Tryz.prog] [Told]
end Go.Proofs.YtjngdcldglkolaaGreatDoor
namespace Go.Proofs.YtjngdcldglkolaaGreatDoor
open Go.DL Go.Str Go.Rec Go.Cmp Go.Zon Go.Jn
set_option maxRecDepth 10000
variable [Glob Tryz.prog] [Told]
end Go.Proofs.YtjngdcldglkolaaGreatDoor
namespace Go.Proofs.YtjngdcldglkolaaGreatDoor
open Go.DL Go.Str Go.Rec Go.Cmp Go.Zon Go.Jn
set_option maxRecDepth 10000
variable [Glob Tryz.prog] [Told]
theorem KC:dY zon0.sets:=⟨by decide,fun k hk=>absurd hk (Nat.not_lt_zero k)⟩
theorem rT (d:Dsk):dY (loadF d).1.sets:=by
 cases ho:openF d with
 | none=>unfold loadF;rw[ho];exact KC
 | some o =>
  rw[Tf ho]
  cases hw:wholeC d.safe with
  | none=>exact KC
  | some z=>exact xu (EH hw).2.2
theorem pR (a:Zon) (h:dY a.sets):PureCt Tryz.prog 24 [.agg a.d,.agg a.d] (.b true):=by
 have:=Bt a a h
 rwa [pQ] at this
end Go.Proofs.YtjngdcldglkolaaGreatDoor
namespace Go.Proofs.YtjngdcldglkolaaGreatDoor
open Go.DL Go.Str Go.Rec Go.Cmp Go.Zon Go.Jn
set_option maxRecDepth 10000
variable [Glob Tryz.prog] [Told]
theorem Ep (d:Dsk) (k:Nat):(kH d (k+1)).map zR=(kH d k).map zR++[[.v (.string (bs (wholeZ (partB d.safe++catB (d.pend.take (k+1)))).apex)),.list false ((wholeZ (partB d.safe++catB (d.pend.take (k+1)))).sets.map Sgd.d)]]:=by
 rw[M0,YS]
 rfl
@[go_sem] theorem all_zR {l:List Zon}:(∀ r∈l.map zR,r.length=2)=True:=by
 apply eq_true
 intro r hr
 obtain⟨x,_,rfl⟩:=Y2.1 hr
 rfl
@[go_sem] theorem wkr_zR {l:List Zon}:bV (l.map zR)=l.map zR:=by
 induction l with
 | nil=>rfl
 | cons x l ih =>
  rw[X9]
  show bU (zR x)::bV (l.map zR)=_
  rw[ih];have:bU (zR x)=zR x:=by simp[zR,Zon.d,bU,wk,go_sem]
  rw[this]
@[go_sem] theorem nrr_zR {l:List Zon}:aR (l.map zR)=true:=by
 induction l with
 | nil=>rfl
 | cons x l ih=>simp[go_sem,zR,Zon.d,aR,aW,D.nr,ih]
theorem wM (b:Str):decide (0<(endsB b).length)=(wholeC b).isSome:=by
 cases h:wholeC b with
 | none=>rw[whole_part.1 h];rfl
 | some z =>
  have:endsB b≠[]:=fun e=>by rw[whole_part.2 e] at h;cases h
  exact YX (Zi.2 this)
theorem KN (b:Str):decide ((0:Int)<((endsB b).length:Int))=(wholeC b).isSome:=by
 rw[<- wM]
 simp only[Int.natCast_pos]
theorem MZ (d:Dsk) (k:Nat):((kH d k).map zR).take (k+1)=(kH d k).map zR:=Yp (by rw[Za,pu];exact XX _)
def IsZ (h:H) (x:D) (l:List Zon) (nx:Nat):Prop:=x = .list true (l.map zR) \/ ∃ r,x = .mrow r 0 l.length/\h r=some ⟨28,l.map zR⟩/\0<r/\r<nx
theorem rR (d:Dsk) (hf:d.safe.length+(catB d.pend).length<=2000000) (hm:d.pend.length<=2000000):PureCt Tryz.prog 26 [.agg d.d] (.tuple [.list false ((iW d).map zR),.b (wholeC d.safe).isSome]):=by
 refine oO Tryz.func26 fun ff=>?_
 unfold Tryz.f26
 refine aa Jl ?_
 refine aa Jl ?_ (hok:=oH (tX d.safe om))
 refine aa Jl ?_
 refine aa Jl ?_ (hok:=oH (G9 d.safe om))
 refine ae ?_
 refine aa Jl ?_
 refine ai ?_
 refine dw_nh (fun hw9 hwe=>?_)
 dsimp only at hwe ⊢
 have h0w:hw9 0=some ⟨25,[d.d]⟩:=by rw[hwe];simp only[go_sem,ff];first|done|exact rfl
 refine eF (α:=(Nat)×(D)×(H)×Nat) [5,24,25] (fun ⟨k,x9,hq,nx⟩=>(k<=d.pend.length)/\(IsZ hq x9 (kH d k) nx)/\(hq 0=some ⟨25,[d.d]⟩)/\(0<nx)/\True) (fun ⟨k,x9,hq,nx⟩=>d.pend.length-k) (fun ⟨k,x9,hq,nx⟩=>[(6,x9),(7,.list false ((partB d.safe++catB (d.pend.take k)).map bD)),(26,.i k)]) (fun ⟨k,x9,hq,nx⟩=>hq) (fun ⟨k,x9,hq,nx⟩=>nx) (0,.list true [[.v (.string (bs (wholeZ d.safe).apex)),.list false ((wholeZ d.safe).sets.map Sgd.d)]],hw9,_) (hA:=⟨iv,(by first|(exact .inl rfl)|(dsimp only;exact .inl rfl)),(by first|(exact h0w)|(dsimp only;exact h0w)),(by first|(omega)|(dsimp only;omega)),trivial⟩) (round:=?_)
 rintro⟨k,x9,hq,nx⟩ ⟨hk,hI,h00,hn0, -⟩
 simp only[X0,X3]
 have hLw:(endsB d.safe).length<=1000000000000:=by (unfold endsB;rw[uA];exact zY _ (by omega))
 have ff:=qD @h00 @hn0 (nG 0 nx) ff
 refine aa Jl ?_
 refine ae ?_
 refine cd (fun c1=>?_) (fun c1=>?_)
 .
  have hk2:k<d.pend.length:=by omega
  have hcs:=sK hk2;have hcl:=uH (l:=d.pend) (k+1);have hpl:=nP d.safe;have ff:=qA (lg hk2) ff;refine dw_skip ?_;refine ae ?_;refine ai ?_;refine oC Jl ?_;refine zZ 7 (nx+8) (rows:=(partB d.safe++catB (d.pend.take k)).map bD++d.pend[k]!.map bD) (off:=0) (len:=(partB d.safe++catB (d.pend.take k)).length+d.pend[k]!.length) ev ev (by (simp only[XY,Za];omega)) (by rw[<- YS];simp only[go_sem]) ?_
  simp only[X8];rw[Yp (l:=(partB d.safe++catB (d.pend.take k)).map bD++d.pend[k]!.map bD) (by (simp only[XY,Za];omega)),<- YS,Yw,<- uI hk2]
  refine aa Jl ?_ (hok:=oH (tX (partB d.safe++catB (d.pend.take (k+1))) (by rw[XY];omega)))
  rcases hI with rfl|⟨r,rfl,hr,hr0,hrx⟩
  .
   have ff:=qA (pu d k) ff;refine ah Jl ?_;refine ah Jl ?_
   show ∃ _,_
   exact ak (k+1,.mrow (nx+21) 0 (k+1+1),_,_) (h1:=⟨iv,(by (try dsimp only);exact .inr ⟨_,by rw[pu],by rw[Ep];simp only[go_sem,ff];first|done|exact rfl,om,om⟩),(by (try dsimp only);simp only[go_sem,ff];first|done|exact rfl),(by first|(omega)|(dsimp only;omega)),trivial⟩) (h5:=fun _=>.inl rfl)
  have ff:=qE @hr (pu d k) (nH 0 r) (nG r nx) ff;refine ah Jl ?_;refine ah Jl ?_
  show ∃ _,_
  exact ak (k+1,.mrow (nx+21) 0 (k+1+1),_,_) (h1:=⟨iv,(by (try dsimp only);exact .inr ⟨_,by rw[pu],by rw[Ep];simp only[go_sem,ff];first|done|exact rfl,om,om⟩),(by (try dsimp only);simp only[go_sem,ff];first|done|exact rfl),(by first|(omega)|(dsimp only;omega)),trivial⟩) (h5:=fun _=>.inl rfl)
 have e8:k=d.pend.length:=by omega
 subst e8
 refine aB ?_
 rcases hI with rfl|⟨r,rfl,hr,hr0,hrx⟩
 .
  have ff:=qD (pu d d.pend.length) (wM d.safe) (KN d.safe) ff;refine aa Jl ?_;exact fo 2 (k:=by first|rfl|(simp;done)|(exact wM d.safe))
 have ff:=qH @hr (pu d d.pend.length) (wM d.safe) (KN d.safe) (MZ d d.pend.length) (nH 0 r) (nG r nx) ff
 refine aa Jl ?_
 exact fo 2 (k:=by first|rfl|(simp;done)|(exact wM d.safe))
end Go.Proofs.YtjngdcldglkolaaGreatDoor
namespace Go.Proofs.YtjngdcldglkolaaGreatDoor
open Go.DL Go.Str Go.Rec Go.Cmp Go.Zon Go.Jn
set_option maxRecDepth 10000
variable [Glob Tryz.prog] [Told]
theorem I4 (d:Dsk) (hf:d.safe.length+(catB d.pend).length<=2000000):PureCt Tryz.prog 25 [.agg d.d] (.b (fewK d&&(allR d).isSome)):=by
 refine oO Tryz.func25 fun ff=>?_
 unfold Tryz.f25
 refine aa Jl ?_
 refine aa Jl ?_ (hok:=oF (Q9 d hf))
 refine aa Jl ?_ (hok:=oF (Hf d hf))
 exact fp 1
end Go.Proofs.YtjngdcldglkolaaGreatDoor
namespace Go.Proofs.YtjngdcldglkolaaGreatDoor
open Go.DL Go.Str Go.Rec Go.Cmp Go.Zon Go.Jn
set_option maxRecDepth 10000
variable [Glob Tryz.prog] [Told]
theorem uU {d:Dsk}{i:Nat}{z:Zon}(h:i<d.pend.length+1) (hz:(iW d)[i]! = z):((iW d).map zR).getD i []=[.v (.string (bs z.apex)),.list false (z.sets.map Sgd.d)]:=by
 rw[UW (by rw[AL];exact h),hz]
theorem Nf (d:Dsk):((iW d).map zR).length=d.pend.length+1:=by rw[Za,AL]
@[go_sem] theorem i42a:((42:Int)==0)=false:=rfl
@[go_sem] theorem i42b:((42:Int) != 0)=true:=rfl
@[go_sem] theorem i42c:((42:Int)==42)=true:=rfl
@[go_sem] theorem i42d:((42:Int) != 42)=false:=rfl
@[go_sem] theorem i00a:((0:Int)==0)=true:=rfl
@[go_sem] theorem i00b:((0:Int) != 0)=false:=rfl
@[go_sem] theorem d00:decide ((0:Int)<((0:Nat):Int))=false:=rfl
theorem Nk:zon0.apex=[]:=rfl
theorem MV:zon0.sets=[]:=rfl
end Go.Proofs.YtjngdcldglkolaaGreatDoor
namespace Go.Proofs.YtjngdcldglkolaaGreatDoor
open Go.DL Go.Str Go.Rec Go.Cmp Go.Zon Go.Jn
set_option maxRecDepth 10000
variable [Glob Tryz.prog] [Told]
theorem WK {d:Dsk}{m:Nat}{c:Int}{k:Nat}(h2:(m:Int)<=d.pend.length) (h:k=if (m:Int)<d.pend.length/\c=(gM d m).length then (m:Int).toNat+1 else (m:Int).toNat) :
  (m<d.pend.length/\c=(d.pend[m]!.length:Int)/\k=m+1)\/(m<d.pend.length/\c≠(d.pend[m]!.length:Int)/\m=k)\/(m=d.pend.length/\m=k):=by
 rw[Int.toNat_natCast] at h
 by_cases h1:m<d.pend.length
 .
  have hb:gM d m=d.pend[m]! := by unfold gM;rw[X4 (by omega),Int.toNat_natCast]
  rw[hb] at h
  by_cases hc:c=(d.pend[m]!.length:Int)
  .
   rw[X4 ⟨om,hc⟩] at h;exact .inl ⟨h1,hc,h⟩
  rw[XZ (fun q=>hc q.2)] at h;exact .inr (.inl ⟨h1,hc,h.symm⟩)
 rw[XZ (by intro q;omega)] at h
 exact .inr (.inr ⟨om,h.symm⟩)
theorem LM {d:Dsk}{t:Str}{m:Nat}(h:(m=0/\wholeC d.safe=none/\loadF ⟨t,[]⟩=(zon0,42)) \/ ∃ y,loadF ⟨t,[]⟩=(y,0)/\(iW d)[m]! = y/\((wholeC d.safe).isSome=true\/0<m)) :
  (m=0/\wholeC d.safe=none/\loadF ⟨t,[]⟩=(zon0,42))\/(∃ y,loadF ⟨t,[]⟩=(y,0)/\(iW d)[m]! = y/\m=0/\(wholeC d.safe).isSome=true) \/ ∃ y,loadF ⟨t,[]⟩=(y,0)/\(iW d)[m]! = y/\0<m:=by
 rcases h with h|⟨y,h1,h2,h3⟩
 .
  exact .inl h
 rcases Nat.eq_zero_or_pos m with k|k
 .
  exact .inr (.inl ⟨y,h1,h2,k,h3.resolve_right om⟩)
 exact .inr (.inr ⟨y,h1,h2,k⟩)
set_option maxHeartbeats 4000000 in
theorem lawJC_ct (d:Dsk) (n:Int) (c:Int) (hf:d.safe.length+(catB d.pend).length<=2000000) (hm:d.pend.length<=2000000):PureCt Tryz.prog 5 [.agg d.d,.i n,.i c] (.b true):=by
 refine oO Tryz.func5 fun ff=>?_
 unfold Tryz.f5
 refine aa Jl ?_
 refine aa Jl ?_ (hok:=oF Cz)
 refine oK Jl (fun k1=>?_) (fun k1=>?_) (hok:=oF (I4 d hf)) (hp:=rfl)
 .
  refine aa Jl ?_;exact fp 0
 have hvv:fewK d=true/\(allR d).isSome=true:=by grind
 have hfw:=hvv.1
 have hv:=hvv.2
 have hd:=Dt hfw
 have hpl:=(wL hfw).1
 have pz:=Nf d
 rcases LK hfw hv n c with⟨e,a1,a2⟩|⟨t,k,a1,a2,a3,a4,a5,a6,a7⟩
 .
  have e1:(e != 0)=true:=by (rcases a2 with rfl|rfl<;>rfl)
  have ff:=qB @a1 @e1 ff;refine aa Jl ?_ (hok:=oV (rY d n c hd));refine ae ?_;refine aa Jl ?_;refine cd (fun k2=>?_) (fun k2=>?_) (hp:=rfl) (hq:=rfl)
  .
   refine aa Jl ?_;exact fo 0 (k:=by rcases a2 with rfl|rfl<;>first|rfl|(simp;done))
  simp at k2
 have ff:=qA @a1 ff
 refine aa Jl ?_ (hok:=oV (rY d n c hd))
 refine oK Jl (fun k2=>?_) (fun k2=>?_) (hp:=rfl) (hq:=rfl)
 .
  simp at k2
 refine aa Jl ?_
 refine ae ?_
 obtain⟨m,rfl⟩:∃ m:Nat,n=m:=⟨n.toNat,om⟩
 have p0:decide ((0:Int)<=(m:Int))=true:=YX om
 rcases WK a4 a5 with⟨h1,h2,rfl⟩|⟨h1,h2,rfl⟩|⟨h1,rfl⟩
 .
  have p1:decide ((m:Int)<(d.pend.length:Int))=true:=YX om;have p2:(c==(d.pend[m]!.length:Int))=true:=by rw[h2];exact beq_self_eq_true _
  have ff:=qE @p0 @p1 @p2 (lg h1) ff;refine aa Jl ?_;refine cd (fun k3=>?_) (fun k3=>?_) (hp:=rfl) (hq:=rfl)
  .
   refine ah Jl ?_
   rcases a7 with⟨k0,_,_⟩|⟨y,b1,b2,b3⟩
   .
    omega
   have fy:=rT ⟨t,[]⟩;rw[b1] at fy;have z1:=uU (by omega) b2
   have c1:decide (((m:Nat):Int)+1<0)=false:=YE om;have c2:decide (((d.pend.length+1:Nat):Int)<=((m:Nat):Int)+1)=false:=YE om;have c3:(((m:Nat):Int)+1==0)=false:=by (have:((m:Nat):Int)+1≠0:=by omega);simpa using this
   have c4:(((m:Nat):Int)+1).toNat=m+1:=by omega
   have ff:=qI @b1 @z1 @pz @c1 @c2 @c3 @c4 @pQ ff;refine aa Jl ?_ (hok:=oF (rR d hf hm));refine aa Jl ?_ (hok:=oV (gF ⟨t,[]⟩ a2));refine oK Jl (fun k4=>?_) (fun k4=>?_) (hp:=rfl) (hq:=rfl)
   .
    simp at k4
   refine oK Jl (fun k5=>?_) (fun k5=>?_) (hp:=rfl) (hq:=rfl)
   .
    simp at k5
   refine aa Jl ?_ (hok:=oH (pR _ fy));exact fp 0
  simp at k3
 .
  have p1:decide ((m:Int)<(d.pend.length:Int))=true:=YX om;have p2:(c==(d.pend[m]!.length:Int))=false:=by simpa using h2
  have ff:=qE @p0 @p1 @p2 (lg h1) ff;refine aa Jl ?_;refine cd (fun k3=>?_) (fun k3=>?_) (hp:=rfl) (hq:=rfl)
  .
   simp at k3
  refine dw_skip ?_
  rcases LM a7 with⟨k0,w0,b1⟩|⟨y,b1,b2,k0,c5⟩|⟨y,b1,b2,k0⟩
  .
   have c1:decide (((m:Nat):Int)<0)=false:=YE om;have c2:decide (((d.pend.length+1:Nat):Int)<=((m:Nat):Int))=false:=YE om;have c3:(((m:Nat):Int)==0)=true:=by rw[k0];rfl
   have ff:=qG @w0 @b1 @pz @c1 @c2 @c3 ff;refine aa Jl ?_ (hok:=oV (rR d hf hm));refine aa Jl ?_ (hok:=oV (gF ⟨t,[]⟩ a2));refine oK Jl (fun k4=>?_) (fun k4=>?_) (hp:=rfl) (hq:=rfl)
   .
    simp at k4
   refine ae ?_;refine aa Jl ?_;refine cd (fun k5=>?_) (fun k5=>?_) (hp:=rfl) (hq:=rfl)
   .
    refine aa Jl ?_;exact fp 0
   simp at k5
  .
   have fy:=rT ⟨t,[]⟩;rw[b1] at fy;have z1:=uU (by omega) b2
   have c1:decide (((m:Nat):Int)<0)=false:=YE om;have c2:decide (((d.pend.length+1:Nat):Int)<=((m:Nat):Int))=false:=YE om;have c3:(((m:Nat):Int)==0)=true:=by rw[k0];rfl
   have c6:=c5;have ff:=qI @b1 @z1 @pz @c1 @c2 @c3 @c5 @pQ ff;refine aa Jl ?_ (hok:=oV (rR d hf hm));refine aa Jl ?_ (hok:=oV (gF ⟨t,[]⟩ a2));refine oK Jl (fun k4=>?_) (fun k4=>?_) (hp:=rfl) (hq:=rfl)
   .
    simp at k4
   refine oK Jl (fun k5=>?_) (fun k5=>?_) (hp:=rfl) (hq:=rfl)
   .
    simp at k5
   refine aa Jl ?_ (hok:=oH (pR _ fy));exact fp 0
  have fy:=rT ⟨t,[]⟩;rw[b1] at fy;have z1:=uU (by omega) b2
  have c1:decide (((m:Nat):Int)<0)=false:=YE om;have c2:decide (((d.pend.length+1:Nat):Int)<=((m:Nat):Int))=false:=YE om;have c3:(((m:Nat):Int)==0)=false:=by (have:((m:Nat):Int)≠0:=by omega);simpa using this
  have ff:=qH @b1 @z1 @pz @c1 @c2 @c3 @pQ ff;refine aa Jl ?_ (hok:=oF (rR d hf hm));refine aa Jl ?_ (hok:=oV (gF ⟨t,[]⟩ a2));refine oK Jl (fun k4=>?_) (fun k4=>?_) (hp:=rfl) (hq:=rfl)
  .
   simp at k4
  refine oK Jl (fun k5=>?_) (fun k5=>?_) (hp:=rfl) (hq:=rfl)
  .
   simp at k5
  refine aa Jl ?_ (hok:=oH (pR _ fy));exact fp 0
 have p1:decide ((m:Int)<(d.pend.length:Int))=false:=YE om
 have ff:=qB @p0 @p1 ff
 refine aa Jl ?_
 refine cd (fun k3=>?_) (fun k3=>?_) (hp:=rfl) (hq:=rfl)
 .
  simp at k3
 refine dw_skip ?_
 rcases LM a7 with⟨k0,w0,b1⟩|⟨y,b1,b2,k0,c5⟩|⟨y,b1,b2,k0⟩
 .
  have c1:decide (((m:Nat):Int)<0)=false:=YE om;have c2:decide (((d.pend.length+1:Nat):Int)<=((m:Nat):Int))=false:=YE om;have c3:(((m:Nat):Int)==0)=true:=by rw[k0];rfl
  have ff:=qG @w0 @b1 @pz @c1 @c2 @c3 ff;refine aa Jl ?_ (hok:=oV (rR d hf hm));refine aa Jl ?_ (hok:=oV (gF ⟨t,[]⟩ a2));refine oK Jl (fun k4=>?_) (fun k4=>?_) (hp:=rfl) (hq:=rfl)
  .
   simp at k4
  refine ae ?_;refine aa Jl ?_;refine cd (fun k5=>?_) (fun k5=>?_) (hp:=rfl) (hq:=rfl)
  .
   refine aa Jl ?_;exact fp 0
  simp at k5
 .
  have fy:=rT ⟨t,[]⟩;rw[b1] at fy;have z1:=uU (by omega) b2
  have c1:decide (((m:Nat):Int)<0)=false:=YE om;have c2:decide (((d.pend.length+1:Nat):Int)<=((m:Nat):Int))=false:=YE om;have c3:(((m:Nat):Int)==0)=true:=by rw[k0];rfl
  have c6:=c5;have ff:=qI @b1 @z1 @pz @c1 @c2 @c3 @c5 @pQ ff;refine aa Jl ?_ (hok:=oV (rR d hf hm));refine aa Jl ?_ (hok:=oV (gF ⟨t,[]⟩ a2));refine oK Jl (fun k4=>?_) (fun k4=>?_) (hp:=rfl) (hq:=rfl)
  .
   simp at k4
  refine oK Jl (fun k5=>?_) (fun k5=>?_) (hp:=rfl) (hq:=rfl)
  .
   simp at k5
  refine aa Jl ?_ (hok:=oH (pR _ fy));exact fp 0
 have fy:=rT ⟨t,[]⟩
 rw[b1] at fy
 have z1:=uU (by omega) b2
 have c1:decide (((m:Nat):Int)<0)=false:=YE om
 have c2:decide (((d.pend.length+1:Nat):Int)<=((m:Nat):Int))=false:=YE om
 have c3:(((m:Nat):Int)==0)=false:=by (have:((m:Nat):Int)≠0:=by omega);simpa using this
 have ff:=qH @b1 @z1 @pz @c1 @c2 @c3 @pQ ff
 refine aa Jl ?_ (hok:=oF (rR d hf hm))
 refine aa Jl ?_ (hok:=oV (gF ⟨t,[]⟩ a2))
 refine oK Jl (fun k4=>?_) (fun k4=>?_) (hp:=rfl) (hq:=rfl)
 .
  simp at k4
 refine oK Jl (fun k5=>?_) (fun k5=>?_) (hp:=rfl) (hq:=rfl)
 .
  simp at k5
 refine aa Jl ?_ (hok:=oH (pR _ fy))
 exact fp 0
end Go.Proofs.YtjngdcldglkolaaGreatDoor
namespace Go.Proofs.YtjngdcldglkolaaGreatDoor
open Go.DL Go.Str Go.Rec Go.Cmp Go.Zon Go.Jn
set_option maxRecDepth 10000
variable [Glob Tryz.prog] [Told]
set_option maxHeartbeats 4000000 in
theorem lawJA_ct (d:Dsk) (n:Int) (c:Int) (x:Dlt) (hf:d.safe.length+(catB d.pend).length<=2000000) (hu:SumD x):PureCt Tryz.prog 6 [.agg d.d,.i n,.i c,.agg x.d] (.b true):=by
 refine oO Tryz.func6 fun ff=>?_
 unfold Tryz.f6
 refine aa Jl ?_
 refine aa Jl ?_ (hok:=oF Cz)
 refine oK Jl (fun k1=>?_) (fun k1=>?_) (hok:=oI (I4 d hf) (Qt x)) (hp:=rfl)
 .
  refine aa Jl ?_;exact fp 0
 have hvv:fewK d=true/\(allR d).isSome=true:=by grind
 have hfw:=hvv.1
 have hv:=hvv.2
 have hfx:fewD x=true:=by grind
 have hd:=Dt hfw
 have hp:=Vk hfx
 rcases Zan hfw hv hfx hu n c with⟨e,a1,a2⟩|⟨s,a1,a2,a3|⟨a,a3,⟨w,g,b1,b2⟩|⟨w,m,k,b1,b2,b3,b4,b5,b6,b7,o,p,d1,d2,d3,d4,d5⟩⟩⟩
 .
  have e1:(e != 0)=true:=by simpa using a2
  have ff:=qB @a1 @e1 ff;refine aa Jl ?_ (hok:=oV (rY d n c hd));refine ae ?_;refine aa Jl ?_;refine cd (fun k2=>?_) (fun k2=>?_) (hp:=rfl) (hq:=rfl)
  .
   refine aa Jl ?_;exact fp 0
  simp at k2
 .
  have ff:=qE @a1 @a3 @Nk @MV ff;refine aa Jl ?_ (hok:=oV (rY d n c hd));refine oK Jl (fun k2=>?_) (fun k2=>?_) (hp:=rfl) (hq:=rfl)
  .
   simp at k2
  refine aa Jl ?_ (hok:=oV (gF s a2));refine aa Jl ?_ (hok:=oF (uF zon0 x hp));refine ae ?_;refine aa Jl ?_;refine cd (fun k3=>?_) (fun k3=>?_) (hp:=rfl) (hq:=rfl)
  .
   refine aa Jl ?_;exact fp 0
  simp at k3
 .
  have e1:(g != 0)=true:=by simpa using b2
  have ff:=qE @a1 @a3 @b1 @e1 ff;refine aa Jl ?_ (hok:=oV (rY d n c hd));refine oK Jl (fun k2=>?_) (fun k2=>?_) (hp:=rfl) (hq:=rfl)
  .
   simp at k2
  refine aa Jl ?_ (hok:=oV (gF s a2));refine aa Jl ?_ (hok:=oV (uF a x hp));refine ae ?_;refine aa Jl ?_;refine cd (fun k3=>?_) (fun k3=>?_) (hp:=rfl) (hq:=rfl)
  .
   refine aa Jl ?_;exact fp 0
  simp at k3
 have fw:=rT k
 rw[b6] at fw
 have ff:=qB @a1 @a3 (qI @b1 @b2 @b4 @b6 @d1 @d3 @d5 @pQ ff)
 refine aa Jl ?_ (hok:=oV (rY d n c hd))
 refine oK Jl (fun k2=>?_) (fun k2=>?_) (hp:=rfl) (hq:=rfl)
 .
  simp at k2
 refine aa Jl ?_ (hok:=oV (gF s a2))
 refine aa Jl ?_ (hok:=oV (uF a x hp))
 refine oK Jl (fun k3=>?_) (fun k3=>?_) (hp:=rfl) (hq:=rfl)
 .
  simp at k3
 refine aa Jl ?_ (hok:=oV (CU s x a2 hp hu))
 refine aa Jl ?_ (hok:=oV (zm m b3))
 refine aa Jl ?_ (hok:=oV (gF k b5))
 refine oK Jl (fun k4=>?_) (fun k4=>?_) (hok:=oH (pR _ fw)) (hp:=rfl) (hq:=rfl)
 .
  simp at k4
 refine aa Jl ?_ (hok:=oV (JC w b7))
 refine aa Jl ?_ (hok:=oV (zm o d2))
 refine aa Jl ?_ (hok:=oV (gF p d4))
 refine aa Jl ?_ (hok:=oH (pR _ fw))
 exact fp 0
end Go.Proofs.YtjngdcldglkolaaGreatDoor
namespace Go.Proofs.YtjngdcldglkolaaGreatDoor
open Go.DL Go.Str Go.Rec Go.Cmp Go.Zon Go.Jn
set_option maxRecDepth 10000
variable [Glob Tryz.prog] [Told]
theorem xor8 (a b:UInt8):uZ .u8 (a.toNat:Int) (b.toNat:Int)=(((a ^^^ b).toNat:Nat):Int):=by
 unfold uZ
 have e1:BitVec.ofInt IntKind.u8.bits (a.toNat:Int)=a.toBitVec:=by
  show BitVec.ofInt 8 ((a.toBitVec.toNat:Nat):Int)=_
  simp
 have e2:BitVec.ofInt IntKind.u8.bits (b.toNat:Int)=b.toBitVec:=by
  show BitVec.ofInt 8 ((b.toBitVec.toNat:Nat):Int)=_
  simp
 rw[e1,e2]
 show IntKind.u8.wrap (((a ^^^ b).toNat:Nat):Int)=_
 rw[Nq]
 show (((UInt8.ofNat (a ^^^ b).toNat).toNat:Nat):Int)=_
 rw[UInt8.ofNat_toNat]
@[go_sem] theorem befE_nil (k:Nat):dI k 0 []=0:=rfl
theorem Mv {k:Nat}{l:List Nat}{i:Nat}(h:i<l.length):dI k 0 (l.take (i+1))=if l[i]! <= k then l[i]! else dI k 0 (l.take i):=by
 unfold dI
 rw[Y1,Y7]
 have e:l[i]?.toList=[l[i]!]:=by simp[h,getElem!_pos]
 rw[e]
 rfl
theorem UY {l:Str}{n:Nat}(h:n<l.length):(l.map bD).getD n []=[.v (.int .u8 (l[n]!).toNat)]:=by
 simp[List.getD,h,bD,getElem!_pos]
set_option maxHeartbeats 4000000 in
theorem lawJD_ct (d:Dsk) (n:Int) (c:Int) (hf:d.safe.length+(catB d.pend).length<=2000000) (hn:0<=n/\n<65536) (hc:0<=c/\c<256):PureCt Tryz.prog 7 [.agg d.d,.v (.int .u16 n),.v (.int .u8 c)] (.b true):=by
 refine oO Tryz.func7 fun ff=>?_
 unfold Tryz.f7
 refine aa Jl ?_
 refine aa Jl ?_ (hok:=oF Cz)
 refine aa Jl ?_ (hok:=oH (tX d.safe om))
 refine oK Jl (fun k1=>?_) (fun k1=>?_) (hok:=oH (Hf d hf)) (hp:=rfl)
 .
  refine aa Jl ?_;exact fp 0
 have hfw:fewK d=true:=by grind
 have hE:endsB d.safe≠[]:=fun e=>by rw[e] at k1;simp at k1
 have hc0:c≠0:=by grind
 have hd:=Dt hfw
 have hLw:(endsB d.safe).length<=1000000000000:=by (unfold endsB;rw[uA];exact zY _ (by omega))
 have hp0:0<(endsB d.safe).length:=Zi.2 hE
 have hk2:(endsB d.safe).length-1<(endsB d.safe).length:=by omega
 have e1:(((endsB d.safe).length:Int)-1).toNat=(endsB d.safe).length-1:=by omega
 have hM:=Dw d.safe hE
 have hM1:0<sumL (frs d.safe):=NY hE
 obtain⟨K,hK⟩:∃ K:Nat,n % ((endsB d.safe)[(endsB d.safe).length-1]! : Int)=(K:Int):=⟨(n % ((endsB d.safe)[(endsB d.safe).length-1]! : Int)).toNat,by rw[Int.toNat_of_nonneg (Int.emod_nonneg _ (by omega))]⟩
 have hKs:K<sumL (frs d.safe):=by (have:=Int.emod_lt_of_pos n (b:=((endsB d.safe)[(endsB d.safe).length-1]! : Int)) om;omega)
 obtain⟨B,hB⟩:∃ B:UInt8,c=(B.toNat:Int):=⟨UInt8.ofNat c.toNat,by rw[UInt8.toNat_ofNat'];omega⟩
 have hB0:B≠0:=fun e=>hc0 (by rw[hB,e];rfl)
 subst hB
 have wr9:IntKind.i64.wrap n=n:=by rw[IntKind.wrap_i64];omega
 obtain⟨m1,m2,m3,m4,m5⟩:=WE hfw hE hKs hB0
 have hx:=xor8 d.safe[K]! B
 have hset:(d.safe.map bD).set K [.v (.int .u8 ((d.safe[K]! ^^^ B).toNat:Int))]=(d.safe.set K (d.safe[K]! ^^^ B)).map bD:=by (rw[List.map_set];rfl)
 have ff:=qE (wE hk2) @e1 @hK @wr9 ff
 refine oC Jl ?_
 refine ae ?_
 refine aa Jl ?_
 refine ai ?_
 refine lp (α:=(Nat)×Nat) [2,3,7,10,48,49] (fun ⟨i,nx⟩=>(i<=(endsB d.safe).length)/\True) (fun ⟨i,nx⟩=>(endsB d.safe).length-i) (fun ⟨i,nx⟩=>[(11,.i ((dI K 0 ((endsB d.safe).take i):Nat):Int)),(50,.i i)]) (fun ⟨i,nx⟩=>[(0,⟨25,[d.d]⟩)]) (fun ⟨i,nx⟩=>nx) (0,_) (hA:=⟨iv,trivial⟩) (round:=?_)
 rintro⟨i,nx⟩ ⟨hi, -⟩
 simp only[X0,X3]
 refine aa Jl ?_
 refine ae ?_
 refine cd (fun k2=>?_) (fun k2=>?_)
 .
  have hi2:i<(endsB d.safe).length:=by omega
  have ff:=qA (wE hi2) ff;refine dw_skip ?_;refine ae ?_;refine ai ?_;refine oC Jl ?_;refine cd (fun k3=>?_) (fun k3=>?_)
  .
   have e9:dI K 0 ((endsB d.safe).take (i+1))=(endsB d.safe)[i]! := by rw[Mv hi2,X4 (by omega)]
   have ff:=qA @e9 ff;refine ah Jl ?_;refine ah Jl ?_
   show ∃ _,_
   exact ak (i+1,_) (h1:=⟨iv,trivial⟩)
  have e9:dI K 0 ((endsB d.safe).take (i+1))=dI K 0 ((endsB d.safe).take i):=by rw[Mv hi2,XZ (by omega)]
  have ff:=qA @e9 ff;refine dw_skip ?_;refine ah Jl ?_
  show ∃ _,_
  exact ak (i+1,_) (h1:=⟨iv,trivial⟩)
 have e8:i=(endsB d.safe).length:=by omega
 subst e8
 refine aB ?_
 refine aa Jl ?_
 have hg9:=UY m1
 have ff:=qD @hg9 @hx @hset ff
 refine aa Jl ?_
 rcases m5 with⟨b0,l1⟩|⟨b0,a,l1,l2⟩
 .
  have ff:=qB @b0 @l1 ff;refine KX 14 (nx+4) (rows:=(d.safe.set K (d.safe[K]! ^^^ B)).map bD) (len:=d.safe.length) ev ev (by rw[Za,ZE]) ev ?_
  refine aa Jl ?_ (hok:=oV (gF ⟨(d.safe.set K (d.safe[K]! ^^^ B)),[]⟩ m2));refine ae ?_;refine aa Jl ?_;refine cd (fun k4=>?_) (fun k4=>?_) (hp:=rfl) (hq:=rfl)
  .
   refine aa Jl ?_;exact fp 0
  exact absurd b0 (by simpa using k4)
 have fa:=rT ⟨(d.safe.set K (d.safe[K]! ^^^ B)),[]⟩
 rw[l1] at fa
 have b1:((dI K 0 (endsB d.safe):Nat):Int)≠0:=by omega
 have htk:(d.safe.map bD).take (dI K 0 (endsB d.safe))=(d.safe.take (dI K 0 (endsB d.safe))).map bD:=ZT.symm
 have ff:=qE @l1 @l2 @htk @pQ ff
 refine KX 14 (nx+4) (rows:=(d.safe.set K (d.safe[K]! ^^^ B)).map bD) (len:=d.safe.length) ev ev (by rw[Za,ZE]) ev ?_
 refine aa Jl ?_ (hok:=oV (gF ⟨(d.safe.set K (d.safe[K]! ^^^ B)),[]⟩ m2))
 refine oK Jl (fun k4=>?_) (fun k4=>?_) (hp:=rfl) (hq:=rfl)
 .
  exact absurd (by simpa using k4) b0
 refine aa Jl ?_ (hok:=oH (by have q9:=gF ⟨d.safe.take (dI K 0 (endsB d.safe)),[]⟩ m4;rw[l2] at q9;exact q9))
 refine aa Jl ?_ (hok:=oH (pR _ fa))
 exact fp 0
end Go.Proofs.YtjngdcldglkolaaGreatDoor
