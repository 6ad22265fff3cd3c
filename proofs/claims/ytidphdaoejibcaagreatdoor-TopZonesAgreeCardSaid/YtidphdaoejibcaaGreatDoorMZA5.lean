/-
  MANY TEXTS OF MINE IN ONE (a claim has a limit of files): ZoW1, ZoW2, ZoW3, ZoW4, ZoW5, ReW1, ReW2, ReW3, DlW1, DlW6, DlW8, DlW9, DlW10, DlW11, DlW12, TrW1, JmW1, JmW2, JmW3, JmW4, JbW7, JbW8, JmW5, JmW6, TrW2, TrW3, UpW1, UpW2, UpW3, UpW4, UpW5, UpW6, UpW7, UpW8, UpW9, UpW10, UpW11, UpW12, UpW13, UpW14. Conditions: none.
-/
import Derived.Test.YtidphdaoejibcaaGreatDoorMZA4
set_option linter.unusedVariables false
set_option linter.unusedSimpArgs false
set_option linter.unusedSectionVars false
set_option linter.defProp false
set_option linter.unnecessarySimpa false
namespace Go.Proofs.YtidphdaoejibcaaGreatDoor
open Go.Proofs.Tryz
open Go.DL Go.Str Go.Rec Go.Cmp Go.Zon
set_option maxRecDepth 10000
theorem _root_.o5s{p:Prop}(h:p:=by simp_all [fits]):p:=h
theorem _root_.o5p{p:Prop}(h:p:=by dsimp only;decide):p:=h
theorem _root_.o5m{p:Prop}(h:p:=by rw[hv,FP (by omega)]):p:=h
theorem _root_.o5i{p:Prop}(h:p:=by simp[go_sem,bA,D.nr,bu]):p:=h
theorem _root_.o5h{p:Prop}(h:p:=by simp[go_sem,D.nr,bA,bu]):p:=h
theorem _root_.o5f{p:Prop}(h:p:=by simp only[fZ];grind [aV]):p:=h
theorem _root_.o5e{p:Prop}(h:p:=by simp only[ja];grind [aV]):p:=h
theorem _root_.o5c{p:Prop}(h:p:=by rw[kW,X3 (by simp_all)];rfl):p:=h
theorem _root_.o5b{p:Prop}(h:p:=by rw[hno];first|rfl|(simp;done)):p:=h
theorem _root_.o5a{p:Prop}(h:p:=by first|exact c2|simpa using c2):p:=h
theorem _root_.o4w{p:Prop}(h:p:=by simp only[X0,fD,iW,qX,Zq];omega):p:=h
theorem _root_.o4v{p:Prop}(h:p:=by rw[c2];exact Bool.false_ne_true):p:=h
theorem _root_.o4u{p:Prop}(h:p:=by simp only[di];rw[hv2];simp[hk4]):p:=h
theorem _root_.o4s{p:Prop}(h:p:=by rw[u6,hno];first|rfl|(simp;done)):p:=h
theorem _root_.o4r{p:Prop}(h:p:=by(try dsimp only);rw[hv,bF hk2 h8]):p:=h
theorem _root_.o4p{p:Prop}(h:p:=by(try dsimp only);rw[hv1,bF hk2 h8]):p:=h
theorem _root_.o4h{p:Prop}(h:p:=by first|rfl|(simp;done)|exact G8 _|exact G9 _):p:=h
theorem _root_.o4f{p:Prop}(h:p:=by(try simp only[go_sem,ff]);all_goals (rw[Yt])):p:=h
theorem _root_.o4e{p:Prop}(h:p:=by rw[<-zV];simp only[xg];(try rw[Af]at *);grind):p:=h
theorem _root_.o4c{p:Prop}(h:p:=by rw[hfil];first|exact⟨rfl,rfl,om⟩|exact⟨rfl,om⟩):p:=h
theorem _root_.o4a{p:Prop}(h:p:=by(try dsimp only);rw[hv,FO hk2 (by simpa using c2)]):p:=h
theorem _root_.o3x{p:Prop}(h:p:=by(try simp only[go_sem,ff]);all_goals (exact⟨rfl,rfl⟩)):p:=h
theorem _root_.o3r{p:Prop}(h:p:=by rw[<-hend.1];intro q;left;simp only[upd];split<;>simp_all):p:=h
theorem _root_.o3q{p:Prop}(h:p:=by first|exact .inl (List.eq_nil_of_length_eq_zero h0)|grind):p:=h
theorem _root_.o3o{p:Prop}(h:p:=by rcases YE q n with w|w;exact w;rw[hnone q w]at k1;cases k1):p:=h
theorem _root_.o3l{p:Prop}(h:p:=by(try simp only[go_sem,ff]);all_goals (exact WJ _ (Yh hs.2 om))):p:=h
theorem _root_.o3k{p:Prop}(h:p:=by(try simp only[go_sem,ff]);all_goals (exact WK _ (Yh hs.1 om))):p:=h
theorem _root_.o3f{p:Prop}(h:p:=by exact DK 134 (a++cu l++b) _ _ 1 (zI.mono oW) (by rw[X0,X0];omega)):p:=h
theorem _root_.o3e{p:Prop}(h:p:=by first|(simp_all [kr,under];done)|(simp;simp only[kr,under];grind)):p:=h
theorem _root_.o3a{p:Prop}(h:p:=by(try simp only[go_sem,ff]);all_goals (first|exact nX hb|exact tQ hb)):p:=h
theorem _root_.o2z{p:Prop}(h:p:=by(try simp only[go_sem,ff]);all_goals (first|exact nX ha|exact tQ ha)):p:=h
theorem _root_.o2y{p:Prop}(h:p:=by(try simp only[go_sem,ff]);all_goals (first|done|grind|(simp;grind))):p:=h
theorem _root_.o2w{p:Prop}(h:p:=by first|(exact o8.mono (by omega))|(dsimp only;exact o8.mono (by omega))):p:=h
theorem _root_.o2v{p:Prop}(h:p:=by first|(exact Fv.mono (by omega))|(dsimp only;exact Fv.mono (by omega))):p:=h
theorem _root_.o2u{p:Prop}(h:p:=by intro o ho;simp only[Yl,YZ,or_false]at ho;rcases ho with rfl|rfl<;>rfl):p:=h
theorem _root_.o2q{p:Prop}(h:p:=by intro o ho;simp only[X5,Ye,Yl,YZ,or_false]at ho;rcases ho with rfl<;>rfl):p:=h
theorem _root_.o2p{p:Prop}(h:p:=by(try simp only[go_sem,ff]);all_goals (first|exact CU hd ho|exact CS hd ho)):p:=h
theorem _root_.o2o{p:Prop}(h:p:=by(try dsimp only);simp only[List.length_append,fD,qX,List.length_nil];omega):p:=h
theorem _root_.o2n{p:Prop}(h:p:=by rw[hfil];intro q;left;unfold upd;split;rename_i e;subst e;exact hr.symm;rfl):p:=h
theorem _root_.o2m{p:Prop}(h:p:=by(try dsimp only);intro i hi;by_cases e:i=k;subst e;exact Qh c3;exact hv i om):p:=h
theorem _root_.o2i{p:Prop}(h:p:=by rw[kL,if_neg (by rw[hs];exact Bool.noConfusion),hsv,if_neg (by grind)];try rfl):p:=h
theorem _root_.o2h{p:Prop}(h:p:=by rw[kL,if_neg (by rw[hs];exact Bool.noConfusion),hsv,if_pos (by grind)];try rfl):p:=h
theorem _root_.o2g{p:Prop}(h:p:=by first|(simp only[oQ,ho,hsv];done)|(simp only[oQ,ho,hsv];first|rfl|(simp;done))):p:=h
theorem _root_.o2c{p:Prop}(h:p:=by intro q;left;dsimp only;rw[hkr];unfold upd;split;rename_i e;subst e;exact hr.symm;rfl):p:=h
theorem _root_.o2a{p:Prop}(h:p:=by first|rfl|(rw[Yt];done)|(simp only[Yt,go_sem];done)|(simp only[Yt];exact Su)|(simp;done)):p:=h
theorem _root_.o1z{p:Prop}(h:p:=by have hF:(pI z) k=false:=(by simpa[pI,e0]using c2);simp only[vS];rw[hv1,eF hk2 hF];try simp):p:=h
theorem _root_.o1x{p:Prop}(h:p:=by have hF:(lc a l) k=false:=(by simp only[lc,aV];grind);simp only[mg];rw[hv,eF hk2 hF];try simp):p:=h
theorem _root_.o1w{p:Prop}(h:p:=by have hF:(wI o) k=false:=(by simp only[wI];grind);simp only[jH];rw[hv,eF hk2 hF];simp;try grind):p:=h
theorem _root_.o1v{p:Prop}(h:p:=by have hF:(cutAt x) k=false:=(by simp only[cutAt];grind);simp only[qP];rw[hv,eF hk2 hF];try simp):p:=h
theorem _root_.o1u{p:Prop}(h:p:=by have hF:(nR x.z.sets) k=false:=(by simp only[nR];grind);simp only[uP];rw[hv,eF hk2 hF];try simp):p:=h
theorem _root_.o1t{p:Prop}(h:p:=by rw[<-zV];have hF:(ui d) k=false:=(by simp only[ui];grind);simp only[xg];rw[hv,eF hk2 hF];try simp):p:=h
theorem _root_.o1r{p:Prop}(h:p:=by(try simp only[go_sem,ff]);all_goals (simp only[qx,kH,show n.q=⟨n.set.name,n.set.ty⟩from rfl];grind)):p:=h
theorem _root_.o1q{p:Prop}(h:p:=by have hF:(ku z.sets) k=false:=(by simp only[ku,kN,iM];grind);simp only[mW];rw[hv,eF hk2 hF];try simp):p:=h
theorem _root_.o1o{p:Prop}(h:p:=by have hF:(cutAt ⟨z,gB z⟩) k=false:=(by simp only[cutAt];grind);simp only[rQ,qP];rw[hv,eF hk2 hF];try simp):p:=h
theorem _root_.o1n{p:Prop}(h:p:=by(try simp only[go_sem,ff]);all_goals (rw[jg,XV p1,XV (by rw[Bi];exact Bool.noConfusion),XV (by omega)];rfl)):p:=h
theorem _root_.o1m{p:Prop}(h:p:=by rw[<-zV];have hF:(uH d.drop) k=false:=(by simp only[uH,pY,aV];grind);simp only[xg];rw[hv1,eF hk2 hF];try simp):p:=h
theorem _root_.o1l{p:Prop}(h:p:=by have hF:(oq z.apex z.sets) k=false:=(by simp only[oq];grind [Sgd.q]);simp only[ordered];rw[hv,eF hk2 hF];try simp):p:=h
theorem _root_.o1i{p:Prop}(h:p:=by(try simp only[go_sem,ff]);all_goals (first|done|((repeat' (with_reducible apply And.intro))<;>first|(intros;exact GA _ hl n)|skip))):p:=h
theorem _root_.o1h{p:Prop}(h:p:=by(try simp only[go_sem,ff]);all_goals (first|done|exact congrArg (λq=>some (eU.mk 4 q)) (La hk2 (by simp only[xJ];grind))|(simp;done))):p:=h
theorem _root_.o1f{p:Prop}(h:p:=by(try dsimp only);rw[show k+(k2+1)=k+k2+1 from by omega];first|(rw[BI hst,List.length_append,List.length_singleton];omega)|(rw[BJ hst];omega)):p:=h
theorem _root_.o1c{p:Prop}(h:p:=by(try simp only[go_sem,ff]);all_goals (first|exact nX (z:=(⟨z.apex,iO (gp z d++d.put)⟩:Zon)) hb|exact tQ (z:=(⟨z.apex,iO (gp z d++d.put)⟩:Zon)) hb)):p:=h
theorem _root_.o1b{p:Prop}(h:p:=by(try simp only[go_sem,ff]);all_goals (first|done|((repeat' (with_reducible apply And.intro))<;>first|(intros;exact sF z n.set.name n.set.ty hl)|skip))):p:=h
theorem _root_.o0z{p:Prop}(h:p:=by first|(rw[Aq,X3 hf];exact hst.of_fresh hnn oW oW)|(rw[Aq,XV o4t];exact(j6.same hz2 (XW n)).of_fresh hnn (by omega) (by omega))):p:=h
theorem _root_.o0x{p:Prop}(h:p:=by(try simp only[go_sem,ff]);all_goals (first|done|((repeat' (with_reducible apply And.intro))<;>first|(intros;exact DV l[i]! q)|omega|(intro h;have h:=YM h;omega)))):p:=h
theorem _root_.o0w{p:Prop}(h:p:=by(try simp only[go_sem,ff]);all_goals (first|done|((repeat' (with_reducible apply And.intro))<;>first|(intros;exact Ea l[i]! n t)|omega|(intro h;have h:=YM h;omega)))):p:=h
theorem _root_.o0v{p:Prop}(h:p:=by(try simp only[go_sem,ff]);all_goals (first|done|((repeat' (with_reducible apply And.intro))<;>first|exact(λ_=>FR _ _ (Yh ha.1 om))|exact(λ_=>JJ _ _ (Yh ha.2 om))|skip))):p:=h
theorem _root_.o0u{p:Prop}(h:p:=by rw[ed,if_neg p1,if_neg p2,if_neg (by omega),if_pos (by show aI (⟨z.apex,iO (gp z d++d.put)⟩:Zon)=false\/aL (⟨z.apex,iO (gp z d++d.put)⟩:Zon)≠d.too;rw[hb];grind)];try rfl):p:=h
theorem _root_.o0t{p:Prop}(h:p:=by(try simp only[go_sem,ff]);all_goals (first|done|((repeat' (with_reducible apply And.intro))<;>first|exact(λ_=>Eu _ _ (uz hn hk4) (hn.2 _ hk2))|omega|(intros;omega)|skip))):p:=h
theorem _root_.o0p{p:Prop}(h:p:=by(try simp only[go_sem,ff]);all_goals (first|done|((repeat' (with_reducible apply And.intro))<;>first|(have q9:=Dw d;rw[hd]at q9;exact q9)|(intros;have q9:=Dw d;rw[hd]at q9;exact q9)|skip))):p:=h
theorem _root_.o0o{p:Prop}(h:p:=by(try simp only[go_sem,ff]);all_goals (first|done|((repeat' (with_reducible apply And.intro))<;>first|(intros;exact F3 s hs)|(intros;exact zS x s (hm x hp))|exact(λ_=>zS x s (hm x hp))|skip))):p:=h
theorem _root_.o0n{p:Prop}(h:p:=by(try simp only[go_sem,ff]);all_goals (first|done|((repeat' (with_reducible apply And.intro))<;>first|(intros;exact Ch s x t CZ)|(have h9:=Ch s x t CZ;simp only[go_sem,hh]at h9;exact h9)|skip))):p:=h
theorem _root_.o0m{p:Prop}(h:p:=by first|omega|exact⟨by first|(rw[hend.2];done)|(rw[hend.2];congr 1;done)|(rw[hend.2];congr 1;omega),rfl,om⟩|exact⟨by first|(rw[hend.2];done)|(rw[hend.2];congr 1;done)|(rw[hend.2];congr 1;omega),om⟩):p:=h
theorem _root_.o0l{p:Prop}(h:p:=by(try simp only[go_sem,ff]);all_goals (first|done|((repeat' (with_reducible apply And.intro))<;>first|exact(λ_=>rC _ _ (hn.2 _ hk2) (uz hn hi9))|omega|(intros;omega)|(intro h;simp at h;done)|skip))):p:=h
theorem _root_.o0k{p:Prop}(h:p:=by(try simp only[go_sem,ff]);all_goals (first|done|((repeat' (with_reducible apply And.intro))<;>first|exact(λ_=>rC _ _ (JX hn hk2) (Fg hn hk h9))|omega|(intros;omega)|(intro h;simp at h;done)|skip))):p:=h
theorem _root_.o0i{p:Prop}(h:p:=by(try simp only[go_sem,ff]);all_goals (first|done|((repeat' (with_reducible apply And.intro))<;>first|(intros;exact sG _ _ (hd _ (pR hf2)))|(intros;exact sG _ _ (hd _ (pR hf2)))|omega|(intro h;cases h)|skip))):p:=h
theorem _root_.o0d{p:Prop}(h:p:=by(try simp only[go_sem,ff]);all_goals (first|done|((repeat' (with_reducible apply And.intro))<;>first|(intros;exact sF ⟨a,lP p⟩ t.name t.ty (by rw[mH];omega))|(intros;exact hsw.2)|exact(λrow hrow c hc=>by obtain⟨x,hx,rfl⟩:=Yr.1 hrow;exact(lH (hz2.data x hx) 1).2 c hc)|rfl|skip))):p:=h
theorem _root_.o0c{p:Prop}(h:p:=by(try simp only[go_sem,ff]);all_goals (first|done|((repeat' (with_reducible apply And.intro))<;>first|(intros;exact uf (wY l b n) l hl2 hp hvs (by have:=BD l b n;omega))|(intros;exact uf (-1) l hl2 hp hvs (by omega))|(intros;exact uf (nu (λi=>decide (aL l[i]! = n)) l.length) l hl2 hp hvs (by omega))|skip))):p:=h
theorem _root_.o0a{p:Prop}(h:p:=by first|(rw[KE hf];exact(j6.same hz2 (XW n)).of_fresh hnn (by omega) (by omega))|(rw[<-KG hf hix hi (by simpa using c2) _];exact hst.after (λq b e1 e2 e3 e4=>by have q1:q≠rs:=(λe=>e2 (by rw[e,hz.r]at e1;cases e1;rfl));have q2:q≠p[ix]!.1:=(λe=>e3 (by rw[e,hz.d _ (kM hi)]at e1;cases e1;rfl));have q3:q≠n:=(λe=>by rw[e,hnn]at e1;cases e1);simp only[upd,XV q1,XV q2,XV q3];exact e1) oW oW)|(rw[<-KF hf hix hi (by simpa using c2)];exact(j6.same hz3 (XW n)).after (λq b e1 e2 e3 e4=>by have q1:q≠rs:=(λe=>e2 (by rw[e,hz.r]at e1;cases e1;rfl));have q2:q≠p[ix]!.1:=(λe=>e3 (by rw[e,hz.d _ (kM hi)]at e1;cases e1;rfl));have q3:q≠n:=(λe=>by rw[e,hnn]at e1;cases e1);simp only[upd,XV q1,XV q2,XV q3];exact e1) (by omega) oW)):p:=h
variable [Glob prog] [Told]
def Zg5(s:Str)(p:Str)(hs:s.length<=1000000):PureCt prog 223 [.v (.string (bs s)),.v (.string (bs p))] (.b (wT s p)):=by
 refine oO func223 λff=>?_
 unfold f223
 have e1:((s.length:Int)-p.length).toNat=s.length-p.length:=by omega
 have ff:=qA @e1 ff
 refine oC Tp ?_
 exact fo 0 (k:=by simp[wT])
def Zg4(s:Str)(p:Str)(hs:s.length<=1000000):PureCt prog 158 [.v (.string (bs s)),.v (.string (bs p))] (.b (wT s p)):=by
 refine oO func158 λff=>?_
 unfold f158
 refine aa Tp ?_
 refine aa Tp ?_ (hok:=oF (Zg5 _ _ hs))
 exact fp 0
def LK(s:Str)(z:Str):PureCt prog 100 [.v (.string (bs s)),.v (.string (bs z))] (.tuple [.b (kr s z),.i (if az s&&az z then 0 else 11)]):=by
 refine oO func100 λff=>?_
 unfold f100
 refine aa Tp ?_
 refine oK Tp ?_ ?_ (hok:=oH Eb)<;>intro c1
 . refine aa Tp ?_;exact fo 1 (k:=o3e)
 refine oK Tp ?_ ?_<;>intro c2
 . refine aa Tp ?_;exact fo 1 (k:=o3e)
 have hn:=gI c1.1
 have hm:=gI c1.2
 have e1:((s.length:Int)-z.length-1).toNat=s.length-z.length-1:=by omega
 have ff:=qA @e1 ff
 refine aa Tp ?_ (hok:=ig @Zg4)
 exact fo 1 (k:=o3e)
def Ho(s:Str)(hs:s.length<=1000):PureCt prog 109 [.v (.string (bs s))] (.b (yM s)):=by
 refine oO func109 λff=>?_
 unfold f109
 refine aa Tp ?_
 refine aa Tp ?_ (hok:=ig @Et)
 rcases hps:bC s with _|⟨p0,ps⟩
 . have ff:=qA @hps ff;refine aa Tp ?_;exact fo 0 (k:=by simp[yM,hps])
 have ff:=qA @hps ff
 refine aa Tp ?_
 exact fo 0 (k:=by simp[yM,hps])
def OI(a:Str)(s:Int)(b:Str)(t:Int):PureCt prog 120 [.v (.string (bs a)),.i s,.v (.string (bs b)),.i t] (.i (qC ⟨a,s⟩ ⟨b,t⟩)):=by
 refine oO func120 λff=>?_
 unfold f120
 refine aa Tp ?_
 refine oK Tp ?_ ?_<;>intro c1
 . refine aa Tp ?_ (hok:=oF (LV _ _));refine aa Tp ?_;exact fo 0 (k:=by simp[qC, *])
 refine aa Tp ?_ (hok:=ig @F5)
 exact fo 0 (k:=by simp[qC, *])
def NJ(a:ak)(b:ak):PureCt prog 145 [.agg a.d,.agg b.d] (.i (qC a b)):=by
 refine oO func145 λff=>?_
 unfold f145
 refine aa Tp ?_
 refine oK Tp ?_ ?_<;>intro c1
 . refine aa Tp ?_ (hok:=oF (LV _ _));refine aa Tp ?_;exact fo 0 (k:=by simp[qC, *])
 refine aa Tp ?_ (hok:=ig @F5)
 exact fo 0 (k:=by simp[qC, *])
def Zhy(t:Int)(a:Bool):PureCt prog 121 [.i t,.b a] (.b (fits t a)):=by
 refine oO func121 λff=>?_
 unfold f121
 refine aa Tp ?_
 refine ae ?_
 refine aa Tp ?_
 refine ah ?_
 refine oL Tp ?_ ?_<;>intro c1
 .
  refine cd ?_ ?_<;>intro c2
  . refine aa Tp ?_;exact fo 0 (k:=o5s)
  refine oL Tp ?_ ?_<;>intro c3
  .
   refine cd ?_ ?_<;>intro c4
   . refine aa Tp ?_;exact fo 0 (k:=o5s)
   refine aj ?_;refine aa Tp ?_;exact fo 0 (k:=o5s)
  refine ai Tp ?_;refine cd ?_ ?_<;>intro c5
  . refine aa Tp ?_;exact fo 0 (k:=o5s)
  refine aj ?_;refine aa Tp ?_;exact fo 0 (k:=o5s)
 refine ai Tp ?_
 refine cd ?_ ?_<;>intro c6
 . refine aa Tp ?_;exact fo 0 (k:=o5s)
 refine oL Tp ?_ ?_<;>intro c7
 .
  refine cd ?_ ?_<;>intro c8
  . refine aa Tp ?_;exact fo 0 (k:=o5s)
  refine aj ?_;refine aa Tp ?_;exact fo 0 (k:=o5s)
 refine ai Tp ?_
 refine cd ?_ ?_<;>intro c9
 . refine aa Tp ?_;exact fo 0 (k:=o5s)
 refine aj ?_
 refine aa Tp ?_
 exact fo 0 (k:=o5s)
def Zdi(t:Int)(a:Bool):PureCt prog 113 [.i t,.b a] (.b (fits t a)):=by
 refine oO func113 λff=>?_
 unfold f113
 refine aa Tp ?_
 refine oK Tp ?_ ?_<;>intro c1
 . refine aa Tp ?_;exact fo 0 (k:=by simp;simp only[fits];grind)
 refine aa Tp ?_
 exact fo 0 (k:=by simp;simp only[fits];grind)
def rC(s:Str)(z:Str)(hs:s.length<=1000)(hz:z.length<=1000):PureCt prog 111 [.v (.string (bs s)),.v (.string (bs z))] (.b (ik s z)):=by
 refine oO func111 λff=>?_
 unfold f111
 refine aa Tp ?_
 refine aa Tp ?_ (hok:=oF (Et _ hs))
 refine aa Tp ?_ (hok:=oF (Et _ hz))
 refine oK Tp ?_ ?_<;>intro c1
 . refine aa Tp ?_;exact fo 0 (k:=by simp[ik];omega)
 have hp:=RQ s
 have hq:=RQ z
 refine ae ?_
 refine aa Tp ?_
 refine ah ?_
 refine lp (α:=(Nat)×Nat) [5,6] (λ⟨k,nx⟩=>(k<=(bC z).length)/\(aA (bC z).length (xY (bC s) (bC z)) 0=aA (bC z).length (xY (bC s) (bC z)) k)/\True) (λ⟨k,nx⟩=>(bC z).length-k) (λ⟨k,nx⟩=>[(7,.i k)]) (λ⟨k,nx⟩=>[]) (λ⟨k,nx⟩=>nx) (0,_) (hA:=⟨iv,rfl,trivial⟩) (round:=?_)
 rintro⟨k,nx⟩ ⟨hk,hv, -⟩
 simp only[XY,XZ]
 refine oL Tp ?_ ?_ (hp:=rfl)<;>intro c2
 .
  have hk2:k<(bC z).length:=by simpa using c2
  have hk3:(bC s).length-(bC z).length+k<(bC s).length:=by omega
  have e1:(((bC s).length:Int)-(bC z).length+k).toNat=(bC s).length-(bC z).length+k:=by omega
  have ff:=qD @e1 (nK hk2) (nK hk3) ff;refine ae ?_;refine ah ?_;refine aa Tp ?_;refine cd ?_ ?_<;>intro c3
  . refine aa Tp ?_;exact fo 0 (k:=by have hF:(xY (bC s) (bC z)) k=false:=(by simp only[xY];grind);simp only[ik];rw[hv,eF hk2 hF];try simp)
  refine aj ?_;refine ai Tp ?_
  show ∃_,_
  have h8:(xY (bC s) (bC z)) k=true:=by simp only[xY];grind
  exact ay (k+1,_) (h1:=⟨iv,o4r,trivial⟩)
 refine aK ?_
 refine aa Tp ?_
 exact fo 0 (k:=by simp only[ik];rw[hv,gW (by omega)];simp;omega)
def XL(l:List RSig)(a:Str):PureCt prog 122 [.list false (l.map RSig.d),.v (.string (bs a))] (.b (mg l a)):=by
 refine oO func122 λff=>?_
 unfold f122
 refine aa Tp ?_
 refine oK Tp ?_ ?_<;>intro c1
 . refine aa Tp ?_;exact fo 0 (k:=by simp[mg];omega)
 refine ae ?_
 refine aa Tp ?_
 refine ah ?_
 refine lp (α:=(Nat)×Nat) [0,1,10,11] (λ⟨k,nx⟩=>(k<=l.length)/\(aA l.length (lc a l) 0=aA l.length (lc a l) k)/\True) (λ⟨k,nx⟩=>l.length-k) (λ⟨k,nx⟩=>[(12,.i k)]) (λ⟨k,nx⟩=>[]) (λ⟨k,nx⟩=>nx) (0,_) (hA:=⟨iv,rfl,trivial⟩) (round:=?_)
 rintro⟨k,nx⟩ ⟨hk,hv, -⟩
 simp only[XY,XZ]
 refine aa Tp ?_
 refine ae ?_
 refine cd ?_ ?_ (hp:=rfl)<;>intro c2
 .
  have hk2:k<l.length:=by simpa using c2
  have h0:0<l.length:=by omega
  have hk1:k-1<l.length:=by omega
  have e1:((k:Int)-1).toNat=k-1:=by omega
  have ff:=qE (vL hk2) (vL h0) (vL hk1) @e1 ff;refine aj ?_;refine ae ?_;refine ah ?_;refine aa Tp ?_;refine oK Tp ?_ ?_<;>intro c3
  . refine aa Tp ?_;exact fo 0 (k:=o1x)
  refine oK Tp ?_ ?_<;>intro c4
  . refine aa Tp ?_;exact fo 0 (k:=o1x)
  refine aa Tp ?_;refine cd ?_ ?_<;>intro c5
  . refine aa Tp ?_;exact fo 0 (k:=o1x)
  refine aj ?_;refine ai Tp ?_
  show ∃_,_
  have h8:(lc a l) k=true:=by simp only[lc,aV];grind
  exact ay (k+1,_) (h1:=⟨iv,o4r,trivial⟩)
 refine aK ?_
 refine aa Tp ?_
 exact fo 0 (k:=by simp only[mg];rw[hv,gW (by omega)];simp;omega)
def Zdd(l:List RSig)(a:Str):PureCt prog 116 [.list false (l.map RSig.d),.v (.string (bs a))] (.b (mg l a)):=by
 refine oO func116 λff=>?_
 unfold f116
 refine aa Tp ?_
 refine oK Tp ?_ ?_<;>intro c1
 . refine aa Tp ?_;exact fo 0 (k:=by simp[mg];omega)
 refine ae ?_
 refine aa Tp ?_
 refine ah ?_
 refine lp (α:=(Nat)×Nat) [0,1] (λ⟨k,nx⟩=>(k<=l.length)/\(aA l.length (lc a l) 0=aA l.length (lc a l) k)/\True) (λ⟨k,nx⟩=>l.length-k) (λ⟨k,nx⟩=>[(5,.i k)]) (λ⟨k,nx⟩=>[]) (λ⟨k,nx⟩=>nx) (0,_) (hA:=⟨iv,rfl,trivial⟩) (round:=?_)
 rintro⟨k,nx⟩ ⟨hk,hv, -⟩
 simp only[XY,XZ]
 refine oL Tp ?_ ?_ (hp:=rfl)<;>intro c2
 .
  have hk2:k<l.length:=by simpa using c2
  have h0:0<l.length:=by omega
  have hk1:k-1<l.length:=by omega
  have e1:((k:Int)-1).toNat=k-1:=by omega
  have ff:=qE (vL hk2) (vL h0) (vL hk1) @e1 ff;refine ae ?_;refine ah ?_;refine aa Tp ?_;refine oK Tp ?_ ?_<;>intro c3
  . refine aa Tp ?_;exact fo 0 (k:=o1x)
  refine aa Tp ?_;refine cd ?_ ?_<;>intro c4
  . refine aa Tp ?_;exact fo 0 (k:=o1x)
  refine aj ?_;refine ai Tp ?_
  show ∃_,_
  have h8:(lc a l) k=true:=by simp only[lc,aV];grind
  exact ay (k+1,_) (h1:=⟨iv,o4r,trivial⟩)
 refine aK ?_
 refine aa Tp ?_
 exact fo 0 (k:=by simp only[mg];rw[hv,gW (by omega)];simp;omega)
def Dq{l:List Sgd}{q:ak}{i j:Nat}(hv:bg l q=pF (λk=>qC l[k]!.q q) i j)(h:i<j):(qC l[(i+j) / 2]!.q q<0->bg l q=pF (λk=>qC l[k]!.q q) ((i+j) / 2+1) j)/\(¬qC l[(i+j) / 2]!.q q<0->bg l q=pF (λk=>qC l[k]!.q q) i ((i+j) / 2)):=by
 rw[BP,X3 h]at hv
 exact⟨λh2=>by rw[X3 h2]at hv;exact hv,λh2=>by rw[XV h2]at hv;exact hv⟩
def DV(s:Sgd)(q:ak):PureCt prog 129 [.agg s.d,.agg q.d] (.i (qC s.q q)):=by
 refine oO func129 λff=>?_
 unfold f129
 refine aa Tp ?_
 refine aa Tp ?_ (hok:=oF (OI _ _ _ _))
 exact fp 0
def XP(l:List Sgd)(q:ak)(hl:l.length<=1000000):PureCt prog 128 [.list false (l.map Sgd.d),.agg q.d,.fn (.func 129) [] []] (.tuple [.i (bg l q),.b (di l q)]):=by
 refine oO func128 λff=>?_
 unfold f128
 refine oD Tp ?_
 refine ae ?_
 refine ah ?_
 refine lp (α:=(Nat)×(Nat)×Nat) [0,2,4,8] (λ⟨i,j,nx⟩=>(i<=j)/\(j<=l.length)/\(0<nx)/\(bg l q=pF (λk=>qC l[k]!.q q) i j)/\True) (λ⟨i,j,nx⟩=>j-i) (λ⟨i,j,nx⟩=>[(9,.i i),(10,.i j)]) (λ⟨i,j,nx⟩=>[(0,⟨86,[q.d]⟩)]) (λ⟨i,j,nx⟩=>nx) (0,l.length,_) (hA:=⟨iv,iv,iv,rfl,trivial⟩) (round:=?_)
 rintro⟨i,j,nx⟩ ⟨hij,hj,hx,hv, -⟩
 simp only[XY,XZ]
 have ff:=qA @hx ff
 refine oL Tp ?_ ?_ (hp:=rfl)<;>intro c1
 .
  have hk2:i<j:=by simpa using c1
  have hm:(i+j) / 2<l.length:=by omega
  have ff:=qB (SY (i:=i) (j:=j) (by omega)) (dB hm) ff
  refine ah ?_;refine aa Tp ?_;refine aa Tp ?_ (hok:=oH (DV l[(i+j) / 2]! q));refine cd ?_ ?_<;>intro c2
  .
   refine ai Tp ?_
   show ∃_,_
   exact ay ((i+j) / 2+1,j,_) (h1:=⟨iv,iv,iv,((Dq hv hk2).1 c2),trivial⟩)
  refine ai Tp ?_
  show ∃_,_
  exact ay (i,(i+j) / 2,_) (h1:=⟨iv,iv,iv,(by(try dsimp only);exact(Dq hv hk2).2 om),trivial⟩)
 refine aK ?_
 have hij2:i=j:=by have h9 : ¬i<j:=(by simpa using c1);omega
 have hv2:bg l q=i:=by rw[hv,BP,XV (by omega)]
 by_cases hk4:i<l.length
 .
  have ff:=qA (dB hk4) ff;refine aa Tp ?_ (hok:=o0x)
  exact fo 1 (k:=o4u)
 have ff:=qA (MZ (f:=Sgd.d) (Nat.le_of_not_lt hk4)) ff
 refine aa Tp ?_ (hok:=o0x)
 exact fo 1 (k:=o4u)
def DU(z:Zon)(q:ak)(hl:z.sets.length<=1000000):PureCt prog 74 [.agg z.d,.agg q.d] (.tuple [.i (bg z.sets q),.b (di z.sets q)]):=by
 refine oO func74 λff=>?_
 unfold f74
 refine aa Tp ?_
 refine aa Tp ?_ (hok:=oH (XP _ _ hl))
 exact fp 1
def OC(z:Zon):PureCt prog 59 [.agg z.d] (.b (ordered z)):=by
 refine oO func59 λff=>?_
 unfold f59
 refine aa Tp ?_
 refine oK Tp ?_ ?_ (hok:=oI zl MO)<;>intro c1
 . refine aa Tp ?_;exact fo 0 (k:=by simp only[ordered];rw[Af]at *;grind)
 refine ae ?_
 refine aa Tp ?_
 refine ah ?_
 refine lp (α:=(Nat)×Nat) [1,28,29] (λ⟨k,nx⟩=>(k<=z.sets.length)/\(aA z.sets.length (oq z.apex z.sets) 0=aA z.sets.length (oq z.apex z.sets) k)/\(0<nx)/\True) (λ⟨k,nx⟩=>z.sets.length-k) (λ⟨k,nx⟩=>[(30,.i k)]) (λ⟨k,nx⟩=>[(0,⟨124,[z.d]⟩)]) (λ⟨k,nx⟩=>nx) (0,_) (hA:=⟨iv,rfl,iv,trivial⟩) (round:=?_)
 rintro⟨k,nx⟩ ⟨hk,hv,hx, -⟩
 simp only[XY,XZ]
 have ff:=qA @hx ff
 refine aa Tp ?_
 refine ae ?_
 refine cd ?_ ?_ (hp:=rfl)<;>intro c2
 .
  have hk2:k<z.sets.length:=by simpa using c2
  have h0:0<z.sets.length:=by omega
  have hk1:k-1<z.sets.length:=by omega
  have e1:((k:Int)-1).toNat=k-1:=by omega
  have ff:=qE (dB hk2) (dB h0) (dB hk1) @e1 ff;refine aj ?_;refine ae ?_;refine ah ?_;refine aa Tp ?_;refine oK Tp ?_ ?_ (hok:=oF (uW _))<;>intro c3
  . refine aa Tp ?_;exact fo 0 (k:=o1l)
  refine ae ?_;refine aa Tp ?_ (hok:=oF (LK _ _));refine aa Tp ?_;refine cd ?_ ?_<;>intro c4
  . refine aa Tp ?_;exact fo 0 (k:=o1l)
  refine aj ?_;refine oK Tp ?_ ?_<;>intro c5
  .
   refine aK ?_;refine ai Tp ?_
   show ∃_,_
   have h8:(oq z.apex z.sets) k=true:=by simp only[oq];grind [Sgd.q]
   exact ay (k+1,_) (h1:=⟨iv,o4r,iv,trivial⟩)
  refine aa Tp ?_;refine aa Tp ?_ (hok:=oF (OI _ _ _ _));refine cd ?_ ?_<;>intro c6
  . refine aa Tp ?_;exact fo 0 (k:=o1l)
  refine aj ?_;refine ai Tp ?_
  show ∃_,_
  have h8:(oq z.apex z.sets) k=true:=by simp only[oq];grind [Sgd.q]
  exact ay (k+1,_) (h1:=⟨iv,o4r,iv,trivial⟩)
 refine aK ?_
 refine aa Tp ?_
 exact fo 0 (k:=by simp only[ordered];rw[Af]at *;rw[hv,gW (by omega)];grind)
def XQ(z:Zon)(hl:z.sets.length<=1000000):PureCt prog 60 [.agg z.d] (.b (vS z)):=by
 refine oO func60 λff=>?_
 unfold f60
 refine aa Tp ?_
 refine ae ?_
 refine aa Tp ?_
 refine ah ?_
 refine lp (α:=(Nat)×Nat) [1,9,10] (λ⟨k,nx⟩=>(k<=2)/\(aA 2 (pI z) 0=aA 2 (pI z) k)/\(0<nx)/\True) (λ⟨k,nx⟩=>2-k) (λ⟨k,nx⟩=>[(11,.i k)]) (λ⟨k,nx⟩=>[(0,⟨124,[z.d]⟩)]) (λ⟨k,nx⟩=>nx) (0,_) (hA:=⟨iv,rfl,iv,trivial⟩) (round:=?_)
 rintro⟨k,nx⟩ ⟨hk,hv1,hx, -⟩
 simp only[XY,XZ]
 have ff:=qA @hx ff
 refine aa Tp ?_
 refine ae ?_
 refine cd ?_ ?_ (hp:=rfl)<;>intro c1
 .
  have hk2:k<2:=by have h9:(k:Int)<2:=(by simpa using c1);omega
  refine aj ?_;refine ae ?_;refine ah ?_;have h01:k=0\/k=1:=by omega
  rcases h01 with e0|e0
  .
   have ff:=qA @e0 ff;refine aa Tp ?_;refine aa Tp ?_ (hok:=oI (DU z ⟨z.apex,4⟩ hl) (DU z ⟨z.apex,2⟩ hl));refine aa Tp ?_;refine cd ?_ ?_<;>intro c2
   . refine aa Tp ?_;exact fo 0 (k:=o1z)
   refine aj ?_;refine ai Tp ?_
   show ∃_,_
   have h8:(pI z) k=true:=by simpa[pI,e0]using c2
   exact ay (k+1,_) (h1:=⟨iv,o4p,iv,trivial⟩)
  have ff:=qA @e0 ff;refine aa Tp ?_;refine aa Tp ?_ (hok:=oI (DU z ⟨z.apex,4⟩ hl) (DU z ⟨z.apex,2⟩ hl));refine aa Tp ?_;refine cd ?_ ?_<;>intro c2
  . refine aa Tp ?_;exact fo 0 (k:=o1z)
  refine aj ?_;refine ai Tp ?_
  show ∃_,_
  have h8:(pI z) k=true:=by simpa[pI,e0]using c2
  exact ay (k+1,_) (h1:=⟨iv,o4p,iv,trivial⟩)
 refine aK ?_
 refine ae ?_
 refine aa Tp ?_
 refine ah ?_
 refine lp (α:=(Nat)×Nat) [1,30,31] (λ⟨k,nx⟩=>(k<=z.sets.length)/\(aA z.sets.length (qz z.apex z.sets) 0=aA z.sets.length (qz z.apex z.sets) k)/\(0<nx)/\True) (λ⟨k,nx⟩=>z.sets.length-k) (λ⟨k,nx⟩=>[(32,.i k)]) (λ⟨k,nx⟩=>[(0,⟨124,[z.d]⟩)]) (λ⟨k,nx⟩=>nx) (0,_) (hA:=⟨iv,rfl,iv,trivial⟩) (round:=?_)
 rintro⟨k,nx⟩ ⟨hk,hv,hx, -⟩
 simp only[XY,XZ]
 have ff:=qA @hx ff
 refine aa Tp ?_
 refine ae ?_
 refine cd ?_ ?_ (hp:=rfl)<;>intro c3
 .
  have hk2:k<z.sets.length:=by simpa using c3
  have ff:=qA (dB hk2) ff;refine aj ?_;refine ae ?_;refine ah ?_;refine aa Tp ?_;refine aa Tp ?_ (hok:=oF (Zhy _ _));refine cd ?_ ?_<;>intro c4
  . refine aa Tp ?_;exact fo 0 (k:=by have hF:(qz z.apex z.sets) k=false:=(by simp only[qz];grind);simp only[vS];rw[hv,eF hk2 hF];try simp)
  refine aj ?_;refine ai Tp ?_
  show ∃_,_
  have h8:(qz z.apex z.sets) k=true:=by simp only[qz];grind
  exact ay (k+1,_) (h1:=⟨iv,o4r,iv,trivial⟩)
 refine aK ?_
 refine aa Tp ?_
 exact fo 0 (k:=by simp only[vS];rw[hv1,hv,gW (n:=2) (by omega),gW (by omega)];rfl)
@[go_sem]theorem keysOk_T{m:List Str}:kG prog 9 (vC m)=true:=by
 induction m with
 | nil=>rfl
 | cons s m ih=>rw[A9];simp only[kG,ih,ko9,ZG]
def XR(x:Lay)(hl:x.z.sets.length<=1000000):PureCt prog 62 [.agg x.d] (.b (uP x)):=by
 refine oO func62 λff=>?_
 unfold f62
 refine aa Tp ?_
 refine ae ?_
 refine aa Tp ?_
 refine ah ?_
 refine lp (α:=(Nat)×Nat) [1,8,9] (λ⟨k,nx⟩=>(k<=x.z.sets.length)/\(aA x.z.sets.length (nR x.z.sets) 0=aA x.z.sets.length (nR x.z.sets) k)/\(0<nx)/\True) (λ⟨k,nx⟩=>x.z.sets.length-k) (λ⟨k,nx⟩=>[(10,.i k)]) (λ⟨k,nx⟩=>[(0,⟨127,[x.d]⟩)]) (λ⟨k,nx⟩=>nx) (0,_) (hA:=⟨iv,rfl,iv,trivial⟩) (round:=?_)
 rintro⟨k,nx⟩ ⟨hk,hv,hx, -⟩
 simp only[XY,XZ]
 have ff:=qA @hx ff
 refine aa Tp ?_
 refine ae ?_
 refine cd ?_ ?_ (hp:=rfl)<;>intro c1
 .
  have hk2:k<x.z.sets.length:=by simpa using c1
  have hk1:k-1<x.z.sets.length:=by omega
  have e1:((k:Int)-1).toNat=k-1:=by omega
  have e2:((k:Int)+1).toNat=k+1:=by omega
  have ff:=qE (dB hk2) (dB hk1) @e1 @e2 ff;refine aj ?_;refine ae ?_;refine ah ?_;refine aa Tp ?_;refine oK Tp ?_ ?_<;>intro c2
  .
   refine aK ?_;refine ai Tp ?_
   show ∃_,_
   have h8:(nR x.z.sets) k=true:=by simp only[nR];grind
   exact ay (k+1,_) (h1:=⟨iv,o4r,iv,trivial⟩)
  refine oK Tp ?_ ?_<;>intro c3
  . refine aa Tp ?_;exact fo 0 (k:=o1u)
  by_cases hk4:k+1<x.z.sets.length
  .
   have ff:=qA (dB hk4) ff;refine aa Tp ?_;refine cd ?_ ?_<;>intro c4
   . refine aa Tp ?_;exact fo 0 (k:=o1u)
   refine aj ?_;refine ai Tp ?_
   show ∃_,_
   have h8:(nR x.z.sets) k=true:=by simp only[nR];grind
   exact ay (k+1,_) (h1:=⟨iv,o4r,iv,trivial⟩)
  have e9:decide (((k+1:Nat):Int)<x.z.sets.length)=false:=Y7 om;have ff:=qA (MZ (f:=Sgd.d) (Nat.le_of_not_lt hk4)) ff;refine aa Tp ?_;refine cd ?_ ?_<;>intro c5
  . refine aa Tp ?_;exact fo 0 (k:=o1u)
  refine aj ?_;refine ai Tp ?_
  show ∃_,_
  have h8:(nR x.z.sets) k=true:=by simp only[nR];grind
  exact ay (k+1,_) (h1:=⟨iv,o4r,iv,trivial⟩)
 refine aK ?_
 refine aa Tp ?_
 exact fo 0 (k:=by simp only[uP];rw[hv,gW (by omega)])
def XO(x:Lay)(hl:x.z.sets.length<=1000000)(hb:x.b.length=x.z.sets.length):PureCt prog 63 [.agg x.d] (.b (qP x)):=by
 refine oO func63 λff=>?_
 unfold f63
 refine aa Tp ?_
 refine ae ?_
 refine aa Tp ?_
 refine ah ?_
 refine lp (α:=(Nat)×Nat) [1,9,10] (λ⟨k,nx⟩=>(k<=x.z.sets.length)/\(aA x.z.sets.length (cutAt x) 0=aA x.z.sets.length (cutAt x) k)/\(0<nx)/\True) (λ⟨k,nx⟩=>x.z.sets.length-k) (λ⟨k,nx⟩=>[(11,.i k)]) (λ⟨k,nx⟩=>[(0,⟨127,[x.d]⟩)]) (λ⟨k,nx⟩=>nx) (0,_) (hA:=⟨iv,rfl,iv,trivial⟩) (round:=?_)
 rintro⟨k,nx⟩ ⟨hk,hv,hx, -⟩
 simp only[XY,XZ]
 have ff:=qA @hx ff
 refine aa Tp ?_
 refine ae ?_
 refine cd ?_ ?_ (hp:=rfl)<;>intro c1
 .
  have hk2:k<x.z.sets.length:=by simpa using c1
  have hk3:k<x.b.length:=by omega
  have ff:=qB (dB hk2) (nK hk3) ff;refine aj ?_;refine ae ?_;refine ah ?_;refine oD Tp ?_;refine ah ?_;refine aa Tp ?_;refine cd ?_ ?_<;>intro c2
  .
   refine aa Tp ?_;refine cd ?_ ?_<;>intro c3
   . refine aa Tp ?_;exact fo 0 (k:=o1v)
   refine aj ?_;refine ai Tp ?_
   show ∃_,_
   have h8:(cutAt x) k=true:=by simp only[cutAt];grind
   exact ay (k+1,_) (h1:=⟨iv,o4r,iv,trivial⟩)
  refine aa Tp ?_;refine cd ?_ ?_<;>intro c4
  .
   refine aa Tp ?_;refine cd ?_ ?_<;>intro c5
   . refine aa Tp ?_;exact fo 0 (k:=o1v)
   refine aj ?_;refine ai Tp ?_
   show ∃_,_
   have h8:(cutAt x) k=true:=by simp only[cutAt];grind
   exact ay (k+1,_) (h1:=⟨iv,o4r,iv,trivial⟩)
  refine aa Tp ?_;refine cd ?_ ?_<;>intro c6
  . refine aa Tp ?_;exact fo 0 (k:=o1v)
  refine aj ?_;refine ai Tp ?_
  show ∃_,_
  have h8:(cutAt x) k=true:=by simp only[cutAt];grind
  exact ay (k+1,_) (h1:=⟨iv,o4r,iv,trivial⟩)
 refine aK ?_
 refine aa Tp ?_
 exact fo 0 (k:=by simp only[qP];rw[hv,gW (by omega)])
def XM(x:Lay)(hl:x.z.sets.length<=1000000)(hb:x.b.length=x.z.sets.length):PureCt prog 64 [.agg x.d] (.b (zK x)):=by
 refine oO func64 λff=>?_
 unfold f64
 refine aa Tp ?_
 refine ae ?_
 refine aa Tp ?_
 refine ah ?_
 refine lp (α:=(Nat)×Nat) [1,9,10] (λ⟨k,nx⟩=>(k<=x.z.sets.length)/\(aA x.z.sets.length (vK x) 0=aA x.z.sets.length (vK x) k)/\(0<nx)/\True) (λ⟨k,nx⟩=>x.z.sets.length-k) (λ⟨k,nx⟩=>[(11,.i k)]) (λ⟨k,nx⟩=>[(0,⟨127,[x.d]⟩)]) (λ⟨k,nx⟩=>nx) (0,_) (hA:=⟨iv,rfl,iv,trivial⟩) (round:=?_)
 rintro⟨k,nx⟩ ⟨hk,hv,hx, -⟩
 simp only[XY,XZ]
 have ff:=qA @hx ff
 refine aa Tp ?_
 refine ae ?_
 refine cd ?_ ?_ (hp:=rfl)<;>intro c1
 .
  have hk2:k<x.z.sets.length:=by simpa using c1
  have hk3:k<x.b.length:=by omega
  have ff:=qB (dB hk2) (nK hk3) ff;refine aj ?_;refine ae ?_;refine ah ?_;refine oD Tp ?_;refine cd ?_ ?_<;>intro c2
  . refine aa Tp ?_;exact fo 0 (k:=by have hF:(vK x) k=false:=(by simp only[vK];grind);simp only[zK];rw[hv,eF hk2 hF];try simp)
  refine aj ?_;refine ai Tp ?_
  show ∃_,_
  have h8:(vK x) k=true:=by simp only[vK];grind
  exact ay (k+1,_) (h1:=⟨iv,o4r,iv,trivial⟩)
 refine aK ?_
 refine aa Tp ?_
 exact fo 0 (k:=by simp only[zK];rw[hv,gW (by omega)])
def XN(x:Lay)(hl:x.z.sets.length<=1000000):PureCt prog 65 [.agg x.d] (.b (zN x)):=by
 refine oO func65 λff=>?_
 unfold f65
 refine aa Tp ?_
 refine ae ?_
 refine aa Tp ?_
 refine ah ?_
 refine lp (α:=(Nat)×Nat) [1,8,9] (λ⟨k,nx⟩=>(k<=x.z.sets.length)/\(aA x.z.sets.length (rR x.z) 0=aA x.z.sets.length (rR x.z) k)/\(0<nx)/\True) (λ⟨k,nx⟩=>x.z.sets.length-k) (λ⟨k,nx⟩=>[(10,.i k)]) (λ⟨k,nx⟩=>[(0,⟨127,[x.d]⟩)]) (λ⟨k,nx⟩=>nx) (0,_) (hA:=⟨iv,rfl,iv,trivial⟩) (round:=?_)
 rintro⟨k,nx⟩ ⟨hk,hv,hx, -⟩
 simp only[XY,XZ]
 have ff:=qA @hx ff
 refine aa Tp ?_
 refine ae ?_
 refine cd ?_ ?_ (hp:=rfl)<;>intro c1
 .
  have hk2:k<x.z.sets.length:=by simpa using c1
  have ff:=qA (dB hk2) ff;refine aj ?_;refine ae ?_;refine ah ?_;refine aa Tp ?_;refine aa Tp ?_ (hok:=oF (XL _ _));refine cd ?_ ?_<;>intro c2
  . refine aa Tp ?_;exact fo 0 (k:=by have hF:(rR x.z) k=false:=(by simpa only[rR]using c2);simp only[zN];rw[hv,eF hk2 hF];try simp)
  refine aj ?_;refine ai Tp ?_
  show ∃_,_
  have h8:(rR x.z) k=true:=by simpa only[rR]using c2
  exact ay (k+1,_) (h1:=⟨iv,o4r,iv,trivial⟩)
 refine aK ?_
 refine aa Tp ?_
 exact fo 0 (k:=by simp only[zN];rw[hv,gW (by omega)])
def XK(z:Zon)(hl:z.sets.length<=1000000):PureCt prog 61 [.agg z.d] (.agg (kU z).d):=by
 refine oO func61 λff=>?_
 unfold f61
 refine oC Tp ?_
 refine ae ?_
 refine aa Tp ?_
 refine ah ?_
 refine lp (α:=(Nat)×Nat) [1,2,3,16,17] (λ⟨k,nx⟩=>(k<=z.sets.length)/\(2<nx)/\True) (λ⟨k,nx⟩=>z.sets.length-k) (λ⟨k,nx⟩=>[(18,.i k)]) (λ⟨k,nx⟩=>[(0,⟨124,[z.d]⟩),(1,⟨127,[[.v (.string (bs [])),.list true [],.list true []]]⟩),(2,⟨195,iU (vC (fC z (k)))⟩)]) (λ⟨k,nx⟩=>nx) (0,_) (hA:=⟨iv,iv,trivial⟩) (round:=?_)
 rintro⟨k,nx⟩ ⟨hk,hx, -⟩
 simp only[XY,XZ]
 have n0:0<nx:=by omega
 have n1:1<nx:=by omega
 have ff:=qD @hx @n0 @n1 ff
 refine aa Tp ?_
 refine ae ?_
 refine cd ?_ ?_ (hp:=rfl)<;>intro c1
 .
  have hk2:k<z.sets.length:=by simpa using c1
  have ff:=qA (dB hk2) ff;refine aj ?_;refine ae ?_;refine ah ?_;refine oC Tp ?_;refine cd ?_ ?_<;>intro c2
  .
   refine ai Tp ?_;refine ai Tp ?_
   show ∃_,_
   have ff:=qA (Wn (z:=z) (k:=k) (by grind)) ff
   exact ay (k+1,_) (h1:=⟨iv,iv,trivial⟩)
  refine aj ?_;refine ai Tp ?_
  show ∃_,_
  have ff:=qA (Wo (z:=z) (k:=k) (by grind)) ff
  exact ay (k+1,_) (h1:=⟨iv,iv,trivial⟩)
 refine aK ?_
 refine VB 3 2 ev ev rfl ZeS ?_
 refine oC Tp ?_
 refine ae ?_
 refine aa Tp ?_
 refine ah ?_
 refine lp (α:=(Nat)×(Str)×(Nat)×(Nat)×Nat) [2,3,49,50] (λ⟨k,cut,r6,rb,nx⟩=>(k<=z.sets.length)/\(rb<nx)/\(r6<nx)/\(2<rb/\rb<r6)/\(cut=(fw (fC z z.sets.length) z.sets k).2)/\True) (λ⟨k,cut,r6,rb,nx⟩=>z.sets.length-k) (λ⟨k,cut,r6,rb,nx⟩=>[(6,.mptr r6 0 0),(7,.v (.string (bs cut))),(51,.i k)]) (λ⟨k,cut,r6,rb,nx⟩=>[(0,⟨124,[z.d]⟩),(1,⟨127,[[.v (.string (bs [])),.list true [],.list true []]]⟩),(r6,⟨127,[[.v (.string (bs z.apex)),.list false (z.sets.map Sgd.d),.mrow rb 0 z.sets.length]]⟩),(rb,⟨9,(rA (fC z z.sets.length) z.sets z.sets.length (k)).map sR⟩)]) (λ⟨k,cut,r6,rb,nx⟩=>nx) (0,[],(nx+8),(nx+6),_) (hA:=⟨iv,iv,iv,iv,iv,trivial⟩) (round:=?_)
 rintro⟨k,cut,r6,rb,nx⟩ ⟨hk,hx,hx6,hbr,hc, -⟩
 simp only[XY,XZ]
 have n0:0<nx:=by omega
 have n1:1<nx:=by omega
 have ff:=qA @hx (qI @hx6 @n0 @n1 (nH r6 rb) (nH 0 rb) (nH 1 rb) (nH 0 r6) (nH 1 r6) ff)
 refine aa Tp ?_
 refine ae ?_
 refine cd ?_ ?_ (hp:=rfl)<;>intro c3
 .
  have hk2:k<z.sets.length:=by simpa using c3
  have ff:=qD (dB hk2) (Lc (m:=(fC z z.sets.length)) (l:=z.sets) hk) (nK (l:=rA (fC z z.sets.length) z.sets z.sets.length k) (n:=k) (by rw[Lc hk];exact hk2)) ff
  refine aj ?_;refine ae ?_;refine ah ?_;refine oC Tp ?_;refine oK Tp ?_ ?_<;>intro c4
  .
   refine aa Tp ?_ (hok:=oF (LK _ _));refine aa Tp ?_;refine cd ?_ ?_<;>intro c5
   .
    refine ai Tp ?_;refine oK Tp ?_ ?_<;>intro c6
    .
     refine ai Tp ?_;refine ai Tp ?_;refine ai Tp ?_
     show ∃_,_
     have hcc:(fw (fC z z.sets.length) z.sets (k+1)).2=z.sets[k]!.set.name:=by show stepC _ (fw _ _ k).2 _=_;rw[<-hc];simp only[stepC];grind
     have ff:=qB (Cr hk2 hcc) hcc ff;exact ay (k+1,(fw (fC z z.sets.length) z.sets (k+1)).2,r6,rb,_) (h1:=⟨iv,iv,iv,iv,iv,trivial⟩)
    refine ai Tp ?_;refine ai Tp ?_
    show ∃_,_
    have hcc:(fw (fC z z.sets.length) z.sets (k+1)).2=[]:=by show stepC _ (fw _ _ k).2 _=_;rw[<-hc];simp only[stepC];grind
    have ff:=qB (Cr hk2 hcc) hcc ff;exact ay (k+1,(fw (fC z z.sets.length) z.sets (k+1)).2,r6,rb,_) (h1:=⟨iv,iv,iv,iv,iv,trivial⟩)
   refine aj ?_;refine oK Tp ?_ ?_<;>intro c6
   .
    refine ai Tp ?_;refine ai Tp ?_;refine ai Tp ?_
    show ∃_,_
    have hcc:(fw (fC z z.sets.length) z.sets (k+1)).2=z.sets[k]!.set.name:=by show stepC _ (fw _ _ k).2 _=_;rw[<-hc];simp only[stepC];grind
    have ff:=qB (Cr hk2 hcc) hcc ff;exact ay (k+1,(fw (fC z z.sets.length) z.sets (k+1)).2,r6,rb,_) (h1:=⟨iv,iv,iv,iv,iv,trivial⟩)
   refine ai Tp ?_;refine ai Tp ?_
   show ∃_,_
   have hcc:(fw (fC z z.sets.length) z.sets (k+1)).2=cut:=by show stepC _ (fw _ _ k).2 _=_;rw[<-hc];simp only[stepC];grind
   have ff:=qB (Cr hk2 hcc) hcc ff;exact ay (k+1,(fw (fC z z.sets.length) z.sets (k+1)).2,r6,rb,_) (h1:=⟨iv,iv,iv,iv,iv,trivial⟩)
  refine oK Tp ?_ ?_<;>intro c6
  .
   refine ai Tp ?_;refine ai Tp ?_;refine ai Tp ?_
   show ∃_,_
   have hcc:(fw (fC z z.sets.length) z.sets (k+1)).2=z.sets[k]!.set.name:=by show stepC _ (fw _ _ k).2 _=_;rw[<-hc];simp only[stepC];grind
   have ff:=qB (Cr hk2 hcc) hcc ff;exact ay (k+1,(fw (fC z z.sets.length) z.sets (k+1)).2,r6,rb,_) (h1:=⟨iv,iv,iv,iv,iv,trivial⟩)
  refine ai Tp ?_;refine ai Tp ?_
  show ∃_,_
  have hcc:(fw (fC z z.sets.length) z.sets (k+1)).2=cut:=by show stepC _ (fw _ _ k).2 _=_;rw[<-hc];simp only[stepC];grind
  have ff:=qB (Cr hk2 hcc) hcc ff;exact ay (k+1,(fw (fC z z.sets.length) z.sets (k+1)).2,r6,rb,_) (h1:=⟨iv,iv,iv,iv,iv,trivial⟩)
 refine aK ?_
 have e9:k=z.sets.length:=by omega
 subst e9
 have tk:List.take z.sets.length ((rA (fC z z.sets.length) z.sets z.sets.length z.sets.length).map sR)=(DJ z).map sR:=by rw[Zdv];exact Ym (by rw[Zk,z8];exact XW _)
 have ff:=qB @tk (Lc (m:=(fC z z.sets.length)) (l:=z.sets) (XW z.sets.length)) ff
 refine aa Tp ?_
 exact oN (fin 2 (hr:=oR) (hk:=by(try simp only[go_sem,ff]);all_goals (exact Oh z)))
def xw(z:Zon):PureCt prog 23 [.agg z.d] (.b (aI z)):=by
 refine oO func23 λff=>?_
 unfold f23
 refine oC Tp ?_
 refine oK Tp (λc1=>?_) (λc1=>?_) (hok:=by(try simp only[go_sem,ff]);all_goals (first|done|((repeat' (with_reducible apply And.intro))<;>first|(intros;exact OC z)|(intro h;exact XQ z (LB h))|(intros;simp_all;done)|skip)))
 . refine aa Tp ?_;exact fo 0 (k:=by simp only[aI];grind)
 have ho:=LB c1.1
 refine aa Tp ?_ (hok:=oF (XK z ho))
 refine aa Tp ?_ (hok:=oa4 (XR (kU z) ho) (XO (kU z) ho (Oh z)) (XM (kU z) ho (Oh z)) (XN (kU z) ho))
 exact fo 0 (k:=by simp only[aI];rw[c1.1,c1.2];simp[ZZ])
def OB(z:Zon):PureCt prog 26 [.agg z.d] (.tuple [.i (if aI z then aL z else 0),.i (if aI z then 0 else 1)]):=by
 refine oO func26 λff=>?_
 unfold f26
 refine aa Tp ?_
 refine oK Tp ?_ ?_ (hok:=oF (xw z))<;>intro c1
 . refine aa Tp ?_;exact fo 1 (k:=by simp[c1])
 refine aa Tp ?_ (hok:=oF (DU z ⟨z.apex,4⟩ (ZeG c1)))
 obtain⟨hf1,hf2⟩:=ZbJ c1
 have ff:=qB (dB hf1) (o9 hf2) ff
 refine aa Tp ?_
 exact fo 1 (k:=by simp[c1,aL])
def Qh{x y:RSig}(h:x.zone=y.zone/\x.key=y.key/\x.alg=y.alg/\x.frm=y.frm/\x.unt=y.unt/\x.sum=y.sum):x=y:=by
 obtain⟨a,b,c,d,e,f⟩:=x
 obtain⟨g,i,j,k,l,m⟩:=y
 simp at h
 simp[h]
theorem Zcb{x y:RSig}(h : ¬x.zone=y.zone \/ ¬x.key=y.key \/ ¬x.alg=y.alg \/ ¬x.frm=y.frm \/ ¬x.unt=y.unt \/ ¬x.sum=y.sum):x≠y:=by
 rintro rfl
 simp at h
def Zde(a:Sgd)(b:Sgd)(ha:tJ a):PureCt prog 88 [.agg a.d,.agg b.d] (.b (lg a b)):=by
 refine oO func88 λff=>?_
 unfold f88
 have ha2:=ha.2
 refine aa Tp ?_
 refine oK Tp ?_ ?_ (hok:=oH (Zdg _ _ ha.1))<;>intro c1
 . refine aa Tp ?_;exact fo 0 (k:=by rw[Zch (by grind [uV])])
 refine ae ?_
 refine aa Tp ?_
 refine ah ?_
 refine lp (α:=(Nat)×Nat) [2,3] (λ⟨k,nx⟩=>(k<=a.sigs.length)/\(1<nx)/\(∀i,i<k->a.sigs[i]! = b.sigs[i]!)/\True) (λ⟨k,nx⟩=>a.sigs.length-k) (λ⟨k,nx⟩=>[(5,.i k)]) (λ⟨k,nx⟩=>[(0,⟨84,[a.d]⟩),(1,⟨84,[b.d]⟩)]) (λ⟨k,nx⟩=>nx) (0,_) (hA:=⟨iv,iv,o3u,trivial⟩) (round:=?_)
 rintro⟨k,nx⟩ ⟨hk,hx,hv, -⟩
 simp only[XY,XZ]
 have n0:0<nx:=by omega
 have ff:=qB @hx @n0 ff
 refine oL Tp ?_ ?_ (hp:=rfl)<;>intro c2
 .
  have hk2:k<a.sigs.length:=by simpa using c2
  have hk3:k<b.sigs.length:=by grind
  have ff:=qB (vL hk2) (vL hk3) ff;refine ae ?_;refine ah ?_;refine aa Tp ?_;refine cd ?_ ?_<;>intro c3
  . refine aa Tp ?_;exact fo 0 (k:=by rw[Zcg (Zcb c3)])
  refine aj ?_;refine ai Tp ?_
  show ∃_,_
  exact ay (k+1,_) (h1:=⟨iv,iv,o2m,trivial⟩)
 refine aK ?_
 refine aa Tp ?_
 exact fo 0 (k:=by rw[Zcf (by grind [uV]) (by grind) λi hi=>hv i (by omega)])
def Zdf(a:List Sgd)(b:List Sgd)(ha:fH a):PureCt prog 42 [.list false (a.map Sgd.d),.list false (b.map Sgd.d)] (.b (sM a b)):=by
 refine oO func42 λff=>?_
 unfold f42
 have ha1:=ha.1
 refine aa Tp ?_
 refine oK Tp ?_ ?_<;>intro c1
 . refine aa Tp ?_;exact fo 0 (k:=by rw[Qk (by grind)])
 refine ae ?_
 refine aa Tp ?_
 refine ah ?_
 refine lp (α:=(Nat)×Nat) [0,1] (λ⟨k,nx⟩=>(k<=a.length)/\(∀i,i<k->lg a[i]! b[i]! = true)/\True) (λ⟨k,nx⟩=>a.length-k) (λ⟨k,nx⟩=>[(5,.i k)]) (λ⟨k,nx⟩=>[]) (λ⟨k,nx⟩=>nx) (0,_) (hA:=⟨iv,o3u,trivial⟩) (round:=?_)
 rintro⟨k,nx⟩ ⟨hk,hv, -⟩
 simp only[XY,XZ]
 refine oL Tp ?_ ?_ (hp:=rfl)<;>intro c2
 .
  have hk2:k<a.length:=by simpa using c2
  have hk3:k<b.length:=by grind
  have ff:=qB (dB hk2) (dB hk3) ff;refine ae ?_;refine ah ?_;refine aa Tp ?_ (hok:=oH (Zde _ _ (ha.2 k hk2)));refine cd ?_ ?_<;>intro c3
  . refine aa Tp ?_;exact fo 0 (k:=by rw[Qq (k:=k) (by grind)])
  refine aj ?_;refine ai Tp ?_
  show ∃_,_
  exact ay (k+1,_) (h1:=⟨iv,(by(try dsimp only);intro i hi;by_cases e:i=k;subst e;grind;exact hv i om),trivial⟩)
 refine aK ?_
 refine aa Tp ?_
 exact fo 0 (k:=by rw[Qj (by grind) λi hi=>hv i (by omega)])
def Co(a:Zon)(b:Zon)(ha:fH a.sets):PureCt prog 13 [.agg a.d,.agg b.d] (.b (mh a b)):=by
 refine oO func13 λff=>?_
 unfold f13
 refine aa Tp ?_
 refine aa Tp ?_ (hok:=oH (Zdf _ _ ha))
 exact fo 0 (k:=by simp[Zc1])
def Lh(z:Zon)(q:ak)(hl:z.sets.length<=1000000):PureCt prog 57 [.agg z.d,.agg q.d] (.i (dM z.sets q)):=by
 refine oO func57 λff=>?_
 unfold f57
 refine aa Tp ?_
 refine ae ?_
 refine aa Tp ?_
 refine ah ?_
 refine lp (α:=(Nat)×Nat) [2,3] (λ⟨k,nx⟩=>(k<=z.sets.length)/\(1<nx)/\(dM z.sets q=rO z.sets q k)/\True) (λ⟨k,nx⟩=>z.sets.length-k) (λ⟨k,nx⟩=>[(5,.i k)]) (λ⟨k,nx⟩=>[(0,⟨24,[z.d]⟩),(1,⟨86,[q.d]⟩)]) (λ⟨k,nx⟩=>nx) (0,_) (hA:=⟨iv,iv,rfl,trivial⟩) (round:=?_)
 rintro⟨k,nx⟩ ⟨hk,hx,hv, -⟩
 simp only[XY,XZ]
 have n0:0<nx:=by omega
 have ff:=qB @hx @n0 ff
 refine oL Tp ?_ ?_ (hp:=rfl)<;>intro c1
 .
  have hk2:k<z.sets.length:=by simpa using c1
  have ff:=qA (dB hk2) ff;refine ae ?_;refine ah ?_;refine aa Tp ?_;refine cd ?_ ?_<;>intro c2
  . refine aa Tp ?_;exact fo 0 (k:=by rw[hv,vE,X3 hk2,X3 (by cases q;simp_all [Sgd.q])])
  refine aj ?_;refine ai Tp ?_
  show ∃_,_
  exact ay (k+1,_) (h1:=⟨iv,iv,(by(try dsimp only);rw[hv,vE,if_pos hk2,if_neg (by intro e;rw[<-e]at c2;simp[Sgd.q]at c2)]),trivial⟩)
 refine aK ?_
 refine aa Tp ?_
 exact fo 0 (k:=by rw[hv,vE,XV (by omega)])
def Rc(z:Zon)(hl:z.sets.length<=1000000):PureCt prog 53 [.agg z.d] (.b (qW z)):=by
 refine oO func53 λff=>?_
 unfold f53
 refine aa Tp ?_
 refine oK Tp ?_ ?_ (hok:=oI (Lh z ⟨z.apex,4⟩ hl) (Lh z ⟨z.apex,2⟩ hl))<;>intro c1
 . refine aa Tp ?_;exact fo 0 (k:=by simp only[qW];grind)
 refine ae ?_
 refine aa Tp ?_
 refine ah ?_
 refine lp (α:=(Nat)×Nat) [1] (λ⟨k,nx⟩=>(k<=z.sets.length)/\(aA z.sets.length (qz z.apex z.sets) 0=aA z.sets.length (qz z.apex z.sets) k)/\(0<nx)/\True) (λ⟨k,nx⟩=>z.sets.length-k) (λ⟨k,nx⟩=>[(3,.i k)]) (λ⟨k,nx⟩=>[(0,⟨24,[z.d]⟩)]) (λ⟨k,nx⟩=>nx) (0,_) (hA:=⟨iv,rfl,iv,trivial⟩) (round:=?_)
 rintro⟨k,nx⟩ ⟨hk,hv,hx, -⟩
 simp only[XY,XZ]
 have ff:=qA @hx ff
 refine oL Tp ?_ ?_ (hp:=rfl)<;>intro c2
 .
  have hk2:k<z.sets.length:=by simpa using c2
  have ff:=qA (dB hk2) ff;refine ae ?_;refine ah ?_;refine aa Tp ?_ (hok:=oH Zdi);refine cd ?_ ?_<;>intro c3
  . refine aa Tp ?_;exact fo 0 (k:=by have hF:(qz z.apex z.sets) k=false:=(by simp only[qz];grind);simp only[qW];rw[hv,eF hk2 hF];try simp)
  refine aj ?_;refine ai Tp ?_
  show ∃_,_
  have h8:(qz z.apex z.sets) k=true:=by simp only[qz];grind
  exact ay (k+1,_) (h1:=⟨iv,o4r,iv,trivial⟩)
 refine aK ?_
 refine aa Tp ?_
 exact fo 0 (k:=by simp only[qW];rw[hv,gW (by omega)];grind)
def Rf(z:Zon):PureCt prog 52 [.agg z.d] (.b (mr z)):=by
 refine oO func52 λff=>?_
 unfold f52
 refine aa Tp ?_
 refine oK Tp (λc1=>?_) (λc1=>?_) (hok:=by(try simp only[go_sem,ff]);all_goals (first|done|((repeat' (with_reducible apply And.intro))<;>first|(intros;exact lJ _)|exact(λ_=>Ho _ (by have:=gI (by assumption);omega))|exact(λh=>Ho _ (by have:=gI (by simpa using h);omega))|skip)))
 . refine aa Tp ?_;exact fo 0 (k:=by simp only[mr];grind)
 refine ae ?_
 refine aa Tp ?_
 refine ah ?_
 refine lp (α:=(Nat)×Nat) [1] (λ⟨k,nx⟩=>(k<=z.sets.length)/\(aA z.sets.length (um z.apex z.sets) 0=aA z.sets.length (um z.apex z.sets) k)/\(0<nx)/\True) (λ⟨k,nx⟩=>z.sets.length-k) (λ⟨k,nx⟩=>[(3,.i k)]) (λ⟨k,nx⟩=>[(0,⟨24,[z.d]⟩)]) (λ⟨k,nx⟩=>nx) (0,_) (hA:=⟨iv,rfl,iv,trivial⟩) (round:=?_)
 rintro⟨k,nx⟩ ⟨hk,hv,hx, -⟩
 simp only[XY,XZ]
 have ff:=qA @hx ff
 refine oL Tp ?_ ?_ (hp:=rfl)<;>intro c2
 .
  have hk2:k<z.sets.length:=by simpa using c2
  have hk1:k-1<z.sets.length:=by omega
  have e1:((k:Int)-1).toNat=k-1:=by omega
  have ff:=qD (dB hk2) (dB hk1) @e1 ff;refine ae ?_;refine ah ?_;refine aa Tp ?_;refine aa Tp ?_ (hok:=by(try simp only[go_sem,ff]);all_goals (first|done|((repeat' (with_reducible apply And.intro))<;>first|(intros;exact QM _)|(intros;exact QR _ _)|exact(λh=>rC _ _ (Qw (by simpa using h)) (by have:=gI c1.1.1;omega))|omega|(intro h;simp only[XU,XX]at h;omega)|(intros;simp_all;done)|skip)))
  refine cd ?_ ?_<;>intro c3
  . refine aa Tp ?_;exact fo 0 (k:=by have hF:(um z.apex z.sets) k=false:=(by simp only[um];grind);simp only[mr];rw[hv,eF hk2 hF];try simp)
  refine aj ?_;refine ai Tp ?_
  show ∃_,_
  have h8:(um z.apex z.sets) k=true:=by simp only[um];grind
  exact ay (k+1,_) (h1:=⟨iv,o4r,iv,trivial⟩)
 refine aK ?_
 refine aa Tp ?_
 exact fo 0 (k:=by simp only[mr];rw[hv,gW (by omega)];grind)
def ZdO(z:Zon)(hl:z.sets.length<=1000000)(h0:0<=dM z.sets ⟨z.apex,4⟩)(h1:0<z.sets[(dM z.sets ⟨z.apex,4⟩).toNat]!.set.data.length):PureCt prog 21 [.agg z.d] (.i (cZ z)):=by
 refine oO func21 λff=>?_
 unfold f21
 have h2:=Om z.sets ⟨z.apex,4⟩
 have h3:(dM z.sets ⟨z.apex,4⟩).toNat<z.sets.length:=by omega
 refine aa Tp ?_
 skip
 have ff:=qB (dB h3) (o9 h1) ff
 refine aa Tp ?_ (hok:=oH (Lh z ⟨z.apex,4⟩ hl))
 exact fp 0
def Rj(z:Zon):PureCt prog 18 [.agg z.d] (.b (vN z)):=by
 refine oO func18 λff=>?_
 unfold f18
 refine aa Tp ?_
 refine ae ?_
 refine aa Tp ?_
 refine ah ?_
 refine lp (α:=(Nat)×Nat) [1] (λ⟨k,nx⟩=>(k<=z.sets.length)/\(aA z.sets.length (λi=>decide (z.sets[i]!.set.data.length<=20)&&decide (z.sets[i]!.sigs.length<=20)) 0=aA z.sets.length (λi=>decide (z.sets[i]!.set.data.length<=20)&&decide (z.sets[i]!.sigs.length<=20)) k)/\(0<nx)/\(k<=101)/\True) (λ⟨k,nx⟩=>z.sets.length-k) (λ⟨k,nx⟩=>[(3,.i k)]) (λ⟨k,nx⟩=>[(0,⟨24,[z.d]⟩)]) (λ⟨k,nx⟩=>nx) (0,_) (hA:=⟨iv,rfl,iv,iv,trivial⟩) (round:=?_)
 rintro⟨k,nx⟩ ⟨hk,hv,hx,hk7, -⟩
 simp only[XY,XZ]
 have ff:=qA @hx ff
 refine oL Tp ?_ ?_<;>intro c1
 .
  have hk2:k<z.sets.length:=by grind
  have Fa:k<=100:=by grind
  have ff:=qA (dB hk2) ff;refine ae ?_;refine ah ?_;refine aa Tp ?_;refine cd ?_ ?_<;>intro c2
  . refine aa Tp ?_;exact fo 0 (k:=by have hF:(λi=>decide (z.sets[i]!.set.data.length<=20)&&decide (z.sets[i]!.sigs.length<=20)) k=false:=(by grind);simp only[vN];rw[hv,eF hk2 hF];try simp)
  refine aj ?_;refine ai Tp ?_
  show ∃_,_
  have h8:(λi=>decide (z.sets[i]!.set.data.length<=20)&&decide (z.sets[i]!.sigs.length<=20)) k=true:=by grind
  exact ay (k+1,_) (h1:=⟨iv,o4r,iv,iv,trivial⟩)
 refine aK ?_
 refine aa Tp ?_
 exact fo 0 (k:=by simp only[vN];by_cases h100:z.sets.length<=100;rw[hv,gW (by grind)];simp;omega;simp[h100];omega)
def Re(z:Zon)(hl:z.sets.length<=1000000):PureCt prog 54 [.agg z.d] (.b (mW z)):=by
 refine oO func54 λff=>?_
 unfold f54
 refine oC Tp ?_
 refine ae ?_
 refine aa Tp ?_
 refine ah ?_
 refine lp (α:=(Nat)×(Str)×Nat) [1] (λ⟨k,al,nx⟩=>(k<=z.sets.length)/\(0<nx)/\(al=iM z.sets k)/\(aA z.sets.length (ku z.sets) 0=aA z.sets.length (ku z.sets) k)/\True) (λ⟨k,al,nx⟩=>z.sets.length-k) (λ⟨k,al,nx⟩=>[(3,.v (.string (bs al))),(4,.i k)]) (λ⟨k,al,nx⟩=>[(0,⟨24,[z.d]⟩)]) (λ⟨k,al,nx⟩=>nx) (0,[],_) (hA:=⟨iv,iv,rfl,rfl,trivial⟩) (round:=?_)
 rintro⟨k,al,nx⟩ ⟨hk,hx,ha,hv, -⟩
 simp only[XY,XZ]
 have ff:=qA @hx ff
 refine oL Tp ?_ ?_ (hp:=rfl)<;>intro c1
 .
  have hk2:k<z.sets.length:=by simpa using c1
  have hk1:k-1<z.sets.length:=by omega
  have e1:((k:Int)-1).toNat=k-1:=by omega
  have ff:=qD (dB hk2) (dB hk1) @e1 ff;refine ae ?_;refine ah ?_;refine oK Tp ?_ ?_<;>intro c2
  .
   refine ai Tp ?_;refine oC Tp ?_;refine oK Tp ?_ ?_<;>intro c3
   .
    refine ai Tp ?_;refine aa Tp ?_ (hok:=o2y)
    refine cd ?_ ?_<;>intro c4
    . refine aa Tp ?_;exact fo 0 (k:=o1q)
    refine aj ?_;refine ai Tp ?_
    show ∃_,_
    have hal:iM z.sets (k+1)=z.sets[k]!.set.name:=by simp only[iM];grind
    have ff:=qA hal ff;have h8:ku z.sets k=true:=by simp only[ku,kN,hal];grind
    exact ay (k+1,iM z.sets (k+1),_) (h1:=⟨iv,iv,rfl,o4r,trivial⟩)
   refine aa Tp ?_ (hok:=o2y)
   refine cd ?_ ?_<;>intro c4
   . refine aa Tp ?_;exact fo 0 (k:=o1q)
   refine aj ?_;refine ai Tp ?_
   show ∃_,_
   have hal:iM z.sets (k+1)=z.sets[k]!.set.name:=by simp only[iM];grind
   have ff:=qA hal ff;have h8:ku z.sets k=true:=by simp only[ku,kN,hal];grind
   exact ay (k+1,iM z.sets (k+1),_) (h1:=⟨iv,iv,rfl,o4r,trivial⟩)
  refine oC Tp ?_;refine oK Tp ?_ ?_<;>intro c3
  .
   refine ai Tp ?_;refine aa Tp ?_ (hok:=o2y)
   refine cd ?_ ?_<;>intro c4
   . refine aa Tp ?_;exact fo 0 (k:=o1q)
   refine aj ?_;refine ai Tp ?_
   show ∃_,_
   have hal:iM z.sets (k+1)=al:=by simp only[iM];grind
   have ff:=qA hal ff;have h8:ku z.sets k=true:=by simp only[ku,kN,hal];grind
   exact ay (k+1,iM z.sets (k+1),_) (h1:=⟨iv,iv,rfl,o4r,trivial⟩)
  refine aa Tp ?_ (hok:=o2y)
  refine cd ?_ ?_<;>intro c4
  . refine aa Tp ?_;exact fo 0 (k:=o1q)
  refine aj ?_;refine ai Tp ?_
  show ∃_,_
  have hal:iM z.sets (k+1)=al:=by simp only[iM];grind
  have ff:=qA hal ff;have h8:ku z.sets k=true:=by simp only[ku,kN,hal];grind
  exact ay (k+1,iM z.sets (k+1),_) (h1:=⟨iv,iv,rfl,o4r,trivial⟩)
 refine aK ?_
 refine aa Tp ?_
 exact fo 0 (k:=by simp only[mW];rw[hv,gW (by omega)])
def cutsR_0{z:Zon}:lD z 0=[]:=rfl
def highTo_0{cs:List Str}:dS cs 0=[]:=rfl
attribute[go_sem]cutsR_0 highTo_0
@[go_sem]theorem sR_snoc{l:List Str}{x:Str}:(l++[x]).map sR=l.map sR++[[.v (.string (bs x))]]:=by simp[sR]
theorem NP{z:Zon}{k:Nat}(h:z.sets[k]!.set.ty=2 /\ ¬z.sets[k]!.set.name=z.apex):lD z (k+1)=lD z k++[z.sets[k]!.set.name]:=X3 h
theorem NQ{z:Zon}{k:Nat}(h : ¬(z.sets[k]!.set.ty=2 /\ ¬z.sets[k]!.set.name=z.apex)):lD z (k+1)=lD z k:=XV h
theorem NR(z:Zon):∀k,(lD z k).length<=k
 | 0=>XW _
 | k+1=>by
  have:=NR z k
  by_cases h:z.sets[k]!.set.ty=2 /\ ¬z.sets[k]!.set.name=z.apex
  . rw[NP h,X0];simp;omega
  rw[NQ h];omega
theorem JV{z:Zon}(hn:uo z):∀k,k<=z.sets.length -> ∀x∈lD z k,x.length<=1000
 | 0,_,x,hx=>by cases hx
 | k+1,h,x,hx=>by
  by_cases h2:z.sets[k]!.set.ty=2 /\ ¬z.sets[k]!.set.name=z.apex
  .
   rw[NP h2,Yv,Yn]at hx
   rcases hx with hx|hx
   . exact JV hn k om x hx
   subst hx;exact hn.2 k om
  rw[NQ h2]at hx;exact JV hn k (by omega) x hx
def Ws{z:Zon}(hn:uo z):(gT z).length<=1000000:=Yh (NR z _) hn.1
def JX{z:Zon}(hn:uo z){k:Nat}(h:k<(gT z).length):(gT z)[k]!.length<=1000:=by
 refine JV hn _ (XW _) _ ?_
 show(gT z)[k]! ∈ gT z
 rw[getElem!_pos (gT z) k h];exact YH h
theorem MK{cs:List Str}{k:Nat}(h:dS cs k=[]\/ik cs[k]! (dS cs k)[(dS cs k).length-1]! = false):dS cs (k+1)=dS cs k++[cs[k]!]:=X3 h
theorem UD{cs:List Str}{k:Nat}(h : ¬(dS cs k=[]\/ik cs[k]! (dS cs k)[(dS cs k).length-1]! = false)):dS cs (k+1)=dS cs k:=XV h
theorem Jb(cs:List Str):∀k,k<=cs.length->(dS cs k).length<=k /\ ∀x∈dS cs k,x∈cs
 | 0,_=>⟨XW _,λx hx=>by cases hx⟩
 | k+1,h=>by
  have ih:=Jb cs k (by omega)
  by_cases h2:dS cs k=[]\/ik cs[k]! (dS cs k)[(dS cs k).length-1]! = false
  .
   rw[MK h2];refine⟨by rw[X0];simp;omega,λx hx=>?_⟩
   rcases Yv.1 hx with hx|hx
   . exact ih.2 x hx
   rw[Yn]at hx;subst hx;rw[getElem!_pos _ _ (by omega)];exact YH _
  rw[UD h2];exact⟨om,ih.2⟩
def Fg{z:Zon}(hn:uo z){k i:Nat}(hk:k<=(gT z).length)(h:i<(dS (gT z) k).length):(dS (gT z) k)[i]!.length<=1000:=by
 refine JV hn _ (XW _) _ ((Jb _ k hk).2 _ ?_)
 rw[getElem!_pos (dS (gT z) k) i h];exact YH h
def Zg2{z:Zon}(hn:uo z):(bW z).length<=1000000:=Yh (Jb _ _ (XW _)).1 (Ws hn)
def uz{z:Zon}(hn:uo z){i:Nat}(h:i<(bW z).length):(bW z)[i]!.length<=1000:=Fg hn (XW _) h
def ZdR(z:Zon)(hl:z.sets.length<=1000000):PureCt prog 235 [.agg z.d] (.list false ((gT z).map sR)):=by
 refine oO func235 λff=>?_
 unfold f235
 refine oC Tp ?_
 refine ae ?_
 refine yu 3 9 o5l o5l ?_
 refine aa Tp ?_
 refine ah ?_
 refine lp (α:=(Nat)×(Nat)×Nat) [1] (λ⟨k,r,nx⟩=>(k<=z.sets.length)/\(r<nx)/\(0<r)/\True) (λ⟨k,r,nx⟩=>z.sets.length-k) (λ⟨k,r,nx⟩=>[(3,.mrow r 0 (lD z k).length),(4,.i k)]) (λ⟨k,r,nx⟩=>[(0,⟨24,[z.d]⟩),(r,⟨9,(lD z k).map sR⟩)]) (λ⟨k,r,nx⟩=>nx) (0,3,_) (hA:=⟨iv,iv,iv,trivial⟩) (round:=?_)
 rintro⟨k,r,nx⟩ ⟨hk,hr,hr0, -⟩
 simp only[XY,XZ]
 have hcl:=NR z k
 have n0:0<nx:=by omega
 have ff:=qD @hr @n0 (nH 0 r) ff
 refine oL Tp ?_ ?_ (hp:=rfl)<;>intro c1
 .
  have hk2:k<z.sets.length:=by simpa using c1
  have ff:=qA (dB hk2) ff;refine ae ?_;refine ah ?_;refine oC Tp ?_;refine cd ?_ ?_<;>intro c2
  .
   refine ai Tp ?_;refine ai Tp ?_
   show ∃_,_
   have ff:=qA (NP (z:=z) (k:=k) (by grind)) ff
   exact ay (k+1,(nx+27),_) (h1:=⟨iv,iv,iv,trivial⟩)
  refine aj ?_;refine ai Tp ?_
  show ∃_,_
  have ff:=qA (NQ (z:=z) (k:=k) (by grind)) ff
  exact ay (k+1,r,_) (h1:=⟨iv,iv,iv,trivial⟩)
 refine aK ?_
 have e9:k=z.sets.length:=by omega
 subst e9
 refine aa Tp ?_
 exact fp 1
def ZdQ(z:Zon)(hn:uo z):PureCt prog 187 [.agg z.d] (.list false ((bW z).map sR)):=by
 refine oO func187 λff=>?_
 unfold f187
 have hl:=hn.1
 have hcl:=Ws hn
 refine aa Tp ?_
 refine aa Tp ?_ (hok:=oF (ZdR z hl))
 refine aa Tp ?_
 refine ae ?_
 refine yu 4 9 o5l o5l ?_
 refine aa Tp ?_
 refine ah ?_
 refine lp (α:=(Nat)×(Nat)×Nat) [3] (λ⟨k,r,nx⟩=>(k<=(gT z).length)/\(r<nx)/\True) (λ⟨k,r,nx⟩=>(gT z).length-k) (λ⟨k,r,nx⟩=>[(4,.mrow r 0 (dS (gT z) k).length),(5,.i k)]) (λ⟨k,r,nx⟩=>[(r,⟨9,(dS (gT z) k).map sR⟩)]) (λ⟨k,r,nx⟩=>nx) (0,6,_) (hA:=⟨iv,iv,trivial⟩) (round:=?_)
 rintro⟨k,r,nx⟩ ⟨hk,hr, -⟩
 simp only[XY,XZ]
 have hhl:=(Jb (gT z) k hk).1
 have ff:=qA @hr ff
 refine oL Tp ?_ ?_ (hp:=rfl)<;>intro c1
 .
  have hk2:k<(gT z).length:=by simpa using c1
  have e1:(((dS (gT z) k).length:Int)-1).toNat=(dS (gT z) k).length-1:=by omega
  have ff:=qB (nK hk2) @e1 ff;refine ae ?_;refine ah ?_
  by_cases h0:(dS (gT z) k).length=0
  .
   have hnil:=Yb h0;have ff:=qB @h0 @hnil ff;refine aa Tp ?_ (hok:=o0k)
   refine cd ?_ ?_ (hq:=rfl)<;>intro c2
   .
    refine ai Tp ?_;refine ai Tp ?_
    show ∃_,_
    have ff:=qA (MK (cs:=gT z) (k:=k) o3q) ff
    exact ay (k+1,(nx+27),_) (h1:=⟨iv,iv,trivial⟩)
   grind
  have h9:(dS (gT z) k).length-1<(dS (gT z) k).length:=by omega
  have ff:=qA (nK h9) ff;refine aa Tp ?_ (hok:=o0k)
  refine cd ?_ ?_<;>intro c2
  .
   refine ai Tp ?_;refine ai Tp ?_
   show ∃_,_
   have ff:=qA (MK (cs:=gT z) (k:=k) o3q) ff
   exact ay (k+1,(nx+27),_) (h1:=⟨iv,iv,trivial⟩)
  refine aj ?_;refine ai Tp ?_
  show ∃_,_
  have ff:=qA (UD (cs:=gT z) (k:=k) (by grind)) ff
  exact ay (k+1,r,_) (h1:=⟨iv,iv,trivial⟩)
 refine aK ?_
 have e9:k=(gT z).length:=by omega
 subst e9
 refine aa Tp ?_
 exact fp 1
def Rk(z:Zon)(hn:uo z):PureCt prog 114 [.agg z.d] (.list false ((gB z).map sR)):=by
 refine oO func114 λff=>?_
 unfold f114
 have hl:=hn.1
 have hcl:=Zg2 hn
 refine aa Tp ?_
 refine aa Tp ?_ (hok:=oF (ZdQ z hn))
 refine oC Tp ?_
 refine ae ?_
 refine aa Tp ?_
 refine ah ?_
 refine lp (α:=(Nat)×(Nat)×(Nat)×Nat) [1,3] (λ⟨k,j,rb,nx⟩=>(k<=z.sets.length)/\(rb<nx)/\(0<rb)/\(j=iG (bW z) z.sets k)/\(j<=(bW z).length)/\True) (λ⟨k,j,rb,nx⟩=>z.sets.length-k) (λ⟨k,j,rb,nx⟩=>[(4,.mrow rb 0 z.sets.length),(5,.i j),(6,.i k)]) (λ⟨k,j,rb,nx⟩=>[(0,⟨24,[z.d]⟩),(rb,⟨9,(mi (bW z) z.sets z.sets.length (k)).map sR⟩)]) (λ⟨k,j,rb,nx⟩=>nx) (0,0,8,_) (hA:=⟨iv,iv,iv,rfl,iv,trivial⟩) (round:=?_)
 rintro⟨k,j,rb,nx⟩ ⟨hk,hx,hb0,hj,hj2, -⟩
 simp only[XY,XZ]
 have n0:0<nx:=by omega
 have ff:=qD @hx @n0 (nH 0 rb) ff
 refine oL Tp ?_ ?_ (hp:=rfl)<;>intro c1
 .
  have hk2:k<z.sets.length:=by simpa using c1
  have ff:=qD (dB hk2) (K9 (hs:=bW z) (l:=z.sets) hk) (nK (l:=mi (bW z) z.sets z.sets.length k) (n:=k) (by rw[K9 hk];exact hk2)) ff
  refine ae ?_;refine ah ?_;refine aa Tp ?_;refine ae ?_;refine ah ?_;refine lp (α:=(Nat)×Nat) [1,3,4,6,7] (λ⟨i,nx⟩=>(i<=(bW z).length)/\(rb<nx)/\(rZ (bW z) z.sets[k]!.set.name j=rZ (bW z) z.sets[k]!.set.name i)/\True) (λ⟨i,nx⟩=>(bW z).length-i) (λ⟨i,nx⟩=>[(5,.i i)]) (λ⟨i,nx⟩=>[(0,⟨24,[z.d]⟩),(rb,⟨9,(mi (bW z) z.sets z.sets.length (k)).map sR⟩)]) (λ⟨i,nx⟩=>nx) (j,_) (hA:=⟨iv,iv,rfl,trivial⟩) (round:=?_)
  rintro⟨i,nx⟩ ⟨hi,hx,hv2, -⟩;simp only[XY,XZ];have n0:0<nx:=by omega
  have ff:=qD @hx @n0 (nH 0 rb) ff;refine ae ?_
  by_cases hk4:i<(bW z).length
  .
   have ff:=qA (nK hk4) ff;refine aa Tp ?_ (hok:=o0t)
   refine cd ?_ ?_ (hq:=rfl)<;>intro c2
   .
    refine aj ?_;refine ah ?_;refine ai Tp ?_
    show ∃_,_
    exact ay (i+1,_) (h1:=⟨iv,iv,(by first|(rw[hv2,Ab];grind)|(dsimp only;rw[hv2,Ab];grind)),trivial⟩)
   have jq:iG (bW z) z.sets (k+1)=i:=by show rZ _ _ _=_;rw[<-hj,hv2,Ab];grind
   refine aK ?_
   by_cases hi0:i=0
   .
    have ff:=qA @hi0 ff;refine aa Tp ?_ (hok:=o0l)
    refine cd ?_ ?_<;>intro c3
    .
     refine ai Tp ?_;refine ai Tp ?_
     show ∃_,_
     have hcc:jA (bW z) z.sets[k]!.set.name (iG (bW z) z.sets (k+1))=(bW z)[i-1]! := by rw[jq];simp only[jA];grind
     have ff:=qA (Hr hk2 hcc) ff;exact ay (k+1,i,rb,_) (h1:=⟨iv,iv,iv,jq.symm,iv,trivial⟩)
    refine aj ?_;refine ai Tp ?_
    show ∃_,_
    have hcc:jA (bW z) z.sets[k]!.set.name (iG (bW z) z.sets (k+1))=[]:=by rw[jq];simp only[jA];grind
    have ff:=qA (Ht hk2 hcc) ff;exact ay (k+1,i,rb,_) (h1:=⟨iv,iv,iv,jq.symm,iv,trivial⟩)
   have hi9:i-1<(bW z).length:=by omega
   have e1:((i:Int)-1).toNat=i-1:=by omega
   have ff:=qB @e1 (nK hi9) ff;refine aa Tp ?_ (hok:=o0l)
   refine cd ?_ ?_<;>intro c3
   .
    refine ai Tp ?_;refine ai Tp ?_
    show ∃_,_
    have hcc:jA (bW z) z.sets[k]!.set.name (iG (bW z) z.sets (k+1))=(bW z)[i-1]! := by rw[jq];simp only[jA];grind
    have ff:=qA (Hr hk2 hcc) ff;exact ay (k+1,i,rb,_) (h1:=⟨iv,iv,iv,jq.symm,iv,trivial⟩)
   refine aj ?_;refine ai Tp ?_
   show ∃_,_
   have hcc:jA (bW z) z.sets[k]!.set.name (iG (bW z) z.sets (k+1))=[]:=by rw[jq];simp only[jA];grind
   have ff:=qA (Ht hk2 hcc) ff;exact ay (k+1,i,rb,_) (h1:=⟨iv,iv,iv,jq.symm,iv,trivial⟩)
  have e9:decide ((i:Int)<((bW z).length:Int))=false:=Y7 om;have ff:=qA @e9 ff;refine aa Tp ?_ (hok:=o0t)
  refine cd ?_ ?_ (hp:=rfl) (hq:=rfl)<;>intro c2
  . grind
  have jq:iG (bW z) z.sets (k+1)=i:=by show rZ _ _ _=_;rw[<-hj,hv2,Ab];grind
  refine aK ?_
  by_cases hi0:i=0
  .
   have ff:=qA @hi0 ff;refine aa Tp ?_ (hok:=o0l)
   refine cd ?_ ?_<;>intro c3
   .
    refine ai Tp ?_;refine ai Tp ?_
    show ∃_,_
    have hcc:jA (bW z) z.sets[k]!.set.name (iG (bW z) z.sets (k+1))=(bW z)[i-1]! := by rw[jq];simp only[jA];grind
    have ff:=qA (Hr hk2 hcc) ff;exact ay (k+1,i,rb,_) (h1:=⟨iv,iv,iv,jq.symm,iv,trivial⟩)
   refine aj ?_;refine ai Tp ?_
   show ∃_,_
   have hcc:jA (bW z) z.sets[k]!.set.name (iG (bW z) z.sets (k+1))=[]:=by rw[jq];simp only[jA];grind
   have ff:=qA (Ht hk2 hcc) ff;exact ay (k+1,i,rb,_) (h1:=⟨iv,iv,iv,jq.symm,iv,trivial⟩)
  have hi9:i-1<(bW z).length:=by omega
  have e1:((i:Int)-1).toNat=i-1:=by omega
  have ff:=qB @e1 (nK hi9) ff;refine aa Tp ?_ (hok:=o0l)
  refine cd ?_ ?_<;>intro c3
  .
   refine ai Tp ?_;refine ai Tp ?_
   show ∃_,_
   have hcc:jA (bW z) z.sets[k]!.set.name (iG (bW z) z.sets (k+1))=(bW z)[i-1]! := by rw[jq];simp only[jA];grind
   have ff:=qA (Hr hk2 hcc) ff;exact ay (k+1,i,rb,_) (h1:=⟨iv,iv,iv,jq.symm,iv,trivial⟩)
  refine aj ?_;refine ai Tp ?_
  show ∃_,_
  have hcc:jA (bW z) z.sets[k]!.set.name (iG (bW z) z.sets (k+1))=[]:=by rw[jq];simp only[jA];grind
  have ff:=qA (Ht hk2 hcc) ff;exact ay (k+1,i,rb,_) (h1:=⟨iv,iv,iv,jq.symm,iv,trivial⟩)
 refine aK ?_
 have e9:k=z.sets.length:=by omega
 subst e9
 have tk:List.take z.sets.length ((mi (bW z) z.sets z.sets.length z.sets.length).map sR)=(gB z).map sR:=by rw[Zdr];exact Ym (by rw[Zk,yG];exact XW _)
 have ff:=qB @tk (K9 (hs:=bW z) (l:=z.sets) (XW z.sets.length)) ff
 refine aa Tp ?_
 exact oN (fin 1 (hr:=oR) (hk:=by(try simp only[go_sem,ff]);all_goals (exact yG _ _ _)))
def Og(z:Zon):(gB z).length=z.sets.length:=yG _ _ _
def RX(z:Zon):(AJ z).length=z.sets.length:=AC _ _
def Rh(z:Zon)(hn:uo z):PureCt prog 55 [.agg z.d] (.b (rQ z)):=by
 refine oO func55 λff=>?_
 unfold f55
 have hl:=hn.1
 have hbl:=Og z
 refine aa Tp ?_
 refine aa Tp ?_ (hok:=oF (Rk z hn))
 refine ae ?_
 refine aa Tp ?_
 refine ah ?_
 refine lp (α:=(Nat)×Nat) [1,3] (λ⟨k,nx⟩=>(k<=z.sets.length)/\(aA z.sets.length (cutAt ⟨z,gB z⟩) 0=aA z.sets.length (cutAt ⟨z,gB z⟩) k)/\(0<nx)/\True) (λ⟨k,nx⟩=>z.sets.length-k) (λ⟨k,nx⟩=>[(4,.i k)]) (λ⟨k,nx⟩=>[(0,⟨24,[z.d]⟩)]) (λ⟨k,nx⟩=>nx) (0,_) (hA:=⟨iv,rfl,iv,trivial⟩) (round:=?_)
 rintro⟨k,nx⟩ ⟨hk,hv,hx, -⟩
 simp only[XY,XZ]
 have ff:=qA @hx ff
 refine oL Tp ?_ ?_ (hp:=rfl)<;>intro c1
 .
  have hk2:k<z.sets.length:=by simpa using c1
  have hk3:k<(gB z).length:=by omega
  have ff:=qB (dB hk2) (nK hk3) ff;refine ae ?_;refine ah ?_;refine oC Tp ?_;refine oK Tp ?_ ?_<;>intro c2
  . refine aa Tp ?_;exact fo 0 (k:=o1o)
  refine oK Tp ?_ ?_<;>intro c3
  . refine aa Tp ?_;exact fo 0 (k:=o1o)
  refine aa Tp ?_;refine cd ?_ ?_<;>intro c4
  . refine aa Tp ?_;exact fo 0 (k:=o1o)
  refine aj ?_;refine ai Tp ?_
  show ∃_,_
  have h8:(cutAt ⟨z,gB z⟩) k=true:=by simp only[cutAt];grind
  exact ay (k+1,_) (h1:=⟨iv,o4r,iv,trivial⟩)
 refine aK ?_
 refine aa Tp ?_
 exact fo 0 (k:=by simp only[rQ,qP];rw[hv,gW (by omega)])
def ZdP(z:Zon)(hn:uo z):PureCt prog 115 [.agg z.d] (.list false ((AJ z).map bR)):=by
 refine oO func115 λff=>?_
 unfold f115
 have hl:=hn.1
 have hbl:=Og z
 refine aa Tp ?_
 refine aa Tp ?_ (hok:=oF (Rk z hn))
 refine aa Tp ?_
 refine ae ?_
 refine aa Tp ?_
 refine ah ?_
 refine lp (α:=(Nat)×(Nat)×Nat) [1,3] (λ⟨k,rb,nx⟩=>(k<=z.sets.length)/\(rb<nx)/\(0<rb)/\True) (λ⟨k,rb,nx⟩=>z.sets.length-k) (λ⟨k,rb,nx⟩=>[(4,.mrow rb 0 z.sets.length),(5,.i k)]) (λ⟨k,rb,nx⟩=>[(0,⟨24,[z.d]⟩),(rb,⟨4,(rz ⟨z,gB z⟩ z.sets.length (k)).map bR⟩)]) (λ⟨k,rb,nx⟩=>nx) (0,8,_) (hA:=⟨iv,iv,iv,trivial⟩) (round:=?_)
 rintro⟨k,rb,nx⟩ ⟨hk,hx,hb0, -⟩
 simp only[XY,XZ]
 have n0:0<nx:=by omega
 have ff:=qD @hx @n0 (nH 0 rb) ff
 refine oL Tp ?_ ?_ (hp:=rfl)<;>intro c1
 .
  have hk2:k<z.sets.length:=by simpa using c1
  have hk3:k<(gB z).length:=by omega
  have ff:=qE (dB hk2) (nK hk3) (Lb (x:=⟨z,gB z⟩) hk) (UQ (l:=rz ⟨z,gB z⟩ z.sets.length k) (n:=k) (by rw[Lb hk];exact hk2)) ff
  refine ae ?_;refine ah ?_;refine aa Tp ?_;refine ai Tp ?_;refine ai Tp ?_
  show ∃_,_
  exact ay (k+1,rb,_) (h1:=⟨iv,iv,iv,trivial⟩) (h3:=o1h) (h4:=o1h) (h5:=o1h)
 refine aK ?_
 have e9:k=z.sets.length:=by omega
 subst e9
 have tk:List.take z.sets.length ((rz ⟨z,gB z⟩ z.sets.length (z.sets.length)).map bR)=(AJ z).map bR:=by rw[Zdt];exact Ym (by rw[Zk,AC];exact XW _)
 have ff:=qB @tk (Lb (x:=⟨z,gB z⟩) (XW z.sets.length)) ff
 refine aa Tp ?_
 exact oN (fin 1 (hr:=oR) (hk:=by(try simp only[go_sem,ff]);all_goals (exact RX z)))
def Ri(z:Zon)(hn:uo z):PureCt prog 56 [.agg z.d] (.b (tH z)):=by
 refine oO func56 λff=>?_
 unfold f56
 have hl:=hn.1
 have hbl:=Og z
 have hol:=RX z
 refine aa Tp ?_
 refine aa Tp ?_ (hok:=oF (ZdP z hn))
 refine ae ?_
 refine aa Tp ?_
 refine ah ?_
 refine lp (α:=(Nat)×Nat) [1,3] (λ⟨k,nx⟩=>(k<=z.sets.length)/\(aA z.sets.length (wX ⟨z,gB z⟩) 0=aA z.sets.length (wX ⟨z,gB z⟩) k)/\(0<nx)/\True) (λ⟨k,nx⟩=>z.sets.length-k) (λ⟨k,nx⟩=>[(4,.i k)]) (λ⟨k,nx⟩=>[(0,⟨24,[z.d]⟩)]) (λ⟨k,nx⟩=>nx) (0,_) (hA:=⟨iv,rfl,iv,trivial⟩) (round:=?_)
 rintro⟨k,nx⟩ ⟨hk,hv,hx, -⟩
 simp only[XY,XZ]
 have ff:=qA @hx ff
 refine oL Tp ?_ ?_ (hp:=rfl)<;>intro c1
 .
  have hk2:k<z.sets.length:=by simpa using c1
  have hk3:k<(AJ z).length:=by omega
  have ho:(AJ z)[k]! = xJ ⟨z,gB z⟩ k:=Zet _ _ _ hk2;have ff:=qB (dB hk2) (UQ hk3) ff;refine ae ?_;refine ah ?_;refine aa Tp ?_ (hok:=ig @Zdd);refine cd ?_ ?_<;>intro c2
  . refine aa Tp ?_;exact fo 0 (k:=by have hF:(wX ⟨z,gB z⟩) k=false:=(by simp only[wX,rR,vK,xJ]at *;grind);simp only[tH];rw[hv,eF hk2 hF];try simp)
  refine aj ?_;refine ai Tp ?_
  show ∃_,_
  have h8:(wX ⟨z,gB z⟩) k=true:=by simp only[wX,rR,vK,xJ]at *;grind
  exact ay (k+1,_) (h1:=⟨iv,o4r,iv,trivial⟩)
 refine aK ?_
 refine aa Tp ?_
 exact fo 0 (k:=by simp only[tH];rw[hv,gW (by omega)])
def H6(z:Zon):PureCt prog 19 [.agg z.d] (.b (jh z)):=by
 refine oO func19 λff=>?_
 unfold f19
 refine aa Tp ?_
 refine aa Tp ?_ (hok:=by(try simp only[go_sem,ff]);all_goals (first|done|((repeat' (with_reducible apply And.intro))<;>first|(intros;exact Rf z)|exact(λh=>Rc z (zi (by simp_all)).1)|exact(λh=>Re z (zi (by simp_all)).1)|exact(λh=>Rh z (zi (by simp_all)))|exact(λh=>Ri z (zi (by simp_all)))|(intros;simp_all;done)|skip)))
 exact fo 0 (k:=by simp[jh,ZZ])
def FT(x:Int):PureCt prog 58 [.i x] (.b (iy x)):=by
 refine oO func58 λff=>?_
 unfold f58
 refine oC Tp ?_
 exact fo 0 (k:=by simp[iy])
def JQ(a:Int)(b:Int)(ha:iy a=true)(hb:iy b=true):PureCt prog 27 [.i a,.i b] (.b (gV a b)):=by
 refine oO func27 λff=>?_
 unfold f27
 simp only[iy,XU,XX]at ha hb
 refine oD Tp ?_
 exact fo 0 (k:=by simp[gV])
def VP(a:Int)(b:Int):PureCt prog 22 [.i a,.i b] (.tuple [.b (mE a b).1,.i (mE a b).2]):=by
 refine oO func22 λff=>?_
 unfold f22
 refine aa Tp ?_
 refine oK Tp ?_ ?_ (hok:=oH FT)<;>intro c1
 . refine aa Tp ?_;exact fo 1 (k:=by simp only[mE];grind)
 refine aa Tp ?_ (hok:=oF (JQ _ _ c1.1 c1.2))
 exact fo 1 (k:=by simp[mE,c1])
def uI(s:Sgd):PureCt prog 31 [.agg s.d] (.agg s.q.d):=by
 refine oO func31 λff=>?_
 unfold f31
 refine oC Tp ?_
 exact fp 1
@[go_sem]theorem all_dat6{l:List Dat}:(∀r∈l.map Dat.d,r.length=3)=True:=by
 apply eq_true
 intro r hr
 obtain⟨x,_,rfl⟩:=Yr.1 hr
 rfl
def WK(l:List Dat)(hl:l.length<=1000000):PureCt prog 75 [.list false (l.map Dat.d)] (.list false (l.map Dat.d)):=by
 refine oO func75 λff=>?_
 unfold f75
 refine aa Tp ?_
 refine ae ?_
 refine ae (xe ?_)
 refine Em (C:=Tp) 1 (e:=57) om (dN rfl) rfl rfl (by kernel_rfl) o3y ?_ (by rfl) ev (λy hy=>?_)
 .
  try simp only[go_sem,ff]
  all_goals (first|done|(repeat' (with_reducible apply And.intro))<;>first|omega|(with_reducible assumption)|(intros;omega)|(intros;simp only[XX,X4,Yc,XU,Yd,Ya,Yq]at *;omega)|(simp_all;done)|(simp_all;omega))
 refine wy (C:=Tp) o5o o3y ?_ rfl ?_
 .
  try simp only[go_sem,ff]
  all_goals (first|done|(repeat' (with_reducible apply And.intro))<;>first|omega|(with_reducible assumption)|(intros;omega)|(intros;simp only[XX,X4,Yc,XU,Yd,Ya,Yq]at *;omega)|(simp_all;done)|(simp_all;omega))
 try simp only[aH]
 refine cd ?_ ?_ (hp:=rfl) (hq:=rfl)<;>intro c1
 . have hn:l=[]:=List.map_eq_nil_iff.1 (hy c1);subst hn;refine aa Tp ?_;exact fp 1
 refine aj ?_
 refine aa Tp ?_
 exact fp 1
def WJ(l:List RSig)(hl:l.length<=1000000):PureCt prog 76 [.list false (l.map RSig.d)] (.list false (l.map RSig.d)):=by
 refine oO func76 λff=>?_
 unfold f76
 refine aa Tp ?_
 refine ae ?_
 refine ae (xe ?_)
 refine Em (C:=Tp) 1 (e:=153) om (dN rfl) rfl rfl (by kernel_rfl) o3y ?_ (by rfl) ev (λy hy=>?_)
 .
  try simp only[go_sem,ff]
  all_goals (first|done|(repeat' (with_reducible apply And.intro))<;>first|omega|(with_reducible assumption)|(intros;omega)|(intros;simp only[XX,X4,Yc,XU,Yd,Ya,Yq]at *;omega)|(simp_all;done)|(simp_all;omega))
 refine wy (C:=Tp) o5o o3y ?_ rfl ?_
 .
  try simp only[go_sem,ff]
  all_goals (first|done|(repeat' (with_reducible apply And.intro))<;>first|omega|(with_reducible assumption)|(intros;omega)|(intros;simp only[XX,X4,Yc,XU,Yd,Ya,Yq]at *;omega)|(simp_all;done)|(simp_all;omega))
 try simp only[aH]
 refine cd ?_ ?_ (hp:=rfl) (hq:=rfl)<;>intro c1
 . have hn:l=[]:=List.map_eq_nil_iff.1 (hy c1);subst hn;refine aa Tp ?_;exact fp 1
 refine aj ?_
 refine aa Tp ?_
 exact fp 1
def F3(s:Sgd)(hs:tJ s):PureCt prog 34 [.agg s.d] (.agg s.d):=by
 refine oO func34 λff=>?_
 unfold f34
 refine aa Tp ?_
 refine aa Tp ?_ (hok:=o3k)
 refine aa Tp ?_ (hok:=o3l)
 refine aa Tp ?_
 exact fp 2
@[go_sem]theorem ofV_map{o:Option Nat}:qg (.map o) = .v (.map o):=by cases o<;>rfl
@[go_sem]theorem keysOk_Q{m:List Sgd}:kG prog 86 (mI m)=true:=by
 induction m with
 | nil=>rfl
 | cons s m ih=>rw[zz];simp only[kG,ih,ak.d,IU,ZG]
@[go_sem]theorem mapTo_0{l:List Sgd}:uq l 0=[]:=rfl
attribute [go_sem] Zf7
def TR{l:List Sgd}{k:Nat}:jm (mI (uq l k)) (.agg [.v (.string (bs l[k]!.q.name)),.i l[k]!.q.ty]) (.agg [.v (.string (bs l[k]!.set.name)),.i l[k]!.set.ty,.i l[k]!.set.life,.list false (l[k]!.set.data.map Dat.d),.list false (l[k]!.sigs.map RSig.d)])=mI (uq l (k+1)):=Zf6
def V3(l:List Sgd)(hl:l.length<=1000000):PureCt prog 28 [.list false (l.map Sgd.d)] (.fmap (jb (kT l))):=by
 refine oO func28 λff=>?_
 unfold f28
 refine oC Tp ?_
 refine ae ?_
 refine aa Tp ?_
 refine ah ?_
 refine lp (α:=(Nat)×Nat) [3,9,10] (λ⟨k,nx⟩=>(k<=l.length)/\(3<nx)/\True) (λ⟨k,nx⟩=>l.length-k) (λ⟨k,nx⟩=>[(11,.i k)]) (λ⟨k,nx⟩=>[(3,⟨79,iU (mI (uq l k))⟩)]) (λ⟨k,nx⟩=>nx) (0,_) (hA:=⟨iv,iv,trivial⟩) (round:=?_)
 rintro⟨k,nx⟩ ⟨hk,hx, -⟩
 simp only[XY,XZ]
 have ff:=qA @hx ff
 refine aa Tp ?_
 refine ae ?_
 refine cd ?_ ?_ (hp:=rfl)<;>intro c1
 .
  have hk2:k<l.length:=by simpa using c1
  have ff:=qB (dB hk2) (TR (l:=l) (k:=k)) ff;refine aj ?_;refine ae ?_;refine ah ?_;refine aa Tp ?_;refine ai Tp ?_ (hok:=oH (uI l[k]!));refine ai Tp ?_
  show ∃_,_
  exact ay (k+1,_) (h1:=⟨iv,iv,trivial⟩)
 refine aK ?_
 have e9:k=l.length:=by have h9 : ¬(k:Int)<l.length:=(by simpa using c1);omega
 subst e9
 refine VB 3 3 ev ev rfl ZeT ?_
 refine aa Tp ?_
 exact fo 1 (k:=by show(D.fmap (mI (AZ l)))=_;rw[Zf9])
@[go_sem]theorem keysOk_P{m:PM}:kG prog 86 (jb m)=true:=by
 induction m with
 | nil=>rfl
 | cons p m ih=>rw[Ba];simp only[kG,ih,ak.d,IU,ZG]
def FR(a:List Dat)(b:List Dat)(hl:a.length<=1000000):PureCt prog 77 [.list false (a.map Dat.d),.list false (b.map Dat.d)] (.b (kH a b)):=by
 refine oO func77 λff=>?_
 unfold f77
 refine aa Tp ?_
 refine oK Tp ?_ ?_<;>intro c1
 . refine aa Tp ?_;exact fo 0 (k:=by rw[show kH a b=false from Y7 (Vq (by omega))])
 have hab:a.length=b.length:=by omega
 refine ae ?_
 refine aa Tp ?_
 refine ah ?_
 refine lp (α:=(Nat)×Nat) [0,1,12] (λ⟨k,nx⟩=>(k<=a.length)/\(∀i,i<k->a[i]! = b[i]!)/\True) (λ⟨k,nx⟩=>a.length-k) (λ⟨k,nx⟩=>[(13,.i k)]) (λ⟨k,nx⟩=>[]) (λ⟨k,nx⟩=>nx) (0,_) (hA:=⟨iv,o3u,trivial⟩) (round:=?_)
 rintro⟨k,nx⟩ ⟨hk,hv, -⟩
 simp only[XY,XZ]
 refine aa Tp ?_
 refine ae ?_
 refine cd ?_ ?_ (hp:=rfl)<;>intro c2
 .
  have hk2:k<a.length:=by simpa using c2
  have hk3:k<b.length:=by omega
  have ff:=qB (o9 hk2) (o9 hk3) ff;refine aj ?_;refine ae ?_;refine ah ?_;refine oC Tp ?_;refine cd ?_ ?_<;>intro c3
  . refine aa Tp ?_;exact fo 0 (k:=by rw[show kH a b=false from Y7 λe=>by subst e;simp at c3])
  refine aj ?_;refine ai Tp ?_
  show ∃_,_
  exact ay (k+1,_) (h1:=⟨iv,(by(try dsimp only);intro i hi;by_cases e:i=k;subst e;exact JR c3;exact hv i om),trivial⟩)
 refine aK ?_
 refine aa Tp ?_
 exact fo 0 (k:=by rw[show kH a b=true from YG (CP! hab λi hi=>hv i (by omega))])
def JJ(a:List RSig)(b:List RSig)(hl:a.length<=1000000):PureCt prog 78 [.list false (a.map RSig.d),.list false (b.map RSig.d)] (.b (w9 a b)):=by
 refine oO func78 λff=>?_
 unfold f78
 refine aa Tp ?_
 refine oK Tp ?_ ?_<;>intro c1
 . refine aa Tp ?_;exact fo 0 (k:=by rw[show w9 a b=false from Y7 (Vq (by omega))])
 have hab:a.length=b.length:=by omega
 refine ae ?_
 refine aa Tp ?_
 refine ah ?_
 refine lp (α:=(Nat)×Nat) [0,1,12] (λ⟨k,nx⟩=>(k<=a.length)/\(∀i,i<k->a[i]! = b[i]!)/\True) (λ⟨k,nx⟩=>a.length-k) (λ⟨k,nx⟩=>[(13,.i k)]) (λ⟨k,nx⟩=>[]) (λ⟨k,nx⟩=>nx) (0,_) (hA:=⟨iv,o3u,trivial⟩) (round:=?_)
 rintro⟨k,nx⟩ ⟨hk,hv, -⟩
 simp only[XY,XZ]
 refine aa Tp ?_
 refine ae ?_
 refine cd ?_ ?_ (hp:=rfl)<;>intro c2
 .
  have hk2:k<a.length:=by simpa using c2
  have hk3:k<b.length:=by omega
  have ff:=qB (vL hk2) (vL hk3) ff;refine aj ?_;refine ae ?_;refine ah ?_;refine oC Tp ?_;refine cd ?_ ?_<;>intro c3
  . refine aa Tp ?_;exact fo 0 (k:=by rw[show w9 a b=false from Y7 λe=>by subst e;simp at c3])
  refine aj ?_;refine ai Tp ?_
  show ∃_,_
  exact ay (k+1,_) (h1:=⟨iv,o2m,trivial⟩)
 refine aK ?_
 refine aa Tp ?_
 exact fo 0 (k:=by rw[show w9 a b=true from YG (CP! hab λi hi=>hv i (by omega))])
def zS(a:Sgd)(b:Sgd)(ha:tJ a):PureCt prog 35 [.agg a.d,.agg b.d] (.b (wB a b)):=by
 refine oO func35 λff=>?_
 unfold f35
 refine aa Tp ?_
 refine aa Tp ?_ (hok:=o0v)
 exact fo 0 (k:=by rw[Zc2,ZZ])
def ZiV(s:Sgd)(m:PM):PureCt prog 30 [.agg s.d,.eptr [.fmap (jb m)]] (.tuple [.agg s.q.d,.b (oz m s.q)]):=by
 refine oO func30 λff=>?_
 unfold f30
 refine aa Tp ?_
 refine aa Tp ?_ (hok:=oH (uI s))
 rcases hp:eY m s.q with _|x
 . have ff:=qA @hp ff;refine oC Tp ?_;exact fo 3 (k:=by simp[oz,hp])
 have ff:=qA @hp ff
 refine oC Tp ?_
 exact fo 3 (k:=by simp[oz,hp])
def Zjf(s:Sgd)(m:PM):PureCt prog 83 [.agg s.d,.eptr [.fmap (jb m)]] (.tuple [.agg s.d,.b (oz m s.q)]):=by
 refine oO func83 λff=>?_
 unfold f83
 refine aa Tp ?_
 rcases hp:eY m s.q with _|x
 . have ff:=qA @hp ff;refine aa lZ ?_ (hok:=oH (uI s));refine aa Tp ?_;exact fo 3 (k:=by simp[oz,hp])
 have ff:=qA @hp ff
 refine aa lZ ?_ (hok:=oH (uI s))
 refine aa Tp ?_
 exact fo 3 (k:=by simp[oz,hp])
def ZiU(s:Sgd)(m:PM)(hs:tJ s)(hm : ∀x,eY m s.q=some x->tJ x):PureCt prog 33 [.agg s.d,.eptr [.fmap (jb m)]] (.tuple [.agg s.d,.b (yz (eY m s.q) s)]):=by
 refine oO func33 λff=>?_
 unfold f33
 refine aa Tp ?_
 rcases hp:eY m s.q with _|x
 .
  have ff:=qA @hp ff;refine aa lZ ?_ (hok:=oH (uI s));refine aa Tp ?_ (hok:=o0o)
  exact fo 3 (k:=by simp[yz,hp])
 have ff:=qA @hp ff
 refine aa lZ ?_ (hok:=oH (uI s))
 refine aa Tp ?_ (hok:=o0o)
 exact fo 3 (k:=by simp[yz,hp])
def Zje(s:Sgd)(hs:tJ s):PureCt prog 86 [.agg s.d] (.tuple [.agg s.d,.b true]):=by
 refine oO func86 λff=>?_
 unfold f86
 refine aa Tp ?_
 refine aa Tp ?_ (hok:=oF (F3 s hs))
 exact fp 2
def ZiW  : PureCt prog 85 [.fn (.func 31) [] []] (.fn (.func 148) [] [.eptr [.fn (.func 31) [] []]]):=by
 refine oO func85 λff=>?_
 unfold f85
 refine oC Tp ?_
 exact oN (fin 2 (hr:=oR) (hk:=by(try simp only[go_sem,ff]);all_goals (first|done|rfl|(simp;done))))
def Zi0(a:Sgd)(b:Sgd):PureCt prog 148 [.agg a.d,.agg b.d,.eptr [.fn (.func 31) [] []]] (.i (qC a.q b.q)):=by
 refine oO func148 λff=>?_
 unfold f148
 refine aa Tp ?_
 refine aa Tp ?_ (hok:=oJ (uI a) (uI b) (NJ a.q b.q))
 exact fp 0
def ZiZ(l:List Sgd)(m:PM)(hl:fH l):PureCt prog 29 [.list false (l.map Sgd.d),.fn (.func 30) [] [.eptr [.fmap (jb m)]]] (.list false ((l.filterMap (lV m)).map ak.d)):=by
 refine oO func29 λff=>?_
 unfold f29
 have hl1:=hl.1
 refine oC Tp ?_
 refine ae ?_
 refine yu 5 86 o5l o5l ?_
 refine aa Tp ?_
 refine ah ?_
 refine lp (α:=(Nat)×(Nat)×Nat) [1,10,11] (λ⟨k,r,nx⟩=>(k<=l.length)/\(r<nx)/\True) (λ⟨k,r,nx⟩=>l.length-k) (λ⟨k,r,nx⟩=>[(5,.mrow r 0 ((l.take k).filterMap (lV m)).length),(12,.i k)]) (λ⟨k,r,nx⟩=>[(r,⟨86,((l.take k).filterMap (lV m)).map ak.d⟩)]) (λ⟨k,r,nx⟩=>nx) (0,2,_) (hA:=⟨iv,iv,trivial⟩) (round:=?_)
 rintro⟨k,r,nx⟩ ⟨hk,hr, -⟩
 simp only[XY,XZ]
 have hfl:=Jy (lV m) l k
 have ff:=qA @hr ff
 refine aa Tp ?_
 refine ae ?_
 refine cd ?_ ?_ (hp:=rfl)<;>intro c1
 .
  have hk2:k<l.length:=by simpa using c1
  have ff:=qA (dB hk2) ff;refine aj ?_;refine ae ?_;refine ah ?_;refine aa Tp ?_;refine aa Tp ?_ (hok:=oH (ZiV l[k]! m));refine aa Tp ?_;refine cd ?_ ?_<;>intro c2
  .
   refine ai Tp ?_;refine ai Tp ?_
   show ∃_,_
   have hst:=Jv (f:=lV m) hk2 (by simp only[lV];rw[X3 o5a])
   have hsd:((l.take (k+1)).filterMap (lV m)).map ak.d=((l.take k).filterMap (lV m)).map ak.d++[[.v (.string (bs l[k]!.q.name)),.i l[k]!.q.ty]]:=by rw[hst,YT];rfl
   have hsl:((l.take (k+1)).filterMap (lV m)).length=((l.take k).filterMap (lV m)).length+1:=by rw[hst,X0];rfl
   have ff:=qB hsd hsl ff;exact ay (k+1,(nx+18),_) (h1:=⟨iv,iv,trivial⟩)
  refine aj ?_;refine ai Tp ?_
  show ∃_,_
  have ff:=qA (Jw (f:=lV m) hk2 (by simp only[lV];rw[XV o4v])) ff
  exact ay (k+1,r,_) (h1:=⟨iv,iv,trivial⟩)
 refine aK ?_
 have e9:k=l.length:=by have h9 : ¬(k:Int)<l.length:=(by simpa using c1);omega
 subst e9
 rw[Yt]at *
 refine aa Tp ?_
 exact oN (fin 1 (hr:=o4f))
def VZ(l:List Sgd)  (hl:fH l):PureCt prog 32 [.list false (l.map Sgd.d),.fn (.func 86) [] []] (.list false ((l.filterMap (some)).map Sgd.d)):=by
 refine oO func32 λff=>?_
 unfold f32
 have hl1:=hl.1
 refine oC Tp ?_
 refine ae ?_
 refine yu 5 84 o5l o5l ?_
 refine aa Tp ?_
 refine ah ?_
 refine lp (α:=(Nat)×(Nat)×Nat) [1,10,11] (λ⟨k,r,nx⟩=>(k<=l.length)/\(r<nx)/\True) (λ⟨k,r,nx⟩=>l.length-k) (λ⟨k,r,nx⟩=>[(5,.mrow r 0 ((l.take k).filterMap (some)).length),(12,.i k)]) (λ⟨k,r,nx⟩=>[(r,⟨84,((l.take k).filterMap (some)).map Sgd.d⟩)]) (λ⟨k,r,nx⟩=>nx) (0,2,_) (hA:=⟨iv,iv,trivial⟩) (round:=?_)
 rintro⟨k,r,nx⟩ ⟨hk,hr, -⟩
 simp only[XY,XZ]
 have hfl:=Jy (some) l k
 have ff:=qA @hr ff
 refine aa Tp ?_
 refine ae ?_
 refine cd ?_ ?_ (hp:=rfl)<;>intro c1
 .
  have hk2:k<l.length:=by simpa using c1
  have ff:=qA (dB hk2) ff;refine aj ?_;refine ae ?_;refine ah ?_;refine aa Tp ?_;refine aa Tp ?_ (hok:=oH (Zje l[k]! (hl.2 k hk2)));refine aa Tp ?_;refine cd ?_ ?_<;>intro c2
  .
   refine ai Tp ?_;refine ai Tp ?_
   show ∃_,_
   have hst:=Jv (f:=some) hk2 (rfl);have hsd:((l.take (k+1)).filterMap (some)).map Sgd.d=((l.take k).filterMap (some)).map Sgd.d++[[.v (.string (bs l[k]!.set.name)),.i l[k]!.set.ty,.i l[k]!.set.life,.list false (l[k]!.set.data.map Dat.d),.list false (l[k]!.sigs.map RSig.d)]]:=by rw[hst,YT];rfl
   have hsl:((l.take (k+1)).filterMap (some)).length=((l.take k).filterMap (some)).length+1:=by rw[hst,X0];rfl
   have ff:=qB hsd hsl ff;exact ay (k+1,(nx+18),_) (h1:=⟨iv,iv,trivial⟩)
  refine aj ?_;refine ai Tp ?_
  show ∃_,_
  have ff:=qA (Jw (f:=some) hk2 (by cases c2)) ff
  exact ay (k+1,r,_) (h1:=⟨iv,iv,trivial⟩)
 refine aK ?_
 have e9:k=l.length:=by have h9 : ¬(k:Int)<l.length:=(by simpa using c1);omega
 subst e9
 rw[Yt]at *
 refine aa Tp ?_
 exact oN (fin 1 (hr:=o4f))
def ZiX(l:List Sgd)(m:PM)(hl:fH l)(hm : ∀k,k<l.length -> ∀x,eY m l[k]!.q=some x->tJ x):PureCt prog 32 [.list false (l.map Sgd.d),.fn (.func 33) [] [.eptr [.fmap (jb m)]]] (.list false ((l.filterMap (kX m)).map Sgd.d)):=by
 refine oO func32 λff=>?_
 unfold f32
 have hl1:=hl.1
 refine oC Tp ?_
 refine ae ?_
 refine yu 5 84 o5l o5l ?_
 refine aa Tp ?_
 refine ah ?_
 refine lp (α:=(Nat)×(Nat)×Nat) [1,10,11] (λ⟨k,r,nx⟩=>(k<=l.length)/\(r<nx)/\True) (λ⟨k,r,nx⟩=>l.length-k) (λ⟨k,r,nx⟩=>[(5,.mrow r 0 ((l.take k).filterMap (kX m)).length),(12,.i k)]) (λ⟨k,r,nx⟩=>[(r,⟨84,((l.take k).filterMap (kX m)).map Sgd.d⟩)]) (λ⟨k,r,nx⟩=>nx) (0,2,_) (hA:=⟨iv,iv,trivial⟩) (round:=?_)
 rintro⟨k,r,nx⟩ ⟨hk,hr, -⟩
 simp only[XY,XZ]
 have hfl:=Jy (kX m) l k
 have ff:=qA @hr ff
 refine aa Tp ?_
 refine ae ?_
 refine cd ?_ ?_ (hp:=rfl)<;>intro c1
 .
  have hk2:k<l.length:=by simpa using c1
  have ff:=qA (dB hk2) ff;refine aj ?_;refine ae ?_;refine ah ?_;refine aa Tp ?_;refine aa Tp ?_ (hok:=oH (ZiU l[k]! m (hl.2 k hk2) (hm k hk2)));refine aa Tp ?_;refine cd ?_ ?_<;>intro c2
  .
   refine ai Tp ?_;refine ai Tp ?_
   show ∃_,_
   have hst:=Jv (f:=kX m) hk2 (by simp only[kX];rw[X3 o5a])
   have hsd:((l.take (k+1)).filterMap (kX m)).map Sgd.d=((l.take k).filterMap (kX m)).map Sgd.d++[[.v (.string (bs l[k]!.set.name)),.i l[k]!.set.ty,.i l[k]!.set.life,.list false (l[k]!.set.data.map Dat.d),.list false (l[k]!.sigs.map RSig.d)]]:=by rw[hst,YT];rfl
   have hsl:((l.take (k+1)).filterMap (kX m)).length=((l.take k).filterMap (kX m)).length+1:=by rw[hst,X0];rfl
   have ff:=qB hsd hsl ff;exact ay (k+1,(nx+18),_) (h1:=⟨iv,iv,trivial⟩)
  refine aj ?_;refine ai Tp ?_
  show ∃_,_
  have ff:=qA (Jw (f:=kX m) hk2 (by simp only[kX];rw[XV o4v])) ff
  exact ay (k+1,r,_) (h1:=⟨iv,iv,trivial⟩)
 refine aK ?_
 have e9:k=l.length:=by have h9 : ¬(k:Int)<l.length:=(by simpa using c1);omega
 subst e9
 rw[Yt]at *
 refine aa Tp ?_
 exact oN (fin 1 (hr:=o4f))
def ZiY(l:List Sgd)(m:PM)(hl:fH l)(h:H)(n:Nat):bT prog 32 [.list false (l.map Sgd.d),.fn (.func 83) [] [.eptr [.fmap (jb m)]]] h n (λd h' n'=>∃r,d = .mrow r 0 (l.filterMap (lw m)).length/\h'=upd h r (some ⟨84,(l.filterMap (lw m)).map Sgd.d⟩)/\n<=r/\r<n'):=by
 refine oP func32 λhnone ff=>?_
 unfold f32
 have hl1:=hl.1
 refine oC Tp ?_
 refine ae ?_
 refine yu 5 84 o5l o5l ?_
 refine aa Tp ?_
 refine ah ?_
 refine jk (α:=(Nat)×(Nat)×Nat) [1,10,11] (λ⟨k,r,nx⟩=>(k<=l.length)/\(r<nx)/\(n<=r)/\True) (λ⟨k,r,nx⟩=>l.length-k) (λ⟨k,r,nx⟩=>[(5,.mrow r 0 ((l.take k).filterMap (lw m)).length),(12,.i k)]) (λ⟨k,r,nx⟩=>upd h r (some ⟨84,((l.take k).filterMap (lw m)).map Sgd.d⟩)) (λ⟨k,r,nx⟩=>nx) (0,(n+2),_) (hA:=⟨iv,iv,iv,trivial⟩) (round:=?_)
 rintro⟨k,r,nx⟩ ⟨hk,hr,hr0, -⟩
 simp only[XY,XZ]
 have hfl:=Jy (lw m) l k
 have ff:=qA @hr ff
 refine aa Tp ?_
 refine ae ?_
 refine cd ?_ ?_ (hp:=rfl)<;>intro c1
 .
  have hk2:k<l.length:=by simpa using c1
  have ff:=qA (dB hk2) ff;refine aj ?_;refine ae ?_;refine ah ?_;refine aa Tp ?_;refine aa Tp ?_ (hok:=oH (Zjf l[k]! m));refine aa Tp ?_;refine cd ?_ ?_<;>intro c2
  .
   refine ai Tp ?_;refine ai Tp ?_
   show ∃_,_
   have hst:=Jv (f:=lw m) hk2 (by simp only[lw];rw[X3 o5a])
   have hsd:((l.take (k+1)).filterMap (lw m)).map Sgd.d=((l.take k).filterMap (lw m)).map Sgd.d++[[.v (.string (bs l[k]!.set.name)),.i l[k]!.set.ty,.i l[k]!.set.life,.list false (l[k]!.set.data.map Dat.d),.list false (l[k]!.sigs.map RSig.d)]]:=by rw[hst,YT];rfl
   have hsl:((l.take (k+1)).filterMap (lw m)).length=((l.take k).filterMap (lw m)).length+1:=by rw[hst,X0];rfl
   have ff:=qB hsd hsl ff;refine ay (k+1,(nx+18),_) (h1:=⟨iv,iv,iv,trivial⟩) (h5:=?_);refine Mi hnone o5l (λq hq=>?_)
   simp only[upd]
   repeat rw[XV (by omega)]
  refine aj ?_;refine ai Tp ?_
  show ∃_,_
  have ff:=qA (Jw (f:=lw m) hk2 (by simp only[lw];rw[XV o4v])) ff
  refine ay (k+1,r,_) (h1:=⟨iv,iv,iv,trivial⟩) (h5:=?_);refine Mi hnone o5l (λq hq=>?_)
  simp only[upd]
  repeat rw[XV (by omega)]
 refine aK ?_
 have e9:k=l.length:=by have h9 : ¬(k:Int)<l.length:=(by simpa using c1);omega
 subst e9
 rw[Yt]at *
 refine aa Tp ?_
 refine aN ?_
 exact bZ (upd h r (some ⟨84,(l.filterMap (lw m)).map Sgd.d⟩)) (hr:=oS (k:=by exact⟨r,rfl,rfl,om,om⟩))
def Zi1(l:List Sgd)(hl:l.length<=1000000)(h:H)(n:Nat):bT prog 28 [.list false (l.map Sgd.d)] h n (λd h' n'=>∃r,d = .mp r/\h'=upd h r (some ⟨79,iU (qi (wN l))⟩)/\n<=r/\r<n'):=by
 refine oP func28 λhnone ff=>?_
 unfold f28
 refine oC Tp ?_
 refine ae ?_
 refine aa Tp ?_
 refine ah ?_
 refine jk (α:=(Nat)×Nat) [3,9,10] (λ⟨k,nx⟩=>(k<=l.length)/\(n+3<nx)/\True) (λ⟨k,nx⟩=>l.length-k) (λ⟨k,nx⟩=>[(11,.i k)]) (λ⟨k,nx⟩=>upd h (n+3) (some ⟨79,iU (mI (uq l k))⟩)) (λ⟨k,nx⟩=>nx) (0,_) (hA:=⟨iv,iv,trivial⟩) (round:=?_) (Bq:=by exact λ_=>.inl rfl)
 rintro⟨k,nx⟩ ⟨hk,hx, -⟩
 simp only[XY,XZ]
 have ff:=qA @hx ff
 refine aa Tp ?_
 refine ae ?_
 refine cd ?_ ?_ (hp:=rfl)<;>intro c1
 .
  have hk2:k<l.length:=by simpa using c1
  have ff:=qB (dB hk2) (TR (l:=l) (k:=k)) ff;refine aj ?_;refine ae ?_;refine ah ?_;refine aa Tp ?_;refine ai Tp ?_ (hok:=oH (uI l[k]!));refine ai Tp ?_
  show ∃_,_
  refine ay (k+1,_) (h1:=⟨iv,iv,trivial⟩) (h5:=?_);refine Mi hnone o5l (λq hq=>?_)
  simp only[upd]
  repeat rw[XV (by omega)]
 refine aK ?_
 have e9:k=l.length:=by have h9 : ¬(k:Int)<l.length:=(by simpa using c1);omega
 subst e9
 refine aa Tp ?_
 refine aN ?_
 exact bZ (upd h (n+3) (some ⟨79,iU (qi (wN l))⟩)) (hr:=oS (k:=by exact⟨n+3,rfl,rfl,om,om⟩)) (hh:=by rw[<-Zf8];exact CQ _)
def nX{z:Zon}(h:aI z=true):PureCt prog 26 [.agg z.d] (.tuple [.i (aL z),.i 0]):=by
 have:=OB z
 rwa [X3 h,X3 h]at this
def tQ{z:Zon}(h:aI z=false):PureCt prog 26 [.agg z.d] (.tuple [.i 0,.i 1]):=by
 have:=OB z
 rwa [XV (by simp[h]),XV (by simp[h])]at this
@[go_sem]theorem keysOk_S{m:List ak}:kG prog 86 (ut m)=true:=by
 induction m with
 | nil=>rfl
 | cons p m ih=>rw[EM];simp only[kG,ih,ak.d,IU,ZG]
@[go_sem]theorem keysOk_Z{m:PZ}:kG prog 86 (qi m)=true:=by
 induction m with
 | nil=>rfl
 | cons p m ih=>rw[A8];simp only[kG,ih,ak.d,IU,ZG]
def Dw(d:aG):PureCt prog 82 [.agg d.d] (.b (fO d)):=by
 refine oO func82 λff=>?_
 unfold f82
 refine aa Tp ?_
 refine oK Tp ?_ ?_ (hok:=oI zl MO)<;>intro c1
 . refine aa Tp ?_;exact fo 0 (k:=o4e)
 refine oK Tp (λc2=>?_) (λc2=>?_) (hok:=by(try simp only[go_sem,ff]);all_goals (first|done|((repeat' (with_reducible apply And.intro))<;>first|(intros;exact FT _)|exact(λ_=>FT _)|exact(λh=>JQ _ _ (by simp_all) (by simp_all))|(intros;simp_all;done)|skip)))
 . refine aa Tp ?_;exact fo 0 (k:=o4e)
 refine oK Tp ?_ ?_<;>intro c3
 . refine aa Tp ?_;exact fo 0 (k:=o4e)
 refine aa Tp ?_
 refine ae ?_
 refine aa Tp ?_
 refine ah ?_
 refine lp (α:=(Nat)×Nat) [1,3,50,51] (λ⟨k,nx⟩=>(k<=d.drop.length)/\(aA d.drop.length (uH d.drop) 0=aA d.drop.length (uH d.drop) k)/\(42<nx)/\True) (λ⟨k,nx⟩=>d.drop.length-k) (λ⟨k,nx⟩=>[(52,.i k)]) (λ⟨k,nx⟩=>[(0,⟨40,[d.d]⟩),(42,⟨227,iU (ut (xE d.drop (k)))⟩)]) (λ⟨k,nx⟩=>nx) (0,_) (hA:=⟨iv,rfl,iv,trivial⟩) (round:=?_)
 rintro⟨k,nx⟩ ⟨hk,hv1,hx, -⟩
 simp only[XY,XZ]
 have n0:0<nx:=by omega
 have ff:=qB @hx @n0 ff
 refine aa Tp ?_
 refine ae ?_
 refine cd ?_ ?_ (hp:=rfl)<;>intro c4
 .
  have hk2:k<d.drop.length:=by simpa using c4
  have hk1:k-1<d.drop.length:=by omega
  have e1:((k:Int)-1).toNat=k-1:=by omega
  have ff:=qD (Ji hk2) (Ji hk1) @e1 ff;refine aj ?_;refine ae ?_;refine ah ?_;refine aa Tp ?_;refine oK Tp ?_ ?_ (hok:=ig @zl)<;>intro c5
  . refine aa Tp ?_;exact fo 0 (k:=o1m)
  refine oK Tp ?_ ?_ (hok:=ig (NJ d.drop[k-1]! d.drop[k]!))<;>intro c6
  . refine aa Tp ?_;exact fo 0 (k:=o1m)
  refine ai Tp ?_;refine ai Tp ?_
  show ∃_,_
  have h8:(uH d.drop) k=true:=by simp only[uH,pY,aV];grind
  have ff:=qA (show uh (xE d.drop k) d.drop[k]! = xE d.drop (k+1)from rfl) ff
  exact ay (k+1,_) (h1:=⟨iv,o4p,iv,trivial⟩)
 have e9:k=d.drop.length:=by omega
 subst e9
 refine aK ?_
 refine ae ?_
 refine aa Tp ?_
 refine ah ?_
 refine lp (α:=(Nat)×Nat) [1,3,88,89] (λ⟨k,nx⟩=>(k<=d.put.length)/\(aA d.put.length (ui d) 0=aA d.put.length (ui d) k)/\(42<nx)/\True) (λ⟨k,nx⟩=>d.put.length-k) (λ⟨k,nx⟩=>[(90,.i k)]) (λ⟨k,nx⟩=>[(0,⟨40,[d.d]⟩),(42,⟨227,iU (ut (xE d.drop (d.drop.length)))⟩)]) (λ⟨k,nx⟩=>nx) (0,_) (hA:=⟨iv,rfl,iv,trivial⟩) (round:=?_)
 rintro⟨k,nx⟩ ⟨hk,hv,hx, -⟩
 simp only[XY,XZ]
 have n0:0<nx:=by omega
 have ff:=qB @hx @n0 ff
 refine aa Tp ?_
 refine ae ?_
 refine cd ?_ ?_ (hp:=rfl)<;>intro c7
 .
  have hk2:k<d.put.length:=by simpa using c7
  have hk1:k-1<d.put.length:=by omega
  have e1:((k:Int)-1).toNat=k-1:=by omega
  have ff:=qD (dB hk2) (dB hk1) @e1 ff;refine aj ?_;refine ae ?_;refine ah ?_;refine aa Tp ?_;refine oK Tp ?_ ?_ (hok:=oa2 @uW (uI d.put[k]!))<;>intro c8
  . refine aa Tp ?_;exact fo 0 (k:=o1t)
  refine aa Tp ?_ (hok:=oa3 (uI d.put[k]!) (uI d.put[k-1]!) (NJ d.put[k-1]!.q d.put[k]!.q));refine cd ?_ ?_<;>intro c9
  . refine aa Tp ?_;exact fo 0 (k:=o1t)
  refine aj ?_;refine ai Tp ?_
  show ∃_,_
  have h8:(ui d) k=true:=by simp only[ui];grind
  exact ay (k+1,_) (h1:=⟨iv,o4r,iv,trivial⟩)
 refine aK ?_
 refine aa Tp ?_
 exact fo 0 (k:=by rw[<-zV];simp only[xg];(try rw[Af]at *);rw[hv1,hv,gW (n:=d.drop.length) (by omega),gW (by omega)];grind)
def VY(a:Zon)(b:Zon):PureCt prog 9 [.agg a.d,.agg b.d] (.tuple [.agg (kW a b).1.d,.i (kW a b).2]):=by
 refine oO func9 λff=>?_
 unfold Tryz.f9
 refine aa Tp ?_
 rcases ha:aI a with _|_<;>rcases hb:aI b with _|_
 .
  have ff:=qB @ha @hb ff;refine aa Tp ?_ (hok:=o2z)
  refine aa Tp ?_ (hok:=o3a)
  refine ae ?_;refine aa Tp ?_;refine cd ?_ ?_ (hq:=rfl)<;>intro c1
  . refine aa Tp ?_;exact fo 3 (k:=o5c)
  first|exact c1.elim|(simp at c1;done)
 .
  have ff:=qB @ha @hb ff;refine aa Tp ?_ (hok:=o2z)
  refine aa Tp ?_ (hok:=o3a)
  refine ae ?_;refine aa Tp ?_;refine cd ?_ ?_ (hq:=rfl)<;>intro c1
  . refine aa Tp ?_;exact fo 3 (k:=o5c)
  first|exact c1.elim|(simp at c1;done)
 .
  have ff:=qB @ha @hb ff;refine aa Tp ?_ (hok:=o2z)
  refine aa Tp ?_ (hok:=o3a)
  refine ae ?_;refine aa Tp ?_;refine cd ?_ ?_ (hq:=rfl)<;>intro c1
  . refine aa Tp ?_;exact fo 3 (k:=o5c)
  first|exact c1.elim|(simp at c1;done)
 have hfa:=sj ha
 have hfb:=sj hb
 have hsa:iy (aL a)=true:=by rw[Ar ha];exact Hz (by rw[<-su];exact ha)
 have hsb:iy (aL b)=true:=by rw[Ar hb];exact Hz (by rw[<-su];exact hb)
 have ff:=qB @ha @hb ff
 refine aa Tp ?_ (hok:=o2z)
 refine aa Tp ?_ (hok:=o3a)
 refine oK Tp ?_ ?_<;>intro c1
 . refine aa Tp ?_;exact fo 3 (k:=o5c)
 refine oK Tp ?_ ?_ (hok:=oF (JQ _ _ hsa hsb))<;>intro c2
 . refine aa Tp ?_;exact fo 3 (k:=by rw[kW,XV (by simp_all),X3 (by simp_all)];rfl)
 refine aa lZ ?_ (hok:=oI (V3 a.sets hfa.1) (V3 b.sets hfb.1))
 refine aa Tp ?_
 refine qJ 11 42 ev ev Sr ?_
 refine aa Tp ?_ (hok:=oH (ZiZ a.sets (kT b.sets) hfa))
 refine qJ 10 41 ev ev Sr ?_
 refine aa Tp ?_ (hok:=oH (ZiX b.sets (kT a.sets) hfb (λk hk x hx=>JC hfa (Tf hx).1)))
 refine aa Tp ?_
 exact fo 3 (k:=by rw[kW,XV (by simp_all),XV (by simp_all)];try rfl)
def ZbR:Go.Shelf.Ren:={ f:=λx=>match x with|6=>84|15=>147|14=>146|28=>218|29=>219|20=>210|21=>211|22=>212|23=>213|24=>214|25=>215|26=>216|27=>217|46=>247|47=>248|48=>249|49=>250|50=>251|57=>272|n=>n,t:=λx=>match x with|22=>22|24=>84|25=>160|3=>3|39=>230|0=>0|53=>284|55=>140|4=>4|46=>278|45=>277|50=>147|5=>5|9=>9|66=>314|70=>296|76=>330|77=>331|n=>n,g:=λn=>n }
def srtS:Go.Proofs.SlLaysF0.n6 prog ZbR:={
 mixed:=by kernel_rfl
 f6:=⟨f84.name,by decide,func84.trans (by kernel_rfl)⟩
 f14:=⟨f146.name,by decide,func146.trans (by kernel_rfl)⟩
 f15:=func147.trans (by kernel_rfl)
 f20:=⟨f210.name,by decide,func210.trans (by kernel_rfl)⟩
 f21:=⟨f211.name,by decide,func211.trans (by kernel_rfl)⟩
 f22:=⟨f212.name,by decide,func212.trans (by kernel_rfl)⟩
 f23:=⟨f213.name,by decide,func213.trans (by kernel_rfl)⟩
 f24:=⟨f214.name,by decide,func214.trans (by kernel_rfl)⟩
 f25:=⟨f215.name,by decide,func215.trans (by kernel_rfl)⟩
 f26:=⟨f216.name,by decide,func216.trans (by kernel_rfl)⟩
 f27:=⟨f217.name,by decide,func217.trans (by kernel_rfl)⟩
 f28:=func218.trans (by kernel_rfl)
 f29:=func219.trans (by kernel_rfl)
 f46:=⟨f247.name,by decide,func247.trans (by kernel_rfl)⟩
 f47:=func248.trans (by kernel_rfl)
 f48:=func249.trans (by kernel_rfl)
 f49:=⟨f250.name,by decide,func250.trans (by kernel_rfl)⟩
 f50:=⟨f251.name,by decide,func251.trans (by kernel_rfl)⟩
 f57:=⟨f272.name,by decide,func272.trans (by kernel_rfl)⟩
 t0:=underlying0
 a0:=Tryz.isAgg0
 z0:=Tryz.sizeOf0
 v0:=Tryz.zeroValue0
 t3:=underlying3
 a3:=Tryz.isAgg3
 z3:=Tryz.sizeOf3
 v3:=Tryz.zeroValue3
 t4:=underlying4
 a4:=Tryz.isAgg4
 z4:=Tryz.sizeOf4
 v4:=Tryz.zeroValue4
 t5:=underlying5
 a5:=Tryz.isAgg5
 z5:=Tryz.sizeOf5
 v5:=Tryz.zeroValue5
 t9:=underlying9
 a9:=Tryz.isAgg9
 z9:=Tryz.sizeOf9
 v9:=Tryz.zeroValue9
 t22:=underlying22
 a22:=Tryz.isAgg22
 z22:=Tryz.sizeOf22
 v22:=Tryz.zeroValue22
 t25:=underlying160
 a25:=Tryz.isAgg160
 z25:=Tryz.sizeOf160
 v25:=Tryz.zeroValue160
 t39:=underlying230
 a39:=Tryz.isAgg230
 z39:=Tryz.sizeOf230
 v39:=Tryz.zeroValue230
 t45:=underlying277
 a45:=Tryz.isAgg277
 z45:=Tryz.sizeOf277
 v45:=Tryz.zeroValue277
 t46:=underlying278
 a46:=Tryz.isAgg278
 z46:=Tryz.sizeOf278
 v46:=Tryz.zeroValue278
 t50:=underlying147
 a50:=Tryz.isAgg147
 z50:=Tryz.sizeOf147
 v50:=Tryz.zeroValue147
 t53:=underlying284
 a53:=Tryz.isAgg284
 z53:=Tryz.sizeOf284
 v53:=Tryz.zeroValue284
 t55:=underlying140
 a55:=Tryz.isAgg140
 z55:=Tryz.sizeOf140
 v55:=Tryz.zeroValue140
 t66:=underlying314
 a66:=Tryz.isAgg314
 z66:=Tryz.sizeOf314
 v66:=Tryz.zeroValue314
 t70:=underlying296
 a70:=Tryz.isAgg296
 z70:=Tryz.sizeOf296
 v70:=Tryz.zeroValue296
 t76:=underlying330
 a76:=Tryz.isAgg330
 z76:=Tryz.sizeOf330
 v76:=Tryz.zeroValue330
 t77:=underlying331
 a77:=Tryz.isAgg331
 z77:=Tryz.sizeOf331
 v77:=Tryz.zeroValue331 }
def sortG(l:List Sgd)(m:Nat)(h:H)(n r:Nat)(hm:m=l.length)(hl:l.length<=1000000)(hn : ∀s∈l,az (s.q).name=true)(ho:Once l)(hr:h r=some ⟨84,l.map Sgd.d⟩) :
  bT prog 84 [.mrow r 0 m,.fn (.func 148) [] [.eptr [.fn (.func 31) [] []]]] h n (λd h' n'=>d = .tuple []/\n'=n/\h'=upd h r (some ⟨84,(iO l).map Sgd.d⟩)):=by
 have e:m=(l.map Sgd.d).length:=by simp[hm]
 rw[e]
 have hx : ∀x∈l.map Sgd.d,Sgd.d (Sgd.of x)=x/\az ((λs:Sgd=>s.q) (Sgd.of x)).name=true:=λx hx=>by
  obtain⟨s,hs,rfl⟩:=Yr.1 hx;rw[CF];exact⟨rfl,hn s hs⟩
 have hc : ∀x∈l.map Sgd.d,∀y∈l.map Sgd.d,qC (Sgd.of x).q (Sgd.of y).q=sp (Sgd.of x) (Sgd.of y):=λx h1 y h2=>Cw (hx x h1).2 (hx y h2).2
 refine(PV (ty:=84) srtS rfl rfl Tryz.isAgg84 Tryz.sizeOf84 (λx y=>qC (Sgd.of x).q (Sgd.of y).q) (by kernel_rfl) hr CG rfl (by simp;omega) (λx h1 y h2=>?_) ⟨λx h1=>?_,λx h1 y h2 z h3=>?_,λx h1 y h2 z h3=>?_⟩).mono ?_
 . have:=Zi0 (Sgd.of x) (Sgd.of y);rw[(hx x h1).1,(hx y h2).1]at this;exact this
 . rw[hc x h1 x h1,lW.self];omega
 . rw[hc x h1 y h2,hc y h2 z h3,hc x h1 z h3];intro a b;exact lW.lt_le a om
 . rw[hc x h1 y h2,hc y h2 z h3,hc x h1 z h3];intro a b;have h1:=lW.anti (Sgd.of x) (Sgd.of y);have h2:=lW.anti (Sgd.of y) (Sgd.of z);have h3:=lW.anti (Sgd.of x) (Sgd.of z);have:=lW.tr (Sgd.of z) (Sgd.of y) (Sgd.of x) om om;omega
 rintro d h' n' ⟨rfl,rfl,rows',hp,hs,rfl⟩
 obtain⟨q1,q2⟩:=Zdl CF hp
 refine⟨rfl,rfl,?_⟩
 have hs':(rows'.map Sgd.of).Pairwise λa b=>sp a b<=0:=by
  rw[List.pairwise_map];refine hs.imp_of_mem λ{a b}h1 h2 h3=>?_
  have h3 : ¬(λx y=>qC (Sgd.of x).q (Sgd.of y).q) b a<0:=h3
  dsimp only at h3;have h4:=hc b (hp.mem_iff.1 h2) a (hp.mem_iff.1 h1);rw[h4]at h3;have:=lW.anti (Sgd.of a) (Sgd.of b);omega
 rw[<-Zb0 ho q2 hs',q1]
def Zid{P:Program}[Glob P]{ro:Option Nat}{Q:Exit->S->Prop}{c:Code}{s:S}(i r:Nat){ty:TypeId}{row:List D}(hi:s.t i = .mptr r 0 0)(hr:s.h r=some ⟨ty,[row]⟩)(hn:bA row=true)(h:DW P ro c Q { n:=s.n,t:=upd s.t i (.eptr (dZ row)),h:=upd s.h r none,nx:=s.nx,e:=s.e }):DW P ro c Q s :=
 NC i r hi (λ_ _ _ hm hv=>(U0 hm hr hn hv).wk) h
def Zil(z:Zon)(d:aG)(hl:fH z.sets)(h:H)(n:Nat):bT prog 32 [.list false (z.sets.map Sgd.d),.fn (.func 83) [] [.eptr [.fmap (jb (zp (wV (wN d.put) d.drop d.drop.length)))]]] h n (λx h' n'=>∃r,x = .mrow r 0 (gp z d).length/\h'=upd h r (some ⟨84,(gp z d).map Sgd.d⟩)/\n<=r/\r<n'):=ZiY z.sets _ hl h n
def ZbG{z:Zon}{d:aG}(hz:nS z)(hd:DOk d):∀s∈gp z d++d.put,az s.q.name=true:=λs hs=>(Yv.1 hs).elim (λk=>hz.nms s (Ee.1 k).1) λk=>(hd.pok s k).name
def SH{z:Zon}{d:aG}(hz:fH z.sets)(hp:fH d.put)(hd:d.put.length<=20000)(hl:(gp z d).length<=20000):fH (iO (gp z d++d.put)):=Nj (by rw[GZ,X0];omega) λs hs=>(Yv.1 (KR.1 hs)).elim (λk=>JC hz (Ee.1 k).1) λk=>JC hp k
def NM(z:Zon)(d:aG)(hp:fH d.put):PureCt prog 38 [.agg z.d,.agg d.d] (.tuple [.agg (ed z d).1.d,.i (ed z d).2]):=by
 refine oO func38 λff=>?_
 unfold f38
 refine aa Tp ?_
 rcases ha:aI z with _|_
 .
  have ff:=qA @ha ff;refine aa Tp ?_ (hok:=o2z)
  refine ae ?_;refine aa Tp ?_ (hok:=oH (Dw d));refine cd ?_ ?_ (hq:=rfl)<;>intro c1
  . refine aa Tp ?_;exact fo 3 (k:=by rw[ed,if_pos (by grind)];try rfl)
  first|exact c1.elim|(simp at c1;done)
 have hfa:=sj ha
 have hza:=lF ha
 have hlz:=hza.len
 have ff:=qA @ha ff
 refine aa Tp ?_ (hok:=o2z)
 refine oK Tp ?_ ?_ (hok:=oH (Dw d))<;>intro c1
 . refine aa Tp ?_;exact fo 3 (k:=by rw[ed,if_pos (by grind)];try rfl)
 have hd:fO d=true:=by grind
 have hax:z.apex=d.apex:=by grind
 have p1 : ¬(aI z=false\/fO d=false\/z.apex≠d.apex):=by rintro (q|q|q);rw[ha]at q;cases q;rw[hd]at q;cases q;exact q hax
 have hdd:=yx.1 hd
 have hld:=hdd.dlen
 have hlp:=hdd.plen
 have hsl:=ZbH z d
 refine oK Tp ?_ ?_<;>intro c2
 .
  have p2:aL z≠d.frm:=by grind
  refine aa Tp ?_;exact fo 3 (k:=by rw[ed,XV p1,X3 p2];try rfl)
 have p2 : ¬(aL z≠d.frm):=λq=>q (by grind)
 refine ae (bI Tp 2 (hct:=by exact Zi1 d.put hp.1 _ _) (hk:=?_))
 rintro res h2 n2 ⟨r1,rfl,rfl,a1,b1⟩
 try dsimp only at a1 b1
 have ff:=qD @b1 (nH 0 1) (nH 0 2) (qI (nH 0 r1) (nH 0 (n2+3)) (nH 1 2) (nH 1 r1) (nH 1 (n2+3)) (nH 2 r1) (nH 2 (n2+3)) (nH (n2+3) r1) ff)
 refine bH Tp ?_
 refine ae ?_
 refine aa Tp ?_
 refine ah ?_
 refine lp (α:=(Nat)×(Nat)×Nat) [2,3,4,43,44] (λ⟨k,q,nx⟩=>(k<=d.drop.length)/\(q<nx)/\(r1<q)/\(2<r1)/\True) (λ⟨k,q,nx⟩=>d.drop.length-k) (λ⟨k,q,nx⟩=>[(8,.mptr q 0 0),(45,.i k)]) (λ⟨k,q,nx⟩=>[(0,⟨24,[z.d]⟩),(1,⟨40,[d.d]⟩),(2,⟨24,[[.v (.string (bs [])),.list true []]]⟩),(q,⟨79,[[.mp r1]]⟩),(r1,⟨79,iU (qi (wV (wN d.put) d.drop (k)))⟩)]) (λ⟨k,q,nx⟩=>nx) (0,n2+3,_) (hA:=⟨iv,iv,iv,iv,trivial⟩) (round:=?_)
 rintro⟨k,q,nx⟩ ⟨hk,hq,lu,hr1, -⟩
 simp only[XY,XZ]
 have n0:0<nx:=by omega
 have hrn:r1<nx:=by omega
 have ff:=qF @hq @n0 @hrn (nH 0 1) (nH 0 2) (qI (nH 0 q) (nH 0 r1) (nH 1 2) (nH 1 q) (nH 1 r1) (nH 2 q) (nH 2 r1) (nH q r1) ff)
 refine aa Tp ?_
 refine ae ?_
 refine cd ?_ ?_ (hp:=rfl)<;>intro c3
 .
  have hk2:k<d.drop.length:=by simpa using c3
  have ff:=qA (Ji hk2) ff;refine aj ?_;refine ae ?_;refine ah ?_;refine aa Tp ?_;refine ai Tp ?_;refine ai Tp ?_
  show ∃_,_
  have ff:=qA (show xx (wV (wN d.put) d.drop (k)) d.drop[k]! none=wV (wN d.put) d.drop (k+1)from rfl) ff
  exact ay (k+1,q,_) (h1:=⟨iv,iv,iv,iv,trivial⟩)
 have e8:k=d.drop.length:=by omega
 subst e8
 refine aK ?_
 refine Zie q 0 r1 ev rfl ev rfl om Sq ?_
 simp only[YO]
 refine Zid 8 q ev ev ZeV ?_
 refine ae (bI Tp 3 (hct:=by exact Zil z d hfa _ _) (hk:=?_))
 rintro res h2 n2 ⟨r2,rfl,rfl,a2,b2⟩
 try dsimp only at a2 b2
 have ff:=qH @b2 (nH 0 1) (nH 0 2) (nH 0 r2) (nH 1 2) (nH 1 r2) (nH 2 r2) ff
 refine bH Tp ?_
 refine oK Tp ?_ ?_<;>intro c4
 . refine aa Tp ?_;exact fo 3 (k:=by rw[ed,XV p1,XV p2,X3 (by omega)];try rfl)
 refine aa Tp ?_
 obtain⟨q5,hq5⟩:∃q,q=n2+15:=⟨_,rfl⟩
 rw[<-hq5]
 have hq5b:q5<n2+16:=by omega
 have ff:=qH @hq5b (nH 0 1) (nH 0 2) (nH 0 q5) (nH 1 2) (nH 1 q5) (nH 2 q5) ff
 refine ae (bI Tp 2 (hok:=oH ZiW) (hct:=by exact sortG (gp z d++d.put) _ _ _ _ (by simp) (by rw[X0];omega) (ZbG hza hdd) (SF hza.ord hdd.pord) (by simp only[go_sem,ff,YT])) (hk:=?_))
 rintro res h2 n2 ⟨rfl,rfl,rfl⟩
 refine bH Tp ?_
 refine Zic 12 q5 (rows:=(iO (gp z d++d.put)).map Sgd.d) (off:=0) (len:=(gp z d).length+d.put.length) ev ev (by simp[GZ]) CG ?_
 rw[X6,Ym (by simp[GZ])]
 refine aa lZ ?_ (hok:=by(try simp only[go_sem,ff]);all_goals (first|done|((repeat' (with_reducible apply And.intro))<;>first|(intros;exact VZ _ (SH hfa hp hlp om))|omega|skip)))
 refine ae ?_
 rcases hb:aI (⟨z.apex,iO (gp z d++d.put)⟩:Zon)with _|_
 .
  have ff:=qA @hb ff;have ff:=qA (Ve (iO (gp z d++d.put))) ff;refine aa Tp ?_ (hok:=o1c)
  refine aa Tp ?_;refine cd ?_ ?_ (hq:=rfl)<;>intro c5
  . refine aa Tp ?_;exact fo 3 (k:=o0u)
  first|exact c5.elim|(simp at c5;done)
 have ff:=qA @hb ff
 have ff:=qA (Ve (iO (gp z d++d.put))) ff
 refine aa Tp ?_ (hok:=o1c)
 refine aa Tp ?_
 refine cd ?_ ?_<;>intro c5
 . refine aa Tp ?_;exact fo 3 (k:=o0u)
 refine aj ?_
 refine aa Tp ?_
 exact fo 3 (k:=by rw[ed,if_neg p1,if_neg p2,if_neg (by omega),if_neg (by show ¬(aI (⟨z.apex,iO (gp z d++d.put)⟩:Zon)=false\/aL (⟨z.apex,iO (gp z d++d.put)⟩:Zon)≠d.too);rw[hb];grind)];try rfl)
def VO{a b:Int}{x:Bool}{e:Int}(h:mE a b=(x,e)):PureCt prog 22 [.i a,.i b] (.tuple [.b x,.i e]):=by
 have:=VP a b
 rwa [h]at this
def ZiT{a b:Zon}{x:aG}{e:Int}(h:kW a b=(x,e)):PureCt prog 9 [.agg a.d,.agg b.d] (.tuple [.agg x.d,.i e]):=by
 have:=VY a b
 rwa [h]at this
def Zjd{z:Zon}{d:aG}{x:Zon}{e:Int}(hp:fH d.put)(h:ed z d=(x,e)):PureCt prog 38 [.agg z.d,.agg d.d] (.tuple [.agg x.d,.i e]):=by
 have:=NM z d hp
 rwa [h]at this
@[go_sem]theorem Zce{l:List Sgd}{x:Sgd}:(l++[x]).map Sgd.d=l.map Sgd.d++[[.v (.string (bs x.set.name)),.i x.set.ty,.i x.set.life,.list false (x.set.data.map Dat.d),.list false (x.sigs.map RSig.d)]]:=by simp[Sgd.d]
@[go_sem]theorem ZgQ{l:List Int}{x:Int}:(l++[x]).map ko=l.map ko++[[.i x]]:=by simp[ko]
@[go_sem]theorem Ziz{l:List aG}{x:aG}:(l++[x]).map aG.d=l.map aG.d++[[.v (.string (bs x.apex)),.i x.frm,.i x.too,.list false (x.drop.map ak.d),.list false (x.put.map Sgd.d)]]:=by simp[aG.d]
def bo81q:d9 prog 81=true:=by kernel_rfl
def JO(d:aG):PureCt prog 81 [.agg d.d,.agg d.d] (.tuple [.agg (rM d d).1.d,.i (rM d d).2]):=by
 refine za func81 rfl bo81q o5h (by simp[f81]) ?_
 unfold f81
 simp only[Bf]
 have ff:=True.intro
 refine aa Tp ?_
 refine ae ?_
 rcases hd:fO d with _|_
 .
  have hj:=Uh hd;have ff:=qB @hj @hd ff;refine aa Tp ?_ (hok:=o0p)
  refine cd ?_ ?_ (hp:=rfl) (hq:=rfl)<;>intro c1
  . refine aa Tp ?_;exact fp 3
  simp at c1
 have hj:=Ug hd
 have hdi:=yx.1 hd
 have hne:(d.too != d.frm)=true:=by simpa using Oj hdi.bef hdi.too
 have ff:=qD @hj @hd @hne ff
 refine aa Tp ?_ (hok:=o0p)
 refine cd ?_ ?_ (hp:=rfl) (hq:=rfl)<;>intro c1
 . simp at c1
 refine aj ?_
 refine ae ?_
 refine aa Tp ?_ (hok:=by(try simp only[go_sem,ff]);all_goals (first|done|(simp;done)|(repeat' (with_reducible apply And.intro))<;>first|(intro h;simp at h;done)|(simp;done)))
 refine cd ?_ ?_ (hp:=rfl) (hq:=rfl)<;>intro c2
 . refine aa Tp ?_;exact fp 3
 simp at c2
def Pt(z:Zon):PureCt prog 89 [.agg z.d] (.b (AU z)):=by
 refine oO func89 λff=>?_
 unfold f89
 refine oC Tp ?_
 exact fo 0 (k:=by rw[Ze4])
def Zbc(d:aG)(hp:fH d.put):PureCt prog 154 [.agg d.d] (.b (fO d)):=by
 refine oO func154 λff=>?_
 unfold f154
 refine aa Tp ?_
 rcases hd:fO d with _|_
 . have hj:=Uh hd;have ff:=qB @hj @hd ff;refine aa Tp ?_ (hok:=oV (JO d));refine aa Tp ?_;exact fp 0
 have hj:=Ug hd
 have ff:=qB @hj @hd ff
 refine aa Tp ?_ (hok:=oV (JO d))
 refine aa Tp ?_
 exact fp 0
def Pn(s:gN):PureCt prog 43 [.agg s.d] (.b (lI s)):=by
 refine oO func43 λff=>?_
 unfold f43
 refine aa Tp ?_
 refine oK Tp ?_ ?_<;>intro c1
 . refine aa Tp ?_;exact fo 0 (k:=by simp only[lI];grind)
 refine oK Tp ?_ ?_<;>intro c2
 . refine aa Tp ?_ (hok:=oF (xw _));exact fo 0 (k:=by simp only[lI];grind)
 refine aa Tp ?_ (hok:=oF (Pt _))
 exact fo 0 (k:=by simp only[lI];grind)
def Za4(o:Off)(hf : ∀i,i<o.deltas.length->fH o.deltas[i]!.put):PureCt prog 93 [.agg o.d] (.b (jH o)):=by
 refine oO func93 λff=>?_
 unfold f93
 refine aa Tp ?_
 refine oK Tp ?_ ?_<;>intro c1
 . refine aa Tp ?_ (hok:=oH xw);exact fo 0 (k:=by rw[jH,if_pos (by grind),Us])
 refine oK Tp ?_ ?_ (hok:=oH Pt)<;>intro c2
 . refine aa Tp ?_;exact fo 0 (k:=by simp only[jH];grind)
 have hfu:o.full=false:=by grind
 have hl2:o.deltas.length<=20000:=by grind
 refine ae ?_
 refine aa Tp ?_
 refine ah ?_
 refine lp (α:=(Nat)×Nat) [1,27,28] (λ⟨k,nx⟩=>(k<=o.deltas.length)/\(aA o.deltas.length (wI o) 0=aA o.deltas.length (wI o) k)/\(0<nx)/\True) (λ⟨k,nx⟩=>o.deltas.length-k) (λ⟨k,nx⟩=>[(29,.i k)]) (λ⟨k,nx⟩=>[(0,⟨109,[o.d]⟩)]) (λ⟨k,nx⟩=>nx) (0,_) (hA:=⟨iv,rfl,iv,trivial⟩) (round:=?_)
 rintro⟨k,nx⟩ ⟨hk,hv,hx, -⟩
 simp only[XY,XZ]
 have ff:=qA @hx ff
 refine aa Tp ?_
 refine ae ?_
 refine cd ?_ ?_ (hp:=rfl)<;>intro c3
 .
  have hk2:k<o.deltas.length:=by simpa using c3
  have hk1:k-1<o.deltas.length:=by omega
  have e1:((k:Int)-1).toNat=k-1:=by omega
  have ff:=qD (Jj hk2) (Jj hk1) @e1 ff;refine aj ?_;refine ae ?_;refine ah ?_;refine aa Tp ?_;refine oK Tp ?_ ?_ (hok:=oH (Zbc o.deltas[k]! (hf k hk2)))<;>intro c4
  . refine aa Tp ?_;exact fo 0 (k:=o1w)
  refine aa Tp ?_ (hok:=by(try simp only[go_sem,ff]);all_goals (exact ok0))
  refine cd ?_ ?_<;>intro c5
  . refine aa Tp ?_;exact fo 0 (k:=o1w)
  refine aj ?_;refine ai Tp ?_
  show ∃_,_
  have h8:(wI o) k=true:=by simp only[wI];grind
  exact ay (k+1,_) (h1:=⟨iv,o4r,iv,trivial⟩)
 refine aK ?_
 refine aa Tp ?_
 exact fo 0 (k:=by simp only[jH];rw[hv,gW (by omega)];grind)
def Zba(o:Off):PureCt prog 94 [.agg o.d] (.tuple [.v (.string (bs (ou o).1)),.b (ou o).2]):=by
 refine oO func94 λff=>?_
 unfold f94
 refine aa Tp ?_
 refine oK Tp ?_ ?_<;>intro c1
 . refine aa Tp ?_;exact fo 1 (k:=by simp only[ou];rw[if_pos (by grind)];try rfl)
 refine oK Tp ?_ ?_<;>intro c2
 .
  have h0:0<o.deltas.length:=by omega
  have ff:=qA (Jj h0) ff;refine aa Tp ?_;exact fo 1 (k:=by simp only[ou];rw[if_neg (by grind),if_pos (by omega)];try rfl)
 refine aa Tp ?_
 exact fo 1 (k:=by simp only[ou];rw[if_neg (by grind),if_neg (by omega)];try rfl)
def Za8(a:Sgd)(b:Sgd)(ha:tJ a):PureCt prog 220 [.agg a.d,.agg b.d] (.b (lg a b)):=by
 refine oO func220 λff=>?_
 unfold f220
 refine aa Tp ?_
 refine aa Tp ?_ (hok:=o0v)
 exact fo 0 (k:=by rw[<-ZcZ])
def Zbi(a:List Sgd)(b:List Sgd)(hl:fH a):PureCt prog 106 [.list false (a.map Sgd.d),.list false (b.map Sgd.d),.fn (.func 220) [] []] (.b (sM a b)):=by
 refine oO func106 λff=>?_
 unfold f106
 have hl1:=hl.1
 refine aa Tp ?_
 refine oK Tp ?_ ?_<;>intro c1
 . refine aa Tp ?_;exact fo 0 (k:=by rw[Qk (by omega)])
 have hab:a.length=b.length:=by omega
 refine ae ?_
 refine aa Tp ?_
 refine ah ?_
 refine lp (α:=(Nat)×Nat) [1,2,15,16] (λ⟨k,nx⟩=>(k<=a.length)/\(∀i,i<k->lg a[i]! b[i]! = true)/\True) (λ⟨k,nx⟩=>a.length-k) (λ⟨k,nx⟩=>[(17,.i k)]) (λ⟨k,nx⟩=>[]) (λ⟨k,nx⟩=>nx) (0,_) (hA:=⟨iv,o3u,trivial⟩) (round:=?_)
 rintro⟨k,nx⟩ ⟨hk,hv, -⟩
 simp only[XY,XZ]
 refine aa Tp ?_
 refine ae ?_
 refine cd ?_ ?_ (hp:=rfl)<;>intro c2
 .
  have hk2:k<a.length:=by simpa using c2
  have hk3:k<b.length:=by omega
  have ff:=qB (dB hk2) (dB hk3) ff;refine aj ?_;refine ae ?_;refine ah ?_;refine oC Tp ?_;refine aa Tp ?_ (hok:=oH (Za8 a[k]! b[k]! (hl.2 k hk2)));refine cd ?_ ?_<;>intro c3
  . refine aa Tp ?_;exact fo 0 (k:=by rw[Qq (k:=k) (by grind)])
  have hs:lg a[k]! b[k]! = true:=by grind
  refine aj ?_;refine ai Tp ?_
  show ∃_,_
  exact ay (k+1,_) (h1:=⟨iv,(by(try dsimp only);intro i hi;by_cases e:i=k;subst e;exact hs;exact hv i om),trivial⟩)
 refine aK ?_
 refine aa Tp ?_
 exact fo 0 (k:=by rw[Qj hab λi hi=>hv i (by omega)])
def Za7(a:Zon)(b:Zon)(hf:fH a.sets):PureCt prog 155 [.agg a.d,.agg b.d] (.b (mh a b)):=by
 refine oO func155 λff=>?_
 unfold f155
 refine aa Tp ?_
 refine aa Tp ?_ (hok:=oH (Zbi a.sets b.sets hf))
 exact fo 0 (k:=by rw[<-XE])
def Zbe(s:gN)(z:Zon)(hs:s.has=true->aI s.zone=true)(hz:aI z=true):PureCt prog 95 [.agg s.d,.agg z.d] (.i (pg s z)):=by
 refine oO func95 λff=>?_
 unfold f95
 refine aa Tp ?_
 refine oK Tp ?_ ?_<;>intro c1
 . refine aa Tp ?_;exact fo 0 (k:=by simp[pg,c1])
 have hh:s.has=true:=by grind
 have hsz:=hs hh
 have vG:mE (aL s.zone) (aL z)=(gV (aL s.zone) (aL z),0):=by unfold mE;rw[yT hsz,yT hz];rfl
 have ff:=qD @hsz @hz @vG ff
 refine aa Tp ?_ (hok:=oF (nX hsz))
 refine aa Tp ?_ (hok:=oF (nX hz))
 refine oK Tp ?_ ?_<;>intro c2
 .
  refine oK Tp ?_ ?_ (hok:=oF (Za7 s.zone z (sj hsz)))<;>intro c3
  . refine aa Tp ?_;exact fo 0 (k:=by rw[ZhC hh (by grind) (by simp only[mh]at c3;grind)])
  refine aa Tp ?_;exact fo 0 (k:=by rw[Zhz hh (by simp only[mh]at c3;grind)])
 refine ae ?_
 refine aa Tp ?_ (hok:=oF (VO vG))
 refine aa Tp ?_
 refine cd ?_ ?_<;>intro c4
 . refine aa Tp ?_;exact fo 0 (k:=by rw[ZhA hh (by grind) (by grind)])
 refine aj ?_
 refine aa Tp ?_
 exact fo 0 (k:=by rw[ZhB hh (by grind)])
def Py(s:Sgd)(hs:tJ s):PureCt prog 153 [.agg s.d] (.agg s.d):=by
 refine oO func153 λff=>?_
 unfold f153
 refine aa Tp ?_
 refine aa Tp ?_ (hok:=o3k)
 refine aa Tp ?_ (hok:=o3l)
 refine aa Tp ?_
 exact fp 2
def Zbj(l:List Sgd)(hl:fH l):PureCt prog 152 [.list false (l.map Sgd.d),.fn (.func 153) [] []] (.list false (l.map Sgd.d)):=by
 refine oO func152 λff=>?_
 unfold f152
 have hl1:=hl.1
 refine oC Tp ?_
 refine ae ?_
 refine yu 5 84 o5l o5l ?_
 refine aa Tp ?_
 refine ah ?_
 refine lp (α:=(Nat)×(Nat)×Nat) [1,8,9] (λ⟨k,r,nx⟩=>(k<=l.length)/\(r<nx)/\True) (λ⟨k,r,nx⟩=>l.length-k) (λ⟨k,r,nx⟩=>[(5,.mrow r 0 (l.take k).length),(10,.i k)]) (λ⟨k,r,nx⟩=>[(r,⟨84,(l.take k).map Sgd.d⟩)]) (λ⟨k,r,nx⟩=>nx) (0,2,_) (hA:=⟨iv,iv,trivial⟩) (round:=?_)
 rintro⟨k,r,nx⟩ ⟨hk,hr, -⟩
 simp only[XY,XZ]
 have hfl:(l.take k).length=k:=by rw[YR];omega
 have ff:=qA hfl ff
 have ff:=qA @hr ff
 refine aa Tp ?_
 refine ae ?_
 refine cd ?_ ?_ (hp:=rfl)<;>intro c1
 .
  have hk2:k<l.length:=by simpa using c1
  have ff:=qA (dB hk2) ff;refine aj ?_;refine ae ?_;refine ah ?_;refine aa Tp ?_;refine ai Tp ?_ (hok:=by(try simp only[go_sem,ff]);all_goals (first|done|((repeat' (with_reducible apply And.intro))<;>first|(intros;exact Py l[k]! (hl.2 k hk2))|omega|(simp;omega)|skip)))
  refine ai Tp ?_
  show ∃_,_
  have hst:(l.take (k+1)).map Sgd.d=(l.take k).map Sgd.d++[[.v (.string (bs l[k]!.set.name)),.i l[k]!.set.ty,.i l[k]!.set.life,.list false (l[k]!.set.data.map Dat.d),.list false (l[k]!.sigs.map RSig.d)]]:=by rw[qY! hk2,Zce]
  have hsl:(l.take (k+1)).length=k+1:=by rw[YR];omega
  have ff:=qB hst hsl ff;exact ay (k+1,(nx+10),_) (h1:=⟨iv,iv,trivial⟩)
 refine aK ?_
 have e9:k=l.length:=by have h9 : ¬(k:Int)<l.length:=(by simpa using c1);omega
 subst e9
 refine aa Tp ?_
 exact fo 1 (k:=o2a)
def GK(z:Zon)(hf:fH z.sets):PureCt prog 92 [.agg z.d] (.agg z.d):=by
 refine oO func92 λff=>?_
 unfold f92
 refine aa Tp ?_
 refine aa lZ ?_ (hok:=oH (Zbj z.sets hf))
 exact fp 2
def Po(z:Zon)(hz:aI z=true):PureCt prog 151 [.agg z.d] (.i (aL z)):=by
 refine oO func151 λff=>?_
 unfold f151
 have ff:=qA @hz ff
 refine aa Tp ?_
 refine aa Tp ?_ (hok:=oF (nX hz))
 refine aa Tp ?_
 exact fp 0
def Zbk(l:List Zon)(hl:l.length<=1000000)(hz : ∀i,i<l.length->aI l[i]! = true):PureCt prog 150 [.list false (l.map Zon.d),.fn (.func 151) [] []] (.list false ((l.map aL).map ko)):=by
 refine oO func150 λff=>?_
 unfold f150
 refine oC Tp ?_
 refine ae ?_
 refine yu 5 3 o5l o5l ?_
 refine aa Tp ?_
 refine ah ?_
 refine lp (α:=(Nat)×(Nat)×Nat) [1,8,9] (λ⟨k,r,nx⟩=>(k<=l.length)/\(r<nx)/\True) (λ⟨k,r,nx⟩=>l.length-k) (λ⟨k,r,nx⟩=>[(5,.mrow r 0 (l.take k).length),(10,.i k)]) (λ⟨k,r,nx⟩=>[(r,⟨3,((l.take k).map aL).map ko⟩)]) (λ⟨k,r,nx⟩=>nx) (0,2,_) (hA:=⟨iv,iv,trivial⟩) (round:=?_)
 rintro⟨k,r,nx⟩ ⟨hk,hr, -⟩
 simp only[XY,XZ]
 have hfl:(l.take k).length=k:=by rw[YR];omega
 have ff:=qA hfl ff
 have ff:=qA @hr ff
 refine aa Tp ?_
 refine ae ?_
 refine cd ?_ ?_ (hp:=rfl)<;>intro c1
 .
  have hk2:k<l.length:=by simpa using c1
  have ff:=qA (uE hk2) ff;refine aj ?_;refine ae ?_;refine ah ?_;refine aa Tp ?_;refine ai Tp ?_ (hok:=by(try simp only[go_sem,ff]);all_goals (first|done|((repeat' (with_reducible apply And.intro))<;>first|(intros;exact Po l[k]! (hz k hk2))|omega|(simp;omega)|skip)))
  refine ai Tp ?_
  show ∃_,_
  have hst:((l.take (k+1)).map aL).map ko=((l.take k).map aL).map ko++[[.i (aL l[k]!)]]:=by rw[qY! hk2,YT];exact ZgQ
  have hsl:(l.take (k+1)).length=k+1:=by rw[YR];omega
  have ff:=qB hst hsl ff;exact ay (k+1,(nx+10),_) (h1:=⟨iv,iv,trivial⟩)
 refine aK ?_
 have e9:k=l.length:=by have h9 : ¬(k:Int)<l.length:=(by simpa using c1);omega
 subst e9
 have ff:=qA (show(List.map ko (List.map aL l)).take l.length=List.map ko (List.map aL l)from Ym (by simp)) ff
 refine aa Tp ?_
 exact fo 1 (k:=o2a)
open Go.Jn
def W9:d9 prog 201=true:=by kernel_rfl
theorem Zeh(ce:Nat)(h:H)(n:Nat):yK prog 201 [.mptr ce 0 0] h n .returning .returning (λh' n'=>(∀q,q<n->h' q=h q)/\n<=n'):=by
 refine BK (d:=.v .nilIface) (v:=.nilIface) func201 rfl W9 (by simp[f201]) (dN rfl) rfl rfl (by decide) (.inl ⟨rfl,rfl,rfl⟩) (λ_ _=>.v _) (λhnone=>?_)
 have ff:=True.intro
 refine Hg (C:=Tp) 1 (d:=.v .nilIface) (r:=.tuple [.v .nilIface,.b false]) (λw=>Xj underlying136 rfl rfl w) (λw g q hq=>by cases hq;rfl) (λw g=>?_) (by omega) (dN rfl) rfl rfl o2l trivial (by rfl) o5l ?_
 .
  exact .tuple _ _ rfl (λi d x h1 h2=>by
   match i with
   | 0=>cases h1;cases h2;exact .v _
   | 1=>cases h1;cases h2;exact .v _
   | i+2=>simp at h1)
 refine aP Tp ?_
 try simp only[aH]
 show DW _ _ _ _ _
 refine aa Tp ?_
 refine cd ?_ ?_<;>intro c1
 . simp at c1
 .
  refine aj ?_;refine⟨(by trivial),h,_,?_,Nat.le_refl _,λq hq=>rfl,by dsimp only;omega⟩
  intro r;dsimp only
  first
  | exact .inl rfl
  | exact(Decidable.em (r<n)).elim (λe=>by left;simp only[upd];repeat (first|rfl|rw[XV (by omega)])) λe=>by right;exact hnone r (by omega)
theorem RH(ce:Nat)(h:H)(n:Nat)(c0:D)(he:h ce=some ⟨136,[[c0]]⟩)(hce:ce<n):yK prog 201 [.mptr ce 0 0] h n (.panicking uM) (.panicking [{ v:=jZ iL,recovered:=true }]) (λh' n'=>h' ce=some ⟨136,[[.v (jZ iL)]]⟩/\n<=n' /\ ∀q,q<n->q≠ce->h' q=h q):=by
 refine BK (d:=.v (jZ iL)) (v:=jZ iL) func201 rfl W9 (by simp[f201]) (dN rfl) rfl rfl (by decide) (.inr ⟨rfl,rfl⟩) (λw g=>.v _) (λhnone=>?_)
 have hn2 : ∀k,(ce=n+k)=False:=λk=>YN (by omega)
 have nE : ∀k,(n+k=ce)=False:=λk=>YN (by omega)
 have ff:=qB he hn2 nE
 refine Hg (C:=Tp) 1 (d:=.v (jZ iL)) (r:=.tuple [.v (jZ iL),.b true]) (λw=>Go.run_typeAssert_hasB underlying136 (by kernel_rfl) _ _ w) (λw g q hq=>by cases hq;rfl) (λw g=>?_) (by omega) (dN rfl) rfl rfl o2l trivial (by rfl) o5l ?_
 .
  exact .tuple _ _ rfl (λi d x h1 h2=>by
   match i with
   | 0=>cases h1;cases h2;exact .v _
   | 1=>cases h1;cases h2;exact .v _
   | i+2=>simp at h1)
 refine aP Tp ?_
 try simp only[aH]
 show DW _ _ _ _ _
 refine aa Tp ?_
 refine cd ?_ ?_<;>intro c1
 .
  refine ai Tp ?_ (hok:=o3x)
  refine⟨(by trivial),_,_,λ_=>.inl rfl,Nat.le_refl _,?_,by dsimp only;omega,λq q1 q2=>?_⟩
  . dsimp only;simp only[upd];repeat (first|rfl|rw[if_neg (by omega)]|rw[if_pos rfl])
  . dsimp only;simp only[upd];repeat (first|rfl|rw[if_neg q2]|rw[if_neg (by omega)])
 . simp at c1
def WZ:d9 prog 206=true:=by kernel_rfl
theorem Zei(ce:Nat)(h:H)(n:Nat):yK prog 206 [.mptr ce 0 0] h n .returning .returning (λh' n'=>(∀q,q<n->h' q=h q)/\n<=n'):=by
 refine BK (d:=.v .nilIface) (v:=.nilIface) func206 rfl WZ (by simp[f206]) (dN rfl) rfl rfl (by decide) (.inl ⟨rfl,rfl,rfl⟩) (λ_ _=>.v _) (λhnone=>?_)
 have ff:=True.intro
 refine Hg (C:=Tp) 1 (d:=.v .nilIface) (r:=.tuple [.v .nilIface,.b false]) (λw=>Xj underlying136 rfl rfl w) (λw g q hq=>by cases hq;rfl) (λw g=>?_) (by omega) (dN rfl) rfl rfl o2l trivial (by rfl) o5l ?_
 .
  exact .tuple _ _ rfl (λi d x h1 h2=>by
   match i with
   | 0=>cases h1;cases h2;exact .v _
   | 1=>cases h1;cases h2;exact .v _
   | i+2=>simp at h1)
 refine aP Tp ?_
 try simp only[aH]
 show DW _ _ _ _ _
 refine aa Tp ?_
 refine cd ?_ ?_<;>intro c1
 . simp at c1
 .
  refine aj ?_;refine⟨(by trivial),h,_,?_,Nat.le_refl _,λq hq=>rfl,by dsimp only;omega⟩
  intro r;dsimp only
  first
  | exact .inl rfl
  | exact(Decidable.em (r<n)).elim (λe=>by left;simp only[upd];repeat (first|rfl|rw[XV (by omega)])) λe=>by right;exact hnone r (by omega)
theorem RI(ce:Nat)(h:H)(n:Nat)(c0:D)(he:h ce=some ⟨136,[[c0]]⟩)(hce:ce<n):yK prog 206 [.mptr ce 0 0] h n (.panicking uM) (.panicking [{ v:=jZ iL,recovered:=true }]) (λh' n'=>h' ce=some ⟨136,[[.v (jZ iL)]]⟩/\n<=n' /\ ∀q,q<n->q≠ce->h' q=h q):=by
 refine BK (d:=.v (jZ iL)) (v:=jZ iL) func206 rfl WZ (by simp[f206]) (dN rfl) rfl rfl (by decide) (.inr ⟨rfl,rfl⟩) (λw g=>.v _) (λhnone=>?_)
 have hn2 : ∀k,(ce=n+k)=False:=λk=>YN (by omega)
 have nE : ∀k,(n+k=ce)=False:=λk=>YN (by omega)
 have ff:=qB he hn2 nE
 refine Hg (C:=Tp) 1 (d:=.v (jZ iL)) (r:=.tuple [.v (jZ iL),.b true]) (λw=>Go.run_typeAssert_hasB underlying136 (by kernel_rfl) _ _ w) (λw g q hq=>by cases hq;rfl) (λw g=>?_) (by omega) (dN rfl) rfl rfl o2l trivial (by rfl) o5l ?_
 .
  exact .tuple _ _ rfl (λi d x h1 h2=>by
   match i with
   | 0=>cases h1;cases h2;exact .v _
   | 1=>cases h1;cases h2;exact .v _
   | i+2=>simp at h1)
 refine aP Tp ?_
 try simp only[aH]
 show DW _ _ _ _ _
 refine aa Tp ?_
 refine cd ?_ ?_<;>intro c1
 .
  refine ai Tp ?_ (hok:=o3x)
  refine⟨(by trivial),_,_,λ_=>.inl rfl,Nat.le_refl _,?_,by dsimp only;omega,λq q1 q2=>?_⟩
  . dsimp only;simp only[upd];repeat (first|rfl|rw[if_neg (by omega)]|rw[if_pos rfl])
  . dsimp only;simp only[upd];repeat (first|rfl|rw[if_neg q2]|rw[if_neg (by omega)])
 . simp at c1
def bo131:d9 prog 131=true:=by kernel_rfl
def Zgo(w:Str)(h:H)(n:Nat)(hw:w.length<=1000000000):bT prog 131 [.list false (w.map bD),.fn (.func 132) [] []] h n (λd h' n'=>d.nr=true/\wk d = .tuple [.agg (wG w).d,.v (Dt (ib (jV (w,false)).2))]):=by
 have ff:=True.intro
 refine HZ (C:=Tp) 1 func131 rfl bo131 (by simp[f131]) o2u ev o4d (dN rfl) rfl rfl o2q o4l o4d o3g ev (λhnone=>?_)
 unfold f131
 refine aP Tp ?_
 try simp only[aH]
 have ff:=qA (nH n (n+1)) ff
 refine aa Tp ?_
 refine bY ?_
 refine iX 2 (C:=Tp) (hct:=by exact Zgh w _ _ (n+6) ⟨false,ev⟩ hw) (hp:=?_) (hk:=?_)
 .
  rintro c9 h9 n9 ⟨rfl,hbad,aQ⟩
  try dsimp only at aQ
  have vG:=aQ.1;have hz9:h9 n=some ⟨24,[[.v (.string (bs [])),.list true []]]⟩:=(aQ.2 n om om).trans ev;have he9:h9 (n+1)=some ⟨136,[[.v .nilIface]]⟩:=(aQ.2 (n+1) om om).trans ev
  try simp only[iq,iE]
  refine⟨_,_,_,rfl,rfl,RH (n+1) h9 _ _ he9 oW,λh1 m1⟨w1,w2,w3⟩=>?_⟩
  try dsimp only at w1 w2 w3
  have hz1:=(w3 n (by omega) (by omega)).trans hz9
  have ff:=qB hz1 w1 ff;exact⟨by simp only[go_sem,ff],h1,m1,λ_=>.inl rfl,XW _,by(try simp only[go_sem,ff]);all_goals (refine⟨by simp[go_sem,D.nr,bA,bu],?_⟩;(try simp only[go_sem]);rw[wG,X3 hbad,show ib (jV (w,false)).2=true from by simp[ib,hbad]];rfl)⟩
 rintro res h2 n2 ⟨x2,hp2,rfl,hb2,aT⟩
 try dsimp only at aT
 have hl2:=aT.1
 obtain⟨f2,hR2⟩:=hb2
 have hz2:h2 n=some ⟨24,[[.v (.string (bs [])),.list true []]]⟩:=(aT.2 n om om).trans ev
 have he2:h2 (n+1)=some ⟨136,[[.v .nilIface]]⟩:=(aT.2 (n+1) om om).trans ev
 have hbn:(jV (w,false)).2.2=false:=by rw[hp2]
 have ff:=qH hR2 hz2 he2 (nH n (n+6)) (nG n n2) (nG (n+1) n2) (nG (n+6) n2) ff
 refine aP Tp ?_
 try simp only[aH]
 refine oK Tp ?_ ?_<;>intro c1
 .
  refine sJ ?_;refine Dj Tp 1 (d:=.v (jZ iL)) (t:=339) (v:=.pointer (some iL)) ?_ (λw g u hu=>hu.v_inv)
  try simp only[iq,iE]
  refine⟨_,_,_,rfl,rfl,RH (n+1) _ _ (.v .nilIface) ev oW,λh1 m1⟨w1,w2,w3⟩=>?_⟩
  try dsimp only at w1 w2 w3
  have hz1:=(w3 n oW (by omega))
  simp only[go_sem,ff]at hz1;have ff:=qB hz1 w1 ff;exact⟨by simp only[go_sem,ff],h1,m1,λ_=>.inl rfl,XW _,by(try simp only[go_sem,ff]);all_goals (refine⟨by simp[go_sem,D.nr,bA,bu],?_⟩;(try simp only[go_sem]);rw[wG,XV (by rw[hbn];simp),show ib (jV (w,false)).2=true from by rw[hp2];simp[ib];omega];rfl)⟩
 have hx0:x2=[]:=Yb om
 refine aa Tp ?_
 refine aN ?_
 refine⟨_,_,_,rfl,rfl,Zeh (n+1) _ _,λh1 m1⟨w1,w2⟩=>?_⟩
 try dsimp only at w1 w2 w3
 have hz1:=w1 n oW
 have he1:=w1 (n+1) oW
 simp only[go_sem,ff]at hz1 he1
 have ff:=qB hz1 he1 ff
 exact⟨by simp only[go_sem,ff],h1,m1,λ_=>.inl rfl,XW _,by(try simp only[go_sem,ff]);all_goals (refine⟨by simp[go_sem,D.nr,bA,bu],?_⟩;(try simp only[go_sem]);rw[wG,XV (by rw[hbn];simp),show ib (jV (w,false)).2=false from by rw[hp2,hx0];rfl];rfl)⟩
def bo134:d9 prog 134=true:=by kernel_rfl
def Zgq(w:Str)(h:H)(n:Nat)(hw:w.length<=1000000000):bT prog 134 [.list false (w.map bD),.fn (.func 135) [] []] h n (λd h' n'=>d.nr=true/\wk d = .tuple [.agg (rE w).d,.v (Dt (ib (fI (w,false)).2))]):=by
 have ff:=True.intro
 refine HZ (C:=Tp) 1 func134 rfl bo134 (by simp[f134]) o2u ev o4d (dN rfl) rfl rfl o2q o4l o4d o3g ev (λhnone=>?_)
 unfold f134
 refine aP Tp ?_
 try simp only[aH]
 have ff:=qA (nH n (n+1)) ff
 refine aa Tp ?_
 refine bY ?_
 refine iX 2 (C:=Tp) (hct:=by exact ZgA w _ _ (n+6) ⟨false,ev⟩ hw) (hp:=?_) (hk:=?_)
 .
  rintro c9 h9 n9 ⟨rfl,hbad,aQ⟩
  try dsimp only at aQ
  have vG:=aQ.1;have hz9:h9 n=some ⟨40,[[.v (.string (bs [])),.i 0,.i 0,.list true [],.list true []]]⟩:=(aQ.2 n om om).trans ev;have he9:h9 (n+1)=some ⟨136,[[.v .nilIface]]⟩:=(aQ.2 (n+1) om om).trans ev
  try simp only[iq,iE]
  refine⟨_,_,_,rfl,rfl,RI (n+1) h9 _ _ he9 oW,λh1 m1⟨w1,w2,w3⟩=>?_⟩
  try dsimp only at w1 w2 w3
  have hz1:=(w3 n (by omega) (by omega)).trans hz9
  have ff:=qB hz1 w1 ff;exact⟨by simp only[go_sem,ff],h1,m1,λ_=>.inl rfl,XW _,by(try simp only[go_sem,ff]);all_goals (refine⟨by simp[go_sem,D.nr,bA,bu],?_⟩;(try simp only[go_sem]);rw[rE,X3 hbad,show ib (fI (w,false)).2=true from by simp[ib,hbad]];rfl)⟩
 rintro res h2 n2 ⟨x2,hp2,rfl,hb2,aT⟩
 try dsimp only at aT
 have hl2:=aT.1
 obtain⟨f2,hR2⟩:=hb2
 have hz2:h2 n=some ⟨40,[[.v (.string (bs [])),.i 0,.i 0,.list true [],.list true []]]⟩:=(aT.2 n om om).trans ev
 have he2:h2 (n+1)=some ⟨136,[[.v .nilIface]]⟩:=(aT.2 (n+1) om om).trans ev
 have hbn:(fI (w,false)).2.2=false:=by rw[hp2]
 have ff:=qH hR2 hz2 he2 (nH n (n+6)) (nG n n2) (nG (n+1) n2) (nG (n+6) n2) ff
 refine aP Tp ?_
 try simp only[aH]
 refine oK Tp ?_ ?_<;>intro c1
 .
  refine sJ ?_;refine Dj Tp 1 (d:=.v (jZ iL)) (t:=339) (v:=.pointer (some iL)) ?_ (λw g u hu=>hu.v_inv)
  try simp only[iq,iE]
  refine⟨_,_,_,rfl,rfl,RI (n+1) _ _ (.v .nilIface) ev oW,λh1 m1⟨w1,w2,w3⟩=>?_⟩
  try dsimp only at w1 w2 w3
  have hz1:=(w3 n oW (by omega))
  simp only[go_sem,ff]at hz1;have ff:=qB hz1 w1 ff;exact⟨by simp only[go_sem,ff],h1,m1,λ_=>.inl rfl,XW _,by(try simp only[go_sem,ff]);all_goals (refine⟨by simp[go_sem,D.nr,bA,bu],?_⟩;(try simp only[go_sem]);rw[rE,XV (by rw[hbn];simp),show ib (fI (w,false)).2=true from by rw[hp2];simp[ib];omega];rfl)⟩
 have hx0:x2=[]:=Yb om
 refine aa Tp ?_
 refine aN ?_
 refine⟨_,_,_,rfl,rfl,Zei (n+1) _ _,λh1 m1⟨w1,w2⟩=>?_⟩
 try dsimp only at w1 w2 w3
 have hz1:=w1 n oW
 have he1:=w1 (n+1) oW
 simp only[go_sem,ff]at hz1 he1
 have ff:=qB hz1 he1 ff
 exact⟨by simp only[go_sem,ff],h1,m1,λ_=>.inl rfl,XW _,by(try simp only[go_sem,ff]);all_goals (refine⟨by simp[go_sem,D.nr,bA,bu],?_⟩;(try simp only[go_sem]);rw[rE,XV (by rw[hbn];simp),show ib (fI (w,false)).2=false from by rw[hp2,hx0];rfl];rfl)⟩
def Zgp(w:Str)(hw:w.length<=1000000000):PureCt prog 131 [.list false (w.map bD),.fn (.func 132) [] []] (.tuple [.agg (wG w).d,.v (Dt (ib (jV (w,false)).2))]) :=
 Rz o5h ((Zgo w _ 0 hw).mono λd h' n'⟨e1,e2⟩=>⟨0,e1,e2⟩)
def Zgr(w:Str)(hw:w.length<=1000000000):PureCt prog 134 [.list false (w.map bD),.fn (.func 135) [] []] (.tuple [.agg (rE w).d,.v (Dt (ib (fI (w,false)).2))]) :=
 Rz o5h ((Zgq w _ 0 hw).mono λd h' n'⟨e1,e2⟩=>⟨0,e1,e2⟩)
theorem Cg{k:Nat}{x:Str}(h:k<=x.length):au k (x,false)=(fP (x.take k),(x.drop k,false)):=by
 unfold au
 rw[take_ok rfl h]
def Jm{k:Nat}{b:Str}(h : ∀m,21+m<=b.length -> ¬CW k m b):bN k b=(0,[]):=by
 rcases Jp k b with e|⟨m,h1,h2,_⟩
 . exact e
 exact absurd h2 (h m h1)
attribute [local irreducible] iD fP
def Eh:Code->Code
 | .seq _ b=>b
 | c=>c
def M6:Code->Code
 | .seq a _=>a
 | c=>c
def Sa:Code->Array Oper
 | .region _ ops _=>ops
 | _=>#[]
noncomputable def Ak:Array Oper:=Sa (M6 (M6 (Eh (Eh (Eh (Eh (f130.body.getD .skip)))))))
def Pg(w:Str)(t:Nat->D)(h:H)(a u n2 nx:Nat)(fl:Bool)(e:Env)(h21:21<=w.length)(hw:w.length<=1000000000)
  (h1:t 1 = .list false (w.map bD))(h7:t 7 = .i u)(h27:t 27 = .v (.int .u64 a))(FB:t 28 = .list false (w.map bD))(yl:t 29 = .list fl ((w.take 5).map bD)) :
  ∃(t':Nat->D)(p:Prop),aY prog (words prog) Tp Ak.toList n2 4 ((Ak.toList.drop 4).take (11-4)) { n:=50,t:=t,h:=h,nx:=nx,ok:=True,e:=e }={ n:=50,t:=t',h:=h,nx:=nx,ok:=p,e:=e }/\p /\
   t' 32 = .b (((a:Nat):Int) != ((iD (w.take 5):Nat):Int))/\t' 33 = .cond (!(((a:Nat):Int) != ((iD (w.take 5):Nat):Int))) (.i u)/\t' 36 = .cond (!(((a:Nat):Int) != ((iD (w.take 5):Nat):Int))) (.i ((w.length:Int)-21)) /\ ∀i,i<28->t' i=t i:=by
 have ff:=qE h1 h7 h27 FB yl
 unfold Ak f130
 simp only[YQ,Eh,M6,Sa]
 refine⟨_,_,by simp only[X9,X6,X5,Ye,Yp,Nat.reduceSub,Nat.reduceAdd,go_sem,ff];exact rfl,?_,?_,?_,?_,λi hi=>?_⟩
 .
  (try simp only[go_sem,ff])
  exact⟨I1 _ (by rw[YR];omega),λ_=>by omega⟩
 . simp only[go_sem,ff]
 . simp only[go_sem,ff]
 . simp only[go_sem,ff]
 simp only[upd]
 repeat rw[XV (by omega)]
def ZaO(w:Str)(t:Nat->D)(h:H)(a u n2 nx:Nat)(fl:Bool)(e:Env)(h21:21<=w.length)(hw:w.length<=1000000000)
  (h1:t 1 = .list false (w.map bD))(h7:t 7 = .i u)(h27:t 27 = .v (.int .u64 a))(FB:t 28 = .list false (w.map bD))(yl:t 29 = .list fl ((w.take 5).map bD)) :
  (aY prog (words prog) Tp Ak.toList n2 4 ((Ak.toList.drop 4).take (11-4)) { n:=50,t:=t,h:=h,nx:=nx,ok:=True,e:=e }).ok:=by
 obtain⟨t',p,he,hp,_⟩:=Pg w t h a u n2 nx fl e h21 hw h1 h7 h27 FB yl
 rw[he]
 exact hp
def ZaN{ro:Option Nat}{ops:Array Oper}{k b:Nat}{Q:Exit->S->Prop}(w:Str)(t:Nat->D)(h:H)(a u n2 nx:Nat)(fl:Bool)(e:Env)(h21:21<=w.length)(hw:w.length<=1000000000)
  (h1:t 1 = .list false (w.map bD))(h7:t 7 = .i u)(h27:t 27 = .v (.int .u64 a))(FB:t 28 = .list false (w.map bD))(yl:t 29 = .list fl ((w.take 5).map bD))
  (hk : ∀t':Nat->D,t' 32 = .b (((a:Nat):Int) != ((iD (w.take 5):Nat):Int))->t' 33 = .cond (!(((a:Nat):Int) != ((iD (w.take 5):Nat):Int))) (.i u)->t' 36 = .cond (!(((a:Nat):Int) != ((iD (w.take 5):Nat):Int))) (.i ((w.length:Int)-21))->(∀i,i<28->t' i=t i) ->
   av prog ro ops k b { n:=50,t:=t',h:=h,nx:=nx,ok:=True,e:=e } Q) :
  av prog ro ops k b (aY prog (words prog) Tp Ak.toList n2 4 ((Ak.toList.drop 4).take (11-4)) { n:=50,t:=t,h:=h,nx:=nx,ok:=True,e:=e }) Q:=by
 obtain⟨t',p,he,hp,h2,h3,h4,h5⟩:=Pg w t h a u n2 nx fl e h21 hw h1 h7 h27 FB yl
 rw[he]
 exact QC (hk t' h2 h3 h4 h5)
def Uc(k:UInt8)(w:Str)(hw:w.length<=1000000000):PureCt prog 130 [.v (.int .u8 ((k).toNat:Int)),.list false (w.map bD)] (.tuple [.list false ((bN k.toNat w).2.map bD),.i (bN k.toNat w).1]):=by
 refine oO func130 λff=>?_
 unfold f130
 have hkt:=k.toNat_lt
 refine aa Tp ?_
 refine ae ?_
 by_cases h21:21<=w.length
 .
  have h0:0<w.length:=by omega
  have hdm:(w.map bD).drop 1=(w.drop 1).map bD:=List.map_drop.symm;have htm:(w.map bD).take 5=(w.take 5).map bD:=ZQ.symm;have hE1:((1:Int)).toNat=1:=rfl;have Fx:((5:Int)).toNat=5:=rfl;have hx1:(w.drop 1).length<=1000000000:=by rw[Yu];omega
  have ff:=qF (FD (n:=0) h0) @hdm @htm @hE1 @Fx ff;refine aa Tp ?_;refine cd ?_ ?_<;>intro c1
  .
   have Bw:bN k.toNat w=(0,[]):=Jm λm hm hf=>by have:=hf.1;omega
   refine aa Tp ?_;exact fo 1 (k:=by rw[Bw];rfl)
  have hkk:(w.getD 0 0).toNat=k.toNat:=by omega
  refine aj ?_;refine aa Tp ?_;refine bY ?_;refine iX 1 (C:=Tp) (hct:=by exact IY (w.drop 1) _ _ 15 ⟨_,ev⟩ hx1) (hp:=?_) (hk:=?_)
  .
   rintro c9 h9 n9 ⟨rfl,hbad,aQ⟩
   exfalso
   have hbad:(au ((4:Nat):Int) (w.drop 1,false)).2.2=true:=hbad;rw[Cg (by rw[Yu];omega)]at hbad
   cases hbad
  rintro res h4 n4 ⟨x4,uy,rfl,hb4,iK⟩
  try dsimp only at iK
  have hl4:=iK.1;obtain⟨f4,uB⟩:=hb4;have hu4:au 4 (w.drop 1,false)=(fP ((w.drop 1).take 4),((w.drop 1).drop 4,false)):=Cg (k:=4) (by rw[Yu];omega)
  rw[hu4]at uy;obtain rfl:(w.drop 1).drop 4=x4:=congrArg Prod.fst uy;rw[ZI]at uB;have C9:fP ((w.drop 1).take 4)<256^4:=by have:=AB 4 (w.drop 1,false);rw[show au ((4:Nat):Int) (w.drop 1,false)=_ from hu4]at this;exact this
  rw[hu4];obtain⟨u,hue⟩:∃u,u=fP ((w.drop 1).take 4):=⟨_,rfl⟩
  try rw[<-hue]
  rw[<-hue]at C9;have e1:=Mw (u:=u) (by omega)
  have ff:=qD uB e1 (nG 15 n4) ff;have hx5:(w.drop (1+4)).length<=1000000000:=by rw[Yu];omega
  refine aP Tp ?_
  try simp only[aH]
  refine ae ?_;refine ae ?_;refine dr1M Tp 1 4 11 [(3,28)] (R:=_) (X:=_) (hct:=by exact xV (w.drop (1+4)) _ _ 15 ⟨_,ev⟩ hx5) (hkeep:=?kp26) (zJ:=?fo26) (hk:=?kk26) (hp:=?pp26)
  case kp26 =>
   intro res h2 n2 _ p hp r9 hrr;simp only[Yn]at hp;subst hp;simp only[go_sem,ff,sd,named]at hrr;first|cases hrr|skip
  case fo26 =>
   rintro res h2 n2 ⟨_,_,rfl,_,_⟩;exact ZaO w _ h2 _ u n2 _ _ _ h21 hw rfl rfl rfl rfl rfl
  case pp26 =>
   rintro c9 h9 n9 ⟨rfl,hbad,aQ⟩ t9
   exfalso
   have hbad:(au ((8:Nat):Int) (w.drop (1+4),false)).2.2=true:=hbad;rw[Cg (by rw[Yu];omega)]at hbad
   cases hbad
  rintro res h5 n5 ⟨x5,o6,rfl,hb5,fM⟩
  try dsimp only at fM
  have hl5:=fM.1;obtain⟨f5,vJ⟩:=hb5;have hu8:au 8 (w.drop (1+4),false)=(fP ((w.drop (1+4)).take 8),((w.drop (1+4)).drop 8,false)):=Cg (k:=8) (by rw[Yu];omega)
  rw[hu8]at o6;obtain rfl:(w.drop (1+4)).drop 8=x5:=congrArg Prod.fst o6;rw[ZI]at vJ;rw[hu8];refine ZaN w _ h5 _ u n5 _ _ _ h21 hw rfl rfl rfl rfl rfl ?_;intro t9 h32 h33 h36 hlow;have l1:=(hlow 1 (by omega)).trans rfl
  have l6:t9 6 = .mptr 15 0 0:=(hlow 6 om).trans rfl;have l7:t9 7 = .i u:=(hlow 7 om).trans rfl;have l1:t9 1 = .list false (w.map bD):=(hlow 1 om).trans rfl;have ff:=qI vJ h32 h33 h36 l1 l6 l7 (nG 15 n5) ff;refine aP Tp ?_
  try simp only[aH]
  refine cd ?_ ?_ (hp:=rfl) (hq:=rfl)<;>intro c2
  .
   have Bw:bN k.toNat w=(0,[]):=Jm λm hm hf=>by have h1:=hf.2.1;have h2:=hf.2.2.1;simp at c2;omega
   refine aa Tp ?_;exact fo 1 (k:=by rw[Bw];rfl)
  have c2b:fP ((w.drop 5).take 8)=iD (w.take 5)/\u+21<=w.length:=by simp at c2;omega
  refine aj ?_;refine bY ?_;refine iX 2 (C:=Tp) (hct:=by exact IW (w.drop (1+4+8)) u _ _ 15 ⟨_,ev⟩ (by rw[Yu];omega) (by omega)) (hp:=?_) (hk:=?_)
  .
   rintro c9 h9 n9 ⟨rfl,hbad,aQ⟩
   exfalso
   rw[take_ok rfl (by show u<=(w.drop (1+4+8)).length;rw[Yu];omega)]at hbad
   cases hbad
  rintro res h7 n7 ⟨x7,EZ,⟨f7,rfl⟩,vH,jM⟩
  try dsimp only at jM
  have hl7:=jM.1;obtain⟨g7,uA⟩:=vH;have hu7:bS u (w.drop (1+4+8),false)=((w.drop (1+4+8)).take u,((w.drop (1+4+8)).drop u,false)):=take_ok rfl (by show u<=(w.drop (1+4+8)).length;rw[Yu];omega)
  rw[hu7]at EZ;obtain rfl:(w.drop (1+4+8)).drop u=x7:=congrArg Prod.fst EZ;rw[ZI]at uA;rw[hu7];have ff:=qB uA (nG 15 n7) ff;refine aP Tp ?_
  try simp only[aH]
  refine ae ?_;refine bY ?_;refine iX 1 (C:=Tp) (hct:=by exact xV (w.drop (1+4+8+u)) _ _ 15 ⟨_,ev⟩ (by rw[Yu];omega)) (hp:=?_) (hk:=?_)
  .
   rintro c9 h9 n9 ⟨rfl,hbad,aQ⟩
   exfalso
   have hbad:(au ((8:Nat):Int) (w.drop (1+4+8+u),false)).2.2=true:=hbad;rw[Cg (by rw[Yu];omega)]at hbad
   cases hbad
  rintro res h8 n8 ⟨x8,lS,rfl,wS,il⟩;have hu9:au 8 (w.drop (1+4+8+u),false)=(fP ((w.drop (1+4+8+u)).take 8),((w.drop (1+4+8+u)).drop 8,false)):=Cg (k:=8) (by rw[Yu];omega)
  rw[hu9];refine aP Tp ?_ (hok:=by(try simp only[go_sem,ff]);all_goals (exact I1 _ (by rw[YR,Yu];omega)))
  try simp only[aH]
  refine cd ?_ ?_<;>intro c3
  .
   have Bw:bN k.toNat w=(0,[]):=Jm λm hm hf=>by have h1:=hf.2.1;have h2:=hf.2.2.2;rw[show m=u by omega]at h2;omega
   refine aa Tp ?_;exact fo 1 (k:=by rw[Bw];rfl)
  have hF:bN k.toNat w=(21+u,(w.drop 13).take u):=Jo.2 ⟨om,⟨hkk,om,c2b.1,om⟩,rfl⟩;refine aj ?_;refine aa Tp ?_;exact fo 1 (k:=by rw[hF];rfl)
 refine aa Tp ?_
 refine cd ?_ ?_ (hp:=rfl) (hq:=rfl)<;>intro c1
 .
  have Bw:bN k.toNat w=(0,[]):=Jm λm hm _=>by omega
  refine aa Tp ?_;exact fo 1 (k:=by rw[Bw];rfl)
 exfalso;simp at c1;omega
def Zgm(w:Str)(hw:w.length<=1000000000):PureCt prog 130 [.v (.int .u8 1),.list false (w.map bD)] (.tuple [.list false ((bN 1 w).2.map bD),.i (bN 1 w).1]):=Uc 1 w hw
def Zgl(w:Str)(hw:w.length<=1000000000):PureCt prog 130 [.v (.int .u8 2),.list false (w.map bD)] (.tuple [.list false ((bN 2 w).2.map bD),.i (bN 2 w).1]):=Uc 2 w hw
def Zgv(c:dH)(w:Str)(hw:w.length<=1000000):PureCt prog 80 [.agg c.d,.list false (w.map bD)] (.tuple [.agg (fV c w).1.d,.i (fV c w).2]):=by
 refine oO func80 λff=>?_
 unfold f80
 have hv1:=UW 1 w
 have hv2:=UW 2 w
 have ff:=qE (show(UInt8.ofNat 1).toNat=1 from rfl) (show(UInt8.ofNat 2).toNat=2 from rfl) (show dE.apex=[]from rfl) (show dE.sets=[]from rfl) ff
 rcases c with _|z0
 .
  refine aa Tp ?_;refine ae ?_;refine aa Tp ?_;refine cd ?_ ?_ (hq:=rfl)<;>intro c1
  .
   refine aa Tp ?_ (hok:=oF (Zgm w om));refine ae (bI Tp 1 (hct:=by exact(Zgp (bN 1 w).2 om).rct _ _) (hk:=?_))
   rintro res h2 n2 ⟨rfl,rfl,hn2⟩;refine bH Tp ?_;refine oK Tp ?_ ?_ (hok:=oI Uj xw)<;>intro c2
   .
    have hno:=Ze7 (w:=w) (by grind)
    refine aa Tp ?_;exact fo 2 (k:=o5b)
   have ES:=Ze6 (w:=w) (by grind) (by grind) (by grind)
   refine aa Tp ?_;exact fo 2 (k:=by rw[ES];first|rfl|(simp;done))
  simp at c1
 refine aa Tp ?_
 refine oK Tp ?_ ?_ (hp:=rfl)<;>intro c1
 . simp at c1
 refine aa Tp ?_ (hok:=oF (Zgl w om))
 refine oK Tp ?_ ?_<;>intro c3
 .
  have hno:=Zfb (z:=z0) (w:=w) (by grind)
  refine aa Tp ?_;exact fo 2 (k:=o5b)
 refine ae (bI Tp 1 (hct:=by exact(Zgr (bN 2 w).2 om).rct _ _) (hk:=?_))
 rintro res h2 n2 ⟨rfl,rfl,hn2⟩
 refine bH Tp ?_
 refine oK Tp ?_ ?_ (hok:=oF (Uj _))<;>intro c4
 . have hno:=Ze9 (z:=z0) (w:=w) c4;refine aa Tp ?_;exact fo 2 (k:=o5b)
 have hpf:=Zeb (w:=(bN 2 w).2) (by omega) c4
 refine aa Tp ?_ (hok:=oF (NM z0 (rE (bN 2 w).2) hpf))
 refine oK Tp ?_ ?_<;>intro c5
 . have hno:=Zfa (z:=z0) c4 c5;refine aa Tp ?_;exact fo 2 (k:=o5b)
 have ES:=Ze8 (z:=z0) (by omega) c4 c5
 refine aa Tp ?_
 exact fo 2 (k:=by rw[ES];first|rfl|(simp;done))
def IZ{c c':dH}{w:Str}{n:Nat}(hw:w.length<=1000000)(h:fV c w=(c',n)):PureCt prog 80 [.agg c.d,.list false (w.map bD)] (.tuple [.agg c'.d,.i n]):=by
 have:=Zgv c w hw
 rwa [h]at this
def Zgk(w:Str)(hw:w.length<=1000000):PureCt prog 79 [.list false (w.map bD)] (.tuple [.agg (gF w).d,.i (gX (jc w))]):=by
 refine oO func79 λff=>?_
 unfold f79
 have z1:(none:dH).isSome=false:=rfl
 have z2:((none:dH).getD dE).apex=[]:=rfl
 have z3:((none:dH).getD dE).sets=[]:=rfl
 have ff:=qF @z1 @z2 @z3 (show dE.apex=[]from rfl) (show dE.sets=[]from rfl) ff
 refine oD Tp ?_
 refine ah ?_
 refine lp (α:=(Nat)×(dH)×(Bool)×Nat) [0,2,4] (λ⟨a,c,f,nx⟩=>(Gq w a c)/\(2<nx)/\True) (λ⟨a,c,f,nx⟩=>w.length-a) (λ⟨a,c,f,nx⟩=>[(5,.i a)]) (λ⟨a,c,f,nx⟩=>[(0,⟨95,[[.v (.bool false),.v (.string (bs [])),.list true []]]⟩),(2,⟨95,[[.v (.bool (c).isSome),.v (.string (bs ((c).getD dE).apex)),.list f (((c).getD dE).sets.map Sgd.d)]]⟩)]) (λ⟨a,c,f,nx⟩=>nx) (0,none,true,_) (hA:=⟨(VL w),oW,trivial⟩) (round:=?_)
 rintro⟨a,c,f,nx⟩ ⟨hd,hx, -⟩
 simp only[XY,XZ]
 have ha:=hd.1
 have n0:0<nx:=by omega
 have hdm:(w.map bD).drop a=(w.drop a).map bD:=List.map_drop.symm
 have ff:=qD @hdm @hx @n0 ff
 refine ah ?_
 rcases SC c (w.drop a)with⟨h8,h9⟩|⟨y,n,h8,h9,h10,h11⟩
 .
  have ff:=qA @h9 ff;refine aa lZ ?_ (hok:=oH (IZ (by rw[Yu];omega) h9))
  refine ae ?_;refine aa Tp ?_;refine cd ?_ ?_ (hp:=rfl) (hq:=rfl)<;>intro c1
  . refine aa Tp ?_;exact fo 2 (k:=by obtain⟨q1,q2⟩:=Ziy hd h8;rw[q1,q2])
  simp at c1
 have h12:a+n<=w.length:=by rw[Yu]at h11;omega
 have ff:=qA @h9 ff
 refine aa lZ ?_ (hok:=oH (IZ (by rw[Yu];omega) h9))
 refine oK Tp ?_ ?_ (hp:=rfl) (hq:=rfl)<;>intro c1
 . exfalso;simp at c1;omega
 refine ai Tp ?_
 show ∃_,_
 have e9:((a+n:Nat):Int)=(a:Int)+(n:Int):=by omega
 have ff:=qA e9 ff
 exact ay (a+n,some y,false,_) (h1:=⟨(VK hd h8),oW,trivial⟩) (h2:=by show(_:Nat)<_;(try dsimp only);omega)
def Uf(d:dn)(hd:mU d):PureCt prog 36 [.agg d.d] (.tuple [.agg (u6 d).d,.b (fJ d).isSome]):=by
 refine oO func36 λff=>?_
 unfold f36
 refine aa Tp ?_
 refine oK Tp ?_ ?_<;>intro c1
 .
  have hno:=ZeB (d:=d) (by omega)
  refine aa Tp ?_;exact fo 2 (k:=o4s)
 have hs1:d.safe.length<=1000000:=by omega
 have hp1:d.pend.length<=200:=by omega
 have hsm:gX (jc d.safe)<=d.safe.length:=M9 _ none d.safe (XW _)
 have htm:(d.safe.map bD).take (gX (jc d.safe))=(eH d.safe).map bD:=ZQ.symm
 have hpl:=Cx d.safe
 have ff:=qA @htm ff
 refine aa Tp ?_ (hok:=oF (Zgk d.safe hs1))
 refine aa Tp ?_
 refine ae ?_
 refine aa Tp ?_
 refine ah ?_
 refine lp (α:=(Nat)×(dH)×(Int)×Nat) [2,6,37,38] (λ⟨k,c,s,nx⟩=>(k<=d.pend.length)/\(AA (gF d.safe) d.pend k=some c)/\(s=(((eH d.safe).length:Nat):Int)+(((cu (d.pend.take k)).length:Nat):Int))/\(30<nx)/\True) (λ⟨k,c,s,nx⟩=>d.pend.length-k) (λ⟨k,c,s,nx⟩=>[(39,.i k)]) (λ⟨k,c,s,nx⟩=>[(0,⟨34,[d.d]⟩),(1,⟨97,[[.list true [],.i 0,.v (.bool false),.v (.string (bs [])),.list true [],.v (.bool false),.v (.string (bs [])),.list true []]]⟩),(30,⟨97,[[.list false ((eH d.safe).map bD),.i s,.v (.bool (gF d.safe).isSome),.v (.string (bs ((gF d.safe).getD dE).apex)),.list false (((gF d.safe).getD dE).sets.map Sgd.d),.v (.bool (c).isSome),.v (.string (bs ((c).getD dE).apex)),.list false (((c).getD dE).sets.map Sgd.d)]]⟩)]) (λ⟨k,c,s,nx⟩=>nx) (0,gF d.safe,(gX (jc d.safe):Int),_) (hA:=⟨iv,rfl,(by first|(rw[Cx];simp[cu])|(dsimp only;rw[Cx];simp[cu])),iv,trivial⟩) (round:=?_)
 rintro⟨k,c,s,nx⟩ ⟨hk,hK,hs,hx, -⟩
 simp only[XY,XZ]
 have n0:0<nx:=by omega
 have n1:1<nx:=by omega
 have ff:=qD @hx @n0 @n1 ff
 refine aa Tp ?_
 refine ae ?_
 refine cd ?_ ?_ (hp:=rfl)<;>intro c2
 .
  have hk2:k<d.pend.length:=by simpa using c2
  have hpk:=hd.at hk2;have hcs:=WP hk2;have hc1:=N7 hd (k+1) hp1;have ff:=qA (M0 hk2) ff;refine aj ?_;refine ae ?_;refine ah ?_;refine aa Tp ?_
  rcases SC c (d.pend[k]!)with⟨h8,h9⟩|⟨y,n,h8,h9,h10,h11⟩
  .
   have ff:=qA @h9 ff;refine aa Tp ?_ (hok:=oF (IZ hpk h9));refine ae ?_;refine aa Tp ?_;refine cd ?_ ?_ (hp:=rfl) (hq:=rfl)<;>intro c3
   .
    have hst:=Lt hK hk2;rw[h9,XV (by simp)]at hst
    have hno:=Sb (RO hst);refine aa Tp ?_;exact fo 2 (k:=o4s)
   simp at c3
  have ff:=qA @h9 ff;refine aa Tp ?_ (hok:=oF (IZ hpk h9));refine oK Tp ?_ ?_<;>intro c3
  .
   have hst:=Lt hK hk2;rw[h9,if_neg o5r]at hst
   have hno:=Sb (RO hst);refine aa Tp ?_;exact fo 2 (k:=o4s)
  have hn2:n=d.pend[k]!.length:=by omega
  have hst:=Lt hK hk2;rw[h9,if_pos o5r]at hst
  refine aa Tp ?_;refine ai Tp ?_;refine ai Tp ?_
  show ∃_,_
  exact ay (k+1,some y,s+n,_) (h1:=⟨iv,hst,(by first|(rw[hs,hcs];omega)|(dsimp only;rw[hs,hcs];omega)),iv,trivial⟩)
 have e8:k=d.pend.length:=by omega
 subst e8
 have ES:=ZeA hs1 hp1 (Zel▸hK)
 refine aK ?_
 refine aa Tp ?_
 exact fo 2 (k:=by rw[u6,ES,hs,Yt];first|rfl|(simp;done))
def Qg{g:RSig}(h:Kg g):(iI g).length<=300:=by
 have:=h.zone
 simp[iI,bO,iW]
 omega
def Qr{s:Sgd}(h:yJ s):(eZ s).length<=80000:=by
 have h1:=El h.set
 have h2:=wW (f:=iI) (n:=300) (l:=s.sigs) λg hg=>Qg (h.sig g hg)
 have h3:=h.len
 simp[eZ,fD]at h2 ⊢
 omega
def drop4{a b c d:Int}{j:Nat}(h:j<4):([a,b,c,d].drop j).flatMap cB=cB ([a,b,c,d][j]!)++([a,b,c,d].drop (j+1)).flatMap cB:=FV (by simpa using h) cB
def OJ(T:TypeId)(l:Str)(s:Sgd)(h:H)(n W:Nat)(hB:bB T h W n l 0)(hs:yJ s)(hl:l.length<=700000000000):bT prog 73 [.mptr W 0 0,.agg s.d] h n (λd h' n'=>bK h h' W n n'/\bB T h' W n' (l++eZ s) 0):=by
 refine oP func73 λhnone ff=>?_
 unfold f73
 have Bu:=hB.1
 have hb1:xn s.set=(gY s.set,0):=by unfold xn;rw[(iJ s.set).2 hs.set];rfl
 have hsl:=El hs.set
 have hsg:=hs.len
 have e1:=yP (n:=(gY s.set).length) (by omega)
 have e2:=yP (n:=s.sigs.length) (by omega)
 have ff:=qE @hb1 @e1 @e2 (nG W n) ff
 refine aa Tp ?_
 refine qJ 3 n ev ev o5i ?_
 simp only[yN]
 refine aa Tp ?_ (hok:=oV (ZdM s.set))
 refine ae (bI Tp 4 (hct:=by exact DI T l (gY s.set).length 2 _ _ W (hB.fresh (show n<=n from XW _) oW) om om om) (hk:=?_))
 rintro res h2 n2 ⟨aT,hG2⟩
 try dsimp only at aT
 replace aT:=(bK.fresh (x:=none) Bu (XW n) (XW n)).trans (aT.down oW)
 refine bH Tp ?_
 refine ae (bI Tp 4 (hct:=by exact DX T _ (gY s.set) _ _ W (hG2.mono oW) (by rw[X0,fD];omega)) (hk:=?_))
 rintro res h3 n3 ⟨rfl,eQ,hG3⟩
 try dsimp only at eQ
 replace eQ:=aT.trans (eQ.down oW)
 refine bH Tp ?_
 refine ae (bI Tp 5 (hct:=by exact DI T _ s.sigs.length 1 _ _ W (hG3.mono oW) (by omega) (by omega) (by rw[X0,X0,fD];omega)) (hk:=?_))
 rintro res h4 n4 ⟨iK,hG4⟩
 try dsimp only at iK
 replace iK:=eQ.trans (iK.down oW)
 refine bH Tp ?_
 refine aa Tp ?_
 refine ah ?_
 refine jk (α:=(Nat)×(Str)×(H)×Nat) [0,33,34] (λ⟨k,o,hq,nx⟩=>(k<=s.sigs.length)/\(o++(s.sigs.drop k).flatMap iI=l++eZ s)/\(o.length<=l.length+1100+k*300)/\(bB T hq W nx o 0)/\(bK h hq W n nx)/\True) (λ⟨k,o,hq,nx⟩=>s.sigs.length-k) (λ⟨k,o,hq,nx⟩=>[(35,.i k)]) (λ⟨k,o,hq,nx⟩=>hq) (λ⟨k,o,hq,nx⟩=>nx) (0,l++dX (gY s.set).length 2++gY s.set++dX s.sigs.length 1,h4,_) (hA:=⟨iv,(by first|(rw[J8];simp[eZ])|(dsimp only;rw[J8];simp[eZ])),(by first|(simp[fD];omega)|(dsimp only;simp[fD];omega)),(by first|(exact hG4.mono (by omega))|(dsimp only;exact hG4.mono (by omega))),(by first|(exact iK.up (by omega))|(dsimp only;exact iK.up (by omega))),trivial⟩) (round:=?_)
 rintro⟨k,o,hq,nx⟩ ⟨hk,ho,hol,hG,hst, -⟩
 simp only[XY,XZ]
 refine aa Tp ?_
 refine ae ?_
 refine cd ?_ ?_<;>intro c1
 .
  have hk2:k<s.sigs.length:=by omega
  have hgz:=hs.sig _ (by rw[getElem!_pos s.sigs k hk2];exact YH hk2:s.sigs[k]! ∈ s.sigs)
  have hgl:=hgz.zone;have hgs:=hgz.sum;have e3:=uN_of hgs;have e4:=Qg hgz;have ff:=qA (vL hk2) ff;refine aj ?_;refine ae ?_;refine ah ?_;refine aa Tp ?_;refine qJ 7 (nx+3) ev ev o5i ?_
  simp only[yN];refine ae (bI Tp 3 (hct:=by exact Gu T o s.sigs[k]!.zone _ _ W (hG.fresh (show nx<=nx+3 by omega) oW) om om) (hk:=?_))
  rintro res h5 n5 ⟨fM,o8⟩
  try dsimp only at fM
  replace fM:=(bK.fresh (x:=none) hG.1 (show nx<=nx+3 by omega) (XW nx)).trans (fM.down oW)
  refine bH Tp ?_;refine ae ?_;refine aa Tp ?_;refine ah ?_;refine jk (α:=(Nat)×(Str)×(H)×Nat) [0,7,33,34,35,51,52] (λ⟨j,o2,hq2,nx⟩=>(j<=4)/\(o2++([s.sigs[k]!.key,s.sigs[k]!.alg,s.sigs[k]!.frm,s.sigs[k]!.unt].drop j).flatMap cB=o++bO s.sigs[k]!.zone++[s.sigs[k]!.key,s.sigs[k]!.alg,s.sigs[k]!.frm,s.sigs[k]!.unt].flatMap cB)/\(o2.length=(o++bO s.sigs[k]!.zone).length+8*j)/\(bB T hq2 W nx o2 0)/\(bK h5 hq2 W n5 nx)/\True) (λ⟨j,o2,hq2,nx⟩=>4-j) (λ⟨j,o2,hq2,nx⟩=>[(53,.i j)]) (λ⟨j,o2,hq2,nx⟩=>hq2) (λ⟨j,o2,hq2,nx⟩=>nx) (0,o++bO s.sigs[k]!.zone,h5,_) (hA:=⟨iv,rfl,rfl,(o8.mono oW),(bK.refl oW),trivial⟩) (round:=?_)
  rintro⟨j,o2,hq2,nx⟩ ⟨hj,ho2,E5,yj,jM, -⟩;simp only[XY,XZ];have htl:(o++bO s.sigs[k]!.zone).length<=o.length+300:=by rw[X0,qX];omega
  refine aa Tp ?_;refine ae ?_;refine cd ?_ ?_<;>intro c2
  .
   have hj2:j<4:=by omega
   have e6:=ZeM (a:=s.sigs[k]!.key) (b:=s.sigs[k]!.alg) (c:=s.sigs[k]!.frm) (d:=s.sigs[k]!.unt) hj2;have e7:=GG ([s.sigs[k]!.key,s.sigs[k]!.alg,s.sigs[k]!.frm,s.sigs[k]!.unt][j]!);have e8:=drop4 (a:=s.sigs[k]!.key) (b:=s.sigs[k]!.alg) (c:=s.sigs[k]!.frm) (d:=s.sigs[k]!.unt) hj2;have ff:=qB @e6 @e7 ff;refine aj ?_;refine ae ?_;refine ah ?_;refine aa Tp ?_;refine bI Tp 3 (hct:=by exact Cb T o2 (uN ([s.sigs[k]!.key,s.sigs[k]!.alg,s.sigs[k]!.frm,s.sigs[k]!.unt][j]!)) _ _ W (yj.mono oW) (yO _) om) (hk:=?_)
   rintro res h8 n8 ⟨il,Fv⟩
   try dsimp only at il
   refine bH Tp ?_;refine ai Tp ?_
   show ∃_,_
   exact ay (j+1,o2++cB ([s.sigs[k]!.key,s.sigs[k]!.alg,s.sigs[k]!.frm,s.sigs[k]!.unt][j]!),h8,_) (h1:=⟨iv,(by(try dsimp only);rw[<-ho2,e8,List.append_assoc]),(by(try dsimp only);rw[List.length_append,iW,E5];omega),o2v,(by(try dsimp only);exact(jM.trans (il.down oW)).up (by omega)),trivial⟩)
  obtain rfl:j=4:=by omega
  have ho3:o2=o++bO s.sigs[k]!.zone++[s.sigs[k]!.key,s.sigs[k]!.alg,s.sigs[k]!.frm,s.sigs[k]!.unt].flatMap cB:=by simpa using ho2
  refine aK ?_;refine bI Tp 3 (hct:=by exact(by have q9:=λH9 n9(Fz:bB T H9 W n9 o2 0)=>Cb T o2 (uN s.sigs[k]!.sum) H9 n9 W Fz (yO _) (by omega);simp only[e3]at q9;exact q9 _ _ (yj.mono oW))) (hk:=?_)
  rintro res h9 n9 ⟨aQ,hG9⟩
  try dsimp only at aQ
  refine bH Tp ?_;refine ai Tp ?_
  show ∃_,_
  exact ay (k+1,o2++cB s.sigs[k]!.sum,h9,_) (h1:=⟨iv,(by(try dsimp only);rw[<-ho,FV hk2 iI,ho3];simp[iI]),(by(try dsimp only);rw[ho3];simp[iI]at e4 ⊢;omega),(by first|(exact hG9.mono (by omega))|(dsimp only;exact hG9.mono (by omega))),(by(try dsimp only);exact((hst.trans fM).trans (jM.trans (aQ.down oW))).up (by omega)),trivial⟩)
 have hk3:k=s.sigs.length:=by omega
 subst hk3
 refine aK ?_
 exact bZ (_) (hh:=λ_=>.inl rfl) (hr:=oS (k:=by rw[ZJ,List.flatMap_nil,Yx]at ho;rw[<-ho];exact⟨hst.up (by omega),hG.mono (by omega)⟩))
def bB.new{T:TypeId}{h:H}{W nx:Nat}(hW:h W=some ⟨T,[[.list true [],.i 0,.v (.int .i8 0)]]⟩)(hn:W<nx):bB T h W nx [] 0:=⟨hn,.inl ⟨rfl,0,hW⟩⟩
theorem G8{h:H}(l:Str):eB (l.map ((λrow=>row.map (snap h 0))∘bD))=l.map bD:=by
 induction l with
 | nil=>rfl
 | cons a l ih =>
  rw[X8,X8]
  show _::eB _=_
  rw[ih];rfl
def G9{h:H}(l:Str):∀a∈l,∀c∈bD a,dL h 0 c:=by
 intro a _ c hc
 unfold bD at hc
 simp only[Yn]at hc
 subst hc
 rfl
def XJ(z:Zon):0<(dY z).length:=by simp[dY,bO]
def ZiH(d:aG):0<(dC d).length:=by simp[dC,bO]
def FC{res:D}{l:Str}{h:H}{W:Nat}(hd:(l=[]/\res = .list true [])\/(l≠[] /\ ∃r,res = .mrow r 0 l.length/\h r=some ⟨5,l.map bD⟩/\kz h W=some r))(hl:0<l.length):∃r,res = .mrow r 0 l.length/\h r=some ⟨5,l.map bD⟩/\kz h W=some r:=by
 rcases hd with⟨e,_⟩|⟨_,q⟩
 . subst e;simp at hl
 exact q
def ZdU{q:ak}(h:Gn q):(kC q).length<=300:=by
 have:=h.name
 simp[kC,bO]
 omega
def Zgg(z:Zon)(hz:Gj z)(hz2:z.sets.length<=20000):PureCt prog 25 [.agg z.d] (.list false ((dY z).map bD)):=by
 refine oO func25 λff=>?_
 unfold f25
 have hza:=hz.apex
 refine aa Tp ?_
 refine qJ 1 0 ev ev o5i ?_
 refine aa Tp ?_
 refine ae (bI Tp 2 (hct:=by exact Gu 134 [] z.apex _ _ 2 (bB.new o4o oW) om (by simp)) (hk:=?_))
 rintro res h2 n2 ⟨_,hG2⟩
 refine bH Tp ?_
 refine ae (bI Tp 3 (hct:=by exact Gy 134 _ z.sets.length _ _ 2 (hG2.mono oW) om o4w) (hk:=?_))
 rintro res h3 n3 ⟨_,hG3⟩
 refine bH Tp ?_
 refine ae ?_
 refine aa Tp ?_
 refine ah ?_
 refine jk (α:=(Nat)×(Str)×(H)×Nat) [3,14,15] (λ⟨k,o,hq,nx⟩=>(k<=z.sets.length)/\(o++(z.sets.drop k).flatMap eZ=dY z)/\(o.length<=1000+k*80000)/\(bB 134 hq 2 nx o 0)/\True) (λ⟨k,o,hq,nx⟩=>z.sets.length-k) (λ⟨k,o,hq,nx⟩=>[(16,.i k)]) (λ⟨k,o,hq,nx⟩=>hq) (λ⟨k,o,hq,nx⟩=>nx) (0,[]++bO z.apex++dX z.sets.length 4,h3,_) (hA:=⟨iv,(by first|(simp[dY,jf])|(dsimp only;simp[dY,jf])),o2o,(hG3.mono oW),trivial⟩) (round:=?_)
 rintro⟨k,o,hq,nx⟩ ⟨hk,ho,hol,hG, -⟩
 simp only[XY,XZ]
 refine aa Tp ?_
 refine ae ?_
 refine cd ?_ ?_<;>intro c1
 .
  have hk2:k<z.sets.length:=by omega
  have hgz:=hz.sets _ (by rw[getElem!_pos z.sets k hk2];exact YH hk2:z.sets[k]! ∈ z.sets)
  have hgl:=Qr hgz;have ff:=qA (dB hk2) ff;refine aj ?_;refine ae ?_;refine ah ?_;refine aa Tp ?_;refine qJ 5 (nx+3) ev ev o5i ?_
  simp only[yN];refine bI Tp 1 (hct:=by exact OJ 134 o z.sets[k]! _ _ 2 (hG.fresh (show nx<=nx+3 by omega) oW) hgz om) (hk:=?_)
  rintro res h5 n5 ⟨fM,o8⟩
  try dsimp only at fM
  replace fM:=(bK.fresh (x:=none) hG.1 (show nx<=nx+3 by omega) (XW nx)).trans (fM.down oW)
  refine bH Tp ?_;refine ai Tp ?_
  show ∃_,_
  exact ay (k+1,o++eZ z.sets[k]!,h5,_) (h1:=⟨iv,(by(try dsimp only);rw[<-ho,FV hk2 eZ,List.append_assoc]),(by(try dsimp only);rw[List.length_append];omega),o2w,trivial⟩)
 have hk3:k=z.sets.length:=by omega
 subst hk3
 have zG:o=dY z:=by rw[ZJ,List.flatMap_nil,Yx]at ho;exact ho
 refine aK ?_
 refine ae (bI Tp 1 (hct:=by exact DK 134 (dY z) _ _ 2 ((show bB 134 hq 2 nx (dY z) 0 by rw[<-zG];exact hG).mono oW) (by rw[<-zG];omega)) (hk:=?_))
 rintro res h9 n9 ⟨hd,_,_⟩
 obtain⟨r,rfl,hr,_⟩:=FC hd (by exact XJ z)
 have ff:=qA @hr ff
 refine bH Tp ?_
 exact fo 1 (k:=o4h)
def Zgz(d:aG)(hz:BU d)(hz2:d.put.length<=20000)(hz3:d.drop.length<=20000):PureCt prog 39 [.agg d.d] (.list false ((dC d).map bD)):=by
 refine oO func39 λff=>?_
 unfold f39
 have hza:=hz.apex
 have e1:=GG d.frm
 have e2:=GG d.too
 have ff:=qB @e1 @e2 ff
 refine aa Tp ?_
 refine qJ 1 0 ev ev o5i ?_
 refine aa Tp ?_
 refine ae (bI Tp 2 (hct:=by exact Gu 134 [] d.apex _ _ 2 (bB.new o4o oW) om (by simp)) (hk:=?_))
 rintro res h2 n2 ⟨_,hG2⟩
 refine bH Tp ?_
 refine ae (bI Tp 3 (hct:=by exact Cb 134 _ (uN d.frm) _ _ 2 (hG2.mono oW) (yO _) o4w) (hk:=?_))
 rintro res h3 n3 ⟨_,hG3⟩
 refine bH Tp ?_
 refine ae (bI Tp 3 (hct:=by exact Cb 134 _ (uN d.too) _ _ 2 (hG3.mono oW) (yO _) o4w) (hk:=?_))
 rintro res h4 n4 ⟨_,hG4⟩
 refine bH Tp ?_
 refine ae (bI Tp 3 (hct:=by exact Gy 134 _ d.drop.length _ _ 2 (hG4.mono oW) om o4w) (hk:=?_))
 rintro res h5 n5 ⟨_,o8⟩
 refine bH Tp ?_
 refine ae ?_
 refine aa Tp ?_
 refine ah ?_
 refine jk (α:=(Nat)×(Str)×(H)×Nat) [1,3,24,25] (λ⟨k,o,hq,nx⟩=>(k<=d.drop.length)/\(o++(d.drop.drop k).flatMap kC++jf d.put=dC d)/\(o.length<=1000+k*300)/\(bB 134 hq 2 nx o 0)/\True) (λ⟨k,o,hq,nx⟩=>d.drop.length-k) (λ⟨k,o,hq,nx⟩=>[(26,.i k)]) (λ⟨k,o,hq,nx⟩=>hq) (λ⟨k,o,hq,nx⟩=>nx) (0,[]++bO d.apex++dX (uN d.frm) 8++dX (uN d.too) 8++dX d.drop.length 4,h5,_) (hA:=⟨iv,(by(try dsimp only);rw[Xg,Xg];simp[dC]),o2o,o2w,trivial⟩) (round:=?_)
 rintro⟨k,o,hq,nx⟩ ⟨hk,ho,hol,hG, -⟩
 simp only[XY,XZ]
 refine aa Tp ?_
 refine ae ?_
 refine cd ?_ ?_<;>intro c1
 .
  have hk2:k<d.drop.length:=by omega
  have hgz:=hz.dropq _ (by rw[getElem!_pos d.drop k hk2];exact YH hk2:d.drop[k]! ∈ d.drop)
  have hgn:=hgz.name;have hgl:=ZdU hgz;have e3:=GG d.drop[k]!.ty;have ff:=qB (Ji hk2) @e3 ff;refine aj ?_;refine ae ?_;refine ah ?_;refine aa Tp ?_;refine qJ 5 (nx+3) ev ev o5i ?_
  simp only[yN];refine ae (bI Tp 2 (hct:=by exact Gu 134 o d.drop[k]!.name _ _ 2 (hG.fresh (show nx<=nx+3 by omega) oW) om om) (hk:=?_))
  rintro res h6 n6 ⟨_,zI⟩;refine bH Tp ?_;refine bI Tp 3 (hct:=by exact DI 134 _ (uN d.drop[k]!.ty) 1 _ _ 2 (zI.mono oW) (yO _) (by omega) (by rw[X0,qX];omega)) (hk:=?_)
  rintro res h7 n7 ⟨_,yj⟩;refine bH Tp ?_;refine ai Tp ?_
  show ∃_,_
  exact ay (k+1,o++bO d.drop[k]!.name++dX (uN d.drop[k]!.ty) 1,h7,_) (h1:=⟨iv,(by(try dsimp only);rw[<-ho,FV hk2 kC];simp[kC,dX]),(by(try dsimp only);simp[kC,fD,bO]at hgl ⊢;omega),(by first|(exact yj.mono (by omega))|(dsimp only;exact yj.mono (by omega))),trivial⟩)
 have hk3:k=d.drop.length:=by omega
 subst hk3
 refine aK ?_
 refine ae (bI Tp 3 (hct:=by exact Gy 134 o d.put.length _ _ 2 (hG.mono oW) om om) (hk:=?_))
 rintro res h8 n8 ⟨_,Fv⟩
 refine bH Tp ?_
 refine ae ?_
 refine aa Tp ?_
 refine ah ?_
 refine jk (α:=(Nat)×(Str)×(H)×Nat) [3,43,44] (λ⟨k,o,hq,nx⟩=>(k<=d.put.length)/\(o++(d.put.drop k).flatMap eZ=dC d)/\(o.length<=10000000+k*80000)/\(bB 134 hq 2 nx o 0)/\True) (λ⟨k,o,hq,nx⟩=>d.put.length-k) (λ⟨k,o,hq,nx⟩=>[(45,.i k)]) (λ⟨k,o,hq,nx⟩=>hq) (λ⟨k,o,hq,nx⟩=>nx) (0,o++dX d.put.length 4,h8,_) (hA:=⟨iv,(by(try dsimp only);rw[List.drop_length,List.flatMap_nil,List.append_nil]at ho;rw[<-ho];simp[jf]),(by(try dsimp only);rw[List.length_append,fD];omega),o2v,trivial⟩) (round:=?_)
 rintro⟨k,o,hq,nx⟩ ⟨hk,ho,hol,hG, -⟩
 simp only[XY,XZ]
 refine aa Tp ?_
 refine ae ?_
 refine cd ?_ ?_<;>intro c2
 .
  have hk2:k<d.put.length:=by omega
  have hgz:=hz.puts _ (by rw[getElem!_pos d.put k hk2];exact YH hk2:d.put[k]! ∈ d.put)
  have hgl:=Qr hgz;have ff:=qA (dB hk2) ff;refine aj ?_;refine ae ?_;refine ah ?_;refine aa Tp ?_;refine qJ 7 (nx+3) ev ev o5i ?_
  simp only[yN];refine bI Tp 1 (hct:=by exact OJ 134 o d.put[k]! _ _ 2 (hG.fresh (show nx<=nx+3 by omega) oW) hgz om) (hk:=?_)
  rintro res h5 n5 ⟨fM,o8⟩
  try dsimp only at fM
  replace fM:=(bK.fresh (x:=none) hG.1 (show nx<=nx+3 by omega) (XW nx)).trans (fM.down oW)
  refine bH Tp ?_;refine ai Tp ?_
  show ∃_,_
  exact ay (k+1,o++eZ d.put[k]!,h5,_) (h1:=⟨iv,(by(try dsimp only);rw[<-ho,FV hk2 eZ,List.append_assoc]),(by(try dsimp only);rw[List.length_append];omega),o2w,trivial⟩)
 have hk3:k=d.put.length:=by omega
 subst hk3
 have zG:o=dC d:=by rw[ZJ,List.flatMap_nil,Yx]at ho;exact ho
 refine aK ?_
 refine ae (bI Tp 1 (hct:=by exact DK 134 (dC d) _ _ 2 ((show bB 134 hq 2 nx (dC d) 0 by rw[<-zG];exact hG).mono oW) (by rw[<-zG];omega)) (hk:=?_))
 rintro res h9 n9 ⟨hd,_,_⟩
 obtain⟨r,rfl,hr,_⟩:=FC hd (by exact ZiH d)
 have ff:=qA @hr ff
 refine bH Tp ?_
 exact fo 1 (k:=o4h)
def Ul(k:UInt8)(w:Str)(hw:w.length<=4000000000):PureCt prog 24 [.v (.int .u8 ((k).toNat:Int)),.list false (w.map bD)] (.list false ((cO k w).map bD)):=by
 refine oO func24 λff=>?_
 unfold f24
 refine oC Tp ?_
 refine ae (bI Tp 2 (hct:=by exact OV 134 [] k _ _ 1 (bB.new o4o oW) (by simp)) (hk:=?_))
 rintro res h2 n2 ⟨rfl,_,hG2⟩
 refine bH Tp ?_
 refine ae (bI Tp 2 (hct:=by exact Gy 134 _ w.length _ _ 1 (hG2.mono oW) om (by simp)) (hk:=?_))
 rintro res h3 n3 ⟨_,hG3⟩
 have hG3:bB 134 h3 1 n3 (rP k w.length) 0:=hG3
 have hhl:(rP k w.length).length=5:=by simp[rP,fD]
 refine bH Tp ?_
 refine bY ?_
 refine En (C:=Tp) 1 (R:=_) om (dN rfl) rfl rfl o2l ?_ ?_ ev o5l ev (by exact DK 134 (rP k w.length) _ _ 1 (hG3.mono oW) om) ?_
 .
  try simp only[go_sem,ff]
  all_goals (exact ok0)
 .
  try simp only[go_sem,ff]
  all_goals (first|done|rfl|decide|simp)
 rintro res h4 n4 ⟨hd,_,hG4⟩
 obtain⟨r4,rfl,hr4,_⟩:=FC hd om
 have ff:=qA hr4 ff
 refine En (C:=Tp) 3 (R:=_) om (dN rfl) rfl rfl o2l ?_ ?_ ev o5l ev (by exact Cb 134 _ (iD (rP k w.length)) _ _ 1 (hG4.mono oW) (Dx _) om) ?_
 .
  try simp only[go_sem,ff]
  all_goals (first|exact ok0|exact I1 _ om)
 .
  try simp only[go_sem,ff]
  all_goals (first|done|rfl|decide|simp)
 rintro res h5 n5 ⟨_,o8⟩
 refine aP Tp ?_
 try simp only[aH]
 refine ae (bI Tp 2 (hct:=by exact DX 134 _ w _ _ 1 (o8.mono oW) (by rw[X0,fD];omega)) (hk:=?_))
 rintro res h6 n6 ⟨rfl,_,zI⟩
 refine bH Tp ?_
 refine ae (bI Tp 2 (hok:=ig @I1) (hct:=by exact Cb 134 _ (iD w) _ _ 1 (zI.mono oW) (Dx _) (by rw[X0,X0,fD];omega)) (hk:=?_))
 rintro res h7 n7 ⟨_,yj⟩
 have yj:bB 134 h7 1 n7 (cO k w) 0:=yj
 refine bH Tp ?_
 refine ae (bI Tp 1 (hct:=by exact DK 134 (cO k w) _ _ 1 (yj.mono oW) (by rw[tC];omega)) (hk:=?_))
 rintro res h9 n9 ⟨hd,_,_⟩
 obtain⟨r,rfl,hr,_⟩:=FC hd (by rw[tC];omega)
 have ff:=qA @hr ff
 refine bH Tp ?_
 exact fo 1 (k:=o4h)
theorem Ls{l:List Str}{p:Str}:(l++[p]).map jy=l.map jy++[[.list false (p.map bD)]]:=by simp[jy]
theorem Iq{d:dn}{o:l5}(h:fJ d=some o):u6 d=o:=by unfold u6;rw[h];rfl
theorem Ir{d:dn}(h:fJ d=none):u6 d=LD:=by unfold u6;rw[h];rfl
def CS{d:dn}{o:l5}(hd:mU d)(h:fJ d=some o):PureCt prog 36 [.agg d.d] (.tuple [.agg o.d,.b true]):=by
 have:=Uf d hd
 rwa [Iq h,h]at this
def CU{d:dn}(hd:mU d)(h:fJ d=none):PureCt prog 36 [.agg d.d] (.tuple [.agg LD.d,.b false]):=by
 have:=Uf d hd
 rwa [Ir h,h]at this
def Zgy(w:Str)(hw:w.length<=4000000000):PureCt prog 24 [.v (.int .u8 1),.list false (w.map bD)] (.list false ((cO 1 w).map bD)):=Ul 1 w hw
def Zgx(w:Str)(hw:w.length<=4000000000):PureCt prog 24 [.v (.int .u8 2),.list false (w.map bD)] (.list false ((cO 2 w).map bD)):=Ul 2 w hw
def Zjc{z:Zon}{d:aG}{x:Zon}{e:Int}(hp:fH d.put)(h:ed z d=(x,e)):PureCt prog 38 [.agg z.d,.agg d.d] (.tuple [.agg x.d,.i e]):=by
 have:=NM z d hp
 rwa [h]at this
def Uk(d:aG)(hp:fH d.put):PureCt prog 37 [.agg d.d] (.b (fO d)):=by
 refine oO func37 λff=>?_
 unfold f37
 refine aa Tp ?_
 rcases hd:fO d with _|_
 . have hj:=Zgt hd;have ff:=qB @hj @hd ff;refine aa Tp ?_ (hok:=oV (JO d));refine aa Tp ?_;exact fp 0
 have hj:=Zgs hd
 have ff:=qB @hj @hd ff
 refine aa Tp ?_ (hok:=oV (JO d))
 refine aa Tp ?_
 exact fp 0
def Ms(w:Str)(hw:w.length<=1000000000):PureCt prog 40 [.list false (w.map bD)] (.list false (w.map bD)):=by
 refine oO func40 λff=>?_
 unfold f40
 refine aa Tp ?_
 refine ae ?_
 refine ae (xe ?_)
 refine Em (C:=Tp) 1 (e:=5) om (dN rfl) rfl rfl (by kernel_rfl) o3y ?_ (by rfl) ev (λy hy=>?_)
 .
  try simp only[go_sem,ff]
  all_goals (first|done|(repeat' (with_reducible apply And.intro))<;>first|omega|(with_reducible assumption)|(intros;omega)|(intros;simp only[XX,X4,Yc,XU,Yd,Ya,Yq]at *;omega)|(simp_all;done)|(simp_all;omega))
 refine wy (C:=Tp) o5o o3y ?_ rfl ?_
 .
  try simp only[go_sem,ff]
  all_goals (first|done|(repeat' (with_reducible apply And.intro))<;>first|omega|(with_reducible assumption)|(intros;omega)|(intros;simp only[XX,X4,Yc,XU,Yd,Ya,Yq]at *;omega)|(simp_all;done)|(simp_all;omega))
 try simp only[aH]
 refine cd ?_ ?_ (hp:=rfl) (hq:=rfl)<;>intro c1
 . have hn:w=[]:=List.map_eq_nil_iff.1 (hy c1);subst hn;refine aa Tp ?_;exact fp 1
 refine aj ?_
 refine aa Tp ?_
 exact fp 1
def Zgi(a:Str)(l:List Str)(b:Str)(ha:a.length<=1000000000)(hb:b.length<=1000000000)(hl:(cu l).length<=1000000000)(hl2:l.length<=1000000):PureCt prog 41 [.list false (a.map bD),.list false (l.map jy),.list false (b.map bD)] (.list false ((a++cu l++b).map bD)):=by
 refine oO func41 λff=>?_
 unfold f41
 refine oC Tp ?_
 refine ae (bI Tp 2 (hct:=by exact DX 134 [] a _ _ 1 (bB.new o4o oW) (by simp;omega)) (hk:=?_))
 rintro res h2 n2 ⟨rfl,_,hG2⟩
 refine bH Tp ?_
 refine ae ?_
 refine aa Tp ?_
 refine ah ?_
 refine jk (α:=(Nat)×(Str)×(H)×Nat) [2,7,13,14] (λ⟨k,o,hq,nx⟩=>(k<=l.length)/\(o=a++cu (l.take k))/\(o.length<=2000000000)/\(bB 134 hq 1 nx o 0)/\True) (λ⟨k,o,hq,nx⟩=>l.length-k) (λ⟨k,o,hq,nx⟩=>[(15,.i k)]) (λ⟨k,o,hq,nx⟩=>hq) (λ⟨k,o,hq,nx⟩=>nx) (0,a,h2,_) (hA:=⟨iv,(by first|(simp[cu])|(dsimp only;simp[cu])),oW,(hG2.mono oW),trivial⟩) (round:=?_)
 rintro⟨k,o,hq,nx⟩ ⟨hk,ho,hol,hG, -⟩
 simp only[XY,XZ]
 refine aa Tp ?_
 refine ae ?_
 refine cd ?_ ?_<;>intro c1
 .
  have hk2:k<l.length:=by omega
  have hct:=WQ hk2;have hcl:=Zjx (l:=l) (k+1);have hcs:=WP hk2;have ff:=qA (M0 hk2) ff;refine aj ?_;refine ae ?_;refine ah ?_;refine aa Tp ?_;refine bI Tp 2 (hct:=by exact DX 134 o l[k]! _ _ 1 (hG.mono oW) om) (hk:=?_)
  rintro res h5 n5 ⟨rfl,_,o8⟩;refine bH Tp ?_;refine ai Tp ?_
  show ∃_,_
  exact ay (k+1,o++l[k]!,h5,_) (h1:=⟨iv,(by(try dsimp only);rw[ho,hct,List.append_assoc]),(by(try dsimp only);rw[ho,List.append_assoc,<-hct,List.length_append];omega),o2w,trivial⟩)
 have hk3:k=l.length:=by omega
 subst hk3
 rw[Yt]at ho
 refine aK ?_
 refine ae (bI Tp 2 (hct:=by exact DX 134 o b _ _ 1 (hG.mono oW) om) (hk:=?_))
 rintro res h6 n6 ⟨rfl,_,zI⟩
 have zI:bB 134 h6 1 n6 (a++cu l++b) 0:=by rw[<-ho];exact zI
 refine bH Tp ?_
 by_cases hne:a++cu l++b=[]
 .
  refine ae (bI Tp 1 (hct:=o3f) (hk:=?_))
  rintro res h9 n9 ⟨hd,_,_⟩;obtain rfl:res = .list true []:=by rcases hd with⟨_,e⟩|⟨e,_⟩;exact e;exact absurd hne e
  refine bH Tp ?_;exact fo 1 (k:=by first|(rw[hne];rfl)|rfl|(simp;done))
 refine ae (bI Tp 1 (hct:=o3f) (hk:=?_))
 rintro res h9 n9 ⟨hd,_,_⟩
 obtain⟨r,rfl,hr,_⟩:=FC hd (Zt.2 hne)
 have ff:=qA @hr ff
 refine bH Tp ?_
 exact fo 1 (k:=o4h)
def Zgj{a:Str}{l:List Str}(ha:a.length<=1000000000)(hl:(cu l).length<=1000000000)(hl2:l.length<=1000000):PureCt prog 41 [.list false (a.map bD),.list false (l.map jy),.list false []] (.list false ((a++cu l).map bD)):=by
 have q:=Zgi a l [] ha (by simp) hl hl2
 rw[Yx]at q
 exact q
def ZgB(z:Zon)(hu:Gl z):PureCt prog 8 [.agg z.d] (.tuple [.agg (rW z).1.d,.i (rW z).2]):=by
 refine oO func8 λff=>?_
 unfold Tryz.f8
 have ff:=qA (show UInt8.ofNat 1=1 from rfl) ff
 refine aa Tp ?_
 refine oK Tp ?_ ?_ (hok:=oF (xw z))<;>intro c1
 . refine aa Tp ?_;exact fo 4 (k:=by rw[rW,if_pos (by grind)];first|rfl|(simp;done))
 have hz:aI z=true:=by grind
 have hzl:=(lF hz).len
 have hzs:=XD hz
 refine aa Tp ?_ (hok:=oI (Zgg z (OD hz hu) om) (Zgy (dY z) om))
 refine oK Tp ?_ ?_<;>intro c2
 . refine aa Tp ?_;exact fo 4 (k:=by rw[rW,if_neg (by grind),if_pos (by omega)];first|rfl|(simp;done))
 refine aa Tp ?_
 exact fo 4 (k:=by rw[rW,if_neg (by grind),if_neg (by omega)];first|rfl|(simp;done))
def Zgw(d:dn)(hd:mU d):PureCt prog 12 [.agg d.d] (.tuple [.agg (oQ d).1.d,.i (oQ d).2]):=by
 refine oO func12 λff=>?_
 unfold f12
 refine aa Tp ?_
 rcases ho:fJ d with _|o
 .
  have vF:=Ir ho;have ff:=qB @ho @vF ff;refine aa Tp ?_ (hok:=o2p)
  refine ae ?_;refine aa Tp ?_;refine cd ?_ ?_ (hp:=rfl) (hq:=rfl)<;>intro c1
  . refine aa Tp ?_;exact fo 3 (k:=by simp only[oQ,ho];first|rfl|(simp;done))
  simp at c1
 have vF:=Iq ho
 have ff:=qB @ho @vF ff
 refine aa Tp ?_ (hok:=o2p)
 refine oK Tp ?_ ?_ (hp:=rfl) (hq:=rfl)<;>intro c1
 . simp at c1
 refine ae ?_
 rcases hsv:o.saved with _|y
 .
  have ff:=qA @hsv ff;refine aa Tp ?_;refine cd ?_ ?_ (hp:=rfl) (hq:=rfl)<;>intro c2
  . refine aa Tp ?_;exact fo 3 (k:=o2g)
  simp at c2
 have ff:=qA @hsv ff
 refine aa Tp ?_
 refine cd ?_ ?_ (hp:=rfl) (hq:=rfl)<;>intro c2
 . simp at c2
 refine aj ?_
 refine aa Tp ?_
 exact fo 3 (k:=o2g)
def Zgn(d:dn)(hd:mU d):PureCt prog 11 [.agg d.d] (.tuple [.agg (qZ d).1.d,.i (qZ d).2]):=by
 refine oO func11 λff=>?_
 unfold f11
 refine aa Tp ?_
 rcases ho:fJ d with _|o
 .
  have vF:=Ir ho;have ff:=qB @ho @vF ff;refine aa Tp ?_ (hok:=o2p)
  refine ae ?_;refine aa Tp ?_;refine cd ?_ ?_ (hp:=rfl) (hq:=rfl)<;>intro c1
  . refine aa Tp ?_;exact fo 3 (k:=by simp only[qZ,ho];first|rfl|(simp;done))
  simp at c1
 have vF:=Iq ho
 have ff:=qB @ho @vF ff
 refine aa Tp ?_ (hok:=o2p)
 refine oK Tp ?_ ?_ (hp:=rfl) (hq:=rfl)<;>intro c1
 . simp at c1
 have hos:=CB ho
 have MN:=N7 hd d.pend.length hos.2.1
 rw[Yt]at MN
 have hple:=Lu d.safe
 have hsz0:=hos.2.2.2.1
 have hwh:=hos.2.2.1
 refine oK Tp ?_ ?_<;>intro c2
 . refine aa Tp ?_;exact fo 3 (k:=by simp only[qZ,ho];rw[X3 (by omega)];first|rfl|(simp;done))
 refine aa Tp ?_ (hok:=by(try simp only[go_sem,ff]);all_goals (exact Zgj (by rw[hwh];omega) (by omega) (by omega)))
 exact fo 3 (k:=by simp only[qZ,ho];rw[XV (by omega)];first|rfl|(simp;done))
def ZgC(d:dn)(x:aG)(hd:mU d)(hp:fH x.put)(hu:BS x):PureCt prog 10 [.agg d.d,.agg x.d] (.tuple [.agg (mP d x).1.d,.i (mP d x).2]):=by
 refine oO func10 λff=>?_
 unfold f10
 have ff:=qA (show UInt8.ofNat 2=2 from rfl) ff
 refine aa Tp ?_
 rcases ho:fJ d with _|o
 .
  have vF:=Ir ho;have ff:=qB @ho @vF ff;refine aa Tp ?_ (hok:=o2p)
  refine ae ?_;refine aa Tp ?_ (hok:=oH (Uk x hp));refine cd ?_ ?_ (hq:=rfl)<;>intro c1
  . refine aa Tp ?_;exact fo 4 (k:=by simp only[mP,ho];first|rfl|(simp;done))
  simp at c1
 have vF:=Iq ho
 have ff:=qB @ho @vF ff
 refine aa Tp ?_ (hok:=o2p)
 refine oK Tp ?_ ?_ (hok:=oH (Uk x hp))<;>intro c1
 .
  have hnf:fO x=false:=by simpa using c1
  refine aa Tp ?_;exact fo 4 (k:=by simp only[mP,ho];rw[X3 hnf];first|rfl|(simp;done))
 have hdx:fO x=true:=by simpa using c1
 have hdk:=yx.1 hdx
 have hos:=CB ho
 have MN:=N7 hd d.pend.length hos.2.1
 rw[Yt]at MN
 have hple:=Lu d.safe
 have hsz0:=hos.2.2.2.1
 have hwh:=hos.2.2.1
 have hwl:o.whole.length<=1000000:=by rw[hwh];omega
 refine ae ?_
 rcases hsv:o.all with _|y
 .
  have ff:=qA @hsv ff;refine aa Tp ?_;refine cd ?_ ?_ (hp:=rfl) (hq:=rfl)<;>intro c2
  . refine aa Tp ?_;exact fo 4 (k:=by rw[Zj8 ho hsv,hdx];first|rfl|(simp;done))
  simp at c2
 have ff:=qA @hsv ff
 refine aa Tp ?_
 refine cd ?_ ?_ (hp:=rfl) (hq:=rfl)<;>intro c2
 . simp at c2
 refine aj ?_
 refine ae ?_
 rcases hA:ed y x with⟨z,e⟩
 have ff:=qA @hA ff
 refine aa Tp ?_ (hok:=oF (Zjc hp hA))
 refine aa Tp ?_
 refine cd ?_ ?_<;>intro c3
 . refine aa Tp ?_;exact fo 4 (k:=by rw[Zj4 ho hsv (by rw[hA];exact c3),hA,hdx];first|rfl|(simp;done))
 obtain rfl:e=0:=by omega
 have hxs:=VN hA hu
 have hxl:=ZiA hA
 have hpl2:=hdk.plen
 have hdl2:=hdk.dlen
 have hfl:=tC 2 (dC x)
 refine aj ?_
 refine oK Tp ?_ ?_<;>intro c4
 . refine aa Tp ?_;exact fo 4 (k:=by rw[Ka ho hsv hA,X3 (by omega)];first|rfl|(simp;done))
 refine aa Tp ?_ (hok:=oI (Zgz x hxs hdk.plen hdk.dlen) (Zgx (dC x) om))
 refine oK Tp ?_ ?_<;>intro c5
 . refine aa Tp ?_;exact fo 4 (k:=by rw[Ka ho hsv hA,XV (by omega),X3 (by omega)];first|rfl|(simp;done))
 refine aa Tp ?_ (hok:=oH (Ms o.whole om))
 refine ae ?_
 refine yt 54 1 34 31 ev (by rfl) o5l ?_
 simp only[YW,YO]
 refine aa Tp ?_
 refine ah ?_
 refine lp (α:=(Nat)×(Nat)×Nat) [4,10,11,64,65] (λ⟨k,r,nx⟩=>(k<=d.pend.length)/\(r<nx)/\(54<r)/\True) (λ⟨k,r,nx⟩=>d.pend.length-k) (λ⟨k,r,nx⟩=>[(66,.i k)]) (λ⟨k,r,nx⟩=>[(0,⟨34,[d.d]⟩),(1,⟨40,[x.d]⟩),(2,⟨34,[[.list true [],.list true []]]⟩),(54,⟨34,[[.list false (o.whole.map bD),.mrow r 0 k]]⟩),(r,⟨31,(d.pend.take k).map jy⟩)]) (λ⟨k,r,nx⟩=>nx) (0,56,_) (hA:=⟨iv,iv,iv,trivial⟩) (round:=?_)
 rintro⟨k,r,nx⟩ ⟨hk,hr,hr0, -⟩
 simp only[XY,XZ]
 have n0:0<nx:=by omega
 have n1:1<nx:=by omega
 have n2:2<nx:=by omega
 have n54:54<nx:=by omega
 have ff:=qH @hr @n0 @n1 @n2 @n54 (nH 0 1) (nH 0 2) (qI (nH 0 54) (nH 0 r) (nH 1 2) (nH 1 54) (nH 1 r) (nH 2 54) (nH 2 r) (nH 54 r) ff)
 refine aa Tp ?_
 refine ae ?_
 refine cd ?_ ?_ (hp:=rfl)<;>intro c6
 .
  have hk2:k<d.pend.length:=by simpa using c6
  have hpk:=hd.at hk2;have ff:=qA (M0 hk2) ff;refine aj ?_;refine ae ?_;refine ah ?_;refine aa Tp ?_;refine ai lZ ?_ (hok:=by(try simp only[go_sem,ff]);all_goals (first|done|((repeat' (with_reducible apply And.intro))<;>first|(intros;exact Ms d.pend[k]! (by omega))|omega|(rw[YR];omega)|skip)))
  refine ai Tp ?_
  show ∃_,_
  have hst:(d.pend.take (k+1)).map jy=(d.pend.take k).map jy++[[.list false (d.pend[k]!.map bD)]]:=by rw[qY! hk2,Ls]
  have ff:=qA hst ff;exact ay (k+1,(nx+9),_) (h1:=⟨iv,iv,iv,trivial⟩)
 have e8:k=d.pend.length:=by omega
 subst e8
 refine aK ?_
 refine aa Tp ?_
 refine yw 54 1 (nx+5) (rows:=d.pend.map jy++[[.list false ((cO 2 (dC x)).map bD)]]) (off:=0) (len:=d.pend.length+1) ev rfl ev (by omega) (by simp) (by rw[<-Ls];exact Ze1) ?_
 simp only[X6,YW,YO]
 refine aa Tp ?_
 exact fo 4 (k:=by rw[Ka ho hsv hA,XV (by omega),XV (by omega)];(try simp only[go_sem,Ls]);first|done|rfl|(simp;done))
def Za5(l:List Zon)(hl:l.length<=20000):PureCt prog 90 [.list false (l.map Zon.d)] (.tuple [.list false ((tX l).1.map ko),.b (tX l).2]):=by
 refine oO func90 λff=>?_
 unfold f90
 refine aa Tp ?_
 refine ae ?_
 refine aa Tp ?_
 refine ah ?_
 refine lp (α:=(Nat)×Nat) [0,10,11] (λ⟨k,nx⟩=>(k<=l.length)/\(aA l.length (tY l) 0=aA l.length (tY l) k)/\True) (λ⟨k,nx⟩=>l.length-k) (λ⟨k,nx⟩=>[(12,.i k)]) (λ⟨k,nx⟩=>[]) (λ⟨k,nx⟩=>nx) (0,_) (hA:=⟨iv,rfl,trivial⟩) (round:=?_)
 rintro⟨k,nx⟩ ⟨hk,hv1, -⟩
 simp only[XY,XZ]
 refine aa Tp ?_
 refine ae ?_
 refine cd ?_ ?_ (hp:=rfl)<;>intro c1
 .
  have hk2:k<l.length:=by simpa using c1
  have hk0:0<l.length:=by omega
  have ff:=qB (uE hk2) (uE hk0) ff;refine aj ?_;refine ae ?_;refine ah ?_;refine aa Tp ?_;refine aa Tp ?_ (hok:=ig (xw l[k]!));refine cd ?_ ?_<;>intro c2
  . refine aa Tp ?_;exact fo 2 (k:=by rw[O0 (.inl (by rw[hv1];exact eF hk2 (by simp only[tY];grind)))];rfl)
  refine aj ?_;refine ai Tp ?_
  show ∃_,_
  have h8:(tY l) k=true:=by simp only[tY];grind
  exact ay (k+1,_) (h1:=⟨iv,o4p,trivial⟩)
 have e8:k=l.length:=by omega
 subst e8
 have hA:aA l.length (tY l) 0=true:=by rw[hv1,gW (by omega)]
 have hzs : ∀i,i<l.length->aI l[i]! = true:=λi hi=>by have:=(eu _ _ _).1 hA i (Yi _) hi;simp only[tY,XU]at this;exact this.1
 refine aK ?_
 refine aa Tp ?_ (hok:=oH (Zbk l om hzs))
 refine ae ?_
 refine aa Tp ?_
 refine ah ?_
 refine lp (α:=(Nat)×Nat) [6] (λ⟨k,nx⟩=>(k<=l.length\/l.length=0)/\(1<=k)/\(aA l.length (uU l) 0=aA l.length (uU l) k)/\True) (λ⟨k,nx⟩=>l.length-k) (λ⟨k,nx⟩=>[(7,.i k)]) (λ⟨k,nx⟩=>[]) (λ⟨k,nx⟩=>nx) (1,_) (hA:=⟨oW,oW,(by(try dsimp only);by_cases e:l.length=0;rw[gW (k:=0) (by omega),gW (k:=1) (by omega)];rw[bF (n:=l.length) (by omega) (by simp[uU])]),trivial⟩) (round:=?_)
 rintro⟨k,nx⟩ ⟨hk,hk1,hv, -⟩
 simp only[XY,XZ]
 refine oL Tp ?_ ?_ (hp:=rfl)<;>intro c3
 .
  have hk2:k<l.length:=by simpa using c3
  have hk3:k-1<l.length:=by omega
  have e1:((k:Int)-1).toNat=k-1:=by omega
  have vG:mE (aL l[k-1]!) (aL l[k]!)=(gV (aL l[k-1]!) (aL l[k]!),0):=by unfold mE;rw[yT (hzs _ hk3),yT (hzs _ hk2)];rfl
  have ff:=qE (MX hk2) (MX hk3) @e1 @vG ff;refine ae ?_;refine ah ?_;refine aa Tp ?_ (hok:=ig (VO vG));refine aa Tp ?_;refine cd ?_ ?_<;>intro c4
  . refine aa Tp ?_;exact fo 2 (k:=by rw[O0 (.inr (by rw[hv];exact eF hk2 (by simp only[uU];grind)))];rfl)
  refine aj ?_;refine ai Tp ?_
  show ∃_,_
  have h8:(uU l) k=true:=by simp only[uU];grind
  exact ay (k+1,_) (h1:=⟨oW,oW,o4r,trivial⟩)
 refine aK ?_
 refine aa Tp ?_
 exact fo 2 (k:=by rw[Zaj hA (by rw[hv];exact gW (by omega))];try rfl)
def uf(f:Int)(l:List Zon)(hl:l.length<=20000)(hp:0<l.length)(hv:nU l)(hf:f<l.length):PureCt prog 91 [.i f,.eptr [.list false (l.map Zon.d)]] (.agg (zk l f).d):=by
 refine oO func91 λff=>?_
 unfold f91
 refine aa Tp ?_
 refine oK Tp ?_ ?_<;>intro c1
 .
  have e1:((l.length:Int)-1).toNat=l.length-1:=by omega
  have hk2:l.length-1<l.length:=by omega
  have ff:=qB @e1 (uE hk2) ff;refine aa Tp ?_ (hok:=by(try simp only[go_sem,ff]);all_goals (first|done|((repeat' (with_reducible apply And.intro))<;>first|(intros;exact GK l[l.length-1]! (sj (hv.ok _ hk2)))|omega|(intro h;simp only[XU,XX]at h;omega)|(intros;omega)|(intros;simp_all;done)|skip)))
  exact fo 3 (k:=by rw[zk,if_pos (by grind)];rfl)
 refine aa Tp ?_
 refine ae ?_
 refine yt 3 3 109 40 ev (by rfl) o5l ?_
 simp only[YW,YO]
 refine aa Tp ?_
 refine ah ?_
 refine lp (α:=(Nat)×(Nat)×Nat) [1,3,4] (λ⟨k,r,nx⟩=>(k<=l.length-1-f.toNat)/\(r<nx)/\(3<r)/\True) (λ⟨k,r,nx⟩=>l.length-1-f.toNat-k) (λ⟨k,r,nx⟩=>[(5,.i (f+k))]) (λ⟨k,r,nx⟩=>[(0,⟨109,[[.b false,.v (.string (bs [])),.list true [],.list true []]]⟩),(3,⟨109,[[.b false,.v (.string (bs [])),.list true [],.mrow r 0 (jO l f.toNat k).length]]⟩),(r,⟨40,(jO l f.toNat k).map aG.d⟩)]) (λ⟨k,r,nx⟩=>nx) (0,4,_) (hA:=⟨iv,iv,iv,trivial⟩) (round:=?_)
 rintro⟨k,r,nx⟩ ⟨hk,hr,hr0, -⟩
 simp only[XY,XZ]
 have n0:0<nx:=by omega
 have n3:3<nx:=by omega
 have hdl:=zW l f.toNat k
 have ff:=qG @hr @n0 @n3 (nH 0 3) (nH 0 r) (nH 3 r) ff
 refine oL Tp ?_ ?_ (hp:=rfl)<;>intro c2
 .
  have hk2:f.toNat+k<l.length:=by have h9:(f+k+1:Int)<l.length:=(by simpa using c2);omega
  have hk3:f.toNat+(k+1)<l.length:=by have h9:(f+k+1:Int)<l.length:=(by simpa using c2);omega
  have e1:(f+(k:Int)).toNat=f.toNat+k:=by omega
  have e2:(f+(k:Int)+1).toNat=f.toNat+(k+1):=by omega
  have hdv:kW l[f.toNat+k]! l[f.toNat+(k+1)]! = (jP l (f.toNat+k),0):=hv.difv hk3;have ff:=qF (uE hk2) (uE hk3) @e1 @e2 @hdv ff;refine ae ?_;refine ah ?_;refine aa lZ ?_ (hok:=ig (ZiT hdv));refine ai Tp ?_;refine ai Tp ?_
  show ∃_,_
  have hst:(jO l f.toNat (k+1)).map aG.d=(jO l f.toNat k).map aG.d++[[.v (.string (bs (jP l (f.toNat+k)).apex)),.i (jP l (f.toNat+k)).frm,.i (jP l (f.toNat+k)).too,.list false ((jP l (f.toNat+k)).drop.map ak.d),.list false ((jP l (f.toNat+k)).put.map Sgd.d)]]:=by rw[ZiK,Ziz]
  have hsl:(jO l f.toNat (k+1)).length=(jO l f.toNat k).length+1:=by rw[zW,zW]
  have ff:=qB hst hsl ff;exact ay (k+1,(nx+25),_) (h1:=⟨iv,iv,iv,trivial⟩)
 refine aK ?_
 refine yw 3 3 r (rows:=(jO l f.toNat k).map aG.d) (off:=0) (len:=(jO l f.toNat k).length) ev rfl ev om (by simp) ZeY ?_
 simp only[X6,yQ,YW,YO]
 have e9:k=l.length-1-f.toNat:=by have h9 : ¬(f+k+1:Int)<l.length:=(by simpa using c2);omega
 subst e9
 refine aa Tp ?_
 exact fo 3 (k:=by rw[zk,XV (by omega)];rfl)
def bo44:d9 prog 44=true:=by kernel_rfl
def Za6(l:List Zon)(b:Bool)(n:Int):PureCt prog 44 [.list false (l.map Zon.d),.b b,.i n] (.tuple [.agg (jg l b n).1.d,.i (jg l b n).2]):=by
 refine za func44 rfl bo44 o5h (by simp[f44]) ?_
 unfold f44
 simp only[Bf]
 have ff:=True.intro
 refine aa Tp ?_
 refine ae ?_
 refine aa Tp ?_
 refine cd ?_ ?_<;>intro c1
 . refine aa Tp ?_;refine aN ?_;exact fin 3 (hr:=by(try simp only[go_sem,ff]);all_goals (rw[jg,if_pos (by grind)];rfl))
 .
  have hl2:l.length<=20000:=by omega
  have p1 : ¬(20000<l.length\/(b=true/\(n<0\/65536<=n))):=by rintro (q|⟨q1,q2⟩);omega;grind
  refine aj ?_
  show DW _ _ _ _ _
  refine aa Tp ?_ (hok:=by(try simp only[go_sem,ff]);all_goals (exact Za5 l hl2))
  refine ae ?_;refine aa Tp ?_;refine cd ?_ ?_<;>intro c2
  .
   have Bi:sD l=false:=by cases q:sD l with|false=>rfl|true=>(rw[Kl q]at c2;cases c2)
   refine aa Tp ?_;refine aN ?_;exact fin 3 (hr:=by(try simp only[go_sem,ff]);all_goals (rw[jg,XV p1,X3 Bi];rfl))
  .
   have Bi:sD l=true:=by cases q:sD l with|true=>rfl|false=>(rw[O1 q]at c2;cases c2)
   have hvs:=Gz.1 Bi;have nA:=Kl Bi;have ff:=qA @nA ff;refine aj ?_
   show DW _ _ _ _ _
   refine ae ?_;refine aa Tp ?_;refine cd ?_ ?_<;>intro c3
   . refine aa Tp ?_;refine aN ?_;exact fin 3 (hr:=by(try simp only[go_sem,ff]);all_goals (rw[jg,XV p1,XV (by rw[Bi];exact Bool.noConfusion),X3 (by omega)];rfl))
   .
    have hp:0<l.length:=by omega
    refine aj ?_
    show DW _ _ _ _ _
    refine qJ 3 0 ev ev (by simp only[bA,D.nr,ZeW];rfl) ?_
    refine aa Tp ?_;refine aa Tp ?_;refine ae ?_
    rcases b with _|_
    .
     have hfi:wY l false n = -1:=rfl;have hfl:=BD l false n;refine aa Tp ?_;refine cd ?_ ?_ (hp:=rfl)<;>intro c4
     . cases c4
     .
      refine aj ?_
      show DW _ _ _ _ _
      refine aa Tp ?_ (hok:=o0c)
      refine aN ?_;exact fin 3 (hr:=o1n)
    .
     refine aa Tp ?_;refine cd ?_ ?_ (hq:=rfl)<;>intro c4
     .
      refine aa Tp ?_;refine ah ?_;refine lp (α:=(Nat)×Nat) [2,6,10,43,44] (λ⟨k,nx⟩=>(k<=l.length)/\(1<nx)/\True) (λ⟨k,nx⟩=>l.length-k) (λ⟨k,nx⟩=>[(11,.i (nu (λi=>decide (aL l[i]! = n)) k)),(45,.i k)]) (λ⟨k,nx⟩=>[(1,⟨109,[[.b false,.v (.string (bs [])),.list true [],.list true []]]⟩)]) (λ⟨k,nx⟩=>nx) (0,_) (hA:=⟨iv,iv,trivial⟩) (round:=?_)
      rintro⟨k,nx⟩ ⟨hk,hx, -⟩
      show DW _ _ _ _ { n:=_,t:=tab _,h:=_,nx:=_,e:=_ }
      simp only[XY,XZ];have ff:=qA @hx ff;refine aa Tp ?_;refine ae ?_;refine cd ?_ ?_ (hp:=rfl)<;>intro c5
      .
       have hk2:k<l.length:=by simpa using c5
       have ff:=qA (MX hk2) ff;refine aj ?_
       show DW _ _ _ _ _
       refine ae ?_;refine ah ?_;refine aa Tp ?_;refine aa Tp ?_;refine cd ?_ ?_<;>intro c6
       .
        refine ai Tp ?_
        show DW _ _ _ _ _
        refine ai Tp ?_
        show ∃_,_
        have ff:=qA (Tj (p:=λi=>decide (aL l[i]! = n)) (k:=k) (by grind)) ff
        exact ay (k+1,_) (h1:=⟨iv,iv,trivial⟩)
       .
        refine aj ?_
        show DW _ _ _ _ _
        refine ai Tp ?_
        show ∃_,_
        have ff:=qA (Tk (p:=λi=>decide (aL l[i]! = n)) (k:=k) (by grind)) ff
        exact ay (k+1,_) (h1:=⟨iv,iv,trivial⟩)
      .
       have e8:k=l.length:=by omega
       subst e8;have hfi:wY l true n=nu (λi=>decide (aL l[i]! = n)) l.length:=rfl
       have hfl:=BD l true n;refine aK ?_
       show DW _ _ _ _ _
       refine aa Tp ?_ (hok:=o0c)
       refine aN ?_;exact fin 3 (hr:=o1n)
     . cases c4
def Pp{l:List Zon}{b:Bool}{n:Int}{x:Off}{e:Int}(h:jg l b n=(x,e)):PureCt prog 44 [.list false (l.map Zon.d),.b b,.i n] (.tuple [.agg x.d,.i e]):=by
 have:=Za6 l b n
 rwa [h]at this
def Ch(s:gN)(o:Off)(t:Int)(hf : ∀i,i<o.deltas.length->fH o.deltas[i]!.put):PureCt prog 45 [.agg s.d,.agg o.d,.i t] (.tuple [.agg (kw s o t).1.d,.i (kw s o t).2]):=by
 refine oO func45 λff=>?_
 unfold f45
 refine aa Tp ?_
 refine oK Tp ?_ ?_ (hok:=oa2 (Pn s) (Za4 o hf))<;>intro c1
 . refine aa Tp ?_;exact fo 3 (k:=by rw[kw,if_pos (by grind)];try rfl)
 have hs:lI s=true:=by grind
 have ho:jH o=true:=by grind
 have p1 : ¬(lI s=false\/jH o=false\/t<s.seen\/10000000<t):=by rintro (q|q|q|q);rw[hs]at q;cases q;rw[ho]at q;cases q;omega;omega
 refine ae ?_
 refine aa Tp ?_ (hok:=oF (Zba o))
 refine aa Tp ?_
 refine cd ?_ ?_<;>intro c2
 . refine aa Tp ?_;exact fo 3 (k:=by rw[kw,if_neg p1,if_pos (by grind)];try rfl)
 have p2 : ¬(s.has=true/\(ou o).2=true/\(ou o).1≠s.zone.apex):=by grind
 refine aj ?_
 refine oK Tp ?_ ?_<;>intro c3
 . refine aa Tp ?_;exact fo 3 (k:=by rw[kw,if_neg p1,if_neg p2,if_pos (by grind)];try rfl)
 have p3 : ¬(s.has=false/\o.full=false):=by grind
 refine oK Tp ?_ ?_<;>intro c4
 .
  have hfu:o.full=true:=by grind
  have zG:=ZeH ho hfu;refine ae ?_;refine aa Tp ?_ (hok:=oF (Zbe s o.zone (KZ hs) zG));refine aa Tp ?_;refine cd ?_ ?_<;>intro c5
  . refine aa Tp ?_;exact fo 3 (k:=by rw[kw,if_neg p1,if_neg p2,if_neg p3,if_pos hfu,if_pos (by grind)];try rfl)
  refine aj ?_;refine aa Tp ?_ (hok:=oF (GK o.zone (sj zG)));exact fo 3 (k:=by rw[kw,if_neg p1,if_neg p2,if_neg p3,if_pos hfu,if_neg (by grind)];try rfl)
 have hfu:o.full=false:=by grind
 have hh:s.has=true:=by cases q:s.has with|true=>rfl|false=>exact absurd ⟨q,hfu⟩ p3
 have hsv:=KZ hs hh
 have hol:=ZeI ho
 refine aa Tp ?_ (hok:=oF (GK s.zone (sj hsv)))
 refine ae ?_
 refine aa Tp ?_
 refine ah ?_
 refine lp (α:=(Nat)×(Zon)×Nat) [2,6,11,81,82] (λ⟨k,w,nx⟩=>(k<=o.deltas.length)/\(54<nx)/\(mQ s.zone o.deltas k=(w,0))/\True) (λ⟨k,w,nx⟩=>o.deltas.length-k) (λ⟨k,w,nx⟩=>[(83,.i k)]) (λ⟨k,w,nx⟩=>[(0,⟨49,[s.d]⟩),(1,⟨109,[o.d]⟩),(2,⟨49,[[.b false,.v (.string (bs [])),.list true [],.i 0]]⟩),(54,⟨24,[w.d]⟩)]) (λ⟨k,w,nx⟩=>nx) (0,s.zone,_) (hA:=⟨iv,iv,rfl,trivial⟩) (round:=?_)
 rintro⟨k,w,nx⟩ ⟨hk,hx,ha, -⟩
 simp only[XY,XZ]
 have n0:0<nx:=by omega
 have n1:1<nx:=by omega
 have n2:2<nx:=by omega
 have ff:=qE @hx @n0 @n1 @n2 ff
 refine aa Tp ?_
 refine ae ?_
 refine cd ?_ ?_ (hp:=rfl)<;>intro c6
 .
  have hk2:k<o.deltas.length:=by simpa using c6
  have ff:=qA (Jj hk2) ff;refine aj ?_;refine ae ?_;refine ah ?_;refine aa Tp ?_
  rcases hap:ed w o.deltas[k]! with⟨x,e1⟩
  have ff:=qA @hap ff;refine aa Tp ?_ (hok:=oF (Zjd (hf k hk2) hap));refine oK Tp ?_ ?_<;>intro c7
  .
   have he1:e1≠0:=by grind
   have hst:mQ s.zone o.deltas (k+1)=(x,e1):=by rw[Oq (by rw[ha]),ha];exact hap
   have hsp:=Xp (z:=s.zone) (l:=o.deltas) (k:=k+1) (by rw[hst];exact he1) o.deltas.length (by omega)
   refine aa Tp ?_;exact fo 3 (k:=by rw[kw,XV p1,XV p2,XV p3,XV (by rw[hfu];exact Bool.noConfusion),hsp,hst,X3 he1];try rfl)
  obtain rfl:e1=0:=by grind
  refine ai Tp ?_;refine ai Tp ?_
  show ∃_,_
  exact ay (k+1,x,_) (h1:=⟨iv,iv,(by(try dsimp only);rw[Oq (by rw[ha]),ha];exact hap),trivial⟩)
 have e8:k=o.deltas.length:=by omega
 subst e8
 refine aK ?_
 refine aa Tp ?_
 exact fo 3 (k:=by rw[kw,XV p1,XV p2,XV p3,XV (by rw[hfu];exact Bool.noConfusion),ha,XV (λq=>q rfl)];try rfl)
def Za9(s:gN)(l:List Zon)(t:Int):PureCt prog 14 [.agg s.d,.list false (l.map Zon.d),.i t] (.tuple [.agg (kL s l t).1.d,.i (kL s l t).2]):=by
 refine oO func14 λff=>?_
 unfold f14
 refine aa Tp ?_
 refine oK Tp ?_ ?_ (hok:=oH (Pn s))<;>intro c1
 . refine aa Tp ?_;exact fo 3 (k:=by rw[kL,if_pos (by grind)];try rfl)
 have hs:lI s=true:=by grind
 refine aa Tp ?_
 refine ae ?_
 rcases hsv:jg l s.has (wz s)with⟨x,e0⟩
 have CZ:=Zcw hsv
 rcases fOrT s.has with hh|hh
 .
  have hss:wz s=0:=by unfold wz;rw[hh];try rfl
  have EU:jg l s.has 0=(x,e0):=by rw[hss]at hsv;exact hsv
  have ff:=qA @EU ff;refine aa Tp ?_;refine cd ?_ ?_ (hp:=rfl)<;>intro c2
  . exfalso;rw[hh]at c2;cases c2
  refine aj ?_;refine aa Tp ?_ (hok:=oF (Pp EU));refine oK Tp ?_ ?_<;>intro c3
  . refine aa Tp ?_;exact fo 3 (k:=o2h)
  refine aa Tp ?_ (hok:=o0n)
  exact fo 3 (k:=o2i)
 have hss:wz s=aL s.zone:=by unfold wz;rw[hh];try rfl
 have hsz:=KZ hs hh
 have EU:jg l s.has (aL s.zone)=(x,e0):=by rw[hss]at hsv;exact hsv
 have ff:=qB @hsz @EU ff
 refine aa Tp ?_
 refine cd ?_ ?_ (hq:=rfl)<;>intro c2
 .
  refine ai Tp ?_ (hok:=oF (nX hsz));refine aa Tp ?_ (hok:=oF (Pp EU));refine oK Tp ?_ ?_<;>intro c3
  . refine aa Tp ?_;exact fo 3 (k:=o2h)
  refine aa Tp ?_ (hok:=o0n)
  exact fo 3 (k:=o2i)
 exfalso;rw[hh]at c2;cases c2
def ZhT{α:Type}(l:List α)(i:Nat)(h:i<l.length):(l.take (0+i)++(l.drop (i+1)).take (l.length-(i+1))++l.drop (0+i+(l.length-(i+1)))).take (l.length-1)=l.eraseIdx i:=by
 have e1:(l.drop (i+1)).take (l.length-(i+1))=l.drop (i+1):=Ym (by simp)
 rw[e1,Nat.zero_add,List.eraseIdx_eq_take_drop_succ,List.take_append_of_le_length (by simp;omega),Ym (by simp;omega)]
def ZhU{α:Type}(l:List α)(i:Nat)(h:i<l.length):(l.take (0+i)++(l.drop (i+1)).take (l.length-(i+1))++l.drop (0+i+(l.length-(i+1)))).length=l.length:=by
 simp;omega
def ins_a{α:Type}(l:List α)(x:α)(i:Nat)(h:i<l.length):(l.take (i+1)++((l.drop i).take (l.length-i)++l.drop (i+(1+(l.length-i))))).take i++x::(l.take (i+1)++((l.drop i).take (l.length-i)++l.drop (i+(1+(l.length-i))))).drop (i+1)=l.take i++x::l.drop i:=by
 have e1:(l.drop i).take (l.length-i)=l.drop i:=Ym (by simp)
 have e2:l.drop (i+(1+(l.length-i)))=[]:=List.drop_of_length_le om
 rw[e1,e2,Yx,List.take_append_of_le_length (by simp;omega),List.take_take,List.drop_append_of_le_length (by simp;omega),List.drop_of_length_le (l:=l.take (i+1)) (by simp;omega)]
 rw[show min i (i+1)=i from by omega]
 simp
def ins_c{α:Type}(l z:List α)(x:α)(i:Nat)(h:i<l.length)(hz:z.length=l.length+1-i):(((l.take i++z).take i++x::(l.take i++z).drop (i+1)).take (i+1))++((l.drop i).take (l.length-i)++((l.take i++z).take i++x::(l.take i++z).drop (i+1)).drop (i+1+(l.length-i)))=l.take i++x::l.drop i:=by
 have e1:(l.drop i).take (l.length-i)=l.drop i:=Ym (by simp)
 have e0:(l.take i).length=i:=by simp;omega
 have e2:((l.take i++z).take i)=l.take i:=by rw[List.take_append_of_le_length (by omega),Ym (by omega)]
 have e3:l.take i++x::(l.take i++z).drop (i+1)=l.take i++[x]++(l.take i++z).drop (i+1):=by simp
 simp only[e1,e2,e3]
 have e4:(l.take i++[x]).length=i+1:=by simp;omega
 rw[List.take_append_of_le_length (by omega),Ym (by omega)]
 have e5:(l.take i++[x]++(l.take i++z).drop (i+1)).length=l.length+1:=by simp[hz];omega
 rw[List.drop_of_length_le (l:=l.take i++[x]++(l.take i++z).drop (i+1)) (by omega)]
 simp
def ZiQ(l:List (List D))(i m n0:Nat)(h:H)(n r:Nat)(hm:m=l.length)(hi:i<l.length)(hi2:n0=i+1)(hl:l.length<=1000000)(hr:h r=some ⟨84,l⟩)(hc : ∀q∈l,q.length=5):bT prog 164 [.mrow r 0 m,.i i,.i n0] h n (λd h' n'=>d = .mrow r 0 (l.length-1)/\h'=upd h r (some ⟨84,l.eraseIdx i⟩)/\n<=n'):=by
 refine oP func164 λhnone ff=>?_
 unfold f164
 subst hm
 subst hi2
 have hE1:((l.length:Int)-((i+1:Nat):Int)).toNat=l.length-(i+1):=by omega
 have hE2:((i:Int)-((0:Nat):Int)).toNat=i:=by omega
 have hE3:(List.take (l.length-(i+1)) (List.drop (i+1) l)).length=l.length-(i+1):=by simp
 have hE4:i+(l.length-(i+1))=l.length-1:=by omega
 have Fx:=ZhT l i hi
 have hE6:=ZhU l i hi
 have ff:=qF @hr @hE1 @hE2 @hE3 @hE4 ff
 refine aa Tp ?_
 refine bY ?_
 refine Zha Tp 5 ?_
 refine aP Tp ?_
 try simp only[aH]
 refine oK Tp ?_ ?_ (hp:=rfl)<;>intro c1
 . exfalso;simp at c1;omega
 refine aa Tp ?_
 refine ae ?_
 refine zU Tp 6 ?_
 refine Zhq Tp 6 (news:=(l.drop (i+1)).take (l.length-(i+1))) (hrl:=by intro q hq;rw[hc q (List.mem_of_mem_drop (List.mem_of_mem_take hq))];rfl) ?_
 refine aP Tp ?_
 try simp only[aH]
 refine bY ?_
 refine Zhc Tp 4 (l.length-1) l.length ?_
 refine Zho Tp 5 ?_
 refine aP Tp ?_
 try simp only[aH]
 refine aa Tp ?_
 refine aN ?_
 exact bZ (upd h r (some ⟨84,l.eraseIdx i⟩)) (hr:=oS (k:=by first|omega|exact⟨rfl,rfl,om⟩|exact⟨rfl,om⟩)) (hh:=by rw[<-Fx];intro q;left;simp only[upd];split<;>simp_all)
def ZgR(l:List (List D))(x:List D)(i m:Nat)(h:H)(n r r2:Nat)(hm:m=l.length)(hi:i<=l.length)(hl:l.length<=1000000)(hr:h r=some ⟨84,l⟩)(hr2:h r2=some ⟨84,[x]⟩)(hne:r≠r2)(hx:x.length=5)(hc : ∀q∈l,q.length=5):bT prog 166 [.mrow r 0 m,.i i,.mrow r2 0 1] h n (λd h' n'=>∃r',d = .mrow r' 0 (l.length+1)/\h' r'=some ⟨84,(l.take i++x::l.drop i)⟩/\(r'=r\/n<=r'/\r'<n')/\(∀q,q≠r->q<n->h' q=h q)/\n<=n'):=by
 refine oP func166 λhnone ff=>?_
 unfold f166
 subst hm
 have hrn:r<n:=by rcases YE r n with q|q;exact q;rw[hnone r q]at hr;cases hr
 have hrn2:r2<n:=by rcases YE r2 n with q|q;exact q;rw[hnone r2 q]at hr2;cases hr2
 have hf1 : ∀k,r≠n+k:=λk=>by omega
 have hf2 : ∀k,r2≠n+k:=λk=>by omega
 have hne2:r2≠r:=λq=>hne q.symm
 have hE0:((1:Nat):Int)=1:=rfl
 have hE1:((l.length:Int)-(i:Int)).toNat=l.length-i:=by omega
 have hE2:((i:Int)-((0:Nat):Int)).toNat=i:=by omega
 have hE3:((l.length:Int)+1-(i:Int))=((l.length+1-i:Nat):Int):=by omega
 have hE4:((i:Int)+1).toNat=i+1:=by omega
 have Fx:i+(l.length+1-i)=l.length+1:=by omega
 have hE6:((l.length:Int)+1)=((l.length+1:Nat):Int):=by omega
 have hE7:((i:Int)+1)=((i+1:Nat):Int):=by omega
 have hE8:(((l.length+1:Nat):Int)-((i+1:Nat):Int)).toNat=l.length-i:=by omega
 have hE9:(((l.length+1:Nat):Int)-(i:Int)).toNat=l.length+1-i:=by omega
 have ff:=qI @hr @hr2 @hne @hne2 @hf1 @hf2 @hE1 @hE2 ff
 refine oD Tp ?_
 refine oK Tp ?_ ?_ (hp:=rfl)<;>intro c1
 . exfalso;simp at c1
 refine aa Tp ?_
 refine oK Tp ?_ ?_ (hp:=rfl) (hq:=rfl)<;>intro c2
 .
  have hi9:i=l.length:=by have:(i:Int)=(l.length:Int):=(by simpa using c2);omega
  refine bY ?_;refine UU Tp 2 (r:=r) o5r (hrl:=by intro q hq;simp at hq;subst hq;exact hx) (hby:=by rw[show(prog).bytesOf 84=80 from rfl];simp;omega) (h63:=by simp;omega) ?_
  refine aP Tp ?_
  try simp only[aH]
  refine aN ?_;exact bZ (_) (hh:=λ_=>.inl rfl) (hr:=oS (k:=by exact⟨_,rfl,by rw[hi9];simp[upd],.inr (by omega),λq h1 h2=>by simp only[upd];repeat rw[XV (by omega)],om⟩))
 have hi9:i<l.length:=by have : ¬(i:Int)=(l.length:Int):=(by simpa using c2);omega
 refine ae ?_
 refine bY ?_
 refine M4 Tp 4 (λc hc1 hc2=>?_)
 refine aP Tp ?_
 try simp only[aH]
 refine cd ?_ ?_<;>intro c3
 .
  have ff:=qB @hE0 @hE3 ff;refine bY ?_;refine Zhp Tp 8 (r:=r) (off:=0) (n:=i) (c:=c) (kk:=.i64) (l.length+1-i) rfl (by omega) (by rw[show(prog).bytesOf 84=80 from rfl];omega) (by omega) ?_
  refine aP Tp ?_
  try simp only[aH]
  refine bY ?_;refine BC Tp 4 1 ?_;refine aP Tp ?_
  try simp only[aH]
  have ff:=qA @hE0 ff;refine ae ?_;refine zU Tp 8 ?_;refine BC Tp 8 (l.length-i) ?_;refine aP Tp ?_
  try simp only[aH]
  refine aa Tp ?_;refine aN ?_;exact bZ (_) (hh:=λ_=>.inl rfl) (hr:=oS (k:=by exact⟨n+29,by simp[Fx],by simp[upd];exact ins_c l _ x i hi9 (by simp),.inr (by omega),λq h1 h2=>by simp only[upd];repeat rw[XV (by omega)],om⟩))
 refine aj ?_
 have ff:=qA @hE6 ff
 refine bY ?_
 refine MR Tp 4 (r:=r) (off:=0) (c:=c) (l.length+1) rfl (by have:(l.length:Int)+1<=(c:Int):=(by simpa using c3);omega) ?_
 refine aP Tp ?_
 try simp only[aH]
 refine ae ?_
 have ff:=qD @hE0 @hE7 @hE8 ff
 refine bY ?_
 refine Zhr Tp 6 (aW:=227) (t:=22) (u:=4) (r:=r2) (r2:=r) (λq=>hne q.symm) ?_
 refine aP Tp ?_
 try simp only[aH]
 refine cd ?_ ?_ (hq:=rfl)<;>intro c4
 .
  have ff:=qA @hE9 ff;refine ae ?_;refine zU Tp 8 ?_;refine BC Tp 8 (l.length-i) ?_;refine aP Tp ?_
  try simp only[aH]
  refine bY ?_;refine BC Tp 4 1 ?_;refine aP Tp ?_
  try simp only[aH]
  refine aa Tp ?_;refine aN ?_;exact bZ (_) (hh:=λ_=>.inl rfl) (hr:=oS (k:=by exact⟨r,rfl,by simp[upd];exact ins_a l x i hi9,.inl rfl,λq h1 h2=>by simp only[upd];repeat rw[XV (by omega)],om⟩))
 exfalso;simp at c4
def Zas(s:Sgd):PureCt prog 99 [.agg s.d] (.b (sV s)):=by
 refine oO func99 λff=>?_
 unfold f99
 refine oC Tp ?_
 exact fo 2 (k:=by simp[sV,dQ];rw[YK];simp)
def ZaM(s:Sgd)(n:Chg):PureCt prog 101 [.agg s.d,.eptr n.d] (.b (dQ n.set.name s)):=by
 refine oO func101 λff=>?_
 unfold f101
 refine oC Tp ?_
 exact fo 2 (k:=by simp[sV,dQ];rw[YK];simp)
def Pe(s:Sgd)(t:RSet):PureCt prog 177 [.agg s.d,.eptr t.d] (.b (dQ t.name s)):=by
 refine oO func177 λff=>?_
 unfold f177
 refine oC Tp ?_
 exact fo 2 (k:=by simp[sV,dQ];rw[YK];simp)
def ZaH(l:List Sgd)(hl:l.length<=1000000):PureCt prog 156 [.list false (l.map Sgd.d),.fn (.func 99) [] []] (.i (dR (sV) l 0)):=by
 refine oO func156 λff=>?_
 unfold f156
 refine aa Tp ?_
 refine ae ?_
 refine aa Tp ?_
 refine ah ?_
 refine lp (α:=(Nat)×Nat) [0,1,7] (λ⟨k,nx⟩=>(k<=l.length)/\(dR (sV) l 0=dR (sV) l k)/\True) (λ⟨k,nx⟩=>l.length-k) (λ⟨k,nx⟩=>[(8,.i k)]) (λ⟨k,nx⟩=>[]) (λ⟨k,nx⟩=>nx) (0,_) (hA:=⟨iv,rfl,trivial⟩) (round:=?_)
 rintro⟨k,nx⟩ ⟨hk,hv, -⟩
 simp only[XY,XZ]
 refine aa Tp ?_
 refine ae ?_
 refine cd ?_ ?_ (hp:=rfl)<;>intro c1
 .
  have hk2:k<l.length:=by simpa using c1
  have ff:=qA (dB hk2) ff;refine aj ?_;refine ae ?_;refine ah ?_;refine aa Tp ?_;refine aa Tp ?_ (hok:=oH (Zas l[k]!));refine cd ?_ ?_<;>intro c2
  . refine aa Tp ?_;exact fo 0 (k:=by rw[hv,FN hk2 c2])
  refine aj ?_;refine ai Tp ?_
  show ∃_,_
  exact ay (k+1,_) (h1:=⟨iv,o4a,trivial⟩)
 refine aK ?_
 refine aa Tp ?_
 exact fo 0 (k:=o5m)
def ZaJ(l:List Sgd)(hl:l.length<=1000000)(n:Chg):PureCt prog 156 [.list false (l.map Sgd.d),.fn (.func 101) [] [.eptr n.d]] (.i (dR (dQ n.set.name) l 0)):=by
 refine oO func156 λff=>?_
 unfold f156
 refine aa Tp ?_
 refine ae ?_
 refine aa Tp ?_
 refine ah ?_
 refine lp (α:=(Nat)×Nat) [0,1,7] (λ⟨k,nx⟩=>(k<=l.length)/\(dR (dQ n.set.name) l 0=dR (dQ n.set.name) l k)/\True) (λ⟨k,nx⟩=>l.length-k) (λ⟨k,nx⟩=>[(8,.i k)]) (λ⟨k,nx⟩=>[]) (λ⟨k,nx⟩=>nx) (0,_) (hA:=⟨iv,rfl,trivial⟩) (round:=?_)
 rintro⟨k,nx⟩ ⟨hk,hv, -⟩
 simp only[XY,XZ]
 refine aa Tp ?_
 refine ae ?_
 refine cd ?_ ?_ (hp:=rfl)<;>intro c1
 .
  have hk2:k<l.length:=by simpa using c1
  have ff:=qA (dB hk2) ff;refine aj ?_;refine ae ?_;refine ah ?_;refine aa Tp ?_;refine aa Tp ?_ (hok:=oH (ZaM l[k]! n));refine cd ?_ ?_<;>intro c2
  . refine aa Tp ?_;exact fo 0 (k:=by rw[hv,FN hk2 c2])
  refine aj ?_;refine ai Tp ?_
  show ∃_,_
  exact ay (k+1,_) (h1:=⟨iv,o4a,trivial⟩)
 refine aK ?_
 refine aa Tp ?_
 exact fo 0 (k:=o5m)
def ZaI(l:List Sgd)(hl:l.length<=1000000)(t:RSet):PureCt prog 156 [.list false (l.map Sgd.d),.fn (.func 177) [] [.eptr t.d]] (.i (dR (dQ t.name) l 0)):=by
 refine oO func156 λff=>?_
 unfold f156
 refine aa Tp ?_
 refine ae ?_
 refine aa Tp ?_
 refine ah ?_
 refine lp (α:=(Nat)×Nat) [0,1,7] (λ⟨k,nx⟩=>(k<=l.length)/\(dR (dQ t.name) l 0=dR (dQ t.name) l k)/\True) (λ⟨k,nx⟩=>l.length-k) (λ⟨k,nx⟩=>[(8,.i k)]) (λ⟨k,nx⟩=>[]) (λ⟨k,nx⟩=>nx) (0,_) (hA:=⟨iv,rfl,trivial⟩) (round:=?_)
 rintro⟨k,nx⟩ ⟨hk,hv, -⟩
 simp only[XY,XZ]
 refine aa Tp ?_
 refine ae ?_
 refine cd ?_ ?_ (hp:=rfl)<;>intro c1
 .
  have hk2:k<l.length:=by simpa using c1
  have ff:=qA (dB hk2) ff;refine aj ?_;refine ae ?_;refine ah ?_;refine aa Tp ?_;refine aa Tp ?_ (hok:=oH (Pe l[k]! t));refine cd ?_ ?_<;>intro c2
  . refine aa Tp ?_;exact fo 0 (k:=by rw[hv,FN hk2 c2])
  refine aj ?_;refine ai Tp ?_
  show ∃_,_
  exact ay (k+1,_) (h1:=⟨iv,o4a,trivial⟩)
 refine aK ?_
 refine aa Tp ?_
 exact fo 0 (k:=o5m)
def Za0(l:List Sgd)(hl:l.length<=1000000):PureCt prog 98 [.list false (l.map Sgd.d),.fn (.func 99) [] []] (.b (decide (0<=dR (sV) l 0))):=by
 refine oO func98 λff=>?_
 unfold f98
 refine aa Tp ?_
 refine aa Tp ?_ (hok:=oH (ZaH l hl))
 exact fp 0
def GA(l:List Sgd)(hl:l.length<=1000000)(n:Chg):PureCt prog 98 [.list false (l.map Sgd.d),.fn (.func 101) [] [.eptr n.d]] (.b (decide (0<=dR (dQ n.set.name) l 0))):=by
 refine oO func98 λff=>?_
 unfold f98
 refine aa Tp ?_
 refine aa Tp ?_ (hok:=oH (ZaJ l hl n))
 exact fp 0
def Zar(z:Zon)(hl:z.sets.length<=1000000):PureCt prog 47 [.agg z.d] (.b (jE z)):=by
 refine oO func47 λff=>?_
 unfold f47
 refine aa Tp ?_
 refine aa Tp ?_ (hok:=oH (Za0 _ hl))
 exact fo 0 (k:=by rw[Zed])
def Zaw(n:Chg):PureCt prog 96 [.agg n.d] (.b (ja n)):=by
 refine oO func96 λff=>?_
 unfold f96
 refine aa Tp ?_
 refine oK Tp ?_ ?_ (hok:=oH zl)<;>intro c1
 . refine aa Tp ?_;exact fo 0 (k:=o5e)
 refine ae ?_
 refine aa Tp ?_
 refine ah ?_
 refine oL Tp ?_ ?_<;>intro c2
 .
  refine cd ?_ ?_<;>intro c3
  . refine aa Tp ?_;exact fo 0 (k:=o5e)
  refine oL Tp ?_ ?_<;>intro c4
  .
   refine cd ?_ ?_<;>intro c5
   . refine aa Tp ?_;exact fo 0 (k:=o5e)
   refine aa Tp ?_;refine cd ?_ ?_<;>intro c6
   . refine aa Tp ?_ (hok:=ig @uW);exact fo 0 (k:=o5e)
   refine aj ?_;refine aa Tp ?_;exact fo 0 (k:=o5e)
  refine ai Tp ?_;refine cd ?_ ?_<;>intro c7
  . refine aa Tp ?_;exact fo 0 (k:=o5e)
  refine aa Tp ?_;refine cd ?_ ?_<;>intro c8
  . refine aa Tp ?_ (hok:=ig @uW);exact fo 0 (k:=o5e)
  refine aj ?_;refine aa Tp ?_;exact fo 0 (k:=o5e)
 refine ai Tp ?_
 refine cd ?_ ?_<;>intro c9
 . refine aa Tp ?_;exact fo 0 (k:=o5e)
 refine oL Tp (λc10=>?_) (λc10=>?_)
 .
  refine cd (λc11=>?_) (λc11=>?_)
  . refine aa Tp ?_;exact fo 0 (k:=o5e)
  refine aa Tp ?_;refine cd (λc12=>?_) (λc12=>?_)
  . refine aa Tp ?_ (hok:=ig @uW);exact fo 0 (k:=o5e)
  refine aj ?_;refine aa Tp ?_;exact fo 0 (k:=o5e)
 refine ai Tp ?_
 refine cd (λc13=>?_) (λc13=>?_)
 . refine aa Tp ?_;exact fo 0 (k:=o5e)
 refine aa Tp ?_
 refine cd (λc14=>?_) (λc14=>?_)
 . refine aa Tp ?_ (hok:=ig @uW);exact fo 0 (k:=o5e)
 refine aj ?_
 refine aa Tp ?_
 exact fo 0 (k:=o5e)
def ZaW(c:Chg):PureCt prog 97 [.agg c.d] (.b (fZ c)):=by
 refine oO func97 λff=>?_
 unfold f97
 refine aa Tp ?_
 refine oK Tp ?_ ?_ (hok:=oH zl)<;>intro c1
 . refine aa Tp ?_;exact fo 0 (k:=o5f)
 refine ae ?_
 refine aa Tp ?_
 refine ah ?_
 refine oL Tp ?_ ?_<;>intro c2
 .
  refine cd ?_ ?_<;>intro c3
  . refine aa Tp ?_ (hok:=oH uW);exact fo 0 (k:=o5f)
  refine aa Tp ?_;refine cd ?_ ?_<;>intro c4
  . refine aa Tp ?_;exact fo 0 (k:=o5f)
  refine aa Tp ?_;refine cd ?_ ?_<;>intro c5
  . refine aa Tp ?_;exact fo 0 (k:=o5f)
  refine aj ?_;refine aa Tp ?_;exact fo 0 (k:=o5f)
 refine ai Tp ?_
 refine cd ?_ ?_<;>intro c6
 . refine aa Tp ?_ (hok:=oH uW);exact fo 0 (k:=o5f)
 refine aa Tp ?_
 refine cd ?_ ?_<;>intro c7
 . refine aa Tp ?_;exact fo 0 (k:=o5f)
 refine aa Tp ?_
 refine cd ?_ ?_<;>intro c8
 . refine aa Tp ?_;exact fo 0 (k:=o5f)
 refine aj ?_
 refine aa Tp ?_
 exact fo 0 (k:=o5f)
def O4(n:Str)(a:Str):PureCt prog 48 [.v (.string (bs n)),.v (.string (bs a))] (.b (kr n a)):=by
 refine oO func48 λff=>?_
 unfold f48
 refine aa Tp ?_
 refine aa Tp ?_ (hok:=oH LK)
 refine aa Tp ?_
 exact fp 1
def Ea(s:Sgd)(n:Str)(t:Int):PureCt prog 160 [.agg s.d,.v (.string (bs n)),.eptr [.i t]] (.i (qC s.q ⟨n,t⟩)):=by
 refine oO func160 λff=>?_
 unfold f160
 refine aa Tp ?_
 refine oK Tp ?_ ?_<;>intro c1
 . refine aa Tp ?_ (hok:=oH LV);refine aa Tp ?_;exact fo 2 (k:=by simp[qC,Sgd.q];grind)
 refine aa Tp ?_ (hok:=oH F5)
 exact fo 2 (k:=by simp[qC,Sgd.q];grind)
def sG(a b:List Dat)(hl:a.length<=1000000):PureCt prog 77 [.list false (a.map Dat.d),.list false (b.map Dat.d)] (.b (kH a b)):=FR a b hl
def Za1(l:List Sgd)(n:Str)(t:Int)(hl:l.length<=1000000):PureCt prog 159 [.list false (l.map Sgd.d),.v (.string (bs n)),.fn (.func 160) [] [.eptr [.i t]]] (.tuple [.i (bg l ⟨n,t⟩),.b (di l ⟨n,t⟩)]):=by
 refine oO func159 λff=>?_
 unfold f159
 refine oD Tp ?_
 refine ae ?_
 refine ah ?_
 refine lp (α:=(Nat)×(Nat)×Nat) [0,1,2,8] (λ⟨i,j,nx⟩=>(i<=j)/\(j<=l.length)/\(bg l ⟨n,t⟩=pF (λk=>qC l[k]!.q ⟨n,t⟩) i j)/\True) (λ⟨i,j,nx⟩=>j-i) (λ⟨i,j,nx⟩=>[(9,.i i),(10,.i j)]) (λ⟨i,j,nx⟩=>[]) (λ⟨i,j,nx⟩=>nx) (0,l.length,_) (hA:=⟨iv,iv,rfl,trivial⟩) (round:=?_)
 rintro⟨i,j,nx⟩ ⟨hij,hj,hv, -⟩
 simp only[XY,XZ]
 refine oL Tp ?_ ?_ (hp:=rfl)<;>intro c1
 .
  have hk2:i<j:=by simpa using c1
  have hm:(i+j) / 2<l.length:=by omega
  have ff:=qB (SY (i:=i) (j:=j) (by omega)) (dB hm) ff
  refine ah ?_;refine aa Tp ?_;refine aa Tp ?_ (hok:=oH (Ea l[(i+j) / 2]! n t));refine cd ?_ ?_<;>intro c2
  .
   refine ai Tp ?_
   show ∃_,_
   exact ay ((i+j) / 2+1,j,_) (h1:=⟨iv,iv,((Dq hv hk2).1 c2),trivial⟩)
  refine ai Tp ?_
  show ∃_,_
  exact ay (i,(i+j) / 2,_) (h1:=⟨iv,iv,(by(try dsimp only);exact(Dq hv hk2).2 om),trivial⟩)
 refine aK ?_
 have hij2:i=j:=by have h9 : ¬i<j:=(by simpa using c1);omega
 have hv2:bg l ⟨n,t⟩=i:=by rw[hv,BP,XV (by omega)]
 by_cases hk4:i<l.length
 .
  have ff:=qA (dB hk4) ff;refine aa Tp ?_ (hok:=o0w)
  exact fo 2 (k:=o4u)
 have ff:=qA (MZ (f:=Sgd.d) (Nat.le_of_not_lt hk4)) ff
 refine aa Tp ?_ (hok:=o0w)
 exact fo 2 (k:=o4u)
def sF(z:Zon)(n:Str)(t:Int)(hl:z.sets.length<=1000000):PureCt prog 102 [.agg z.d,.v (.string (bs n)),.i t] (.tuple [.i (bg z.sets ⟨n,t⟩),.b (di z.sets ⟨n,t⟩)]):=by
 refine oO func102 λff=>?_
 unfold f102
 refine aa Tp ?_
 refine qJ 5 1 ev ev (by rfl) ?_
 refine aa Tp ?_ (hok:=oH (Za1 _ n t hl))
 exact fp 2
def Kq(a:Sgd)(b:Sgd)(ha:a.set.data.length<=1000000):PureCt prog 107 [.agg a.d,.agg b.d] (.b (decide (a.set=b.set))):=by
 refine oO func107 λff=>?_
 unfold f107
 refine aa Tp ?_
 refine aa Tp ?_ (hok:=oH (sG _ _ ha))
 exact fo 0 (k:=by unfold kH;rw[ZhW])
def ZaK(l:List Dat)(x:Dat)(hl:l.length<=1000000):PureCt prog 233 [.list false (l.map Dat.d),.agg x.d] (.i (dR (λy=>decide (x=y)) l 0)):=by
 refine oO func233 λff=>?_
 unfold f233
 refine aa Tp ?_
 refine ae ?_
 refine aa Tp ?_
 refine ah ?_
 refine lp (α:=(Nat)×Nat) [0,3,7] (λ⟨k,nx⟩=>(k<=l.length)/\(0<nx)/\(dR (λy=>decide (x=y)) l 0=dR (λy=>decide (x=y)) l k)/\True) (λ⟨k,nx⟩=>l.length-k) (λ⟨k,nx⟩=>[(8,.i k)]) (λ⟨k,nx⟩=>[(0,⟨57,[x.d]⟩)]) (λ⟨k,nx⟩=>nx) (0,_) (hA:=⟨iv,iv,rfl,trivial⟩) (round:=?_)
 rintro⟨k,nx⟩ ⟨hk,hx,hv, -⟩
 simp only[XY,XZ]
 have ff:=qA @hx ff
 refine aa Tp ?_
 refine ae ?_
 refine cd ?_ ?_ (hp:=rfl)<;>intro c1
 .
  have hk2:k<l.length:=by simpa using c1
  have ff:=qA (o9 hk2) ff;refine aj ?_;refine ae ?_;refine ah ?_;refine oC Tp ?_;refine cd ?_ ?_<;>intro c2
  . refine aa Tp ?_;exact fo 0 (k:=by rw[hv,FN hk2 (YG (JR c2))])
  refine aj ?_;refine ai Tp ?_
  show ∃_,_
  exact ay (k+1,_) (h1:=⟨iv,iv,(by(try dsimp only);rw[hv,FO hk2 (by rw[decide_eq_false_iff_not];rintro rfl;simp at c2)]),trivial⟩)
 refine aK ?_
 refine aa Tp ?_
 exact fo 0 (k:=o5m)
def ZaS(l:List Dat)(x:Dat)(hl:l.length<=1000000):PureCt prog 173 [.list false (l.map Dat.d),.agg x.d] (.b (dU l x)):=by
 refine oO func173 λff=>?_
 unfold f173
 refine aa Tp ?_
 refine aa Tp ?_ (hok:=oH (ZaK l x hl))
 exact fo 0 (k:=by rw[Zg7])
def O5(x:Dat)(s:RSet)(hl:s.data.length<=1000000):PureCt prog 172 [.agg x.d,.eptr s.d] (.b (dU s.data x)):=by
 refine oO func172 λff=>?_
 unfold f172
 refine aa Tp ?_
 refine aa Tp ?_ (hok:=oH (ZaS s.data x hl))
 exact fp 2
def ZaG(l:List Dat)(s:RSet)(hl:l.length<=1000000)(hs:s.data.length<=1000000):PureCt prog 232 [.list false (l.map Dat.d),.fn (.func 172) [] [.eptr s.d]] (.i (dR (dU s.data) l 0)):=by
 refine oO func232 λff=>?_
 unfold f232
 refine aa Tp ?_
 refine ae ?_
 refine aa Tp ?_
 refine ah ?_
 refine lp (α:=(Nat)×Nat) [0,1,7] (λ⟨k,nx⟩=>(k<=l.length)/\(dR (dU s.data) l 0=dR (dU s.data) l k)/\True) (λ⟨k,nx⟩=>l.length-k) (λ⟨k,nx⟩=>[(8,.i k)]) (λ⟨k,nx⟩=>[]) (λ⟨k,nx⟩=>nx) (0,_) (hA:=⟨iv,rfl,trivial⟩) (round:=?_)
 rintro⟨k,nx⟩ ⟨hk,hv, -⟩
 simp only[XY,XZ]
 refine aa Tp ?_
 refine ae ?_
 refine cd ?_ ?_ (hp:=rfl)<;>intro c1
 .
  have hk2:k<l.length:=by simpa using c1
  have ff:=qA (o9 hk2) ff;refine aj ?_;refine ae ?_;refine ah ?_;refine aa Tp ?_;refine aa Tp ?_ (hok:=oH (O5 l[k]! s hs));refine cd ?_ ?_<;>intro c2
  . refine aa Tp ?_;exact fo 2 (k:=by rw[hv,FN hk2 c2])
  refine aj ?_;refine ai Tp ?_
  show ∃_,_
  exact ay (k+1,_) (h1:=⟨iv,o4a,trivial⟩)
 refine aK ?_
 refine aa Tp ?_
 exact fo 2 (k:=o5m)
def ZaU(a:Dat)(b:Dat):PureCt prog 168 [.agg a.d,.agg b.d] (.i (dV a b)):=by
 refine oO func168 λff=>?_
 unfold f168
 refine aa Tp ?_
 refine aa Tp ?_ (hok:=oJ WA F5 (WB [_,_,_]))
 exact fo 0 (k:=by rw[<-R9];rfl)
def pR{l:List Sgd}{k:Nat}(h:k<l.length):l[k]! ∈ l:=kQ.2 ⟨k,h,rfl⟩
def Zam(u:Upd):PureCt prog 46 [.agg u.d] (.b (jS u)):=by
 refine oO func46 λff=>?_
 unfold f46
 refine aa Tp ?_
 refine oK Tp ?_ ?_<;>intro c1
 . refine aa Tp ?_;exact fo 0 (k:=by simp only[jS];grind)
 refine ae ?_
 refine aa Tp ?_
 refine ah ?_
 refine lp (α:=(Nat)×Nat) [1,18,19] (λ⟨k,nx⟩=>(k<=u.needs.length)/\(aA u.needs.length ((λi=>ja u.needs[i]!)) 0=aA u.needs.length ((λi=>ja u.needs[i]!)) k)/\(0<nx)/\True) (λ⟨k,nx⟩=>u.needs.length-k) (λ⟨k,nx⟩=>[(20,.i k)]) (λ⟨k,nx⟩=>[(0,⟨68,[u.d]⟩)]) (λ⟨k,nx⟩=>nx) (0,_) (hA:=⟨iv,rfl,iv,trivial⟩) (round:=?_)
 rintro⟨k,nx⟩ ⟨hk,hv1,hx, -⟩
 simp only[XY,XZ]
 have ff:=qA @hx ff
 refine aa Tp ?_
 refine ae ?_
 refine cd ?_ ?_ (hp:=rfl)<;>intro c2
 .
  have hk2:k<u.needs.length:=by simpa using c2
  have ff:=qA (Dm hk2) ff;refine aj ?_;refine ae ?_;refine ah ?_;refine aa Tp ?_;refine aa Tp ?_ (hok:=oH (Zaw u.needs[k]!));refine cd ?_ ?_<;>intro c3
  . refine aa Tp ?_;exact fo 0 (k:=by have hF:((λi=>ja u.needs[i]!)) k=false:=(by simpa using c3);simp only[jS];rw[hv1,eF hk2 hF];try simp)
  refine aj ?_;refine ai Tp ?_
  show ∃_,_
  have h8:((λi=>ja u.needs[i]!)) k=true:=by simpa using c3
  exact ay (k+1,_) (h1:=⟨iv,o4p,iv,trivial⟩)
 refine aK ?_
 refine ae ?_
 refine aa Tp ?_
 refine ah ?_
 refine lp (α:=(Nat)×Nat) [29,30] (λ⟨k,nx⟩=>(k<=u.chgs.length)/\(aA u.chgs.length ((λi=>fZ u.chgs[i]!)) 0=aA u.chgs.length ((λi=>fZ u.chgs[i]!)) k)/\(0<nx)/\True) (λ⟨k,nx⟩=>u.chgs.length-k) (λ⟨k,nx⟩=>[(31,.i k)]) (λ⟨k,nx⟩=>[(0,⟨68,[u.d]⟩)]) (λ⟨k,nx⟩=>nx) (0,_) (hA:=⟨iv,rfl,iv,trivial⟩) (round:=?_)
 rintro⟨k,nx⟩ ⟨hk,hv,hx, -⟩
 simp only[XY,XZ]
 have ff:=qA @hx ff
 refine aa Tp ?_
 refine ae ?_
 refine cd ?_ ?_ (hp:=rfl)<;>intro c4
 .
  have hk2:k<u.chgs.length:=by simpa using c4
  have ff:=qA (Dm hk2) ff;refine aj ?_;refine ae ?_;refine ah ?_;refine aa Tp ?_;refine aa Tp ?_ (hok:=oH (ZaW u.chgs[k]!));refine cd ?_ ?_<;>intro c5
  . refine aa Tp ?_;exact fo 0 (k:=by have hF:((λi=>fZ u.chgs[i]!)) k=false:=(by simpa using c5);simp only[jS];rw[hv,eF hk2 hF];try simp)
  refine aj ?_;refine ai Tp ?_
  show ∃_,_
  have h8:((λi=>fZ u.chgs[i]!)) k=true:=by simpa using c5
  exact ay (k+1,_) (h1:=⟨iv,o4r,iv,trivial⟩)
 refine aK ?_
 refine aa Tp ?_
 exact fo 0 (k:=by simp only[jS];rw[hv1,hv,gW (n:=u.needs.length) (by omega),gW (by omega)];simp;grind)
def bo49:d9 prog 49=true:=by kernel_rfl
def ZaL(z:Zon)(n:Chg)(hl:z.sets.length<=1000000)(hd : ∀s∈z.sets,s.set.data.length<=1000000):PureCt prog 49 [.agg z.d,.agg n.d] (.b (qx z n)):=by
 refine za func49 rfl bo49 o5h (by simp[f49]) ?_
 unfold f49
 simp only[Bf]
 have ff:=True.intro
 refine aa Tp ?_
 refine ae ?_
 refine aa Tp ?_
 refine ah ?_
 refine ae ?_
 refine aa Tp ?_
 refine cd ?_ ?_<;>intro c1
 .
  refine aj ?_
  show DW _ _ _ _ _
  refine cd ?_ ?_<;>intro c2
  .
   refine qJ 3 1 ev ev (by simp[bA,D.nr,ow]) ?_
   refine aa Tp ?_ (hok:=o1i)
   refine aa Tp ?_;refine aN ?_;exact fin 2 (hr:=o1r)
  .
   refine aj ?_
   show DW _ _ _ _ _
   refine aa Tp ?_ (hok:=o1b)
   refine ae ?_;refine aa Tp ?_;refine ah ?_;refine aa Tp ?_;refine cd ?_ ?_<;>intro c3
   . refine aa Tp ?_;refine aN ?_;exact fin 2 (hr:=o1r)
   .
    refine aa Tp ?_;refine cd ?_ ?_<;>intro c4
    . refine aa Tp ?_;refine aN ?_;exact fin 2 (hr:=o1r)
    .
     refine aj ?_
     show DW _ _ _ _ _
     rcases hf:di z.sets ⟨n.set.name,n.set.ty⟩with _|_
     .
      have ff:=qA @hf ff;refine aa Tp ?_ (hok:=o0i)
      refine aN ?_;exact fin 2 (hr:=o1r)
     .
      have hf2:=Nn hf;have ff:=qB @hf (dB hf2) ff;refine aa Tp ?_ (hok:=o0i)
      refine aN ?_;exact fin 2 (hr:=o1r)
 .
  refine ai Tp ?_
  show DW _ _ _ _ _
  refine cd ?_ ?_<;>intro c5
  .
   refine qJ 3 1 ev ev (by simp[bA,D.nr,ow]) ?_
   refine aa Tp ?_ (hok:=o1i)
   refine aa Tp ?_;refine aN ?_;exact fin 2 (hr:=o1r)
  .
   refine aj ?_
   show DW _ _ _ _ _
   refine aa Tp ?_ (hok:=o1b)
   refine ae ?_;refine aa Tp ?_;refine ah ?_;refine aa Tp ?_;refine cd ?_ ?_<;>intro c6
   . refine aa Tp ?_;refine aN ?_;exact fin 2 (hr:=o1r)
   .
    refine aa Tp ?_;refine cd ?_ ?_<;>intro c7
    . refine aa Tp ?_;refine aN ?_;exact fin 2 (hr:=o1r)
    .
     refine aj ?_
     show DW _ _ _ _ _
     rcases hf:di z.sets ⟨n.set.name,n.set.ty⟩with _|_
     .
      have ff:=qA @hf ff;refine aa Tp ?_ (hok:=o0i)
      refine aN ?_;exact fin 2 (hr:=o1r)
     .
      have hf2:=Nn hf;have ff:=qB @hf (dB hf2) ff;refine aa Tp ?_ (hok:=o0i)
      refine aN ?_;exact fin 2 (hr:=o1r)
def ZjJ:d9 prog 106=true:=by kernel_rfl
def Ph(a:List Sgd)(b:List Sgd)(hl:a.length<=1000000)(hd : ∀s∈a,s.set.data.length<=1000000):PureCt prog 106 [.list false (a.map Sgd.d),.list false (b.map Sgd.d),.fn (.func 107) [] []] (.b (zP a b)):=by
 refine za func106 rfl ZjJ o5h (by simp[f106]) ?_
 unfold f106
 simp only[Bf]
 have ff:=True.intro
 refine aa Tp ?_
 refine oK Tp ?_ ?_<;>intro c1
 . refine aa Tp ?_;exact fo 0 (k:=by simp only[zP];rw[Y7 (by omega)];rfl)
 have hab:a.length=b.length:=by omega
 refine ae ?_
 refine aa Tp ?_
 refine ah ?_
 refine lp (α:=(Nat)×Nat) [1,2,15,16] (λ⟨k,nx⟩=>(k<=a.length)/\(aA a.length ((λi=>decide (a[i]!.set=b[i]!.set))) 0=aA a.length ((λi=>decide (a[i]!.set=b[i]!.set))) k)/\True) (λ⟨k,nx⟩=>a.length-k) (λ⟨k,nx⟩=>[(17,.i k)]) (λ⟨k,nx⟩=>[]) (λ⟨k,nx⟩=>nx) (0,_) (hA:=⟨iv,rfl,trivial⟩) (round:=?_)
 rintro⟨k,nx⟩ ⟨hk,hv, -⟩
 simp only[XY,XZ]
 refine aa Tp ?_
 refine ae ?_
 refine cd ?_ ?_ (hp:=rfl)<;>intro c2
 .
  have hk2:k<a.length:=by simpa using c2
  have hk3:k<b.length:=by omega
  have ff:=qB (dB hk2) (dB hk3) ff;refine aj ?_;refine ae ?_;refine ah ?_;refine oC Tp ?_;refine aa Tp ?_ (hok:=oH (Kq a[k]! b[k]! (hd _ (pR hk2))));refine cd ?_ ?_<;>intro c3
  . refine aa Tp ?_;exact fo 0 (k:=by have hF:(λi=>decide (a[i]!.set=b[i]!.set)) k=false:=(by simpa using c3);simp only[zP];rw[hv,eF hk2 hF];simp)
  refine aj ?_;refine ai Tp ?_
  show ∃_,_
  have h8:((λi=>decide (a[i]!.set=b[i]!.set))) k=true:=by simpa using c3
  exact ay (k+1,_) (h1:=⟨iv,o4r,trivial⟩)
 refine aK ?_
 refine aa Tp ?_
 exact fo 0 (k:=by simp only[zP];rw[hv,gW (by omega)];simp[hab])
@[go_sem]theorem Zmz{l:List Dat}:(∀r∈l.map Dat.d,r.length=3)=True:=by
 apply eq_true
 intro r hr
 obtain⟨x,_,rfl⟩:=Yr.1 hr
 rfl
def bo75q:d9 prog 75=true:=by kernel_rfl
def Pj(l:List Dat)(h0:0<l.length)(hl:l.length<=100000)(h:H)(n:Nat):bT prog 75 [.list false (l.map Dat.d)] h n (λd h' n'=>∃r',d = .mrow r' 0 l.length/\h'=upd h r' (some ⟨57,(l).map Dat.d⟩)/\n<=r'/\r'<n'):=by
 refine Lg func75 rfl bo75q (by simp[f75]) (λhnone=>?_)
 unfold f75
 have ff:=True.intro
 refine aa Tp ?_
 refine ae ?_
 refine ae (xe ?_)
 refine Em (C:=Tp) 1 (e:=57) om (dN rfl) rfl rfl (by kernel_rfl) o3y ?_ (by rfl) ev (λy hy=>?_)
 .
  try simp only[go_sem,ff]
  all_goals (first|done|(repeat' (with_reducible apply And.intro))<;>first|omega|(with_reducible assumption)|(intros;omega)|(intros;simp only[XX,X4,Yc,XU,Yd,Ya,Yq]at *;omega)|(simp_all;done)|(simp_all;omega))
 refine wy (C:=Tp) o5o o3y ?_ rfl ?_
 .
  try simp only[go_sem,ff]
  all_goals (first|done|(repeat' (with_reducible apply And.intro))<;>first|omega|(with_reducible assumption)|(intros;omega)|(intros;simp only[XX,X4,Yc,XU,Yd,Ya,Yq]at *;omega)|(simp_all;done)|(simp_all;omega))
 try simp only[aH]
 refine cd ?_ ?_ (hp:=rfl) (hq:=rfl)<;>intro c1
 . exact absurd (hy c1) (by cases l with|nil=>simp at h0|cons a b=>simp)
 refine aj ?_
 refine aa Tp ?_
 refine aN ?_
 exact bZ (upd h (n+5) (some ⟨57,(l).map Dat.d⟩)) (hr:=oS (k:=by exact⟨n+5,by simp,by simp,om,om⟩))
def ZaV(z:Zon)(hl:z.sets.length<=100000)(hd : ∀s∈z.sets,0<s.set.data.length/\s.set.data.length<=100000)(h:H)(n:Nat):bT prog 104 [.agg z.d] h n (λd h' n'=>∃rs p,d = .agg [.v (.string (bs z.apex)),.mrow rs 0 p.length]/\lP p=z.sets.map Sgd.bare/\h' rs=some ⟨84,p.map rowP⟩/\(∀x∈p,h' x.1=some ⟨57,x.2.set.data.map Dat.d⟩)/\(p.map (·.1)).Nodup/\(∀x∈p,x.1≠rs/\n<=x.1/\x.1<n')/\n<=rs/\rs<n'/\(∀q,q<n->h' q=h q)):=by
 refine oP func104 λhnone ff=>?_
 unfold f104
 refine oC Tp ?_
 refine ae ?_
 refine aa Tp ?_
 refine ah ?_
 refine jk (α:=(Nat)×(List PS)×Nat) [1,2,3,11,12] (λ⟨k,p,nx⟩=>(k<=z.sets.length)/\(n+5<nx)/\(lP p=(z.sets.take k).map Sgd.bare)/\((p.map (·.1)).Nodup)/\(∀x∈p,n+5<x.1/\x.1<nx)/\True) (λ⟨k,p,nx⟩=>z.sets.length-k) (λ⟨k,p,nx⟩=>[(13,.i k)]) (λ⟨k,p,nx⟩=>upd (upd (upd (zF 57 h p) n (some ⟨24,[z.d]⟩)) (n+1) (some ⟨24,[[.v (.string (bs [])),.list true []]]⟩)) (n+5) (some ⟨84,p.map rowP++List.replicate (z.sets.length-k) [.v (.string (bs [])),.i 0,.i 0,.list true [],.list true []]⟩)) (λ⟨k,p,nx⟩=>nx) (0,[],_) (hA:=⟨iv,iv,rfl,List.nodup_nil,(by first|(intro x mK;cases mK)|(dsimp only;intro x mK;cases mK)),trivial⟩) (round:=?_)
 rintro⟨k,p,nx⟩ ⟨hk,hx,hp,hnd,hpn, -⟩
 simp only[XY,XZ]
 have hpl:=Zf0 hp hk
 have ff:=qI @hx @hpl (nH n (n+1)) (nH n (n+5)) (nH n (nx+4)) (nH (n+1) (n+5)) (nH (n+1) (nx+4)) (nH (n+5) (nx+4)) ff
 refine aa Tp ?_
 refine ae ?_
 refine cd ?_ ?_ (hp:=rfl) (hq:=rfl)<;>intro c1
 .
  have hk2:k<z.sets.length:=by simpa using c1
  have ff:=qB (dB hk2) (Zdp (z:=[.v (.string (bs [])),.i 0,.i 0,.list true [],.list true []]) hpl hk2) ff;refine aj ?_;refine ae ?_;refine ah ?_;refine aa Tp ?_;refine ae (bI Tp 3 (hct:=by exact Pj _ (hd _ (pR hk2)).1 (hd _ (pR hk2)).2 _ _) (hk:=?_))
  rintro res h2 n2 ⟨r1,rfl,rfl,a1,b1⟩
  try dsimp only at a1 b1
  have ff:=qD @b1 (nH n (n+1)) (nH n (n+5)) (qI (nH n (nx+4)) (nH n r1) (nH (n+1) (n+5)) (nH (n+1) (nx+4)) (nH (n+1) r1) (nH (n+5) (nx+4)) (nH (n+5) r1) (nH (nx+4) r1) ff);refine bH Tp ?_;refine aa Tp ?_;refine ai Tp ?_;refine ai Tp ?_
  show ∃_,_
  refine ay (k+1,p++[(r1,z.sets[k]!.bare)],_) (h1:=⟨iv,iv,(by(try dsimp only);rw[ZjX hk2,<-hp];simp[lP]),(by(try dsimp only);exact Ze2 hnd λy hy=>by have:=hpn y hy;dsimp only;omega),(by(try dsimp only);intro x mK;rcases List.mem_append.1 mK with q|q;have:=hpn x q;omega;rw[List.mem_singleton]at q;subst q;dsimp only;omega),trivial⟩) (h5:=?_)
  have hst:=Zdk (x:=(r1,z.sets[k]!.bare)) (z:=[.v (.string (bs [])),.i 0,.i 0,.list true [],.list true []]) hpl hk2;intro q;dsimp only;simp only[go_sem,ff,ZgY]
  by_cases e4:q=nx+4
  .
   right;subst e4;simp only[upd];repeat rw[XV (by omega)]
   rw[I8 (λx mK=>by have:=hpn x mK;omega)];exact hnone _ (by omega)
  left;by_cases e5:q=n+5
  . subst e5;simp only[upd,Zl,XV e4];rw[<-hst];first|rfl|simp[rowP,Sgd.bare]
  simp only[upd,XV e4,XV e5];repeat (first|rfl|(split;first|rfl|omega|skip))
 have hk3:k=z.sets.length:=by have : ¬k<z.sets.length:=(by simpa using c1);omega
 refine aK ?_
 subst hk3
 refine oC Tp ?_
 refine aN ?_
 exact bZ (_) (hh:=λ_=>.inl rfl) (hr:=oS (k:=by refine⟨n+5,p,by rw[hpl],by rw[hp,Yt],by simp[upd],λx mK=>?_,hnd,λx mK=>⟨?_,?_,?_⟩,?_,?_,λq hq=>?_⟩;(have:=hpn x mK;simp only[upd];repeat rw[XV (by omega)]);exact Ux hnd x mK;(have:=hpn x mK;omega);(have:=hpn x mK;omega);(have:=hpn x mK;omega);omega;omega;simp only[upd];(repeat rw[XV (by omega)]);exact I8 λx mK=>by have:=hpn x mK;omega))
def ZbQ:Go.Shelf.Ren:={ f:=λx=>match x with|6=>167|15=>147|14=>229|28=>218|29=>219|20=>256|21=>257|22=>258|23=>259|24=>260|25=>261|26=>262|27=>263|46=>276|47=>248|48=>249|49=>277|50=>278|57=>281|n=>n,t:=λx=>match x with|22=>58|24=>57|25=>243|3=>3|39=>230|0=>0|53=>284|55=>140|4=>4|46=>278|45=>277|50=>147|5=>5|9=>9|66=>314|70=>296|76=>330|77=>331|n=>n,g:=λn=>n }
def srtU:Go.Proofs.SlLaysF0.n6 prog ZbQ:={
 mixed:=by kernel_rfl
 f6:=⟨f167.name,by decide,func167.trans (by kernel_rfl)⟩
 f14:=⟨f229.name,by decide,func229.trans (by kernel_rfl)⟩
 f15:=func147.trans (by kernel_rfl)
 f20:=⟨f256.name,by decide,func256.trans (by kernel_rfl)⟩
 f21:=⟨f257.name,by decide,func257.trans (by kernel_rfl)⟩
 f22:=⟨f258.name,by decide,func258.trans (by kernel_rfl)⟩
 f23:=⟨f259.name,by decide,func259.trans (by kernel_rfl)⟩
 f24:=⟨f260.name,by decide,func260.trans (by kernel_rfl)⟩
 f25:=⟨f261.name,by decide,func261.trans (by kernel_rfl)⟩
 f26:=⟨f262.name,by decide,func262.trans (by kernel_rfl)⟩
 f27:=⟨f263.name,by decide,func263.trans (by kernel_rfl)⟩
 f28:=func218.trans (by kernel_rfl)
 f29:=func219.trans (by kernel_rfl)
 f46:=⟨f276.name,by decide,func276.trans (by kernel_rfl)⟩
 f47:=func248.trans (by kernel_rfl)
 f48:=func249.trans (by kernel_rfl)
 f49:=⟨f277.name,by decide,func277.trans (by kernel_rfl)⟩
 f50:=⟨f278.name,by decide,func278.trans (by kernel_rfl)⟩
 f57:=⟨f281.name,by decide,func281.trans (by kernel_rfl)⟩
 t0:=underlying0
 a0:=Tryz.isAgg0
 z0:=Tryz.sizeOf0
 v0:=Tryz.zeroValue0
 t3:=underlying3
 a3:=Tryz.isAgg3
 z3:=Tryz.sizeOf3
 v3:=Tryz.zeroValue3
 t4:=underlying4
 a4:=Tryz.isAgg4
 z4:=Tryz.sizeOf4
 v4:=Tryz.zeroValue4
 t5:=underlying5
 a5:=Tryz.isAgg5
 z5:=Tryz.sizeOf5
 v5:=Tryz.zeroValue5
 t9:=underlying9
 a9:=Tryz.isAgg9
 z9:=Tryz.sizeOf9
 v9:=Tryz.zeroValue9
 t22:=underlying58
 a22:=Tryz.isAgg58
 z22:=Tryz.sizeOf58
 v22:=Tryz.zeroValue58
 t25:=underlying243
 a25:=Tryz.isAgg243
 z25:=Tryz.sizeOf243
 v25:=Tryz.zeroValue243
 t39:=underlying230
 a39:=Tryz.isAgg230
 z39:=Tryz.sizeOf230
 v39:=Tryz.zeroValue230
 t45:=underlying277
 a45:=Tryz.isAgg277
 z45:=Tryz.sizeOf277
 v45:=Tryz.zeroValue277
 t46:=underlying278
 a46:=Tryz.isAgg278
 z46:=Tryz.sizeOf278
 v46:=Tryz.zeroValue278
 t50:=underlying147
 a50:=Tryz.isAgg147
 z50:=Tryz.sizeOf147
 v50:=Tryz.zeroValue147
 t53:=underlying284
 a53:=Tryz.isAgg284
 z53:=Tryz.sizeOf284
 v53:=Tryz.zeroValue284
 t55:=underlying140
 a55:=Tryz.isAgg140
 z55:=Tryz.sizeOf140
 v55:=Tryz.zeroValue140
 t66:=underlying314
 a66:=Tryz.isAgg314
 z66:=Tryz.sizeOf314
 v66:=Tryz.zeroValue314
 t70:=underlying296
 a70:=Tryz.isAgg296
 z70:=Tryz.sizeOf296
 v70:=Tryz.zeroValue296
 t76:=underlying330
 a76:=Tryz.isAgg330
 z76:=Tryz.sizeOf330
 v76:=Tryz.zeroValue330
 t77:=underlying331
 a77:=Tryz.isAgg331
 z77:=Tryz.sizeOf331
 v77:=Tryz.zeroValue331 }
theorem NK{x:List D}{l:List Dat}(h:x∈l.map Dat.d):Dat.d (Dat.of x)=x:=by
 obtain⟨s,_,rfl⟩:=Yr.1 h
 rw[EC]
def Zao(l:List Dat)(m:Nat)(h:H)(n r:Nat)(hm:m=l.length)(hl:l.length<=100000)(hr:h r=some ⟨57,l.map Dat.d⟩) :
  bT prog 167 [.mrow r 0 m,.fn (.func 168) [] []] h n (λd h' n'=>d = .tuple []/\n'=n /\ ∃l':List Dat,l'.Perm l/\Sorted dV l'/\h'=upd h r (some ⟨57,l'.map Dat.d⟩)):=by
 have e:m=(l.map Dat.d).length:=by simp[hm]
 rw[e]
 refine(PV (ty:=57) srtU rfl rfl Tryz.isAgg57 Tryz.sizeOf57 (λx y=>dV (Dat.of x) (Dat.of y)) (by kernel_rfl) hr ow rfl (by simp;omega) (λx hx y hy=>?_) ⟨λx _=>?_,λx _ y _ z _=>?_,λx _ y _ z _=>?_⟩).mono ?_
 . have:=ZaU (Dat.of x) (Dat.of y);rw[NK hx,NK hy]at this;exact this
 . have:=tK.self (Dat.of x);omega
 . intro a b;exact tK.lt_le a om
 . intro a b;have h1:=tK.anti (Dat.of x) (Dat.of y);have h2:=tK.anti (Dat.of y) (Dat.of z);have h3:=tK.anti (Dat.of x) (Dat.of z);have:=tK.tr (Dat.of z) (Dat.of y) (Dat.of x) om om;omega
 rintro d h' n' ⟨rfl,rfl,rows',hp,hs,rfl⟩
 have hback:(rows'.map Dat.of).map Dat.d=rows':=by
  rw[List.map_map]
  conv=>rhs;rw[<-List.map_id rows']
  exact Zc λx hx=>NK (hp.mem_iff.1 hx)
 refine⟨rfl,rfl,rows'.map Dat.of,?_,?_,by rw[hback]⟩
 . have:=hp.map Dat.of;rwa [kR EC]at this
 unfold Sorted
 rw[List.pairwise_map]
 refine hs.imp λ{x y}h=>?_
 have h : ¬dV (Dat.of y) (Dat.of x)<0:=h
 have:=tK.anti (Dat.of x) (Dat.of y)
 omega
def V9{x y:Dat}(h : ¬x.t=y.t \/ ¬x.n=y.n \/ ¬x.m=y.m):x≠y:=by
 rintro rfl
 simp at h
def ZaT(l:List Dat)(m:Nat)(h:H)(n r:Nat)(hm:m=l.length)(hl:l.length<=1000000)(hr:h r=some ⟨57,l.map Dat.d⟩):bT prog 169 [.mrow r 0 m] h n (λd h' n'=>d = .mrow r 0 (qK l).length/\h'=upd h r (some ⟨57,(qK l).map Dat.d⟩)/\n<=n'):=by
 refine oP func169 λhnone ff=>?_
 unfold f169
 subst hm
 have ff:=qA @hr ff
 refine aa Tp ?_
 refine oK Tp ?_ ?_<;>intro c1
 . refine aa Tp ?_;refine aN ?_;exact bZ (upd h r (some ⟨57,(qK l).map Dat.d⟩)) (hr:=oS (k:=by rw[JN (by intro i h1 h2;omega)];first|exact⟨rfl,om⟩|exact⟨rfl,rfl,om⟩|omega)) (hh:=by rw[JN (by intro i h1 h2;omega)];intro q;left;unfold upd;split;rename_i e;subst e;exact hr.symm;rfl)
 refine ae ?_
 refine aa Tp ?_
 refine ah ?_
 refine jk (α:=(Nat)×Nat) [0] (λ⟨k,nx⟩=>(k<=l.length)/\(1<=k)/\(n<=nx)/\(∀i,0<i->i<k->l[i]! ≠ l[i-1]!)/\True) (λ⟨k,nx⟩=>l.length-k) (λ⟨k,nx⟩=>[(3,.i k)]) (λ⟨k,nx⟩=>h) (λ⟨k,nx⟩=>nx) (1,_) (hA:=⟨oW,oW,iv,(by first|(intro i h1 h2;omega)|(dsimp only;intro i h1 h2;omega)),trivial⟩) (round:=?_)
 rintro⟨k,nx⟩ ⟨hk,hk1,hn,hv, -⟩
 simp only[XY,XZ]
 refine oL Tp ?_ ?_<;>intro c2
 .
  have hk2:k<l.length:=by omega
  have hk3:k-1<l.length:=by omega
  have e1:((k:Int)-1).toNat=k-1:=by omega
  have ff:=qD (o9 hk2) (o9 hk3) @e1 ff;refine ae ?_;refine ah ?_;refine aa Tp ?_;refine cd ?_ ?_<;>intro c3
  .
   have heq : ¬(k=0\/l[k]! ≠ l[k-1]!):=by rintro (q|q);omega;exact q (JR c3)
   have hcp:gQ l (k+1)=l.take k:=by rw[BJ heq,JL k (by omega) hv]
   have hcr:lC l (k+1)=l.map Dat.d:=by rw[VJ heq,Ziv (by omega) hv]
   have hcl:(l.take k).length=k:=by rw[YR];omega
   refine aa Tp ?_;refine ae ?_;refine aa Tp ?_;refine ah ?_;have ff:=qD @hcp @hcr @hcl ff;refine jk (α:=(Nat)×Nat) [0,4] (λ⟨k2,nx⟩=>(k+k2<=l.length)/\(1<=k2)/\(n<=nx)/\((gQ l (k+k2)).length<k+k2)/\True) (λ⟨k2,nx⟩=>l.length-k-k2) (λ⟨k2,nx⟩=>[(3,.i (gQ l (k+k2)).length),(5,.i k2)]) (λ⟨k2,nx⟩=>upd h r (some ⟨57,lC l (k+k2)⟩)) (λ⟨k2,nx⟩=>nx) (1,_) (hA:=⟨oW,iv,iv,(by first|(rw[hcp,hcl];omega)|(dsimp only;rw[hcp,hcl];omega)),trivial⟩) (round:=?_) (Bq:=by intro q;left;dsimp only;rw[hcr];unfold upd;split;rename_i e;subst e;exact hr.symm;rfl)
   rintro⟨k2,nx⟩ ⟨hk2b,hk21,hn2,hcl2, -⟩;simp only[XY,XZ];refine oL Tp ?_ ?_<;>intro c4
   .
    have hj:k+k2<l.length:=by omega
    have hcl:=NE (l:=l) (k:=k+k2) (by omega)
    have e1:((k2:Int)-1).toNat=k2-1:=by omega
    have e2:k+(k2-1)=k+k2-1:=by omega
    have ga:=NF (l:=l) (k:=k+k2) (i:=k+k2) (by omega) hj
    have gb:=NF (l:=l) (k:=k+k2) (i:=k+k2-1) (by omega) (by omega)
    have gc:=NF (l:=l) (k:=k+k2) (i:=(gQ l (k+k2)).length) (XW _) (by omega)
    have ff:=qG @e1 @e2 @ga @gb @gc @hcl ff;refine ae ?_;refine ah ?_;refine aa Tp ?_;refine cd ?_ ?_<;>intro c5
    .
     refine aa Tp ?_;refine ai Tp ?_;refine ai Tp ?_
     show ∃_,_
     have hst:k+k2=0\/l[k+k2]! ≠ l[k+k2-1]! := .inr (V9 c5);have hs1:=Ziu hst hj;have hs2:gQ l (k+(k2+1))=gQ l (k+k2)++[l[k+k2]!]:=BI hst;have hs3:lC l (k+(k2+1))=lC l (k+k2+1):=rfl;have hs4:(gQ l (k+(k2+1))).length=(gQ l (k+k2)).length+1:=by rw[hs2];simp
     have ff:=qD hs1 hs3 hs4 ff;refine ay (k2+1,_) (h1:=⟨iv,iv,iv,o1f,trivial⟩) (h5:=?_)
     intro q;left;simp only[upd];split<;>simp_all
    refine aj ?_;refine ai Tp ?_
    show ∃_,_
    have hst : ¬(k+k2=0\/l[k+k2]! ≠ l[k+k2-1]!):=by rintro (q|q);omega;exact q (JR (by grind))
    have hs3:lC l (k+(k2+1))=lC l (k+k2):=VJ hst;have hs4:gQ l (k+(k2+1))=gQ l (k+k2):=BJ hst;have ff:=qB hs3 hs4 ff;refine ay (k2+1,_) (h1:=⟨iv,iv,iv,o1f,trivial⟩) (h5:=?_)
    intro q;left;simp only[upd];split<;>simp_all
   have e9:k+k2=l.length:=by omega
   have hcl:=NE (l:=l) (k:=l.length) (XW _);have hcq:=JM l l.length;have ff:=qB @e9 @hcl ff;refine aK ?_;refine ae (xe ?_);refine Hf (C:=Tp) 3 (by omega) (dN rfl) rfl rfl (by kernel_rfl) (by kernel_rfl) (by kernel_rfl) o3y ?_ (by rfl) ev ev (by rw[NE (by omega)];omega) ?_
   .
    try simp only[go_sem,ff]
    all_goals exact ok0
   refine wy (C:=Tp) o5o o3y ?_ rfl ?_
   .
    try simp only[go_sem,ff]
    all_goals exact ok0
   try simp only[aH]
   refine aa Tp ?_;refine aN ?_;exact bZ (upd h r (some ⟨57,(qK l).map Dat.d⟩)) (hr:=oS (k:=by first|omega|exact⟨by simp_all [qK],om⟩|exact⟨by simp_all [qK],rfl,om⟩)) (hh:=by intro q;left;simp only[upd];split<;>simp_all [Zit,qK])
  refine aj ?_;refine ai Tp ?_
  show ∃_,_
  exact ay (k+1,_) (h1:=⟨iv,iv,iv,(by(try dsimp only);intro i h1 h2;by_cases e:i=k;subst e;exact V9 (by grind);exact hv i h1 om),trivial⟩)
 have e9:k=l.length:=by omega
 subst e9
 refine aK ?_
 refine aa Tp ?_
 refine aN ?_
 exact bZ (upd h r (some ⟨57,(qK l).map Dat.d⟩)) (hr:=oS (k:=by rw[JN hv];first|exact⟨rfl,om⟩|exact⟨rfl,rfl,om⟩|omega)) (hh:=by rw[JN hv];intro q;left;unfold upd;split;rename_i e;subst e;exact hr.symm;rfl)
theorem TN{q:Sgd->Bool}{p:List PS}:∀n k,p.length-k<=n->dR q (lP p) k=dR (λx=>q x.2) p k:=by
 intro n
 induction n with
 | zero=>intro k h;rw[yn q,yn (λx:PS=>q x.2),XV (by rw[mH];omega),XV (by omega)]
 | succ n ih =>
  intro k h;rw[yn q,yn (λx:PS=>q x.2),mH]
  by_cases hk:k<p.length
  . rw[X3 hk,X3 hk,CR hk,ih (k+1) (by omega)]
  rw[XV hk,XV hk]
def ZhE{q:Sgd->Bool}{p:List PS}(h : ¬dR q (lP p) 0 = -1):∃j:Nat,dR q (lP p) 0=(j:Int)/\j<p.length/\q p[j]!.2=true /\ ∀i,i<j->q p[i]!.2=false:=by
 rw[TN _ 0 (XW _)]at h ⊢
 rcases FK (λx:PS=>q x.2) p _ 0 (XW _)with⟨g1,_⟩|⟨j,g1,_,g3,g4,g5⟩
 . exact absurd g1 h
 exact⟨j,g1,g3,g4,λi hi=>g5 i (Yi _) hi⟩
def ZhG{q:Sgd->Bool}{p:List PS}(h:dR q (lP p) 0 = -1):p.filter (λx=>!q x.2)=p:=by
 rw[TN _ 0 (XW _)]at h
 rcases FK (λx:PS=>q x.2) p _ 0 (XW _)with⟨_,g2⟩|⟨j,g1,_,g3,g4,g5⟩
 .
  refine Y1.2 λx hx=>?_
  obtain⟨i,hi,rfl⟩:=kQ.1 hx;have:q p[i]!.2=false:=g2 i (Yi _) hi;rw[this];rfl
 rw[h]at g1;omega
theorem kM{p:List PS}{k:Nat}(h:k<p.length):p[k]! ∈ p:=kQ.2 ⟨k,h,rfl⟩
def ZaP(p:List PS)(t:RSet)(m:Nat)(h:H)(n rs:Nat)(hm:m=p.length)(hl:p.length<=1000000)(hr:h rs=some ⟨84,p.map rowP⟩)(hp : ∀x∈p,zZ 57 h x/\x.1≠rs):bT prog 176 [.mrow rs 0 m,.fn (.func 177) [] [.eptr t.d]] h n (λd h' n'=>d = .mrow rs 0 (p.filter (λx:PS=>!dQ t.name x.2)).length/\h'=upd h rs (some ⟨84,(p.filter (λx:PS=>!dQ t.name x.2)).map rowP⟩)/\n<=n'):=by
 refine oP func176 λhnone ff=>?_
 unfold f176
 subst hm
 have hsn:=P5 hr λx hx=>(hp x hx).1
 have hrn:rs<n:=by rcases YE rs n with q|q;exact q;rw[hnone rs q]at hr;cases hr
 have hpn : ∀x∈p,x.1<n:=λx hx=>by rcases YE x.1 n with q|q;exact q;have:=(hp x hx).1.1;rw[hnone x.1 q]at this;cases this
 have ff:=qA @hr ff
 refine aa Tp ?_
 refine bY ?_
 refine Jf Tp 2 4 (hct:=ZaI (lP p) (by rw[mH];exact hl) t) (hso:=?_) (hz:=?_) (hk:=?_)
 .
  intro d hd;simp only[XZ,Yx,Yl,YZ,or_false]at hd
  rcases hd with rfl|rfl
  . exact hsn.2
  refine⟨λc hc=>by simp at hc,λc hc=>?_⟩;rw[Yn]at hc;subst hc;simp[dL,D.nr,bA,ow,RSet.d]
 .
  simp only[XZ,Yx,X8,Yz];rw[hsn.1]
  simp[P8,G7,wk,dZ,RSet.d,tV]
 refine aP Tp ?_
 try simp only[aH]
 refine oK Tp ?_ ?_ (hp:=rfl) (hq:=rfl)<;>intro c1
 .
  have hfil:=ZhG (by simpa using c1)
  refine aa Tp ?_;refine aN ?_;exact bZ (upd h rs (some ⟨84,(p.filter (λx:PS=>!dQ t.name x.2)).map rowP⟩)) (hr:=oS (k:=o4c)) (hh:=o2n)
 obtain⟨j,g1,g3,g4,g5⟩:=ZhE (by simpa using c1)
 have gy:=TY (g:=rowP) (keep:=(λx:PS=>!dQ t.name x.2)) (l:=p) (k:=j) (by omega) (λi hi=>by show(!dQ t.name p[i]!.2)=true;rw[g5 i hi];rfl)
 have gn:=IR (g:=rowP) (keep:=(λx:PS=>!dQ t.name x.2)) g3 (by show(!dQ t.name p[j]!.2)=false;rw[g4];rfl)
 have hkn:jX (λx:PS=>!dQ t.name x.2) p (j+1)=j:=by rw[gn.1,gy.1]
 have hkr:gJ rowP (λx:PS=>!dQ t.name x.2) p (j+1)=p.map rowP:=by rw[gn.2,gy.2]
 refine ae ?_
 refine aa Tp ?_
 refine ah ?_
 have ff:=qB @hkn @g1 ff
 refine jk (α:=(Nat)×Nat) [0,1] (λ⟨k,nx⟩=>(k<=p.length)/\(n<=nx)/\True) (λ⟨k,nx⟩=>p.length-k) (λ⟨k,nx⟩=>[(5,.i (jX (λx:PS=>!dQ t.name x.2) p k)),(6,.i k)]) (λ⟨k,nx⟩=>upd h rs (some ⟨84,gJ rowP (λx:PS=>!dQ t.name x.2) p k⟩)) (λ⟨k,nx⟩=>nx) (j+1,_) (hA:=⟨iv,iv,trivial⟩) (round:=?_) (Bq:=o2c)
 rintro⟨k,nx⟩ ⟨hk,hx, -⟩
 simp only[XY,XZ]
 refine oL Tp ?_ ?_ (hp:=rfl) (hq:=rfl)<;>intro c2
 .
  have hk2:k<p.length:=by simpa[zA hk]using c2
  have hle:=Bb (λx:PS=>!dQ t.name x.2) p k
  have hat:(gJ rowP (λx:PS=>!dQ t.name x.2) p k).getD k []=[.v (.string (bs p[k]!.2.set.name)),.i p[k]!.2.set.ty,.i p[k]!.2.set.life,.mrow p[k]!.1 0 p[k]!.2.set.data.length,.list true []]:=TW hk2
  have hlen:(gJ rowP (λx:PS=>!dQ t.name x.2) p k).length=p.length:=zA om
  have hg5:((gJ rowP (λx:PS=>!dQ t.name x.2) p k).getD (jX (λx:PS=>!dQ t.name x.2) p k) []).length=5:=TU (λ_=>rfl) om
  have ff:=qE @hat @hlen @hg5 (nH (nx+8) rs) ff;refine ae ?_;refine ah ?_;refine aa Tp ?_;refine bY ?_;have hin:=kM hk2;have hq1:=hp _ hin;have hq2:=hpn _ hin;refine Jf Tp 2 4 (hct:=Pe p[k]!.2 t) (hso:=?_) (hz:=?_) (hk:=?_)
  .
   intro d hd;simp only[XZ,XY,Yl,YZ,or_false]at hd
   rcases hd with rfl|rfl
   . refine(P7 (td:=57) (x:=p[k]!) ⟨?_,hq1.1.2⟩).2;simp only[upd];(repeat rw[XV (by omega)]);exact hq1.1.1
   simp[dL,D.nr,bA,ow,RSet.d]
  .
   simp only[XZ,XY,X8,Yz];refine congr (congrArg List.cons ((P7 (td:=57) (x:=p[k]!) ⟨?_,hq1.1.2⟩).1)) ?_
   . simp only[upd];(repeat rw[XV (by omega)]);exact hq1.1.1
   simp[G7,wk,dZ,RSet.d,tV]
  refine aP Tp ?_
  try simp only[aH]
  refine cd ?_ ?_<;>intro c3
  .
   refine aa Tp ?_;refine ai Tp ?_;refine ai Tp ?_
   show ∃_,_
   have hst:=TT (g:=rowP) (keep:=(λx:PS=>!dQ t.name x.2)) hk2 (by simpa using c3)
   have ff:=qB hst.1 hst.2 ff;refine ay (k+1,_) (h1:=⟨iv,iv,trivial⟩) (h5:=?_);intro q
   by_cases e4:q=nx+8
   . right;subst e4;simp only[upd];(repeat rw[XV (by omega)]);exact hnone _ (by omega)
   left;simp only[upd];by_cases e5:q=rs
   . subst e5;simp only[Zl,XV e4];first|(rw[hst.2];done)|(rw[List.drop_of_length_le (by omega),<-hst.2];rfl)
   simp only[XV e4,XV e5]
  refine aj ?_;refine ai Tp ?_
  show ∃_,_
  have hst:=IR (g:=rowP) (keep:=(λx:PS=>!dQ t.name x.2)) hk2 (by simpa using c3)
  have ff:=qB hst.1 hst.2 ff;refine ay (k+1,_) (h1:=⟨iv,iv,trivial⟩) (h5:=?_);intro q
  by_cases e4:q=nx+8
  . right;subst e4;simp only[upd];(repeat rw[XV (by omega)]);exact hnone _ (by omega)
  left;simp only[upd];by_cases e5:q=rs
  . subst e5;simp only[Zl,XV e4];first|(rw[hst.2];done)|(rw[List.drop_of_length_le (by omega),<-hst.2];rfl)
  simp only[XV e4,XV e5]
 have hk3:k=p.length:=by have : ¬k<p.length:=(by simpa using c2);omega
 subst hk3
 have hle:=Bb (λx:PS=>!dQ t.name x.2) p p.length
 have hend:=TV (g:=rowP) (keep:=(λx:PS=>!dQ t.name x.2)) (l:=p)
 have hlen:(gJ rowP (λx:PS=>!dQ t.name x.2) p p.length).length=p.length:=zA (XW _)
 have ff:=qA @hlen ff
 refine aK ?_
 refine ae (xe ?_)
 refine Hf (C:=Tp) 3 (by omega) (dN rfl) rfl rfl (by kernel_rfl) (by kernel_rfl) (by kernel_rfl) o3y ?_ (by rfl) ev ev (by rw[zA (by omega)];omega) ?_
 .
  try simp only[go_sem,ff]
  all_goals exact ok0
 refine wy (C:=Tp) o5o o3y ?_ rfl ?_
 .
  try simp only[go_sem,ff]
  all_goals exact ok0
 try simp only[aH]
 refine aa Tp ?_
 refine aN ?_
 exact bZ (upd h rs (some ⟨84,(p.filter (λx:PS=>!dQ t.name x.2)).map rowP⟩)) (hr:=oS (k:=o0m)) (hh:=o3r)
def ZaQ(l:List Dat)(s:RSet)(m:Nat)(h:H)(n rs:Nat)(hm:m=l.length)(hl:l.length<=1000000)(hs:s.data.length<=1000000)(hr:h rs=some ⟨57,l.map Dat.d⟩):bT prog 171 [.mrow rs 0 m,.fn (.func 172) [] [.eptr s.d]] h n (λd h' n'=>d = .mrow rs 0 (l.filter (λx:Dat=>!dU s.data x)).length/\h'=upd h rs (some ⟨57,(l.filter (λx:Dat=>!dU s.data x)).map Dat.d⟩)/\n<=n'):=by
 refine oP func171 λhnone ff=>?_
 unfold f171
 subst hm
 have hsn:=Zb4 hr
 have hrn:rs<n:=by rcases YE rs n with q|q;exact q;rw[hnone rs q]at hr;cases hr
 have ff:=qA @hr ff
 refine aa Tp ?_
 refine bY ?_
 refine Jf Tp 2 2 (hct:=ZaG l s hl hs) (hso:=?_) (hz:=?_) (hk:=?_)
 .
  intro d hd;simp only[XZ,Yx,Yl,YZ,or_false]at hd
  rcases hd with rfl|rfl
  . exact hsn.2
  refine⟨λc hc=>by simp at hc,λc hc=>?_⟩;rw[Yn]at hc;subst hc;simp[dL,D.nr,bA,ow,RSet.d]
 .
  simp only[XZ,Yx,X8,Yz];rw[hsn.1]
  simp[P8,G7,wk,dZ,RSet.d,tV]
 refine aP Tp ?_
 try simp only[aH]
 refine oK Tp ?_ ?_ (hp:=rfl) (hq:=rfl)<;>intro c1
 .
  have hfil:=ZhF (by simpa using c1)
  refine aa Tp ?_;refine aN ?_;exact bZ (upd h rs (some ⟨57,(l.filter (λx:Dat=>!dU s.data x)).map Dat.d⟩)) (hr:=oS (k:=o4c)) (hh:=o2n)
 obtain⟨j,g1,g3,g4,g5⟩:=ZhD (by simpa using c1)
 have gy:=TY (g:=Dat.d) (keep:=(λx:Dat=>!dU s.data x)) (l:=l) (k:=j) (by omega) (λi hi=>by show(!dU s.data l[i]!)=true;rw[g5 i hi];rfl)
 have gn:=IR (g:=Dat.d) (keep:=(λx:Dat=>!dU s.data x)) g3 (by show(!dU s.data l[j]!)=false;rw[g4];rfl)
 have hkn:jX (λx:Dat=>!dU s.data x) l (j+1)=j:=by rw[gn.1,gy.1]
 have hkr:gJ Dat.d (λx:Dat=>!dU s.data x) l (j+1)=l.map Dat.d:=by rw[gn.2,gy.2]
 refine ae ?_
 refine aa Tp ?_
 refine ah ?_
 have ff:=qB @hkn @g1 ff
 refine jk (α:=(Nat)×Nat) [0,1] (λ⟨k,nx⟩=>(k<=l.length)/\(n<=nx)/\True) (λ⟨k,nx⟩=>l.length-k) (λ⟨k,nx⟩=>[(5,.i (jX (λx:Dat=>!dU s.data x) l k)),(6,.i k)]) (λ⟨k,nx⟩=>upd h rs (some ⟨57,gJ Dat.d (λx:Dat=>!dU s.data x) l k⟩)) (λ⟨k,nx⟩=>nx) (j+1,_) (hA:=⟨iv,iv,trivial⟩) (round:=?_) (Bq:=o2c)
 rintro⟨k,nx⟩ ⟨hk,hx, -⟩
 simp only[XY,XZ]
 refine oL Tp ?_ ?_ (hp:=rfl) (hq:=rfl)<;>intro c2
 .
  have hk2:k<l.length:=by simpa[zA hk]using c2
  have hle:=Bb (λx:Dat=>!dU s.data x) l k
  have hat:(gJ Dat.d (λx:Dat=>!dU s.data x) l k).getD k []=[.v (.string (bs l[k]!.t)),.i l[k]!.n,.i l[k]!.m]:=TW hk2
  have hlen:(gJ Dat.d (λx:Dat=>!dU s.data x) l k).length=l.length:=zA om
  have hg5:((gJ Dat.d (λx:Dat=>!dU s.data x) l k).getD (jX (λx:Dat=>!dU s.data x) l k) []).length=3:=TU (λ_=>rfl) om
  have ff:=qE @hat @hlen @hg5 (nH (nx+8) rs) ff;refine ae ?_;refine ah ?_;refine aa Tp ?_;refine bY ?_;refine Jf Tp 2 2 (hct:=O5 l[k]! s hs) (hso:=?_) (hz:=?_) (hk:=?_)
  .
   intro d hd;simp only[XZ,XY,Yl,YZ,or_false]at hd
   rcases hd with rfl|rfl
   . simp[dL,D.nr,Dat.d]
   simp[dL,D.nr,bA,ow,RSet.d]
  . simp[G7,Go.DL.snap_agg,Go.DL.snap_v,wk,dZ,RSet.d,Dat.d,tV]
  refine aP Tp ?_
  try simp only[aH]
  refine cd ?_ ?_<;>intro c3
  .
   refine aa Tp ?_;refine ai Tp ?_;refine ai Tp ?_
   show ∃_,_
   have hst:=TT (g:=Dat.d) (keep:=(λx:Dat=>!dU s.data x)) hk2 (by simpa using c3)
   have ff:=qB hst.1 hst.2 ff;refine ay (k+1,_) (h1:=⟨iv,iv,trivial⟩) (h5:=?_);intro q
   by_cases e4:q=nx+8
   . right;subst e4;simp only[upd];(repeat rw[XV (by omega)]);exact hnone _ (by omega)
   left;simp only[upd];by_cases e5:q=rs
   . subst e5;simp only[Zl,XV e4];first|(rw[hst.2];done)|(rw[List.drop_of_length_le (by omega),<-hst.2];rfl)
   simp only[XV e4,XV e5]
  refine aj ?_;refine ai Tp ?_
  show ∃_,_
  have hst:=IR (g:=Dat.d) (keep:=(λx:Dat=>!dU s.data x)) hk2 (by simpa using c3)
  have ff:=qB hst.1 hst.2 ff;refine ay (k+1,_) (h1:=⟨iv,iv,trivial⟩) (h5:=?_);intro q
  by_cases e4:q=nx+8
  . right;subst e4;simp only[upd];(repeat rw[XV (by omega)]);exact hnone _ (by omega)
  left;simp only[upd];by_cases e5:q=rs
  . subst e5;simp only[Zl,XV e4];first|(rw[hst.2];done)|(rw[List.drop_of_length_le (by omega),<-hst.2];rfl)
  simp only[XV e4,XV e5]
 have hk3:k=l.length:=by have : ¬k<l.length:=(by simpa using c2);omega
 subst hk3
 have hle:=Bb (λx:Dat=>!dU s.data x) l l.length
 have hend:=TV (g:=Dat.d) (keep:=(λx:Dat=>!dU s.data x)) (l:=l)
 have hlen:(gJ Dat.d (λx:Dat=>!dU s.data x) l l.length).length=l.length:=zA (XW _)
 have ff:=qA @hlen ff
 refine aK ?_
 refine ae (xe ?_)
 refine Hf (C:=Tp) 3 (by omega) (dN rfl) rfl rfl (by kernel_rfl) (by kernel_rfl) (by kernel_rfl) o3y ?_ (by rfl) ev ev (by rw[zA (by omega)];omega) ?_
 .
  try simp only[go_sem,ff]
  all_goals exact ok0
 refine wy (C:=Tp) o5o o3y ?_ rfl ?_
 .
  try simp only[go_sem,ff]
  all_goals exact ok0
 try simp only[aH]
 refine aa Tp ?_
 refine aN ?_
 exact bZ (upd h rs (some ⟨57,(l.filter (λx:Dat=>!dU s.data x)).map Dat.d⟩)) (hr:=oS (k:=o0m)) (hh:=o3r)
def Pi(zc rs cc i:Nat)(a:Str)(p:List PS)(h:H)(n:Nat)(hz:ZM 24 84 57 zc rs a p h)(hcc:h cc=some ⟨183,[[.mptr zc 0 0]]⟩)(hl:p.length<=100000)(hi:i<p.length):bT prog 163 [.i i,.mptr cc 0 0] h n (λd h' n'=>d = .tuple []/\j6 24 84 57 zc a ((lP p).eraseIdx i) h h' n n'):=by
 refine oP func163 λhnone ff=>?_
 unfold f163
 have hzz:=hz.z
 have eP:=hz.r
 have hzn:=hz.zr
 have hc1:cc≠zc:=λe=>by rw[e,hzz]at hcc;cases hcc
 have hc2:cc≠rs:=λe=>by rw[e,eP]at hcc;cases hcc
 have hc3:zc≠cc:=λe=>hc1 e.symm
 have hc4:rs≠cc:=λe=>hc2 e.symm
 have Mx:rs≠zc:=λe=>hzn e.symm
 have ff:=qA @hzz (qI @eP @hzn @hcc @hc1 @hc2 @hc3 @hc4 @Mx ff)
 refine dr1 Tp 8 11 [(0,1)] (hct:=by exact ZiQ (p.map rowP) i p.length (i+1) _ _ rs (by simp) (by simpa using hi) rfl (by simp;omega) o5l Xr) (hkeep:=?_) (hk:=?_)
 . rintro res h2 n2 ⟨rfl,rfl,a1⟩ q hq r hrr;simp only[Yn]at hq;subst hq;simp only[go_sem,ff,sd,named,YA]at hrr ⊢;subst hrr;simp only[upd,XV hc2]
 rintro res h2 n2 ⟨rfl,rfl,a1⟩
 refine aP Tp ?_
 try simp only[aH]
 exact bZ (_) (hh:=λ_=>.inl rfl) (hr:=oS (k:=by(try dsimp only at a1);rw[Zfy,show p.length-1=(p.eraseIdx i).length from by simp[List.length_eraseIdx,hi],<-Zf3];exact PH hz (List.eraseIdx_sublist _ _) oW))
def ZaC(t:RSet)(zc rs cc:Nat)(a:Str)(p:List PS)(h:H)(n:Nat)(hz:ZM 24 84 57 zc rs a p h)(hcc:h cc=some ⟨183,[[.mptr zc 0 0]]⟩)(hl:p.length<=100000):bT prog 175 [.agg t.d,.mptr cc 0 0] h n (λd h' n'=>d = .tuple []/\j6 24 84 57 zc a (lP (p.filter (λx:PS=>!dQ t.name x.2))) h h' n n'):=by
 refine oP func175 λhnone ff=>?_
 unfold f175
 have hzz:=hz.z
 have eP:=hz.r
 have hzn:=hz.zr
 have hc1:cc≠zc:=λe=>by rw[e,hzz]at hcc;cases hcc
 have hc2:cc≠rs:=λe=>by rw[e,eP]at hcc;cases hcc
 have hc3:zc≠cc:=λe=>hc1 e.symm
 have hc4:rs≠cc:=λe=>hc2 e.symm
 have Mx:rs≠zc:=λe=>hzn e.symm
 have hrn:rs<n:=by rcases YE rs n with q|q;exact q;rw[hnone rs q]at eP;cases eP
 have hzcn:zc<n:=by rcases YE zc n with q|q;exact q;rw[hnone zc q]at hzz;cases hzz
 have hccn:cc<n:=by rcases YE cc n with q|q;exact q;rw[hnone cc q]at hcc;cases hcc
 have ff:=qH @hzz @eP @hzn @hcc @hc1 @hc2 @hc3 (qI @hc4 @Mx (nH n rs) (nH n zc) (nH cc n) (nH rs zc) (nH cc rs) (nH cc zc) ff)
 refine aa Tp ?_
 refine qJ 2 n ev ev (by simp[bA,D.nr,ow]) ?_
 refine dr1 Tp 6 7 [(0,1)] (hct:=by exact ZaP p t p.length _ _ rs rfl (by omega) o5l (λx hx=>⟨⟨by have:=hz.ne x hx;simp only[upd];(repeat rw[XV (by first|omega|(intro e;have:=hz.d x hx;rw[e,hnone _ (XW _)]at this;cases this))]);exact hz.d x hx,hz.sig x hx⟩,(hz.ne x hx).2⟩)) (hkeep:=?_) (hk:=?_)
 . rintro res h2 n2 ⟨rfl,rfl,a1⟩ q hq r hrr;simp only[Yn]at hq;subst hq;simp only[go_sem,ff,sd,named,YA]at hrr ⊢;subst hrr;simp only[upd,XV hc2]
 rintro res h2 n2 ⟨rfl,rfl,a1⟩
 refine aP Tp ?_
 try simp only[aH]
 exact bZ (upd (upd h rs (some ⟨84,(p.filter (λx:PS=>!dQ t.name x.2)).map rowP⟩)) zc (some ⟨24,[[.v (.string (bs a)),.mrow rs 0 (p.filter (λx:PS=>!dQ t.name x.2)).length]]⟩)) (hr:=oS (k:=by(try dsimp only at a1);exact PH hz List.filter_sublist oW)) (hh:=by intro q;simp only[upd];by_cases e:q=n;right;subst e;(repeat rw[if_neg (by omega)]);exact hnone _ (Nat.le_refl _);left;(repeat (first|rfl|(split<;>first|rfl|omega))))
@[go_sem]theorem snapW_v9{h:H}{x:Value}:je h (.v x) = .v x:=rfl
def Nl{p:List PS}{q:ak}(h:di (lP p) q=true):bg (lP p) q<p.length:=by
 have:=Nn h
 rwa [mH]at this
def Zap(t:RSet)(zc rs cc ce:Nat)(a:Str)(p:List PS)(h:H)(n:Nat)(hz:ZM 24 84 57 zc rs a p h)(hcc:h cc=some ⟨183,[[.mptr zc 0 0]]⟩)(hcd:h ce=some ⟨138,[[.fn (.func 163) [] [.mptr cc 0 0]]]⟩)(hl:p.length<=100000):bT prog 174 [.agg t.d,.mptr cc 0 0,.mptr ce 0 0] h n (λd h' n'=>d = .tuple []/\j6 24 84 57 zc a (Aq (lP p) t) h h' n n'):=by
 refine oP func174 λhnone ff=>?_
 unfold f174
 have hzz:=hz.z
 have eP:=hz.r
 have hnn:h n=none:=hnone _ (XW _)
 have hz2:=hz.fresh (b:=some ⟨60,[t.d]⟩) hnn
 have lrs:rs<n:=by rcases YE rs n with q|q;exact q;rw[hnone rs q]at eP;cases eP
 have lzc:zc<n:=by rcases YE zc n with q|q;exact q;rw[hnone zc q]at hzz;cases hzz
 have lcc:cc<n:=by rcases YE cc n with q|q;exact q;rw[hnone cc q]at hcc;cases hcc
 have lce:ce<n:=by rcases YE ce n with q|q;exact q;rw[hnone ce q]at hcd;cases hcd
 have ff:=qI @hzz @eP @hcc @hcd (nH n rs) (nH n zc) (nH cc n) (nH ce n) ff
 refine aa Tp ?_
 have hsw:=hz2.snap
 have xZ:je (upd h n (some ⟨60,[[.v (.string (bs t.name)),.i t.ty,.i t.life,.list false (t.data.map Dat.d)]]⟩)) (.agg [.v (.string (bs a)),.mrow rs 0 p.length]) = .agg [.v (.string (bs a)),.list false ((lP p).map Sgd.d)]:=hsw.1
 have ff:=qA @xZ ff
 refine aa uQ ?_ (hok:=o0d)
 refine aa Tp ?_
 refine cd ?_ ?_ (hp:=rfl) (hq:=rfl)<;>intro c1
 .
  have hf:di (lP p) ⟨t.name,t.ty⟩=true:=by simpa using c1
  have hi:=Nl hf;refine bI Tp 2 (hct:=by exact Pi zc rs cc (bg (lP p) ⟨t.name,t.ty⟩) a p _ _ hz2 o5l hl hi) (hk:=?_)
  rintro res h2 n2 ⟨rfl,hst⟩;refine bH Tp ?_;exact bZ (_) (hh:=λ_=>.inl rfl) (hr:=oS (k:=o0z))
 have hf:di (lP p) ⟨t.name,t.ty⟩=false:=by simpa using c1
 refine aj ?_
 exact bZ (_) (hh:=λ_=>.inl rfl) (hr:=oS (k:=o0z))
def Zan(t:RSet)(zc rs cc ce:Nat)(a:Str)(p:List PS)(h:H)(n:Nat)(hz:ZM 24 84 57 zc rs a p h)(hcc:h cc=some ⟨183,[[.mptr zc 0 0]]⟩)(hcd:h ce=some ⟨138,[[.fn (.func 163) [] [.mptr cc 0 0]]]⟩)(hl:p.length<=100000)(hdl : ∀x∈p,x.2.set.data.length<=100000)(htl:t.data.length<=100000):bT prog 170 [.agg t.d,.mptr cc 0 0,.mptr ce 0 0] h n (λd h' n'=>d = .tuple []/\j6 24 84 57 zc a (xz (lP p) t) h h' n n'):=by
 refine oP func170 λhnone ff=>?_
 unfold f170
 have hzz:=hz.z
 have eP:=hz.r
 have hnn:h n=none:=hnone _ (XW _)
 have hz2:=hz.fresh (b:=some ⟨60,[t.d]⟩) hnn
 have lrs:rs<n:=by rcases YE rs n with q|q;exact q;rw[hnone rs q]at eP;cases eP
 have lzc:zc<n:=by rcases YE zc n with q|q;exact q;rw[hnone zc q]at hzz;cases hzz
 have lcc:cc<n:=by rcases YE cc n with q|q;exact q;rw[hnone cc q]at hcc;cases hcc
 have lce:ce<n:=by rcases YE ce n with q|q;exact q;rw[hnone ce q]at hcd;cases hcd
 have hm2:(zc=n)=False:=YN om
 have hc1:(cc=rs)=False:=YN λe=>by rw[e,eP]at hcc;cases hcc
 have hc2:(ce=rs)=False:=YN λe=>by rw[e,eP]at hcd;cases hcd
 have hc3:(zc=rs)=False:=YN hz.zr
 have ff:=qE @hzz @eP @hcc @hcd (qI @hc1 @hc2 @hc3 (nH n rs) (nH n zc) (nH cc n) (nH ce n) @hm2 ff)
 refine aa Tp ?_
 have hsw:=hz2.snap
 have xZ:je (upd h n (some ⟨60,[[.v (.string (bs t.name)),.i t.ty,.i t.life,.list false (t.data.map Dat.d)]]⟩)) (.agg [.v (.string (bs a)),.mrow rs 0 p.length]) = .agg [.v (.string (bs a)),.list false ((lP p).map Sgd.d)]:=hsw.1
 have ff:=qA @xZ ff
 refine aa uQ ?_ (hok:=o0d)
 refine oK Tp ?_ ?_ (hp:=rfl) (hq:=rfl)<;>intro c1
 .
  have hf:di (lP p) ⟨t.name,t.ty⟩=false:=by simpa using c1
  refine aN ?_;exact bZ (_) (hh:=λ_=>.inl rfl) (hr:=oS (k:=o0a))
 have hf:di (lP p) ⟨t.name,t.ty⟩=true:=by simpa using c1
 have hi:=Nl hf
 obtain⟨ix,hix⟩:∃ix,ix=bg (lP p) ⟨t.name,t.ty⟩:=⟨_,rfl⟩
 rw[<-hix]at hi
 have Fe:=hix.symm
 have hrow:(p.map rowP).getD ix []=[.v (.string (bs p[ix]!.2.set.name)),.i p[ix]!.2.set.ty,.i p[ix]!.2.set.life,.mrow p[ix]!.1 0 p[ix]!.2.set.data.length,.list true []]:=K8 hi
 have hrow2:((p.map rowP).set ix [.v (.string (bs p[ix]!.2.set.name)),.i p[ix]!.2.set.ty,.i p[ix]!.2.set.life,.mrow p[ix]!.1 0 (p[ix]!.2.set.data.filter λx=>!dU t.data x).length,.list true []]).getD ix []=[.v (.string (bs p[ix]!.2.set.name)),.i p[ix]!.2.set.ty,.i p[ix]!.2.set.life,.mrow p[ix]!.1 0 (p[ix]!.2.set.data.filter λx=>!dU t.data x).length,.list true []]:=Zdo (by simpa using hi)
 have hxd:=hz.d p[ix]! (kM hi)
 have hxe:=hz.ne p[ix]! (kM hi)
 have hxl:=hdl p[ix]! (kM hi)
 have hxn:p[ix]!.1<n:=by rcases YE p[ix]!.1 n with q|q;exact q;rw[hnone _ q]at hxd;cases hxd
 have hx3:(p[ix]!.1=rs)=False:=YN hxe.2
 have hx4:(rs=p[ix]!.1)=False:=YN (λe=>hxe.2 e.symm)
 have hx5:(p[ix]!.1=zc)=False:=YN hxe.1
 have hx6:(zc=p[ix]!.1)=False:=YN (λe=>hxe.1 e.symm)
 have hx7:(cc=p[ix]!.1)=False:=YN λe=>by rw[e,hxd]at hcc;cases hcc
 have C8:(ce=p[ix]!.1)=False:=YN λe=>by rw[e,hxd]at hcd;cases hcd
 have hlr:(p.map rowP).length=p.length:=by simp
 have hz3:ZM 24 84 57 zc rs a (p.set ix (p[ix]!.1,p[ix]!.2.withD (p[ix]!.2.set.data.filter λx=>!dU t.data x))) (upd (upd (upd (upd h n (some ⟨60,[t.d]⟩)) n none) p[ix]!.1 (some ⟨57,(p[ix]!.2.set.data.filter λx=>!dU t.data x).map Dat.d⟩)) rs (some ⟨84,(p.map rowP).set ix [.v (.string (bs p[ix]!.2.set.name)),.i p[ix]!.2.set.ty,.i p[ix]!.2.set.life,.mrow p[ix]!.1 0 (p[ix]!.2.set.data.filter λx=>!dU t.data x).length,.list true []]⟩)):=hz.setD hi (p[ix]!.2.set.data.filter λx=>!dU t.data x) (by simp only[upd,hc3,hx6,hm2,Y8]) (bL _ _ _) (by simp only[upd,hx3,Y8,Zl]) (λx hx hne=>by have q1:=(hz.ne x hx).2;have q2:x.1≠n:=(λe=>by have:=hz.d x hx;rw[e,hnn]at this;cases this);simp only[upd,XV q1,XV hne,XV q2])
 have ff:=qE @Fe @hrow @hrow2 @hxd (qI @hlr (nH n (p[ix]!.1)) @hx3 @hx4 @hx5 @hx6 @hx7 @C8 ff)
 refine aa Tp ?_
 refine qJ 3 n ev ev (by simp[bA,D.nr,ow]) ?_
 refine ae (bI Tp 6 (hct:=by exact ZaQ p[ix]!.2.set.data t _ _ _ _ rfl om om o5l) (hk:=?_))
 rintro res h2 n2 ⟨rfl,rfl,a1⟩
 try dsimp only at a1
 refine bH Tp ?_
 refine aa Tp ?_
 refine cd ?_ ?_<;>intro c2
 .
  refine bI Tp 2 (hct:=by exact Pi zc rs cc ix a _ _ _ hz3 o5l (by simpa using hl) (by simpa using hi)) (hk:=?_)
  rintro res h2 n2 ⟨rfl,hst⟩;refine bH Tp ?_;exact bZ (_) (hh:=λ_=>.inl rfl) (hr:=oS (k:=o0a))
 refine aj ?_
 exact bZ (_) (hh:=λ_=>.inl rfl) (hr:=oS (k:=o0a))
def ZaE(zc:Nat)(h:H)(n:Nat)(hzc:zc<n):bT prog 105 [.mptr zc 0 0] h n (λd h' n'=>d = .agg [.v .nilFunc,.fn (.func 165) [] [.mptr n 0 0],.fn (.func 170) [] [.mptr n 0 0,.mptr (n+3) 0 0],.fn (.func 174) [] [.mptr n 0 0,.mptr (n+3) 0 0],.fn (.func 175) [] [.mptr n 0 0]]/\h' n=some ⟨183,[[.mptr zc 0 0]]⟩/\h' (n+3)=some ⟨138,[[.fn (.func 163) [] [.mptr n 0 0]]]⟩/\(∀q,q<n->h' q=h q)/\n+3<n'):=by
 refine oP func105 λhnone ff=>?_
 unfold f105
 refine oD Tp ?_
 refine aN ?_
 exact bZ (_) (hh:=λ_=>.inl rfl) (hr:=oS (k:=by refine⟨λq hq=>?_,om⟩;simp only[upd];(repeat rw[XV (by omega)])))
def Vi{p:List PS}(q:ak):bg (lP p) q<=p.length:=by
 have h:bg (lP p) q<=(lP p).length:=(Oc _ _ 0 (lP p).length (XW _) (Yi _)).1
 rw[mH]at h
 exact h
def Za3(t:RSet)(zc rs cc:Nat)(a:Str)(p:List PS)(h:H)(n:Nat)(hz:ZM 24 84 57 zc rs a p h)(hcc:h cc=some ⟨183,[[.mptr zc 0 0]]⟩)(hl:p.length<=90000)(hdl : ∀x∈p,x.2.set.data.length<=1000)(hps : ∀x∈p,jR dV x.2.set.data)(hts:jR dV t.data)(ht0:0<t.data.length)(htl:t.data.length<=1000):bT prog 165 [.agg t.d,.mptr cc 0 0] h n (λd h' n'=>d = .tuple []/\j6 24 84 57 zc a (BR (lP p) t) h h' n n'):=by
 refine oP func165 λhnone ff=>?_
 unfold f165
 have hzz:=hz.z
 have eP:=hz.r
 have hnn:h n=none:=hnone _ (XW _)
 have hz2:=hz.fresh (b:=some ⟨60,[t.d]⟩) hnn
 have lrs:rs<n:=by rcases YE rs n with q|q;exact q;rw[hnone rs q]at eP;cases eP
 have lzc:zc<n:=by rcases YE zc n with q|q;exact q;rw[hnone zc q]at hzz;cases hzz
 have lcc:cc<n:=by rcases YE cc n with q|q;exact q;rw[hnone cc q]at hcc;cases hcc
 have hc1:(cc=rs)=False:=YN λe=>by rw[e,eP]at hcc;cases hcc
 have hc2:(cc=zc)=False:=YN λe=>by rw[e,hzz]at hcc;cases hcc
 have hc3:(zc=rs)=False:=YN hz.zr
 have hc4:(rs=zc)=False:=YN λe=>hz.zr e.symm
 have hc5:(rs=cc)=False:=YN λe=>by rw[<-e,eP]at hcc;cases hcc
 have hc6:(zc=cc)=False:=YN λe=>by rw[<-e,hzz]at hcc;cases hcc
 have hd1:cc≠rs:=λe=>by rw[e,eP]at hcc;cases hcc
 have hd2:zc≠rs:=hz.zr
 have hd3:cc≠zc:=λe=>by rw[e,hzz]at hcc;cases hcc
 have hpn : ∀x∈p,x.1<n:=λx hx=>by have:=hz.d x hx;rcases YE x.1 n with q|q;exact q;rw[hnone x.1 q]at this;cases this
 have ff:=qE @hzz @eP @hcc @hc1 (qI @hc2 @hc3 @hc4 @hc5 @hc6 (nH n rs) (nH n zc) (nH cc n) ff)
 refine aa Tp ?_
 have hsw:=hz2.snap
 have xZ:je (upd h n (some ⟨60,[[.v (.string (bs t.name)),.i t.ty,.i t.life,.list false (t.data.map Dat.d)]]⟩)) (.agg [.v (.string (bs a)),.mrow rs 0 p.length]) = .agg [.v (.string (bs a)),.list false ((lP p).map Sgd.d)]:=hsw.1
 have ff:=qA @xZ ff
 refine aa uQ ?_ (hok:=o0d)
 refine ae (bI Tp 2 (hct:=by exact Pj t.data ht0 om _ _) (hk:=?_))
 rintro res h2 n2 ⟨r1,rfl,rfl,a1,b1⟩
 try dsimp only at a1 b1
 have ff:=qG @a1 @b1 (nH n r1) (nH r1 rs) (nH r1 zc) (nH cc r1) ff
 refine bH Tp ?_
 refine oK Tp ?_ ?_ (hp:=rfl) (hq:=rfl)<;>intro c1
 .
  have hf:di (lP p) ⟨t.name,t.ty⟩=false:=by simpa using c1
  have ff:=qF (nH n (n2+15)) (nH (n2+15) rs) (nH (n2+15) zc) (nH cc (n2+15)) (nH (n2+15) r1) ff;refine ae ?_;refine dr1 Ac 9 10 [(0,1)] (hct:=by exact ZgR (p.map rowP) [.v (.string (bs t.name)),.i t.ty,.i t.life,.mrow r1 0 t.data.length,.list true []] (bg (lP p) ⟨t.name,t.ty⟩) p.length _ _ rs (n2+15) (by simp) (by simpa using Vi _) (by simp;omega) o5l o5l om rfl Xr) (hkeep:=?_) (hk:=?_)
  .
   rintro res h3 n3 ⟨r2,rfl,e1,e2,e3,e4⟩ q hq r hrr
   try dsimp only at e2 e3 e4
   simp only[Yn]at hq;subst hq;simp only[go_sem,ff,sd,named,YA]at hrr ⊢;subst hrr;rw[e3 cc (by omega) (by omega)];try simp only[go_sem,ff]
  rintro res h3 n3 ⟨r2,rfl,e1,e2,e3,e4⟩
  try dsimp only at e2 e3 e4
  simp only[Zk]at e1 e2 e3 e4 ⊢;have e5:h3 zc=some ⟨24,[[.v (.string (bs a)),.mrow rs 0 p.length]]⟩:=by rw[e3 zc (by omega) (by omega)];simp only[go_sem,ff]
  have ff:=qA e5 ff;refine aP Ac ?_
  try simp only[aH]
  refine aN ?_;refine bZ (_) (hh:=λ_=>.inl rfl) (hr:=?_)
  try simp only[go_sem,ff]
  rw[Zkl hf];have hq : ∀q,q≠rs->q<n->h3 q=h q:=λq q1 q2=>by rw[e3 q q1 (by omega)];simp only[upd];repeat rw[XV (by omega)]
  have Uw:r2≠zc:=by rcases e2 with e|e;rw[e];exact λe=>hz.zr e.symm;omega
  have hr21:r2≠r1:=by rcases e2 with e|e;rw[e];omega;omega
  refine⟨r2,_,hz.insP (rs':=r2) (i:=(bg (lP p) ⟨t.name,t.ty⟩)) (Vi _) (r:=r1) (s:=t) (by simp[upd]) ?_ ?_ (λx hx e=>by have:=hpn x hx;omega) ⟨om,λe=>hr21 e.symm⟩ (λe=>Uw e.symm) (λx hx e=>by rcases e2 with k|k;rw[k]at e;exact(hz.ne x hx).2 e;have:=hpn x hx;omega) (λx hx=>by simp only[upd];rw[if_neg (hz.ne x hx).1,hq _ (hz.ne x hx).2 (hpn x hx)]),Zf1,λq b k1 k2 k3 k4=>?_,by first|omega|(dsimp only;omega)⟩
  . simp only[upd];rw[XV Uw,e1];rfl
  . simp only[upd];rw[XV (by omega),e3 r1 (by omega) (by omega)];simp only[upd];repeat (first|rfl|rw[XV (by omega)]|rw[X3 rfl])
  have q1:q≠rs:=(λe=>k2 (by rw[e,eP]at k1;cases k1;rfl));have q2:q<n:=o3o;simp only[upd];rw[XV k4,hq q q1 q2];exact k1
 have hf:di (lP p) ⟨t.name,t.ty⟩=true:=by simpa using c1
 have hi:=Nl hf
 obtain⟨ix,hix⟩:∃ix,ix=bg (lP p) ⟨t.name,t.ty⟩:=⟨_,rfl⟩
 rw[<-hix]at hi
 have Fe:=hix.symm
 have hrow:(p.map rowP).getD ix []=[.v (.string (bs p[ix]!.2.set.name)),.i p[ix]!.2.set.ty,.i p[ix]!.2.set.life,.mrow p[ix]!.1 0 p[ix]!.2.set.data.length,.list true []]:=K8 hi
 have hxd:=hz.d p[ix]! (kM hi)
 have hxe:=hz.ne p[ix]! (kM hi)
 have hxl:=hdl p[ix]! (kM hi)
 have hxn:=hpn p[ix]! (kM hi)
 have hlr:(p.map rowP).length=p.length:=by simp
 have hx3:(p[ix]!.1=rs)=False:=YN (by exact hxe.2)
 have hx4:(p[ix]!.1=zc)=False:=YN (by exact hxe.1)
 have hy3:(rs=p[ix]!.1)=False:=YN (by exact λe=>hxe.2 e.symm)
 have hy4:(zc=p[ix]!.1)=False:=YN (by exact λe=>hxe.1 e.symm)
 have ff:=qB @Fe @hrow (qI @hxd @hlr (nH n (p[ix]!.1)) (nH (p[ix]!.1) r1) @hx3 @hx4 @hy3 @hy4 ff)
 refine oK Tp ?_ ?_<;>intro c2
 .
  have ff:=qF (nH n (n2+26)) (nH (n2+26) rs) (nH (n2+26) zc) (nH cc (n2+26)) (nH (n2+26) r1) ff;refine ae ?_;refine zU Tp 11 ?_;refine UU Tp 11 (r:=r1) (n:=t.data.length) (rows:=t.data.map Dat.d) (news:=p[ix]!.2.set.data.map Dat.d) o5r (hrl:=by intro q hq;obtain⟨x,_,rfl⟩:=List.mem_map.1 hq;rfl) (hby:=by rw[show(prog).bytesOf 57=32 from rfl,List.length_map];omega) (h63:=by rw[List.length_map];omega) ?_
  refine aP Tp ?_
  try simp only[aH]
  obtain⟨r6,hr6⟩:∃q,q=n2+26:=⟨_,rfl⟩;simp only[<-hr6];have ff:=qG (nH n r6) (nH r6 rs) (nH r6 zc) (nH cc r6) (nH r1 r6) (nH (p[ix]!.1) r6) ff;refine ae (bI Tp 2 (hct:=by exact Zao (t.data++p[ix]!.2.set.data) _ _ _ r6 (by rw[X0]) (by rw[X0];omega) (by simp only[go_sem,ff,YT])) (hk:=?_))
  rintro res h2 n2 ⟨rfl,rfl,l9,hpm,hso,rfl⟩;have vG:=hpm.length_eq;rw[X0]at vG;refine bH Tp ?_;refine bI Tp 2 (hct:=by exact ZaT l9 _ _ _ r6 om om o5l) (hk:=?_)
  rintro res h2 n2 ⟨rfl,rfl,a8⟩
  try dsimp only at a8
  refine bH Tp ?_;refine zU Tp 8 ?_;refine aP Tp ?_
  try simp only[aH]
  refine bZ (_) (hh:=λ_=>.inl rfl) (hr:=?_)
  try simp only[go_sem,ff]
  rw[<-Xw (d:=qK l9) hf hix hi (by unfold Ke;rw[if_pos (by grind)];exact Zis (hps _ (kM hi)) hts hpm hso) r6]
  refine⟨rs,_,hz.setP hi (r:=r6) (s:={ t with data:=qK l9 }) ?_ ?_ ?_ (λx hx e=>by have:=hpn x hx;omega) ⟨om,om⟩ (λx hx=>?_),rfl,λq b k1 k2 k3 k4=>?_,by first|omega|(dsimp only;omega)⟩
  . simp only[upd];repeat (first|rfl|rw[XV (by omega)]|rw[XV hz.zr])
  . simp only[upd,Zl];rfl
  . simp only[upd];repeat (first|rfl|rw[XV (by omega)]|rw[X3 rfl])
  . have q1:=hz.ne x hx;have q2:=hpn x hx;simp only[upd];repeat (first|rfl|rw[XV q1.2]|rw[XV (by omega)])
  have q1:q≠rs:=(λe=>k2 (by rw[e,eP]at k1;cases k1;rfl));have q2:q<n:=o3o;simp only[upd];repeat (first|exact k1|rw[XV q1]|rw[XV (by omega)])
 refine zU Tp 8 ?_
 refine aP Tp ?_
 try simp only[aH]
 refine bZ (_) (hh:=λ_=>.inl rfl) (hr:=?_)
 try simp only[go_sem,ff]
 rw[<-Xw (d:=t.data) hf hix hi (by unfold Ke;rw[if_neg (by grind)]) r1]
 refine⟨rs,_,hz.setP hi (r:=r1) (s:={ t with data:=t.data }) ?_ ?_ ?_ (λx hx e=>by have:=hpn x hx;omega) ⟨om,om⟩ (λx hx=>?_),rfl,λq b k1 k2 k3 k4=>?_,by first|omega|(dsimp only;omega)⟩
 . simp only[upd];repeat (first|rfl|rw[XV (by omega)]|rw[XV hz.zr])
 . simp only[upd,Zl];rfl
 . simp only[upd];repeat (first|rfl|rw[XV (by omega)]|rw[X3 rfl])
 . have q1:=hz.ne x hx;have q2:=hpn x hx;simp only[upd];repeat (first|rfl|rw[XV q1.2]|rw[XV (by omega)])
 have q1:q≠rs:=(λe=>k2 (by rw[e,eP]at k1;cases k1;rfl));have q2:q<n:=o3o;simp only[upd];repeat (first|exact k1|rw[XV q1]|rw[XV (by omega)])
def Xb:d9 prog 103=true:=by kernel_rfl
theorem ZaZ(cz ce:Nat)(h:H)(n:Nat):yK prog 103 [.mptr cz 0 0,.mptr ce 0 0] h n .returning .returning (λh' n'=>(∀q,q<n->h' q=h q)/\n<=n'):=by
 refine BK (d:=.v .nilIface) (v:=.nilIface) func103 rfl Xb (by simp[f103]) (dN rfl) rfl rfl (by decide) (.inl ⟨rfl,rfl,rfl⟩) (λ_ _=>.v _) (λhnone=>?_)
 have ff:=True.intro
 refine QF (C:=Tp) 1 (.agg #[.int .i64 0]) (d:=.v .nilIface) (r:=.tuple [.agg [.i 0],.b false]) (v:=.nilIface) om (dN rfl) rfl rfl (by kernel_rfl) (by kernel_rfl) o2l trivial (by rfl) o5l (λw g q hq=>by cases hq;rfl) (.inl ⟨rfl,λw g=>?_⟩) ?_
 .
  exact .tuple _ _ rfl (λi d x h1 h2=>by
   match i with
   | 0=>cases h1;cases h2;exact .agg _ _ rfl (λi d x h1 h2=>by
     match i with
     | 0=>cases h1;cases h2;exact .v _
     | i+1=>simp at h1)
   | 1=>cases h1;cases h2;exact .v _
   | i+2=>simp at h1)
 refine aP Tp ?_
 try simp only[aH]
 refine aa Tp ?_
 refine cd ?_ ?_<;>intro c1
 . simp at c1
 refine aj ?_
 refine⟨(by trivial),h,_,?_,Nat.le_refl _,λq hq=>rfl,by dsimp only;omega⟩
 intro r
 dsimp only
 by_cases e:r<n
 . left;simp only[upd];repeat (first|rfl|rw[XV (by omega)])
 right;exact hnone r om
theorem Pm(cz ce:Nat)(h:H)(n:Nat)(a0 b0 c0:D)(hz:h cz=some ⟨24,[[a0,b0]]⟩)(he:h ce=some ⟨35,[[c0]]⟩)(k:Int)(hne:cz≠ce)(hcz:cz<n)(hce:ce<n):yK prog 103 [.mptr cz 0 0,.mptr ce 0 0] h n (.panicking [{ v:=.iface 178 (.agg #[.int .i64 k]),recovered:=false }]) (.panicking [{ v:=.iface 178 (.agg #[.int .i64 k]),recovered:=true }]) (λh' n'=>h' cz=some ⟨24,[[.v (.string (bs [])),.list true []]]⟩/\h' ce=some ⟨35,[[.i k]]⟩/\n<=n' /\ ∀q,q<n->q≠cz->q≠ce->h' q=h q):=by
 have ragg : ∀(w:World)(g:Mem),ag w g (.agg [.i k]) (.agg #[.int .i64 k]):=λw g=>.agg _ _ rfl (λi d x h1 h2=>by
  match i with
  | 0=>cases h1;cases h2;exact .v _
  | i+1=>simp at h1)
 refine BK (d:=.iface 178 (.agg [.i k])) (v:=.iface 178 (.agg #[.int .i64 k])) func103 rfl Xb (by simp[f103]) (dN rfl) rfl rfl (by decide) (.inr ⟨rfl,rfl⟩) (λw g=>.iface _ _ _ (ragg w g)) (λhnone=>?_)
 have hn1 : ∀k,(cz=n+k)=False:=λk=>YN (by omega)
 have hn2 : ∀k,(ce=n+k)=False:=λk=>YN (by omega)
 have hn3 : ∀k,(n+k=cz)=False:=λk=>YN (by omega)
 have nE : ∀k,(n+k=ce)=False:=λk=>YN (by omega)
 have Bn:(cz=ce)=False:=YN hne
 have hn6:(ce=cz)=False:=YN λe=>hne e.symm
 have ff:=qH hz he hn1 hn2 hn3 nE Bn hn6
 refine QF (C:=Tp) 1 (.agg #[.int .i64 0]) (d:=.iface 178 (.agg [.i k])) (r:=.tuple [.agg [.i k],.b true]) (v:=.iface 178 (.agg #[.int .i64 k])) (by omega) (dN rfl) rfl rfl (by kernel_rfl) (by kernel_rfl) o2l trivial (by rfl) o5l (λw g q hq=>?_) (.inr ⟨_,rfl,λw g=>?_⟩) ?_
 .
  cases hq with|iface _ _ x hx =>
  cases hx with|agg _ vs hn h2 =>
  obtain⟨vs⟩:=vs
  match vs,hn with
  | [y],_ =>
   have:=h2 0 (.i k) y rfl rfl
   cases this
   rfl
 .
  exact .tuple _ _ rfl (λi d x h1 h2=>by
   match i with
   | 0=>cases h1;cases h2;exact ragg w g
   | 1=>cases h1;cases h2;exact .v _
   | i+2=>simp at h1)
 refine aP Tp ?_
 try simp only[aH]
 show DW _ _ _ _ _
 refine aa Tp ?_
 refine cd ?_ ?_<;>intro c1
 .
  refine rgnP Tp [⟨2,3⟩] ?_;refine⟨(by trivial),_,_,λ_=>.inl rfl,Nat.le_refl _,?_,?_,by dsimp only;omega,λq q1 q2 q3=>?_⟩
  . dsimp only;simp only[upd];repeat (first|rfl|rw[if_neg (by omega)]|rw[if_pos rfl])
  . dsimp only;simp only[upd];repeat (first|rfl|rw[if_neg (by omega)]|rw[if_pos rfl])
  . dsimp only;simp only[upd];repeat (first|rfl|rw[if_neg q2]|rw[if_neg q3]|rw[if_neg (by omega)])
 . simp at c1
def ZaF{y:Zon}{c:Chg}(hpy:dO y)(hc:fZ c=true)(zc rs qc qd:Nat)(a:Str)(p:List PS)(hlp:lP p=y.sets)(hl:p.length<=90000)(EX : ∀x∈p,x.2.set.data.length<=8/\jR dV x.2.set.data) :
  ∃f aD rest,([.v .nilFunc,.fn (.func 165) [] [.mptr qc 0 0],.fn (.func 170) [] [.mptr qc 0 0,.mptr qd 0 0],.fn (.func 174) [] [.mptr qc 0 0,.mptr qd 0 0],.fn (.func 175) [] [.mptr qc 0 0]]:List D).drop c.kind.toNat = .fn (.func f) [] aD::rest /\ ∀h n,ZM 24 84 57 zc rs a p h->h qc=some ⟨183,[[.mptr zc 0 0]]⟩->h qd=some ⟨138,[[.fn (.func 163) [] [.mptr qc 0 0]]]⟩->bT prog f ([]++[.agg c.set.d]++aD) h n (λd h' n'=>d = .tuple []/\j6 24 84 57 zc a (kE y.sets c) h h' n n'):=by
 rcases WL hc with k|k|k|k
 .
  have hso:=NY hc (.inl k);refine⟨165,[.mptr qc 0 0],_,by rw[k];rfl,λh n h1 h2 h3=>?_⟩
  have q:=Za3 c.set zc rs qc a p h n h1 h2 hl (λx hx=>by have:=(EX x hx).1;omega) (λx hx=>(EX x hx).2) hso.1.sorted (by have:=hso.1.len;omega) (by have:=hso.1.len;omega)
  rwa [hlp,Zkm hpy.zo (BM hc) k]at q
 .
  have hso:=NY hc (.inr k);refine⟨170,[.mptr qc 0 0,.mptr qd 0 0],_,by rw[k];rfl,λh n h1 h2 h3=>?_⟩
  have q:=Zan c.set zc rs qc qd a p h n h1 h2 h3 (by omega) (λx hx=>by have:=(EX x hx).1;omega) (by have:=hso.1.len;omega)
  rwa [hlp,Zbp hpy.zo (BM hc) k]at q
 .
  refine⟨174,[.mptr qc 0 0,.mptr qd 0 0],_,by rw[k];rfl,λh n h1 h2 h3=>?_⟩
  have q:=Zap c.set zc rs qc qd a p h n h1 h2 h3 (by omega)
  rwa [hlp,Zct hpy.zo (BM hc) k]at q
 refine⟨175,[.mptr qc 0 0],_,by rw[k];rfl,λh n h1 h2 h3=>?_⟩
 have q:=ZaC c.set zc rs qc a p h n h1 h2 (by omega)
 rwa [Zf2 (q:=λx=>!dQ c.set.name x),hlp,Zfe k]at q
def bo50:d9 prog 50=true:=by kernel_rfl
theorem Pk(z:Zon)(l:List Chg)(h:H)(n:Nat)(hz:dO z)(hcs : ∀c∈l,fZ c=true)(hll:l.length<=1000):bT prog 50 [.agg z.d,.list false (l.map Chg.d)] h n (λd h' n'=>((yB z l=none/\d = .tuple [.agg [.v (.string (bs [])),.list true []],.i 6]) \/ ∃y zc rs p,yB z l=some y/\d = .tuple [.agg [.v (.string (bs z.apex)),.mrow rs 0 p.length],.i 0]/\ZM 24 84 57 zc rs z.apex p h'/\lP p=y.sets/\zc<n'/\rs<n' /\ ∀x∈p,x.1<n') /\ ∀q b,q<n->h q=some b->b.ty≠84->b.ty≠57->h' q=some b):=by
 have ff:=True.intro
 refine HZ (C:=Tp) 1 func50 rfl bo50 (by simp[f50]) (by intro o ho;simp only[Yl,YZ,or_false]at ho;rcases ho with rfl|rfl|rfl<;>rfl) o4y o4d (dN rfl) rfl rfl o2q o4l o4d o3g o4y (λhnone=>?_)
 unfold f50
 refine aP Tp ?_
 try simp only[aH]
 show DW _ _ _ _ _
 have zlen:=hz.zo.len
 have ff:=qD (nH n (n+1)) (nH n (n+2)) (nH (n+1) (n+2)) ff
 refine ae (bI Tp 1 (hct:=by exact ZaV z (by omega) (λs hs=>by have:=(hz.zo.ok s hs).len;omega) _ _) (hk:=?_))
 rintro res h2 n2 ⟨rs0,p0,rfl,d1,d2,d3,d4,d5,d6,d7,d8⟩
 try dsimp only at d5 d6 d7 d8
 have e1:h2 n=some ⟨24,[z.d]⟩:=by rw[d8 _ (by omega)];simp only[go_sem,ff]
 have e2:h2 (n+1)=some ⟨24,[[.v (.string (bs [])),.list true []]]⟩:=by rw[d8 _ (by omega)];simp only[go_sem,ff]
 have e3:h2 (n+2)=some ⟨35,[[.i 0]]⟩:=by rw[d8 _ (by omega)];simp only[go_sem,ff]
 have ff:=qD @e1 @e2 @e3 ff
 refine bH Tp ?_
 show DW _ _ _ _ _
 refine ae (bI Tp 0 (hct:=by exact ZaE (n+1) _ _ o5r) (hk:=?_))
 rintro res hb nb ⟨rfl,g1,g2,g3,g4⟩
 try dsimp only at g1 g2 g3 g4
 refine bH Tp ?_
 show DW _ _ _ _ _
 refine ae ?_
 refine aa Tp ?_
 refine ah ?_
 refine Zib λhq0 Bp=>?_
 dsimp only at Bp
 obtain⟨qc,hqc⟩:∃q,q=n2+3:=⟨_,rfl⟩
 obtain⟨qd,hqd⟩:∃q,q=n2+6:=⟨_,rfl⟩
 obtain⟨qa,hqa⟩:∃q,q=nb+1:=⟨_,rfl⟩
 simp only[Nat.add_assoc,Nat.reduceAdd]at Bp g1 g2
 simp only[<-hqc,<-hqd,<-hqa]at Bp g1 g2
 simp only[<-hqa]
 have w0 : ∀q,q<n2+3->hq0 q=upd h2 (n+1) (some ⟨24,[[.v (.string (bs z.apex)),.mrow rs0 0 p0.length]]⟩) q:=λq hq=>by rw[Bp];simp only[upd];rw[XV (by omega),XV (by omega)];have:=g3 q (by omega);simpa[upd]using this
 have i0:hq0 n=some ⟨24,[z.d]⟩:=by rw[w0 n (by omega)];simp only[upd];rw[XV (by omega)];exact e1
 have i1:hq0 (n+1)=some ⟨24,[[.v (.string (bs z.apex)),.mrow rs0 0 p0.length]]⟩:=by rw[w0 (n+1) (by omega)];simp only[upd,Zl]
 have i2:hq0 (n+2)=some ⟨35,[[.i 0]]⟩:=by rw[w0 (n+2) (by omega)];simp only[upd];rw[XV (by omega)];exact e3
 have ic:hq0 qc=some ⟨183,[[.mptr (n+1) 0 0]]⟩:=by rw[Bp];simp only[upd];rw[XV (by omega),XV (by omega)];exact g1
 have id9:hq0 qd=some ⟨138,[[.fn (.func 163) [] [.mptr qc 0 0]]]⟩:=by rw[Bp];simp only[upd];rw[XV (by omega),XV (by omega)];exact g2
 have ia:hq0 qa=some ⟨181,[[.v .nilFunc,.fn (.func 165) [] [.mptr qc 0 0],.fn (.func 170) [] [.mptr qc 0 0,.mptr qd 0 0],.fn (.func 174) [] [.mptr qc 0 0,.mptr qd 0 0],.fn (.func 175) [] [.mptr qc 0 0]]]⟩:=by rw[Bp];simp only[upd,Zl]
 have izm:ZM 24 84 57 (n+1) rs0 z.apex p0 hq0:=⟨i1,by rw[w0 rs0 (by omega)];simp only[upd];rw[XV (by omega)];exact d2,λx hx=>by have:=d5 x hx;rw[w0 x.1 (by omega)];simp only[upd];rw[XV (by omega)];exact d3 x hx,by omega,λx hx=>by have:=d5 x hx;exact⟨by omega,this.1⟩,d4,λx hx=>by have h9:x.2∈lP p0:=Yr.2 ⟨x,hx,rfl⟩;rw[d1]at h9;obtain⟨s9,_,e9⟩:=Yr.1 h9;rw[<-e9];rfl⟩
 have ilp:lP p0=z.sets:=by rw[d1,ZjY hz]
 have ifr : ∀q b,q<n->h q=some b->b.ty≠84->b.ty≠57->hq0 q=some b:=λq b q1 q2 _ _=>by rw[w0 q (by omega)];simp only[upd];rw[XV (by omega),d8 q (by omega)];simp only[upd];repeat (first|exact q2|rw[XV (by omega)])
 refine jk (α:=(Nat)×(Zon)×(Nat)×(List PS)×(H)×Nat) [2,4,5,13,14] (λ⟨k,y,rs,p,hq,nx⟩=>(k<=l.length)/\(tL z l k=some y)/\(dO y)/\(y.apex=z.apex)/\(ZM 24 84 57 (n+1) rs z.apex p hq)/\(lP p=y.sets)/\(hq n=some ⟨24,[z.d]⟩)/\(hq (n+2)=some ⟨35,[[.i 0]]⟩)/\(hq qc=some ⟨183,[[.mptr (n+1) 0 0]]⟩)/\(hq qd=some ⟨138,[[.fn (.func 163) [] [.mptr qc 0 0]]]⟩)/\(hq qa=some ⟨181,[[.v .nilFunc,.fn (.func 165) [] [.mptr qc 0 0],.fn (.func 170) [] [.mptr qc 0 0,.mptr qd 0 0],.fn (.func 174) [] [.mptr qc 0 0,.mptr qd 0 0],.fn (.func 175) [] [.mptr qc 0 0]]]⟩)/\(∀q b,q<n->h q=some b->b.ty≠84->b.ty≠57->hq q=some b)/\(n+2<nx/\qc<nx/\qd<nx/\qa<nx)/\True) (λ⟨k,y,rs,p,hq,nx⟩=>l.length-k) (λ⟨k,y,rs,p,hq,nx⟩=>[(6,.mptr qa 0 0),(15,.i k)]) (λ⟨k,y,rs,p,hq,nx⟩=>hq) (λ⟨k,y,rs,p,hq,nx⟩=>nx) (0,z,rs0,p0,hq0,_) (hA:=⟨iv,rfl,hz,rfl,izm,ilp,i0,i2,ic,id9,ia,ifr,oW,trivial⟩) (round:=?_)
 rintro⟨k,y,rs,p,hq,nx⟩ ⟨hk,hs,hpy,Dg,uu,hlp,b0,b2,bc,bd,ba,hfr,hnx, -⟩
 show DW _ _ _ _ { n:=_,t:=tab _,h:=_,nx:=_,e:=_ }
 simp only[XY,XZ]
 refine Zh6 λhno=>?_
 dsimp only at hno
 have zlt:=uu.lt hno
 have eP:=uu.r
 have hzz:=uu.z
 have hlen:p.length=y.sets.length:=by rw[<-hlp,mH]
 have ylen:=hpy.zo.len
 have hrz:=uu.zr
 have hr0:rs≠n:=λe=>by rw[e,b0]at eP;cases eP
 have hr2:rs≠n+2:=λe=>by rw[e,b2]at eP;cases eP
 have hrc:rs≠qc:=λe=>by rw[e,bc]at eP;cases eP
 have hrd:rs≠qd:=λe=>by rw[e,bd]at eP;cases eP
 have hra:rs≠qa:=λe=>by rw[e,ba]at eP;cases eP
 have hq1:qc≠n+1:=λe=>by rw[e,hzz]at bc;cases bc
 have hq2:qd≠n+1:=λe=>by rw[e,hzz]at bd;cases bd
 have hq3:qa≠n+1:=λe=>by rw[e,hzz]at ba;cases ba
 have EX : ∀x∈p,x.2.set.data.length<=8/\jR dV x.2.set.data:=λx hx=>by have h9:x.2∈y.sets:=(by rw[<-hlp];exact Yr.2 ⟨x,hx,rfl⟩);have h8:=hpy.zo.ok _ h9;exact⟨h8.len.2,h8.sorted⟩
 have ff:=qE @b0 @b2 @bc @bd (qI @ba @eP @hzz (nH n (nx+3)) (nH (n+1) (nx+3)) (nH (n+2) (nx+3)) (nH (nx+3) qc) (nH (nx+3) qd) (qI (nH (nx+3) qa) (nH (nx+3) rs) (nH n rs) (nH (n+1) rs) (nH (n+2) rs) (nH qc rs) (nH qd rs) (nH qa rs) ff))
 refine aa Tp ?_
 refine ae ?_
 refine cd ?_ ?_ (hp:=rfl) (hq:=rfl)<;>intro c1
 .
  have hk2:k<l.length:=by simpa using c1
  have hc:fZ l[k]! = true:=hcs _ (kQ.2 ⟨k,hk2,rfl⟩);have ff:=qA (Dm hk2) ff;refine aj ?_
  show DW _ _ _ _ _
  refine ae ?_;refine ah ?_;refine aa Tp ?_;refine ae ?_;refine aa Tp ?_;refine cd ?_ ?_<;>intro c2
  .
   refine sJ ?_;refine QD (C:=Tp) 1 (by omega) (dN rfl) rfl rfl (by kernel_rfl) o2l o4d (by rfl) (by simp only[go_sem,ff];first|done|exact rfl) ?_
   refine Dj Tp 2 (d:=.iface 178 (.agg [.i 6])) (t:=178) (v:=.agg #[.int .i64 6]) ?_ (λw g q hrq=>?_)
   .
    have MF:=Gd (by rw[Gc hs];exact PI hpy hc (.inl (by rw[Dg];grind))) l.length (by omega)
    refine⟨_,_,_,rfl,rfl,Pm (n+1) (n+2) _ _ _ _ (.i 0) o4y o5l 6 (by omega) o5r o5r,λh1 n1⟨w1,w2,w3,w4⟩=>?_⟩
    have ff:=qB w1 w2 ff;exact⟨by simp only[go_sem,ff],h1,n1,λ_=>.inl rfl,Nat.le_refl _,.inl ⟨MF,by simp only[go_sem,ff]⟩,λq b q1 q2 q3 q4=>by rw[w4 q o5r (by omega) (by omega)];simp only[upd];repeat (first|exact hfr q b q1 q2 q3 q4|rw[if_neg (by omega)])⟩
   .
    cases hrq with|iface _ _ x hx =>
    cases hx with|agg _ vs Bl yl =>
    obtain⟨vs⟩:=vs
    match vs,Bl with
    | [y9],_ =>
     have:=yl 0 (.i 6) y9 rfl rfl
     cases this
     rfl
  .
   have c2 : ¬(l[k]!.kind=4/\l[k]!.set.name=y.apex):=by rw[Dg];grind
   refine aj ?_
   show DW _ _ _ _ _
   obtain⟨f9,cp9,rs9,hdr,hct9⟩:=ZaF hpy hc (n+1) rs qc qd z.apex p hlp (by omega) EX
   have hkd9:=WL hc;rw[<-Nat.mul_one l[k]!.kind.toNat]at hdr;have ff:=qA @hdr ff;refine ae ?_;refine dr1 Tp 6 7 [] (hct:=by exact hct9 _ _ (uu.keep (λq hq9=>by have hqn:q<nx:=(by rcases hq9 with rfl|rfl|⟨x,hx,rfl⟩;omega;exact zlt.2.1;exact zlt.2.2 x hx);simp only[upd];repeat (first|rfl|rw[XV (by omega)]))) o5l o5l) (hkeep:=?_) (hk:=?_)
   . intro res h2 n2 _ q hq;cases hq
   rintro res h2 n2 ⟨rfl,hst⟩
   try dsimp only at hst
   obtain⟨rs2,p2,hz2,hl3,hkeep,hn2⟩:=hst;have g0:=hkeep n _ o4y o5p o5p (by omega)
   have g2:=hkeep (n+2) _ o4y o5p o5p (by omega)
   have gc:=hkeep qc _ o4y o5p o5p (by omega)
   have gd:=hkeep qd _ o4y o5p o5p (by omega)
   have ga:=hkeep qa _ o4y o5p o5p (by omega)
   have gt:=hkeep (nx+3) _ o4y o5p o5p (by omega)
   have hfr2 : ∀q b,q<n->h q=some b->b.ty≠84->b.ty≠57->h2 q=some b:=λq b q1 q2 q3 q4=>hkeep q b (by simp only[upd];repeat (first|exact hfr q b q1 q2 q3 q4|rw[XV (by omega)])) q3 q4 (by omega)
   have gz:=hz2.z;have gr:=hz2.r;have ff:=qH g0 g2 gc gd ga gz gr ff;refine aP Tp ?_
   try simp only[aH]
   have hsw:=hz2.snap;have xZ:je h2 (.agg [.v (.string (bs z.apex)),.mrow rs2 0 p2.length]) = .agg [.v (.string (bs z.apex)),.list false ((lP p2).map Sgd.d)]:=hsw.1;have ff:=qA @xZ ff;refine aa uQ ?_ (hok:=by(try simp only[go_sem,ff]);all_goals (first|done|((repeat' (with_reducible apply And.intro))<;>first|(intros;exact xw ⟨z.apex,lP p2⟩)|(intros;exact hsw.2)|exact(λrow hrow c hc=>by obtain⟨x,hx,rfl⟩:=Yr.1 hrow;exact(lH (hz2.data x hx) 1).2 c hc)|rfl|skip)))
   refine cd ?_ ?_<;>intro c3
   .
    refine sJ ?_;refine QD (C:=Tp) 1 (by omega) (dN rfl) rfl rfl (by kernel_rfl) o2l o4d (by rfl) (by simp only[go_sem,ff];first|done|exact rfl) ?_
    refine Dj Tp 2 (d:=.iface 178 (.agg [.i 6])) (t:=178) (v:=.agg #[.int .i64 6]) ?_ (λw g q hrq=>?_)
    .
     have MF:=Gd (by rw[Gc hs];exact PI hpy hc (.inr (by rw[<-hl3,Dg];exact c3))) l.length (by omega)
     refine⟨_,_,_,rfl,rfl,Pm (n+1) (n+2) _ _ _ _ (.i 0) o4y o5l 6 (by omega) o5r o5r,λh1 n1⟨w1,w2,w3,w4⟩=>?_⟩
     have ff:=qB w1 w2 ff;exact⟨by simp only[go_sem,ff],h1,n1,λ_=>.inl rfl,Nat.le_refl _,.inl ⟨MF,by simp only[go_sem,ff]⟩,λq b q1 q2 q3 q4=>by rw[w4 q o5r (by omega) (by omega)];exact hfr2 q b q1 q2 q3 q4⟩
    .
     cases hrq with|iface _ _ x hx =>
     cases hx with|agg _ vs Bl yl =>
     obtain⟨vs⟩:=vs
     match vs,Bl with
     | [y9],_ =>
      have:=yl 0 (.i 6) y9 rfl rfl
      cases this
      rfl
   .
    refine aj ?_
    show DW _ _ _ _ _
    have hzk:aI ⟨y.apex,kE y.sets l[k]!⟩=true:=by rw[<-hl3,Dg];exact c3
    have hstep:=Zbv hpy hc c2 hzk;have hpn:=(KH hpy hc hstep).1;refine ai Tp ?_
    show ∃_,_
    exact ay (k+1,⟨y.apex,kE y.sets l[k]!⟩,rs2,p2,h2,_) (h1:=⟨iv,(by(try dsimp only);rw[Gc hs];exact hstep),hpn,Dg,hz2,hl3,g0,g2,gc,gd,ga,hfr2,oW,trivial⟩)
 .
  have hk3:k=l.length:=by have : ¬k<l.length:=(by simpa using c1);omega
  subst hk3;refine aK ?_
  show DW _ _ _ _ _
  refine aa Tp ?_;refine aN ?_;refine⟨.returning,.returning,_,rfl,rfl,ZaZ (n+1) (n+2) _ _,λh1 n1⟨w1,w2⟩=>?_⟩
  have v1:h1 (n+1)=some ⟨24,[[.v (.string (bs z.apex)),.mrow rs 0 p.length]]⟩:=by rw[w1 _ o5r];simp only[go_sem,ff]
  have v2:h1 (n+2)=some ⟨35,[[.i 0]]⟩:=by rw[w1 _ o5r];simp only[go_sem,ff]
  have ff:=qB v1 v2 ff;refine⟨by simp only[go_sem,ff],h1,n1,λ_=>.inl rfl,Nat.le_refl _,.inr ⟨y,n+1,rs,p,hs,by simp only[go_sem,ff],uu.keep (λq hq=>?_),hlp,by dsimp only at w2;omega,by dsimp only at w2;omega,λx hx=>by have:=zlt.2.2 x hx;dsimp only at w2;omega⟩,λq b q1 q2 q3 q4=>by rw[w1 q o5r];simp only[upd];repeat (first|exact hfr q b q1 q2 q3 q4|rw[if_neg (by omega)])⟩
  have hqn:q<nx:=by rcases hq with rfl|rfl|⟨x,hx,rfl⟩;omega;exact zlt.2.1;exact zlt.2.2 x hx
  have hq5:q≠n+2:=by rcases hq with rfl|rfl|⟨x,hx,rfl⟩;omega;exact hr2;intro e;have:=uu.d x hx;rw[e,b2]at this;cases this
  rw[w1 q o5r]
  simp only[upd];rw[XV hq5]
  by_cases e9:q=n+1
  . subst e9;simp only[Zl];rw[hzz]
  . simp only[XV e9]
end Go.Proofs.YtidphdaoejibcaaGreatDoor
