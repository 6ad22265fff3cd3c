/-
  MANY TEXTS OF MINE IN ONE (a claim has a limit of files): Wh, Wi. Conditions: none.
-/
import Derived.Test.YtdcenbhgholncaaGreatDoorMTD7
set_option linter.unusedVariables false
set_option linter.unusedSimpArgs false
set_option linter.unusedSectionVars false
set_option linter.defProp false
set_option linter.unnecessarySimpa false
namespace Go.Proofs.YtdcenbhgholncaaGreatDoor
open Go.Proofs.Tryz
open Go.DL Go.Str Go.Rec Go.Zon
def Bl:List (List D×D)->List D->Option D
 | [],_=>none
 | (az,d)::l,xs=>if qy xs az then some d else Bl l xs
theorem Hr{f:FuncId}:∀{l:List (List D×D)},(∀p∈l,PureCt prog f p.1 p.2) -> ∀xs e,Bl l xs=some e->PureCt prog f xs e
 | [],_,xs,e,k=>by cases k
 | (az,d)::l,h,xs,e,k=>by
  unfold Bl at k
  split at k
  .
   rename_i c
   simp only[XU]at k;subst k;rw[tL c];exact h _ (.head _)
  exact Hr (λp hp=>h p (List.mem_cons_of_mem _ hp)) xs e k
def all_nil{P:List D×D->Prop}:∀p∈([]:List (List D×D)),P p:=λ_ h=>by cases h
def all_cons{P:List D×D->Prop}{a:List D×D}{l:List (List D×D)}(h:P a)(k : ∀p∈l,P p):∀p∈a::l,P p:=λp hp=>(Yz.1 hp).elim (λe=>e▸h) (k p)
def nT:D:=(.fmap [sX [46],(.agg [sX [46],(.l [[sX [46],.i 2,.i 9,(.l [[sX [97],.i 0,.i 0],[sX [98],.i 0,.i 0]]),(.l [[sX [46],.i 1,.i 1,.i 0,.i 100,(.v (.int .u64 15524373924776209017))]])],[sX [46],.i 4,.i 9,(.l [[sX [],.i 1,.i 5]]),(.l [[sX [46],.i 1,.i 1,.i 0,.i 100,(.v (.int .u64 16322337415761590763))]])],[sX [46],.i 7,.i 9,(.l [[sX [],.i 1,.i 1]]),(.l [[sX [46],.i 1,.i 1,.i 0,.i 100,(.v (.int .u64 2657522067986507882))]])],[sX [46],.i 8,.i 5,(.l [[sX [97],.i 404,.i 0]]),(.l [[sX [46],.i 1,.i 1,.i 0,.i 100,(.v (.int .u64 93388772712314176))]])],[sX [97],.i 1,.i 9,(.l [[sX [],.i 1,.i 0]]),(.l [[sX [46],.i 1,.i 1,.i 0,.i 100,(.v (.int .u64 1687708634730746430))]])],[sX [97],.i 8,.i 5,(.l [[sX [98],.i 258,.i 0]]),(.l [[sX [46],.i 1,.i 1,.i 0,.i 100,(.v (.int .u64 15447431012579878192))]])],[sX [98],.i 1,.i 9,(.l [[sX [],.i 2,.i 0]]),(.l [[sX [46],.i 1,.i 1,.i 0,.i 100,(.v (.int .u64 1601913316112232078))]])],[sX [98],.i 8,.i 5,(.l [[sX [116],.i 258,.i 0]]),(.l [[sX [46],.i 1,.i 1,.i 0,.i 100,(.v (.int .u64 17657156401124235265))]])],[sX [116],.i 5,.i 9,(.l [[sX [116],.i 0,.i 0]]),(.l [[sX [46],.i 1,.i 1,.i 0,.i 100,(.v (.int .u64 13751311639924543513))]])],[sX [116],.i 8,.i 5,(.l [[sX [120],.i 288,.i 0]]),(.l [[sX [46],.i 1,.i 1,.i 0,.i 100,(.v (.int .u64 5657962812952937833))]])],[sX [120],.i 2,.i 9,(.l [[sX [97,46,120],.i 0,.i 0],[sX [98,46,120],.i 0,.i 0]]),.l []],[sX [120],.i 6,.i 9,(.l [[sX [],.i 2,.i 1]]),(.l [[sX [46],.i 1,.i 1,.i 0,.i 100,(.v (.int .u64 14045576682384823206))]])],[sX [120],.i 8,.i 5,(.l [[sX [46],.i 324,.i 0]]),(.l [[sX [46],.i 1,.i 1,.i 0,.i 100,(.v (.int .u64 12628869094902144615))]])],[sX [97,46,120],.i 1,.i 9,(.l [[sX [],.i 11,.i 0]]),.l []],[sX [98,46,120],.i 1,.i 9,(.l [[sX [],.i 12,.i 0]]),.l []]])]),sX [120],(.agg [sX [120],(.l [[sX [120],.i 2,.i 9,(.l [[sX [97,46,120],.i 0,.i 0],[sX [98,46,120],.i 0,.i 0]]),(.l [[sX [120],.i 2,.i 1,.i 0,.i 100,(.v (.int .u64 14478786720789922768))]])],[sX [120],.i 4,.i 9,(.l [[sX [],.i 1,.i 5]]),(.l [[sX [120],.i 2,.i 1,.i 0,.i 100,(.v (.int .u64 347615602104981302))]])],[sX [120],.i 7,.i 9,(.l [[sX [],.i 2,.i 1]]),(.l [[sX [120],.i 2,.i 1,.i 0,.i 100,(.v (.int .u64 9287301355740456602))]])],[sX [120],.i 8,.i 5,(.l [[sX [97,46,120],.i 404,.i 0]]),(.l [[sX [120],.i 2,.i 1,.i 0,.i 100,(.v (.int .u64 12090124700658539213))]])],[sX [97,46,120],.i 1,.i 9,(.l [[sX [],.i 11,.i 0]]),(.l [[sX [120],.i 2,.i 1,.i 0,.i 100,(.v (.int .u64 1827673170240175627))]])],[sX [97,46,120],.i 8,.i 5,(.l [[sX [98,46,120],.i 258,.i 0]]),(.l [[sX [120],.i 2,.i 1,.i 0,.i 100,(.v (.int .u64 12302796423079920123))]])],[sX [98,46,120],.i 1,.i 9,(.l [[sX [],.i 12,.i 0]]),(.l [[sX [120],.i 2,.i 1,.i 0,.i 100,(.v (.int .u64 16166491652191176555))]])],[sX [98,46,120],.i 8,.i 5,(.l [[sX [116,46,120],.i 258,.i 0]]),(.l [[sX [120],.i 2,.i 1,.i 0,.i 100,(.v (.int .u64 1786761584111593962))]])],[sX [116,46,120],.i 5,.i 9,(.l [[sX [116],.i 0,.i 0]]),(.l [[sX [120],.i 2,.i 1,.i 0,.i 100,(.v (.int .u64 7873489769805208270))]])],[sX [116,46,120],.i 8,.i 5,(.l [[sX [120],.i 288,.i 0]]),(.l [[sX [120],.i 2,.i 1,.i 0,.i 100,(.v (.int .u64 14025414164136867366))]])]])])])
def h168:PureCt prog 168 [tO] nT:=l5 mQ (by kernel_rfl)
def FQ:D:=(.agg [(.l [[sX [46]],[sX [120]]]),(.l [[sX [46],.i 2,sX [97]],[sX [46],.i 2,sX [98]],[sX [120],.i 2,sX [97,46,120]],[sX [120],.i 2,sX [98,46,120]],[sX [120],.i 2,sX [97,46,120]],[sX [120],.i 2,sX [98,46,120]]])])
def h230t:PureCt prog 230 [nT,sX [116,46,120]] FQ:=l5 mQ (by kernel_rfl)
def FR:D:=(.agg [(.l [[sX [46]]]),(.l [[sX [46],.i 2,sX [97]],[sX [46],.i 2,sX [98]]])])
def h230a:PureCt prog 230 [nT,sX [97]] FR:=l5 mQ (by kernel_rfl)
def Sr:D:=(.agg [(.l [[sX [46]]]),(.l [[sX [46],.i 2,sX [97]],[sX [46],.i 2,sX [98]]])])
def h230b:PureCt prog 230 [nT,sX [98]] Sr:=l5 mQ (by kernel_rfl)
def Su:D:=(.agg [(.l [[sX [46]],[sX [120]]]),(.l [[sX [46],.i 2,sX [97]],[sX [46],.i 2,sX [98]],[sX [120],.i 2,sX [97,46,120]],[sX [120],.i 2,sX [98,46,120]],[sX [120],.i 2,sX [97,46,120]],[sX [120],.i 2,sX [98,46,120]]])])
def Zc3:PureCt prog 230 [nT,sX [97,46,120]] Su:=l5 mQ (by kernel_rfl)
def Sq:D:=(.agg [(.l [[sX [46]],[sX [120]]]),(.l [[sX [46],.i 2,sX [97]],[sX [46],.i 2,sX [98]],[sX [120],.i 2,sX [97,46,120]],[sX [120],.i 2,sX [98,46,120]],[sX [120],.i 2,sX [97,46,120]],[sX [120],.i 2,sX [98,46,120]]])])
def Zc2:PureCt prog 230 [nT,sX [98,46,120]] Sq:=l5 mQ (by kernel_rfl)
def Sm:D:=(.fn (Go.Fn.func 275) [] [(.eptr [(.l [[sX [46],.i 2,sX [97]],[sX [46],.i 2,sX [98]],[sX [120],.i 2,sX [97,46,120]],[sX [120],.i 2,sX [97,46,120]],[sX [120],.i 2,sX [98,46,120]],[sX [120],.i 2,sX [98,46,120]]])])])
def h231t:PureCt prog 231 [FQ] Sm:=l5 mQ (by kernel_rfl)
def Sn:D:=(.fn (Go.Fn.func 275) [] [(.eptr [(.l [[sX [46],.i 2,sX [97]],[sX [46],.i 2,sX [98]]])])])
def h231a:PureCt prog 231 [FR] Sn:=l5 mQ (by kernel_rfl)
noncomputable def tbQ:List (FuncId×(List D->Option D)):=(231,Bl [([FQ],Sm),([FR],Sn)])::(230,Bl [([nT,sX [116,46,120]],FQ),([nT,sX [97]],FR),([nT,sX [98]],Sr),([nT,sX [97,46,120]],Su),([nT,sX [98,46,120]],Sq)])::(168,uw [tO] nT)::tbR
def LY:tY tbQ:=ek (Hr (all_cons h231t <| all_cons h231a <| all_nil)) <| ek (Hr (all_cons h230t <| all_cons h230a <| all_cons h230b <| all_cons Zc3 <| all_cons Zc2 <| all_nil)) <| ek (xV h168) mQ
def Sv:D:=(.l [[sX [116,46,120],(.l [[sX [46]],[sX [120]]]),(.i (-1)),sX [],.i 0],[sX [97],(.l [[sX [46]]]),.i 0,sX [46],.i 2],[sX [98],(.l [[sX [46]]]),.i 0,sX [46],.i 2],[sX [97,46,120],(.l [[sX [46]],[sX [120]]]),.i 0,sX [120],.i 2],[sX [98,46,120],(.l [[sX [46]],[sX [120]]]),.i 0,sX [120],.i 2]])
def h167:PureCt prog 167 [nT,sX [116,46,120]] Sv:=l5 LY (by kernel_rfl)
noncomputable def tbV:List (FuncId×(List D->Option D)):=(167,uw [nT,sX [116,46,120]] Sv)::tbQ
def Vg:tY tbV:=ek (xV h167) LY
def d18:D:=(.tuple [(.l [[sX [46]],[sX [120]]]),.i 0])
def h18:PureCt prog 18 [tO,sX [116,46,120]] d18:=l5 Vg (by kernel_rfl)
def d19:D:=(.tuple [(.agg [.i 1,(.l [[sX [116,46,120],.i 5,.i 9,(.l [[sX [116],.i 0,.i 0]]),(.l [[sX [120],.i 2,.i 1,.i 0,.i 100,(.v (.int .u64 7873489769805208270))]])]]),sX []]),.i 0])
def h19:PureCt prog 19 [tO,.agg [sX [116,46,120],.i 5]] d19:=l5 mQ (by kernel_rfl)
end Go.Proofs.YtdcenbhgholncaaGreatDoor
