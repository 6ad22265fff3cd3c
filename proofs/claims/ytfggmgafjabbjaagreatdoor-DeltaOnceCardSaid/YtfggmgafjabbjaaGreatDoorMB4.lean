/-
  MANY TEXTS OF MINE IN ONE (a claim has a limit of files): NmW6, RecCon, RcW1, RcW3, RcW4, RcW5, ZoCon, ZoW1, ZoW2, ZoW3, ZoW4, ZoW5, ReCon, ReW1, ReW2, ReW3, DlCon, DlW1, DlW2, DmCon, DlW3, DlW4, DnCon, DlW5. Conditions: none.
-/
import Derived.Test.YtfggmgafjabbjaaGreatDoorMB3
namespace Go.Proofs.YtfggmgafjabbjaaGreatDoor
open Go.DL Go.Str Go.RowKit
set_option maxRecDepth 10000
set_option linter.unusedSimpArgs false
set_option linter.unusedVariables false
theorem bo122 : hasBody Tryz.prog 122 = true := by kernel_rfl
theorem rorder_ct (a : Str) (b : Str) (ha : a.length ≤ 1000) (hb : b.length ≤ 1000) : PureCt Tryz.prog 122 [.v (.string (bs a)), .v (.string (bs b))] (.i (nmOrd a b)) := by
  rw [nmOrd_ix]
  refine pure_of_dw Tryz.func122 rfl bo122 (by simp [go_sem, D.nr, nrs, nrr]) (by simp [Tryz.f122]) ?_
  unfold Tryz.f122
  simp only [init_eq]
  have ff := True.intro
  have hl := (partsOf_len a).2
  have hm := (partsOf_len b).2
  refine stp Cn ?_
  refine stp Cn ?_ (hok := by (try simp only [go_sem, ff]); all_goals (exact rparts1_ct _ ha))
  refine stp Cn ?_ (hok := by (try simp only [go_sem, ff]); all_goals (exact rparts1_ct _ hb))
  refine dw_seq ?_
  refine stp Cn ?_
  refine dw_block ?_
  refine lp (α := (Nat) × Nat) [5, 6] (fun ⟨k, nx⟩ => (1 ≤ k) ∧ (k ≤ (partsOf a).length + 1) ∧ (ordIx (partsOf a) (partsOf b) 1 = ordIx (partsOf a) (partsOf b) k) ∧ True) (fun ⟨k, nx⟩ => (partsOf a).length + 1 - k) (fun ⟨k, nx⟩ => [(7, .i k)]) (fun ⟨k, nx⟩ => []) (fun ⟨k, nx⟩ => nx) (1, _) (hA := ⟨iv, iv, rfl, trivial⟩) (round := ?_)
  rintro ⟨k, nx⟩ ⟨hk, hk1, hv, -⟩
  show DW _ _ _ _ { n := _, t := tab _, h := _, nx := _, e := _ }
  simp only [List.cons_append, List.nil_append]
  refine dw_seq ?_
  refine stp Cn ?_
  refine cd (fun c1 => ?_) (fun c1 => ?_) (hp := rfl) (hq := rfl)
  · skip
    have hk2 : k ≤ (partsOf a).length ∧ k ≤ (partsOf b).length := by simp only [Bool.and_eq_true, decide_eq_true_eq] at c1; omega
    have e1 : (((partsOf a).length : Int) - k).toNat = (partsOf a).length - k := by omega
    have e2 : (((partsOf b).length : Int) - k).toNat = (partsOf b).length - k := by omega
    have g1 : (partsOf a).length - k < (partsOf a).length := by omega
    have g2 : (partsOf b).length - k < (partsOf b).length := by omega
    have ff := And.intro @e1 (And.intro @e2 (And.intro (getD_sR g1) (And.intro (getD_sR g2) ff)))
    refine dw_skip ?_
    show DW _ _ _ _ _
    refine dw_seq ?_
    refine dw_block ?_
    refine stp Cn ?_
    refine stp Cn ?_
    refine dw_seq ?_
    refine stp Cn ?_
    refine cd (fun c2 => ?_) (fun c2 => ?_) (hp := rfl) (hq := rfl)
    · skip
      refine stp Cn ?_
      refine dw_ret ?_
      exact fin 0 (hr := by (try simp only [go_sem, ff]); all_goals (rw [hv, ordIx_eq, if_pos hk2, if_pos c2]))
    · skip
      refine dw_skip ?_
      show DW _ _ _ _ _
      refine stp Cn ?_
      refine cd (fun c3 => ?_) (fun c3 => ?_) (hp := rfl) (hq := rfl)
      · skip
        refine stp Cn ?_
        refine dw_ret ?_
        exact fin 0 (hr := by (try simp only [go_sem, ff]); all_goals (rw [hv, ordIx_eq, if_pos hk2, if_neg (by rw [c2]; simp), if_pos c3]))
      · skip
        refine dw_skip ?_
        show DW _ _ _ _ _
        refine rgn Cn ?_
        show ∃ _, _
        exact rnd (k + 1, _) (h1 := ⟨iv, iv, (by (try dsimp only); rw [hv, ordIx_eq, if_pos hk2, if_neg (by rw [c2]; simp), if_neg (by rw [c3]; simp)]), trivial⟩)
  · skip
    have hk2 : ¬ (k ≤ (partsOf a).length ∧ k ≤ (partsOf b).length) := by simp only [Bool.and_eq_false_iff, decide_eq_false_iff_not] at c1; omega
    refine dw_exit ?_
    show DW _ _ _ _ _
    refine dw_seq ?_
    refine stp Cn ?_
    refine cd (fun c4 => ?_) (fun c4 => ?_)
    · skip
      refine stp Cn ?_
      refine dw_ret ?_
      exact fin 0 (hr := by (try simp only [go_sem, ff]); all_goals (rw [hv, ordIx_eq, if_neg hk2, if_pos (by omega)]))
    · skip
      refine dw_skip ?_
      show DW _ _ _ _ _
      refine dw_seq ?_
      refine stp Cn ?_
      refine cd (fun c5 => ?_) (fun c5 => ?_)
      · skip
        refine stp Cn ?_
        refine dw_ret ?_
        exact fin 0 (hr := by (try simp only [go_sem, ff]); all_goals (rw [hv, ordIx_eq, if_neg hk2, if_neg (by omega), if_pos (by omega)]))
      · skip
        refine dw_skip ?_
        show DW _ _ _ _ _
        refine stp Cn ?_
        refine dw_ret ?_
        exact fin 0 (hr := by (try simp only [go_sem, ff]); all_goals (rw [hv, ordIx_eq, if_neg hk2, if_neg (by omega), if_neg (by omega)]))
theorem bo120 : hasBody Tryz.prog 120 = true := by kernel_rfl
theorem rncompare_ct (a : Str) (b : Str) : PureCt Tryz.prog 120 [.v (.string (bs a)), .v (.string (bs b))] (.tuple [.i (if nameOk a && nameOk b then nmCmp a b else 0), .i (if nameOk a && nameOk b then 0 else 11)]) := by
  refine pure_of_dw Tryz.func120 rfl bo120 (by simp [go_sem, D.nr, nrs, nrr]) (by simp [Tryz.f120]) ?_
  unfold Tryz.f120
  simp only [init_eq]
  have ff := True.intro
  refine stp Cn ?_
  refine stp Cn ?_ (hok := by (try simp only [go_sem, ff]); all_goals (exact rnvalid_ct _))
  refine stp Cn ?_ (hok := by (try simp only [go_sem, ff]); all_goals (exact rnvalid_ct _))
  refine dw_seq ?_
  refine stp Cn ?_
  refine cd (fun c1 => ?_) (fun c1 => ?_) (hp := rfl)
  · skip
    have e : (nameOk a && nameOk b) = false := by revert c1; cases nameOk a <;> cases nameOk b <;> simp
    refine stp Cn ?_
    refine dw_ret ?_
    exact fin 1 (hr := by (try simp only [go_sem, ff]); all_goals (rw [e]; rfl))
  · skip
    have e : (nameOk a && nameOk b) = true := by rw [c1.1, c1.2]; rfl
    have la := nameOk_len c1.1
    have lb := nameOk_len c1.2
    refine dw_skip ?_
    show DW _ _ _ _ _
    refine stp Cn ?_ (hok := by (try simp only [go_sem, ff]); all_goals (exact rorder_ct _ _ (by omega) (by omega)))
    refine dw_ret ?_
    exact fin 1 (hr := by (try simp only [go_sem, ff]); all_goals (rw [e, nmCmp_ord]; rfl))

end Go.Proofs.YtfggmgafjabbjaaGreatDoor
/-
  MADE BY A PROGRAM OF MINE: what the functions that leave memory alone give. Conditions: none.
-/
namespace Go.Proofs.YtfggmgafjabbjaaGreatDoor
open Go.DL Go.Str Go.Rec
set_option linter.unusedVariables false
def Rn : Con where
  pure := fun k => [176, 169, 153, 114, 113, 81, 123, 90, 115, 171, 155, 122, 120, 125, 127, 172, 116, 156, 173, 126, 159, 124, 91, 128, 110, 157, 150, 119, 129, 118, 158, 130, 93, 83, 117, 85, 63].contains k
  pf := fun k xs => match k, xs with
    | 176, [x0, x1] => .i (lastIx (str1 x0) (int1 x1))
    | 169, [x0, x1] => .i (lastIx (str1 x0) (int1 x1))
    | 153, [x0] => .b (labelOk (str1 x0))
    | 114, [x0] => .b (labelOk (str1 x0))
    | 113, [x0] => .list false ((splitF (str1 x0)).map sR)
    | 81, [x0] => .b (nameOk (str1 x0))
    | 123, [x0] => .b (nameOk (str1 x0))
    | 90, [x0] => .b (nameOk (str1 x0))
    | 115, [x0] => .list false ((partsOf (str1 x0)).map sR)
    | 171, [x0, x1] => .i (Go.Lib.compareBytes (str1 x0) (str1 x1))
    | 155, [x0, x1] => .i (Go.Lib.compareBytes (str1 x0) (str1 x1))
    | 122, [x0, x1] => .i (nmOrd (str1 x0) (str1 x1))
    | 120, [x0, x1] => .tuple [.i (if nameOk (str1 x0) && nameOk (str1 x1) then nmCmp (str1 x0) (str1 x1) else 0), .i (if nameOk (str1 x0) && nameOk (str1 x1) then 0 else 11)]
    | 125, [x0, x1] => .tuple [.i (if nameOk (str1 x0) && nameOk (str1 x1) then nmCmp (str1 x0) (str1 x1) else 0), .i (if nameOk (str1 x0) && nameOk (str1 x1) then 0 else 11)]
    | 127, [x0, x1, x2] => .b (inR (int1 x0) (int1 x1) (int1 x2))
    | 172, [x0, x1, x2] => .b (inR (int1 x0) (int1 x1) (int1 x2))
    | 116, [x0, x1, x2] => .b (inR (int1 x0) (int1 x1) (int1 x2))
    | 156, [x0] => .b ((int1 x0) != (int1 x0))
    | 173, [x0] => .b ((str1 x0) != (str1 x0))
    | 126, [x0, x1] => .i (cmpI (int1 x0) (int1 x1))
    | 159, [x0, x1] => .i (cmpS (str1 x0) (str1 x1))
    | 124, [x0, x1] => .b (hasPre (str1 x0) (str1 x1))
    | 91, [x0, x1] => .b (hasPre (str1 x0) (str1 x1))
    | 128, [x0] => .b (wildB (str1 x0))
    | 110, [x0] => .b (wildB (str1 x0))
    | 157, [x0] => .b (freeB (str1 x0))
    | 150, [x0] => .b (freeB (str1 x0))
    | 119, [x0, x1] => .b (less (dat1 x0) (dat1 x1))
    | 129, [x0, x1] => .b (datOk (rule1 x0) (dat1 x1))
    | 118, [x0, x1] => .b (rDatOk (int1 x0) (dat1 x1))
    | 158, [x0] => .i (orFrom (ints1 x0) 0)
    | 130, [x0, x1] => .i (datC (dat1 x0) (dat1 x1))
    | 93, [x0] => .b (setOk (set1 x0))
    | 83, [x0] => .b (setOk (set1 x0))
    | 117, [x0] => .b (singleB (int1 x0))
    | 85, [x0, x1] => .i (rOrd (set1 x0) (set1 x1))
    | 63, [x0, x1] => .b (sameB (set1 x0) (set1 x1))
    | _, _ => .junk
@[go_sem] theorem rnp176 : Rn.pure 176 = true := rfl
@[go_sem] theorem rnf176 {x0 x1 : D} : Rn.pf 176 [x0, x1] = .i (lastIx (str1 x0) (int1 x1)) := rfl
@[go_sem] theorem rnp169 : Rn.pure 169 = true := rfl
@[go_sem] theorem rnf169 {x0 x1 : D} : Rn.pf 169 [x0, x1] = .i (lastIx (str1 x0) (int1 x1)) := rfl
@[go_sem] theorem rnp153 : Rn.pure 153 = true := rfl
@[go_sem] theorem rnf153 {x0 : D} : Rn.pf 153 [x0] = .b (labelOk (str1 x0)) := rfl
@[go_sem] theorem rnp114 : Rn.pure 114 = true := rfl
@[go_sem] theorem rnf114 {x0 : D} : Rn.pf 114 [x0] = .b (labelOk (str1 x0)) := rfl
@[go_sem] theorem rnp113 : Rn.pure 113 = true := rfl
@[go_sem] theorem rnf113 {x0 : D} : Rn.pf 113 [x0] = .list false ((splitF (str1 x0)).map sR) := rfl
@[go_sem] theorem rnp81 : Rn.pure 81 = true := rfl
@[go_sem] theorem rnf81 {x0 : D} : Rn.pf 81 [x0] = .b (nameOk (str1 x0)) := rfl
@[go_sem] theorem rnp123 : Rn.pure 123 = true := rfl
@[go_sem] theorem rnf123 {x0 : D} : Rn.pf 123 [x0] = .b (nameOk (str1 x0)) := rfl
@[go_sem] theorem rnp90 : Rn.pure 90 = true := rfl
@[go_sem] theorem rnf90 {x0 : D} : Rn.pf 90 [x0] = .b (nameOk (str1 x0)) := rfl
@[go_sem] theorem rnp115 : Rn.pure 115 = true := rfl
@[go_sem] theorem rnf115 {x0 : D} : Rn.pf 115 [x0] = .list false ((partsOf (str1 x0)).map sR) := rfl
@[go_sem] theorem rnp171 : Rn.pure 171 = true := rfl
@[go_sem] theorem rnf171 {x0 x1 : D} : Rn.pf 171 [x0, x1] = .i (Go.Lib.compareBytes (str1 x0) (str1 x1)) := rfl
@[go_sem] theorem rnp155 : Rn.pure 155 = true := rfl
@[go_sem] theorem rnf155 {x0 x1 : D} : Rn.pf 155 [x0, x1] = .i (Go.Lib.compareBytes (str1 x0) (str1 x1)) := rfl
@[go_sem] theorem rnp122 : Rn.pure 122 = true := rfl
@[go_sem] theorem rnf122 {x0 x1 : D} : Rn.pf 122 [x0, x1] = .i (nmOrd (str1 x0) (str1 x1)) := rfl
@[go_sem] theorem rnp120 : Rn.pure 120 = true := rfl
@[go_sem] theorem rnf120 {x0 x1 : D} : Rn.pf 120 [x0, x1] = .tuple [.i (if nameOk (str1 x0) && nameOk (str1 x1) then nmCmp (str1 x0) (str1 x1) else 0), .i (if nameOk (str1 x0) && nameOk (str1 x1) then 0 else 11)] := rfl
@[go_sem] theorem rnp125 : Rn.pure 125 = true := rfl
@[go_sem] theorem rnf125 {x0 x1 : D} : Rn.pf 125 [x0, x1] = .tuple [.i (if nameOk (str1 x0) && nameOk (str1 x1) then nmCmp (str1 x0) (str1 x1) else 0), .i (if nameOk (str1 x0) && nameOk (str1 x1) then 0 else 11)] := rfl
@[go_sem] theorem rnp127 : Rn.pure 127 = true := rfl
@[go_sem] theorem rnf127 {x0 x1 x2 : D} : Rn.pf 127 [x0, x1, x2] = .b (inR (int1 x0) (int1 x1) (int1 x2)) := rfl
@[go_sem] theorem rnp172 : Rn.pure 172 = true := rfl
@[go_sem] theorem rnf172 {x0 x1 x2 : D} : Rn.pf 172 [x0, x1, x2] = .b (inR (int1 x0) (int1 x1) (int1 x2)) := rfl
@[go_sem] theorem rnp116 : Rn.pure 116 = true := rfl
@[go_sem] theorem rnf116 {x0 x1 x2 : D} : Rn.pf 116 [x0, x1, x2] = .b (inR (int1 x0) (int1 x1) (int1 x2)) := rfl
@[go_sem] theorem rnp156 : Rn.pure 156 = true := rfl
@[go_sem] theorem rnf156 {x0 : D} : Rn.pf 156 [x0] = .b ((int1 x0) != (int1 x0)) := rfl
@[go_sem] theorem rnp173 : Rn.pure 173 = true := rfl
@[go_sem] theorem rnf173 {x0 : D} : Rn.pf 173 [x0] = .b ((str1 x0) != (str1 x0)) := rfl
@[go_sem] theorem rnp126 : Rn.pure 126 = true := rfl
@[go_sem] theorem rnf126 {x0 x1 : D} : Rn.pf 126 [x0, x1] = .i (cmpI (int1 x0) (int1 x1)) := rfl
@[go_sem] theorem rnp159 : Rn.pure 159 = true := rfl
@[go_sem] theorem rnf159 {x0 x1 : D} : Rn.pf 159 [x0, x1] = .i (cmpS (str1 x0) (str1 x1)) := rfl
@[go_sem] theorem rnp124 : Rn.pure 124 = true := rfl
@[go_sem] theorem rnf124 {x0 x1 : D} : Rn.pf 124 [x0, x1] = .b (hasPre (str1 x0) (str1 x1)) := rfl
@[go_sem] theorem rnp91 : Rn.pure 91 = true := rfl
@[go_sem] theorem rnf91 {x0 x1 : D} : Rn.pf 91 [x0, x1] = .b (hasPre (str1 x0) (str1 x1)) := rfl
@[go_sem] theorem rnp128 : Rn.pure 128 = true := rfl
@[go_sem] theorem rnf128 {x0 : D} : Rn.pf 128 [x0] = .b (wildB (str1 x0)) := rfl
@[go_sem] theorem rnp110 : Rn.pure 110 = true := rfl
@[go_sem] theorem rnf110 {x0 : D} : Rn.pf 110 [x0] = .b (wildB (str1 x0)) := rfl
@[go_sem] theorem rnp157 : Rn.pure 157 = true := rfl
@[go_sem] theorem rnf157 {x0 : D} : Rn.pf 157 [x0] = .b (freeB (str1 x0)) := rfl
@[go_sem] theorem rnp150 : Rn.pure 150 = true := rfl
@[go_sem] theorem rnf150 {x0 : D} : Rn.pf 150 [x0] = .b (freeB (str1 x0)) := rfl
@[go_sem] theorem rnp119 : Rn.pure 119 = true := rfl
@[go_sem] theorem rnf119 {x0 x1 : D} : Rn.pf 119 [x0, x1] = .b (less (dat1 x0) (dat1 x1)) := rfl
@[go_sem] theorem rnp129 : Rn.pure 129 = true := rfl
@[go_sem] theorem rnf129 {x0 x1 : D} : Rn.pf 129 [x0, x1] = .b (datOk (rule1 x0) (dat1 x1)) := rfl
@[go_sem] theorem rnp118 : Rn.pure 118 = true := rfl
@[go_sem] theorem rnf118 {x0 x1 : D} : Rn.pf 118 [x0, x1] = .b (rDatOk (int1 x0) (dat1 x1)) := rfl
@[go_sem] theorem rnp158 : Rn.pure 158 = true := rfl
@[go_sem] theorem rnf158 {x0 : D} : Rn.pf 158 [x0] = .i (orFrom (ints1 x0) 0) := rfl
@[go_sem] theorem rnp130 : Rn.pure 130 = true := rfl
@[go_sem] theorem rnf130 {x0 x1 : D} : Rn.pf 130 [x0, x1] = .i (datC (dat1 x0) (dat1 x1)) := rfl
@[go_sem] theorem rnp93 : Rn.pure 93 = true := rfl
@[go_sem] theorem rnf93 {x0 : D} : Rn.pf 93 [x0] = .b (setOk (set1 x0)) := rfl
@[go_sem] theorem rnp83 : Rn.pure 83 = true := rfl
@[go_sem] theorem rnf83 {x0 : D} : Rn.pf 83 [x0] = .b (setOk (set1 x0)) := rfl
@[go_sem] theorem rnp117 : Rn.pure 117 = true := rfl
@[go_sem] theorem rnf117 {x0 : D} : Rn.pf 117 [x0] = .b (singleB (int1 x0)) := rfl
@[go_sem] theorem rnp85 : Rn.pure 85 = true := rfl
@[go_sem] theorem rnf85 {x0 x1 : D} : Rn.pf 85 [x0, x1] = .i (rOrd (set1 x0) (set1 x1)) := rfl
@[go_sem] theorem rnp63 : Rn.pure 63 = true := rfl
@[go_sem] theorem rnf63 {x0 x1 : D} : Rn.pf 63 [x0, x1] = .b (sameB (set1 x0) (set1 x1)) := rfl
def RnB : Con := { Rn with bs := true }
@[go_sem] theorem rnB_p {k : FuncId} : RnB.pure k = Rn.pure k := rfl
@[go_sem] theorem rnB_f {k : FuncId} {xs : List D} : RnB.pf k xs = Rn.pf k xs := rfl
@[go_sem] theorem rnB_b : RnB.bs = true := rfl
@[go_sem] theorem rn_b : Rn.bs = false := rfl
@[go_sem] theorem rn_c : Rn.cf = false := rfl
@[go_sem] theorem rnB_c : RnB.cf = false := rfl
def RnF : Con := { Rn with cf := true }
@[go_sem] theorem rnF_p {k : FuncId} : RnF.pure k = Rn.pure k := rfl
@[go_sem] theorem rnF_f {k : FuncId} {xs : List D} : RnF.pf k xs = Rn.pf k xs := rfl
@[go_sem] theorem rnF_b : RnF.bs = false := rfl
@[go_sem] theorem rnF_c : RnF.cf = true := rfl
end Go.Proofs.YtfggmgafjabbjaaGreatDoor
namespace Go.Proofs.YtfggmgafjabbjaaGreatDoor
open Go.DL Go.Str Go.Rec
set_option maxRecDepth 10000
set_option linter.unusedSimpArgs false
set_option linter.unusedVariables false
theorem bo127 : hasBody Tryz.prog 127 = true := by kernel_rfl
theorem within_ct (x : Int) (lo : Int) (hi : Int) : PureCt Tryz.prog 127 [.i x, .i lo, .i hi] (.b (inR x lo hi)) := by
  refine pure_of_dw Tryz.func127 rfl bo127 (by simp [go_sem, D.nr, nrs, nrr]) (by simp [Tryz.f127]) ?_
  unfold Tryz.f127
  simp only [init_eq]
  have ff := True.intro
  refine stp Rn ?_
  refine stp Rn ?_
  refine dw_ret ?_
  exact fin 0 (hr := by (try simp only [go_sem, ff]); all_goals (rfl))
theorem bo172 : hasBody Tryz.prog 172 = true := by kernel_rfl
theorem withinb_ct (x : Int) (lo : Int) (hi : Int) : PureCt Tryz.prog 172 [.v (.int .u8 x), .v (.int .u8 lo), .v (.int .u8 hi)] (.b (inR x lo hi)) := by
  refine pure_of_dw Tryz.func172 rfl bo172 (by simp [go_sem, D.nr, nrs, nrr]) (by simp [Tryz.f172]) ?_
  unfold Tryz.f172
  simp only [init_eq]
  have ff := True.intro
  refine stp Rn ?_
  refine stp Rn ?_
  refine dw_ret ?_
  exact fin 0 (hr := by (try simp only [go_sem, ff]); all_goals (rfl))
theorem bo116 : hasBody Tryz.prog 116 = true := by kernel_rfl
theorem rwithin_ct (x : Int) (lo : Int) (hi : Int) : PureCt Tryz.prog 116 [.i x, .i lo, .i hi] (.b (inR x lo hi)) := by
  refine pure_of_dw Tryz.func116 rfl bo116 (by simp [go_sem, D.nr, nrs, nrr]) (by simp [Tryz.f116]) ?_
  unfold Tryz.f116
  simp only [init_eq]
  have ff := True.intro
  refine stp Rn ?_
  refine stp Rn ?_
  refine dw_ret ?_
  exact fin 0 (hr := by (try simp only [go_sem, ff]); all_goals (rfl))
theorem bo156 : hasBody Tryz.prog 156 = true := by kernel_rfl
theorem nanI_ct (x : Int) : PureCt Tryz.prog 156 [.i x] (.b (x != x)) := by
  refine pure_of_dw Tryz.func156 rfl bo156 (by simp [go_sem, D.nr, nrs, nrr]) (by simp [Tryz.f156]) ?_
  unfold Tryz.f156
  simp only [init_eq]
  have ff := True.intro
  refine stp Rn ?_
  refine stp Rn ?_
  refine dw_ret ?_
  exact fin 0 (hr := by (try simp only [go_sem, ff]); all_goals (rfl))
theorem bo173 : hasBody Tryz.prog 173 = true := by kernel_rfl
theorem nanS_ct (x : Str) : PureCt Tryz.prog 173 [.v (.string (bs x))] (.b (x != x)) := by
  refine pure_of_dw Tryz.func173 rfl bo173 (by simp [go_sem, D.nr, nrs, nrr]) (by simp [Tryz.f173]) ?_
  unfold Tryz.f173
  simp only [init_eq]
  have ff := True.intro
  refine stp Rn ?_
  refine stp Rn ?_
  refine dw_ret ?_
  exact fin 0 (hr := by (try simp only [go_sem, ff]); all_goals (rfl))
theorem bo126 : hasBody Tryz.prog 126 = true := by kernel_rfl
theorem cmpint_ct (x : Int) (y : Int) : PureCt Tryz.prog 126 [.i x, .i y] (.i (cmpI x y)) := by
  refine pure_of_dw Tryz.func126 rfl bo126 (by simp [go_sem, D.nr, nrs, nrr]) (by simp [Tryz.f126]) ?_
  unfold Tryz.f126
  simp only [init_eq]
  have ff := True.intro
  refine stp Rn ?_
  refine stp Rn ?_ (hok := by (try simp only [go_sem, ff]); all_goals (have h := nanI_ct x; simp only [bne_self_eq_false] at h; exact h))
  refine stp Rn ?_ (hok := by (try simp only [go_sem, ff]); all_goals (have h := nanI_ct y; simp only [bne_self_eq_false] at h; exact h))
  refine dw_seq ?_
  refine stp Rn ?_
  refine cd (fun c1 => ?_) (fun c1 => ?_) (hp := rfl)
  · skip
    simp at c1
  · skip
    refine dw_skip ?_
    show DW _ _ _ _ _
    refine dw_seq ?_
    refine stp Rn ?_
    refine cd (fun c2 => ?_) (fun c2 => ?_) (hp := rfl)
    · skip
      simp at c2
    · skip
      refine dw_skip ?_
      show DW _ _ _ _ _
      refine dw_seq ?_
      refine stp Rn ?_
      refine cd (fun c3 => ?_) (fun c3 => ?_)
      · skip
        refine stp Rn ?_
        refine dw_ret ?_
        exact fin 0 (hr := by (try simp only [go_sem, ff]); all_goals (simp only [cmpI, cmpS, ltS]; first | (simp_all; done) | ((repeat' split) <;> first | rfl | omega)))
      · skip
        refine dw_skip ?_
        show DW _ _ _ _ _
        refine dw_seq ?_
        refine stp Rn ?_
        refine cd (fun c4 => ?_) (fun c4 => ?_)
        · skip
          refine stp Rn ?_
          refine dw_ret ?_
          exact fin 0 (hr := by (try simp only [go_sem, ff]); all_goals (simp only [cmpI, cmpS, ltS]; first | (simp_all; done) | ((repeat' split) <;> first | rfl | omega)))
        · skip
          refine dw_skip ?_
          show DW _ _ _ _ _
          refine stp Rn ?_
          refine dw_ret ?_
          exact fin 0 (hr := by (try simp only [go_sem, ff]); all_goals (simp only [cmpI, cmpS, ltS]; first | (simp_all; done) | ((repeat' split) <;> first | rfl | omega)))
theorem bo159 : hasBody Tryz.prog 159 = true := by kernel_rfl
theorem cmpstr_ct (x : Str) (y : Str) : PureCt Tryz.prog 159 [.v (.string (bs x)), .v (.string (bs y))] (.i (cmpS x y)) := by
  refine pure_of_dw Tryz.func159 rfl bo159 (by simp [go_sem, D.nr, nrs, nrr]) (by simp [Tryz.f159]) ?_
  unfold Tryz.f159
  simp only [init_eq]
  have ff := True.intro
  refine stp Rn ?_
  refine stp Rn ?_ (hok := by (try simp only [go_sem, ff]); all_goals (have h := nanS_ct x; simp only [bne_self_eq_false] at h; exact h))
  refine stp Rn ?_ (hok := by (try simp only [go_sem, ff]); all_goals (have h := nanS_ct y; simp only [bne_self_eq_false] at h; exact h))
  refine dw_seq ?_
  refine stp Rn ?_
  refine cd (fun c1 => ?_) (fun c1 => ?_) (hp := rfl)
  · skip
    simp at c1
  · skip
    refine dw_skip ?_
    show DW _ _ _ _ _
    refine dw_seq ?_
    refine stp Rn ?_
    refine cd (fun c2 => ?_) (fun c2 => ?_) (hp := rfl)
    · skip
      simp at c2
    · skip
      refine dw_skip ?_
      show DW _ _ _ _ _
      refine dw_seq ?_
      refine stp Rn ?_
      refine cd (fun c3 => ?_) (fun c3 => ?_)
      · skip
        refine stp Rn ?_
        refine dw_ret ?_
        exact fin 0 (hr := by (try simp only [go_sem, ff]); all_goals (simp only [cmpI, cmpS, ltS]; first | (simp_all; done) | ((repeat' split) <;> first | rfl | omega)))
      · skip
        refine dw_skip ?_
        show DW _ _ _ _ _
        refine dw_seq ?_
        refine stp Rn ?_
        refine cd (fun c4 => ?_) (fun c4 => ?_)
        · skip
          refine stp Rn ?_
          refine dw_ret ?_
          exact fin 0 (hr := by (try simp only [go_sem, ff]); all_goals (simp only [cmpI, cmpS, ltS]; first | (simp_all; done) | ((repeat' split) <;> first | rfl | omega)))
        · skip
          refine dw_skip ?_
          show DW _ _ _ _ _
          refine stp Rn ?_
          refine dw_ret ?_
          exact fin 0 (hr := by (try simp only [go_sem, ff]); all_goals (simp only [cmpI, cmpS, ltS]; first | (simp_all; done) | ((repeat' split) <;> first | rfl | omega)))
theorem bo124 : hasBody Tryz.prog 124 = true := by kernel_rfl
theorem haspre0_ct (s : Str) (p : Str) : PureCt Tryz.prog 124 [.v (.string (bs s)), .v (.string (bs p))] (.b (hasPre s p)) := by
  refine pure_of_dw Tryz.func124 rfl bo124 (by simp [go_sem, D.nr, nrs, nrr]) (by simp [Tryz.f124]) ?_
  unfold Tryz.f124
  simp only [init_eq]
  have ff := True.intro
  refine stp Rn ?_
  refine stp Rn ?_
  refine dw_ret ?_
  exact fin 0 (hr := by (try simp only [go_sem, ff]); all_goals (have e : decide ((p.length : Int) ≤ s.length) = decide (p.length ≤ s.length) := decide_eq_decide.2 (by omega); rw [hasPre, e]))
theorem bo91 : hasBody Tryz.prog 91 = true := by kernel_rfl
theorem haspre_ct (s : Str) (p : Str) : PureCt Tryz.prog 91 [.v (.string (bs s)), .v (.string (bs p))] (.b (hasPre s p)) := by
  refine pure_of_dw Tryz.func91 rfl bo91 (by simp [go_sem, D.nr, nrs, nrr]) (by simp [Tryz.f91]) ?_
  unfold Tryz.f91
  simp only [init_eq]
  have ff := True.intro
  refine stp Rn ?_
  refine stp Rn ?_ (hok := by (try simp only [go_sem, ff]); all_goals (first | exact ok0 | (apply haspre0_ct <;> omega) | (intros; apply haspre0_ct <;> omega)))
  refine dw_ret ?_
  exact fin 0 (hr := by (try simp only [go_sem, ff]); all_goals (rfl))
theorem bo128 : hasBody Tryz.prog 128 = true := by kernel_rfl
theorem iswild_ct (s : Str) : PureCt Tryz.prog 128 [.v (.string (bs s))] (.b (wildB s)) := by
  refine pure_of_dw Tryz.func128 rfl bo128 (by simp [go_sem, D.nr, nrs, nrr]) (by simp [Tryz.f128]) ?_
  unfold Tryz.f128
  simp only [init_eq]
  have ff := True.intro
  refine stp Rn ?_
  refine stp Rn ?_ (hok := by (try simp only [go_sem, ff]); all_goals (first | exact ok0 | (apply haspre_ct <;> omega) | (intros; apply haspre_ct <;> omega)))
  refine dw_ret ?_
  exact fin 0 (hr := by (try simp only [go_sem, ff]); all_goals (rw [wild_pre]))
theorem bo110 : hasBody Tryz.prog 110 = true := by kernel_rfl
theorem rwild_ct (s : Str) : PureCt Tryz.prog 110 [.v (.string (bs s))] (.b (wildB s)) := by
  refine pure_of_dw Tryz.func110 rfl bo110 (by simp [go_sem, D.nr, nrs, nrr]) (by simp [Tryz.f110]) ?_
  unfold Tryz.f110
  simp only [init_eq]
  have ff := True.intro
  refine stp Rn ?_
  refine stp Rn ?_
  refine dw_ret ?_
  exact fin 0 (hr := by (try simp only [go_sem, ff]); all_goals (rw [wildB]; congr 2; rw [Bool.eq_iff_iff]; simp only [Bool.and_eq_true, decide_eq_true_eq, beq_iff_eq]; omega))
theorem bo157 : hasBody Tryz.prog 157 = true := by kernel_rfl
theorem isfree_ct (s : Str) : PureCt Tryz.prog 157 [.v (.string (bs s))] (.b (freeB s)) := by
  rw [freeB]
  refine pure_of_dw Tryz.func157 rfl bo157 (by simp [go_sem, D.nr, nrs, nrr]) (by simp [Tryz.f157]) ?_
  unfold Tryz.f157
  simp only [init_eq]
  have ff := True.intro
  have e1 : ((s.length:Int) - 1).toNat = s.length - 1 := by omega
  have ff := And.intro @e1 ff
  refine stp Rn ?_
  refine dw_seq ?_
  have hin : inR (s.length : Int) 1 40 = true → (1:Int) ≤ s.length ∧ (s.length : Int) ≤ 40 := by intro h; simp only [inR, Bool.and_eq_true, decide_eq_true_eq] at h; exact h
  refine stp Rn ?_ (hok := by (try simp only [go_sem, ff]); all_goals (refine ⟨⟨⟨within_ct _ _ _, fun h => by have := hin h; omega⟩, fun h => ?_⟩, fun h => ?_⟩ <;> (rw [Bool.or_eq_false_iff, Bool.not_eq_false'] at h; have := hin h.1; omega)))
  refine cd (fun c1 => ?_) (fun c1 => ?_)
  · skip
    try simp only [inR, Bool.and_eq_true, Bool.and_eq_false_iff, decide_eq_true_eq, decide_eq_false_iff_not] at c1
    refine stp Rn ?_
    refine dw_ret ?_
    exact fin 0 (hr := by (try simp only [go_sem, ff]); all_goals ((repeat' split) <;> first | rfl | (exfalso; omega)))
  · skip
    try simp only [inR, Bool.and_eq_true, Bool.and_eq_false_iff, decide_eq_true_eq, decide_eq_false_iff_not] at c1
    refine dw_skip ?_
    show DW _ _ _ _ _
    refine dw_seq ?_
    refine stp Rn ?_
    refine dw_block ?_
    refine lp (α := (Nat) × Nat) [0, 23] (fun ⟨k, nx⟩ => (k ≤ s.length) ∧ (allN s.length (freeIn s) 0 = allN s.length (freeIn s) k) ∧ True) (fun ⟨k, nx⟩ => s.length - k) (fun ⟨k, nx⟩ => [(24, .i k)]) (fun ⟨k, nx⟩ => []) (fun ⟨k, nx⟩ => nx) (0, _) (hA := ⟨iv, rfl, trivial⟩) (round := ?_)
    rintro ⟨k, nx⟩ ⟨hk, hv, -⟩
    show DW _ _ _ _ { n := _, t := tab _, h := _, nx := _, e := _ }
    simp only [List.cons_append, List.nil_append]
    refine stp Rn ?_
    refine dw_seq ?_
    refine cd (fun c2 => ?_) (fun c2 => ?_) (hp := rfl)
    · skip
      have hk2 : k < s.length := by simpa using c2
      refine dw_skip ?_
      show DW _ _ _ _ _
      refine dw_seq ?_
      refine dw_block ?_
      refine stp Rn ?_
      refine stp Rn ?_
      refine stp Rn ?_ (hok := by (try simp only [go_sem, ff]); all_goals (first | done | (simp only [withinb_ct, and_true, implies_true]; done) | ((repeat' (with_reducible apply And.intro)) <;> first | exact withinb_ct _ _ _ | (intros; exact withinb_ct _ _ _) | (intros; simp_all; done))))
      refine cd (fun c3 => ?_) (fun c3 => ?_)
      · skip
        refine stp Rn ?_
        refine dw_ret ?_
        exact fin 0 (hr := by (try simp only [go_sem, ff]); all_goals (have h8 : freeIn s k = false := (by simp only [freeIn, alnum, Bool.or_eq_false_iff, Bool.and_eq_false_iff, decide_eq_false_iff_not]; (try simp only [inR, Bool.and_eq_true, Bool.and_eq_false_iff, decide_eq_true_eq, decide_eq_false_iff_not] at c3); omega); rw [hv, allN_eq, if_pos hk2, h8]; (repeat' split) <;> rfl))
      · skip
        refine dw_skip ?_
        show DW _ _ _ _ _
        refine rgn Rn ?_
        show ∃ _, _
        exact rnd (k + 1, _) (h1 := ⟨iv, (by (try dsimp only); have h8 : freeIn s k = true := (by simp only [freeIn, alnum, Bool.or_eq_true, Bool.and_eq_true, decide_eq_true_eq]; (try simp only [inR, Bool.and_eq_true, Bool.and_eq_false_iff, decide_eq_true_eq, decide_eq_false_iff_not] at c3); omega); rw [hv, allN_eq, if_pos hk2, h8]; rfl), trivial⟩)
    · skip
      refine dw_exit ?_
      show DW _ _ _ _ _
      refine stp Rn ?_
      refine dw_ret ?_
      exact fin 0 (hr := by (try simp only [go_sem, ff]); all_goals (rw [hv, allN_eq, if_neg (by omega), if_neg (by omega), if_neg (by omega), if_neg (by omega), if_neg (by omega)]))
theorem bo150 : hasBody Tryz.prog 150 = true := by kernel_rfl
theorem rtext_ct (s : Str) : PureCt Tryz.prog 150 [.v (.string (bs s))] (.b (freeB s)) := by
  rw [freeB]
  refine pure_of_dw Tryz.func150 rfl bo150 (by simp [go_sem, D.nr, nrs, nrr]) (by simp [Tryz.f150]) ?_
  unfold Tryz.f150
  simp only [init_eq]
  have ff := True.intro
  have e1 : ((s.length:Int) - 1).toNat = s.length - 1 := by omega
  have ff := And.intro @e1 ff
  refine stp Rn ?_
  refine stp Rn ?_
  refine dw_seq ?_
  refine stp Rn ?_
  refine cd (fun c1 => ?_) (fun c1 => ?_)
  · skip
    refine stp Rn ?_
    refine dw_ret ?_
    exact fin 0 (hr := by (try simp only [go_sem, ff]); all_goals ((repeat' split) <;> first | rfl | (exfalso; omega)))
  · skip
    refine dw_skip ?_
    show DW _ _ _ _ _
    refine dw_seq ?_
    refine stp Rn ?_
    refine dw_block ?_
    refine lp (α := (Nat) × Nat) [0, 3] (fun ⟨k, nx⟩ => (k ≤ s.length) ∧ (allN s.length (freeIn s) 0 = allN s.length (freeIn s) k) ∧ True) (fun ⟨k, nx⟩ => s.length - k) (fun ⟨k, nx⟩ => [(4, .i k)]) (fun ⟨k, nx⟩ => []) (fun ⟨k, nx⟩ => nx) (0, _) (hA := ⟨iv, rfl, trivial⟩) (round := ?_)
    rintro ⟨k, nx⟩ ⟨hk, hv, -⟩
    show DW _ _ _ _ { n := _, t := tab _, h := _, nx := _, e := _ }
    simp only [List.cons_append, List.nil_append]
    refine dw_seq ?_
    refine stp Rn ?_
    refine cd (fun c2 => ?_) (fun c2 => ?_) (hp := rfl)
    · skip
      have hk2 : k < s.length := by simpa using c2
      refine dw_skip ?_
      show DW _ _ _ _ _
      refine dw_seq ?_
      refine dw_block ?_
      refine stp Rn ?_
      refine stp Rn ?_
      refine cd (fun c3 => ?_) (fun c3 => ?_)
      · skip
        refine stp Rn ?_
        refine dw_ret ?_
        exact fin 0 (hr := by (try simp only [go_sem, ff]); all_goals (have h8 : freeIn s k = false := (by simp only [freeIn, alnum, Bool.or_eq_false_iff, Bool.and_eq_false_iff, decide_eq_false_iff_not]; (try simp only [inR, Bool.and_eq_true, Bool.and_eq_false_iff, decide_eq_true_eq, decide_eq_false_iff_not] at c3); omega); rw [hv, allN_eq, if_pos hk2, h8]; (repeat' split) <;> rfl))
      · skip
        refine dw_skip ?_
        show DW _ _ _ _ _
        refine rgn Rn ?_
        show ∃ _, _
        exact rnd (k + 1, _) (h1 := ⟨iv, (by (try dsimp only); have h8 : freeIn s k = true := (by simp only [freeIn, alnum, Bool.or_eq_true, Bool.and_eq_true, decide_eq_true_eq]; (try simp only [inR, Bool.and_eq_true, Bool.and_eq_false_iff, decide_eq_true_eq, decide_eq_false_iff_not] at c3); omega); rw [hv, allN_eq, if_pos hk2, h8]; rfl), trivial⟩)
    · skip
      refine dw_exit ?_
      show DW _ _ _ _ _
      refine stp Rn ?_
      refine dw_ret ?_
      exact fin 0 (hr := by (try simp only [go_sem, ff]); all_goals (rw [hv, allN_eq, if_neg (by omega), if_neg (by omega), if_neg (by omega), if_neg (by omega), if_neg (by omega)]))
theorem bo119 : hasBody Tryz.prog 119 = true := by kernel_rfl
theorem rless_ct (a : Dat) (b : Dat) : PureCt Tryz.prog 119 [.agg a.d, .agg b.d] (.b (less a b)) := by
  rw [less]
  refine pure_of_dw Tryz.func119 rfl bo119 (by simp [go_sem, D.nr, nrs, nrr]) (by simp [Tryz.f119]) ?_
  unfold Tryz.f119
  simp only [init_eq]
  have ff := True.intro
  refine stp Rn ?_
  refine dw_seq ?_
  refine stp Rn ?_
  refine cd (fun c1 => ?_) (fun c1 => ?_) (hp := rfl) (hq := rfl)
  · skip
    refine stp Rn ?_
    refine dw_ret ?_
    exact fin 0 (hr := by (try simp only [go_sem, ff]); all_goals (rw [if_pos c1]; rfl))
  · skip
    refine dw_skip ?_
    show DW _ _ _ _ _
    refine dw_seq ?_
    refine stp Rn ?_
    refine cd (fun c2 => ?_) (fun c2 => ?_) (hp := rfl) (hq := rfl)
    · skip
      refine stp Rn ?_
      refine dw_ret ?_
      exact fin 0 (hr := by (try simp only [go_sem, ff]); all_goals (rw [if_neg (by rw [c1]; simp), if_pos c2]))
    · skip
      refine dw_skip ?_
      show DW _ _ _ _ _
      refine stp Rn ?_
      refine dw_ret ?_
      exact fin 0 (hr := by (try simp only [go_sem, ff]); all_goals (rw [if_neg (by rw [c1]; simp), if_neg (by rw [c2]; simp)]))

end Go.Proofs.YtfggmgafjabbjaaGreatDoor
namespace Go.Proofs.YtfggmgafjabbjaaGreatDoor
open Go.DL Go.Str Go.Rec
set_option maxRecDepth 10000
set_option linter.unusedSimpArgs false
set_option linter.unusedVariables false
theorem bo158 : hasBody Tryz.prog 158 = true := by kernel_rfl
theorem cmpor_ct (l : List Int) : PureCt Tryz.prog 158 [.list false (l.map iR)] (.i (orFrom l 0)) := by
  refine pure_of_dw Tryz.func158 rfl bo158 (by simp [go_sem, D.nr, nrs, nrr]) (by simp [Tryz.f158]) ?_
  unfold Tryz.f158
  simp only [init_eq]
  have ff := True.intro
  refine dw_len 0 rfl fun hlen => ?_
  simp only [List.length_map, maxLen] at hlen
  refine stp Rn ?_
  refine stp Rn ?_
  refine dw_seq ?_
  refine stp Rn ?_
  refine dw_block ?_
  refine lp (α := (Nat) × Nat) [3, 6, 7] (fun ⟨k, nx⟩ => (k ≤ l.length) ∧ (orFrom l 0 = orFrom l k) ∧ True) (fun ⟨k, nx⟩ => l.length - k) (fun ⟨k, nx⟩ => [(8, .i k)]) (fun ⟨k, nx⟩ => []) (fun ⟨k, nx⟩ => nx) (0, _) (hA := ⟨iv, rfl, trivial⟩) (round := ?_)
  rintro ⟨k, nx⟩ ⟨hk, hv, -⟩
  show DW _ _ _ _ { n := _, t := tab _, h := _, nx := _, e := _ }
  simp only [List.cons_append, List.nil_append]
  refine stp Rn ?_
  refine dw_seq ?_
  refine cd (fun c1 => ?_) (fun c1 => ?_) (hp := rfl)
  · skip
    have hk2 : k < l.length := by simpa using c1
    have ff := And.intro (getD_iR hk2) ff
    refine dw_skip ?_
    show DW _ _ _ _ _
    refine dw_seq ?_
    refine dw_block ?_
    refine stp Rn ?_
    refine stp Rn ?_
    refine cd (fun c2 => ?_) (fun c2 => ?_) (hp := rfl) (hq := rfl)
    · skip
      refine stp Rn ?_
      refine dw_ret ?_
      exact fin 0 (hr := by (try simp only [go_sem, ff]); all_goals (rw [hv, orFrom_eq, if_pos hk2, if_pos c2]))
    · skip
      refine dw_skip ?_
      show DW _ _ _ _ _
      refine rgn Rn ?_
      show ∃ _, _
      exact rnd (k + 1, _) (h1 := ⟨iv, (by (try dsimp only); rw [hv, orFrom_eq, if_pos hk2, if_neg (by rw [c2]; simp)]), trivial⟩)
  · skip
    refine dw_exit ?_
    show DW _ _ _ _ _
    refine stp Rn ?_
    refine dw_ret ?_
    exact fin 0 (hr := by (try simp only [go_sem, ff]); all_goals (rw [hv, orFrom_eq, if_neg (by omega)]))
theorem bo130 : hasBody Tryz.prog 130 = true := by kernel_rfl
theorem cmpdata_ct (a : Dat) (b : Dat) : PureCt Tryz.prog 130 [.agg a.d, .agg b.d] (.i (datC a b)) := by
  refine pure_of_dw Tryz.func130 rfl bo130 (by simp [go_sem, D.nr, nrs, nrr]) (by simp [Tryz.f130]) ?_
  unfold Tryz.f130
  simp only [init_eq]
  have ff := True.intro
  refine stp Rn ?_
  refine stp Rn ?_ (hok := by (try simp only [go_sem, ff]); all_goals (first | done | ((repeat' (with_reducible apply And.intro)) <;> first | exact cmpstr_ct _ _ | exact cmpint_ct _ _ | exact cmpor_ct [_, _, _] | omega)))
  refine dw_ret ?_
  exact fin 0 (hr := by (try simp only [go_sem, ff]); all_goals (rw [← orFrom_dat]; rfl))
theorem bo117 : hasBody Tryz.prog 117 = true := by kernel_rfl
theorem rsingle_ct (k : Int) : PureCt Tryz.prog 117 [.i k] (.b (singleB k)) := by
  refine pure_of_dw Tryz.func117 rfl bo117 (by simp [go_sem, D.nr, nrs, nrr]) (by simp [Tryz.f117]) ?_
  unfold Tryz.f117
  simp only [init_eq]
  have ff := True.intro
  refine stp Rn ?_
  refine stp Rn ?_
  refine dw_ret ?_
  exact fin 0 (hr := by (try simp only [go_sem, ff]); all_goals (first | rfl | (unfold singleB; simp)))
theorem bo129 : hasBody Tryz.prog 129 = true := by kernel_rfl
theorem vdatum_ct (r : Rule) (d : Dat) (hr : r.even = true → 0 ≤ r.n0) : PureCt Tryz.prog 129 [.agg r.d, .agg d.d] (.b (datOk r d)) := by
  refine pure_of_dw Tryz.func129 rfl bo129 (by simp [go_sem, D.nr, nrs, nrr]) (by simp [Tryz.f129]) ?_
  unfold Tryz.f129
  simp only [init_eq]
  have ff := True.intro
  refine stp Rn ?_
  refine dw_seq ?_
  refine stp Rn ?_ (hok := by (try simp only [go_sem, ff]); all_goals (first | done | ((repeat' (with_reducible apply And.intro)) <;> first | exact within_ct _ _ _ | (intros; exact within_ct _ _ _) | (intro h; simp only [Bool.and_eq_true, Bool.not_eq_true', Bool.or_eq_false_iff, Bool.not_eq_false', inR_iff] at h; have := hr h.2; omega) | (intros; simp_all; done))))
  refine cd (fun c1 => ?_) (fun c1 => ?_)
  · skip
    refine stp Rn ?_
    refine dw_ret ?_
    exact fin 0 (hr := by (try simp only [go_sem, ff]); all_goals (rcases c1 with (h | h) | ⟨h1, h2⟩ <;> simp [datOk, *]))
  · skip
    refine dw_skip ?_
    show DW _ _ _ _ _
    refine dw_seq ?_
    refine stp Rn ?_
    refine dw_block ?_
    refine stp Rn ?_
    refine cd (fun c2 => ?_) (fun c2 => ?_)
    · skip
      refine stp Rn ?_ (hok := by (try simp only [go_sem, ff]); all_goals (first | done | ((repeat' (with_reducible apply And.intro)) <;> first | exact nvalid_ct _ | (intros; exact nvalid_ct _) | exact iswild_ct _ | (intros; exact iswild_ct _))))
      refine dw_ret ?_
      exact fin 0 (hr := by (try simp only [go_sem, ff]); all_goals (obtain ⟨⟨h1, h2⟩, h3⟩ := c1; rcases h3 with h3 | h3 <;> simp [datOk, textOk, *]))
    · skip
      refine stp Rn ?_
      refine cd (fun c3 => ?_) (fun c3 => ?_)
      · skip
        refine stp Rn ?_ (hok := by (try simp only [go_sem, ff]); all_goals (exact nvalid_ct _))
        refine dw_ret ?_
        exact fin 0 (hr := by (try simp only [go_sem, ff]); all_goals (obtain ⟨⟨h1, h2⟩, h3⟩ := c1; rcases h3 with h3 | h3 <;> simp [datOk, textOk, *]))
      · skip
        refine stp Rn ?_
        refine cd (fun c4 => ?_) (fun c4 => ?_)
        · skip
          refine stp Rn ?_ (hok := by (try simp only [go_sem, ff]); all_goals (exact isfree_ct _))
          refine dw_ret ?_
          exact fin 0 (hr := by (try simp only [go_sem, ff]); all_goals (obtain ⟨⟨h1, h2⟩, h3⟩ := c1; rcases h3 with h3 | h3 <;> simp [datOk, textOk, *]))
        · skip
          refine dw_skip ?_
          show DW _ _ _ _ _
          refine stp Rn ?_
          refine dw_ret ?_
          exact fin 0 (hr := by (try simp only [go_sem, ff]); all_goals (obtain ⟨⟨h1, h2⟩, h3⟩ := c1; rcases h3 with h3 | h3 <;> simp [datOk, textOk, *] <;> cases d.t <;> rfl))
theorem bo118 : hasBody Tryz.prog 118 = true := by kernel_rfl
theorem rdatum_ct (k : Int) (d : Dat) : PureCt Tryz.prog 118 [.i k, .agg d.d] (.b (rDatOk k d)) := by
  refine pure_of_dw Tryz.func118 rfl bo118 (by simp [go_sem, D.nr, nrs, nrr]) (by simp [Tryz.f118]) ?_
  unfold Tryz.f118
  simp only [init_eq]
  have ff := True.intro
  refine stp Rn ?_
  refine dw_seq ?_
  refine stp Rn ?_
  refine dw_block ?_
  refine stp Rn ?_
  refine cd (fun c1 => ?_) (fun c1 => ?_)
  · skip
    refine stp Rn ?_ (hok := by (try simp only [go_sem, ff]); all_goals (first | done | ((repeat' (with_reducible apply And.intro)) <;> first | exact rwithin_ct _ _ _ | (intros; exact rwithin_ct _ _ _) | exact rnvalid_ct _ | (intros; exact rnvalid_ct _) | exact rwild_ct _ | (intros; exact rwild_ct _) | (intro h; simp only [Bool.and_eq_true, inR_iff] at h; omega) | omega)))
    refine dw_ret ?_
    exact fin 0 (hr := by (try simp only [go_sem, ff]); all_goals (simp [rDatOk, *]))
  · skip
    refine dw_seq ?_
    refine stp Rn ?_
    refine cd (fun c2 => ?_) (fun c2 => ?_)
    · skip
      refine dw_skip ?_
      show DW _ _ _ _ _
      refine cd (fun c3 => ?_) (fun c3 => ?_)
      · skip
        refine stp Rn ?_ (hok := by (try simp only [go_sem, ff]); all_goals (first | done | ((repeat' (with_reducible apply And.intro)) <;> first | exact rwithin_ct _ _ _ | (intros; exact rwithin_ct _ _ _) | exact rnvalid_ct _ | (intros; exact rnvalid_ct _) | exact rwild_ct _ | (intros; exact rwild_ct _) | (intro h; simp only [Bool.and_eq_true, inR_iff] at h; omega) | omega)))
        refine dw_ret ?_
        exact fin 0 (hr := by (try simp only [go_sem, ff]); all_goals (simp [rDatOk, *]))
      · skip
        exact absurd c2 c3
    · skip
      refine rgn Rn ?_
      show DW _ _ _ _ _
      refine cd (fun c4 => ?_) (fun c4 => ?_)
      · skip
        refine stp Rn ?_ (hok := by (try simp only [go_sem, ff]); all_goals (first | done | ((repeat' (with_reducible apply And.intro)) <;> first | exact rwithin_ct _ _ _ | (intros; exact rwithin_ct _ _ _) | exact rnvalid_ct _ | (intros; exact rnvalid_ct _) | exact rwild_ct _ | (intros; exact rwild_ct _) | (intro h; simp only [Bool.and_eq_true, inR_iff] at h; omega) | omega)))
        refine dw_ret ?_
        exact fin 0 (hr := by (try simp only [go_sem, ff]); all_goals (simp [rDatOk, *]))
      · skip
        refine stp Rn ?_
        refine cd (fun c5 => ?_) (fun c5 => ?_)
        · skip
          refine stp Rn ?_ (hok := by (try simp only [go_sem, ff]); all_goals (first | done | ((repeat' (with_reducible apply And.intro)) <;> first | exact rwithin_ct _ _ _ | (intros; exact rwithin_ct _ _ _) | exact rnvalid_ct _ | (intros; exact rnvalid_ct _) | exact rwild_ct _ | (intros; exact rwild_ct _) | (intro h; simp only [Bool.and_eq_true, inR_iff] at h; omega) | omega)))
          refine dw_ret ?_
          exact fin 0 (hr := by (try simp only [go_sem, ff]); all_goals (simp [rDatOk, *]))
        · skip
          refine stp Rn ?_
          refine cd (fun c6 => ?_) (fun c6 => ?_)
          · skip
            refine stp Rn ?_ (hok := by (try simp only [go_sem, ff]); all_goals (first | done | exact rtext_ct _))
            refine dw_ret ?_
            exact fin 0 (hr := by (try simp only [go_sem, ff]); all_goals (simp [rDatOk, *]))
          · skip
            refine dw_seq ?_
            refine stp Rn ?_
            refine cd (fun c7 => ?_) (fun c7 => ?_)
            · skip
              refine dw_skip ?_
              show DW _ _ _ _ _
              refine cd (fun c8 => ?_) (fun c8 => ?_)
              · skip
                refine stp Rn ?_ (hok := by (try simp only [go_sem, ff]); all_goals (first | done | ((repeat' (with_reducible apply And.intro)) <;> first | exact rwithin_ct _ _ _ | (intros; exact rwithin_ct _ _ _) | exact rnvalid_ct _ | (intros; exact rnvalid_ct _) | exact rwild_ct _ | (intros; exact rwild_ct _) | (intro h; simp only [Bool.and_eq_true, inR_iff] at h; omega) | omega)))
                refine dw_ret ?_
                exact fin 0 (hr := by (try simp only [go_sem, ff]); all_goals (simp [rDatOk, *]))
              · skip
                exact absurd c7 c8
            · skip
              refine rgn Rn ?_
              show DW _ _ _ _ _
              refine cd (fun c9 => ?_) (fun c9 => ?_)
              · skip
                refine stp Rn ?_ (hok := by (try simp only [go_sem, ff]); all_goals (first | done | ((repeat' (with_reducible apply And.intro)) <;> first | exact rwithin_ct _ _ _ | (intros; exact rwithin_ct _ _ _) | exact rnvalid_ct _ | (intros; exact rnvalid_ct _) | exact rwild_ct _ | (intros; exact rwild_ct _) | (intro h; simp only [Bool.and_eq_true, inR_iff] at h; omega) | omega)))
                refine dw_ret ?_
                exact fin 0 (hr := by (try simp only [go_sem, ff]); all_goals (simp [rDatOk, *]))
              · skip
                refine stp Rn ?_
                refine cd (fun c10 => ?_) (fun c10 => ?_)
                · skip
                  refine stp Rn ?_ (hok := by (try simp only [go_sem, ff]); all_goals (first | done | ((repeat' (with_reducible apply And.intro)) <;> first | exact rwithin_ct _ _ _ | (intros; exact rwithin_ct _ _ _) | exact rnvalid_ct _ | (intros; exact rnvalid_ct _) | exact rwild_ct _ | (intros; exact rwild_ct _) | (intro h; simp only [Bool.and_eq_true, inR_iff] at h; omega) | omega)))
                  refine dw_ret ?_
                  exact fin 0 (hr := by (try simp only [go_sem, ff]); all_goals (simp [rDatOk, *]))
                · skip
                  refine dw_skip ?_
                  show DW _ _ _ _ _
                  refine stp Rn ?_
                  refine dw_ret ?_
                  exact fin 0 (hr := by (try simp only [go_sem, ff]); all_goals (simp [rDatOk, *]))

end Go.Proofs.YtfggmgafjabbjaaGreatDoor
namespace Go.Proofs.YtfggmgafjabbjaaGreatDoor
open Go.DL Go.Str Go.Rec Go.Cmp
set_option maxRecDepth 10000
set_option linter.unusedSimpArgs false
set_option linter.unusedVariables false
theorem rule_ldc {k : Nat} (h1 : 1 ≤ k) (h8 : k ≤ 8) : ∃ rest : List D, ∀ hh, ldc Tryz.prog (.v (.pointer (some ⟨0, k * 8, none⟩))) hh = (ruleAt k).d ++ rest := by
  refine ⟨(rulesTab.drop (k * 8 + 8)).map D.v, fun hh => ?_⟩
  have : k = 1 ∨ k = 2 ∨ k = 3 ∨ k = 4 ∨ k = 5 ∨ k = 6 ∨ k = 7 ∨ k = 8 := by omega
  rcases this with e | e | e | e | e | e | e | e <;> subst e <;> rfl
theorem bo93 : hasBody Tryz.prog 93 = true := by kernel_rfl
theorem rvalid_ct (s : RSet) : PureCt Tryz.prog 93 [.agg s.d] (.b (setOk s)) := by
  refine pure_of_dw Tryz.func93 rfl bo93 (by simp [go_sem, D.nr, nrs, nrr]) (by simp [Tryz.f93]) ?_
  unfold Tryz.f93
  simp only [init_eq]
  have ff := True.intro
  refine stp Rn ?_
  refine dw_seq ?_
  refine stp Rn ?_ (hok := by (try simp only [go_sem, ff]); all_goals (first | done | ((repeat' (with_reducible apply And.intro)) <;> first | exact nvalid_ct _ | (intros; exact nvalid_ct _) | exact within_ct _ _ _ | (intros; exact within_ct _ _ _) | (intros; simp_all; done) | omega)))
  refine cd (fun c1 => ?_) (fun c1 => ?_)
  · skip
    refine stp Rn ?_
    refine dw_ret ?_
    exact fin 0 (hr := by (try simp only [go_sem, ff]); all_goals (rcases c1 with (h | h) | h <;> simp [setOk, h]))
  · skip
    refine dw_skip ?_
    show DW _ _ _ _ _
    refine dw_seq ?_
    refine stp Rn ?_ (hok := by (try simp only [go_sem, ff]); all_goals (exact within_ct _ _ _))
    refine cd (fun c2 => ?_) (fun c2 => ?_)
    · skip
      refine stp Rn ?_
      refine dw_ret ?_
      exact fin 0 (hr := by (try simp only [go_sem, ff]); all_goals (simp [setOk, c2]))
    · skip
      have hty := inR_iff.1 c1.1.2
      obtain ⟨rest, hld⟩ := rule_ldc (k := s.ty.toNat) (by omega) (by omega)
      have ff := And.intro @hld ff
      refine dw_skip ?_
      show DW _ _ _ _ _
      refine stp Rn ?_ (hok := by (try simp only [go_sem, ff]); all_goals (first | done | omega | ((repeat' (with_reducible apply And.intro)) <;> first | omega | rfl)))
      refine dw_seq ?_
      refine stp Rn ?_ (hok := by (try simp only [go_sem, ff]); all_goals (first | done | ((repeat' (with_reducible apply And.intro)) <;> first | exact iswild_ct _ | (intros; exact iswild_ct _) | (intros; simp_all; done) | (intros; by_cases hq : (ruleAt s.ty.toNat).single = true <;> simp_all))))
      refine cd (fun c3 => ?_) (fun c3 => ?_)
      · skip
        refine stp Rn ?_
        refine dw_ret ?_
        exact fin 0 (hr := by (try simp only [go_sem, ff]); all_goals (rcases c3 with ⟨h1, h2⟩ | ⟨h1, h2⟩ <;> simp [setOk, h1, h2]))
      · skip
        refine dw_skip ?_
        show DW _ _ _ _ _
        refine dw_seq ?_
        refine stp Rn ?_
        refine dw_block ?_
        refine lp (α := (Nat) × Nat) [1, 3, 50, 51] (fun ⟨k, nx⟩ => (k ≤ s.data.length) ∧ (27 < nx) ∧ (allN s.data.length (datAt s.ty.toNat s.data) 0 = allN s.data.length (datAt s.ty.toNat s.data) k) ∧ True) (fun ⟨k, nx⟩ => s.data.length - k) (fun ⟨k, nx⟩ => [(52, .i k)]) (fun ⟨k, nx⟩ => [(0, ⟨46, [s.d]⟩), (27, ⟨142, [(ruleAt s.ty.toNat).d]⟩)]) (fun ⟨k, nx⟩ => nx) (0, _) (hA := ⟨iv, iv, rfl, trivial⟩) (round := ?_)
        rintro ⟨k, nx⟩ ⟨hk, hx, hv, -⟩
        show DW _ _ _ _ { n := _, t := tab _, h := _, nx := _, e := _ }
        simp only [List.cons_append, List.nil_append]
        have n0 : 0 < nx := by omega
        have ff := And.intro @hx (And.intro @n0 ff)
        refine stp Rn ?_
        refine dw_seq ?_
        refine cd (fun c4 => ?_) (fun c4 => ?_) (hp := rfl)
        · skip
          have hk2 : k < s.data.length := by simpa using c4
          have ff := And.intro (getD_dat hk2) ff
          refine dw_skip ?_
          show DW _ _ _ _ _
          refine dw_seq ?_
          refine dw_block ?_
          refine stp Rn ?_
          have hl8 := inR_iff.1 c2
          have e1 : ((k:Int) - 1).toNat = k - 1 := by omega
          have hk1 : k - 1 < s.data.length := by omega
          have ff := And.intro @e1 (And.intro (getD_dat hk1) ff)
          refine stp Rn ?_ (hok := by (try simp only [go_sem, ff]); all_goals (first | done | ((repeat' (with_reducible apply And.intro)) <;> first | exact vdatum_ct _ _ (rule_even _) | (intros; exact vdatum_ct _ _ (rule_even _)) | exact cmpdata_ct _ _ | (intros; exact cmpdata_ct _ _) | (intros; simp_all; done) | (intro h; simp only [Bool.and_eq_true, decide_eq_true_eq] at h; have := h.2; omega) | skip)))
          refine cd (fun c5 => ?_) (fun c5 => ?_)
          · skip
            refine stp Rn ?_
            refine dw_ret ?_
            exact fin 0 (hr := by (try simp only [go_sem, ff]); all_goals (rw [set_rest c1 c2 c3, hv, allN_eq, if_pos hk2, dat_no c5]; rfl))
          · skip
            refine dw_skip ?_
            show DW _ _ _ _ _
            refine rgn Rn ?_
            show ∃ _, _
            exact rnd (k + 1, _) (h1 := ⟨iv, iv, (by (try dsimp only); rw [hv, allN_eq, if_pos hk2, dat_yes c5]; rfl), trivial⟩)
        · skip
          refine dw_exit ?_
          show DW _ _ _ _ _
          refine stp Rn ?_
          refine dw_ret ?_
          exact fin 0 (hr := by (try simp only [go_sem, ff]); all_goals (rw [set_rest c1 c2 c3, hv, allN_eq, if_neg (by omega)]))

end Go.Proofs.YtfggmgafjabbjaaGreatDoor
namespace Go.Proofs.YtfggmgafjabbjaaGreatDoor
open Go.DL Go.Str Go.Rec Go.Cmp
set_option maxRecDepth 10000
set_option linter.unusedSimpArgs false
set_option linter.unusedVariables false
theorem bo83 : hasBody Tryz.prog 83 = true := by kernel_rfl
theorem rrvalid_ct (s : RSet) : PureCt Tryz.prog 83 [.agg s.d] (.b (setOk s)) := by
  refine pure_of_dw Tryz.func83 rfl bo83 (by simp [go_sem, D.nr, nrs, nrr]) (by simp [Tryz.f83]) ?_
  unfold Tryz.f83
  simp only [init_eq]
  have ff := True.intro
  refine stp Rn ?_
  refine stp Rn ?_
  refine dw_seq ?_
  refine stp Rn ?_ (hok := by (try simp only [go_sem, ff]); all_goals (first | done | ((repeat' (with_reducible apply And.intro)) <;> first | exact rnvalid_ct _ | (intros; exact rnvalid_ct _) | exact rwithin_ct _ _ _ | (intros; exact rwithin_ct _ _ _) | exact rsingle_ct _ | (intros; exact rsingle_ct _) | (intros; simp_all; done) | skip)))
  refine cd (fun c1 => ?_) (fun c1 => ?_)
  · skip
    refine stp Rn ?_
    refine dw_ret ?_
    exact fin 0 (hr := by (try simp only [go_sem, ff]); all_goals (rw [set_no_r c1]))
  · skip
    refine dw_skip ?_
    show DW _ _ _ _ _
    refine dw_seq ?_
    refine stp Rn ?_ (hok := by (try simp only [go_sem, ff]); all_goals (first | done | ((repeat' (with_reducible apply And.intro)) <;> first | exact rwild_ct _ | (intros; exact rwild_ct _) | (intros; simp_all; done) | skip)))
    refine cd (fun c2 => ?_) (fun c2 => ?_) (hp := rfl) (hq := rfl)
    · skip
      rw [wild4 _ c1.1.1.1.2] at c2
      try simp only [decide_eq_true_eq, decide_eq_false_iff_not, Bool.or_eq_true, Bool.and_eq_true, Bool.or_eq_false_iff, Bool.not_eq_true', Bool.not_eq_false', Bool.and_eq_false_iff, beq_iff_eq, beq_eq_false_iff_ne, bne_iff_ne, bne_eq_false_iff_eq, ne_eq] at c2
      refine stp Rn ?_
      refine dw_ret ?_
      exact fin 0 (hr := by (try simp only [go_sem, ff]); all_goals (rw [set_no_w c2]))
    · skip
      rw [wild4 _ c1.1.1.1.2] at c2
      try simp only [decide_eq_true_eq, decide_eq_false_iff_not, Bool.or_eq_true, Bool.and_eq_true, Bool.or_eq_false_iff, Bool.not_eq_true', Bool.not_eq_false', Bool.and_eq_false_iff, beq_iff_eq, beq_eq_false_iff_ne, bne_iff_ne, bne_eq_false_iff_eq, ne_eq] at c2
      refine dw_skip ?_
      show DW _ _ _ _ _
      refine dw_seq ?_
      refine stp Rn ?_
      refine dw_block ?_
      refine lp (α := (Nat) × Nat) [1, 3] (fun ⟨k, nx⟩ => (k ≤ s.data.length) ∧ (0 < nx) ∧ (allN s.data.length (datAt s.ty.toNat s.data) 0 = allN s.data.length (datAt s.ty.toNat s.data) k) ∧ True) (fun ⟨k, nx⟩ => s.data.length - k) (fun ⟨k, nx⟩ => [(4, .i k)]) (fun ⟨k, nx⟩ => [(0, ⟨46, [s.d]⟩)]) (fun ⟨k, nx⟩ => nx) (0, _) (hA := ⟨iv, iv, rfl, trivial⟩) (round := ?_)
      rintro ⟨k, nx⟩ ⟨hk, hx, hv, -⟩
      show DW _ _ _ _ { n := _, t := tab _, h := _, nx := _, e := _ }
      simp only [List.cons_append, List.nil_append]
      have ff := And.intro @hx ff
      refine dw_seq ?_
      refine stp Rn ?_
      refine cd (fun c3 => ?_) (fun c3 => ?_) (hp := rfl)
      · skip
        have hk2 : k < s.data.length := by simpa using c3
        have ff := And.intro (getD_dat hk2) ff
        refine dw_skip ?_
        show DW _ _ _ _ _
        refine dw_seq ?_
        refine dw_block ?_
        have hl8 := inR_iff.1 c1.1.2
        have e1 : ((k:Int) - 1).toNat = k - 1 := by omega
        have hk1 : k - 1 < s.data.length := by omega
        have ff := And.intro @e1 (And.intro (getD_dat hk1) ff)
        refine stp Rn ?_ (hok := by (try simp only [go_sem, ff]); all_goals (first | done | ((repeat' (with_reducible apply And.intro)) <;> first | exact rdatum_ct _ _ | (intros; exact rdatum_ct _ _) | exact rless_ct _ _ | (intros; exact rless_ct _ _) | (intros; simp_all; done) | (intro h; simp only [Bool.and_eq_true, decide_eq_true_eq] at h; have := h.2; omega) | skip)))
        refine cd (fun c4 => ?_) (fun c4 => ?_)
        · skip
          refine stp Rn ?_
          refine dw_ret ?_
          exact fin 0 (hr := by (try simp only [go_sem, ff]); all_goals (rw [set_rest_r c1 c2, hv, allN_eq, if_pos hk2, dat_no_r c1.1.1.1.2 c4]; rfl))
        · skip
          refine dw_skip ?_
          show DW _ _ _ _ _
          refine rgn Rn ?_
          show ∃ _, _
          exact rnd (k + 1, _) (h1 := ⟨iv, iv, (by (try dsimp only); rw [hv, allN_eq, if_pos hk2, dat_yes_r c1.1.1.1.2 c4]; rfl), trivial⟩)
      · skip
        refine dw_exit ?_
        show DW _ _ _ _ _
        refine stp Rn ?_
        refine dw_ret ?_
        exact fin 0 (hr := by (try simp only [go_sem, ff]); all_goals (rw [set_rest_r c1 c2, hv, allN_eq, if_neg (by omega)]))
theorem bo85 : hasBody Tryz.prog 85 = true := by kernel_rfl
theorem rord02_ct (a : RSet) (b : RSet) : PureCt Tryz.prog 85 [.agg a.d, .agg b.d] (.i (rOrd a b)) := by
  refine pure_of_dw Tryz.func85 rfl bo85 (by simp [go_sem, D.nr, nrs, nrr]) (by simp [Tryz.f85]) ?_
  unfold Tryz.f85
  simp only [init_eq]
  have ff := True.intro
  refine stp Rn ?_
  refine stp Rn ?_ (hok := by (try simp only [go_sem, ff]); all_goals (exact rncompare_ct _ _))
  refine dw_seq ?_
  refine stp Rn ?_
  refine cd (fun c1 => ?_) (fun c1 => ?_)
  · skip
    refine stp Rn ?_
    refine dw_ret ?_
    exact fin 0 (hr := by (try simp only [go_sem, ff]); all_goals (simp only [rOrd, thenC_eq, nmC, Go.Rec.cmpI]; simp_all <;> (repeat' split) <;> omega))
  · skip
    refine dw_skip ?_
    show DW _ _ _ _ _
    refine dw_seq ?_
    refine stp Rn ?_
    refine cd (fun c2 => ?_) (fun c2 => ?_)
    · skip
      refine stp Rn ?_
      refine dw_ret ?_
      exact fin 0 (hr := by (try simp only [go_sem, ff]); all_goals (simp only [rOrd, thenC_eq, nmC, Go.Rec.cmpI]; simp_all <;> (repeat' split) <;> omega))
    · skip
      refine dw_skip ?_
      show DW _ _ _ _ _
      refine dw_seq ?_
      refine stp Rn ?_
      refine cd (fun c3 => ?_) (fun c3 => ?_)
      · skip
        refine stp Rn ?_
        refine dw_ret ?_
        exact fin 0 (hr := by (try simp only [go_sem, ff]); all_goals (simp only [rOrd, thenC_eq, nmC, Go.Rec.cmpI]; simp_all <;> (repeat' split) <;> omega))
      · skip
        refine dw_skip ?_
        show DW _ _ _ _ _
        refine stp Rn ?_
        refine dw_ret ?_
        exact fin 0 (hr := by (try simp only [go_sem, ff]); all_goals (simp only [rOrd, thenC_eq, nmC, Go.Rec.cmpI]; simp_all <;> (repeat' split) <;> omega))
theorem bo63 : hasBody Tryz.prog 63 = true := by kernel_rfl
theorem rsame02_ct (a : RSet) (b : RSet) (ha : a.data.length ≤ 100000) : PureCt Tryz.prog 63 [.agg a.d, .agg b.d] (.b (sameB a b)) := by
  refine pure_of_dw Tryz.func63 rfl bo63 (by simp [go_sem, D.nr, nrs, nrr]) (by simp [Tryz.f63]) ?_
  unfold Tryz.f63
  simp only [init_eq]
  have ff := True.intro
  refine stp Rn ?_
  refine dw_seq ?_
  refine stp Rn ?_
  refine cd (fun c1 => ?_) (fun c1 => ?_)
  · skip
    refine stp Rn ?_
    refine dw_ret ?_
    exact fin 0 (hr := by (try simp only [go_sem, ff]); all_goals (rw [sameB_no c1]))
  · skip
    refine dw_skip ?_
    show DW _ _ _ _ _
    refine dw_seq ?_
    refine stp Rn ?_
    refine dw_block ?_
    refine lp (α := (Nat) × Nat) [2, 3] (fun ⟨k, nx⟩ => (k ≤ a.data.length) ∧ (1 < nx) ∧ (∀ i, i < k → a.data[i]! = b.data[i]!) ∧ True) (fun ⟨k, nx⟩ => a.data.length - k) (fun ⟨k, nx⟩ => [(5, .i k)]) (fun ⟨k, nx⟩ => [(0, ⟨46, [a.d]⟩), (1, ⟨46, [b.d]⟩)]) (fun ⟨k, nx⟩ => nx) (0, _) (hA := ⟨iv, iv, (by first | (intro i hi; omega) | (dsimp only; intro i hi; omega)), trivial⟩) (round := ?_)
    rintro ⟨k, nx⟩ ⟨hk, hx, hv, -⟩
    show DW _ _ _ _ { n := _, t := tab _, h := _, nx := _, e := _ }
    simp only [List.cons_append, List.nil_append]
    have n0 : 0 < nx := by omega
    have ff := And.intro @hx (And.intro @n0 ff)
    refine dw_seq ?_
    refine stp Rn ?_
    refine cd (fun c2 => ?_) (fun c2 => ?_) (hp := rfl)
    · skip
      have hk2 : k < a.data.length := by simpa using c2
      have hk3 : k < b.data.length := by have := c1.2; omega
      have ff := And.intro (getD_dat hk2) (And.intro (getD_dat hk3) ff)
      refine dw_skip ?_
      show DW _ _ _ _ _
      refine dw_seq ?_
      refine dw_block ?_
      refine stp Rn ?_
      refine cd (fun c3 => ?_) (fun c3 => ?_) (hp := rfl) (hq := rfl)
      · skip
        refine stp Rn ?_
        refine dw_ret ?_
        exact fin 0 (hr := by (try simp only [go_sem, ff]); all_goals (rw [sameB_at (dat_diff c3)]))
      · skip
        refine dw_skip ?_
        show DW _ _ _ _ _
        refine rgn Rn ?_
        show ∃ _, _
        exact rnd (k + 1, _) (h1 := ⟨iv, iv, (by (try dsimp only); intro i hi; by_cases e : i = k; subst e; exact dat_same c3; exact hv i (by omega)), trivial⟩)
    · skip
      refine dw_exit ?_
      show DW _ _ _ _ _
      refine stp Rn ?_
      refine dw_ret ?_
      exact fin 0 (hr := by (try simp only [go_sem, ff]); all_goals (rw [sameB_yes c1 fun i hi => hv i (by omega)]))

end Go.Proofs.YtfggmgafjabbjaaGreatDoor
/-
  MADE BY A PROGRAM OF MINE: what the functions that leave memory alone give. Conditions: none.
-/
namespace Go.Proofs.YtfggmgafjabbjaaGreatDoor
open Go.DL Go.Str Go.Rec Go.Zon
set_option linter.unusedVariables false
def Zn : Con where
  pure := fun k => [176, 169, 153, 114, 113, 81, 123, 90, 115, 171, 155, 122, 120, 125, 127, 172, 116, 156, 173, 126, 159, 124, 91, 128, 110, 157, 150, 119, 129, 118, 158, 130, 93, 83, 117, 85, 63, 165, 141, 102, 84, 82, 101, 92, 103, 86, 104, 89, 61, 111, 20, 60, 18, 100, 99, 46, 47, 48, 50, 51, 52, 53, 49, 14, 13].contains k
  pf := fun k xs => match k, xs with
    | 176, [x0, x1] => .i (lastIx (str1 x0) (int1 x1))
    | 169, [x0, x1] => .i (lastIx (str1 x0) (int1 x1))
    | 153, [x0] => .b (labelOk (str1 x0))
    | 114, [x0] => .b (labelOk (str1 x0))
    | 113, [x0] => .list false ((splitF (str1 x0)).map sR)
    | 81, [x0] => .b (nameOk (str1 x0))
    | 123, [x0] => .b (nameOk (str1 x0))
    | 90, [x0] => .b (nameOk (str1 x0))
    | 115, [x0] => .list false ((partsOf (str1 x0)).map sR)
    | 171, [x0, x1] => .i (Go.Lib.compareBytes (str1 x0) (str1 x1))
    | 155, [x0, x1] => .i (Go.Lib.compareBytes (str1 x0) (str1 x1))
    | 122, [x0, x1] => .i (nmOrd (str1 x0) (str1 x1))
    | 120, [x0, x1] => .tuple [.i (if nameOk (str1 x0) && nameOk (str1 x1) then nmCmp (str1 x0) (str1 x1) else 0), .i (if nameOk (str1 x0) && nameOk (str1 x1) then 0 else 11)]
    | 125, [x0, x1] => .tuple [.i (if nameOk (str1 x0) && nameOk (str1 x1) then nmCmp (str1 x0) (str1 x1) else 0), .i (if nameOk (str1 x0) && nameOk (str1 x1) then 0 else 11)]
    | 127, [x0, x1, x2] => .b (inR (int1 x0) (int1 x1) (int1 x2))
    | 172, [x0, x1, x2] => .b (inR (int1 x0) (int1 x1) (int1 x2))
    | 116, [x0, x1, x2] => .b (inR (int1 x0) (int1 x1) (int1 x2))
    | 156, [x0] => .b ((int1 x0) != (int1 x0))
    | 173, [x0] => .b ((str1 x0) != (str1 x0))
    | 126, [x0, x1] => .i (cmpI (int1 x0) (int1 x1))
    | 159, [x0, x1] => .i (cmpS (str1 x0) (str1 x1))
    | 124, [x0, x1] => .b (hasPre (str1 x0) (str1 x1))
    | 91, [x0, x1] => .b (hasPre (str1 x0) (str1 x1))
    | 128, [x0] => .b (wildB (str1 x0))
    | 110, [x0] => .b (wildB (str1 x0))
    | 157, [x0] => .b (freeB (str1 x0))
    | 150, [x0] => .b (freeB (str1 x0))
    | 119, [x0, x1] => .b (less (dat1 x0) (dat1 x1))
    | 129, [x0, x1] => .b (datOk (rule1 x0) (dat1 x1))
    | 118, [x0, x1] => .b (rDatOk (int1 x0) (dat1 x1))
    | 158, [x0] => .i (orFrom (ints1 x0) 0)
    | 130, [x0, x1] => .i (datC (dat1 x0) (dat1 x1))
    | 93, [x0] => .b (setOk (set1 x0))
    | 83, [x0] => .b (setOk (set1 x0))
    | 117, [x0] => .b (singleB (int1 x0))
    | 85, [x0, x1] => .i (rOrd (set1 x0) (set1 x1))
    | 63, [x0, x1] => .b (sameB (set1 x0) (set1 x1))
    | 165, [x0, x1] => .b (hasSuf (str1 x0) (str1 x1))
    | 141, [x0, x1] => .b (hasSuf (str1 x0) (str1 x1))
    | 102, [x0, x1] => .tuple [.b (underV (str1 x0) (str1 x1)), .i (if nameOk (str1 x0) && nameOk (str1 x1) then 0 else 11)]
    | 84, [x0, x1] => .b (inB (str1 x0) (str1 x1))
    | 82, [x0] => .b (wild1 (str1 x0))
    | 101, [x0, x1, x2, x3] => .i (qC ⟨(str1 x0), (int1 x1)⟩ ⟨(str1 x2), (int1 x3)⟩)
    | 92, [x0, x1] => .i (qC (qst1 x0) (qst1 x1))
    | 103, [x0, x1] => .b (fits (int1 x0) (bool1 x1))
    | 86, [x0, x1] => .b (fits (int1 x0) (bool1 x1))
    | 104, [x0, x1] => .b (sigsOk (sigs1 x0) (str1 x1))
    | 89, [x0, x1] => .b (sigsOk (sigs1 x0) (str1 x1))
    | 61, [x0] => .b (qOk (qst1 x0))
    | 111, [x0] => .b (qOk (qst1 x0))
    | 20, [x0, x1] => .b (sameSgd (sgd1 x0) (sgd1 x1))
    | 60, [x0, x1] => .b (sameList (sgds1 x0) (sgds1 x1))
    | 18, [x0, x1] => .b (sameZ (zon1 x0) (zon1 x1))
    | 100, [x0, x1] => .i (qC (sgd1 x0).q (qst1 x1))
    | 99, [x0, x1, x2] => .tuple [.i (findIx (sgds1 x0) (qst1 x1)), .b (findOk (sgds1 x0) (qst1 x1))]
    | 46, [x0, x1] => .tuple [.i (findIx (zon1 x0).sets (qst1 x1)), .b (findOk (zon1 x0).sets (qst1 x1))]
    | 47, [x0] => .b (ordered (zon1 x0))
    | 48, [x0] => .b (apexHolds (zon1 x0))
    | 50, [x0] => .b (aliasB (lay1 x0))
    | 51, [x0] => .b (cutB (lay1 x0))
    | 52, [x0] => .b (glueB (lay1 x0))
    | 53, [x0] => .b (formB (lay1 x0))
    | 49, [x0] => .agg (layOf (zon1 x0)).d
    | 14, [x0] => .b (zoneOk (zon1 x0))
    | 13, [x0] => .tuple [.i (if zoneOk (zon1 x0) then serialOf (zon1 x0) else 0), .i (if zoneOk (zon1 x0) then 0 else 1)]
    | _, _ => .junk
@[go_sem] theorem znp176 : Zn.pure 176 = true := rfl
@[go_sem] theorem znf176 {x0 x1 : D} : Zn.pf 176 [x0, x1] = .i (lastIx (str1 x0) (int1 x1)) := rfl
@[go_sem] theorem znp169 : Zn.pure 169 = true := rfl
@[go_sem] theorem znf169 {x0 x1 : D} : Zn.pf 169 [x0, x1] = .i (lastIx (str1 x0) (int1 x1)) := rfl
@[go_sem] theorem znp153 : Zn.pure 153 = true := rfl
@[go_sem] theorem znf153 {x0 : D} : Zn.pf 153 [x0] = .b (labelOk (str1 x0)) := rfl
@[go_sem] theorem znp114 : Zn.pure 114 = true := rfl
@[go_sem] theorem znf114 {x0 : D} : Zn.pf 114 [x0] = .b (labelOk (str1 x0)) := rfl
@[go_sem] theorem znp113 : Zn.pure 113 = true := rfl
@[go_sem] theorem znf113 {x0 : D} : Zn.pf 113 [x0] = .list false ((splitF (str1 x0)).map sR) := rfl
@[go_sem] theorem znp81 : Zn.pure 81 = true := rfl
@[go_sem] theorem znf81 {x0 : D} : Zn.pf 81 [x0] = .b (nameOk (str1 x0)) := rfl
@[go_sem] theorem znp123 : Zn.pure 123 = true := rfl
@[go_sem] theorem znf123 {x0 : D} : Zn.pf 123 [x0] = .b (nameOk (str1 x0)) := rfl
@[go_sem] theorem znp90 : Zn.pure 90 = true := rfl
@[go_sem] theorem znf90 {x0 : D} : Zn.pf 90 [x0] = .b (nameOk (str1 x0)) := rfl
@[go_sem] theorem znp115 : Zn.pure 115 = true := rfl
@[go_sem] theorem znf115 {x0 : D} : Zn.pf 115 [x0] = .list false ((partsOf (str1 x0)).map sR) := rfl
@[go_sem] theorem znp171 : Zn.pure 171 = true := rfl
@[go_sem] theorem znf171 {x0 x1 : D} : Zn.pf 171 [x0, x1] = .i (Go.Lib.compareBytes (str1 x0) (str1 x1)) := rfl
@[go_sem] theorem znp155 : Zn.pure 155 = true := rfl
@[go_sem] theorem znf155 {x0 x1 : D} : Zn.pf 155 [x0, x1] = .i (Go.Lib.compareBytes (str1 x0) (str1 x1)) := rfl
@[go_sem] theorem znp122 : Zn.pure 122 = true := rfl
@[go_sem] theorem znf122 {x0 x1 : D} : Zn.pf 122 [x0, x1] = .i (nmOrd (str1 x0) (str1 x1)) := rfl
@[go_sem] theorem znp120 : Zn.pure 120 = true := rfl
@[go_sem] theorem znf120 {x0 x1 : D} : Zn.pf 120 [x0, x1] = .tuple [.i (if nameOk (str1 x0) && nameOk (str1 x1) then nmCmp (str1 x0) (str1 x1) else 0), .i (if nameOk (str1 x0) && nameOk (str1 x1) then 0 else 11)] := rfl
@[go_sem] theorem znp125 : Zn.pure 125 = true := rfl
@[go_sem] theorem znf125 {x0 x1 : D} : Zn.pf 125 [x0, x1] = .tuple [.i (if nameOk (str1 x0) && nameOk (str1 x1) then nmCmp (str1 x0) (str1 x1) else 0), .i (if nameOk (str1 x0) && nameOk (str1 x1) then 0 else 11)] := rfl
@[go_sem] theorem znp127 : Zn.pure 127 = true := rfl
@[go_sem] theorem znf127 {x0 x1 x2 : D} : Zn.pf 127 [x0, x1, x2] = .b (inR (int1 x0) (int1 x1) (int1 x2)) := rfl
@[go_sem] theorem znp172 : Zn.pure 172 = true := rfl
@[go_sem] theorem znf172 {x0 x1 x2 : D} : Zn.pf 172 [x0, x1, x2] = .b (inR (int1 x0) (int1 x1) (int1 x2)) := rfl
@[go_sem] theorem znp116 : Zn.pure 116 = true := rfl
@[go_sem] theorem znf116 {x0 x1 x2 : D} : Zn.pf 116 [x0, x1, x2] = .b (inR (int1 x0) (int1 x1) (int1 x2)) := rfl
@[go_sem] theorem znp156 : Zn.pure 156 = true := rfl
@[go_sem] theorem znf156 {x0 : D} : Zn.pf 156 [x0] = .b ((int1 x0) != (int1 x0)) := rfl
@[go_sem] theorem znp173 : Zn.pure 173 = true := rfl
@[go_sem] theorem znf173 {x0 : D} : Zn.pf 173 [x0] = .b ((str1 x0) != (str1 x0)) := rfl
@[go_sem] theorem znp126 : Zn.pure 126 = true := rfl
@[go_sem] theorem znf126 {x0 x1 : D} : Zn.pf 126 [x0, x1] = .i (cmpI (int1 x0) (int1 x1)) := rfl
@[go_sem] theorem znp159 : Zn.pure 159 = true := rfl
@[go_sem] theorem znf159 {x0 x1 : D} : Zn.pf 159 [x0, x1] = .i (cmpS (str1 x0) (str1 x1)) := rfl
@[go_sem] theorem znp124 : Zn.pure 124 = true := rfl
@[go_sem] theorem znf124 {x0 x1 : D} : Zn.pf 124 [x0, x1] = .b (hasPre (str1 x0) (str1 x1)) := rfl
@[go_sem] theorem znp91 : Zn.pure 91 = true := rfl
@[go_sem] theorem znf91 {x0 x1 : D} : Zn.pf 91 [x0, x1] = .b (hasPre (str1 x0) (str1 x1)) := rfl
@[go_sem] theorem znp128 : Zn.pure 128 = true := rfl
@[go_sem] theorem znf128 {x0 : D} : Zn.pf 128 [x0] = .b (wildB (str1 x0)) := rfl
@[go_sem] theorem znp110 : Zn.pure 110 = true := rfl
@[go_sem] theorem znf110 {x0 : D} : Zn.pf 110 [x0] = .b (wildB (str1 x0)) := rfl
@[go_sem] theorem znp157 : Zn.pure 157 = true := rfl
@[go_sem] theorem znf157 {x0 : D} : Zn.pf 157 [x0] = .b (freeB (str1 x0)) := rfl
@[go_sem] theorem znp150 : Zn.pure 150 = true := rfl
@[go_sem] theorem znf150 {x0 : D} : Zn.pf 150 [x0] = .b (freeB (str1 x0)) := rfl
@[go_sem] theorem znp119 : Zn.pure 119 = true := rfl
@[go_sem] theorem znf119 {x0 x1 : D} : Zn.pf 119 [x0, x1] = .b (less (dat1 x0) (dat1 x1)) := rfl
@[go_sem] theorem znp129 : Zn.pure 129 = true := rfl
@[go_sem] theorem znf129 {x0 x1 : D} : Zn.pf 129 [x0, x1] = .b (datOk (rule1 x0) (dat1 x1)) := rfl
@[go_sem] theorem znp118 : Zn.pure 118 = true := rfl
@[go_sem] theorem znf118 {x0 x1 : D} : Zn.pf 118 [x0, x1] = .b (rDatOk (int1 x0) (dat1 x1)) := rfl
@[go_sem] theorem znp158 : Zn.pure 158 = true := rfl
@[go_sem] theorem znf158 {x0 : D} : Zn.pf 158 [x0] = .i (orFrom (ints1 x0) 0) := rfl
@[go_sem] theorem znp130 : Zn.pure 130 = true := rfl
@[go_sem] theorem znf130 {x0 x1 : D} : Zn.pf 130 [x0, x1] = .i (datC (dat1 x0) (dat1 x1)) := rfl
@[go_sem] theorem znp93 : Zn.pure 93 = true := rfl
@[go_sem] theorem znf93 {x0 : D} : Zn.pf 93 [x0] = .b (setOk (set1 x0)) := rfl
@[go_sem] theorem znp83 : Zn.pure 83 = true := rfl
@[go_sem] theorem znf83 {x0 : D} : Zn.pf 83 [x0] = .b (setOk (set1 x0)) := rfl
@[go_sem] theorem znp117 : Zn.pure 117 = true := rfl
@[go_sem] theorem znf117 {x0 : D} : Zn.pf 117 [x0] = .b (singleB (int1 x0)) := rfl
@[go_sem] theorem znp85 : Zn.pure 85 = true := rfl
@[go_sem] theorem znf85 {x0 x1 : D} : Zn.pf 85 [x0, x1] = .i (rOrd (set1 x0) (set1 x1)) := rfl
@[go_sem] theorem znp63 : Zn.pure 63 = true := rfl
@[go_sem] theorem znf63 {x0 x1 : D} : Zn.pf 63 [x0, x1] = .b (sameB (set1 x0) (set1 x1)) := rfl
@[go_sem] theorem znp165 : Zn.pure 165 = true := rfl
@[go_sem] theorem znf165 {x0 x1 : D} : Zn.pf 165 [x0, x1] = .b (hasSuf (str1 x0) (str1 x1)) := rfl
@[go_sem] theorem znp141 : Zn.pure 141 = true := rfl
@[go_sem] theorem znf141 {x0 x1 : D} : Zn.pf 141 [x0, x1] = .b (hasSuf (str1 x0) (str1 x1)) := rfl
@[go_sem] theorem znp102 : Zn.pure 102 = true := rfl
@[go_sem] theorem znf102 {x0 x1 : D} : Zn.pf 102 [x0, x1] = .tuple [.b (underV (str1 x0) (str1 x1)), .i (if nameOk (str1 x0) && nameOk (str1 x1) then 0 else 11)] := rfl
@[go_sem] theorem znp84 : Zn.pure 84 = true := rfl
@[go_sem] theorem znf84 {x0 x1 : D} : Zn.pf 84 [x0, x1] = .b (inB (str1 x0) (str1 x1)) := rfl
@[go_sem] theorem znp82 : Zn.pure 82 = true := rfl
@[go_sem] theorem znf82 {x0 : D} : Zn.pf 82 [x0] = .b (wild1 (str1 x0)) := rfl
@[go_sem] theorem znp101 : Zn.pure 101 = true := rfl
@[go_sem] theorem znf101 {x0 x1 x2 x3 : D} : Zn.pf 101 [x0, x1, x2, x3] = .i (qC ⟨(str1 x0), (int1 x1)⟩ ⟨(str1 x2), (int1 x3)⟩) := rfl
@[go_sem] theorem znp92 : Zn.pure 92 = true := rfl
@[go_sem] theorem znf92 {x0 x1 : D} : Zn.pf 92 [x0, x1] = .i (qC (qst1 x0) (qst1 x1)) := rfl
@[go_sem] theorem znp103 : Zn.pure 103 = true := rfl
@[go_sem] theorem znf103 {x0 x1 : D} : Zn.pf 103 [x0, x1] = .b (fits (int1 x0) (bool1 x1)) := rfl
@[go_sem] theorem znp86 : Zn.pure 86 = true := rfl
@[go_sem] theorem znf86 {x0 x1 : D} : Zn.pf 86 [x0, x1] = .b (fits (int1 x0) (bool1 x1)) := rfl
@[go_sem] theorem znp104 : Zn.pure 104 = true := rfl
@[go_sem] theorem znf104 {x0 x1 : D} : Zn.pf 104 [x0, x1] = .b (sigsOk (sigs1 x0) (str1 x1)) := rfl
@[go_sem] theorem znp89 : Zn.pure 89 = true := rfl
@[go_sem] theorem znf89 {x0 x1 : D} : Zn.pf 89 [x0, x1] = .b (sigsOk (sigs1 x0) (str1 x1)) := rfl
@[go_sem] theorem znp61 : Zn.pure 61 = true := rfl
@[go_sem] theorem znf61 {x0 : D} : Zn.pf 61 [x0] = .b (qOk (qst1 x0)) := rfl
@[go_sem] theorem znp111 : Zn.pure 111 = true := rfl
@[go_sem] theorem znf111 {x0 : D} : Zn.pf 111 [x0] = .b (qOk (qst1 x0)) := rfl
@[go_sem] theorem znp20 : Zn.pure 20 = true := rfl
@[go_sem] theorem znf20 {x0 x1 : D} : Zn.pf 20 [x0, x1] = .b (sameSgd (sgd1 x0) (sgd1 x1)) := rfl
@[go_sem] theorem znp60 : Zn.pure 60 = true := rfl
@[go_sem] theorem znf60 {x0 x1 : D} : Zn.pf 60 [x0, x1] = .b (sameList (sgds1 x0) (sgds1 x1)) := rfl
@[go_sem] theorem znp18 : Zn.pure 18 = true := rfl
@[go_sem] theorem znf18 {x0 x1 : D} : Zn.pf 18 [x0, x1] = .b (sameZ (zon1 x0) (zon1 x1)) := rfl
@[go_sem] theorem znp100 : Zn.pure 100 = true := rfl
@[go_sem] theorem znf100 {x0 x1 : D} : Zn.pf 100 [x0, x1] = .i (qC (sgd1 x0).q (qst1 x1)) := rfl
@[go_sem] theorem znp99 : Zn.pure 99 = true := rfl
@[go_sem] theorem znf99 {x0 x1 x2 : D} : Zn.pf 99 [x0, x1, x2] = .tuple [.i (findIx (sgds1 x0) (qst1 x1)), .b (findOk (sgds1 x0) (qst1 x1))] := rfl
@[go_sem] theorem znp46 : Zn.pure 46 = true := rfl
@[go_sem] theorem znf46 {x0 x1 : D} : Zn.pf 46 [x0, x1] = .tuple [.i (findIx (zon1 x0).sets (qst1 x1)), .b (findOk (zon1 x0).sets (qst1 x1))] := rfl
@[go_sem] theorem znp47 : Zn.pure 47 = true := rfl
@[go_sem] theorem znf47 {x0 : D} : Zn.pf 47 [x0] = .b (ordered (zon1 x0)) := rfl
@[go_sem] theorem znp48 : Zn.pure 48 = true := rfl
@[go_sem] theorem znf48 {x0 : D} : Zn.pf 48 [x0] = .b (apexHolds (zon1 x0)) := rfl
@[go_sem] theorem znp50 : Zn.pure 50 = true := rfl
@[go_sem] theorem znf50 {x0 : D} : Zn.pf 50 [x0] = .b (aliasB (lay1 x0)) := rfl
@[go_sem] theorem znp51 : Zn.pure 51 = true := rfl
@[go_sem] theorem znf51 {x0 : D} : Zn.pf 51 [x0] = .b (cutB (lay1 x0)) := rfl
@[go_sem] theorem znp52 : Zn.pure 52 = true := rfl
@[go_sem] theorem znf52 {x0 : D} : Zn.pf 52 [x0] = .b (glueB (lay1 x0)) := rfl
@[go_sem] theorem znp53 : Zn.pure 53 = true := rfl
@[go_sem] theorem znf53 {x0 : D} : Zn.pf 53 [x0] = .b (formB (lay1 x0)) := rfl
@[go_sem] theorem znp49 : Zn.pure 49 = true := rfl
@[go_sem] theorem znf49 {x0 : D} : Zn.pf 49 [x0] = .agg (layOf (zon1 x0)).d := rfl
@[go_sem] theorem znp14 : Zn.pure 14 = true := rfl
@[go_sem] theorem znf14 {x0 : D} : Zn.pf 14 [x0] = .b (zoneOk (zon1 x0)) := rfl
@[go_sem] theorem znp13 : Zn.pure 13 = true := rfl
@[go_sem] theorem znf13 {x0 : D} : Zn.pf 13 [x0] = .tuple [.i (if zoneOk (zon1 x0) then serialOf (zon1 x0) else 0), .i (if zoneOk (zon1 x0) then 0 else 1)] := rfl
def ZnB : Con := { Zn with bs := true }
@[go_sem] theorem znB_p {k : FuncId} : ZnB.pure k = Zn.pure k := rfl
@[go_sem] theorem znB_f {k : FuncId} {xs : List D} : ZnB.pf k xs = Zn.pf k xs := rfl
@[go_sem] theorem znB_b : ZnB.bs = true := rfl
@[go_sem] theorem zn_b : Zn.bs = false := rfl
@[go_sem] theorem zn_c : Zn.cf = false := rfl
@[go_sem] theorem znB_c : ZnB.cf = false := rfl
def ZnF : Con := { Zn with cf := true }
@[go_sem] theorem znF_p {k : FuncId} : ZnF.pure k = Zn.pure k := rfl
@[go_sem] theorem znF_f {k : FuncId} {xs : List D} : ZnF.pf k xs = Zn.pf k xs := rfl
@[go_sem] theorem znF_b : ZnF.bs = false := rfl
@[go_sem] theorem znF_c : ZnF.cf = true := rfl
end Go.Proofs.YtfggmgafjabbjaaGreatDoor
namespace Go.Proofs.YtfggmgafjabbjaaGreatDoor
open Go.DL Go.Str Go.Rec Go.Cmp Go.Zon
set_option maxRecDepth 10000
set_option linter.unusedSimpArgs false
set_option linter.unusedVariables false
theorem bo165 : hasBody Tryz.prog 165 = true := by kernel_rfl
theorem hassuf0_ct (s : Str) (p : Str) (hs : s.length ≤ 1000000) : PureCt Tryz.prog 165 [.v (.string (bs s)), .v (.string (bs p))] (.b (hasSuf s p)) := by
  refine pure_of_dw Tryz.func165 rfl bo165 (by simp [go_sem, D.nr, nrs, nrr]) (by simp [Tryz.f165]) ?_
  unfold Tryz.f165
  simp only [init_eq]
  have ff := True.intro
  have e1 : ((s.length : Int) - p.length).toNat = s.length - p.length := by omega
  have ff := And.intro @e1 ff
  refine stp Zn ?_
  refine stp Zn ?_
  refine dw_ret ?_
  exact fin 0 (hr := by (try simp only [go_sem, ff]); all_goals (simp [hasSuf]))
theorem bo141 : hasBody Tryz.prog 141 = true := by kernel_rfl
theorem hassuf_ct (s : Str) (p : Str) (hs : s.length ≤ 1000000) : PureCt Tryz.prog 141 [.v (.string (bs s)), .v (.string (bs p))] (.b (hasSuf s p)) := by
  refine pure_of_dw Tryz.func141 rfl bo141 (by simp [go_sem, D.nr, nrs, nrr]) (by simp [Tryz.f141]) ?_
  unfold Tryz.f141
  simp only [init_eq]
  have ff := True.intro
  refine stp Zn ?_
  refine stp Zn ?_ (hok := by (try simp only [go_sem, ff]); all_goals (exact hassuf0_ct _ _ hs))
  refine dw_ret ?_
  exact fin 0 (hr := by (try simp only [go_sem, ff]); all_goals (rfl))
theorem bo102 : hasBody Tryz.prog 102 = true := by kernel_rfl
theorem nunder_ct (s : Str) (z : Str) : PureCt Tryz.prog 102 [.v (.string (bs s)), .v (.string (bs z))] (.tuple [.b (underV s z), .i (if nameOk s && nameOk z then 0 else 11)]) := by
  refine pure_of_dw Tryz.func102 rfl bo102 (by simp [go_sem, D.nr, nrs, nrr]) (by simp [Tryz.f102]) ?_
  unfold Tryz.f102
  simp only [init_eq]
  have ff := True.intro
  refine stp Zn ?_
  refine dw_seq ?_
  refine stp Zn ?_ (hok := by (try simp only [go_sem, ff]); all_goals (first | done | ((repeat' (with_reducible apply And.intro)) <;> first | exact tvalid_ct _ | (intros; exact tvalid_ct _) | skip)))
  refine cd (fun c1 => ?_) (fun c1 => ?_)
  · skip
    refine stp Zn ?_
    refine dw_ret ?_
    exact fin 1 (hr := by (try simp only [go_sem, ff]); all_goals (first | (simp_all [underV, under]; done) | (simp; simp only [underV, under]; grind)))
  · skip
    refine dw_skip ?_
    show DW _ _ _ _ _
    refine dw_seq ?_
    refine stp Zn ?_
    refine cd (fun c2 => ?_) (fun c2 => ?_)
    · skip
      refine stp Zn ?_
      refine dw_ret ?_
      exact fin 1 (hr := by (try simp only [go_sem, ff]); all_goals (first | (simp_all [underV, under]; done) | (simp; simp only [underV, under]; grind)))
    · skip
      refine dw_skip ?_
      show DW _ _ _ _ _
      have hn := nameOk_len c1.1
      have hm := nameOk_len c1.2
      have e1 : ((s.length : Int) - z.length - 1).toNat = s.length - z.length - 1 := by omega
      have ff := And.intro @e1 ff
      refine stp Zn ?_ (hok := by (try simp only [go_sem, ff]); all_goals (first | done | ((repeat' (with_reducible apply And.intro)) <;> first | exact hassuf_ct _ _ (by omega) | (intros; exact hassuf_ct _ _ (by omega)) | (intro h; simp at h; omega) | skip)))
      refine dw_ret ?_
      exact fin 1 (hr := by (try simp only [go_sem, ff]); all_goals (first | (simp_all [underV, under]; done) | (simp; simp only [underV, under]; grind)))
theorem bo82 : hasBody Tryz.prog 82 = true := by kernel_rfl
theorem rwild1_ct (s : Str) (hs : s.length ≤ 1000) : PureCt Tryz.prog 82 [.v (.string (bs s))] (.b (wild1 s)) := by
  refine pure_of_dw Tryz.func82 rfl bo82 (by simp [go_sem, D.nr, nrs, nrr]) (by simp [Tryz.f82]) ?_
  unfold Tryz.f82
  simp only [init_eq]
  have ff := True.intro
  refine stp Zn ?_
  refine stp Zn ?_ (hok := by (try simp only [go_sem, ff]); all_goals (first | exact ok0 | (apply rparts1_ct <;> omega) | (intros; apply rparts1_ct <;> omega)))
  rcases hps : partsOf s with _ | ⟨p0, ps⟩
  · skip
    have ff := And.intro @hps ff
    refine stp Zn ?_
    refine dw_ret ?_
    exact fin 0 (hr := by (try simp only [go_sem, ff]); all_goals (simp [wild1, hps]))
  · skip
    have ff := And.intro @hps ff
    refine stp Zn ?_
    refine dw_ret ?_
    exact fin 0 (hr := by (try simp only [go_sem, ff]); all_goals (simp [wild1, hps]))
theorem bo101 : hasBody Tryz.prog 101 = true := by kernel_rfl
theorem zcmppl_ct (a : Str) (s : Int) (b : Str) (t : Int) : PureCt Tryz.prog 101 [.v (.string (bs a)), .i s, .v (.string (bs b)), .i t] (.i (qC ⟨a, s⟩ ⟨b, t⟩)) := by
  refine pure_of_dw Tryz.func101 rfl bo101 (by simp [go_sem, D.nr, nrs, nrr]) (by simp [Tryz.f101]) ?_
  unfold Tryz.f101
  simp only [init_eq]
  have ff := True.intro
  refine stp Zn ?_
  refine dw_seq ?_
  refine stp Zn ?_
  refine cd (fun c1 => ?_) (fun c1 => ?_)
  · skip
    refine stp Zn ?_ (hok := by (try simp only [go_sem, ff]); all_goals (exact ncompare_ct _ _))
    refine stp Zn ?_
    refine dw_ret ?_
    exact fin 0 (hr := by (try simp only [go_sem, ff]); all_goals (simp [qC, *]))
  · skip
    refine dw_skip ?_
    show DW _ _ _ _ _
    refine stp Zn ?_ (hok := by (try simp only [go_sem, ff]); all_goals (first | exact ok0 | (apply cmpint_ct <;> omega) | (intros; apply cmpint_ct <;> omega)))
    refine dw_ret ?_
    exact fin 0 (hr := by (try simp only [go_sem, ff]); all_goals (simp [qC, *]))
theorem bo92 : hasBody Tryz.prog 92 = true := by kernel_rfl
theorem dcmppl_ct (a : Qst) (b : Qst) : PureCt Tryz.prog 92 [.agg a.d, .agg b.d] (.i (qC a b)) := by
  refine pure_of_dw Tryz.func92 rfl bo92 (by simp [go_sem, D.nr, nrs, nrr]) (by simp [Tryz.f92]) ?_
  unfold Tryz.f92
  simp only [init_eq]
  have ff := True.intro
  refine stp Zn ?_
  refine dw_seq ?_
  refine stp Zn ?_
  refine cd (fun c1 => ?_) (fun c1 => ?_)
  · skip
    refine stp Zn ?_ (hok := by (try simp only [go_sem, ff]); all_goals (exact ncompare_ct _ _))
    refine stp Zn ?_
    refine dw_ret ?_
    exact fin 0 (hr := by (try simp only [go_sem, ff]); all_goals (simp [qC, *]))
  · skip
    refine dw_skip ?_
    show DW _ _ _ _ _
    refine stp Zn ?_ (hok := by (try simp only [go_sem, ff]); all_goals (first | exact ok0 | (apply cmpint_ct <;> omega) | (intros; apply cmpint_ct <;> omega)))
    refine dw_ret ?_
    exact fin 0 (hr := by (try simp only [go_sem, ff]); all_goals (simp [qC, *]))
theorem bo103 : hasBody Tryz.prog 103 = true := by kernel_rfl
theorem fitsapex_ct (t : Int) (a : Bool) : PureCt Tryz.prog 103 [.i t, .b a] (.b (fits t a)) := by
  refine pure_of_dw Tryz.func103 rfl bo103 (by simp [go_sem, D.nr, nrs, nrr]) (by simp [Tryz.f103]) ?_
  unfold Tryz.f103
  simp only [init_eq]
  have ff := True.intro
  refine stp Zn ?_
  refine dw_seq ?_
  refine stp Zn ?_
  refine dw_block ?_
  refine dw_seq ?_
  refine stp Zn ?_
  refine cd (fun c1 => ?_) (fun c1 => ?_)
  · skip
    refine dw_skip ?_
    show DW _ _ _ _ _
    refine cd (fun c2 => ?_) (fun c2 => ?_)
    · skip
      refine stp Zn ?_
      refine dw_ret ?_
      exact fin 0 (hr := by (try simp only [go_sem, ff]); all_goals (simp_all [fits]))
    · skip
      refine dw_seq ?_
      refine stp Zn ?_
      refine cd (fun c3 => ?_) (fun c3 => ?_)
      · skip
        refine dw_skip ?_
        show DW _ _ _ _ _
        refine cd (fun c4 => ?_) (fun c4 => ?_)
        · skip
          refine stp Zn ?_
          refine dw_ret ?_
          exact fin 0 (hr := by (try simp only [go_sem, ff]); all_goals (simp_all [fits]))
        · skip
          refine dw_skip ?_
          show DW _ _ _ _ _
          refine stp Zn ?_
          refine dw_ret ?_
          exact fin 0 (hr := by (try simp only [go_sem, ff]); all_goals (simp_all [fits]))
      · skip
        refine rgn Zn ?_
        show DW _ _ _ _ _
        refine cd (fun c5 => ?_) (fun c5 => ?_)
        · skip
          refine stp Zn ?_
          refine dw_ret ?_
          exact fin 0 (hr := by (try simp only [go_sem, ff]); all_goals (simp_all [fits]))
        · skip
          refine dw_skip ?_
          show DW _ _ _ _ _
          refine stp Zn ?_
          refine dw_ret ?_
          exact fin 0 (hr := by (try simp only [go_sem, ff]); all_goals (simp_all [fits]))
  · skip
    refine rgn Zn ?_
    show DW _ _ _ _ _
    refine cd (fun c6 => ?_) (fun c6 => ?_)
    · skip
      refine stp Zn ?_
      refine dw_ret ?_
      exact fin 0 (hr := by (try simp only [go_sem, ff]); all_goals (simp_all [fits]))
    · skip
      refine dw_seq ?_
      refine stp Zn ?_
      refine cd (fun c7 => ?_) (fun c7 => ?_)
      · skip
        refine dw_skip ?_
        show DW _ _ _ _ _
        refine cd (fun c8 => ?_) (fun c8 => ?_)
        · skip
          refine stp Zn ?_
          refine dw_ret ?_
          exact fin 0 (hr := by (try simp only [go_sem, ff]); all_goals (simp_all [fits]))
        · skip
          refine dw_skip ?_
          show DW _ _ _ _ _
          refine stp Zn ?_
          refine dw_ret ?_
          exact fin 0 (hr := by (try simp only [go_sem, ff]); all_goals (simp_all [fits]))
      · skip
        refine rgn Zn ?_
        show DW _ _ _ _ _
        refine cd (fun c9 => ?_) (fun c9 => ?_)
        · skip
          refine stp Zn ?_
          refine dw_ret ?_
          exact fin 0 (hr := by (try simp only [go_sem, ff]); all_goals (simp_all [fits]))
        · skip
          refine dw_skip ?_
          show DW _ _ _ _ _
          refine stp Zn ?_
          refine dw_ret ?_
          exact fin 0 (hr := by (try simp only [go_sem, ff]); all_goals (simp_all [fits]))
theorem bo86 : hasBody Tryz.prog 86 = true := by kernel_rfl
theorem rplaced_ct (t : Int) (a : Bool) : PureCt Tryz.prog 86 [.i t, .b a] (.b (fits t a)) := by
  refine pure_of_dw Tryz.func86 rfl bo86 (by simp [go_sem, D.nr, nrs, nrr]) (by simp [Tryz.f86]) ?_
  unfold Tryz.f86
  simp only [init_eq]
  have ff := True.intro
  refine stp Zn ?_
  refine dw_seq ?_
  refine stp Zn ?_
  refine cd (fun c1 => ?_) (fun c1 => ?_)
  · skip
    refine stp Zn ?_
    refine dw_ret ?_
    exact fin 0 (hr := by (try simp only [go_sem, ff]); all_goals (simp; simp only [fits]; grind))
  · skip
    refine dw_skip ?_
    show DW _ _ _ _ _
    refine stp Zn ?_
    refine dw_ret ?_
    exact fin 0 (hr := by (try simp only [go_sem, ff]); all_goals (simp; simp only [fits]; grind))
theorem bo61 : hasBody Tryz.prog 61 = true := by kernel_rfl
theorem zquest_ct (q : Qst) : PureCt Tryz.prog 61 [.agg q.d] (.b (qOk q)) := by
  refine pure_of_dw Tryz.func61 rfl bo61 (by simp [go_sem, D.nr, nrs, nrr]) (by simp [Tryz.f61]) ?_
  unfold Tryz.f61
  simp only [init_eq]
  have ff := True.intro
  refine stp Zn ?_
  refine stp Zn ?_ (hok := by (try simp only [go_sem, ff]); all_goals (first | done | ((repeat' (with_reducible apply And.intro)) <;> first | exact nvalid_ct _ | (intros; exact nvalid_ct _) | skip)))
  refine dw_ret ?_
  exact fin 0 (hr := by (try simp only [go_sem, ff]); all_goals (simp [qOk, inR, Bool.and_assoc]))
end Go.Proofs.YtfggmgafjabbjaaGreatDoor
namespace Go.Proofs.YtfggmgafjabbjaaGreatDoor
open Go.DL Go.Str Go.Rec Go.Cmp Go.Zon
set_option maxRecDepth 10000
set_option linter.unusedSimpArgs false
set_option linter.unusedVariables false
theorem bo84 : hasBody Tryz.prog 84 = true := by kernel_rfl
theorem rin1_ct (s : Str) (z : Str) (hs : s.length ≤ 1000) (hz : z.length ≤ 1000) : PureCt Tryz.prog 84 [.v (.string (bs s)), .v (.string (bs z))] (.b (inB s z)) := by
  refine pure_of_dw Tryz.func84 rfl bo84 (by simp [go_sem, D.nr, nrs, nrr]) (by simp [Tryz.f84]) ?_
  unfold Tryz.f84
  simp only [init_eq]
  have ff := True.intro
  refine stp Zn ?_
  refine stp Zn ?_ (hok := by (try simp only [go_sem, ff]); all_goals (exact rparts1_ct _ hs))
  refine stp Zn ?_ (hok := by (try simp only [go_sem, ff]); all_goals (exact rparts1_ct _ hz))
  refine dw_seq ?_
  refine stp Zn ?_
  refine cd (fun c1 => ?_) (fun c1 => ?_)
  · skip
    refine stp Zn ?_
    refine dw_ret ?_
    exact fin 0 (hr := by (try simp only [go_sem, ff]); all_goals (simp [inB]; omega))
  · skip
    have hp := partsOf_le s
    have hq := partsOf_le z
    refine dw_skip ?_
    show DW _ _ _ _ _
    refine dw_seq ?_
    refine stp Zn ?_
    refine dw_block ?_
    refine lp (α := (Nat) × Nat) [5, 6] (fun ⟨k, nx⟩ => (k ≤ (partsOf z).length) ∧ (allN (partsOf z).length (inAt (partsOf s) (partsOf z)) 0 = allN (partsOf z).length (inAt (partsOf s) (partsOf z)) k) ∧ True) (fun ⟨k, nx⟩ => (partsOf z).length - k) (fun ⟨k, nx⟩ => [(7, .i k)]) (fun ⟨k, nx⟩ => []) (fun ⟨k, nx⟩ => nx) (0, _) (hA := ⟨iv, rfl, trivial⟩) (round := ?_)
    rintro ⟨k, nx⟩ ⟨hk, hv, -⟩
    show DW _ _ _ _ { n := _, t := tab _, h := _, nx := _, e := _ }
    simp only [List.cons_append, List.nil_append]
    refine dw_seq ?_
    refine stp Zn ?_
    refine cd (fun c2 => ?_) (fun c2 => ?_) (hp := rfl)
    · skip
      have hk2 : k < (partsOf z).length := by simpa using c2
      have hk3 : (partsOf s).length - (partsOf z).length + k < (partsOf s).length := by omega
      have e1 : (((partsOf s).length : Int) - (partsOf z).length + k).toNat = (partsOf s).length - (partsOf z).length + k := by omega
      have ff := And.intro @e1 (And.intro (getD_sR hk2) (And.intro (getD_sR hk3) ff))
      refine dw_skip ?_
      show DW _ _ _ _ _
      refine dw_seq ?_
      refine dw_block ?_
      refine stp Zn ?_
      refine cd (fun c3 => ?_) (fun c3 => ?_)
      · skip
        refine stp Zn ?_
        refine dw_ret ?_
        exact fin 0 (hr := by (try simp only [go_sem, ff]); all_goals (have hF : (inAt (partsOf s) (partsOf z)) k = false := (by simp only [inAt]; grind); simp only [inB]; rw [hv, allN_no hk2 hF]; try simp))
      · skip
        refine dw_skip ?_
        show DW _ _ _ _ _
        refine rgn Zn ?_
        show ∃ _, _
        have h8 : (inAt (partsOf s) (partsOf z)) k = true := by simp only [inAt]; grind
        exact rnd (k + 1, _) (h1 := ⟨iv, (by first | (rw [hv, allN_yes hk2 h8]) | (dsimp only; rw [hv, allN_yes hk2 h8])), trivial⟩)
    · skip
      refine dw_exit ?_
      show DW _ _ _ _ _
      refine stp Zn ?_
      refine dw_ret ?_
      exact fin 0 (hr := by (try simp only [go_sem, ff]); all_goals (simp only [inB]; rw [hv, allN_end (by omega)]; simp; omega))
theorem bo104 : hasBody Tryz.prog 104 = true := by kernel_rfl
theorem zinform_ct (l : List RSig) (a : Str) : PureCt Tryz.prog 104 [.list false (l.map RSig.d), .v (.string (bs a))] (.b (sigsOk l a)) := by
  refine pure_of_dw Tryz.func104 rfl bo104 (by simp [go_sem, D.nr, nrs, nrr]) (by simp [Tryz.f104]) ?_
  unfold Tryz.f104
  simp only [init_eq]
  have ff := True.intro
  refine stp Zn ?_
  refine dw_seq ?_
  refine stp Zn ?_
  refine cd (fun c1 => ?_) (fun c1 => ?_)
  · skip
    refine stp Zn ?_
    refine dw_ret ?_
    exact fin 0 (hr := by (try simp only [go_sem, ff]); all_goals (simp [sigsOk]; omega))
  · skip
    refine dw_skip ?_
    show DW _ _ _ _ _
    refine dw_seq ?_
    refine stp Zn ?_
    refine dw_block ?_
    refine lp (α := (Nat) × Nat) [0, 1, 10, 11] (fun ⟨k, nx⟩ => (k ≤ l.length) ∧ (allN l.length (sigAt a l) 0 = allN l.length (sigAt a l) k) ∧ True) (fun ⟨k, nx⟩ => l.length - k) (fun ⟨k, nx⟩ => [(12, .i k)]) (fun ⟨k, nx⟩ => []) (fun ⟨k, nx⟩ => nx) (0, _) (hA := ⟨iv, rfl, trivial⟩) (round := ?_)
    rintro ⟨k, nx⟩ ⟨hk, hv, -⟩
    show DW _ _ _ _ { n := _, t := tab _, h := _, nx := _, e := _ }
    simp only [List.cons_append, List.nil_append]
    refine stp Zn ?_
    refine dw_seq ?_
    refine cd (fun c2 => ?_) (fun c2 => ?_) (hp := rfl)
    · skip
      have hk2 : k < l.length := by simpa using c2
      have h0 : 0 < l.length := by omega
      have hk1 : k - 1 < l.length := by omega
      have e1 : ((k:Int) - 1).toNat = k - 1 := by omega
      have ff := And.intro (getD_sig hk2) (And.intro (getD_sig h0) (And.intro (getD_sig hk1) (And.intro @e1 ff)))
      refine dw_skip ?_
      show DW _ _ _ _ _
      refine dw_seq ?_
      refine dw_block ?_
      refine stp Zn ?_
      refine dw_seq ?_
      refine stp Zn ?_
      refine cd (fun c3 => ?_) (fun c3 => ?_)
      · skip
        refine stp Zn ?_
        refine dw_ret ?_
        exact fin 0 (hr := by (try simp only [go_sem, ff]); all_goals (have hF : (sigAt a l) k = false := (by simp only [sigAt, inR]; grind); simp only [sigsOk]; rw [hv, allN_no hk2 hF]; try simp))
      · skip
        refine dw_skip ?_
        show DW _ _ _ _ _
        refine dw_seq ?_
        refine stp Zn ?_
        refine cd (fun c4 => ?_) (fun c4 => ?_)
        · skip
          refine stp Zn ?_
          refine dw_ret ?_
          exact fin 0 (hr := by (try simp only [go_sem, ff]); all_goals (have hF : (sigAt a l) k = false := (by simp only [sigAt, inR]; grind); simp only [sigsOk]; rw [hv, allN_no hk2 hF]; try simp))
        · skip
          refine dw_skip ?_
          show DW _ _ _ _ _
          refine stp Zn ?_
          refine cd (fun c5 => ?_) (fun c5 => ?_)
          · skip
            refine stp Zn ?_
            refine dw_ret ?_
            exact fin 0 (hr := by (try simp only [go_sem, ff]); all_goals (have hF : (sigAt a l) k = false := (by simp only [sigAt, inR]; grind); simp only [sigsOk]; rw [hv, allN_no hk2 hF]; try simp))
          · skip
            refine dw_skip ?_
            show DW _ _ _ _ _
            refine rgn Zn ?_
            show ∃ _, _
            have h8 : (sigAt a l) k = true := by simp only [sigAt, inR]; grind
            exact rnd (k + 1, _) (h1 := ⟨iv, (by first | (rw [hv, allN_yes hk2 h8]) | (dsimp only; rw [hv, allN_yes hk2 h8])), trivial⟩)
    · skip
      refine dw_exit ?_
      show DW _ _ _ _ _
      refine stp Zn ?_
      refine dw_ret ?_
      exact fin 0 (hr := by (try simp only [go_sem, ff]); all_goals (simp only [sigsOk]; rw [hv, allN_end (by omega)]; simp; omega))
theorem bo89 : hasBody Tryz.prog 89 = true := by kernel_rfl
theorem rsigs_ct (l : List RSig) (a : Str) : PureCt Tryz.prog 89 [.list false (l.map RSig.d), .v (.string (bs a))] (.b (sigsOk l a)) := by
  refine pure_of_dw Tryz.func89 rfl bo89 (by simp [go_sem, D.nr, nrs, nrr]) (by simp [Tryz.f89]) ?_
  unfold Tryz.f89
  simp only [init_eq]
  have ff := True.intro
  refine stp Zn ?_
  refine dw_seq ?_
  refine stp Zn ?_
  refine cd (fun c1 => ?_) (fun c1 => ?_)
  · skip
    refine stp Zn ?_
    refine dw_ret ?_
    exact fin 0 (hr := by (try simp only [go_sem, ff]); all_goals (simp [sigsOk]; omega))
  · skip
    refine dw_skip ?_
    show DW _ _ _ _ _
    refine dw_seq ?_
    refine stp Zn ?_
    refine dw_block ?_
    refine lp (α := (Nat) × Nat) [0, 1] (fun ⟨k, nx⟩ => (k ≤ l.length) ∧ (allN l.length (sigAt a l) 0 = allN l.length (sigAt a l) k) ∧ True) (fun ⟨k, nx⟩ => l.length - k) (fun ⟨k, nx⟩ => [(5, .i k)]) (fun ⟨k, nx⟩ => []) (fun ⟨k, nx⟩ => nx) (0, _) (hA := ⟨iv, rfl, trivial⟩) (round := ?_)
    rintro ⟨k, nx⟩ ⟨hk, hv, -⟩
    show DW _ _ _ _ { n := _, t := tab _, h := _, nx := _, e := _ }
    simp only [List.cons_append, List.nil_append]
    refine dw_seq ?_
    refine stp Zn ?_
    refine cd (fun c2 => ?_) (fun c2 => ?_) (hp := rfl)
    · skip
      have hk2 : k < l.length := by simpa using c2
      have h0 : 0 < l.length := by omega
      have hk1 : k - 1 < l.length := by omega
      have e1 : ((k:Int) - 1).toNat = k - 1 := by omega
      have ff := And.intro (getD_sig hk2) (And.intro (getD_sig h0) (And.intro (getD_sig hk1) (And.intro @e1 ff)))
      refine dw_skip ?_
      show DW _ _ _ _ _
      refine dw_seq ?_
      refine dw_block ?_
      refine stp Zn ?_
      refine dw_seq ?_
      refine stp Zn ?_
      refine cd (fun c3 => ?_) (fun c3 => ?_)
      · skip
        refine stp Zn ?_
        refine dw_ret ?_
        exact fin 0 (hr := by (try simp only [go_sem, ff]); all_goals (have hF : (sigAt a l) k = false := (by simp only [sigAt, inR]; grind); simp only [sigsOk]; rw [hv, allN_no hk2 hF]; try simp))
      · skip
        refine dw_skip ?_
        show DW _ _ _ _ _
        refine stp Zn ?_
        refine cd (fun c4 => ?_) (fun c4 => ?_)
        · skip
          refine stp Zn ?_
          refine dw_ret ?_
          exact fin 0 (hr := by (try simp only [go_sem, ff]); all_goals (have hF : (sigAt a l) k = false := (by simp only [sigAt, inR]; grind); simp only [sigsOk]; rw [hv, allN_no hk2 hF]; try simp))
        · skip
          refine dw_skip ?_
          show DW _ _ _ _ _
          refine rgn Zn ?_
          show ∃ _, _
          have h8 : (sigAt a l) k = true := by simp only [sigAt, inR]; grind
          exact rnd (k + 1, _) (h1 := ⟨iv, (by first | (rw [hv, allN_yes hk2 h8]) | (dsimp only; rw [hv, allN_yes hk2 h8])), trivial⟩)
    · skip
      refine dw_exit ?_
      show DW _ _ _ _ _
      refine stp Zn ?_
      refine dw_ret ?_
      exact fin 0 (hr := by (try simp only [go_sem, ff]); all_goals (simp only [sigsOk]; rw [hv, allN_end (by omega)]; simp; omega))

end Go.Proofs.YtfggmgafjabbjaaGreatDoor
namespace Go.Proofs.YtfggmgafjabbjaaGreatDoor
open Go.DL Go.Str Go.Rec Go.Cmp Go.Zon
set_option maxRecDepth 10000
set_option linter.unusedSimpArgs false
set_option linter.unusedVariables false
theorem find_step {l : List Sgd} {q : Qst} {i j : Nat} (hv : findIx l q = bsIx (fun k => qC l[k]!.q q) i j) (h : i < j) : (qC l[(i + j) / 2]!.q q < 0 → findIx l q = bsIx (fun k => qC l[k]!.q q) ((i + j) / 2 + 1) j) ∧ (¬ qC l[(i + j) / 2]!.q q < 0 → findIx l q = bsIx (fun k => qC l[k]!.q q) i ((i + j) / 2)) := by
  rw [bsIx_eq, if_pos h] at hv
  exact ⟨fun h2 => by rw [if_pos h2] at hv; exact hv, fun h2 => by rw [if_neg h2] at hv; exact hv⟩
theorem bo100 : hasBody Tryz.prog 100 = true := by kernel_rfl
theorem zfind1_ct (s : Sgd) (q : Qst) : PureCt Tryz.prog 100 [.agg s.d, .agg q.d] (.i (qC s.q q)) := by
  refine pure_of_dw Tryz.func100 rfl bo100 (by simp [go_sem, D.nr, nrs, nrr]) (by simp [Tryz.f100]) ?_
  unfold Tryz.f100
  simp only [init_eq]
  have ff := True.intro
  refine stp Zn ?_
  refine stp Zn ?_ (hok := by (try simp only [go_sem, ff]); all_goals (exact zcmppl_ct _ _ _ _))
  refine dw_ret ?_
  exact fin 0 (hr := by (try simp only [go_sem, ff]); all_goals (rfl))
theorem bo99 : hasBody Tryz.prog 99 = true := by kernel_rfl
theorem zbsf_ct (l : List Sgd) (q : Qst) (hl : l.length ≤ 1000000) : PureCt Tryz.prog 99 [.list false (l.map Sgd.d), .agg q.d, .fn (.func 100) [] []] (.tuple [.i (findIx l q), .b (findOk l q)]) := by
  refine pure_of_dw Tryz.func99 rfl bo99 (by simp [go_sem, D.nr, nrs, nrr]) (by simp [Tryz.f99]) ?_
  unfold Tryz.f99
  simp only [init_eq]
  have ff := True.intro
  refine stp Zn ?_
  refine stp Zn ?_
  refine stp Zn ?_
  refine dw_seq ?_
  refine dw_block ?_
  refine lp (α := (Nat) × (Nat) × Nat) [0, 2, 4, 8] (fun ⟨i, j, nx⟩ => (i ≤ j) ∧ (j ≤ l.length) ∧ (0 < nx) ∧ (findIx l q = bsIx (fun k => qC l[k]!.q q) i j) ∧ True) (fun ⟨i, j, nx⟩ => j - i) (fun ⟨i, j, nx⟩ => [(9, .i i), (10, .i j)]) (fun ⟨i, j, nx⟩ => [(0, ⟨43, [q.d]⟩)]) (fun ⟨i, j, nx⟩ => nx) (0, l.length, _) (hA := ⟨iv, iv, iv, rfl, trivial⟩) (round := ?_)
  rintro ⟨i, j, nx⟩ ⟨hij, hj, hx, hv, -⟩
  show DW _ _ _ _ { n := _, t := tab _, h := _, nx := _, e := _ }
  simp only [List.cons_append, List.nil_append]
  have ff := And.intro @hx ff
  refine dw_seq ?_
  refine stp Zn ?_
  refine cd (fun c1 => ?_) (fun c1 => ?_) (hp := rfl)
  · skip
    have hk2 : i < j := by simpa using c1
    have hm : (i + j) / 2 < l.length := by omega
    have ff := And.intro (mid_eq (i := i) (j := j) (by omega)) (And.intro (getD_sgd hm) ff)
    refine dw_skip ?_
    show DW _ _ _ _ _
    refine dw_block ?_
    refine stp Zn ?_
    refine stp Zn ?_ (hok := by (try simp only [go_sem, ff]); all_goals (first | done | ((repeat' (with_reducible apply And.intro)) <;> first | exact zfind1_ct l[(i + j) / 2]! q | (intros; exact zfind1_ct l[(i + j) / 2]! q) | omega)))
    refine cd (fun c2 => ?_) (fun c2 => ?_)
    · skip
      refine rgn Zn ?_
      show ∃ _, _
      exact rnd ((i + j) / 2 + 1, j, _) (h1 := ⟨iv, iv, iv, (by first | (exact (find_step hv hk2).1 c2) | (dsimp only; exact (find_step hv hk2).1 c2)), trivial⟩)
    · skip
      refine rgn Zn ?_
      show ∃ _, _
      exact rnd (i, (i + j) / 2, _) (h1 := ⟨iv, iv, iv, (by (try dsimp only); exact (find_step hv hk2).2 (by omega)), trivial⟩)
  · skip
    refine dw_exit ?_
    show DW _ _ _ _ _
    have hij2 : i = j := by have h9 : ¬ i < j := (by simpa using c1); omega
    have hv2 : findIx l q = i := by rw [hv, bsIx_eq, if_neg (by omega)]
    by_cases hk4 : i < l.length
    · skip
      have ff := And.intro (getD_sgd hk4) ff
      refine stp Zn ?_ (hok := by (try simp only [go_sem, ff]); all_goals (first | done | ((repeat' (with_reducible apply And.intro)) <;> first | exact zfind1_ct l[i]! q | (intros; exact zfind1_ct l[i]! q) | omega | (intro h; have h := of_decide_eq_true h; omega))))
      refine dw_ret ?_
      exact fin 1 (hr := by (try simp only [go_sem, ff]); all_goals (simp only [findOk]; rw [hv2]; simp [hk4]))
    · skip
      have ff := And.intro (getD_off (f := Sgd.d) (Nat.le_of_not_lt hk4)) ff
      refine stp Zn ?_ (hok := by (try simp only [go_sem, ff]); all_goals (first | done | ((repeat' (with_reducible apply And.intro)) <;> first | exact zfind1_ct l[i]! q | (intros; exact zfind1_ct l[i]! q) | omega | (intro h; have h := of_decide_eq_true h; omega))))
      refine dw_ret ?_
      exact fin 1 (hr := by (try simp only [go_sem, ff]); all_goals (simp only [findOk]; rw [hv2]; simp [hk4]))
theorem bo46 : hasBody Tryz.prog 46 = true := by kernel_rfl
theorem zfind_ct (z : Zon) (q : Qst) (hl : z.sets.length ≤ 1000000) : PureCt Tryz.prog 46 [.agg z.d, .agg q.d] (.tuple [.i (findIx z.sets q), .b (findOk z.sets q)]) := by
  refine pure_of_dw Tryz.func46 rfl bo46 (by simp [go_sem, D.nr, nrs, nrr]) (by simp [Tryz.f46]) ?_
  unfold Tryz.f46
  simp only [init_eq]
  have ff := True.intro
  refine stp Zn ?_
  refine stp Zn ?_ (hok := by (try simp only [go_sem, ff]); all_goals (first | done | ((repeat' (with_reducible apply And.intro)) <;> first | exact zbsf_ct _ _ hl | (intros; exact zbsf_ct _ _ hl) | skip)))
  refine dw_ret ?_
  exact fin 1 (hr := by (try simp only [go_sem, ff]); all_goals (rfl))
theorem bo47 : hasBody Tryz.prog 47 = true := by kernel_rfl
theorem zordered_ct (z : Zon) : PureCt Tryz.prog 47 [.agg z.d] (.b (ordered z)) := by
  refine pure_of_dw Tryz.func47 rfl bo47 (by simp [go_sem, D.nr, nrs, nrr]) (by simp [Tryz.f47]) ?_
  unfold Tryz.f47
  simp only [init_eq]
  have ff := True.intro
  refine stp Zn ?_
  refine dw_seq ?_
  refine stp Zn ?_ (hok := by (try simp only [go_sem, ff]); all_goals (first | done | ((repeat' (with_reducible apply And.intro)) <;> first | exact nvalid_ct _ | (intros; exact nvalid_ct _) | exact haspre_ct _ _ | (intros; exact haspre_ct _ _) | skip)))
  refine cd (fun c1 => ?_) (fun c1 => ?_)
  · skip
    refine stp Zn ?_
    refine dw_ret ?_
    exact fin 0 (hr := by (try simp only [go_sem, ff]); all_goals (simp only [ordered]; rw [wild_pre] at *; grind))
  · skip
    refine dw_skip ?_
    show DW _ _ _ _ _
    refine dw_seq ?_
    refine stp Zn ?_
    refine dw_block ?_
    refine lp (α := (Nat) × Nat) [1, 28, 29] (fun ⟨k, nx⟩ => (k ≤ z.sets.length) ∧ (allN z.sets.length (ordAt z.apex z.sets) 0 = allN z.sets.length (ordAt z.apex z.sets) k) ∧ (0 < nx) ∧ True) (fun ⟨k, nx⟩ => z.sets.length - k) (fun ⟨k, nx⟩ => [(30, .i k)]) (fun ⟨k, nx⟩ => [(0, ⟨75, [z.d]⟩)]) (fun ⟨k, nx⟩ => nx) (0, _) (hA := ⟨iv, rfl, iv, trivial⟩) (round := ?_)
    rintro ⟨k, nx⟩ ⟨hk, hv, hx, -⟩
    show DW _ _ _ _ { n := _, t := tab _, h := _, nx := _, e := _ }
    simp only [List.cons_append, List.nil_append]
    have ff := And.intro @hx ff
    refine stp Zn ?_
    refine dw_seq ?_
    refine cd (fun c2 => ?_) (fun c2 => ?_) (hp := rfl)
    · skip
      have hk2 : k < z.sets.length := by simpa using c2
      have h0 : 0 < z.sets.length := by omega
      have hk1 : k - 1 < z.sets.length := by omega
      have e1 : ((k:Int) - 1).toNat = k - 1 := by omega
      have ff := And.intro (getD_sgd hk2) (And.intro (getD_sgd h0) (And.intro (getD_sgd hk1) (And.intro @e1 ff)))
      refine dw_skip ?_
      show DW _ _ _ _ _
      refine dw_seq ?_
      refine dw_block ?_
      refine stp Zn ?_
      refine dw_seq ?_
      refine stp Zn ?_ (hok := by (try simp only [go_sem, ff]); all_goals (exact rvalid_ct _))
      refine cd (fun c3 => ?_) (fun c3 => ?_)
      · skip
        refine stp Zn ?_
        refine dw_ret ?_
        exact fin 0 (hr := by (try simp only [go_sem, ff]); all_goals (have hF : (ordAt z.apex z.sets) k = false := (by simp only [ordAt]; grind [Sgd.q]); simp only [ordered]; rw [hv, allN_no hk2 hF]; try simp))
      · skip
        refine dw_skip ?_
        show DW _ _ _ _ _
        refine dw_seq ?_
        refine stp Zn ?_ (hok := by (try simp only [go_sem, ff]); all_goals (exact nunder_ct _ _))
        refine stp Zn ?_
        refine cd (fun c4 => ?_) (fun c4 => ?_)
        · skip
          refine stp Zn ?_
          refine dw_ret ?_
          exact fin 0 (hr := by (try simp only [go_sem, ff]); all_goals (have hF : (ordAt z.apex z.sets) k = false := (by simp only [ordAt]; grind [Sgd.q]); simp only [ordered]; rw [hv, allN_no hk2 hF]; try simp))
        · skip
          refine dw_skip ?_
          show DW _ _ _ _ _
          refine dw_seq ?_
          refine stp Zn ?_
          refine cd (fun c5 => ?_) (fun c5 => ?_)
          · skip
            refine dw_exit ?_
            show DW _ _ _ _ _
            refine rgn Zn ?_
            show ∃ _, _
            have h8 : (ordAt z.apex z.sets) k = true := by simp only [ordAt]; grind [Sgd.q]
            exact rnd (k + 1, _) (h1 := ⟨iv, (by first | (rw [hv, allN_yes hk2 h8]) | (dsimp only; rw [hv, allN_yes hk2 h8])), iv, trivial⟩)
          · skip
            refine dw_skip ?_
            show DW _ _ _ _ _
            refine stp Zn ?_
            refine stp Zn ?_ (hok := by (try simp only [go_sem, ff]); all_goals (exact zcmppl_ct _ _ _ _))
            refine cd (fun c6 => ?_) (fun c6 => ?_)
            · skip
              refine stp Zn ?_
              refine dw_ret ?_
              exact fin 0 (hr := by (try simp only [go_sem, ff]); all_goals (have hF : (ordAt z.apex z.sets) k = false := (by simp only [ordAt]; grind [Sgd.q]); simp only [ordered]; rw [hv, allN_no hk2 hF]; try simp))
            · skip
              refine dw_skip ?_
              show DW _ _ _ _ _
              refine rgn Zn ?_
              show ∃ _, _
              have h8 : (ordAt z.apex z.sets) k = true := by simp only [ordAt]; grind [Sgd.q]
              exact rnd (k + 1, _) (h1 := ⟨iv, (by first | (rw [hv, allN_yes hk2 h8]) | (dsimp only; rw [hv, allN_yes hk2 h8])), iv, trivial⟩)
    · skip
      refine dw_exit ?_
      show DW _ _ _ _ _
      refine stp Zn ?_
      refine dw_ret ?_
      exact fin 0 (hr := by (try simp only [go_sem, ff]); all_goals (simp only [ordered]; rw [wild_pre] at *; rw [hv, allN_end (by omega)]; grind))
theorem bo48 : hasBody Tryz.prog 48 = true := by kernel_rfl
theorem zapex_ct (z : Zon) (hl : z.sets.length ≤ 1000000) : PureCt Tryz.prog 48 [.agg z.d] (.b (apexHolds z)) := by
  refine pure_of_dw Tryz.func48 rfl bo48 (by simp [go_sem, D.nr, nrs, nrr]) (by simp [Tryz.f48]) ?_
  unfold Tryz.f48
  simp only [init_eq]
  have ff := True.intro
  refine stp Zn ?_
  refine dw_seq ?_
  refine stp Zn ?_
  refine dw_block ?_
  refine lp (α := (Nat) × Nat) [1, 9, 10] (fun ⟨k, nx⟩ => (k ≤ 2) ∧ (allN 2 (apexAt z) 0 = allN 2 (apexAt z) k) ∧ (0 < nx) ∧ True) (fun ⟨k, nx⟩ => 2 - k) (fun ⟨k, nx⟩ => [(11, .i k)]) (fun ⟨k, nx⟩ => [(0, ⟨75, [z.d]⟩)]) (fun ⟨k, nx⟩ => nx) (0, _) (hA := ⟨iv, rfl, iv, trivial⟩) (round := ?_)
  rintro ⟨k, nx⟩ ⟨hk, hv1, hx, -⟩
  show DW _ _ _ _ { n := _, t := tab _, h := _, nx := _, e := _ }
  simp only [List.cons_append, List.nil_append]
  have ff := And.intro @hx ff
  refine stp Zn ?_
  refine dw_seq ?_
  refine cd (fun c1 => ?_) (fun c1 => ?_) (hp := rfl)
  · skip
    have hk2 : k < 2 := by have h9 : (k:Int) < 2 := (by simpa using c1); omega
    refine dw_skip ?_
    show DW _ _ _ _ _
    refine dw_seq ?_
    refine dw_block ?_
    have h01 : k = 0 ∨ k = 1 := by omega
    rcases h01 with e0 | e0
    · skip
      have ff := And.intro @e0 ff
      refine stp Zn ?_
      refine stp Zn ?_ (hok := by (try simp only [go_sem, ff]); all_goals (first | done | ((repeat' (with_reducible apply And.intro)) <;> first | exact zfind_ct z ⟨z.apex, 4⟩ hl | (intros; exact zfind_ct z ⟨z.apex, 4⟩ hl) | exact zfind_ct z ⟨z.apex, 2⟩ hl | (intros; exact zfind_ct z ⟨z.apex, 2⟩ hl) | skip)))
      refine stp Zn ?_
      refine cd (fun c2 => ?_) (fun c2 => ?_)
      · skip
        refine stp Zn ?_
        refine dw_ret ?_
        exact fin 0 (hr := by (try simp only [go_sem, ff]); all_goals (have hF : (apexAt z) k = false := (by simpa [apexAt, e0] using c2); simp only [apexHolds]; rw [hv1, allN_no hk2 hF]; try simp))
      · skip
        refine dw_skip ?_
        show DW _ _ _ _ _
        refine rgn Zn ?_
        show ∃ _, _
        have h8 : (apexAt z) k = true := by simpa [apexAt, e0] using c2
        exact rnd (k + 1, _) (h1 := ⟨iv, (by first | (rw [hv1, allN_yes hk2 h8]) | (dsimp only; rw [hv1, allN_yes hk2 h8])), iv, trivial⟩)
    · skip
      have ff := And.intro @e0 ff
      refine stp Zn ?_
      refine stp Zn ?_ (hok := by (try simp only [go_sem, ff]); all_goals (first | done | ((repeat' (with_reducible apply And.intro)) <;> first | exact zfind_ct z ⟨z.apex, 4⟩ hl | (intros; exact zfind_ct z ⟨z.apex, 4⟩ hl) | exact zfind_ct z ⟨z.apex, 2⟩ hl | (intros; exact zfind_ct z ⟨z.apex, 2⟩ hl) | skip)))
      refine stp Zn ?_
      refine cd (fun c2 => ?_) (fun c2 => ?_)
      · skip
        refine stp Zn ?_
        refine dw_ret ?_
        exact fin 0 (hr := by (try simp only [go_sem, ff]); all_goals (have hF : (apexAt z) k = false := (by simpa [apexAt, e0] using c2); simp only [apexHolds]; rw [hv1, allN_no hk2 hF]; try simp))
      · skip
        refine dw_skip ?_
        show DW _ _ _ _ _
        refine rgn Zn ?_
        show ∃ _, _
        have h8 : (apexAt z) k = true := by simpa [apexAt, e0] using c2
        exact rnd (k + 1, _) (h1 := ⟨iv, (by first | (rw [hv1, allN_yes hk2 h8]) | (dsimp only; rw [hv1, allN_yes hk2 h8])), iv, trivial⟩)
  · skip
    refine dw_exit ?_
    show DW _ _ _ _ _
    refine dw_seq ?_
    refine stp Zn ?_
    refine dw_block ?_
    refine lp (α := (Nat) × Nat) [1, 30, 31] (fun ⟨k, nx⟩ => (k ≤ z.sets.length) ∧ (allN z.sets.length (fitAt z.apex z.sets) 0 = allN z.sets.length (fitAt z.apex z.sets) k) ∧ (0 < nx) ∧ True) (fun ⟨k, nx⟩ => z.sets.length - k) (fun ⟨k, nx⟩ => [(32, .i k)]) (fun ⟨k, nx⟩ => [(0, ⟨75, [z.d]⟩)]) (fun ⟨k, nx⟩ => nx) (0, _) (hA := ⟨iv, rfl, iv, trivial⟩) (round := ?_)
    rintro ⟨k, nx⟩ ⟨hk, hv, hx, -⟩
    show DW _ _ _ _ { n := _, t := tab _, h := _, nx := _, e := _ }
    simp only [List.cons_append, List.nil_append]
    have ff := And.intro @hx ff
    refine stp Zn ?_
    refine dw_seq ?_
    refine cd (fun c3 => ?_) (fun c3 => ?_) (hp := rfl)
    · skip
      have hk2 : k < z.sets.length := by simpa using c3
      have ff := And.intro (getD_sgd hk2) ff
      refine dw_skip ?_
      show DW _ _ _ _ _
      refine dw_seq ?_
      refine dw_block ?_
      refine stp Zn ?_
      refine stp Zn ?_ (hok := by (try simp only [go_sem, ff]); all_goals (exact fitsapex_ct _ _))
      refine cd (fun c4 => ?_) (fun c4 => ?_)
      · skip
        refine stp Zn ?_
        refine dw_ret ?_
        exact fin 0 (hr := by (try simp only [go_sem, ff]); all_goals (have hF : (fitAt z.apex z.sets) k = false := (by simp only [fitAt]; grind); simp only [apexHolds]; rw [hv, allN_no hk2 hF]; try simp))
      · skip
        refine dw_skip ?_
        show DW _ _ _ _ _
        refine rgn Zn ?_
        show ∃ _, _
        have h8 : (fitAt z.apex z.sets) k = true := by simp only [fitAt]; grind
        exact rnd (k + 1, _) (h1 := ⟨iv, (by first | (rw [hv, allN_yes hk2 h8]) | (dsimp only; rw [hv, allN_yes hk2 h8])), iv, trivial⟩)
    · skip
      refine dw_exit ?_
      show DW _ _ _ _ _
      refine stp Zn ?_
      refine dw_ret ?_
      exact fin 0 (hr := by (try simp only [go_sem, ff]); all_goals (simp only [apexHolds]; rw [hv1, hv, allN_end (n := 2) (by omega), allN_end (by omega)]; rfl))

end Go.Proofs.YtfggmgafjabbjaaGreatDoor
namespace Go.Proofs.YtfggmgafjabbjaaGreatDoor
open Go.DL Go.Str Go.Rec Go.Cmp Go.Zon
set_option maxRecDepth 10000
set_option linter.unusedSimpArgs false
set_option linter.unusedVariables false
@[go_sem] theorem keysOk_T {m : List Str} : keysOk Tryz.prog 9 (kvT m) = true := by
  induction m with
  | nil => rfl
  | cons s m ih => rw [kvT_cons]; simp only [keysOk, ih, ko9, Bool.and_self]
theorem bo50 : hasBody Tryz.prog 50 = true := by kernel_rfl
theorem zalias_ct (x : Lay) (hl : x.z.sets.length ≤ 1000000) : PureCt Tryz.prog 50 [.agg x.d] (.b (aliasB x)) := by
  refine pure_of_dw Tryz.func50 rfl bo50 (by simp [go_sem, D.nr, nrs, nrr]) (by simp [Tryz.f50]) ?_
  unfold Tryz.f50
  simp only [init_eq]
  have ff := True.intro
  refine stp Zn ?_
  refine dw_seq ?_
  refine stp Zn ?_
  refine dw_block ?_
  refine lp (α := (Nat) × Nat) [1, 8, 9] (fun ⟨k, nx⟩ => (k ≤ x.z.sets.length) ∧ (allN x.z.sets.length (aliasAt x.z.sets) 0 = allN x.z.sets.length (aliasAt x.z.sets) k) ∧ (0 < nx) ∧ True) (fun ⟨k, nx⟩ => x.z.sets.length - k) (fun ⟨k, nx⟩ => [(10, .i k)]) (fun ⟨k, nx⟩ => [(0, ⟨81, [x.d]⟩)]) (fun ⟨k, nx⟩ => nx) (0, _) (hA := ⟨iv, rfl, iv, trivial⟩) (round := ?_)
  rintro ⟨k, nx⟩ ⟨hk, hv, hx, -⟩
  show DW _ _ _ _ { n := _, t := tab _, h := _, nx := _, e := _ }
  simp only [List.cons_append, List.nil_append]
  have ff := And.intro @hx ff
  refine stp Zn ?_
  refine dw_seq ?_
  refine cd (fun c1 => ?_) (fun c1 => ?_) (hp := rfl)
  · skip
    have hk2 : k < x.z.sets.length := by simpa using c1
    have hk1 : k - 1 < x.z.sets.length := by omega
    have e1 : ((k:Int) - 1).toNat = k - 1 := by omega
    have e2 : ((k:Int) + 1).toNat = k + 1 := by omega
    have ff := And.intro (getD_sgd hk2) (And.intro (getD_sgd hk1) (And.intro @e1 (And.intro @e2 ff)))
    refine dw_skip ?_
    show DW _ _ _ _ _
    refine dw_seq ?_
    refine dw_block ?_
    refine stp Zn ?_
    refine dw_seq ?_
    refine stp Zn ?_
    refine cd (fun c2 => ?_) (fun c2 => ?_)
    · skip
      refine dw_exit ?_
      show DW _ _ _ _ _
      refine rgn Zn ?_
      show ∃ _, _
      have h8 : (aliasAt x.z.sets) k = true := by simp only [aliasAt]; grind
      exact rnd (k + 1, _) (h1 := ⟨iv, (by first | (rw [hv, allN_yes hk2 h8]) | (dsimp only; rw [hv, allN_yes hk2 h8])), iv, trivial⟩)
    · skip
      refine dw_skip ?_
      show DW _ _ _ _ _
      refine dw_seq ?_
      refine stp Zn ?_
      refine cd (fun c3 => ?_) (fun c3 => ?_)
      · skip
        refine stp Zn ?_
        refine dw_ret ?_
        exact fin 0 (hr := by (try simp only [go_sem, ff]); all_goals (have hF : (aliasAt x.z.sets) k = false := (by simp only [aliasAt]; grind); simp only [aliasB]; rw [hv, allN_no hk2 hF]; try simp))
      · skip
        refine dw_skip ?_
        show DW _ _ _ _ _
        by_cases hk4 : k + 1 < x.z.sets.length
        · skip
          have ff := And.intro (getD_sgd hk4) ff
          refine stp Zn ?_
          refine cd (fun c4 => ?_) (fun c4 => ?_)
          · skip
            refine stp Zn ?_
            refine dw_ret ?_
            exact fin 0 (hr := by (try simp only [go_sem, ff]); all_goals (have hF : (aliasAt x.z.sets) k = false := (by simp only [aliasAt]; grind); simp only [aliasB]; rw [hv, allN_no hk2 hF]; try simp))
          · skip
            refine dw_skip ?_
            show DW _ _ _ _ _
            refine rgn Zn ?_
            show ∃ _, _
            have h8 : (aliasAt x.z.sets) k = true := by simp only [aliasAt]; grind
            exact rnd (k + 1, _) (h1 := ⟨iv, (by first | (rw [hv, allN_yes hk2 h8]) | (dsimp only; rw [hv, allN_yes hk2 h8])), iv, trivial⟩)
        · skip
          have e9 : decide (((k + 1 : Nat) : Int) < x.z.sets.length) = false := decide_eq_false (by omega)
          have ff := And.intro (getD_off (f := Sgd.d) (Nat.le_of_not_lt hk4)) ff
          refine stp Zn ?_
          refine cd (fun c5 => ?_) (fun c5 => ?_)
          · skip
            refine stp Zn ?_
            refine dw_ret ?_
            exact fin 0 (hr := by (try simp only [go_sem, ff]); all_goals (have hF : (aliasAt x.z.sets) k = false := (by simp only [aliasAt]; grind); simp only [aliasB]; rw [hv, allN_no hk2 hF]; try simp))
          · skip
            refine dw_skip ?_
            show DW _ _ _ _ _
            refine rgn Zn ?_
            show ∃ _, _
            have h8 : (aliasAt x.z.sets) k = true := by simp only [aliasAt]; grind
            exact rnd (k + 1, _) (h1 := ⟨iv, (by first | (rw [hv, allN_yes hk2 h8]) | (dsimp only; rw [hv, allN_yes hk2 h8])), iv, trivial⟩)
  · skip
    refine dw_exit ?_
    show DW _ _ _ _ _
    refine stp Zn ?_
    refine dw_ret ?_
    exact fin 0 (hr := by (try simp only [go_sem, ff]); all_goals (simp only [aliasB]; rw [hv, allN_end (by omega)]))
theorem bo51 : hasBody Tryz.prog 51 = true := by kernel_rfl
theorem zcuts_ct (x : Lay) (hl : x.z.sets.length ≤ 1000000) (hb : x.b.length = x.z.sets.length) : PureCt Tryz.prog 51 [.agg x.d] (.b (cutB x)) := by
  refine pure_of_dw Tryz.func51 rfl bo51 (by simp [go_sem, D.nr, nrs, nrr]) (by simp [Tryz.f51]) ?_
  unfold Tryz.f51
  simp only [init_eq]
  have ff := True.intro
  refine stp Zn ?_
  refine dw_seq ?_
  refine stp Zn ?_
  refine dw_block ?_
  refine lp (α := (Nat) × Nat) [1, 9, 10] (fun ⟨k, nx⟩ => (k ≤ x.z.sets.length) ∧ (allN x.z.sets.length (cutAt x) 0 = allN x.z.sets.length (cutAt x) k) ∧ (0 < nx) ∧ True) (fun ⟨k, nx⟩ => x.z.sets.length - k) (fun ⟨k, nx⟩ => [(11, .i k)]) (fun ⟨k, nx⟩ => [(0, ⟨81, [x.d]⟩)]) (fun ⟨k, nx⟩ => nx) (0, _) (hA := ⟨iv, rfl, iv, trivial⟩) (round := ?_)
  rintro ⟨k, nx⟩ ⟨hk, hv, hx, -⟩
  show DW _ _ _ _ { n := _, t := tab _, h := _, nx := _, e := _ }
  simp only [List.cons_append, List.nil_append]
  have ff := And.intro @hx ff
  refine stp Zn ?_
  refine dw_seq ?_
  refine cd (fun c1 => ?_) (fun c1 => ?_) (hp := rfl)
  · skip
    have hk2 : k < x.z.sets.length := by simpa using c1
    have hk3 : k < x.b.length := by omega
    have ff := And.intro (getD_sgd hk2) (And.intro (getD_sR hk3) ff)
    refine dw_skip ?_
    show DW _ _ _ _ _
    refine dw_seq ?_
    refine dw_block ?_
    refine stp Zn ?_
    refine stp Zn ?_
    refine stp Zn ?_
    refine dw_block ?_
    refine stp Zn ?_
    refine cd (fun c2 => ?_) (fun c2 => ?_)
    · skip
      refine stp Zn ?_
      refine cd (fun c3 => ?_) (fun c3 => ?_)
      · skip
        refine stp Zn ?_
        refine dw_ret ?_
        exact fin 0 (hr := by (try simp only [go_sem, ff]); all_goals (have hF : (cutAt x) k = false := (by simp only [cutAt]; grind); simp only [cutB]; rw [hv, allN_no hk2 hF]; try simp))
      · skip
        refine dw_skip ?_
        show DW _ _ _ _ _
        refine rgn Zn ?_
        show ∃ _, _
        have h8 : (cutAt x) k = true := by simp only [cutAt]; grind
        exact rnd (k + 1, _) (h1 := ⟨iv, (by first | (rw [hv, allN_yes hk2 h8]) | (dsimp only; rw [hv, allN_yes hk2 h8])), iv, trivial⟩)
    · skip
      refine stp Zn ?_
      refine cd (fun c4 => ?_) (fun c4 => ?_)
      · skip
        refine stp Zn ?_
        refine cd (fun c5 => ?_) (fun c5 => ?_)
        · skip
          refine stp Zn ?_
          refine dw_ret ?_
          exact fin 0 (hr := by (try simp only [go_sem, ff]); all_goals (have hF : (cutAt x) k = false := (by simp only [cutAt]; grind); simp only [cutB]; rw [hv, allN_no hk2 hF]; try simp))
        · skip
          refine dw_skip ?_
          show DW _ _ _ _ _
          refine rgn Zn ?_
          show ∃ _, _
          have h8 : (cutAt x) k = true := by simp only [cutAt]; grind
          exact rnd (k + 1, _) (h1 := ⟨iv, (by first | (rw [hv, allN_yes hk2 h8]) | (dsimp only; rw [hv, allN_yes hk2 h8])), iv, trivial⟩)
      · skip
        refine stp Zn ?_
        refine cd (fun c6 => ?_) (fun c6 => ?_)
        · skip
          refine stp Zn ?_
          refine dw_ret ?_
          exact fin 0 (hr := by (try simp only [go_sem, ff]); all_goals (have hF : (cutAt x) k = false := (by simp only [cutAt]; grind); simp only [cutB]; rw [hv, allN_no hk2 hF]; try simp))
        · skip
          refine dw_skip ?_
          show DW _ _ _ _ _
          refine rgn Zn ?_
          show ∃ _, _
          have h8 : (cutAt x) k = true := by simp only [cutAt]; grind
          exact rnd (k + 1, _) (h1 := ⟨iv, (by first | (rw [hv, allN_yes hk2 h8]) | (dsimp only; rw [hv, allN_yes hk2 h8])), iv, trivial⟩)
  · skip
    refine dw_exit ?_
    show DW _ _ _ _ _
    refine stp Zn ?_
    refine dw_ret ?_
    exact fin 0 (hr := by (try simp only [go_sem, ff]); all_goals (simp only [cutB]; rw [hv, allN_end (by omega)]))
theorem bo52 : hasBody Tryz.prog 52 = true := by kernel_rfl
theorem zglue_ct (x : Lay) (hl : x.z.sets.length ≤ 1000000) (hb : x.b.length = x.z.sets.length) : PureCt Tryz.prog 52 [.agg x.d] (.b (glueB x)) := by
  refine pure_of_dw Tryz.func52 rfl bo52 (by simp [go_sem, D.nr, nrs, nrr]) (by simp [Tryz.f52]) ?_
  unfold Tryz.f52
  simp only [init_eq]
  have ff := True.intro
  refine stp Zn ?_
  refine dw_seq ?_
  refine stp Zn ?_
  refine dw_block ?_
  refine lp (α := (Nat) × Nat) [1, 9, 10] (fun ⟨k, nx⟩ => (k ≤ x.z.sets.length) ∧ (allN x.z.sets.length (glueAt x) 0 = allN x.z.sets.length (glueAt x) k) ∧ (0 < nx) ∧ True) (fun ⟨k, nx⟩ => x.z.sets.length - k) (fun ⟨k, nx⟩ => [(11, .i k)]) (fun ⟨k, nx⟩ => [(0, ⟨81, [x.d]⟩)]) (fun ⟨k, nx⟩ => nx) (0, _) (hA := ⟨iv, rfl, iv, trivial⟩) (round := ?_)
  rintro ⟨k, nx⟩ ⟨hk, hv, hx, -⟩
  show DW _ _ _ _ { n := _, t := tab _, h := _, nx := _, e := _ }
  simp only [List.cons_append, List.nil_append]
  have ff := And.intro @hx ff
  refine stp Zn ?_
  refine dw_seq ?_
  refine cd (fun c1 => ?_) (fun c1 => ?_) (hp := rfl)
  · skip
    have hk2 : k < x.z.sets.length := by simpa using c1
    have hk3 : k < x.b.length := by omega
    have ff := And.intro (getD_sgd hk2) (And.intro (getD_sR hk3) ff)
    refine dw_skip ?_
    show DW _ _ _ _ _
    refine dw_seq ?_
    refine dw_block ?_
    refine stp Zn ?_
    refine stp Zn ?_
    refine stp Zn ?_
    refine cd (fun c2 => ?_) (fun c2 => ?_)
    · skip
      refine stp Zn ?_
      refine dw_ret ?_
      exact fin 0 (hr := by (try simp only [go_sem, ff]); all_goals (have hF : (glueAt x) k = false := (by simp only [glueAt]; grind); simp only [glueB]; rw [hv, allN_no hk2 hF]; try simp))
    · skip
      refine dw_skip ?_
      show DW _ _ _ _ _
      refine rgn Zn ?_
      show ∃ _, _
      have h8 : (glueAt x) k = true := by simp only [glueAt]; grind
      exact rnd (k + 1, _) (h1 := ⟨iv, (by first | (rw [hv, allN_yes hk2 h8]) | (dsimp only; rw [hv, allN_yes hk2 h8])), iv, trivial⟩)
  · skip
    refine dw_exit ?_
    show DW _ _ _ _ _
    refine stp Zn ?_
    refine dw_ret ?_
    exact fin 0 (hr := by (try simp only [go_sem, ff]); all_goals (simp only [glueB]; rw [hv, allN_end (by omega)]))
theorem bo53 : hasBody Tryz.prog 53 = true := by kernel_rfl
theorem zform_ct (x : Lay) (hl : x.z.sets.length ≤ 1000000) : PureCt Tryz.prog 53 [.agg x.d] (.b (formB x)) := by
  refine pure_of_dw Tryz.func53 rfl bo53 (by simp [go_sem, D.nr, nrs, nrr]) (by simp [Tryz.f53]) ?_
  unfold Tryz.f53
  simp only [init_eq]
  have ff := True.intro
  refine stp Zn ?_
  refine dw_seq ?_
  refine stp Zn ?_
  refine dw_block ?_
  refine lp (α := (Nat) × Nat) [1, 8, 9] (fun ⟨k, nx⟩ => (k ≤ x.z.sets.length) ∧ (allN x.z.sets.length (formAt x.z) 0 = allN x.z.sets.length (formAt x.z) k) ∧ (0 < nx) ∧ True) (fun ⟨k, nx⟩ => x.z.sets.length - k) (fun ⟨k, nx⟩ => [(10, .i k)]) (fun ⟨k, nx⟩ => [(0, ⟨81, [x.d]⟩)]) (fun ⟨k, nx⟩ => nx) (0, _) (hA := ⟨iv, rfl, iv, trivial⟩) (round := ?_)
  rintro ⟨k, nx⟩ ⟨hk, hv, hx, -⟩
  show DW _ _ _ _ { n := _, t := tab _, h := _, nx := _, e := _ }
  simp only [List.cons_append, List.nil_append]
  have ff := And.intro @hx ff
  refine stp Zn ?_
  refine dw_seq ?_
  refine cd (fun c1 => ?_) (fun c1 => ?_) (hp := rfl)
  · skip
    have hk2 : k < x.z.sets.length := by simpa using c1
    have ff := And.intro (getD_sgd hk2) ff
    refine dw_skip ?_
    show DW _ _ _ _ _
    refine dw_seq ?_
    refine dw_block ?_
    refine stp Zn ?_
    refine stp Zn ?_ (hok := by (try simp only [go_sem, ff]); all_goals (exact zinform_ct _ _))
    refine cd (fun c2 => ?_) (fun c2 => ?_)
    · skip
      refine stp Zn ?_
      refine dw_ret ?_
      exact fin 0 (hr := by (try simp only [go_sem, ff]); all_goals (have hF : (formAt x.z) k = false := (by simpa only [formAt] using c2); simp only [formB]; rw [hv, allN_no hk2 hF]; try simp))
    · skip
      refine dw_skip ?_
      show DW _ _ _ _ _
      refine rgn Zn ?_
      show ∃ _, _
      have h8 : (formAt x.z) k = true := by simpa only [formAt] using c2
      exact rnd (k + 1, _) (h1 := ⟨iv, (by first | (rw [hv, allN_yes hk2 h8]) | (dsimp only; rw [hv, allN_yes hk2 h8])), iv, trivial⟩)
  · skip
    refine dw_exit ?_
    show DW _ _ _ _ _
    refine stp Zn ?_
    refine dw_ret ?_
    exact fin 0 (hr := by (try simp only [go_sem, ff]); all_goals (simp only [formB]; rw [hv, allN_end (by omega)]))

end Go.Proofs.YtfggmgafjabbjaaGreatDoor
namespace Go.Proofs.YtfggmgafjabbjaaGreatDoor
open Go.DL Go.Str Go.Rec Go.Cmp Go.Zon
set_option maxRecDepth 10000
set_option linter.unusedSimpArgs false
set_option linter.unusedVariables false
theorem bo49 : hasBody Tryz.prog 49 = true := by kernel_rfl
theorem zlay_ct (z : Zon) (hl : z.sets.length ≤ 1000000) : PureCt Tryz.prog 49 [.agg z.d] (.agg (layOf z).d) := by
  refine pure_of_dw Tryz.func49 rfl bo49 (by simp [go_sem, D.nr, nrs, nrr]) (by simp [Tryz.f49]) ?_
  unfold Tryz.f49
  simp only [init_eq]
  have ff := True.intro
  refine stp Zn ?_
  refine stp Zn ?_
  refine dw_seq ?_
  refine stp Zn ?_
  refine dw_block ?_
  refine lp (α := (Nat) × Nat) [1, 2, 3, 16, 17] (fun ⟨k, nx⟩ => (k ≤ z.sets.length) ∧ (2 < nx) ∧ True) (fun ⟨k, nx⟩ => z.sets.length - k) (fun ⟨k, nx⟩ => [(18, .i k)]) (fun ⟨k, nx⟩ => [(0, ⟨75, [z.d]⟩), (1, ⟨81, [[.v (.string (bs [])), .list true [], .list true []]]⟩), (2, ⟨126, mapRows (kvT (cutsTo z (k)))⟩)]) (fun ⟨k, nx⟩ => nx) (0, _) (hA := ⟨iv, iv, trivial⟩) (round := ?_)
  rintro ⟨k, nx⟩ ⟨hk, hx, -⟩
  show DW _ _ _ _ { n := _, t := tab _, h := _, nx := _, e := _ }
  simp only [List.cons_append, List.nil_append]
  have n0 : 0 < nx := by omega
  have n1 : 1 < nx := by omega
  have ff := And.intro @hx (And.intro @n0 (And.intro @n1 ff))
  refine stp Zn ?_
  refine dw_seq ?_
  refine cd (fun c1 => ?_) (fun c1 => ?_) (hp := rfl)
  · skip
    have hk2 : k < z.sets.length := by simpa using c1
    have ff := And.intro (getD_sgd hk2) ff
    refine dw_skip ?_
    show DW _ _ _ _ _
    refine dw_seq ?_
    refine dw_block ?_
    refine stp Zn ?_
    refine stp Zn ?_
    refine cd (fun c2 => ?_) (fun c2 => ?_)
    · skip
      refine rgn Zn ?_
      show DW _ _ _ _ _
      refine rgn Zn ?_
      show ∃ _, _
      have ff := And.intro (cuts_yes (z := z) (k := k) (by grind)) ff
      exact rnd (k + 1, _) (h1 := ⟨iv, iv, trivial⟩)
    · skip
      refine dw_skip ?_
      show DW _ _ _ _ _
      refine rgn Zn ?_
      show ∃ _, _
      have ff := And.intro (cuts_no (z := z) (k := k) (by grind)) ff
      exact rnd (k + 1, _) (h1 := ⟨iv, iv, trivial⟩)
  · skip
    refine dw_exit ?_
    show DW _ _ _ _ _
    refine dw_freezem 3 2 ev ev rfl nrs_kvT ?_
    refine stp Zn ?_
    refine stp Zn ?_
    refine dw_seq ?_
    refine stp Zn ?_
    refine dw_block ?_
    refine lp (α := (Nat) × (Str) × (Nat) × (Nat) × Nat) [2, 3, 49, 50] (fun ⟨k, cut, r6, rb, nx⟩ => (k ≤ z.sets.length) ∧ (rb < nx) ∧ (r6 < nx) ∧ (2 < rb ∧ rb < r6) ∧ (cut = (behTo (cutsTo z z.sets.length) z.sets k).2) ∧ True) (fun ⟨k, cut, r6, rb, nx⟩ => z.sets.length - k) (fun ⟨k, cut, r6, rb, nx⟩ => [(6, .mptr r6 0 0), (7, .v (.string (bs cut))), (51, .i k)]) (fun ⟨k, cut, r6, rb, nx⟩ => [(0, ⟨75, [z.d]⟩), (1, ⟨81, [[.v (.string (bs [])), .list true [], .list true []]]⟩), (r6, ⟨81, [[.v (.string (bs z.apex)), .list false (z.sets.map Sgd.d), .mrow rb 0 z.sets.length]]⟩), (rb, ⟨9, (rowsB (cutsTo z z.sets.length) z.sets z.sets.length (k)).map sR⟩)]) (fun ⟨k, cut, r6, rb, nx⟩ => nx) (0, [], (nx + 8), (nx + 6), _) (hA := ⟨iv, iv, iv, iv, iv, trivial⟩) (round := ?_)
    rintro ⟨k, cut, r6, rb, nx⟩ ⟨hk, hx, hx6, hbr, hc, -⟩
    show DW _ _ _ _ { n := _, t := tab _, h := _, nx := _, e := _ }
    simp only [List.cons_append, List.nil_append]
    have n0 : 0 < nx := by omega
    have n1 : 1 < nx := by omega
    have zr6_rb : (r6 = rb) = False := eq_false (by omega)
    have yrb_r6 : (rb = r6) = False := eq_false (by omega)
    have z0_rb : (0 = rb) = False := eq_false (by omega)
    have yrb_0 : (rb = 0) = False := eq_false (by omega)
    have z1_rb : (1 = rb) = False := eq_false (by omega)
    have yrb_1 : (rb = 1) = False := eq_false (by omega)
    have z0_r6 : (0 = r6) = False := eq_false (by omega)
    have yr6_0 : (r6 = 0) = False := eq_false (by omega)
    have z1_r6 : (1 = r6) = False := eq_false (by omega)
    have yr6_1 : (r6 = 1) = False := eq_false (by omega)
    have ff := And.intro @hx (And.intro @hx6 (And.intro @n0 (And.intro @n1 (And.intro @zr6_rb (And.intro @yrb_r6 (And.intro @z0_rb (And.intro @yrb_0 (And.intro @z1_rb (And.intro @yrb_1 (And.intro @z0_r6 (And.intro @yr6_0 (And.intro @z1_r6 (And.intro @yr6_1 ff)))))))))))))
    refine stp Zn ?_
    refine dw_seq ?_
    refine cd (fun c3 => ?_) (fun c3 => ?_) (hp := rfl)
    · skip
      have hk2 : k < z.sets.length := by simpa using c3
      have ff := And.intro (getD_sgd hk2) (And.intro (rowsB_len (m := (cutsTo z z.sets.length)) (l := z.sets) hk) (And.intro (getD_sR (l := rowsB (cutsTo z z.sets.length) z.sets z.sets.length k) (n := k) (by rw [rowsB_len hk]; exact hk2)) ff))
      refine dw_skip ?_
      show DW _ _ _ _ _
      refine dw_seq ?_
      refine dw_block ?_
      refine stp Zn ?_
      refine stp Zn ?_
      refine dw_seq ?_
      refine stp Zn ?_
      refine cd (fun c4 => ?_) (fun c4 => ?_)
      · skip
        refine stp Zn ?_ (hok := by (try simp only [go_sem, ff]); all_goals (exact nunder_ct _ _))
        refine stp Zn ?_
        refine cd (fun c5 => ?_) (fun c5 => ?_)
        · skip
          refine rgn Zn ?_
          show DW _ _ _ _ _
          refine dw_seq ?_
          refine stp Zn ?_
          refine cd (fun c6 => ?_) (fun c6 => ?_)
          · skip
            refine rgn Zn ?_
            show DW _ _ _ _ _
            refine rgn Zn ?_
            show DW _ _ _ _ _
            refine rgn Zn ?_
            show ∃ _, _
            have hcc : (behTo (cutsTo z z.sets.length) z.sets (k + 1)).2 = z.sets[k]!.set.name := by show stepC _ (behTo _ _ k).2 _ = _; rw [← hc]; simp only [stepC]; grind
            have ff := And.intro (rowsB_setD hk2 hcc) (And.intro hcc ff)
            exact rnd (k + 1, (behTo (cutsTo z z.sets.length) z.sets (k + 1)).2, r6, rb, _) (h1 := ⟨iv, iv, iv, iv, iv, trivial⟩)
          · skip
            refine dw_skip ?_
            show DW _ _ _ _ _
            refine rgn Zn ?_
            show DW _ _ _ _ _
            refine rgn Zn ?_
            show ∃ _, _
            have hcc : (behTo (cutsTo z z.sets.length) z.sets (k + 1)).2 = [] := by show stepC _ (behTo _ _ k).2 _ = _; rw [← hc]; simp only [stepC]; grind
            have ff := And.intro (rowsB_setD hk2 hcc) (And.intro hcc ff)
            exact rnd (k + 1, (behTo (cutsTo z z.sets.length) z.sets (k + 1)).2, r6, rb, _) (h1 := ⟨iv, iv, iv, iv, iv, trivial⟩)
        · skip
          refine dw_skip ?_
          show DW _ _ _ _ _
          refine dw_seq ?_
          refine stp Zn ?_
          refine cd (fun c6 => ?_) (fun c6 => ?_)
          · skip
            refine rgn Zn ?_
            show DW _ _ _ _ _
            refine rgn Zn ?_
            show DW _ _ _ _ _
            refine rgn Zn ?_
            show ∃ _, _
            have hcc : (behTo (cutsTo z z.sets.length) z.sets (k + 1)).2 = z.sets[k]!.set.name := by show stepC _ (behTo _ _ k).2 _ = _; rw [← hc]; simp only [stepC]; grind
            have ff := And.intro (rowsB_setD hk2 hcc) (And.intro hcc ff)
            exact rnd (k + 1, (behTo (cutsTo z z.sets.length) z.sets (k + 1)).2, r6, rb, _) (h1 := ⟨iv, iv, iv, iv, iv, trivial⟩)
          · skip
            refine dw_skip ?_
            show DW _ _ _ _ _
            refine rgn Zn ?_
            show DW _ _ _ _ _
            refine rgn Zn ?_
            show ∃ _, _
            have hcc : (behTo (cutsTo z z.sets.length) z.sets (k + 1)).2 = cut := by show stepC _ (behTo _ _ k).2 _ = _; rw [← hc]; simp only [stepC]; grind
            have ff := And.intro (rowsB_setD hk2 hcc) (And.intro hcc ff)
            exact rnd (k + 1, (behTo (cutsTo z z.sets.length) z.sets (k + 1)).2, r6, rb, _) (h1 := ⟨iv, iv, iv, iv, iv, trivial⟩)
      · skip
        refine dw_skip ?_
        show DW _ _ _ _ _
        refine dw_seq ?_
        refine stp Zn ?_
        refine cd (fun c6 => ?_) (fun c6 => ?_)
        · skip
          refine rgn Zn ?_
          show DW _ _ _ _ _
          refine rgn Zn ?_
          show DW _ _ _ _ _
          refine rgn Zn ?_
          show ∃ _, _
          have hcc : (behTo (cutsTo z z.sets.length) z.sets (k + 1)).2 = z.sets[k]!.set.name := by show stepC _ (behTo _ _ k).2 _ = _; rw [← hc]; simp only [stepC]; grind
          have ff := And.intro (rowsB_setD hk2 hcc) (And.intro hcc ff)
          exact rnd (k + 1, (behTo (cutsTo z z.sets.length) z.sets (k + 1)).2, r6, rb, _) (h1 := ⟨iv, iv, iv, iv, iv, trivial⟩)
        · skip
          refine dw_skip ?_
          show DW _ _ _ _ _
          refine rgn Zn ?_
          show DW _ _ _ _ _
          refine rgn Zn ?_
          show ∃ _, _
          have hcc : (behTo (cutsTo z z.sets.length) z.sets (k + 1)).2 = cut := by show stepC _ (behTo _ _ k).2 _ = _; rw [← hc]; simp only [stepC]; grind
          have ff := And.intro (rowsB_setD hk2 hcc) (And.intro hcc ff)
          exact rnd (k + 1, (behTo (cutsTo z z.sets.length) z.sets (k + 1)).2, r6, rb, _) (h1 := ⟨iv, iv, iv, iv, iv, trivial⟩)
    · skip
      refine dw_exit ?_
      show DW _ _ _ _ _
      have e9 : k = z.sets.length := by omega
      subst e9
      have tk : List.take z.sets.length ((rowsB (cutsTo z z.sets.length) z.sets z.sets.length z.sets.length).map sR) = (behOf z).map sR := by rw [rowsB_n]; exact List.take_of_length_le (by rw [List.length_map, behTo_len]; exact Nat.le_refl _)
      have ff := And.intro @tk (And.intro (rowsB_len (m := (cutsTo z z.sets.length)) (l := z.sets) (Nat.le_refl z.sets.length)) ff)
      refine stp Zn ?_
      refine dw_ret ?_
      exact fin 2 (hr := by (try simp only [go_sem, ff]); all_goals (rfl)) (hk := by (try simp only [go_sem, ff]); all_goals (exact behOf_len z))
theorem bo14 : hasBody Tryz.prog 14 = true := by kernel_rfl
theorem zvalid_ct (z : Zon) : PureCt Tryz.prog 14 [.agg z.d] (.b (zoneOk z)) := by
  refine pure_of_dw Tryz.func14 rfl bo14 (by simp [go_sem, D.nr, nrs, nrr]) (by simp [Tryz.f14]) ?_
  unfold Tryz.f14
  simp only [init_eq]
  have ff := True.intro
  refine stp Zn ?_
  refine stp Zn ?_
  refine dw_seq ?_
  refine stp Zn ?_ (hok := by (try simp only [go_sem, ff]); all_goals (first | done | ((repeat' (with_reducible apply And.intro)) <;> first | exact zordered_ct z | (intros; exact zordered_ct z) | (intro h; exact zapex_ct z (ord_len h)) | (intros; simp_all; done) | skip)))
  refine cd (fun c1 => ?_) (fun c1 => ?_)
  · skip
    refine stp Zn ?_
    refine dw_ret ?_
    exact fin 0 (hr := by (try simp only [go_sem, ff]); all_goals (simp only [zoneOk]; grind))
  · skip
    refine dw_skip ?_
    show DW _ _ _ _ _
    have ho := ord_len c1.1
    refine stp Zn ?_ (hok := by (try simp only [go_sem, ff]); all_goals (exact zlay_ct z ho))
    refine stp Zn ?_ (hok := by (try simp only [go_sem, ff]); all_goals (first | done | ((repeat' (with_reducible apply And.intro)) <;> first | exact zalias_ct (layOf z) ho | (intros; exact zalias_ct (layOf z) ho) | exact zcuts_ct (layOf z) ho (behOf_len z) | (intros; exact zcuts_ct (layOf z) ho (behOf_len z)) | exact zglue_ct (layOf z) ho (behOf_len z) | (intros; exact zglue_ct (layOf z) ho (behOf_len z)) | exact zform_ct (layOf z) ho | (intros; exact zform_ct (layOf z) ho) | skip)))
    refine dw_ret ?_
    exact fin 0 (hr := by (try simp only [go_sem, ff]); all_goals (simp only [zoneOk]; rw [c1.1, c1.2]; simp [Bool.and_assoc]))
theorem bo13 : hasBody Tryz.prog 13 = true := by kernel_rfl
theorem zserial_ct (z : Zon) : PureCt Tryz.prog 13 [.agg z.d] (.tuple [.i (if zoneOk z then serialOf z else 0), .i (if zoneOk z then 0 else 1)]) := by
  refine pure_of_dw Tryz.func13 rfl bo13 (by simp [go_sem, D.nr, nrs, nrr]) (by simp [Tryz.f13]) ?_
  unfold Tryz.f13
  simp only [init_eq]
  have ff := True.intro
  refine stp Zn ?_
  refine dw_seq ?_
  refine stp Zn ?_ (hok := by (try simp only [go_sem, ff]); all_goals (exact zvalid_ct z))
  refine cd (fun c1 => ?_) (fun c1 => ?_)
  · skip
    refine stp Zn ?_
    refine dw_ret ?_
    exact fin 1 (hr := by (try simp only [go_sem, ff]); all_goals (simp [c1]))
  · skip
    refine dw_skip ?_
    show DW _ _ _ _ _
    refine stp Zn ?_ (hok := by (try simp only [go_sem, ff]); all_goals (exact zfind_ct z ⟨z.apex, 4⟩ (ok_len c1)))
    obtain ⟨hf1, hf2⟩ := start_at c1
    have ff := And.intro (getD_sgd hf1) (And.intro (getD_dat hf2) ff)
    refine stp Zn ?_
    refine dw_ret ?_
    exact fin 1 (hr := by (try simp only [go_sem, ff]); all_goals (simp [c1, serialOf]))

end Go.Proofs.YtfggmgafjabbjaaGreatDoor
/-
  MADE BY A PROGRAM OF MINE: what the functions that leave memory alone give. Conditions: none.
-/
namespace Go.Proofs.YtfggmgafjabbjaaGreatDoor
open Go.DL Go.Str Go.Rec Go.Zon
set_option linter.unusedVariables false
def Yn : Con where
  pure := fun k => [176, 169, 153, 114, 113, 81, 123, 90, 115, 171, 155, 122, 120, 125, 127, 172, 116, 156, 173, 126, 159, 124, 91, 128, 110, 157, 150, 119, 129, 118, 158, 130, 93, 83, 117, 85, 63, 165, 141, 102, 84, 82, 101, 92, 103, 86, 104, 89, 61, 111, 20, 60, 18, 100, 99, 46, 47, 48, 50, 51, 52, 53, 49, 14, 13, 59, 32, 33, 34, 151, 121, 87, 35, 88, 36, 11, 17, 9].contains k
  pf := fun k xs => match k, xs with
    | 176, [x0, x1] => .i (lastIx (str1 x0) (int1 x1))
    | 169, [x0, x1] => .i (lastIx (str1 x0) (int1 x1))
    | 153, [x0] => .b (labelOk (str1 x0))
    | 114, [x0] => .b (labelOk (str1 x0))
    | 113, [x0] => .list false ((splitF (str1 x0)).map sR)
    | 81, [x0] => .b (nameOk (str1 x0))
    | 123, [x0] => .b (nameOk (str1 x0))
    | 90, [x0] => .b (nameOk (str1 x0))
    | 115, [x0] => .list false ((partsOf (str1 x0)).map sR)
    | 171, [x0, x1] => .i (Go.Lib.compareBytes (str1 x0) (str1 x1))
    | 155, [x0, x1] => .i (Go.Lib.compareBytes (str1 x0) (str1 x1))
    | 122, [x0, x1] => .i (nmOrd (str1 x0) (str1 x1))
    | 120, [x0, x1] => .tuple [.i (if nameOk (str1 x0) && nameOk (str1 x1) then nmCmp (str1 x0) (str1 x1) else 0), .i (if nameOk (str1 x0) && nameOk (str1 x1) then 0 else 11)]
    | 125, [x0, x1] => .tuple [.i (if nameOk (str1 x0) && nameOk (str1 x1) then nmCmp (str1 x0) (str1 x1) else 0), .i (if nameOk (str1 x0) && nameOk (str1 x1) then 0 else 11)]
    | 127, [x0, x1, x2] => .b (inR (int1 x0) (int1 x1) (int1 x2))
    | 172, [x0, x1, x2] => .b (inR (int1 x0) (int1 x1) (int1 x2))
    | 116, [x0, x1, x2] => .b (inR (int1 x0) (int1 x1) (int1 x2))
    | 156, [x0] => .b ((int1 x0) != (int1 x0))
    | 173, [x0] => .b ((str1 x0) != (str1 x0))
    | 126, [x0, x1] => .i (cmpI (int1 x0) (int1 x1))
    | 159, [x0, x1] => .i (cmpS (str1 x0) (str1 x1))
    | 124, [x0, x1] => .b (hasPre (str1 x0) (str1 x1))
    | 91, [x0, x1] => .b (hasPre (str1 x0) (str1 x1))
    | 128, [x0] => .b (wildB (str1 x0))
    | 110, [x0] => .b (wildB (str1 x0))
    | 157, [x0] => .b (freeB (str1 x0))
    | 150, [x0] => .b (freeB (str1 x0))
    | 119, [x0, x1] => .b (less (dat1 x0) (dat1 x1))
    | 129, [x0, x1] => .b (datOk (rule1 x0) (dat1 x1))
    | 118, [x0, x1] => .b (rDatOk (int1 x0) (dat1 x1))
    | 158, [x0] => .i (orFrom (ints1 x0) 0)
    | 130, [x0, x1] => .i (datC (dat1 x0) (dat1 x1))
    | 93, [x0] => .b (setOk (set1 x0))
    | 83, [x0] => .b (setOk (set1 x0))
    | 117, [x0] => .b (singleB (int1 x0))
    | 85, [x0, x1] => .i (rOrd (set1 x0) (set1 x1))
    | 63, [x0, x1] => .b (sameB (set1 x0) (set1 x1))
    | 165, [x0, x1] => .b (hasSuf (str1 x0) (str1 x1))
    | 141, [x0, x1] => .b (hasSuf (str1 x0) (str1 x1))
    | 102, [x0, x1] => .tuple [.b (underV (str1 x0) (str1 x1)), .i (if nameOk (str1 x0) && nameOk (str1 x1) then 0 else 11)]
    | 84, [x0, x1] => .b (inB (str1 x0) (str1 x1))
    | 82, [x0] => .b (wild1 (str1 x0))
    | 101, [x0, x1, x2, x3] => .i (qC ⟨(str1 x0), (int1 x1)⟩ ⟨(str1 x2), (int1 x3)⟩)
    | 92, [x0, x1] => .i (qC (qst1 x0) (qst1 x1))
    | 103, [x0, x1] => .b (fits (int1 x0) (bool1 x1))
    | 86, [x0, x1] => .b (fits (int1 x0) (bool1 x1))
    | 104, [x0, x1] => .b (sigsOk (sigs1 x0) (str1 x1))
    | 89, [x0, x1] => .b (sigsOk (sigs1 x0) (str1 x1))
    | 61, [x0] => .b (qOk (qst1 x0))
    | 111, [x0] => .b (qOk (qst1 x0))
    | 20, [x0, x1] => .b (sameSgd (sgd1 x0) (sgd1 x1))
    | 60, [x0, x1] => .b (sameList (sgds1 x0) (sgds1 x1))
    | 18, [x0, x1] => .b (sameZ (zon1 x0) (zon1 x1))
    | 100, [x0, x1] => .i (qC (sgd1 x0).q (qst1 x1))
    | 99, [x0, x1, x2] => .tuple [.i (findIx (sgds1 x0) (qst1 x1)), .b (findOk (sgds1 x0) (qst1 x1))]
    | 46, [x0, x1] => .tuple [.i (findIx (zon1 x0).sets (qst1 x1)), .b (findOk (zon1 x0).sets (qst1 x1))]
    | 47, [x0] => .b (ordered (zon1 x0))
    | 48, [x0] => .b (apexHolds (zon1 x0))
    | 50, [x0] => .b (aliasB (lay1 x0))
    | 51, [x0] => .b (cutB (lay1 x0))
    | 52, [x0] => .b (glueB (lay1 x0))
    | 53, [x0] => .b (formB (lay1 x0))
    | 49, [x0] => .agg (layOf (zon1 x0)).d
    | 14, [x0] => .b (zoneOk (zon1 x0))
    | 13, [x0] => .tuple [.i (if zoneOk (zon1 x0) then serialOf (zon1 x0) else 0), .i (if zoneOk (zon1 x0) then 0 else 1)]
    | 59, [x0, x1] => .i (atF (zon1 x0).sets (qst1 x1))
    | 32, [x0] => .b (oneB (zon1 x0))
    | 33, [x0] => .b (twoB (zon1 x0))
    | 34, [x0] => .b (threeB (zon1 x0))
    | 151, [x0] => .list false ((cutsF (zon1 x0)).map sR)
    | 121, [x0] => .list false ((highF (zon1 x0)).map sR)
    | 87, [x0] => .list false ((behR (zon1 x0)).map sR)
    | 35, [x0] => .b (fourB (zon1 x0))
    | 88, [x0] => .list false ((ownF (zon1 x0)).map bR)
    | 36, [x0] => .b (fiveB (zon1 x0))
    | 11, [x0] => .b (refOk (zon1 x0))
    | 17, [x0] => .i (serialR (zon1 x0))
    | 9, [x0] => .b (fewZ (zon1 x0))
    | _, _ => .junk
@[go_sem] theorem ynp176 : Yn.pure 176 = true := rfl
@[go_sem] theorem ynf176 {x0 x1 : D} : Yn.pf 176 [x0, x1] = .i (lastIx (str1 x0) (int1 x1)) := rfl
@[go_sem] theorem ynp169 : Yn.pure 169 = true := rfl
@[go_sem] theorem ynf169 {x0 x1 : D} : Yn.pf 169 [x0, x1] = .i (lastIx (str1 x0) (int1 x1)) := rfl
@[go_sem] theorem ynp153 : Yn.pure 153 = true := rfl
@[go_sem] theorem ynf153 {x0 : D} : Yn.pf 153 [x0] = .b (labelOk (str1 x0)) := rfl
@[go_sem] theorem ynp114 : Yn.pure 114 = true := rfl
@[go_sem] theorem ynf114 {x0 : D} : Yn.pf 114 [x0] = .b (labelOk (str1 x0)) := rfl
@[go_sem] theorem ynp113 : Yn.pure 113 = true := rfl
@[go_sem] theorem ynf113 {x0 : D} : Yn.pf 113 [x0] = .list false ((splitF (str1 x0)).map sR) := rfl
@[go_sem] theorem ynp81 : Yn.pure 81 = true := rfl
@[go_sem] theorem ynf81 {x0 : D} : Yn.pf 81 [x0] = .b (nameOk (str1 x0)) := rfl
@[go_sem] theorem ynp123 : Yn.pure 123 = true := rfl
@[go_sem] theorem ynf123 {x0 : D} : Yn.pf 123 [x0] = .b (nameOk (str1 x0)) := rfl
@[go_sem] theorem ynp90 : Yn.pure 90 = true := rfl
@[go_sem] theorem ynf90 {x0 : D} : Yn.pf 90 [x0] = .b (nameOk (str1 x0)) := rfl
@[go_sem] theorem ynp115 : Yn.pure 115 = true := rfl
@[go_sem] theorem ynf115 {x0 : D} : Yn.pf 115 [x0] = .list false ((partsOf (str1 x0)).map sR) := rfl
@[go_sem] theorem ynp171 : Yn.pure 171 = true := rfl
@[go_sem] theorem ynf171 {x0 x1 : D} : Yn.pf 171 [x0, x1] = .i (Go.Lib.compareBytes (str1 x0) (str1 x1)) := rfl
@[go_sem] theorem ynp155 : Yn.pure 155 = true := rfl
@[go_sem] theorem ynf155 {x0 x1 : D} : Yn.pf 155 [x0, x1] = .i (Go.Lib.compareBytes (str1 x0) (str1 x1)) := rfl
@[go_sem] theorem ynp122 : Yn.pure 122 = true := rfl
@[go_sem] theorem ynf122 {x0 x1 : D} : Yn.pf 122 [x0, x1] = .i (nmOrd (str1 x0) (str1 x1)) := rfl
@[go_sem] theorem ynp120 : Yn.pure 120 = true := rfl
@[go_sem] theorem ynf120 {x0 x1 : D} : Yn.pf 120 [x0, x1] = .tuple [.i (if nameOk (str1 x0) && nameOk (str1 x1) then nmCmp (str1 x0) (str1 x1) else 0), .i (if nameOk (str1 x0) && nameOk (str1 x1) then 0 else 11)] := rfl
@[go_sem] theorem ynp125 : Yn.pure 125 = true := rfl
@[go_sem] theorem ynf125 {x0 x1 : D} : Yn.pf 125 [x0, x1] = .tuple [.i (if nameOk (str1 x0) && nameOk (str1 x1) then nmCmp (str1 x0) (str1 x1) else 0), .i (if nameOk (str1 x0) && nameOk (str1 x1) then 0 else 11)] := rfl
@[go_sem] theorem ynp127 : Yn.pure 127 = true := rfl
@[go_sem] theorem ynf127 {x0 x1 x2 : D} : Yn.pf 127 [x0, x1, x2] = .b (inR (int1 x0) (int1 x1) (int1 x2)) := rfl
@[go_sem] theorem ynp172 : Yn.pure 172 = true := rfl
@[go_sem] theorem ynf172 {x0 x1 x2 : D} : Yn.pf 172 [x0, x1, x2] = .b (inR (int1 x0) (int1 x1) (int1 x2)) := rfl
@[go_sem] theorem ynp116 : Yn.pure 116 = true := rfl
@[go_sem] theorem ynf116 {x0 x1 x2 : D} : Yn.pf 116 [x0, x1, x2] = .b (inR (int1 x0) (int1 x1) (int1 x2)) := rfl
@[go_sem] theorem ynp156 : Yn.pure 156 = true := rfl
@[go_sem] theorem ynf156 {x0 : D} : Yn.pf 156 [x0] = .b ((int1 x0) != (int1 x0)) := rfl
@[go_sem] theorem ynp173 : Yn.pure 173 = true := rfl
@[go_sem] theorem ynf173 {x0 : D} : Yn.pf 173 [x0] = .b ((str1 x0) != (str1 x0)) := rfl
@[go_sem] theorem ynp126 : Yn.pure 126 = true := rfl
@[go_sem] theorem ynf126 {x0 x1 : D} : Yn.pf 126 [x0, x1] = .i (cmpI (int1 x0) (int1 x1)) := rfl
@[go_sem] theorem ynp159 : Yn.pure 159 = true := rfl
@[go_sem] theorem ynf159 {x0 x1 : D} : Yn.pf 159 [x0, x1] = .i (cmpS (str1 x0) (str1 x1)) := rfl
@[go_sem] theorem ynp124 : Yn.pure 124 = true := rfl
@[go_sem] theorem ynf124 {x0 x1 : D} : Yn.pf 124 [x0, x1] = .b (hasPre (str1 x0) (str1 x1)) := rfl
@[go_sem] theorem ynp91 : Yn.pure 91 = true := rfl
@[go_sem] theorem ynf91 {x0 x1 : D} : Yn.pf 91 [x0, x1] = .b (hasPre (str1 x0) (str1 x1)) := rfl
@[go_sem] theorem ynp128 : Yn.pure 128 = true := rfl
@[go_sem] theorem ynf128 {x0 : D} : Yn.pf 128 [x0] = .b (wildB (str1 x0)) := rfl
@[go_sem] theorem ynp110 : Yn.pure 110 = true := rfl
@[go_sem] theorem ynf110 {x0 : D} : Yn.pf 110 [x0] = .b (wildB (str1 x0)) := rfl
@[go_sem] theorem ynp157 : Yn.pure 157 = true := rfl
@[go_sem] theorem ynf157 {x0 : D} : Yn.pf 157 [x0] = .b (freeB (str1 x0)) := rfl
@[go_sem] theorem ynp150 : Yn.pure 150 = true := rfl
@[go_sem] theorem ynf150 {x0 : D} : Yn.pf 150 [x0] = .b (freeB (str1 x0)) := rfl
@[go_sem] theorem ynp119 : Yn.pure 119 = true := rfl
@[go_sem] theorem ynf119 {x0 x1 : D} : Yn.pf 119 [x0, x1] = .b (less (dat1 x0) (dat1 x1)) := rfl
@[go_sem] theorem ynp129 : Yn.pure 129 = true := rfl
@[go_sem] theorem ynf129 {x0 x1 : D} : Yn.pf 129 [x0, x1] = .b (datOk (rule1 x0) (dat1 x1)) := rfl
@[go_sem] theorem ynp118 : Yn.pure 118 = true := rfl
@[go_sem] theorem ynf118 {x0 x1 : D} : Yn.pf 118 [x0, x1] = .b (rDatOk (int1 x0) (dat1 x1)) := rfl
@[go_sem] theorem ynp158 : Yn.pure 158 = true := rfl
@[go_sem] theorem ynf158 {x0 : D} : Yn.pf 158 [x0] = .i (orFrom (ints1 x0) 0) := rfl
@[go_sem] theorem ynp130 : Yn.pure 130 = true := rfl
@[go_sem] theorem ynf130 {x0 x1 : D} : Yn.pf 130 [x0, x1] = .i (datC (dat1 x0) (dat1 x1)) := rfl
@[go_sem] theorem ynp93 : Yn.pure 93 = true := rfl
@[go_sem] theorem ynf93 {x0 : D} : Yn.pf 93 [x0] = .b (setOk (set1 x0)) := rfl
@[go_sem] theorem ynp83 : Yn.pure 83 = true := rfl
@[go_sem] theorem ynf83 {x0 : D} : Yn.pf 83 [x0] = .b (setOk (set1 x0)) := rfl
@[go_sem] theorem ynp117 : Yn.pure 117 = true := rfl
@[go_sem] theorem ynf117 {x0 : D} : Yn.pf 117 [x0] = .b (singleB (int1 x0)) := rfl
@[go_sem] theorem ynp85 : Yn.pure 85 = true := rfl
@[go_sem] theorem ynf85 {x0 x1 : D} : Yn.pf 85 [x0, x1] = .i (rOrd (set1 x0) (set1 x1)) := rfl
@[go_sem] theorem ynp63 : Yn.pure 63 = true := rfl
@[go_sem] theorem ynf63 {x0 x1 : D} : Yn.pf 63 [x0, x1] = .b (sameB (set1 x0) (set1 x1)) := rfl
@[go_sem] theorem ynp165 : Yn.pure 165 = true := rfl
@[go_sem] theorem ynf165 {x0 x1 : D} : Yn.pf 165 [x0, x1] = .b (hasSuf (str1 x0) (str1 x1)) := rfl
@[go_sem] theorem ynp141 : Yn.pure 141 = true := rfl
@[go_sem] theorem ynf141 {x0 x1 : D} : Yn.pf 141 [x0, x1] = .b (hasSuf (str1 x0) (str1 x1)) := rfl
@[go_sem] theorem ynp102 : Yn.pure 102 = true := rfl
@[go_sem] theorem ynf102 {x0 x1 : D} : Yn.pf 102 [x0, x1] = .tuple [.b (underV (str1 x0) (str1 x1)), .i (if nameOk (str1 x0) && nameOk (str1 x1) then 0 else 11)] := rfl
@[go_sem] theorem ynp84 : Yn.pure 84 = true := rfl
@[go_sem] theorem ynf84 {x0 x1 : D} : Yn.pf 84 [x0, x1] = .b (inB (str1 x0) (str1 x1)) := rfl
@[go_sem] theorem ynp82 : Yn.pure 82 = true := rfl
@[go_sem] theorem ynf82 {x0 : D} : Yn.pf 82 [x0] = .b (wild1 (str1 x0)) := rfl
@[go_sem] theorem ynp101 : Yn.pure 101 = true := rfl
@[go_sem] theorem ynf101 {x0 x1 x2 x3 : D} : Yn.pf 101 [x0, x1, x2, x3] = .i (qC ⟨(str1 x0), (int1 x1)⟩ ⟨(str1 x2), (int1 x3)⟩) := rfl
@[go_sem] theorem ynp92 : Yn.pure 92 = true := rfl
@[go_sem] theorem ynf92 {x0 x1 : D} : Yn.pf 92 [x0, x1] = .i (qC (qst1 x0) (qst1 x1)) := rfl
@[go_sem] theorem ynp103 : Yn.pure 103 = true := rfl
@[go_sem] theorem ynf103 {x0 x1 : D} : Yn.pf 103 [x0, x1] = .b (fits (int1 x0) (bool1 x1)) := rfl
@[go_sem] theorem ynp86 : Yn.pure 86 = true := rfl
@[go_sem] theorem ynf86 {x0 x1 : D} : Yn.pf 86 [x0, x1] = .b (fits (int1 x0) (bool1 x1)) := rfl
@[go_sem] theorem ynp104 : Yn.pure 104 = true := rfl
@[go_sem] theorem ynf104 {x0 x1 : D} : Yn.pf 104 [x0, x1] = .b (sigsOk (sigs1 x0) (str1 x1)) := rfl
@[go_sem] theorem ynp89 : Yn.pure 89 = true := rfl
@[go_sem] theorem ynf89 {x0 x1 : D} : Yn.pf 89 [x0, x1] = .b (sigsOk (sigs1 x0) (str1 x1)) := rfl
@[go_sem] theorem ynp61 : Yn.pure 61 = true := rfl
@[go_sem] theorem ynf61 {x0 : D} : Yn.pf 61 [x0] = .b (qOk (qst1 x0)) := rfl
@[go_sem] theorem ynp111 : Yn.pure 111 = true := rfl
@[go_sem] theorem ynf111 {x0 : D} : Yn.pf 111 [x0] = .b (qOk (qst1 x0)) := rfl
@[go_sem] theorem ynp20 : Yn.pure 20 = true := rfl
@[go_sem] theorem ynf20 {x0 x1 : D} : Yn.pf 20 [x0, x1] = .b (sameSgd (sgd1 x0) (sgd1 x1)) := rfl
@[go_sem] theorem ynp60 : Yn.pure 60 = true := rfl
@[go_sem] theorem ynf60 {x0 x1 : D} : Yn.pf 60 [x0, x1] = .b (sameList (sgds1 x0) (sgds1 x1)) := rfl
@[go_sem] theorem ynp18 : Yn.pure 18 = true := rfl
@[go_sem] theorem ynf18 {x0 x1 : D} : Yn.pf 18 [x0, x1] = .b (sameZ (zon1 x0) (zon1 x1)) := rfl
@[go_sem] theorem ynp100 : Yn.pure 100 = true := rfl
@[go_sem] theorem ynf100 {x0 x1 : D} : Yn.pf 100 [x0, x1] = .i (qC (sgd1 x0).q (qst1 x1)) := rfl
@[go_sem] theorem ynp99 : Yn.pure 99 = true := rfl
@[go_sem] theorem ynf99 {x0 x1 x2 : D} : Yn.pf 99 [x0, x1, x2] = .tuple [.i (findIx (sgds1 x0) (qst1 x1)), .b (findOk (sgds1 x0) (qst1 x1))] := rfl
@[go_sem] theorem ynp46 : Yn.pure 46 = true := rfl
@[go_sem] theorem ynf46 {x0 x1 : D} : Yn.pf 46 [x0, x1] = .tuple [.i (findIx (zon1 x0).sets (qst1 x1)), .b (findOk (zon1 x0).sets (qst1 x1))] := rfl
@[go_sem] theorem ynp47 : Yn.pure 47 = true := rfl
@[go_sem] theorem ynf47 {x0 : D} : Yn.pf 47 [x0] = .b (ordered (zon1 x0)) := rfl
@[go_sem] theorem ynp48 : Yn.pure 48 = true := rfl
@[go_sem] theorem ynf48 {x0 : D} : Yn.pf 48 [x0] = .b (apexHolds (zon1 x0)) := rfl
@[go_sem] theorem ynp50 : Yn.pure 50 = true := rfl
@[go_sem] theorem ynf50 {x0 : D} : Yn.pf 50 [x0] = .b (aliasB (lay1 x0)) := rfl
@[go_sem] theorem ynp51 : Yn.pure 51 = true := rfl
@[go_sem] theorem ynf51 {x0 : D} : Yn.pf 51 [x0] = .b (cutB (lay1 x0)) := rfl
@[go_sem] theorem ynp52 : Yn.pure 52 = true := rfl
@[go_sem] theorem ynf52 {x0 : D} : Yn.pf 52 [x0] = .b (glueB (lay1 x0)) := rfl
@[go_sem] theorem ynp53 : Yn.pure 53 = true := rfl
@[go_sem] theorem ynf53 {x0 : D} : Yn.pf 53 [x0] = .b (formB (lay1 x0)) := rfl
@[go_sem] theorem ynp49 : Yn.pure 49 = true := rfl
@[go_sem] theorem ynf49 {x0 : D} : Yn.pf 49 [x0] = .agg (layOf (zon1 x0)).d := rfl
@[go_sem] theorem ynp14 : Yn.pure 14 = true := rfl
@[go_sem] theorem ynf14 {x0 : D} : Yn.pf 14 [x0] = .b (zoneOk (zon1 x0)) := rfl
@[go_sem] theorem ynp13 : Yn.pure 13 = true := rfl
@[go_sem] theorem ynf13 {x0 : D} : Yn.pf 13 [x0] = .tuple [.i (if zoneOk (zon1 x0) then serialOf (zon1 x0) else 0), .i (if zoneOk (zon1 x0) then 0 else 1)] := rfl
@[go_sem] theorem ynp59 : Yn.pure 59 = true := rfl
@[go_sem] theorem ynf59 {x0 x1 : D} : Yn.pf 59 [x0, x1] = .i (atF (zon1 x0).sets (qst1 x1)) := rfl
@[go_sem] theorem ynp32 : Yn.pure 32 = true := rfl
@[go_sem] theorem ynf32 {x0 : D} : Yn.pf 32 [x0] = .b (oneB (zon1 x0)) := rfl
@[go_sem] theorem ynp33 : Yn.pure 33 = true := rfl
@[go_sem] theorem ynf33 {x0 : D} : Yn.pf 33 [x0] = .b (twoB (zon1 x0)) := rfl
@[go_sem] theorem ynp34 : Yn.pure 34 = true := rfl
@[go_sem] theorem ynf34 {x0 : D} : Yn.pf 34 [x0] = .b (threeB (zon1 x0)) := rfl
@[go_sem] theorem ynp151 : Yn.pure 151 = true := rfl
@[go_sem] theorem ynf151 {x0 : D} : Yn.pf 151 [x0] = .list false ((cutsF (zon1 x0)).map sR) := rfl
@[go_sem] theorem ynp121 : Yn.pure 121 = true := rfl
@[go_sem] theorem ynf121 {x0 : D} : Yn.pf 121 [x0] = .list false ((highF (zon1 x0)).map sR) := rfl
@[go_sem] theorem ynp87 : Yn.pure 87 = true := rfl
@[go_sem] theorem ynf87 {x0 : D} : Yn.pf 87 [x0] = .list false ((behR (zon1 x0)).map sR) := rfl
@[go_sem] theorem ynp35 : Yn.pure 35 = true := rfl
@[go_sem] theorem ynf35 {x0 : D} : Yn.pf 35 [x0] = .b (fourB (zon1 x0)) := rfl
@[go_sem] theorem ynp88 : Yn.pure 88 = true := rfl
@[go_sem] theorem ynf88 {x0 : D} : Yn.pf 88 [x0] = .list false ((ownF (zon1 x0)).map bR) := rfl
@[go_sem] theorem ynp36 : Yn.pure 36 = true := rfl
@[go_sem] theorem ynf36 {x0 : D} : Yn.pf 36 [x0] = .b (fiveB (zon1 x0)) := rfl
@[go_sem] theorem ynp11 : Yn.pure 11 = true := rfl
@[go_sem] theorem ynf11 {x0 : D} : Yn.pf 11 [x0] = .b (refOk (zon1 x0)) := rfl
@[go_sem] theorem ynp17 : Yn.pure 17 = true := rfl
@[go_sem] theorem ynf17 {x0 : D} : Yn.pf 17 [x0] = .i (serialR (zon1 x0)) := rfl
@[go_sem] theorem ynp9 : Yn.pure 9 = true := rfl
@[go_sem] theorem ynf9 {x0 : D} : Yn.pf 9 [x0] = .b (fewZ (zon1 x0)) := rfl
def YnB : Con := { Yn with bs := true }
@[go_sem] theorem ynB_p {k : FuncId} : YnB.pure k = Yn.pure k := rfl
@[go_sem] theorem ynB_f {k : FuncId} {xs : List D} : YnB.pf k xs = Yn.pf k xs := rfl
@[go_sem] theorem ynB_b : YnB.bs = true := rfl
@[go_sem] theorem yn_b : Yn.bs = false := rfl
@[go_sem] theorem yn_c : Yn.cf = false := rfl
@[go_sem] theorem ynB_c : YnB.cf = false := rfl
def YnF : Con := { Yn with cf := true }
@[go_sem] theorem ynF_p {k : FuncId} : YnF.pure k = Yn.pure k := rfl
@[go_sem] theorem ynF_f {k : FuncId} {xs : List D} : YnF.pf k xs = Yn.pf k xs := rfl
@[go_sem] theorem ynF_b : YnF.bs = false := rfl
@[go_sem] theorem ynF_c : YnF.cf = true := rfl
end Go.Proofs.YtfggmgafjabbjaaGreatDoor
namespace Go.Proofs.YtfggmgafjabbjaaGreatDoor
open Go.DL Go.Str Go.Rec Go.Cmp Go.Zon
set_option maxRecDepth 10000
set_option linter.unusedSimpArgs false
set_option linter.unusedVariables false
theorem sig_eqF {x y : RSig} (h : x.zone = y.zone ∧ x.key = y.key ∧ x.alg = y.alg ∧ x.frm = y.frm ∧ x.unt = y.unt ∧ x.sum = y.sum) : x = y := by
  obtain ⟨a, b, c, d, e, f⟩ := x
  obtain ⟨g, i, j, k, l, m⟩ := y
  simp at h
  simp [h]
theorem sig_neF {x y : RSig} (h : ¬x.zone = y.zone ∨ ¬x.key = y.key ∨ ¬x.alg = y.alg ∨ ¬x.frm = y.frm ∨ ¬x.unt = y.unt ∨ ¬x.sum = y.sum) : x ≠ y := by
  rintro rfl
  simp at h
theorem bo20 : hasBody Tryz.prog 20 = true := by kernel_rfl
theorem rsamesg_ct (a : Sgd) (b : Sgd) (ha : fit1 a) : PureCt Tryz.prog 20 [.agg a.d, .agg b.d] (.b (sameSgd a b)) := by
  refine pure_of_dw Tryz.func20 rfl bo20 (by simp [go_sem, D.nr, nrs, nrr]) (by simp [Tryz.f20]) ?_
  unfold Tryz.f20
  simp only [init_eq]
  have ff := True.intro
  have ha2 := ha.2
  refine stp Yn ?_
  refine dw_seq ?_
  refine stp Yn ?_ (hok := by (try simp only [go_sem, ff]); all_goals (first | done | ((repeat' (with_reducible apply And.intro)) <;> first | exact rsame02_ct _ _ ha.1 | (intros; exact rsame02_ct _ _ ha.1) | skip)))
  refine cd (fun c1 => ?_) (fun c1 => ?_)
  · skip
    refine stp Yn ?_
    refine dw_ret ?_
    exact fin 0 (hr := by (try simp only [go_sem, ff]); all_goals (rw [sgd_not1 (by grind [sameB])]))
  · skip
    refine dw_skip ?_
    show DW _ _ _ _ _
    refine dw_seq ?_
    refine stp Yn ?_
    refine dw_block ?_
    refine lp (α := (Nat) × Nat) [2, 3] (fun ⟨k, nx⟩ => (k ≤ a.sigs.length) ∧ (1 < nx) ∧ (∀ i, i < k → a.sigs[i]! = b.sigs[i]!) ∧ True) (fun ⟨k, nx⟩ => a.sigs.length - k) (fun ⟨k, nx⟩ => [(5, .i k)]) (fun ⟨k, nx⟩ => [(0, ⟨49, [a.d]⟩), (1, ⟨49, [b.d]⟩)]) (fun ⟨k, nx⟩ => nx) (0, _) (hA := ⟨iv, iv, (by first | (intro i hi; omega) | (dsimp only; intro i hi; omega)), trivial⟩) (round := ?_)
    rintro ⟨k, nx⟩ ⟨hk, hx, hv, -⟩
    show DW _ _ _ _ { n := _, t := tab _, h := _, nx := _, e := _ }
    simp only [List.cons_append, List.nil_append]
    have n0 : 0 < nx := by omega
    have ff := And.intro @hx (And.intro @n0 ff)
    refine dw_seq ?_
    refine stp Yn ?_
    refine cd (fun c2 => ?_) (fun c2 => ?_) (hp := rfl)
    · skip
      have hk2 : k < a.sigs.length := by simpa using c2
      have hk3 : k < b.sigs.length := by grind
      have ff := And.intro (getD_sig hk2) (And.intro (getD_sig hk3) ff)
      refine dw_skip ?_
      show DW _ _ _ _ _
      refine dw_seq ?_
      refine dw_block ?_
      refine stp Yn ?_
      refine cd (fun c3 => ?_) (fun c3 => ?_)
      · skip
        refine stp Yn ?_
        refine dw_ret ?_
        exact fin 0 (hr := by (try simp only [go_sem, ff]); all_goals (rw [sgd_not2 (sig_neF c3)]))
      · skip
        refine dw_skip ?_
        show DW _ _ _ _ _
        refine rgn Yn ?_
        show ∃ _, _
        exact rnd (k + 1, _) (h1 := ⟨iv, iv, (by (try dsimp only); intro i hi; by_cases e : i = k; subst e; exact sig_eqF c3; exact hv i (by omega)), trivial⟩)
    · skip
      refine dw_exit ?_
      show DW _ _ _ _ _
      refine stp Yn ?_
      refine dw_ret ?_
      exact fin 0 (hr := by (try simp only [go_sem, ff]); all_goals (rw [sgd_same (by grind [sameB]) (by grind) fun i hi => hv i (by omega)]))
theorem bo60 : hasBody Tryz.prog 60 = true := by kernel_rfl
theorem rsamel_ct (a : List Sgd) (b : List Sgd) (ha : fitL a) : PureCt Tryz.prog 60 [.list false (a.map Sgd.d), .list false (b.map Sgd.d)] (.b (sameList a b)) := by
  refine pure_of_dw Tryz.func60 rfl bo60 (by simp [go_sem, D.nr, nrs, nrr]) (by simp [Tryz.f60]) ?_
  unfold Tryz.f60
  simp only [init_eq]
  have ff := True.intro
  have ha1 := ha.1
  refine stp Yn ?_
  refine dw_seq ?_
  refine stp Yn ?_
  refine cd (fun c1 => ?_) (fun c1 => ?_)
  · skip
    refine stp Yn ?_
    refine dw_ret ?_
    exact fin 0 (hr := by (try simp only [go_sem, ff]); all_goals (rw [sgds_len (by grind)]))
  · skip
    refine dw_skip ?_
    show DW _ _ _ _ _
    refine dw_seq ?_
    refine stp Yn ?_
    refine dw_block ?_
    refine lp (α := (Nat) × Nat) [0, 1] (fun ⟨k, nx⟩ => (k ≤ a.length) ∧ (∀ i, i < k → sameSgd a[i]! b[i]! = true) ∧ True) (fun ⟨k, nx⟩ => a.length - k) (fun ⟨k, nx⟩ => [(5, .i k)]) (fun ⟨k, nx⟩ => []) (fun ⟨k, nx⟩ => nx) (0, _) (hA := ⟨iv, (by first | (intro i hi; omega) | (dsimp only; intro i hi; omega)), trivial⟩) (round := ?_)
    rintro ⟨k, nx⟩ ⟨hk, hv, -⟩
    show DW _ _ _ _ { n := _, t := tab _, h := _, nx := _, e := _ }
    simp only [List.cons_append, List.nil_append]
    refine dw_seq ?_
    refine stp Yn ?_
    refine cd (fun c2 => ?_) (fun c2 => ?_) (hp := rfl)
    · skip
      have hk2 : k < a.length := by simpa using c2
      have hk3 : k < b.length := by grind
      have ff := And.intro (getD_sgd hk2) (And.intro (getD_sgd hk3) ff)
      refine dw_skip ?_
      show DW _ _ _ _ _
      refine dw_seq ?_
      refine dw_block ?_
      refine stp Yn ?_ (hok := by (try simp only [go_sem, ff]); all_goals (first | done | ((repeat' (with_reducible apply And.intro)) <;> first | exact rsamesg_ct _ _ (ha.2 k hk2) | (intros; exact rsamesg_ct _ _ (ha.2 k hk2)) | omega | skip)))
      refine cd (fun c3 => ?_) (fun c3 => ?_)
      · skip
        refine stp Yn ?_
        refine dw_ret ?_
        exact fin 0 (hr := by (try simp only [go_sem, ff]); all_goals (rw [sgd_not3 (k := k) (by grind)]))
      · skip
        refine dw_skip ?_
        show DW _ _ _ _ _
        refine rgn Yn ?_
        show ∃ _, _
        exact rnd (k + 1, _) (h1 := ⟨iv, (by (try dsimp only); intro i hi; by_cases e : i = k; subst e; grind; exact hv i (by omega)), trivial⟩)
    · skip
      refine dw_exit ?_
      show DW _ _ _ _ _
      refine stp Yn ?_
      refine dw_ret ?_
      exact fin 0 (hr := by (try simp only [go_sem, ff]); all_goals (rw [sgds_same (by grind) fun i hi => hv i (by omega)]))
theorem bo18 : hasBody Tryz.prog 18 = true := by kernel_rfl
theorem rsamez_ct (a : Zon) (b : Zon) (ha : fitL a.sets) : PureCt Tryz.prog 18 [.agg a.d, .agg b.d] (.b (sameZ a b)) := by
  refine pure_of_dw Tryz.func18 rfl bo18 (by simp [go_sem, D.nr, nrs, nrr]) (by simp [Tryz.f18]) ?_
  unfold Tryz.f18
  simp only [init_eq]
  have ff := True.intro
  refine stp Yn ?_
  refine stp Yn ?_ (hok := by (try simp only [go_sem, ff]); all_goals (first | done | ((repeat' (with_reducible apply And.intro)) <;> first | exact rsamel_ct _ _ ha | (intros; exact rsamel_ct _ _ ha) | skip)))
  refine dw_ret ?_
  exact fin 0 (hr := by (try simp only [go_sem, ff]); all_goals (simp [sameZ_eq]))
theorem bo59 : hasBody Tryz.prog 59 = true := by kernel_rfl
theorem rat06_ct (z : Zon) (q : Qst) (hl : z.sets.length ≤ 1000000) : PureCt Tryz.prog 59 [.agg z.d, .agg q.d] (.i (atF z.sets q)) := by
  refine pure_of_dw Tryz.func59 rfl bo59 (by simp [go_sem, D.nr, nrs, nrr]) (by simp [Tryz.f59]) ?_
  unfold Tryz.f59
  simp only [init_eq]
  have ff := True.intro
  refine stp Yn ?_
  refine dw_seq ?_
  refine stp Yn ?_
  refine dw_block ?_
  refine lp (α := (Nat) × Nat) [2, 3] (fun ⟨k, nx⟩ => (k ≤ z.sets.length) ∧ (1 < nx) ∧ (atF z.sets q = ixFrom z.sets q k) ∧ True) (fun ⟨k, nx⟩ => z.sets.length - k) (fun ⟨k, nx⟩ => [(5, .i k)]) (fun ⟨k, nx⟩ => [(0, ⟨24, [z.d]⟩), (1, ⟨43, [q.d]⟩)]) (fun ⟨k, nx⟩ => nx) (0, _) (hA := ⟨iv, iv, rfl, trivial⟩) (round := ?_)
  rintro ⟨k, nx⟩ ⟨hk, hx, hv, -⟩
  show DW _ _ _ _ { n := _, t := tab _, h := _, nx := _, e := _ }
  simp only [List.cons_append, List.nil_append]
  have n0 : 0 < nx := by omega
  have ff := And.intro @hx (And.intro @n0 ff)
  refine dw_seq ?_
  refine stp Yn ?_
  refine cd (fun c1 => ?_) (fun c1 => ?_) (hp := rfl)
  · skip
    have hk2 : k < z.sets.length := by simpa using c1
    have ff := And.intro (getD_sgd hk2) ff
    refine dw_skip ?_
    show DW _ _ _ _ _
    refine dw_seq ?_
    refine dw_block ?_
    refine stp Yn ?_
    refine cd (fun c2 => ?_) (fun c2 => ?_)
    · skip
      refine stp Yn ?_
      refine dw_ret ?_
      exact fin 0 (hr := by (try simp only [go_sem, ff]); all_goals (rw [hv, ixFrom_eq, if_pos hk2, if_pos (by cases q; simp_all [Sgd.q])]))
    · skip
      refine dw_skip ?_
      show DW _ _ _ _ _
      refine rgn Yn ?_
      show ∃ _, _
      exact rnd (k + 1, _) (h1 := ⟨iv, iv, (by (try dsimp only); rw [hv, ixFrom_eq, if_pos hk2, if_neg (by intro e; rw [← e] at c2; simp [Sgd.q] at c2)]), trivial⟩)
  · skip
    refine dw_exit ?_
    show DW _ _ _ _ _
    refine stp Yn ?_
    refine dw_ret ?_
    exact fin 0 (hr := by (try simp only [go_sem, ff]); all_goals (rw [hv, ixFrom_eq, if_neg (by omega)]))
theorem bo33 : hasBody Tryz.prog 33 = true := by kernel_rfl
theorem r06two_ct (z : Zon) (hl : z.sets.length ≤ 1000000) : PureCt Tryz.prog 33 [.agg z.d] (.b (twoB z)) := by
  refine pure_of_dw Tryz.func33 rfl bo33 (by simp [go_sem, D.nr, nrs, nrr]) (by simp [Tryz.f33]) ?_
  unfold Tryz.f33
  simp only [init_eq]
  have ff := True.intro
  refine stp Yn ?_
  refine dw_seq ?_
  refine stp Yn ?_ (hok := by (try simp only [go_sem, ff]); all_goals (first | done | ((repeat' (with_reducible apply And.intro)) <;> first | exact rat06_ct z ⟨z.apex, 4⟩ hl | (intros; exact rat06_ct z ⟨z.apex, 4⟩ hl) | exact rat06_ct z ⟨z.apex, 2⟩ hl | (intros; exact rat06_ct z ⟨z.apex, 2⟩ hl) | skip)))
  refine cd (fun c1 => ?_) (fun c1 => ?_)
  · skip
    refine stp Yn ?_
    refine dw_ret ?_
    exact fin 0 (hr := by (try simp only [go_sem, ff]); all_goals (simp only [twoB]; grind))
  · skip
    refine dw_skip ?_
    show DW _ _ _ _ _
    refine dw_seq ?_
    refine stp Yn ?_
    refine dw_block ?_
    refine lp (α := (Nat) × Nat) [1] (fun ⟨k, nx⟩ => (k ≤ z.sets.length) ∧ (allN z.sets.length (fitAt z.apex z.sets) 0 = allN z.sets.length (fitAt z.apex z.sets) k) ∧ (0 < nx) ∧ True) (fun ⟨k, nx⟩ => z.sets.length - k) (fun ⟨k, nx⟩ => [(3, .i k)]) (fun ⟨k, nx⟩ => [(0, ⟨24, [z.d]⟩)]) (fun ⟨k, nx⟩ => nx) (0, _) (hA := ⟨iv, rfl, iv, trivial⟩) (round := ?_)
    rintro ⟨k, nx⟩ ⟨hk, hv, hx, -⟩
    show DW _ _ _ _ { n := _, t := tab _, h := _, nx := _, e := _ }
    simp only [List.cons_append, List.nil_append]
    have ff := And.intro @hx ff
    refine dw_seq ?_
    refine stp Yn ?_
    refine cd (fun c2 => ?_) (fun c2 => ?_) (hp := rfl)
    · skip
      have hk2 : k < z.sets.length := by simpa using c2
      have ff := And.intro (getD_sgd hk2) ff
      refine dw_skip ?_
      show DW _ _ _ _ _
      refine dw_seq ?_
      refine dw_block ?_
      refine stp Yn ?_ (hok := by (try simp only [go_sem, ff]); all_goals (first | done | ((repeat' (with_reducible apply And.intro)) <;> first | exact rplaced_ct _ _ | (intros; exact rplaced_ct _ _) | omega | skip)))
      refine cd (fun c3 => ?_) (fun c3 => ?_)
      · skip
        refine stp Yn ?_
        refine dw_ret ?_
        exact fin 0 (hr := by (try simp only [go_sem, ff]); all_goals (have hF : (fitAt z.apex z.sets) k = false := (by simp only [fitAt]; grind); simp only [twoB]; rw [hv, allN_no hk2 hF]; try simp))
      · skip
        refine dw_skip ?_
        show DW _ _ _ _ _
        refine rgn Yn ?_
        show ∃ _, _
        have h8 : (fitAt z.apex z.sets) k = true := by simp only [fitAt]; grind
        exact rnd (k + 1, _) (h1 := ⟨iv, (by first | (rw [hv, allN_yes hk2 h8]) | (dsimp only; rw [hv, allN_yes hk2 h8])), iv, trivial⟩)
    · skip
      refine dw_exit ?_
      show DW _ _ _ _ _
      refine stp Yn ?_
      refine dw_ret ?_
      exact fin 0 (hr := by (try simp only [go_sem, ff]); all_goals (simp only [twoB]; rw [hv, allN_end (by omega)]; grind))
theorem bo32 : hasBody Tryz.prog 32 = true := by kernel_rfl
theorem r06one_ct (z : Zon) : PureCt Tryz.prog 32 [.agg z.d] (.b (oneB z)) := by
  refine pure_of_dw Tryz.func32 rfl bo32 (by simp [go_sem, D.nr, nrs, nrr]) (by simp [Tryz.f32]) ?_
  unfold Tryz.f32
  simp only [init_eq]
  have ff := True.intro
  refine stp Yn ?_
  refine dw_seq ?_
  refine stp Yn ?_ (hok := by (try simp only [go_sem, ff]); all_goals (first | done | ((repeat' (with_reducible apply And.intro)) <;> first | exact rnvalid_ct _ | (intros; exact rnvalid_ct _) | exact (fun _ => rwild1_ct _ (by have := nameOk_len (by assumption); omega)) | (intros; exact (fun _ => rwild1_ct _ (by have := nameOk_len (by assumption); omega))) | exact (fun h => rwild1_ct _ (by have := nameOk_len (by simpa using h); omega)) | (intros; exact (fun h => rwild1_ct _ (by have := nameOk_len (by simpa using h); omega))) | skip)))
  refine cd (fun c1 => ?_) (fun c1 => ?_)
  · skip
    refine stp Yn ?_
    refine dw_ret ?_
    exact fin 0 (hr := by (try simp only [go_sem, ff]); all_goals (simp only [oneB]; grind))
  · skip
    refine dw_skip ?_
    show DW _ _ _ _ _
    refine dw_seq ?_
    refine stp Yn ?_
    refine dw_block ?_
    refine lp (α := (Nat) × Nat) [1] (fun ⟨k, nx⟩ => (k ≤ z.sets.length) ∧ (allN z.sets.length (oneAt z.apex z.sets) 0 = allN z.sets.length (oneAt z.apex z.sets) k) ∧ (0 < nx) ∧ True) (fun ⟨k, nx⟩ => z.sets.length - k) (fun ⟨k, nx⟩ => [(3, .i k)]) (fun ⟨k, nx⟩ => [(0, ⟨24, [z.d]⟩)]) (fun ⟨k, nx⟩ => nx) (0, _) (hA := ⟨iv, rfl, iv, trivial⟩) (round := ?_)
    rintro ⟨k, nx⟩ ⟨hk, hv, hx, -⟩
    show DW _ _ _ _ { n := _, t := tab _, h := _, nx := _, e := _ }
    simp only [List.cons_append, List.nil_append]
    have ff := And.intro @hx ff
    refine dw_seq ?_
    refine stp Yn ?_
    refine cd (fun c2 => ?_) (fun c2 => ?_) (hp := rfl)
    · skip
      have hk2 : k < z.sets.length := by simpa using c2
      have hk1 : k - 1 < z.sets.length := by omega
      have e1 : ((k:Int) - 1).toNat = k - 1 := by omega
      have ff := And.intro (getD_sgd hk2) (And.intro (getD_sgd hk1) (And.intro @e1 ff))
      refine dw_skip ?_
      show DW _ _ _ _ _
      refine dw_seq ?_
      refine dw_block ?_
      refine stp Yn ?_
      refine stp Yn ?_ (hok := by (try simp only [go_sem, ff]); all_goals (first | done | ((repeat' (with_reducible apply And.intro)) <;> first | exact rrvalid_ct _ | (intros; exact rrvalid_ct _) | exact rord02_ct _ _ | (intros; exact rord02_ct _ _) | exact (fun h => rin1_ct _ _ (set_nm (by simpa using h)) (by have := nameOk_len c1.1.1; omega)) | (intros; exact (fun h => rin1_ct _ _ (set_nm (by simpa using h)) (by have := nameOk_len c1.1.1; omega))) | omega | (intro h; simp only [Bool.and_eq_true, decide_eq_true_eq] at h; omega) | (intros; simp_all; done) | skip)))
      refine cd (fun c3 => ?_) (fun c3 => ?_)
      · skip
        refine stp Yn ?_
        refine dw_ret ?_
        exact fin 0 (hr := by (try simp only [go_sem, ff]); all_goals (have hF : (oneAt z.apex z.sets) k = false := (by simp only [oneAt]; grind); simp only [oneB]; rw [hv, allN_no hk2 hF]; try simp))
      · skip
        refine dw_skip ?_
        show DW _ _ _ _ _
        refine rgn Yn ?_
        show ∃ _, _
        have h8 : (oneAt z.apex z.sets) k = true := by simp only [oneAt]; grind
        exact rnd (k + 1, _) (h1 := ⟨iv, (by first | (rw [hv, allN_yes hk2 h8]) | (dsimp only; rw [hv, allN_yes hk2 h8])), iv, trivial⟩)
    · skip
      refine dw_exit ?_
      show DW _ _ _ _ _
      refine stp Yn ?_
      refine dw_ret ?_
      exact fin 0 (hr := by (try simp only [go_sem, ff]); all_goals (simp only [oneB]; rw [hv, allN_end (by omega)]; grind))
theorem bo17 : hasBody Tryz.prog 17 = true := by kernel_rfl
theorem r06serial_ct (z : Zon) (hl : z.sets.length ≤ 1000000) (h0 : 0 ≤ atF z.sets ⟨z.apex, 4⟩) (h1 : 0 < z.sets[(atF z.sets ⟨z.apex, 4⟩).toNat]!.set.data.length) : PureCt Tryz.prog 17 [.agg z.d] (.i (serialR z)) := by
  refine pure_of_dw Tryz.func17 rfl bo17 (by simp [go_sem, D.nr, nrs, nrr]) (by simp [Tryz.f17]) ?_
  unfold Tryz.f17
  simp only [init_eq]
  have ff := True.intro
  have h2 := atF_lt z.sets ⟨z.apex, 4⟩
  have h3 : (atF z.sets ⟨z.apex, 4⟩).toNat < z.sets.length := by omega
  refine stp Yn ?_
  skip
  have ff := And.intro (getD_sgd h3) (And.intro (getD_dat h1) ff)
  refine stp Yn ?_ (hok := by (try simp only [go_sem, ff]); all_goals (first | done | ((repeat' (with_reducible apply And.intro)) <;> first | exact rat06_ct z ⟨z.apex, 4⟩ hl | (intros; exact rat06_ct z ⟨z.apex, 4⟩ hl) | omega | skip)))
  refine dw_ret ?_
  exact fin 0 (hr := by (try simp only [go_sem, ff]); all_goals (rfl))
theorem bo9 : hasBody Tryz.prog 9 = true := by kernel_rfl
theorem r06few_ct (z : Zon) : PureCt Tryz.prog 9 [.agg z.d] (.b (fewZ z)) := by
  refine pure_of_dw Tryz.func9 rfl bo9 (by simp [go_sem, D.nr, nrs, nrr]) (by simp [Tryz.f9]) ?_
  unfold Tryz.f9
  simp only [init_eq]
  have ff := True.intro
  refine stp Yn ?_
  refine dw_seq ?_
  refine stp Yn ?_
  refine dw_block ?_
  refine lp (α := (Nat) × Nat) [1] (fun ⟨k, nx⟩ => (k ≤ z.sets.length) ∧ (allN z.sets.length (fun i => decide (z.sets[i]!.set.data.length ≤ 20) && decide (z.sets[i]!.sigs.length ≤ 20)) 0 = allN z.sets.length (fun i => decide (z.sets[i]!.set.data.length ≤ 20) && decide (z.sets[i]!.sigs.length ≤ 20)) k) ∧ (0 < nx) ∧ (k ≤ 101) ∧ True) (fun ⟨k, nx⟩ => z.sets.length - k) (fun ⟨k, nx⟩ => [(3, .i k)]) (fun ⟨k, nx⟩ => [(0, ⟨24, [z.d]⟩)]) (fun ⟨k, nx⟩ => nx) (0, _) (hA := ⟨iv, rfl, iv, iv, trivial⟩) (round := ?_)
  rintro ⟨k, nx⟩ ⟨hk, hv, hx, hk7, -⟩
  show DW _ _ _ _ { n := _, t := tab _, h := _, nx := _, e := _ }
  simp only [List.cons_append, List.nil_append]
  have ff := And.intro @hx ff
  refine dw_seq ?_
  refine stp Yn ?_
  refine cd (fun c1 => ?_) (fun c1 => ?_)
  · skip
    have hk2 : k < z.sets.length := by grind
    have hk9 : k ≤ 100 := by grind
    have ff := And.intro (getD_sgd hk2) ff
    refine dw_skip ?_
    show DW _ _ _ _ _
    refine dw_seq ?_
    refine dw_block ?_
    refine stp Yn ?_
    refine cd (fun c2 => ?_) (fun c2 => ?_)
    · skip
      refine stp Yn ?_
      refine dw_ret ?_
      exact fin 0 (hr := by (try simp only [go_sem, ff]); all_goals (have hF : (fun i => decide (z.sets[i]!.set.data.length ≤ 20) && decide (z.sets[i]!.sigs.length ≤ 20)) k = false := (by grind); simp only [fewZ]; rw [hv, allN_no hk2 hF]; try simp))
    · skip
      refine dw_skip ?_
      show DW _ _ _ _ _
      refine rgn Yn ?_
      show ∃ _, _
      have h8 : (fun i => decide (z.sets[i]!.set.data.length ≤ 20) && decide (z.sets[i]!.sigs.length ≤ 20)) k = true := by grind
      exact rnd (k + 1, _) (h1 := ⟨iv, (by first | (rw [hv, allN_yes hk2 h8]) | (dsimp only; rw [hv, allN_yes hk2 h8])), iv, iv, trivial⟩)
  · skip
    refine dw_exit ?_
    show DW _ _ _ _ _
    refine stp Yn ?_
    refine dw_ret ?_
    exact fin 0 (hr := by (try simp only [go_sem, ff]); all_goals (simp only [fewZ]; by_cases h100 : z.sets.length ≤ 100; rw [hv, allN_end (by grind)]; simp; omega; simp [h100]; omega))
theorem bo34 : hasBody Tryz.prog 34 = true := by kernel_rfl
theorem r06three_ct (z : Zon) (hl : z.sets.length ≤ 1000000) : PureCt Tryz.prog 34 [.agg z.d] (.b (threeB z)) := by
  refine pure_of_dw Tryz.func34 rfl bo34 (by simp [go_sem, D.nr, nrs, nrr]) (by simp [Tryz.f34]) ?_
  unfold Tryz.f34
  simp only [init_eq]
  have ff := True.intro
  refine stp Yn ?_
  refine stp Yn ?_
  refine dw_seq ?_
  refine stp Yn ?_
  refine dw_block ?_
  refine lp (α := (Nat) × (Str) × Nat) [1] (fun ⟨k, al, nx⟩ => (k ≤ z.sets.length) ∧ (0 < nx) ∧ (al = aliasTo z.sets k) ∧ (allN z.sets.length (threeAt z.sets) 0 = allN z.sets.length (threeAt z.sets) k) ∧ True) (fun ⟨k, al, nx⟩ => z.sets.length - k) (fun ⟨k, al, nx⟩ => [(3, .v (.string (bs al))), (4, .i k)]) (fun ⟨k, al, nx⟩ => [(0, ⟨24, [z.d]⟩)]) (fun ⟨k, al, nx⟩ => nx) (0, [], _) (hA := ⟨iv, iv, rfl, rfl, trivial⟩) (round := ?_)
  rintro ⟨k, al, nx⟩ ⟨hk, hx, ha, hv, -⟩
  show DW _ _ _ _ { n := _, t := tab _, h := _, nx := _, e := _ }
  simp only [List.cons_append, List.nil_append]
  have ff := And.intro @hx ff
  refine dw_seq ?_
  refine stp Yn ?_
  refine cd (fun c1 => ?_) (fun c1 => ?_) (hp := rfl)
  · skip
    have hk2 : k < z.sets.length := by simpa using c1
    have hk1 : k - 1 < z.sets.length := by omega
    have e1 : ((k:Int) - 1).toNat = k - 1 := by omega
    have ff := And.intro (getD_sgd hk2) (And.intro (getD_sgd hk1) (And.intro @e1 ff))
    refine dw_skip ?_
    show DW _ _ _ _ _
    refine dw_seq ?_
    refine dw_block ?_
    refine dw_seq ?_
    refine stp Yn ?_
    refine cd (fun c2 => ?_) (fun c2 => ?_)
    · skip
      refine rgn Yn ?_
      show DW _ _ _ _ _
      refine stp Yn ?_
      refine stp Yn ?_
      refine dw_seq ?_
      refine stp Yn ?_
      refine cd (fun c3 => ?_) (fun c3 => ?_)
      · skip
        refine rgn Yn ?_
        show DW _ _ _ _ _
        refine stp Yn ?_ (hok := by (try simp only [go_sem, ff]); all_goals (first | done | grind | (simp; grind)))
        refine cd (fun c4 => ?_) (fun c4 => ?_)
        · skip
          refine stp Yn ?_
          refine dw_ret ?_
          exact fin 0 (hr := by (try simp only [go_sem, ff]); all_goals (have hF : (threeAt z.sets) k = false := (by simp only [threeAt, prevN, aliasTo]; grind); simp only [threeB]; rw [hv, allN_no hk2 hF]; try simp))
        · skip
          refine dw_skip ?_
          show DW _ _ _ _ _
          refine rgn Yn ?_
          show ∃ _, _
          have hal : aliasTo z.sets (k + 1) = z.sets[k]!.set.name := by simp only [aliasTo]; grind
          have ff := And.intro hal ff
          have h8 : threeAt z.sets k = true := by simp only [threeAt, prevN, hal]; grind
          exact rnd (k + 1, aliasTo z.sets (k + 1), _) (h1 := ⟨iv, iv, rfl, (by first | (rw [hv, allN_yes hk2 h8]) | (dsimp only; rw [hv, allN_yes hk2 h8])), trivial⟩)
      · skip
        refine dw_skip ?_
        show DW _ _ _ _ _
        refine stp Yn ?_ (hok := by (try simp only [go_sem, ff]); all_goals (first | done | grind | (simp; grind)))
        refine cd (fun c4 => ?_) (fun c4 => ?_)
        · skip
          refine stp Yn ?_
          refine dw_ret ?_
          exact fin 0 (hr := by (try simp only [go_sem, ff]); all_goals (have hF : (threeAt z.sets) k = false := (by simp only [threeAt, prevN, aliasTo]; grind); simp only [threeB]; rw [hv, allN_no hk2 hF]; try simp))
        · skip
          refine dw_skip ?_
          show DW _ _ _ _ _
          refine rgn Yn ?_
          show ∃ _, _
          have hal : aliasTo z.sets (k + 1) = z.sets[k]!.set.name := by simp only [aliasTo]; grind
          have ff := And.intro hal ff
          have h8 : threeAt z.sets k = true := by simp only [threeAt, prevN, hal]; grind
          exact rnd (k + 1, aliasTo z.sets (k + 1), _) (h1 := ⟨iv, iv, rfl, (by first | (rw [hv, allN_yes hk2 h8]) | (dsimp only; rw [hv, allN_yes hk2 h8])), trivial⟩)
    · skip
      refine dw_skip ?_
      show DW _ _ _ _ _
      refine stp Yn ?_
      refine stp Yn ?_
      refine dw_seq ?_
      refine stp Yn ?_
      refine cd (fun c3 => ?_) (fun c3 => ?_)
      · skip
        refine rgn Yn ?_
        show DW _ _ _ _ _
        refine stp Yn ?_ (hok := by (try simp only [go_sem, ff]); all_goals (first | done | grind | (simp; grind)))
        refine cd (fun c4 => ?_) (fun c4 => ?_)
        · skip
          refine stp Yn ?_
          refine dw_ret ?_
          exact fin 0 (hr := by (try simp only [go_sem, ff]); all_goals (have hF : (threeAt z.sets) k = false := (by simp only [threeAt, prevN, aliasTo]; grind); simp only [threeB]; rw [hv, allN_no hk2 hF]; try simp))
        · skip
          refine dw_skip ?_
          show DW _ _ _ _ _
          refine rgn Yn ?_
          show ∃ _, _
          have hal : aliasTo z.sets (k + 1) = al := by simp only [aliasTo]; grind
          have ff := And.intro hal ff
          have h8 : threeAt z.sets k = true := by simp only [threeAt, prevN, hal]; grind
          exact rnd (k + 1, aliasTo z.sets (k + 1), _) (h1 := ⟨iv, iv, rfl, (by first | (rw [hv, allN_yes hk2 h8]) | (dsimp only; rw [hv, allN_yes hk2 h8])), trivial⟩)
      · skip
        refine dw_skip ?_
        show DW _ _ _ _ _
        refine stp Yn ?_ (hok := by (try simp only [go_sem, ff]); all_goals (first | done | grind | (simp; grind)))
        refine cd (fun c4 => ?_) (fun c4 => ?_)
        · skip
          refine stp Yn ?_
          refine dw_ret ?_
          exact fin 0 (hr := by (try simp only [go_sem, ff]); all_goals (have hF : (threeAt z.sets) k = false := (by simp only [threeAt, prevN, aliasTo]; grind); simp only [threeB]; rw [hv, allN_no hk2 hF]; try simp))
        · skip
          refine dw_skip ?_
          show DW _ _ _ _ _
          refine rgn Yn ?_
          show ∃ _, _
          have hal : aliasTo z.sets (k + 1) = al := by simp only [aliasTo]; grind
          have ff := And.intro hal ff
          have h8 : threeAt z.sets k = true := by simp only [threeAt, prevN, hal]; grind
          exact rnd (k + 1, aliasTo z.sets (k + 1), _) (h1 := ⟨iv, iv, rfl, (by first | (rw [hv, allN_yes hk2 h8]) | (dsimp only; rw [hv, allN_yes hk2 h8])), trivial⟩)
  · skip
    refine dw_exit ?_
    show DW _ _ _ _ _
    refine stp Yn ?_
    refine dw_ret ?_
    exact fin 0 (hr := by (try simp only [go_sem, ff]); all_goals (simp only [threeB]; rw [hv, allN_end (by omega)]))

end Go.Proofs.YtfggmgafjabbjaaGreatDoor
namespace Go.Proofs.YtfggmgafjabbjaaGreatDoor
open Go.DL Go.Str Go.Rec Go.Cmp Go.Zon
set_option maxRecDepth 10000
set_option linter.unusedSimpArgs false
set_option linter.unusedVariables false
@[go_sem] theorem cutsR_0 {z : Zon} : cutsR z 0 = [] := rfl
@[go_sem] theorem highTo_0 {cs : List Str} : highTo cs 0 = [] := rfl
@[go_sem] theorem sR_snoc {l : List Str} {x : Str} : (l ++ [x]).map sR = l.map sR ++ [[.v (.string (bs x))]] := by simp [sR]
theorem cutsR_yes {z : Zon} {k : Nat} (h : z.sets[k]!.set.ty = 2 ∧ ¬ z.sets[k]!.set.name = z.apex) : cutsR z (k + 1) = cutsR z k ++ [z.sets[k]!.set.name] := if_pos h
theorem cutsR_no {z : Zon} {k : Nat} (h : ¬ (z.sets[k]!.set.ty = 2 ∧ ¬ z.sets[k]!.set.name = z.apex)) : cutsR z (k + 1) = cutsR z k := if_neg h
theorem cutsR_len (z : Zon) : ∀ k, (cutsR z k).length ≤ k
  | 0 => Nat.le_refl _
  | k + 1 => by
    have := cutsR_len z k
    by_cases h : z.sets[k]!.set.ty = 2 ∧ ¬ z.sets[k]!.set.name = z.apex
    · rw [cutsR_yes h, List.length_append]; simp; omega
    · rw [cutsR_no h]; omega
theorem cutsR_nm {z : Zon} (hn : nmsOk z) : ∀ k, k ≤ z.sets.length → ∀ x ∈ cutsR z k, x.length ≤ 1000
  | 0, _, x, hx => by cases hx
  | k + 1, h, x, hx => by
    by_cases h2 : z.sets[k]!.set.ty = 2 ∧ ¬ z.sets[k]!.set.name = z.apex
    · rw [cutsR_yes h2, List.mem_append, List.mem_singleton] at hx
      rcases hx with hx | hx
      · exact cutsR_nm hn k (by omega) x hx
      · subst hx; exact hn.2 k (by omega)
    · rw [cutsR_no h2] at hx; exact cutsR_nm hn k (by omega) x hx
theorem cutsF_len {z : Zon} (hn : nmsOk z) : (cutsF z).length ≤ 1000000 := Nat.le_trans (cutsR_len z _) hn.1
theorem cutsF_nm {z : Zon} (hn : nmsOk z) {k : Nat} (h : k < (cutsF z).length) : (cutsF z)[k]!.length ≤ 1000 := by
  refine cutsR_nm hn _ (Nat.le_refl _) _ ?_
  show (cutsF z)[k]! ∈ cutsF z
  rw [getElem!_pos (cutsF z) k h]; exact List.getElem_mem h
theorem highTo_yes {cs : List Str} {k : Nat} (h : highTo cs k = [] ∨ inB cs[k]! (highTo cs k)[(highTo cs k).length - 1]! = false) : highTo cs (k + 1) = highTo cs k ++ [cs[k]!] := if_pos h
theorem highTo_no {cs : List Str} {k : Nat} (h : ¬ (highTo cs k = [] ∨ inB cs[k]! (highTo cs k)[(highTo cs k).length - 1]! = false)) : highTo cs (k + 1) = highTo cs k := if_neg h
theorem highTo_mem (cs : List Str) : ∀ k, k ≤ cs.length → (highTo cs k).length ≤ k ∧ ∀ x ∈ highTo cs k, x ∈ cs
  | 0, _ => ⟨Nat.le_refl _, fun x hx => by cases hx⟩
  | k + 1, h => by
    have ih := highTo_mem cs k (by omega)
    by_cases h2 : highTo cs k = [] ∨ inB cs[k]! (highTo cs k)[(highTo cs k).length - 1]! = false
    · rw [highTo_yes h2]
      refine ⟨by rw [List.length_append]; simp; omega, fun x hx => ?_⟩
      rcases List.mem_append.1 hx with hx | hx
      · exact ih.2 x hx
      · rw [List.mem_singleton] at hx; subst hx; rw [getElem!_pos _ _ (by omega)]; exact List.getElem_mem _
    · rw [highTo_no h2]; exact ⟨by omega, ih.2⟩
theorem highTo_nm {z : Zon} (hn : nmsOk z) {k i : Nat} (hk : k ≤ (cutsF z).length) (h : i < (highTo (cutsF z) k).length) : (highTo (cutsF z) k)[i]!.length ≤ 1000 := by
  refine cutsR_nm hn _ (Nat.le_refl _) _ ((highTo_mem _ k hk).2 _ ?_)
  rw [getElem!_pos (highTo (cutsF z) k) i h]; exact List.getElem_mem h
theorem highF_len {z : Zon} (hn : nmsOk z) : (highF z).length ≤ 1000000 := Nat.le_trans (highTo_mem _ _ (Nat.le_refl _)).1 (cutsF_len hn)
theorem highF_nm {z : Zon} (hn : nmsOk z) {i : Nat} (h : i < (highF z).length) : (highF z)[i]!.length ≤ 1000 := highTo_nm hn (Nat.le_refl _) h
theorem bo151 : hasBody Tryz.prog 151 = true := by kernel_rfl
theorem r06cuts_ct (z : Zon) (hl : z.sets.length ≤ 1000000) : PureCt Tryz.prog 151 [.agg z.d] (.list false ((cutsF z).map sR)) := by
  refine pure_of_dw Tryz.func151 rfl bo151 (by simp [go_sem, D.nr, nrs, nrr]) (by simp [Tryz.f151]) ?_
  unfold Tryz.f151
  simp only [init_eq]
  have ff := True.intro
  refine stp Yn ?_
  refine stp Yn ?_
  refine dw_seq ?_
  refine dw_own 3 9 (by simp only [go_sem, ff]) (by simp only [go_sem, ff]) ?_
  refine stp Yn ?_
  refine dw_block ?_
  refine lp (α := (Nat) × (Nat) × Nat) [1] (fun ⟨k, r, nx⟩ => (k ≤ z.sets.length) ∧ (r < nx) ∧ (0 < r) ∧ True) (fun ⟨k, r, nx⟩ => z.sets.length - k) (fun ⟨k, r, nx⟩ => [(3, .mrow r 0 (cutsR z k).length), (4, .i k)]) (fun ⟨k, r, nx⟩ => [(0, ⟨24, [z.d]⟩), (r, ⟨9, (cutsR z k).map sR⟩)]) (fun ⟨k, r, nx⟩ => nx) (0, 3, _) (hA := ⟨iv, iv, iv, trivial⟩) (round := ?_)
  rintro ⟨k, r, nx⟩ ⟨hk, hr, hr0, -⟩
  show DW _ _ _ _ { n := _, t := tab _, h := _, nx := _, e := _ }
  simp only [List.cons_append, List.nil_append]
  have hcl := cutsR_len z k
  have n0 : 0 < nx := by omega
  have z0_r : (0 = r) = False := eq_false (by omega)
  have yr_0 : (r = 0) = False := eq_false (by omega)
  have ff := And.intro @hr (And.intro @n0 (And.intro @z0_r (And.intro @yr_0 ff)))
  refine dw_seq ?_
  refine stp Yn ?_
  refine cd (fun c1 => ?_) (fun c1 => ?_) (hp := rfl)
  · skip
    have hk2 : k < z.sets.length := by simpa using c1
    have ff := And.intro (getD_sgd hk2) ff
    refine dw_skip ?_
    show DW _ _ _ _ _
    refine dw_seq ?_
    refine dw_block ?_
    refine stp Yn ?_
    refine stp Yn ?_
    refine cd (fun c2 => ?_) (fun c2 => ?_)
    · skip
      refine rgn Yn ?_
      show DW _ _ _ _ _
      refine rgn Yn ?_
      show ∃ _, _
      have ff := And.intro (cutsR_yes (z := z) (k := k) (by grind)) ff
      exact rnd (k + 1, (nx + 27), _) (h1 := ⟨iv, iv, iv, trivial⟩)
    · skip
      refine dw_skip ?_
      show DW _ _ _ _ _
      refine rgn Yn ?_
      show ∃ _, _
      have ff := And.intro (cutsR_no (z := z) (k := k) (by grind)) ff
      exact rnd (k + 1, r, _) (h1 := ⟨iv, iv, iv, trivial⟩)
  · skip
    refine dw_exit ?_
    show DW _ _ _ _ _
    have e9 : k = z.sets.length := by omega
    subst e9
    refine stp Yn ?_
    refine dw_ret ?_
    exact fin 1 (hr := by (try simp only [go_sem, ff]); all_goals (rfl))
theorem bo121 : hasBody Tryz.prog 121 = true := by kernel_rfl
theorem r06high_ct (z : Zon) (hn : nmsOk z) : PureCt Tryz.prog 121 [.agg z.d] (.list false ((highF z).map sR)) := by
  refine pure_of_dw Tryz.func121 rfl bo121 (by simp [go_sem, D.nr, nrs, nrr]) (by simp [Tryz.f121]) ?_
  unfold Tryz.f121
  simp only [init_eq]
  have ff := True.intro
  have hl := hn.1
  have hcl := cutsF_len hn
  refine stp Yn ?_
  refine stp Yn ?_ (hok := by (try simp only [go_sem, ff]); all_goals (exact r06cuts_ct z hl))
  refine stp Yn ?_
  refine dw_seq ?_
  refine dw_own 4 9 (by simp only [go_sem, ff]) (by simp only [go_sem, ff]) ?_
  refine stp Yn ?_
  refine dw_block ?_
  refine lp (α := (Nat) × (Nat) × Nat) [3] (fun ⟨k, r, nx⟩ => (k ≤ (cutsF z).length) ∧ (r < nx) ∧ True) (fun ⟨k, r, nx⟩ => (cutsF z).length - k) (fun ⟨k, r, nx⟩ => [(4, .mrow r 0 (highTo (cutsF z) k).length), (5, .i k)]) (fun ⟨k, r, nx⟩ => [(r, ⟨9, (highTo (cutsF z) k).map sR⟩)]) (fun ⟨k, r, nx⟩ => nx) (0, 6, _) (hA := ⟨iv, iv, trivial⟩) (round := ?_)
  rintro ⟨k, r, nx⟩ ⟨hk, hr, -⟩
  show DW _ _ _ _ { n := _, t := tab _, h := _, nx := _, e := _ }
  simp only [List.cons_append, List.nil_append]
  have hhl := (highTo_mem (cutsF z) k hk).1
  have ff := And.intro @hr ff
  refine dw_seq ?_
  refine stp Yn ?_
  refine cd (fun c1 => ?_) (fun c1 => ?_) (hp := rfl)
  · skip
    have hk2 : k < (cutsF z).length := by simpa using c1
    have e1 : (((highTo (cutsF z) k).length : Int) - 1).toNat = (highTo (cutsF z) k).length - 1 := by omega
    have ff := And.intro (getD_sR hk2) (And.intro @e1 ff)
    refine dw_skip ?_
    show DW _ _ _ _ _
    refine dw_seq ?_
    refine dw_block ?_
    by_cases h0 : (highTo (cutsF z) k).length = 0
    · skip
      have hnil := List.eq_nil_of_length_eq_zero h0
      have ff := And.intro @h0 (And.intro @hnil ff)
      refine stp Yn ?_ (hok := by (try simp only [go_sem, ff]); all_goals (first | done | ((repeat' (with_reducible apply And.intro)) <;> first | exact (fun _ => rin1_ct _ _ (cutsF_nm hn hk2) (highTo_nm hn hk h9)) | (intros; exact (fun _ => rin1_ct _ _ (cutsF_nm hn hk2) (highTo_nm hn hk h9))) | omega | (intros; omega) | (intro h; simp at h; done) | skip)))
      refine cd (fun c2 => ?_) (fun c2 => ?_) (hq := rfl)
      · skip
        refine rgn Yn ?_
        show DW _ _ _ _ _
        refine rgn Yn ?_
        show ∃ _, _
        have ff := And.intro (highTo_yes (cs := cutsF z) (k := k) (by first | exact .inl (List.eq_nil_of_length_eq_zero h0) | grind)) ff
        exact rnd (k + 1, (nx + 27), _) (h1 := ⟨iv, iv, trivial⟩)
      · skip
        grind
    · skip
      have h9 : (highTo (cutsF z) k).length - 1 < (highTo (cutsF z) k).length := by omega
      have ff := And.intro (getD_sR h9) ff
      refine stp Yn ?_ (hok := by (try simp only [go_sem, ff]); all_goals (first | done | ((repeat' (with_reducible apply And.intro)) <;> first | exact (fun _ => rin1_ct _ _ (cutsF_nm hn hk2) (highTo_nm hn hk h9)) | (intros; exact (fun _ => rin1_ct _ _ (cutsF_nm hn hk2) (highTo_nm hn hk h9))) | omega | (intros; omega) | (intro h; simp at h; done) | skip)))
      refine cd (fun c2 => ?_) (fun c2 => ?_)
      · skip
        refine rgn Yn ?_
        show DW _ _ _ _ _
        refine rgn Yn ?_
        show ∃ _, _
        have ff := And.intro (highTo_yes (cs := cutsF z) (k := k) (by first | exact .inl (List.eq_nil_of_length_eq_zero h0) | grind)) ff
        exact rnd (k + 1, (nx + 27), _) (h1 := ⟨iv, iv, trivial⟩)
      · skip
        refine dw_skip ?_
        show DW _ _ _ _ _
        refine rgn Yn ?_
        show ∃ _, _
        have ff := And.intro (highTo_no (cs := cutsF z) (k := k) (by grind)) ff
        exact rnd (k + 1, r, _) (h1 := ⟨iv, iv, trivial⟩)
  · skip
    refine dw_exit ?_
    show DW _ _ _ _ _
    have e9 : k = (cutsF z).length := by omega
    subst e9
    refine stp Yn ?_
    refine dw_ret ?_
    exact fin 1 (hr := by (try simp only [go_sem, ff]); all_goals (rfl))
theorem bo87 : hasBody Tryz.prog 87 = true := by kernel_rfl
theorem r06beh_ct (z : Zon) (hn : nmsOk z) : PureCt Tryz.prog 87 [.agg z.d] (.list false ((behR z).map sR)) := by
  refine pure_of_dw Tryz.func87 rfl bo87 (by simp [go_sem, D.nr, nrs, nrr]) (by simp [Tryz.f87]) ?_
  unfold Tryz.f87
  simp only [init_eq]
  have ff := True.intro
  have hl := hn.1
  have hcl := highF_len hn
  refine stp Yn ?_
  refine stp Yn ?_ (hok := by (try simp only [go_sem, ff]); all_goals (exact r06high_ct z hn))
  refine stp Yn ?_
  refine stp Yn ?_
  refine dw_seq ?_
  refine stp Yn ?_
  refine dw_block ?_
  refine lp (α := (Nat) × (Nat) × (Nat) × Nat) [1, 3] (fun ⟨k, j, rb, nx⟩ => (k ≤ z.sets.length) ∧ (rb < nx) ∧ (0 < rb) ∧ (j = advTo (highF z) z.sets k) ∧ (j ≤ (highF z).length) ∧ True) (fun ⟨k, j, rb, nx⟩ => z.sets.length - k) (fun ⟨k, j, rb, nx⟩ => [(4, .mrow rb 0 z.sets.length), (5, .i j), (6, .i k)]) (fun ⟨k, j, rb, nx⟩ => [(0, ⟨24, [z.d]⟩), (rb, ⟨9, (rowsR (highF z) z.sets z.sets.length (k)).map sR⟩)]) (fun ⟨k, j, rb, nx⟩ => nx) (0, 0, 8, _) (hA := ⟨iv, iv, iv, rfl, iv, trivial⟩) (round := ?_)
  rintro ⟨k, j, rb, nx⟩ ⟨hk, hx, hb0, hj, hj2, -⟩
  show DW _ _ _ _ { n := _, t := tab _, h := _, nx := _, e := _ }
  simp only [List.cons_append, List.nil_append]
  have n0 : 0 < nx := by omega
  have z0_rb : (0 = rb) = False := eq_false (by omega)
  have yrb_0 : (rb = 0) = False := eq_false (by omega)
  have ff := And.intro @hx (And.intro @n0 (And.intro @z0_rb (And.intro @yrb_0 ff)))
  refine dw_seq ?_
  refine stp Yn ?_
  refine cd (fun c1 => ?_) (fun c1 => ?_) (hp := rfl)
  · skip
    have hk2 : k < z.sets.length := by simpa using c1
    have ff := And.intro (getD_sgd hk2) (And.intro (rowsR_len (hs := highF z) (l := z.sets) hk) (And.intro (getD_sR (l := rowsR (highF z) z.sets z.sets.length k) (n := k) (by rw [rowsR_len hk]; exact hk2)) ff))
    refine dw_skip ?_
    show DW _ _ _ _ _
    refine dw_seq ?_
    refine dw_block ?_
    refine stp Yn ?_
    refine dw_seq ?_
    refine dw_block ?_
    refine lp (α := (Nat) × Nat) [1, 3, 4, 6, 7] (fun ⟨i, nx⟩ => (i ≤ (highF z).length) ∧ (rb < nx) ∧ (adv (highF z) z.sets[k]!.set.name j = adv (highF z) z.sets[k]!.set.name i) ∧ True) (fun ⟨i, nx⟩ => (highF z).length - i) (fun ⟨i, nx⟩ => [(5, .i i)]) (fun ⟨i, nx⟩ => [(0, ⟨24, [z.d]⟩), (rb, ⟨9, (rowsR (highF z) z.sets z.sets.length (k)).map sR⟩)]) (fun ⟨i, nx⟩ => nx) (j, _) (hA := ⟨iv, iv, rfl, trivial⟩) (round := ?_)
    rintro ⟨i, nx⟩ ⟨hi, hx, hv2, -⟩
    show DW _ _ _ _ { n := _, t := tab _, h := _, nx := _, e := _ }
    simp only [List.cons_append, List.nil_append]
    have n0 : 0 < nx := by omega
    have ff := And.intro @hx (And.intro @n0 (And.intro @z0_rb (And.intro @yrb_0 ff)))
    refine dw_seq ?_
    by_cases hk4 : i < (highF z).length
    · skip
      have ff := And.intro (getD_sR hk4) ff
      refine stp Yn ?_ (hok := by (try simp only [go_sem, ff]); all_goals (first | done | ((repeat' (with_reducible apply And.intro)) <;> first | exact (fun _ => rorder_ct _ _ (highF_nm hn hk4) (hn.2 _ hk2)) | (intros; exact (fun _ => rorder_ct _ _ (highF_nm hn hk4) (hn.2 _ hk2))) | omega | (intros; omega) | skip)))
      refine cd (fun c2 => ?_) (fun c2 => ?_) (hq := rfl)
      · skip
        refine dw_skip ?_
        show DW _ _ _ _ _
        refine dw_block ?_
        refine rgn Yn ?_
        show ∃ _, _
        exact rnd (i + 1, _) (h1 := ⟨iv, iv, (by first | (rw [hv2, adv_eq]; grind) | (dsimp only; rw [hv2, adv_eq]; grind)), trivial⟩)
      · skip
        have hav : advTo (highF z) z.sets (k + 1) = i := by show adv _ _ _ = _; rw [← hj, hv2, adv_eq]; grind
        refine dw_exit ?_
        show DW _ _ _ _ _
        by_cases hi0 : i = 0
        · skip
          have ff := And.intro @hi0 ff
          refine stp Yn ?_ (hok := by (try simp only [go_sem, ff]); all_goals (first | done | ((repeat' (with_reducible apply And.intro)) <;> first | exact (fun _ => rin1_ct _ _ (hn.2 _ hk2) (highF_nm hn hi9)) | (intros; exact (fun _ => rin1_ct _ _ (hn.2 _ hk2) (highF_nm hn hi9))) | omega | (intros; omega) | (intro h; simp at h; done) | skip)))
          refine cd (fun c3 => ?_) (fun c3 => ?_)
          · skip
            refine rgn Yn ?_
            show DW _ _ _ _ _
            refine rgn Yn ?_
            show ∃ _, _
            have hcc : behAt (highF z) z.sets[k]!.set.name (advTo (highF z) z.sets (k + 1)) = (highF z)[i - 1]! := by rw [hav]; simp only [behAt]; grind
            have ff := And.intro (rowsR_setD hk2 hcc) ff
            exact rnd (k + 1, i, rb, _) (h1 := ⟨iv, iv, iv, (by first | (exact hav.symm) | (dsimp only; exact hav.symm)), iv, trivial⟩)
          · skip
            refine dw_skip ?_
            show DW _ _ _ _ _
            refine rgn Yn ?_
            show ∃ _, _
            have hcc : behAt (highF z) z.sets[k]!.set.name (advTo (highF z) z.sets (k + 1)) = [] := by rw [hav]; simp only [behAt]; grind
            have ff := And.intro (rowsR_same hk2 hcc) ff
            exact rnd (k + 1, i, rb, _) (h1 := ⟨iv, iv, iv, (by first | (exact hav.symm) | (dsimp only; exact hav.symm)), iv, trivial⟩)
        · skip
          have hi9 : i - 1 < (highF z).length := by omega
          have e1 : ((i:Int) - 1).toNat = i - 1 := by omega
          have ff := And.intro @e1 (And.intro (getD_sR hi9) ff)
          refine stp Yn ?_ (hok := by (try simp only [go_sem, ff]); all_goals (first | done | ((repeat' (with_reducible apply And.intro)) <;> first | exact (fun _ => rin1_ct _ _ (hn.2 _ hk2) (highF_nm hn hi9)) | (intros; exact (fun _ => rin1_ct _ _ (hn.2 _ hk2) (highF_nm hn hi9))) | omega | (intros; omega) | (intro h; simp at h; done) | skip)))
          refine cd (fun c3 => ?_) (fun c3 => ?_)
          · skip
            refine rgn Yn ?_
            show DW _ _ _ _ _
            refine rgn Yn ?_
            show ∃ _, _
            have hcc : behAt (highF z) z.sets[k]!.set.name (advTo (highF z) z.sets (k + 1)) = (highF z)[i - 1]! := by rw [hav]; simp only [behAt]; grind
            have ff := And.intro (rowsR_setD hk2 hcc) ff
            exact rnd (k + 1, i, rb, _) (h1 := ⟨iv, iv, iv, (by first | (exact hav.symm) | (dsimp only; exact hav.symm)), iv, trivial⟩)
          · skip
            refine dw_skip ?_
            show DW _ _ _ _ _
            refine rgn Yn ?_
            show ∃ _, _
            have hcc : behAt (highF z) z.sets[k]!.set.name (advTo (highF z) z.sets (k + 1)) = [] := by rw [hav]; simp only [behAt]; grind
            have ff := And.intro (rowsR_same hk2 hcc) ff
            exact rnd (k + 1, i, rb, _) (h1 := ⟨iv, iv, iv, (by first | (exact hav.symm) | (dsimp only; exact hav.symm)), iv, trivial⟩)
    · skip
      have e9 : decide ((i : Int) < ((highF z).length : Int)) = false := decide_eq_false (by omega)
      have ff := And.intro @e9 ff
      refine stp Yn ?_ (hok := by (try simp only [go_sem, ff]); all_goals (first | done | ((repeat' (with_reducible apply And.intro)) <;> first | exact (fun _ => rorder_ct _ _ (highF_nm hn hk4) (hn.2 _ hk2)) | (intros; exact (fun _ => rorder_ct _ _ (highF_nm hn hk4) (hn.2 _ hk2))) | omega | (intros; omega) | skip)))
      refine cd (fun c2 => ?_) (fun c2 => ?_) (hp := rfl) (hq := rfl)
      · skip
        grind
      · skip
        have hav : advTo (highF z) z.sets (k + 1) = i := by show adv _ _ _ = _; rw [← hj, hv2, adv_eq]; grind
        refine dw_exit ?_
        show DW _ _ _ _ _
        by_cases hi0 : i = 0
        · skip
          have ff := And.intro @hi0 ff
          refine stp Yn ?_ (hok := by (try simp only [go_sem, ff]); all_goals (first | done | ((repeat' (with_reducible apply And.intro)) <;> first | exact (fun _ => rin1_ct _ _ (hn.2 _ hk2) (highF_nm hn hi9)) | (intros; exact (fun _ => rin1_ct _ _ (hn.2 _ hk2) (highF_nm hn hi9))) | omega | (intros; omega) | (intro h; simp at h; done) | skip)))
          refine cd (fun c3 => ?_) (fun c3 => ?_)
          · skip
            refine rgn Yn ?_
            show DW _ _ _ _ _
            refine rgn Yn ?_
            show ∃ _, _
            have hcc : behAt (highF z) z.sets[k]!.set.name (advTo (highF z) z.sets (k + 1)) = (highF z)[i - 1]! := by rw [hav]; simp only [behAt]; grind
            have ff := And.intro (rowsR_setD hk2 hcc) ff
            exact rnd (k + 1, i, rb, _) (h1 := ⟨iv, iv, iv, (by first | (exact hav.symm) | (dsimp only; exact hav.symm)), iv, trivial⟩)
          · skip
            refine dw_skip ?_
            show DW _ _ _ _ _
            refine rgn Yn ?_
            show ∃ _, _
            have hcc : behAt (highF z) z.sets[k]!.set.name (advTo (highF z) z.sets (k + 1)) = [] := by rw [hav]; simp only [behAt]; grind
            have ff := And.intro (rowsR_same hk2 hcc) ff
            exact rnd (k + 1, i, rb, _) (h1 := ⟨iv, iv, iv, (by first | (exact hav.symm) | (dsimp only; exact hav.symm)), iv, trivial⟩)
        · skip
          have hi9 : i - 1 < (highF z).length := by omega
          have e1 : ((i:Int) - 1).toNat = i - 1 := by omega
          have ff := And.intro @e1 (And.intro (getD_sR hi9) ff)
          refine stp Yn ?_ (hok := by (try simp only [go_sem, ff]); all_goals (first | done | ((repeat' (with_reducible apply And.intro)) <;> first | exact (fun _ => rin1_ct _ _ (hn.2 _ hk2) (highF_nm hn hi9)) | (intros; exact (fun _ => rin1_ct _ _ (hn.2 _ hk2) (highF_nm hn hi9))) | omega | (intros; omega) | (intro h; simp at h; done) | skip)))
          refine cd (fun c3 => ?_) (fun c3 => ?_)
          · skip
            refine rgn Yn ?_
            show DW _ _ _ _ _
            refine rgn Yn ?_
            show ∃ _, _
            have hcc : behAt (highF z) z.sets[k]!.set.name (advTo (highF z) z.sets (k + 1)) = (highF z)[i - 1]! := by rw [hav]; simp only [behAt]; grind
            have ff := And.intro (rowsR_setD hk2 hcc) ff
            exact rnd (k + 1, i, rb, _) (h1 := ⟨iv, iv, iv, (by first | (exact hav.symm) | (dsimp only; exact hav.symm)), iv, trivial⟩)
          · skip
            refine dw_skip ?_
            show DW _ _ _ _ _
            refine rgn Yn ?_
            show ∃ _, _
            have hcc : behAt (highF z) z.sets[k]!.set.name (advTo (highF z) z.sets (k + 1)) = [] := by rw [hav]; simp only [behAt]; grind
            have ff := And.intro (rowsR_same hk2 hcc) ff
            exact rnd (k + 1, i, rb, _) (h1 := ⟨iv, iv, iv, (by first | (exact hav.symm) | (dsimp only; exact hav.symm)), iv, trivial⟩)
  · skip
    refine dw_exit ?_
    show DW _ _ _ _ _
    have e9 : k = z.sets.length := by omega
    subst e9
    have tk : List.take z.sets.length ((rowsR (highF z) z.sets z.sets.length z.sets.length).map sR) = (behR z).map sR := by rw [rowsR_n]; exact List.take_of_length_le (by rw [List.length_map, behRTo_len]; exact Nat.le_refl _)
    have ff := And.intro @tk (And.intro (rowsR_len (hs := highF z) (l := z.sets) (Nat.le_refl z.sets.length)) ff)
    refine stp Yn ?_
    refine dw_ret ?_
    exact fin 1 (hr := by (try simp only [go_sem, ff]); all_goals (rfl)) (hk := by (try simp only [go_sem, ff]); all_goals (exact behRTo_len _ _ _))

end Go.Proofs.YtfggmgafjabbjaaGreatDoor
namespace Go.Proofs.YtfggmgafjabbjaaGreatDoor
open Go.DL Go.Str Go.Rec Go.Cmp Go.Zon
set_option maxRecDepth 10000
set_option linter.unusedSimpArgs false
set_option linter.unusedVariables false
theorem behR_len (z : Zon) : (behR z).length = z.sets.length := behRTo_len _ _ _
theorem ownF_len (z : Zon) : (ownF z).length = z.sets.length := ownTo_len _ _
theorem bo35 : hasBody Tryz.prog 35 = true := by kernel_rfl
theorem r06four_ct (z : Zon) (hn : nmsOk z) : PureCt Tryz.prog 35 [.agg z.d] (.b (fourB z)) := by
  refine pure_of_dw Tryz.func35 rfl bo35 (by simp [go_sem, D.nr, nrs, nrr]) (by simp [Tryz.f35]) ?_
  unfold Tryz.f35
  simp only [init_eq]
  have ff := True.intro
  have hl := hn.1
  have hbl := behR_len z
  refine stp Yn ?_
  refine stp Yn ?_ (hok := by (try simp only [go_sem, ff]); all_goals (exact r06beh_ct z hn))
  refine dw_seq ?_
  refine stp Yn ?_
  refine dw_block ?_
  refine lp (α := (Nat) × Nat) [1, 3] (fun ⟨k, nx⟩ => (k ≤ z.sets.length) ∧ (allN z.sets.length (cutAt ⟨z, behR z⟩) 0 = allN z.sets.length (cutAt ⟨z, behR z⟩) k) ∧ (0 < nx) ∧ True) (fun ⟨k, nx⟩ => z.sets.length - k) (fun ⟨k, nx⟩ => [(4, .i k)]) (fun ⟨k, nx⟩ => [(0, ⟨24, [z.d]⟩)]) (fun ⟨k, nx⟩ => nx) (0, _) (hA := ⟨iv, rfl, iv, trivial⟩) (round := ?_)
  rintro ⟨k, nx⟩ ⟨hk, hv, hx, -⟩
  show DW _ _ _ _ { n := _, t := tab _, h := _, nx := _, e := _ }
  simp only [List.cons_append, List.nil_append]
  have ff := And.intro @hx ff
  refine dw_seq ?_
  refine stp Yn ?_
  refine cd (fun c1 => ?_) (fun c1 => ?_) (hp := rfl)
  · skip
    have hk2 : k < z.sets.length := by simpa using c1
    have hk3 : k < (behR z).length := by omega
    have ff := And.intro (getD_sgd hk2) (And.intro (getD_sR hk3) ff)
    refine dw_skip ?_
    show DW _ _ _ _ _
    refine dw_seq ?_
    refine dw_block ?_
    refine stp Yn ?_
    refine stp Yn ?_
    refine dw_seq ?_
    refine stp Yn ?_
    refine cd (fun c2 => ?_) (fun c2 => ?_)
    · skip
      refine stp Yn ?_
      refine dw_ret ?_
      exact fin 0 (hr := by (try simp only [go_sem, ff]); all_goals (have hF : (cutAt ⟨z, behR z⟩) k = false := (by simp only [cutAt]; grind); simp only [fourB, cutB]; rw [hv, allN_no hk2 hF]; try simp))
    · skip
      refine dw_skip ?_
      show DW _ _ _ _ _
      refine dw_seq ?_
      refine stp Yn ?_
      refine cd (fun c3 => ?_) (fun c3 => ?_)
      · skip
        refine stp Yn ?_
        refine dw_ret ?_
        exact fin 0 (hr := by (try simp only [go_sem, ff]); all_goals (have hF : (cutAt ⟨z, behR z⟩) k = false := (by simp only [cutAt]; grind); simp only [fourB, cutB]; rw [hv, allN_no hk2 hF]; try simp))
      · skip
        refine dw_skip ?_
        show DW _ _ _ _ _
        refine stp Yn ?_
        refine cd (fun c4 => ?_) (fun c4 => ?_)
        · skip
          refine stp Yn ?_
          refine dw_ret ?_
          exact fin 0 (hr := by (try simp only [go_sem, ff]); all_goals (have hF : (cutAt ⟨z, behR z⟩) k = false := (by simp only [cutAt]; grind); simp only [fourB, cutB]; rw [hv, allN_no hk2 hF]; try simp))
        · skip
          refine dw_skip ?_
          show DW _ _ _ _ _
          refine rgn Yn ?_
          show ∃ _, _
          have h8 : (cutAt ⟨z, behR z⟩) k = true := by simp only [cutAt]; grind
          exact rnd (k + 1, _) (h1 := ⟨iv, (by first | (rw [hv, allN_yes hk2 h8]) | (dsimp only; rw [hv, allN_yes hk2 h8])), iv, trivial⟩)
  · skip
    refine dw_exit ?_
    show DW _ _ _ _ _
    refine stp Yn ?_
    refine dw_ret ?_
    exact fin 0 (hr := by (try simp only [go_sem, ff]); all_goals (simp only [fourB, cutB]; rw [hv, allN_end (by omega)]))
theorem bo88 : hasBody Tryz.prog 88 = true := by kernel_rfl
theorem r06own_ct (z : Zon) (hn : nmsOk z) : PureCt Tryz.prog 88 [.agg z.d] (.list false ((ownF z).map bR)) := by
  refine pure_of_dw Tryz.func88 rfl bo88 (by simp [go_sem, D.nr, nrs, nrr]) (by simp [Tryz.f88]) ?_
  unfold Tryz.f88
  simp only [init_eq]
  have ff := True.intro
  have hl := hn.1
  have hbl := behR_len z
  refine stp Yn ?_
  refine stp Yn ?_ (hok := by (try simp only [go_sem, ff]); all_goals (exact r06beh_ct z hn))
  refine stp Yn ?_
  refine dw_seq ?_
  refine stp Yn ?_
  refine dw_block ?_
  refine lp (α := (Nat) × (Nat) × Nat) [1, 3] (fun ⟨k, rb, nx⟩ => (k ≤ z.sets.length) ∧ (rb < nx) ∧ (0 < rb) ∧ True) (fun ⟨k, rb, nx⟩ => z.sets.length - k) (fun ⟨k, rb, nx⟩ => [(4, .mrow rb 0 z.sets.length), (5, .i k)]) (fun ⟨k, rb, nx⟩ => [(0, ⟨24, [z.d]⟩), (rb, ⟨4, (rowsO ⟨z, behR z⟩ z.sets.length (k)).map bR⟩)]) (fun ⟨k, rb, nx⟩ => nx) (0, 8, _) (hA := ⟨iv, iv, iv, trivial⟩) (round := ?_)
  rintro ⟨k, rb, nx⟩ ⟨hk, hx, hb0, -⟩
  show DW _ _ _ _ { n := _, t := tab _, h := _, nx := _, e := _ }
  simp only [List.cons_append, List.nil_append]
  have n0 : 0 < nx := by omega
  have z0_rb : (0 = rb) = False := eq_false (by omega)
  have yrb_0 : (rb = 0) = False := eq_false (by omega)
  have ff := And.intro @hx (And.intro @n0 (And.intro @z0_rb (And.intro @yrb_0 ff)))
  refine dw_seq ?_
  refine stp Yn ?_
  refine cd (fun c1 => ?_) (fun c1 => ?_) (hp := rfl)
  · skip
    have hk2 : k < z.sets.length := by simpa using c1
    have hk3 : k < (behR z).length := by omega
    have ff := And.intro (getD_sgd hk2) (And.intro (getD_sR hk3) (And.intro (rowsO_len (x := ⟨z, behR z⟩) hk) (And.intro (getD_bR (l := rowsO ⟨z, behR z⟩ z.sets.length k) (n := k) (by rw [rowsO_len hk]; exact hk2)) ff)))
    refine dw_skip ?_
    show DW _ _ _ _ _
    refine dw_seq ?_
    refine dw_block ?_
    refine stp Yn ?_
    refine rgn Yn ?_
    show DW _ _ _ _ _
    refine rgn Yn ?_
    show ∃ _, _
    exact rnd (k + 1, rb, _) (h1 := ⟨iv, iv, iv, trivial⟩) (h3 := by (try simp only [go_sem, ff]); all_goals (first | done | exact congrArg (fun q => some (Blk.mk 4 q)) (rowsO_setD hk2 (by simp only [ownAt]; grind)) | (simp; done))) (h4 := by (try simp only [go_sem, ff]); all_goals (first | done | exact congrArg (fun q => some (Blk.mk 4 q)) (rowsO_setD hk2 (by simp only [ownAt]; grind)) | (simp; done))) (h5 := by (try simp only [go_sem, ff]); all_goals (first | done | exact congrArg (fun q => some (Blk.mk 4 q)) (rowsO_setD hk2 (by simp only [ownAt]; grind)) | (simp; done)))
  · skip
    refine dw_exit ?_
    show DW _ _ _ _ _
    have e9 : k = z.sets.length := by omega
    subst e9
    have tk : List.take z.sets.length ((rowsO ⟨z, behR z⟩ z.sets.length (z.sets.length)).map bR) = (ownF z).map bR := by rw [rowsO_n]; exact List.take_of_length_le (by rw [List.length_map, ownTo_len]; exact Nat.le_refl _)
    have ff := And.intro @tk (And.intro (rowsO_len (x := ⟨z, behR z⟩) (Nat.le_refl z.sets.length)) ff)
    refine stp Yn ?_
    refine dw_ret ?_
    exact fin 1 (hr := by (try simp only [go_sem, ff]); all_goals (rfl)) (hk := by (try simp only [go_sem, ff]); all_goals (exact ownF_len z))
theorem bo36 : hasBody Tryz.prog 36 = true := by kernel_rfl
theorem r06five_ct (z : Zon) (hn : nmsOk z) : PureCt Tryz.prog 36 [.agg z.d] (.b (fiveB z)) := by
  refine pure_of_dw Tryz.func36 rfl bo36 (by simp [go_sem, D.nr, nrs, nrr]) (by simp [Tryz.f36]) ?_
  unfold Tryz.f36
  simp only [init_eq]
  have ff := True.intro
  have hl := hn.1
  have hbl := behR_len z
  have hol := ownF_len z
  refine stp Yn ?_
  refine stp Yn ?_ (hok := by (try simp only [go_sem, ff]); all_goals (exact r06own_ct z hn))
  refine dw_seq ?_
  refine stp Yn ?_
  refine dw_block ?_
  refine lp (α := (Nat) × Nat) [1, 3] (fun ⟨k, nx⟩ => (k ≤ z.sets.length) ∧ (allN z.sets.length (fiveAt ⟨z, behR z⟩) 0 = allN z.sets.length (fiveAt ⟨z, behR z⟩) k) ∧ (0 < nx) ∧ True) (fun ⟨k, nx⟩ => z.sets.length - k) (fun ⟨k, nx⟩ => [(4, .i k)]) (fun ⟨k, nx⟩ => [(0, ⟨24, [z.d]⟩)]) (fun ⟨k, nx⟩ => nx) (0, _) (hA := ⟨iv, rfl, iv, trivial⟩) (round := ?_)
  rintro ⟨k, nx⟩ ⟨hk, hv, hx, -⟩
  show DW _ _ _ _ { n := _, t := tab _, h := _, nx := _, e := _ }
  simp only [List.cons_append, List.nil_append]
  have ff := And.intro @hx ff
  refine dw_seq ?_
  refine stp Yn ?_
  refine cd (fun c1 => ?_) (fun c1 => ?_) (hp := rfl)
  · skip
    have hk2 : k < z.sets.length := by simpa using c1
    have hk3 : k < (ownF z).length := by omega
    have ho : (ownF z)[k]! = ownAt ⟨z, behR z⟩ k := ownTo_get _ _ _ hk2
    have ff := And.intro (getD_sgd hk2) (And.intro (getD_bR hk3) ff)
    refine dw_skip ?_
    show DW _ _ _ _ _
    refine dw_seq ?_
    refine dw_block ?_
    refine stp Yn ?_ (hok := by (try simp only [go_sem, ff]); all_goals (first | done | ((repeat' (with_reducible apply And.intro)) <;> first | exact rsigs_ct _ _ | (intros; exact rsigs_ct _ _) | omega | (intros; omega) | (intros; simp_all; done) | skip)))
    refine cd (fun c2 => ?_) (fun c2 => ?_)
    · skip
      refine stp Yn ?_
      refine dw_ret ?_
      exact fin 0 (hr := by (try simp only [go_sem, ff]); all_goals (have hF : (fiveAt ⟨z, behR z⟩) k = false := (by simp only [fiveAt, formAt, glueAt, ownAt] at *; grind); simp only [fiveB]; rw [hv, allN_no hk2 hF]; try simp))
    · skip
      refine dw_skip ?_
      show DW _ _ _ _ _
      refine rgn Yn ?_
      show ∃ _, _
      have h8 : (fiveAt ⟨z, behR z⟩) k = true := by simp only [fiveAt, formAt, glueAt, ownAt] at *; grind
      exact rnd (k + 1, _) (h1 := ⟨iv, (by first | (rw [hv, allN_yes hk2 h8]) | (dsimp only; rw [hv, allN_yes hk2 h8])), iv, trivial⟩)
  · skip
    refine dw_exit ?_
    show DW _ _ _ _ _
    refine stp Yn ?_
    refine dw_ret ?_
    exact fin 0 (hr := by (try simp only [go_sem, ff]); all_goals (simp only [fiveB]; rw [hv, allN_end (by omega)]))
theorem bo11 : hasBody Tryz.prog 11 = true := by kernel_rfl
theorem r06valid_ct (z : Zon) : PureCt Tryz.prog 11 [.agg z.d] (.b (refOk z)) := by
  refine pure_of_dw Tryz.func11 rfl bo11 (by simp [go_sem, D.nr, nrs, nrr]) (by simp [Tryz.f11]) ?_
  unfold Tryz.f11
  simp only [init_eq]
  have ff := True.intro
  refine stp Yn ?_
  refine stp Yn ?_ (hok := by (try simp only [go_sem, ff]); all_goals (first | done | ((repeat' (with_reducible apply And.intro)) <;> first | exact r06one_ct z | (intros; exact r06one_ct z) | exact (fun h => r06two_ct z (one_nms (by simp_all)).1) | (intros; exact (fun h => r06two_ct z (one_nms (by simp_all)).1)) | exact (fun h => r06three_ct z (one_nms (by simp_all)).1) | (intros; exact (fun h => r06three_ct z (one_nms (by simp_all)).1)) | exact (fun h => r06four_ct z (one_nms (by simp_all))) | (intros; exact (fun h => r06four_ct z (one_nms (by simp_all)))) | exact (fun h => r06five_ct z (one_nms (by simp_all))) | (intros; exact (fun h => r06five_ct z (one_nms (by simp_all)))) | (intros; simp_all; done) | skip)))
  refine dw_ret ?_
  exact fin 0 (hr := by (try simp only [go_sem, ff]); all_goals (simp [refOk, Bool.and_assoc]))

end Go.Proofs.YtfggmgafjabbjaaGreatDoor
/-
  MADE BY A PROGRAM OF MINE: what the functions that leave memory alone give. Conditions: none.
-/
namespace Go.Proofs.YtfggmgafjabbjaaGreatDoor
open Go.DL Go.Str Go.Rec Go.Zon
set_option linter.unusedVariables false
def Xn : Con where
  pure := fun k => [176, 169, 153, 114, 113, 81, 123, 90, 115, 171, 155, 122, 120, 125, 127, 172, 116, 156, 173, 126, 159, 124, 91, 128, 110, 157, 150, 119, 129, 118, 158, 130, 93, 83, 117, 85, 63, 165, 141, 102, 84, 82, 101, 92, 103, 86, 104, 89, 61, 111, 20, 60, 18, 100, 99, 46, 47, 48, 50, 51, 52, 53, 49, 14, 13, 59, 32, 33, 34, 151, 121, 87, 35, 88, 36, 11, 17, 9, 65, 64, 16, 54, 23, 22, 25, 24, 67, 41, 112, 66, 78, 79, 80, 77, 27, 10, 21].contains k
  pf := fun k xs => match k, xs with
    | 176, [x0, x1] => .i (lastIx (str1 x0) (int1 x1))
    | 169, [x0, x1] => .i (lastIx (str1 x0) (int1 x1))
    | 153, [x0] => .b (labelOk (str1 x0))
    | 114, [x0] => .b (labelOk (str1 x0))
    | 113, [x0] => .list false ((splitF (str1 x0)).map sR)
    | 81, [x0] => .b (nameOk (str1 x0))
    | 123, [x0] => .b (nameOk (str1 x0))
    | 90, [x0] => .b (nameOk (str1 x0))
    | 115, [x0] => .list false ((partsOf (str1 x0)).map sR)
    | 171, [x0, x1] => .i (Go.Lib.compareBytes (str1 x0) (str1 x1))
    | 155, [x0, x1] => .i (Go.Lib.compareBytes (str1 x0) (str1 x1))
    | 122, [x0, x1] => .i (nmOrd (str1 x0) (str1 x1))
    | 120, [x0, x1] => .tuple [.i (if nameOk (str1 x0) && nameOk (str1 x1) then nmCmp (str1 x0) (str1 x1) else 0), .i (if nameOk (str1 x0) && nameOk (str1 x1) then 0 else 11)]
    | 125, [x0, x1] => .tuple [.i (if nameOk (str1 x0) && nameOk (str1 x1) then nmCmp (str1 x0) (str1 x1) else 0), .i (if nameOk (str1 x0) && nameOk (str1 x1) then 0 else 11)]
    | 127, [x0, x1, x2] => .b (inR (int1 x0) (int1 x1) (int1 x2))
    | 172, [x0, x1, x2] => .b (inR (int1 x0) (int1 x1) (int1 x2))
    | 116, [x0, x1, x2] => .b (inR (int1 x0) (int1 x1) (int1 x2))
    | 156, [x0] => .b ((int1 x0) != (int1 x0))
    | 173, [x0] => .b ((str1 x0) != (str1 x0))
    | 126, [x0, x1] => .i (cmpI (int1 x0) (int1 x1))
    | 159, [x0, x1] => .i (cmpS (str1 x0) (str1 x1))
    | 124, [x0, x1] => .b (hasPre (str1 x0) (str1 x1))
    | 91, [x0, x1] => .b (hasPre (str1 x0) (str1 x1))
    | 128, [x0] => .b (wildB (str1 x0))
    | 110, [x0] => .b (wildB (str1 x0))
    | 157, [x0] => .b (freeB (str1 x0))
    | 150, [x0] => .b (freeB (str1 x0))
    | 119, [x0, x1] => .b (less (dat1 x0) (dat1 x1))
    | 129, [x0, x1] => .b (datOk (rule1 x0) (dat1 x1))
    | 118, [x0, x1] => .b (rDatOk (int1 x0) (dat1 x1))
    | 158, [x0] => .i (orFrom (ints1 x0) 0)
    | 130, [x0, x1] => .i (datC (dat1 x0) (dat1 x1))
    | 93, [x0] => .b (setOk (set1 x0))
    | 83, [x0] => .b (setOk (set1 x0))
    | 117, [x0] => .b (singleB (int1 x0))
    | 85, [x0, x1] => .i (rOrd (set1 x0) (set1 x1))
    | 63, [x0, x1] => .b (sameB (set1 x0) (set1 x1))
    | 165, [x0, x1] => .b (hasSuf (str1 x0) (str1 x1))
    | 141, [x0, x1] => .b (hasSuf (str1 x0) (str1 x1))
    | 102, [x0, x1] => .tuple [.b (underV (str1 x0) (str1 x1)), .i (if nameOk (str1 x0) && nameOk (str1 x1) then 0 else 11)]
    | 84, [x0, x1] => .b (inB (str1 x0) (str1 x1))
    | 82, [x0] => .b (wild1 (str1 x0))
    | 101, [x0, x1, x2, x3] => .i (qC ⟨(str1 x0), (int1 x1)⟩ ⟨(str1 x2), (int1 x3)⟩)
    | 92, [x0, x1] => .i (qC (qst1 x0) (qst1 x1))
    | 103, [x0, x1] => .b (fits (int1 x0) (bool1 x1))
    | 86, [x0, x1] => .b (fits (int1 x0) (bool1 x1))
    | 104, [x0, x1] => .b (sigsOk (sigs1 x0) (str1 x1))
    | 89, [x0, x1] => .b (sigsOk (sigs1 x0) (str1 x1))
    | 61, [x0] => .b (qOk (qst1 x0))
    | 111, [x0] => .b (qOk (qst1 x0))
    | 20, [x0, x1] => .b (sameSgd (sgd1 x0) (sgd1 x1))
    | 60, [x0, x1] => .b (sameList (sgds1 x0) (sgds1 x1))
    | 18, [x0, x1] => .b (sameZ (zon1 x0) (zon1 x1))
    | 100, [x0, x1] => .i (qC (sgd1 x0).q (qst1 x1))
    | 99, [x0, x1, x2] => .tuple [.i (findIx (sgds1 x0) (qst1 x1)), .b (findOk (sgds1 x0) (qst1 x1))]
    | 46, [x0, x1] => .tuple [.i (findIx (zon1 x0).sets (qst1 x1)), .b (findOk (zon1 x0).sets (qst1 x1))]
    | 47, [x0] => .b (ordered (zon1 x0))
    | 48, [x0] => .b (apexHolds (zon1 x0))
    | 50, [x0] => .b (aliasB (lay1 x0))
    | 51, [x0] => .b (cutB (lay1 x0))
    | 52, [x0] => .b (glueB (lay1 x0))
    | 53, [x0] => .b (formB (lay1 x0))
    | 49, [x0] => .agg (layOf (zon1 x0)).d
    | 14, [x0] => .b (zoneOk (zon1 x0))
    | 13, [x0] => .tuple [.i (if zoneOk (zon1 x0) then serialOf (zon1 x0) else 0), .i (if zoneOk (zon1 x0) then 0 else 1)]
    | 59, [x0, x1] => .i (atF (zon1 x0).sets (qst1 x1))
    | 32, [x0] => .b (oneB (zon1 x0))
    | 33, [x0] => .b (twoB (zon1 x0))
    | 34, [x0] => .b (threeB (zon1 x0))
    | 151, [x0] => .list false ((cutsF (zon1 x0)).map sR)
    | 121, [x0] => .list false ((highF (zon1 x0)).map sR)
    | 87, [x0] => .list false ((behR (zon1 x0)).map sR)
    | 35, [x0] => .b (fourB (zon1 x0))
    | 88, [x0] => .list false ((ownF (zon1 x0)).map bR)
    | 36, [x0] => .b (fiveB (zon1 x0))
    | 11, [x0] => .b (refOk (zon1 x0))
    | 17, [x0] => .i (serialR (zon1 x0))
    | 9, [x0] => .b (fewZ (zon1 x0))
    | 65, [x0] => .b (serB (int1 x0))
    | 64, [x0] => .b (serB (int1 x0))
    | 16, [x0, x1] => .b (befB (int1 x0) (int1 x1))
    | 54, [x0, x1] => .b (befB (int1 x0) (int1 x1))
    | 23, [x0, x1] => .tuple [.b (lessF (int1 x0) (int1 x1)).1, .i (lessF (int1 x0) (int1 x1)).2]
    | 22, [x0, x1] => .tuple [.b (lessF (int1 x0) (int1 x1)).1, .i (lessF (int1 x0) (int1 x1)).2]
    | 25, [x0] => .tuple [.i (afterF (int1 x0)).1, .i (afterF (int1 x0)).2]
    | 24, [x0] => .tuple [.i (afterF (int1 x0)).1, .i (afterF (int1 x0)).2]
    | 67, [x0] => .agg (sgd1 x0).q.d
    | 41, [x0] => .agg (sgd1 x0).q.d
    | 112, [x0, x1] => .i (qO (qst1 x0) (qst1 x1))
    | 66, [x0, x1] => .i (atF (sgds1 x0) (qst1 x1))
    | 78, [x0, x1] => .b (askB (qsts1 x0) (qst1 x1))
    | 79, [x0, x1] => .list false ((sortedF (sgds1 x0) (sgd1 x1)).map Sgd.d)
    | 80, [x0, x1] => .list false ((addF (qsts1 x0) (qst1 x1)).map Qst.d)
    | 77, [x0] => .b (dltOk (dlt1 x0))
    | 27, [x0, x1] => .b (sameD (dlt1 x0) (dlt1 x1))
    | 10, [x0] => .b (fewD (dlt1 x0))
    | 21, [x0, x1, x2, x3] => .b (fewAll (zon1 x0) (zon1 x1) (dlt1 x2) (dlt1 x3))
    | _, _ => .junk
@[go_sem] theorem xnp176 : Xn.pure 176 = true := rfl
@[go_sem] theorem xnf176 {x0 x1 : D} : Xn.pf 176 [x0, x1] = .i (lastIx (str1 x0) (int1 x1)) := rfl
@[go_sem] theorem xnp169 : Xn.pure 169 = true := rfl
@[go_sem] theorem xnf169 {x0 x1 : D} : Xn.pf 169 [x0, x1] = .i (lastIx (str1 x0) (int1 x1)) := rfl
@[go_sem] theorem xnp153 : Xn.pure 153 = true := rfl
@[go_sem] theorem xnf153 {x0 : D} : Xn.pf 153 [x0] = .b (labelOk (str1 x0)) := rfl
@[go_sem] theorem xnp114 : Xn.pure 114 = true := rfl
@[go_sem] theorem xnf114 {x0 : D} : Xn.pf 114 [x0] = .b (labelOk (str1 x0)) := rfl
@[go_sem] theorem xnp113 : Xn.pure 113 = true := rfl
@[go_sem] theorem xnf113 {x0 : D} : Xn.pf 113 [x0] = .list false ((splitF (str1 x0)).map sR) := rfl
@[go_sem] theorem xnp81 : Xn.pure 81 = true := rfl
@[go_sem] theorem xnf81 {x0 : D} : Xn.pf 81 [x0] = .b (nameOk (str1 x0)) := rfl
@[go_sem] theorem xnp123 : Xn.pure 123 = true := rfl
@[go_sem] theorem xnf123 {x0 : D} : Xn.pf 123 [x0] = .b (nameOk (str1 x0)) := rfl
@[go_sem] theorem xnp90 : Xn.pure 90 = true := rfl
@[go_sem] theorem xnf90 {x0 : D} : Xn.pf 90 [x0] = .b (nameOk (str1 x0)) := rfl
@[go_sem] theorem xnp115 : Xn.pure 115 = true := rfl
@[go_sem] theorem xnf115 {x0 : D} : Xn.pf 115 [x0] = .list false ((partsOf (str1 x0)).map sR) := rfl
@[go_sem] theorem xnp171 : Xn.pure 171 = true := rfl
@[go_sem] theorem xnf171 {x0 x1 : D} : Xn.pf 171 [x0, x1] = .i (Go.Lib.compareBytes (str1 x0) (str1 x1)) := rfl
@[go_sem] theorem xnp155 : Xn.pure 155 = true := rfl
@[go_sem] theorem xnf155 {x0 x1 : D} : Xn.pf 155 [x0, x1] = .i (Go.Lib.compareBytes (str1 x0) (str1 x1)) := rfl
@[go_sem] theorem xnp122 : Xn.pure 122 = true := rfl
@[go_sem] theorem xnf122 {x0 x1 : D} : Xn.pf 122 [x0, x1] = .i (nmOrd (str1 x0) (str1 x1)) := rfl
@[go_sem] theorem xnp120 : Xn.pure 120 = true := rfl
@[go_sem] theorem xnf120 {x0 x1 : D} : Xn.pf 120 [x0, x1] = .tuple [.i (if nameOk (str1 x0) && nameOk (str1 x1) then nmCmp (str1 x0) (str1 x1) else 0), .i (if nameOk (str1 x0) && nameOk (str1 x1) then 0 else 11)] := rfl
@[go_sem] theorem xnp125 : Xn.pure 125 = true := rfl
@[go_sem] theorem xnf125 {x0 x1 : D} : Xn.pf 125 [x0, x1] = .tuple [.i (if nameOk (str1 x0) && nameOk (str1 x1) then nmCmp (str1 x0) (str1 x1) else 0), .i (if nameOk (str1 x0) && nameOk (str1 x1) then 0 else 11)] := rfl
@[go_sem] theorem xnp127 : Xn.pure 127 = true := rfl
@[go_sem] theorem xnf127 {x0 x1 x2 : D} : Xn.pf 127 [x0, x1, x2] = .b (inR (int1 x0) (int1 x1) (int1 x2)) := rfl
@[go_sem] theorem xnp172 : Xn.pure 172 = true := rfl
@[go_sem] theorem xnf172 {x0 x1 x2 : D} : Xn.pf 172 [x0, x1, x2] = .b (inR (int1 x0) (int1 x1) (int1 x2)) := rfl
@[go_sem] theorem xnp116 : Xn.pure 116 = true := rfl
@[go_sem] theorem xnf116 {x0 x1 x2 : D} : Xn.pf 116 [x0, x1, x2] = .b (inR (int1 x0) (int1 x1) (int1 x2)) := rfl
@[go_sem] theorem xnp156 : Xn.pure 156 = true := rfl
@[go_sem] theorem xnf156 {x0 : D} : Xn.pf 156 [x0] = .b ((int1 x0) != (int1 x0)) := rfl
@[go_sem] theorem xnp173 : Xn.pure 173 = true := rfl
@[go_sem] theorem xnf173 {x0 : D} : Xn.pf 173 [x0] = .b ((str1 x0) != (str1 x0)) := rfl
@[go_sem] theorem xnp126 : Xn.pure 126 = true := rfl
@[go_sem] theorem xnf126 {x0 x1 : D} : Xn.pf 126 [x0, x1] = .i (cmpI (int1 x0) (int1 x1)) := rfl
@[go_sem] theorem xnp159 : Xn.pure 159 = true := rfl
@[go_sem] theorem xnf159 {x0 x1 : D} : Xn.pf 159 [x0, x1] = .i (cmpS (str1 x0) (str1 x1)) := rfl
@[go_sem] theorem xnp124 : Xn.pure 124 = true := rfl
@[go_sem] theorem xnf124 {x0 x1 : D} : Xn.pf 124 [x0, x1] = .b (hasPre (str1 x0) (str1 x1)) := rfl
@[go_sem] theorem xnp91 : Xn.pure 91 = true := rfl
@[go_sem] theorem xnf91 {x0 x1 : D} : Xn.pf 91 [x0, x1] = .b (hasPre (str1 x0) (str1 x1)) := rfl
@[go_sem] theorem xnp128 : Xn.pure 128 = true := rfl
@[go_sem] theorem xnf128 {x0 : D} : Xn.pf 128 [x0] = .b (wildB (str1 x0)) := rfl
@[go_sem] theorem xnp110 : Xn.pure 110 = true := rfl
@[go_sem] theorem xnf110 {x0 : D} : Xn.pf 110 [x0] = .b (wildB (str1 x0)) := rfl
@[go_sem] theorem xnp157 : Xn.pure 157 = true := rfl
@[go_sem] theorem xnf157 {x0 : D} : Xn.pf 157 [x0] = .b (freeB (str1 x0)) := rfl
@[go_sem] theorem xnp150 : Xn.pure 150 = true := rfl
@[go_sem] theorem xnf150 {x0 : D} : Xn.pf 150 [x0] = .b (freeB (str1 x0)) := rfl
@[go_sem] theorem xnp119 : Xn.pure 119 = true := rfl
@[go_sem] theorem xnf119 {x0 x1 : D} : Xn.pf 119 [x0, x1] = .b (less (dat1 x0) (dat1 x1)) := rfl
@[go_sem] theorem xnp129 : Xn.pure 129 = true := rfl
@[go_sem] theorem xnf129 {x0 x1 : D} : Xn.pf 129 [x0, x1] = .b (datOk (rule1 x0) (dat1 x1)) := rfl
@[go_sem] theorem xnp118 : Xn.pure 118 = true := rfl
@[go_sem] theorem xnf118 {x0 x1 : D} : Xn.pf 118 [x0, x1] = .b (rDatOk (int1 x0) (dat1 x1)) := rfl
@[go_sem] theorem xnp158 : Xn.pure 158 = true := rfl
@[go_sem] theorem xnf158 {x0 : D} : Xn.pf 158 [x0] = .i (orFrom (ints1 x0) 0) := rfl
@[go_sem] theorem xnp130 : Xn.pure 130 = true := rfl
@[go_sem] theorem xnf130 {x0 x1 : D} : Xn.pf 130 [x0, x1] = .i (datC (dat1 x0) (dat1 x1)) := rfl
@[go_sem] theorem xnp93 : Xn.pure 93 = true := rfl
@[go_sem] theorem xnf93 {x0 : D} : Xn.pf 93 [x0] = .b (setOk (set1 x0)) := rfl
@[go_sem] theorem xnp83 : Xn.pure 83 = true := rfl
@[go_sem] theorem xnf83 {x0 : D} : Xn.pf 83 [x0] = .b (setOk (set1 x0)) := rfl
@[go_sem] theorem xnp117 : Xn.pure 117 = true := rfl
@[go_sem] theorem xnf117 {x0 : D} : Xn.pf 117 [x0] = .b (singleB (int1 x0)) := rfl
@[go_sem] theorem xnp85 : Xn.pure 85 = true := rfl
@[go_sem] theorem xnf85 {x0 x1 : D} : Xn.pf 85 [x0, x1] = .i (rOrd (set1 x0) (set1 x1)) := rfl
@[go_sem] theorem xnp63 : Xn.pure 63 = true := rfl
@[go_sem] theorem xnf63 {x0 x1 : D} : Xn.pf 63 [x0, x1] = .b (sameB (set1 x0) (set1 x1)) := rfl
@[go_sem] theorem xnp165 : Xn.pure 165 = true := rfl
@[go_sem] theorem xnf165 {x0 x1 : D} : Xn.pf 165 [x0, x1] = .b (hasSuf (str1 x0) (str1 x1)) := rfl
@[go_sem] theorem xnp141 : Xn.pure 141 = true := rfl
@[go_sem] theorem xnf141 {x0 x1 : D} : Xn.pf 141 [x0, x1] = .b (hasSuf (str1 x0) (str1 x1)) := rfl
@[go_sem] theorem xnp102 : Xn.pure 102 = true := rfl
@[go_sem] theorem xnf102 {x0 x1 : D} : Xn.pf 102 [x0, x1] = .tuple [.b (underV (str1 x0) (str1 x1)), .i (if nameOk (str1 x0) && nameOk (str1 x1) then 0 else 11)] := rfl
@[go_sem] theorem xnp84 : Xn.pure 84 = true := rfl
@[go_sem] theorem xnf84 {x0 x1 : D} : Xn.pf 84 [x0, x1] = .b (inB (str1 x0) (str1 x1)) := rfl
@[go_sem] theorem xnp82 : Xn.pure 82 = true := rfl
@[go_sem] theorem xnf82 {x0 : D} : Xn.pf 82 [x0] = .b (wild1 (str1 x0)) := rfl
@[go_sem] theorem xnp101 : Xn.pure 101 = true := rfl
@[go_sem] theorem xnf101 {x0 x1 x2 x3 : D} : Xn.pf 101 [x0, x1, x2, x3] = .i (qC ⟨(str1 x0), (int1 x1)⟩ ⟨(str1 x2), (int1 x3)⟩) := rfl
@[go_sem] theorem xnp92 : Xn.pure 92 = true := rfl
@[go_sem] theorem xnf92 {x0 x1 : D} : Xn.pf 92 [x0, x1] = .i (qC (qst1 x0) (qst1 x1)) := rfl
@[go_sem] theorem xnp103 : Xn.pure 103 = true := rfl
@[go_sem] theorem xnf103 {x0 x1 : D} : Xn.pf 103 [x0, x1] = .b (fits (int1 x0) (bool1 x1)) := rfl
@[go_sem] theorem xnp86 : Xn.pure 86 = true := rfl
@[go_sem] theorem xnf86 {x0 x1 : D} : Xn.pf 86 [x0, x1] = .b (fits (int1 x0) (bool1 x1)) := rfl
@[go_sem] theorem xnp104 : Xn.pure 104 = true := rfl
@[go_sem] theorem xnf104 {x0 x1 : D} : Xn.pf 104 [x0, x1] = .b (sigsOk (sigs1 x0) (str1 x1)) := rfl
@[go_sem] theorem xnp89 : Xn.pure 89 = true := rfl
@[go_sem] theorem xnf89 {x0 x1 : D} : Xn.pf 89 [x0, x1] = .b (sigsOk (sigs1 x0) (str1 x1)) := rfl
@[go_sem] theorem xnp61 : Xn.pure 61 = true := rfl
@[go_sem] theorem xnf61 {x0 : D} : Xn.pf 61 [x0] = .b (qOk (qst1 x0)) := rfl
@[go_sem] theorem xnp111 : Xn.pure 111 = true := rfl
@[go_sem] theorem xnf111 {x0 : D} : Xn.pf 111 [x0] = .b (qOk (qst1 x0)) := rfl
@[go_sem] theorem xnp20 : Xn.pure 20 = true := rfl
@[go_sem] theorem xnf20 {x0 x1 : D} : Xn.pf 20 [x0, x1] = .b (sameSgd (sgd1 x0) (sgd1 x1)) := rfl
@[go_sem] theorem xnp60 : Xn.pure 60 = true := rfl
@[go_sem] theorem xnf60 {x0 x1 : D} : Xn.pf 60 [x0, x1] = .b (sameList (sgds1 x0) (sgds1 x1)) := rfl
@[go_sem] theorem xnp18 : Xn.pure 18 = true := rfl
@[go_sem] theorem xnf18 {x0 x1 : D} : Xn.pf 18 [x0, x1] = .b (sameZ (zon1 x0) (zon1 x1)) := rfl
@[go_sem] theorem xnp100 : Xn.pure 100 = true := rfl
@[go_sem] theorem xnf100 {x0 x1 : D} : Xn.pf 100 [x0, x1] = .i (qC (sgd1 x0).q (qst1 x1)) := rfl
@[go_sem] theorem xnp99 : Xn.pure 99 = true := rfl
@[go_sem] theorem xnf99 {x0 x1 x2 : D} : Xn.pf 99 [x0, x1, x2] = .tuple [.i (findIx (sgds1 x0) (qst1 x1)), .b (findOk (sgds1 x0) (qst1 x1))] := rfl
@[go_sem] theorem xnp46 : Xn.pure 46 = true := rfl
@[go_sem] theorem xnf46 {x0 x1 : D} : Xn.pf 46 [x0, x1] = .tuple [.i (findIx (zon1 x0).sets (qst1 x1)), .b (findOk (zon1 x0).sets (qst1 x1))] := rfl
@[go_sem] theorem xnp47 : Xn.pure 47 = true := rfl
@[go_sem] theorem xnf47 {x0 : D} : Xn.pf 47 [x0] = .b (ordered (zon1 x0)) := rfl
@[go_sem] theorem xnp48 : Xn.pure 48 = true := rfl
@[go_sem] theorem xnf48 {x0 : D} : Xn.pf 48 [x0] = .b (apexHolds (zon1 x0)) := rfl
@[go_sem] theorem xnp50 : Xn.pure 50 = true := rfl
@[go_sem] theorem xnf50 {x0 : D} : Xn.pf 50 [x0] = .b (aliasB (lay1 x0)) := rfl
@[go_sem] theorem xnp51 : Xn.pure 51 = true := rfl
@[go_sem] theorem xnf51 {x0 : D} : Xn.pf 51 [x0] = .b (cutB (lay1 x0)) := rfl
@[go_sem] theorem xnp52 : Xn.pure 52 = true := rfl
@[go_sem] theorem xnf52 {x0 : D} : Xn.pf 52 [x0] = .b (glueB (lay1 x0)) := rfl
@[go_sem] theorem xnp53 : Xn.pure 53 = true := rfl
@[go_sem] theorem xnf53 {x0 : D} : Xn.pf 53 [x0] = .b (formB (lay1 x0)) := rfl
@[go_sem] theorem xnp49 : Xn.pure 49 = true := rfl
@[go_sem] theorem xnf49 {x0 : D} : Xn.pf 49 [x0] = .agg (layOf (zon1 x0)).d := rfl
@[go_sem] theorem xnp14 : Xn.pure 14 = true := rfl
@[go_sem] theorem xnf14 {x0 : D} : Xn.pf 14 [x0] = .b (zoneOk (zon1 x0)) := rfl
@[go_sem] theorem xnp13 : Xn.pure 13 = true := rfl
@[go_sem] theorem xnf13 {x0 : D} : Xn.pf 13 [x0] = .tuple [.i (if zoneOk (zon1 x0) then serialOf (zon1 x0) else 0), .i (if zoneOk (zon1 x0) then 0 else 1)] := rfl
@[go_sem] theorem xnp59 : Xn.pure 59 = true := rfl
@[go_sem] theorem xnf59 {x0 x1 : D} : Xn.pf 59 [x0, x1] = .i (atF (zon1 x0).sets (qst1 x1)) := rfl
@[go_sem] theorem xnp32 : Xn.pure 32 = true := rfl
@[go_sem] theorem xnf32 {x0 : D} : Xn.pf 32 [x0] = .b (oneB (zon1 x0)) := rfl
@[go_sem] theorem xnp33 : Xn.pure 33 = true := rfl
@[go_sem] theorem xnf33 {x0 : D} : Xn.pf 33 [x0] = .b (twoB (zon1 x0)) := rfl
@[go_sem] theorem xnp34 : Xn.pure 34 = true := rfl
@[go_sem] theorem xnf34 {x0 : D} : Xn.pf 34 [x0] = .b (threeB (zon1 x0)) := rfl
@[go_sem] theorem xnp151 : Xn.pure 151 = true := rfl
@[go_sem] theorem xnf151 {x0 : D} : Xn.pf 151 [x0] = .list false ((cutsF (zon1 x0)).map sR) := rfl
@[go_sem] theorem xnp121 : Xn.pure 121 = true := rfl
@[go_sem] theorem xnf121 {x0 : D} : Xn.pf 121 [x0] = .list false ((highF (zon1 x0)).map sR) := rfl
@[go_sem] theorem xnp87 : Xn.pure 87 = true := rfl
@[go_sem] theorem xnf87 {x0 : D} : Xn.pf 87 [x0] = .list false ((behR (zon1 x0)).map sR) := rfl
@[go_sem] theorem xnp35 : Xn.pure 35 = true := rfl
@[go_sem] theorem xnf35 {x0 : D} : Xn.pf 35 [x0] = .b (fourB (zon1 x0)) := rfl
@[go_sem] theorem xnp88 : Xn.pure 88 = true := rfl
@[go_sem] theorem xnf88 {x0 : D} : Xn.pf 88 [x0] = .list false ((ownF (zon1 x0)).map bR) := rfl
@[go_sem] theorem xnp36 : Xn.pure 36 = true := rfl
@[go_sem] theorem xnf36 {x0 : D} : Xn.pf 36 [x0] = .b (fiveB (zon1 x0)) := rfl
@[go_sem] theorem xnp11 : Xn.pure 11 = true := rfl
@[go_sem] theorem xnf11 {x0 : D} : Xn.pf 11 [x0] = .b (refOk (zon1 x0)) := rfl
@[go_sem] theorem xnp17 : Xn.pure 17 = true := rfl
@[go_sem] theorem xnf17 {x0 : D} : Xn.pf 17 [x0] = .i (serialR (zon1 x0)) := rfl
@[go_sem] theorem xnp9 : Xn.pure 9 = true := rfl
@[go_sem] theorem xnf9 {x0 : D} : Xn.pf 9 [x0] = .b (fewZ (zon1 x0)) := rfl
@[go_sem] theorem xnp65 : Xn.pure 65 = true := rfl
@[go_sem] theorem xnf65 {x0 : D} : Xn.pf 65 [x0] = .b (serB (int1 x0)) := rfl
@[go_sem] theorem xnp64 : Xn.pure 64 = true := rfl
@[go_sem] theorem xnf64 {x0 : D} : Xn.pf 64 [x0] = .b (serB (int1 x0)) := rfl
@[go_sem] theorem xnp16 : Xn.pure 16 = true := rfl
@[go_sem] theorem xnf16 {x0 x1 : D} : Xn.pf 16 [x0, x1] = .b (befB (int1 x0) (int1 x1)) := rfl
@[go_sem] theorem xnp54 : Xn.pure 54 = true := rfl
@[go_sem] theorem xnf54 {x0 x1 : D} : Xn.pf 54 [x0, x1] = .b (befB (int1 x0) (int1 x1)) := rfl
@[go_sem] theorem xnp23 : Xn.pure 23 = true := rfl
@[go_sem] theorem xnf23 {x0 x1 : D} : Xn.pf 23 [x0, x1] = .tuple [.b (lessF (int1 x0) (int1 x1)).1, .i (lessF (int1 x0) (int1 x1)).2] := rfl
@[go_sem] theorem xnp22 : Xn.pure 22 = true := rfl
@[go_sem] theorem xnf22 {x0 x1 : D} : Xn.pf 22 [x0, x1] = .tuple [.b (lessF (int1 x0) (int1 x1)).1, .i (lessF (int1 x0) (int1 x1)).2] := rfl
@[go_sem] theorem xnp25 : Xn.pure 25 = true := rfl
@[go_sem] theorem xnf25 {x0 : D} : Xn.pf 25 [x0] = .tuple [.i (afterF (int1 x0)).1, .i (afterF (int1 x0)).2] := rfl
@[go_sem] theorem xnp24 : Xn.pure 24 = true := rfl
@[go_sem] theorem xnf24 {x0 : D} : Xn.pf 24 [x0] = .tuple [.i (afterF (int1 x0)).1, .i (afterF (int1 x0)).2] := rfl
@[go_sem] theorem xnp67 : Xn.pure 67 = true := rfl
@[go_sem] theorem xnf67 {x0 : D} : Xn.pf 67 [x0] = .agg (sgd1 x0).q.d := rfl
@[go_sem] theorem xnp41 : Xn.pure 41 = true := rfl
@[go_sem] theorem xnf41 {x0 : D} : Xn.pf 41 [x0] = .agg (sgd1 x0).q.d := rfl
@[go_sem] theorem xnp112 : Xn.pure 112 = true := rfl
@[go_sem] theorem xnf112 {x0 x1 : D} : Xn.pf 112 [x0, x1] = .i (qO (qst1 x0) (qst1 x1)) := rfl
@[go_sem] theorem xnp66 : Xn.pure 66 = true := rfl
@[go_sem] theorem xnf66 {x0 x1 : D} : Xn.pf 66 [x0, x1] = .i (atF (sgds1 x0) (qst1 x1)) := rfl
@[go_sem] theorem xnp78 : Xn.pure 78 = true := rfl
@[go_sem] theorem xnf78 {x0 x1 : D} : Xn.pf 78 [x0, x1] = .b (askB (qsts1 x0) (qst1 x1)) := rfl
@[go_sem] theorem xnp79 : Xn.pure 79 = true := rfl
@[go_sem] theorem xnf79 {x0 x1 : D} : Xn.pf 79 [x0, x1] = .list false ((sortedF (sgds1 x0) (sgd1 x1)).map Sgd.d) := rfl
@[go_sem] theorem xnp80 : Xn.pure 80 = true := rfl
@[go_sem] theorem xnf80 {x0 x1 : D} : Xn.pf 80 [x0, x1] = .list false ((addF (qsts1 x0) (qst1 x1)).map Qst.d) := rfl
@[go_sem] theorem xnp77 : Xn.pure 77 = true := rfl
@[go_sem] theorem xnf77 {x0 : D} : Xn.pf 77 [x0] = .b (dltOk (dlt1 x0)) := rfl
@[go_sem] theorem xnp27 : Xn.pure 27 = true := rfl
@[go_sem] theorem xnf27 {x0 x1 : D} : Xn.pf 27 [x0, x1] = .b (sameD (dlt1 x0) (dlt1 x1)) := rfl
@[go_sem] theorem xnp10 : Xn.pure 10 = true := rfl
@[go_sem] theorem xnf10 {x0 : D} : Xn.pf 10 [x0] = .b (fewD (dlt1 x0)) := rfl
@[go_sem] theorem xnp21 : Xn.pure 21 = true := rfl
@[go_sem] theorem xnf21 {x0 x1 x2 x3 : D} : Xn.pf 21 [x0, x1, x2, x3] = .b (fewAll (zon1 x0) (zon1 x1) (dlt1 x2) (dlt1 x3)) := rfl
def XnB : Con := { Xn with bs := true }
@[go_sem] theorem xnB_p {k : FuncId} : XnB.pure k = Xn.pure k := rfl
@[go_sem] theorem xnB_f {k : FuncId} {xs : List D} : XnB.pf k xs = Xn.pf k xs := rfl
@[go_sem] theorem xnB_b : XnB.bs = true := rfl
@[go_sem] theorem xn_b : Xn.bs = false := rfl
@[go_sem] theorem xn_c : Xn.cf = false := rfl
@[go_sem] theorem xnB_c : XnB.cf = false := rfl
def XnF : Con := { Xn with cf := true }
@[go_sem] theorem xnF_p {k : FuncId} : XnF.pure k = Xn.pure k := rfl
@[go_sem] theorem xnF_f {k : FuncId} {xs : List D} : XnF.pf k xs = Xn.pf k xs := rfl
@[go_sem] theorem xnF_b : XnF.bs = false := rfl
@[go_sem] theorem xnF_c : XnF.cf = true := rfl
end Go.Proofs.YtfggmgafjabbjaaGreatDoor
namespace Go.Proofs.YtfggmgafjabbjaaGreatDoor
open Go.DL Go.Str Go.Rec Go.Cmp Go.Zon
set_option maxRecDepth 10000
set_option linter.unusedSimpArgs false
set_option linter.unusedVariables false
theorem qst_eqF {x y : Qst} (h : x.name = y.name ∧ x.ty = y.ty) : x = y := by
  obtain ⟨a, b⟩ := x
  obtain ⟨g, i⟩ := y
  simp at h
  simp [h]
theorem qst_neF {x y : Qst} (h : ¬x.name = y.name ∨ ¬x.ty = y.ty) : x ≠ y := by
  rintro rfl
  simp at h
theorem bo64 : hasBody Tryz.prog 64 = true := by kernel_rfl
theorem dserial_ct (x : Int) : PureCt Tryz.prog 64 [.i x] (.b (serB x)) := by
  refine pure_of_dw Tryz.func64 rfl bo64 (by simp [go_sem, D.nr, nrs, nrr]) (by simp [Tryz.f64]) ?_
  unfold Tryz.f64
  simp only [init_eq]
  have ff := True.intro
  refine stp Xn ?_
  refine stp Xn ?_
  refine dw_ret ?_
  exact fin 0 (hr := by (try simp only [go_sem, ff]); all_goals (simp [serB]))
theorem bo16 : hasBody Tryz.prog 16 = true := by kernel_rfl
theorem rbefore_ct (a : Int) (b : Int) (ha : serB a = true) (hb : serB b = true) : PureCt Tryz.prog 16 [.i a, .i b] (.b (befB a b)) := by
  refine pure_of_dw Tryz.func16 rfl bo16 (by simp [go_sem, D.nr, nrs, nrr]) (by simp [Tryz.f16]) ?_
  unfold Tryz.f16
  simp only [init_eq]
  have ff := True.intro
  simp only [serB, Bool.and_eq_true, decide_eq_true_eq] at ha hb
  refine stp Xn ?_
  refine stp Xn ?_
  refine stp Xn ?_
  refine dw_ret ?_
  exact fin 0 (hr := by (try simp only [go_sem, ff]); all_goals (simp [befB]))
theorem bo54 : hasBody Tryz.prog 54 = true := by kernel_rfl
theorem dbefore_ct (a : Int) (b : Int) (ha : serB a = true) (hb : serB b = true) : PureCt Tryz.prog 54 [.i a, .i b] (.b (befB a b)) := by
  refine pure_of_dw Tryz.func54 rfl bo54 (by simp [go_sem, D.nr, nrs, nrr]) (by simp [Tryz.f54]) ?_
  unfold Tryz.f54
  simp only [init_eq]
  have ff := True.intro
  simp only [serB, Bool.and_eq_true, decide_eq_true_eq] at ha hb
  refine stp Xn ?_
  refine stp Xn ?_
  refine stp Xn ?_
  refine dw_ret ?_
  exact fin 0 (hr := by (try simp only [go_sem, ff]); all_goals (simp [befB]))
theorem bo22 : hasBody Tryz.prog 22 = true := by kernel_rfl
theorem dless11_ct (a : Int) (b : Int) : PureCt Tryz.prog 22 [.i a, .i b] (.tuple [.b (lessF a b).1, .i (lessF a b).2]) := by
  refine pure_of_dw Tryz.func22 rfl bo22 (by simp [go_sem, D.nr, nrs, nrr]) (by simp [Tryz.f22]) ?_
  unfold Tryz.f22
  simp only [init_eq]
  have ff := True.intro
  refine stp Xn ?_
  refine dw_seq ?_
  refine stp Xn ?_ (hok := by (try simp only [go_sem, ff]); all_goals (first | done | ((repeat' (with_reducible apply And.intro)) <;> first | exact dserial_ct _ | (intros; exact dserial_ct _) | skip)))
  refine cd (fun c1 => ?_) (fun c1 => ?_)
  · skip
    refine stp Xn ?_
    refine dw_ret ?_
    exact fin 1 (hr := by (try simp only [go_sem, ff]); all_goals (simp only [lessF]; grind))
  · skip
    refine dw_skip ?_
    show DW _ _ _ _ _
    refine stp Xn ?_ (hok := by (try simp only [go_sem, ff]); all_goals (exact dbefore_ct _ _ c1.1 c1.2))
    refine dw_ret ?_
    exact fin 1 (hr := by (try simp only [go_sem, ff]); all_goals (simp [lessF, c1]))
theorem bo24 : hasBody Tryz.prog 24 = true := by kernel_rfl
theorem dafter_ct (a : Int) : PureCt Tryz.prog 24 [.i a] (.tuple [.i (afterF a).1, .i (afterF a).2]) := by
  refine pure_of_dw Tryz.func24 rfl bo24 (by simp [go_sem, D.nr, nrs, nrr]) (by simp [Tryz.f24]) ?_
  unfold Tryz.f24
  simp only [init_eq]
  have ff := True.intro
  refine stp Xn ?_
  refine dw_seq ?_
  refine stp Xn ?_ (hok := by (try simp only [go_sem, ff]); all_goals (exact dserial_ct _))
  refine cd (fun c1 => ?_) (fun c1 => ?_)
  · skip
    refine stp Xn ?_
    refine dw_ret ?_
    exact fin 1 (hr := by (try simp only [go_sem, ff]); all_goals (simp [afterF, c1]))
  · skip
    refine dw_skip ?_
    show DW _ _ _ _ _
    have c5 := c1
    simp only [serB, Bool.and_eq_true, decide_eq_true_eq] at c5
    refine stp Xn ?_
    refine dw_ret ?_
    exact fin 1 (hr := by (try simp only [go_sem, ff]); all_goals (simp [afterF, c1]))
theorem bo41 : hasBody Tryz.prog 41 = true := by kernel_rfl
theorem dplace_ct (s : Sgd) : PureCt Tryz.prog 41 [.agg s.d] (.agg s.q.d) := by
  refine pure_of_dw Tryz.func41 rfl bo41 (by simp [go_sem, D.nr, nrs, nrr]) (by simp [Tryz.f41]) ?_
  unfold Tryz.f41
  simp only [init_eq]
  have ff := True.intro
  refine stp Xn ?_
  refine stp Xn ?_
  refine dw_ret ?_
  exact fin 1 (hr := by (try simp only [go_sem, ff]); all_goals (rfl))
theorem bo10 : hasBody Tryz.prog 10 = true := by kernel_rfl
theorem rfew11_ct (d : Dlt) : PureCt Tryz.prog 10 [.agg d.d] (.b (fewD d)) := by
  refine pure_of_dw Tryz.func10 rfl bo10 (by simp [go_sem, D.nr, nrs, nrr]) (by simp [Tryz.f10]) ?_
  unfold Tryz.f10
  simp only [init_eq]
  have ff := True.intro
  refine stp Xn ?_
  refine dw_seq ?_
  refine stp Xn ?_
  refine dw_block ?_
  refine lp (α := (Nat) × Nat) [1] (fun ⟨k, nx⟩ => (k ≤ d.put.length) ∧ (k ≤ 50) ∧ (0 < nx) ∧ (allN (min d.put.length 50) (fun i => decide (d.put[i]!.sigs.length ≤ 10) && decide (d.put[i]!.set.data.length ≤ 20)) 0 = allN (min d.put.length 50) (fun i => decide (d.put[i]!.sigs.length ≤ 10) && decide (d.put[i]!.set.data.length ≤ 20)) k) ∧ True) (fun ⟨k, nx⟩ => d.put.length - k) (fun ⟨k, nx⟩ => [(3, .i k)]) (fun ⟨k, nx⟩ => [(0, ⟨27, [d.d]⟩)]) (fun ⟨k, nx⟩ => nx) (0, _) (hA := ⟨iv, iv, iv, rfl, trivial⟩) (round := ?_)
  rintro ⟨k, nx⟩ ⟨hk, hk7, hx, hv, -⟩
  show DW _ _ _ _ { n := _, t := tab _, h := _, nx := _, e := _ }
  simp only [List.cons_append, List.nil_append]
  have ff := And.intro @hx ff
  refine dw_seq ?_
  refine stp Xn ?_
  refine cd (fun c1 => ?_) (fun c1 => ?_)
  · skip
    have hk2 : k < d.put.length := by grind
    have hk9 : k < 50 := by grind
    have hk8 : k < min d.put.length 50 := by omega
    have ff := And.intro (getD_sgd hk2) ff
    refine dw_skip ?_
    show DW _ _ _ _ _
    refine dw_seq ?_
    refine dw_block ?_
    refine stp Xn ?_
    refine cd (fun c2 => ?_) (fun c2 => ?_)
    · skip
      refine stp Xn ?_
      refine dw_ret ?_
      exact fin 0 (hr := by (try simp only [go_sem, ff]); all_goals (simp only [fewD]; rw [hv, allN_no hk8 (by grind)]; rfl))
    · skip
      refine dw_skip ?_
      show DW _ _ _ _ _
      refine rgn Xn ?_
      show ∃ _, _
      exact rnd (k + 1, _) (h1 := ⟨iv, iv, iv, (by (try dsimp only); rw [hv, allN_yes hk8 (by grind)]), trivial⟩)
  · skip
    refine dw_exit ?_
    show DW _ _ _ _ _
    refine stp Xn ?_
    refine dw_ret ?_
    exact fin 0 (hr := by (try simp only [go_sem, ff]); all_goals (simp only [fewD]; rw [hv, allN_end (by grind)]; simp; rw [Bool.eq_iff_iff]; simp; omega))
theorem bo27 : hasBody Tryz.prog 27 = true := by kernel_rfl
theorem rsame11_ct (a : Dlt) (b : Dlt) (hp : fitL a.put) (hq : a.drop.length ≤ 1000000) : PureCt Tryz.prog 27 [.agg a.d, .agg b.d] (.b (sameD a b)) := by
  refine pure_of_dw Tryz.func27 rfl bo27 (by simp [go_sem, D.nr, nrs, nrr]) (by simp [Tryz.f27]) ?_
  unfold Tryz.f27
  simp only [init_eq]
  have ff := True.intro
  refine stp Xn ?_
  refine dw_seq ?_
  refine stp Xn ?_ (hok := by (try simp only [go_sem, ff]); all_goals (first | done | ((repeat' (with_reducible apply And.intro)) <;> first | exact rsamel_ct _ _ hp | (intros; exact rsamel_ct _ _ hp) | (intros; exact rsamel_ct _ _ hp) | skip)))
  refine cd (fun c1 => ?_) (fun c1 => ?_)
  · skip
    refine stp Xn ?_
    refine dw_ret ?_
    exact fin 0 (hr := by (try simp only [go_sem, ff]); all_goals (rw [sameD_no (by grind)]))
  · skip
    refine dw_skip ?_
    show DW _ _ _ _ _
    refine dw_seq ?_
    refine stp Xn ?_
    refine dw_block ?_
    refine lp (α := (Nat) × Nat) [2, 3] (fun ⟨k, nx⟩ => (k ≤ a.drop.length) ∧ (1 < nx) ∧ (∀ i, i < k → a.drop[i]! = b.drop[i]!) ∧ True) (fun ⟨k, nx⟩ => a.drop.length - k) (fun ⟨k, nx⟩ => [(5, .i k)]) (fun ⟨k, nx⟩ => [(0, ⟨27, [a.d]⟩), (1, ⟨27, [b.d]⟩)]) (fun ⟨k, nx⟩ => nx) (0, _) (hA := ⟨iv, iv, (by first | (intro i hi; omega) | (dsimp only; intro i hi; omega)), trivial⟩) (round := ?_)
    rintro ⟨k, nx⟩ ⟨hk, hx, hv, -⟩
    show DW _ _ _ _ { n := _, t := tab _, h := _, nx := _, e := _ }
    simp only [List.cons_append, List.nil_append]
    have n0 : 0 < nx := by omega
    have ff := And.intro @hx (And.intro @n0 ff)
    refine dw_seq ?_
    refine stp Xn ?_
    refine cd (fun c2 => ?_) (fun c2 => ?_) (hp := rfl)
    · skip
      have hk2 : k < a.drop.length := by simpa using c2
      have hk3 : k < b.drop.length := by grind
      have ff := And.intro (getD_qst hk2) (And.intro (getD_qst hk3) ff)
      refine dw_skip ?_
      show DW _ _ _ _ _
      refine dw_seq ?_
      refine dw_block ?_
      refine stp Xn ?_
      refine cd (fun c3 => ?_) (fun c3 => ?_)
      · skip
        refine stp Xn ?_
        refine dw_ret ?_
        exact fin 0 (hr := by (try simp only [go_sem, ff]); all_goals (rw [sameD_at (k := k) (qst_neF c3)]))
      · skip
        refine dw_skip ?_
        show DW _ _ _ _ _
        refine rgn Xn ?_
        show ∃ _, _
        exact rnd (k + 1, _) (h1 := ⟨iv, iv, (by (try dsimp only); intro i hi; by_cases e : i = k; subst e; exact qst_eqF c3; exact hv i (by omega)), trivial⟩)
    · skip
      refine dw_exit ?_
      show DW _ _ _ _ _
      refine stp Xn ?_
      refine dw_ret ?_
      exact fin 0 (hr := by (try simp only [go_sem, ff]); all_goals (rw [sameD_yes (by grind) (by grind) (by grind) (by grind) (by grind) fun i hi => hv i (by omega)]))

end Go.Proofs.YtfggmgafjabbjaaGreatDoor
namespace Go.Proofs.YtfggmgafjabbjaaGreatDoor
open Go.DL Go.Str Go.Rec Go.Cmp Go.Zon
set_option maxRecDepth 10000
set_option linter.unusedSimpArgs false
set_option linter.unusedVariables false
@[go_sem] theorem insTo_0 {α : Type} [Inhabited α] {gt : α → Bool} {l : List α} {s : α} : insTo gt l s 0 = ([], false) := rfl
@[go_sem] theorem sgd_snoc {l : List Sgd} {x : Sgd} : (l ++ [x]).map Sgd.d = l.map Sgd.d ++ [[.v (.string (bs x.set.name)), .i x.set.ty, .i x.set.life, .list false (x.set.data.map Dat.d), .list false (x.sigs.map RSig.d)]] := by simp [Sgd.d]
@[go_sem] theorem qst_snoc {l : List Qst} {x : Qst} : (l ++ [x]).map Qst.d = l.map Qst.d ++ [[.v (.string (bs x.name)), .i x.ty]] := by simp [Qst.d]
end Go.Proofs.YtfggmgafjabbjaaGreatDoor
/-
  MADE BY A PROGRAM OF MINE: what the functions that leave memory alone give. Conditions: none.
-/
namespace Go.Proofs.YtfggmgafjabbjaaGreatDoor
open Go.DL Go.Str Go.Rec Go.Zon
set_option linter.unusedVariables false
def Wn : Con where
  pure := fun k => [176, 169, 153, 114, 113, 81, 123, 90, 115, 171, 155, 122, 120, 125, 127, 172, 116, 156, 173, 126, 159, 124, 91, 128, 110, 157, 150, 119, 129, 118, 158, 130, 93, 83, 117, 85, 63, 165, 141, 102, 84, 82, 101, 92, 103, 86, 104, 89, 61, 111, 20, 60, 18, 100, 99, 46, 47, 48, 50, 51, 52, 53, 49, 14, 13, 59, 32, 33, 34, 151, 121, 87, 35, 88, 36, 11, 17, 9, 65, 64, 16, 54, 23, 22, 25, 24, 67, 41, 112, 66, 78, 79, 80, 77, 27, 10, 21, 26, 30].contains k
  pf := fun k xs => match k, xs with
    | 176, [x0, x1] => .i (lastIx (str1 x0) (int1 x1))
    | 169, [x0, x1] => .i (lastIx (str1 x0) (int1 x1))
    | 153, [x0] => .b (labelOk (str1 x0))
    | 114, [x0] => .b (labelOk (str1 x0))
    | 113, [x0] => .list false ((splitF (str1 x0)).map sR)
    | 81, [x0] => .b (nameOk (str1 x0))
    | 123, [x0] => .b (nameOk (str1 x0))
    | 90, [x0] => .b (nameOk (str1 x0))
    | 115, [x0] => .list false ((partsOf (str1 x0)).map sR)
    | 171, [x0, x1] => .i (Go.Lib.compareBytes (str1 x0) (str1 x1))
    | 155, [x0, x1] => .i (Go.Lib.compareBytes (str1 x0) (str1 x1))
    | 122, [x0, x1] => .i (nmOrd (str1 x0) (str1 x1))
    | 120, [x0, x1] => .tuple [.i (if nameOk (str1 x0) && nameOk (str1 x1) then nmCmp (str1 x0) (str1 x1) else 0), .i (if nameOk (str1 x0) && nameOk (str1 x1) then 0 else 11)]
    | 125, [x0, x1] => .tuple [.i (if nameOk (str1 x0) && nameOk (str1 x1) then nmCmp (str1 x0) (str1 x1) else 0), .i (if nameOk (str1 x0) && nameOk (str1 x1) then 0 else 11)]
    | 127, [x0, x1, x2] => .b (inR (int1 x0) (int1 x1) (int1 x2))
    | 172, [x0, x1, x2] => .b (inR (int1 x0) (int1 x1) (int1 x2))
    | 116, [x0, x1, x2] => .b (inR (int1 x0) (int1 x1) (int1 x2))
    | 156, [x0] => .b ((int1 x0) != (int1 x0))
    | 173, [x0] => .b ((str1 x0) != (str1 x0))
    | 126, [x0, x1] => .i (cmpI (int1 x0) (int1 x1))
    | 159, [x0, x1] => .i (cmpS (str1 x0) (str1 x1))
    | 124, [x0, x1] => .b (hasPre (str1 x0) (str1 x1))
    | 91, [x0, x1] => .b (hasPre (str1 x0) (str1 x1))
    | 128, [x0] => .b (wildB (str1 x0))
    | 110, [x0] => .b (wildB (str1 x0))
    | 157, [x0] => .b (freeB (str1 x0))
    | 150, [x0] => .b (freeB (str1 x0))
    | 119, [x0, x1] => .b (less (dat1 x0) (dat1 x1))
    | 129, [x0, x1] => .b (datOk (rule1 x0) (dat1 x1))
    | 118, [x0, x1] => .b (rDatOk (int1 x0) (dat1 x1))
    | 158, [x0] => .i (orFrom (ints1 x0) 0)
    | 130, [x0, x1] => .i (datC (dat1 x0) (dat1 x1))
    | 93, [x0] => .b (setOk (set1 x0))
    | 83, [x0] => .b (setOk (set1 x0))
    | 117, [x0] => .b (singleB (int1 x0))
    | 85, [x0, x1] => .i (rOrd (set1 x0) (set1 x1))
    | 63, [x0, x1] => .b (sameB (set1 x0) (set1 x1))
    | 165, [x0, x1] => .b (hasSuf (str1 x0) (str1 x1))
    | 141, [x0, x1] => .b (hasSuf (str1 x0) (str1 x1))
    | 102, [x0, x1] => .tuple [.b (underV (str1 x0) (str1 x1)), .i (if nameOk (str1 x0) && nameOk (str1 x1) then 0 else 11)]
    | 84, [x0, x1] => .b (inB (str1 x0) (str1 x1))
    | 82, [x0] => .b (wild1 (str1 x0))
    | 101, [x0, x1, x2, x3] => .i (qC ⟨(str1 x0), (int1 x1)⟩ ⟨(str1 x2), (int1 x3)⟩)
    | 92, [x0, x1] => .i (qC (qst1 x0) (qst1 x1))
    | 103, [x0, x1] => .b (fits (int1 x0) (bool1 x1))
    | 86, [x0, x1] => .b (fits (int1 x0) (bool1 x1))
    | 104, [x0, x1] => .b (sigsOk (sigs1 x0) (str1 x1))
    | 89, [x0, x1] => .b (sigsOk (sigs1 x0) (str1 x1))
    | 61, [x0] => .b (qOk (qst1 x0))
    | 111, [x0] => .b (qOk (qst1 x0))
    | 20, [x0, x1] => .b (sameSgd (sgd1 x0) (sgd1 x1))
    | 60, [x0, x1] => .b (sameList (sgds1 x0) (sgds1 x1))
    | 18, [x0, x1] => .b (sameZ (zon1 x0) (zon1 x1))
    | 100, [x0, x1] => .i (qC (sgd1 x0).q (qst1 x1))
    | 99, [x0, x1, x2] => .tuple [.i (findIx (sgds1 x0) (qst1 x1)), .b (findOk (sgds1 x0) (qst1 x1))]
    | 46, [x0, x1] => .tuple [.i (findIx (zon1 x0).sets (qst1 x1)), .b (findOk (zon1 x0).sets (qst1 x1))]
    | 47, [x0] => .b (ordered (zon1 x0))
    | 48, [x0] => .b (apexHolds (zon1 x0))
    | 50, [x0] => .b (aliasB (lay1 x0))
    | 51, [x0] => .b (cutB (lay1 x0))
    | 52, [x0] => .b (glueB (lay1 x0))
    | 53, [x0] => .b (formB (lay1 x0))
    | 49, [x0] => .agg (layOf (zon1 x0)).d
    | 14, [x0] => .b (zoneOk (zon1 x0))
    | 13, [x0] => .tuple [.i (if zoneOk (zon1 x0) then serialOf (zon1 x0) else 0), .i (if zoneOk (zon1 x0) then 0 else 1)]
    | 59, [x0, x1] => .i (atF (zon1 x0).sets (qst1 x1))
    | 32, [x0] => .b (oneB (zon1 x0))
    | 33, [x0] => .b (twoB (zon1 x0))
    | 34, [x0] => .b (threeB (zon1 x0))
    | 151, [x0] => .list false ((cutsF (zon1 x0)).map sR)
    | 121, [x0] => .list false ((highF (zon1 x0)).map sR)
    | 87, [x0] => .list false ((behR (zon1 x0)).map sR)
    | 35, [x0] => .b (fourB (zon1 x0))
    | 88, [x0] => .list false ((ownF (zon1 x0)).map bR)
    | 36, [x0] => .b (fiveB (zon1 x0))
    | 11, [x0] => .b (refOk (zon1 x0))
    | 17, [x0] => .i (serialR (zon1 x0))
    | 9, [x0] => .b (fewZ (zon1 x0))
    | 65, [x0] => .b (serB (int1 x0))
    | 64, [x0] => .b (serB (int1 x0))
    | 16, [x0, x1] => .b (befB (int1 x0) (int1 x1))
    | 54, [x0, x1] => .b (befB (int1 x0) (int1 x1))
    | 23, [x0, x1] => .tuple [.b (lessF (int1 x0) (int1 x1)).1, .i (lessF (int1 x0) (int1 x1)).2]
    | 22, [x0, x1] => .tuple [.b (lessF (int1 x0) (int1 x1)).1, .i (lessF (int1 x0) (int1 x1)).2]
    | 25, [x0] => .tuple [.i (afterF (int1 x0)).1, .i (afterF (int1 x0)).2]
    | 24, [x0] => .tuple [.i (afterF (int1 x0)).1, .i (afterF (int1 x0)).2]
    | 67, [x0] => .agg (sgd1 x0).q.d
    | 41, [x0] => .agg (sgd1 x0).q.d
    | 112, [x0, x1] => .i (qO (qst1 x0) (qst1 x1))
    | 66, [x0, x1] => .i (atF (sgds1 x0) (qst1 x1))
    | 78, [x0, x1] => .b (askB (qsts1 x0) (qst1 x1))
    | 79, [x0, x1] => .list false ((sortedF (sgds1 x0) (sgd1 x1)).map Sgd.d)
    | 80, [x0, x1] => .list false ((addF (qsts1 x0) (qst1 x1)).map Qst.d)
    | 77, [x0] => .b (dltOk (dlt1 x0))
    | 27, [x0, x1] => .b (sameD (dlt1 x0) (dlt1 x1))
    | 10, [x0] => .b (fewD (dlt1 x0))
    | 21, [x0, x1, x2, x3] => .b (fewAll (zon1 x0) (zon1 x1) (dlt1 x2) (dlt1 x3))
    | 26, [x0, x1] => .tuple [.agg (diffR (zon1 x0) (zon1 x1)).1.d, .i (diffR (zon1 x0) (zon1 x1)).2]
    | 30, [x0, x1] => .tuple [.agg (applyR (zon1 x0) (dlt1 x1)).1.d, .i (applyR (zon1 x0) (dlt1 x1)).2]
    | _, _ => .junk
@[go_sem] theorem wnp176 : Wn.pure 176 = true := rfl
@[go_sem] theorem wnf176 {x0 x1 : D} : Wn.pf 176 [x0, x1] = .i (lastIx (str1 x0) (int1 x1)) := rfl
@[go_sem] theorem wnp169 : Wn.pure 169 = true := rfl
@[go_sem] theorem wnf169 {x0 x1 : D} : Wn.pf 169 [x0, x1] = .i (lastIx (str1 x0) (int1 x1)) := rfl
@[go_sem] theorem wnp153 : Wn.pure 153 = true := rfl
@[go_sem] theorem wnf153 {x0 : D} : Wn.pf 153 [x0] = .b (labelOk (str1 x0)) := rfl
@[go_sem] theorem wnp114 : Wn.pure 114 = true := rfl
@[go_sem] theorem wnf114 {x0 : D} : Wn.pf 114 [x0] = .b (labelOk (str1 x0)) := rfl
@[go_sem] theorem wnp113 : Wn.pure 113 = true := rfl
@[go_sem] theorem wnf113 {x0 : D} : Wn.pf 113 [x0] = .list false ((splitF (str1 x0)).map sR) := rfl
@[go_sem] theorem wnp81 : Wn.pure 81 = true := rfl
@[go_sem] theorem wnf81 {x0 : D} : Wn.pf 81 [x0] = .b (nameOk (str1 x0)) := rfl
@[go_sem] theorem wnp123 : Wn.pure 123 = true := rfl
@[go_sem] theorem wnf123 {x0 : D} : Wn.pf 123 [x0] = .b (nameOk (str1 x0)) := rfl
@[go_sem] theorem wnp90 : Wn.pure 90 = true := rfl
@[go_sem] theorem wnf90 {x0 : D} : Wn.pf 90 [x0] = .b (nameOk (str1 x0)) := rfl
@[go_sem] theorem wnp115 : Wn.pure 115 = true := rfl
@[go_sem] theorem wnf115 {x0 : D} : Wn.pf 115 [x0] = .list false ((partsOf (str1 x0)).map sR) := rfl
@[go_sem] theorem wnp171 : Wn.pure 171 = true := rfl
@[go_sem] theorem wnf171 {x0 x1 : D} : Wn.pf 171 [x0, x1] = .i (Go.Lib.compareBytes (str1 x0) (str1 x1)) := rfl
@[go_sem] theorem wnp155 : Wn.pure 155 = true := rfl
@[go_sem] theorem wnf155 {x0 x1 : D} : Wn.pf 155 [x0, x1] = .i (Go.Lib.compareBytes (str1 x0) (str1 x1)) := rfl
@[go_sem] theorem wnp122 : Wn.pure 122 = true := rfl
@[go_sem] theorem wnf122 {x0 x1 : D} : Wn.pf 122 [x0, x1] = .i (nmOrd (str1 x0) (str1 x1)) := rfl
@[go_sem] theorem wnp120 : Wn.pure 120 = true := rfl
@[go_sem] theorem wnf120 {x0 x1 : D} : Wn.pf 120 [x0, x1] = .tuple [.i (if nameOk (str1 x0) && nameOk (str1 x1) then nmCmp (str1 x0) (str1 x1) else 0), .i (if nameOk (str1 x0) && nameOk (str1 x1) then 0 else 11)] := rfl
@[go_sem] theorem wnp125 : Wn.pure 125 = true := rfl
@[go_sem] theorem wnf125 {x0 x1 : D} : Wn.pf 125 [x0, x1] = .tuple [.i (if nameOk (str1 x0) && nameOk (str1 x1) then nmCmp (str1 x0) (str1 x1) else 0), .i (if nameOk (str1 x0) && nameOk (str1 x1) then 0 else 11)] := rfl
@[go_sem] theorem wnp127 : Wn.pure 127 = true := rfl
@[go_sem] theorem wnf127 {x0 x1 x2 : D} : Wn.pf 127 [x0, x1, x2] = .b (inR (int1 x0) (int1 x1) (int1 x2)) := rfl
@[go_sem] theorem wnp172 : Wn.pure 172 = true := rfl
@[go_sem] theorem wnf172 {x0 x1 x2 : D} : Wn.pf 172 [x0, x1, x2] = .b (inR (int1 x0) (int1 x1) (int1 x2)) := rfl
@[go_sem] theorem wnp116 : Wn.pure 116 = true := rfl
@[go_sem] theorem wnf116 {x0 x1 x2 : D} : Wn.pf 116 [x0, x1, x2] = .b (inR (int1 x0) (int1 x1) (int1 x2)) := rfl
@[go_sem] theorem wnp156 : Wn.pure 156 = true := rfl
@[go_sem] theorem wnf156 {x0 : D} : Wn.pf 156 [x0] = .b ((int1 x0) != (int1 x0)) := rfl
@[go_sem] theorem wnp173 : Wn.pure 173 = true := rfl
@[go_sem] theorem wnf173 {x0 : D} : Wn.pf 173 [x0] = .b ((str1 x0) != (str1 x0)) := rfl
@[go_sem] theorem wnp126 : Wn.pure 126 = true := rfl
@[go_sem] theorem wnf126 {x0 x1 : D} : Wn.pf 126 [x0, x1] = .i (cmpI (int1 x0) (int1 x1)) := rfl
@[go_sem] theorem wnp159 : Wn.pure 159 = true := rfl
@[go_sem] theorem wnf159 {x0 x1 : D} : Wn.pf 159 [x0, x1] = .i (cmpS (str1 x0) (str1 x1)) := rfl
@[go_sem] theorem wnp124 : Wn.pure 124 = true := rfl
@[go_sem] theorem wnf124 {x0 x1 : D} : Wn.pf 124 [x0, x1] = .b (hasPre (str1 x0) (str1 x1)) := rfl
@[go_sem] theorem wnp91 : Wn.pure 91 = true := rfl
@[go_sem] theorem wnf91 {x0 x1 : D} : Wn.pf 91 [x0, x1] = .b (hasPre (str1 x0) (str1 x1)) := rfl
@[go_sem] theorem wnp128 : Wn.pure 128 = true := rfl
@[go_sem] theorem wnf128 {x0 : D} : Wn.pf 128 [x0] = .b (wildB (str1 x0)) := rfl
@[go_sem] theorem wnp110 : Wn.pure 110 = true := rfl
@[go_sem] theorem wnf110 {x0 : D} : Wn.pf 110 [x0] = .b (wildB (str1 x0)) := rfl
@[go_sem] theorem wnp157 : Wn.pure 157 = true := rfl
@[go_sem] theorem wnf157 {x0 : D} : Wn.pf 157 [x0] = .b (freeB (str1 x0)) := rfl
@[go_sem] theorem wnp150 : Wn.pure 150 = true := rfl
@[go_sem] theorem wnf150 {x0 : D} : Wn.pf 150 [x0] = .b (freeB (str1 x0)) := rfl
@[go_sem] theorem wnp119 : Wn.pure 119 = true := rfl
@[go_sem] theorem wnf119 {x0 x1 : D} : Wn.pf 119 [x0, x1] = .b (less (dat1 x0) (dat1 x1)) := rfl
@[go_sem] theorem wnp129 : Wn.pure 129 = true := rfl
@[go_sem] theorem wnf129 {x0 x1 : D} : Wn.pf 129 [x0, x1] = .b (datOk (rule1 x0) (dat1 x1)) := rfl
@[go_sem] theorem wnp118 : Wn.pure 118 = true := rfl
@[go_sem] theorem wnf118 {x0 x1 : D} : Wn.pf 118 [x0, x1] = .b (rDatOk (int1 x0) (dat1 x1)) := rfl
@[go_sem] theorem wnp158 : Wn.pure 158 = true := rfl
@[go_sem] theorem wnf158 {x0 : D} : Wn.pf 158 [x0] = .i (orFrom (ints1 x0) 0) := rfl
@[go_sem] theorem wnp130 : Wn.pure 130 = true := rfl
@[go_sem] theorem wnf130 {x0 x1 : D} : Wn.pf 130 [x0, x1] = .i (datC (dat1 x0) (dat1 x1)) := rfl
@[go_sem] theorem wnp93 : Wn.pure 93 = true := rfl
@[go_sem] theorem wnf93 {x0 : D} : Wn.pf 93 [x0] = .b (setOk (set1 x0)) := rfl
@[go_sem] theorem wnp83 : Wn.pure 83 = true := rfl
@[go_sem] theorem wnf83 {x0 : D} : Wn.pf 83 [x0] = .b (setOk (set1 x0)) := rfl
@[go_sem] theorem wnp117 : Wn.pure 117 = true := rfl
@[go_sem] theorem wnf117 {x0 : D} : Wn.pf 117 [x0] = .b (singleB (int1 x0)) := rfl
@[go_sem] theorem wnp85 : Wn.pure 85 = true := rfl
@[go_sem] theorem wnf85 {x0 x1 : D} : Wn.pf 85 [x0, x1] = .i (rOrd (set1 x0) (set1 x1)) := rfl
@[go_sem] theorem wnp63 : Wn.pure 63 = true := rfl
@[go_sem] theorem wnf63 {x0 x1 : D} : Wn.pf 63 [x0, x1] = .b (sameB (set1 x0) (set1 x1)) := rfl
@[go_sem] theorem wnp165 : Wn.pure 165 = true := rfl
@[go_sem] theorem wnf165 {x0 x1 : D} : Wn.pf 165 [x0, x1] = .b (hasSuf (str1 x0) (str1 x1)) := rfl
@[go_sem] theorem wnp141 : Wn.pure 141 = true := rfl
@[go_sem] theorem wnf141 {x0 x1 : D} : Wn.pf 141 [x0, x1] = .b (hasSuf (str1 x0) (str1 x1)) := rfl
@[go_sem] theorem wnp102 : Wn.pure 102 = true := rfl
@[go_sem] theorem wnf102 {x0 x1 : D} : Wn.pf 102 [x0, x1] = .tuple [.b (underV (str1 x0) (str1 x1)), .i (if nameOk (str1 x0) && nameOk (str1 x1) then 0 else 11)] := rfl
@[go_sem] theorem wnp84 : Wn.pure 84 = true := rfl
@[go_sem] theorem wnf84 {x0 x1 : D} : Wn.pf 84 [x0, x1] = .b (inB (str1 x0) (str1 x1)) := rfl
@[go_sem] theorem wnp82 : Wn.pure 82 = true := rfl
@[go_sem] theorem wnf82 {x0 : D} : Wn.pf 82 [x0] = .b (wild1 (str1 x0)) := rfl
@[go_sem] theorem wnp101 : Wn.pure 101 = true := rfl
@[go_sem] theorem wnf101 {x0 x1 x2 x3 : D} : Wn.pf 101 [x0, x1, x2, x3] = .i (qC ⟨(str1 x0), (int1 x1)⟩ ⟨(str1 x2), (int1 x3)⟩) := rfl
@[go_sem] theorem wnp92 : Wn.pure 92 = true := rfl
@[go_sem] theorem wnf92 {x0 x1 : D} : Wn.pf 92 [x0, x1] = .i (qC (qst1 x0) (qst1 x1)) := rfl
@[go_sem] theorem wnp103 : Wn.pure 103 = true := rfl
@[go_sem] theorem wnf103 {x0 x1 : D} : Wn.pf 103 [x0, x1] = .b (fits (int1 x0) (bool1 x1)) := rfl
@[go_sem] theorem wnp86 : Wn.pure 86 = true := rfl
@[go_sem] theorem wnf86 {x0 x1 : D} : Wn.pf 86 [x0, x1] = .b (fits (int1 x0) (bool1 x1)) := rfl
@[go_sem] theorem wnp104 : Wn.pure 104 = true := rfl
@[go_sem] theorem wnf104 {x0 x1 : D} : Wn.pf 104 [x0, x1] = .b (sigsOk (sigs1 x0) (str1 x1)) := rfl
@[go_sem] theorem wnp89 : Wn.pure 89 = true := rfl
@[go_sem] theorem wnf89 {x0 x1 : D} : Wn.pf 89 [x0, x1] = .b (sigsOk (sigs1 x0) (str1 x1)) := rfl
@[go_sem] theorem wnp61 : Wn.pure 61 = true := rfl
@[go_sem] theorem wnf61 {x0 : D} : Wn.pf 61 [x0] = .b (qOk (qst1 x0)) := rfl
@[go_sem] theorem wnp111 : Wn.pure 111 = true := rfl
@[go_sem] theorem wnf111 {x0 : D} : Wn.pf 111 [x0] = .b (qOk (qst1 x0)) := rfl
@[go_sem] theorem wnp20 : Wn.pure 20 = true := rfl
@[go_sem] theorem wnf20 {x0 x1 : D} : Wn.pf 20 [x0, x1] = .b (sameSgd (sgd1 x0) (sgd1 x1)) := rfl
@[go_sem] theorem wnp60 : Wn.pure 60 = true := rfl
@[go_sem] theorem wnf60 {x0 x1 : D} : Wn.pf 60 [x0, x1] = .b (sameList (sgds1 x0) (sgds1 x1)) := rfl
@[go_sem] theorem wnp18 : Wn.pure 18 = true := rfl
@[go_sem] theorem wnf18 {x0 x1 : D} : Wn.pf 18 [x0, x1] = .b (sameZ (zon1 x0) (zon1 x1)) := rfl
@[go_sem] theorem wnp100 : Wn.pure 100 = true := rfl
@[go_sem] theorem wnf100 {x0 x1 : D} : Wn.pf 100 [x0, x1] = .i (qC (sgd1 x0).q (qst1 x1)) := rfl
@[go_sem] theorem wnp99 : Wn.pure 99 = true := rfl
@[go_sem] theorem wnf99 {x0 x1 x2 : D} : Wn.pf 99 [x0, x1, x2] = .tuple [.i (findIx (sgds1 x0) (qst1 x1)), .b (findOk (sgds1 x0) (qst1 x1))] := rfl
@[go_sem] theorem wnp46 : Wn.pure 46 = true := rfl
@[go_sem] theorem wnf46 {x0 x1 : D} : Wn.pf 46 [x0, x1] = .tuple [.i (findIx (zon1 x0).sets (qst1 x1)), .b (findOk (zon1 x0).sets (qst1 x1))] := rfl
@[go_sem] theorem wnp47 : Wn.pure 47 = true := rfl
@[go_sem] theorem wnf47 {x0 : D} : Wn.pf 47 [x0] = .b (ordered (zon1 x0)) := rfl
@[go_sem] theorem wnp48 : Wn.pure 48 = true := rfl
@[go_sem] theorem wnf48 {x0 : D} : Wn.pf 48 [x0] = .b (apexHolds (zon1 x0)) := rfl
@[go_sem] theorem wnp50 : Wn.pure 50 = true := rfl
@[go_sem] theorem wnf50 {x0 : D} : Wn.pf 50 [x0] = .b (aliasB (lay1 x0)) := rfl
@[go_sem] theorem wnp51 : Wn.pure 51 = true := rfl
@[go_sem] theorem wnf51 {x0 : D} : Wn.pf 51 [x0] = .b (cutB (lay1 x0)) := rfl
@[go_sem] theorem wnp52 : Wn.pure 52 = true := rfl
@[go_sem] theorem wnf52 {x0 : D} : Wn.pf 52 [x0] = .b (glueB (lay1 x0)) := rfl
@[go_sem] theorem wnp53 : Wn.pure 53 = true := rfl
@[go_sem] theorem wnf53 {x0 : D} : Wn.pf 53 [x0] = .b (formB (lay1 x0)) := rfl
@[go_sem] theorem wnp49 : Wn.pure 49 = true := rfl
@[go_sem] theorem wnf49 {x0 : D} : Wn.pf 49 [x0] = .agg (layOf (zon1 x0)).d := rfl
@[go_sem] theorem wnp14 : Wn.pure 14 = true := rfl
@[go_sem] theorem wnf14 {x0 : D} : Wn.pf 14 [x0] = .b (zoneOk (zon1 x0)) := rfl
@[go_sem] theorem wnp13 : Wn.pure 13 = true := rfl
@[go_sem] theorem wnf13 {x0 : D} : Wn.pf 13 [x0] = .tuple [.i (if zoneOk (zon1 x0) then serialOf (zon1 x0) else 0), .i (if zoneOk (zon1 x0) then 0 else 1)] := rfl
@[go_sem] theorem wnp59 : Wn.pure 59 = true := rfl
@[go_sem] theorem wnf59 {x0 x1 : D} : Wn.pf 59 [x0, x1] = .i (atF (zon1 x0).sets (qst1 x1)) := rfl
@[go_sem] theorem wnp32 : Wn.pure 32 = true := rfl
@[go_sem] theorem wnf32 {x0 : D} : Wn.pf 32 [x0] = .b (oneB (zon1 x0)) := rfl
@[go_sem] theorem wnp33 : Wn.pure 33 = true := rfl
@[go_sem] theorem wnf33 {x0 : D} : Wn.pf 33 [x0] = .b (twoB (zon1 x0)) := rfl
@[go_sem] theorem wnp34 : Wn.pure 34 = true := rfl
@[go_sem] theorem wnf34 {x0 : D} : Wn.pf 34 [x0] = .b (threeB (zon1 x0)) := rfl
@[go_sem] theorem wnp151 : Wn.pure 151 = true := rfl
@[go_sem] theorem wnf151 {x0 : D} : Wn.pf 151 [x0] = .list false ((cutsF (zon1 x0)).map sR) := rfl
@[go_sem] theorem wnp121 : Wn.pure 121 = true := rfl
@[go_sem] theorem wnf121 {x0 : D} : Wn.pf 121 [x0] = .list false ((highF (zon1 x0)).map sR) := rfl
@[go_sem] theorem wnp87 : Wn.pure 87 = true := rfl
@[go_sem] theorem wnf87 {x0 : D} : Wn.pf 87 [x0] = .list false ((behR (zon1 x0)).map sR) := rfl
@[go_sem] theorem wnp35 : Wn.pure 35 = true := rfl
@[go_sem] theorem wnf35 {x0 : D} : Wn.pf 35 [x0] = .b (fourB (zon1 x0)) := rfl
@[go_sem] theorem wnp88 : Wn.pure 88 = true := rfl
@[go_sem] theorem wnf88 {x0 : D} : Wn.pf 88 [x0] = .list false ((ownF (zon1 x0)).map bR) := rfl
@[go_sem] theorem wnp36 : Wn.pure 36 = true := rfl
@[go_sem] theorem wnf36 {x0 : D} : Wn.pf 36 [x0] = .b (fiveB (zon1 x0)) := rfl
@[go_sem] theorem wnp11 : Wn.pure 11 = true := rfl
@[go_sem] theorem wnf11 {x0 : D} : Wn.pf 11 [x0] = .b (refOk (zon1 x0)) := rfl
@[go_sem] theorem wnp17 : Wn.pure 17 = true := rfl
@[go_sem] theorem wnf17 {x0 : D} : Wn.pf 17 [x0] = .i (serialR (zon1 x0)) := rfl
@[go_sem] theorem wnp9 : Wn.pure 9 = true := rfl
@[go_sem] theorem wnf9 {x0 : D} : Wn.pf 9 [x0] = .b (fewZ (zon1 x0)) := rfl
@[go_sem] theorem wnp65 : Wn.pure 65 = true := rfl
@[go_sem] theorem wnf65 {x0 : D} : Wn.pf 65 [x0] = .b (serB (int1 x0)) := rfl
@[go_sem] theorem wnp64 : Wn.pure 64 = true := rfl
@[go_sem] theorem wnf64 {x0 : D} : Wn.pf 64 [x0] = .b (serB (int1 x0)) := rfl
@[go_sem] theorem wnp16 : Wn.pure 16 = true := rfl
@[go_sem] theorem wnf16 {x0 x1 : D} : Wn.pf 16 [x0, x1] = .b (befB (int1 x0) (int1 x1)) := rfl
@[go_sem] theorem wnp54 : Wn.pure 54 = true := rfl
@[go_sem] theorem wnf54 {x0 x1 : D} : Wn.pf 54 [x0, x1] = .b (befB (int1 x0) (int1 x1)) := rfl
@[go_sem] theorem wnp23 : Wn.pure 23 = true := rfl
@[go_sem] theorem wnf23 {x0 x1 : D} : Wn.pf 23 [x0, x1] = .tuple [.b (lessF (int1 x0) (int1 x1)).1, .i (lessF (int1 x0) (int1 x1)).2] := rfl
@[go_sem] theorem wnp22 : Wn.pure 22 = true := rfl
@[go_sem] theorem wnf22 {x0 x1 : D} : Wn.pf 22 [x0, x1] = .tuple [.b (lessF (int1 x0) (int1 x1)).1, .i (lessF (int1 x0) (int1 x1)).2] := rfl
@[go_sem] theorem wnp25 : Wn.pure 25 = true := rfl
@[go_sem] theorem wnf25 {x0 : D} : Wn.pf 25 [x0] = .tuple [.i (afterF (int1 x0)).1, .i (afterF (int1 x0)).2] := rfl
@[go_sem] theorem wnp24 : Wn.pure 24 = true := rfl
@[go_sem] theorem wnf24 {x0 : D} : Wn.pf 24 [x0] = .tuple [.i (afterF (int1 x0)).1, .i (afterF (int1 x0)).2] := rfl
@[go_sem] theorem wnp67 : Wn.pure 67 = true := rfl
@[go_sem] theorem wnf67 {x0 : D} : Wn.pf 67 [x0] = .agg (sgd1 x0).q.d := rfl
@[go_sem] theorem wnp41 : Wn.pure 41 = true := rfl
@[go_sem] theorem wnf41 {x0 : D} : Wn.pf 41 [x0] = .agg (sgd1 x0).q.d := rfl
@[go_sem] theorem wnp112 : Wn.pure 112 = true := rfl
@[go_sem] theorem wnf112 {x0 x1 : D} : Wn.pf 112 [x0, x1] = .i (qO (qst1 x0) (qst1 x1)) := rfl
@[go_sem] theorem wnp66 : Wn.pure 66 = true := rfl
@[go_sem] theorem wnf66 {x0 x1 : D} : Wn.pf 66 [x0, x1] = .i (atF (sgds1 x0) (qst1 x1)) := rfl
@[go_sem] theorem wnp78 : Wn.pure 78 = true := rfl
@[go_sem] theorem wnf78 {x0 x1 : D} : Wn.pf 78 [x0, x1] = .b (askB (qsts1 x0) (qst1 x1)) := rfl
@[go_sem] theorem wnp79 : Wn.pure 79 = true := rfl
@[go_sem] theorem wnf79 {x0 x1 : D} : Wn.pf 79 [x0, x1] = .list false ((sortedF (sgds1 x0) (sgd1 x1)).map Sgd.d) := rfl
@[go_sem] theorem wnp80 : Wn.pure 80 = true := rfl
@[go_sem] theorem wnf80 {x0 x1 : D} : Wn.pf 80 [x0, x1] = .list false ((addF (qsts1 x0) (qst1 x1)).map Qst.d) := rfl
@[go_sem] theorem wnp77 : Wn.pure 77 = true := rfl
@[go_sem] theorem wnf77 {x0 : D} : Wn.pf 77 [x0] = .b (dltOk (dlt1 x0)) := rfl
@[go_sem] theorem wnp27 : Wn.pure 27 = true := rfl
@[go_sem] theorem wnf27 {x0 x1 : D} : Wn.pf 27 [x0, x1] = .b (sameD (dlt1 x0) (dlt1 x1)) := rfl
@[go_sem] theorem wnp10 : Wn.pure 10 = true := rfl
@[go_sem] theorem wnf10 {x0 : D} : Wn.pf 10 [x0] = .b (fewD (dlt1 x0)) := rfl
@[go_sem] theorem wnp21 : Wn.pure 21 = true := rfl
@[go_sem] theorem wnf21 {x0 x1 x2 x3 : D} : Wn.pf 21 [x0, x1, x2, x3] = .b (fewAll (zon1 x0) (zon1 x1) (dlt1 x2) (dlt1 x3)) := rfl
@[go_sem] theorem wnp26 : Wn.pure 26 = true := rfl
@[go_sem] theorem wnf26 {x0 x1 : D} : Wn.pf 26 [x0, x1] = .tuple [.agg (diffR (zon1 x0) (zon1 x1)).1.d, .i (diffR (zon1 x0) (zon1 x1)).2] := rfl
@[go_sem] theorem wnp30 : Wn.pure 30 = true := rfl
@[go_sem] theorem wnf30 {x0 x1 : D} : Wn.pf 30 [x0, x1] = .tuple [.agg (applyR (zon1 x0) (dlt1 x1)).1.d, .i (applyR (zon1 x0) (dlt1 x1)).2] := rfl
def WnB : Con := { Wn with bs := true }
@[go_sem] theorem wnB_p {k : FuncId} : WnB.pure k = Wn.pure k := rfl
@[go_sem] theorem wnB_f {k : FuncId} {xs : List D} : WnB.pf k xs = Wn.pf k xs := rfl
@[go_sem] theorem wnB_b : WnB.bs = true := rfl
@[go_sem] theorem wn_b : Wn.bs = false := rfl
@[go_sem] theorem wn_c : Wn.cf = false := rfl
@[go_sem] theorem wnB_c : WnB.cf = false := rfl
def WnF : Con := { Wn with cf := true }
@[go_sem] theorem wnF_p {k : FuncId} : WnF.pure k = Wn.pure k := rfl
@[go_sem] theorem wnF_f {k : FuncId} {xs : List D} : WnF.pf k xs = Wn.pf k xs := rfl
@[go_sem] theorem wnF_b : WnF.bs = false := rfl
@[go_sem] theorem wnF_c : WnF.cf = true := rfl
end Go.Proofs.YtfggmgafjabbjaaGreatDoor
namespace Go.Proofs.YtfggmgafjabbjaaGreatDoor
open Go.DL Go.Str Go.Rec Go.Cmp Go.Zon
set_option maxRecDepth 10000
set_option linter.unusedSimpArgs false
set_option linter.unusedVariables false
end Go.Proofs.YtfggmgafjabbjaaGreatDoor
namespace Go.Proofs.YtfggmgafjabbjaaGreatDoor
open Go.DL Go.Str Go.Rec Go.Cmp Go.Zon
set_option maxRecDepth 10000
set_option linter.unusedSimpArgs false
set_option linter.unusedVariables false
@[go_sem] theorem addTo_0 {put l : List Sgd} : addTo put l 0 = l := rfl
end Go.Proofs.YtfggmgafjabbjaaGreatDoor
/-
  MADE BY A PROGRAM OF MINE: what the functions that leave memory alone give. Conditions: none.
-/
namespace Go.Proofs.YtfggmgafjabbjaaGreatDoor
open Go.DL Go.Str Go.Rec Go.Zon
set_option linter.unusedVariables false
def Vn : Con where
  pure := fun k => [176, 169, 153, 114, 113, 81, 123, 90, 115, 171, 155, 122, 120, 125, 127, 172, 116, 156, 173, 126, 159, 124, 91, 128, 110, 157, 150, 119, 129, 118, 158, 130, 93, 83, 117, 85, 63, 165, 141, 102, 84, 82, 101, 92, 103, 86, 104, 89, 61, 111, 20, 60, 18, 100, 99, 46, 47, 48, 50, 51, 52, 53, 49, 14, 13, 59, 32, 33, 34, 151, 121, 87, 35, 88, 36, 11, 17, 9, 65, 64, 16, 54, 23, 22, 25, 24, 67, 41, 112, 66, 78, 79, 80, 77, 27, 10, 21, 26, 30, 29, 31].contains k
  pf := fun k xs => match k, xs with
    | 176, [x0, x1] => .i (lastIx (str1 x0) (int1 x1))
    | 169, [x0, x1] => .i (lastIx (str1 x0) (int1 x1))
    | 153, [x0] => .b (labelOk (str1 x0))
    | 114, [x0] => .b (labelOk (str1 x0))
    | 113, [x0] => .list false ((splitF (str1 x0)).map sR)
    | 81, [x0] => .b (nameOk (str1 x0))
    | 123, [x0] => .b (nameOk (str1 x0))
    | 90, [x0] => .b (nameOk (str1 x0))
    | 115, [x0] => .list false ((partsOf (str1 x0)).map sR)
    | 171, [x0, x1] => .i (Go.Lib.compareBytes (str1 x0) (str1 x1))
    | 155, [x0, x1] => .i (Go.Lib.compareBytes (str1 x0) (str1 x1))
    | 122, [x0, x1] => .i (nmOrd (str1 x0) (str1 x1))
    | 120, [x0, x1] => .tuple [.i (if nameOk (str1 x0) && nameOk (str1 x1) then nmCmp (str1 x0) (str1 x1) else 0), .i (if nameOk (str1 x0) && nameOk (str1 x1) then 0 else 11)]
    | 125, [x0, x1] => .tuple [.i (if nameOk (str1 x0) && nameOk (str1 x1) then nmCmp (str1 x0) (str1 x1) else 0), .i (if nameOk (str1 x0) && nameOk (str1 x1) then 0 else 11)]
    | 127, [x0, x1, x2] => .b (inR (int1 x0) (int1 x1) (int1 x2))
    | 172, [x0, x1, x2] => .b (inR (int1 x0) (int1 x1) (int1 x2))
    | 116, [x0, x1, x2] => .b (inR (int1 x0) (int1 x1) (int1 x2))
    | 156, [x0] => .b ((int1 x0) != (int1 x0))
    | 173, [x0] => .b ((str1 x0) != (str1 x0))
    | 126, [x0, x1] => .i (cmpI (int1 x0) (int1 x1))
    | 159, [x0, x1] => .i (cmpS (str1 x0) (str1 x1))
    | 124, [x0, x1] => .b (hasPre (str1 x0) (str1 x1))
    | 91, [x0, x1] => .b (hasPre (str1 x0) (str1 x1))
    | 128, [x0] => .b (wildB (str1 x0))
    | 110, [x0] => .b (wildB (str1 x0))
    | 157, [x0] => .b (freeB (str1 x0))
    | 150, [x0] => .b (freeB (str1 x0))
    | 119, [x0, x1] => .b (less (dat1 x0) (dat1 x1))
    | 129, [x0, x1] => .b (datOk (rule1 x0) (dat1 x1))
    | 118, [x0, x1] => .b (rDatOk (int1 x0) (dat1 x1))
    | 158, [x0] => .i (orFrom (ints1 x0) 0)
    | 130, [x0, x1] => .i (datC (dat1 x0) (dat1 x1))
    | 93, [x0] => .b (setOk (set1 x0))
    | 83, [x0] => .b (setOk (set1 x0))
    | 117, [x0] => .b (singleB (int1 x0))
    | 85, [x0, x1] => .i (rOrd (set1 x0) (set1 x1))
    | 63, [x0, x1] => .b (sameB (set1 x0) (set1 x1))
    | 165, [x0, x1] => .b (hasSuf (str1 x0) (str1 x1))
    | 141, [x0, x1] => .b (hasSuf (str1 x0) (str1 x1))
    | 102, [x0, x1] => .tuple [.b (underV (str1 x0) (str1 x1)), .i (if nameOk (str1 x0) && nameOk (str1 x1) then 0 else 11)]
    | 84, [x0, x1] => .b (inB (str1 x0) (str1 x1))
    | 82, [x0] => .b (wild1 (str1 x0))
    | 101, [x0, x1, x2, x3] => .i (qC ⟨(str1 x0), (int1 x1)⟩ ⟨(str1 x2), (int1 x3)⟩)
    | 92, [x0, x1] => .i (qC (qst1 x0) (qst1 x1))
    | 103, [x0, x1] => .b (fits (int1 x0) (bool1 x1))
    | 86, [x0, x1] => .b (fits (int1 x0) (bool1 x1))
    | 104, [x0, x1] => .b (sigsOk (sigs1 x0) (str1 x1))
    | 89, [x0, x1] => .b (sigsOk (sigs1 x0) (str1 x1))
    | 61, [x0] => .b (qOk (qst1 x0))
    | 111, [x0] => .b (qOk (qst1 x0))
    | 20, [x0, x1] => .b (sameSgd (sgd1 x0) (sgd1 x1))
    | 60, [x0, x1] => .b (sameList (sgds1 x0) (sgds1 x1))
    | 18, [x0, x1] => .b (sameZ (zon1 x0) (zon1 x1))
    | 100, [x0, x1] => .i (qC (sgd1 x0).q (qst1 x1))
    | 99, [x0, x1, x2] => .tuple [.i (findIx (sgds1 x0) (qst1 x1)), .b (findOk (sgds1 x0) (qst1 x1))]
    | 46, [x0, x1] => .tuple [.i (findIx (zon1 x0).sets (qst1 x1)), .b (findOk (zon1 x0).sets (qst1 x1))]
    | 47, [x0] => .b (ordered (zon1 x0))
    | 48, [x0] => .b (apexHolds (zon1 x0))
    | 50, [x0] => .b (aliasB (lay1 x0))
    | 51, [x0] => .b (cutB (lay1 x0))
    | 52, [x0] => .b (glueB (lay1 x0))
    | 53, [x0] => .b (formB (lay1 x0))
    | 49, [x0] => .agg (layOf (zon1 x0)).d
    | 14, [x0] => .b (zoneOk (zon1 x0))
    | 13, [x0] => .tuple [.i (if zoneOk (zon1 x0) then serialOf (zon1 x0) else 0), .i (if zoneOk (zon1 x0) then 0 else 1)]
    | 59, [x0, x1] => .i (atF (zon1 x0).sets (qst1 x1))
    | 32, [x0] => .b (oneB (zon1 x0))
    | 33, [x0] => .b (twoB (zon1 x0))
    | 34, [x0] => .b (threeB (zon1 x0))
    | 151, [x0] => .list false ((cutsF (zon1 x0)).map sR)
    | 121, [x0] => .list false ((highF (zon1 x0)).map sR)
    | 87, [x0] => .list false ((behR (zon1 x0)).map sR)
    | 35, [x0] => .b (fourB (zon1 x0))
    | 88, [x0] => .list false ((ownF (zon1 x0)).map bR)
    | 36, [x0] => .b (fiveB (zon1 x0))
    | 11, [x0] => .b (refOk (zon1 x0))
    | 17, [x0] => .i (serialR (zon1 x0))
    | 9, [x0] => .b (fewZ (zon1 x0))
    | 65, [x0] => .b (serB (int1 x0))
    | 64, [x0] => .b (serB (int1 x0))
    | 16, [x0, x1] => .b (befB (int1 x0) (int1 x1))
    | 54, [x0, x1] => .b (befB (int1 x0) (int1 x1))
    | 23, [x0, x1] => .tuple [.b (lessF (int1 x0) (int1 x1)).1, .i (lessF (int1 x0) (int1 x1)).2]
    | 22, [x0, x1] => .tuple [.b (lessF (int1 x0) (int1 x1)).1, .i (lessF (int1 x0) (int1 x1)).2]
    | 25, [x0] => .tuple [.i (afterF (int1 x0)).1, .i (afterF (int1 x0)).2]
    | 24, [x0] => .tuple [.i (afterF (int1 x0)).1, .i (afterF (int1 x0)).2]
    | 67, [x0] => .agg (sgd1 x0).q.d
    | 41, [x0] => .agg (sgd1 x0).q.d
    | 112, [x0, x1] => .i (qO (qst1 x0) (qst1 x1))
    | 66, [x0, x1] => .i (atF (sgds1 x0) (qst1 x1))
    | 78, [x0, x1] => .b (askB (qsts1 x0) (qst1 x1))
    | 79, [x0, x1] => .list false ((sortedF (sgds1 x0) (sgd1 x1)).map Sgd.d)
    | 80, [x0, x1] => .list false ((addF (qsts1 x0) (qst1 x1)).map Qst.d)
    | 77, [x0] => .b (dltOk (dlt1 x0))
    | 27, [x0, x1] => .b (sameD (dlt1 x0) (dlt1 x1))
    | 10, [x0] => .b (fewD (dlt1 x0))
    | 21, [x0, x1, x2, x3] => .b (fewAll (zon1 x0) (zon1 x1) (dlt1 x2) (dlt1 x3))
    | 26, [x0, x1] => .tuple [.agg (diffR (zon1 x0) (zon1 x1)).1.d, .i (diffR (zon1 x0) (zon1 x1)).2]
    | 30, [x0, x1] => .tuple [.agg (applyR (zon1 x0) (dlt1 x1)).1.d, .i (applyR (zon1 x0) (dlt1 x1)).2]
    | 29, [x0, x1] => .tuple [.agg (joinR (dlt1 x0) (dlt1 x1)).1.d, .i (joinR (dlt1 x0) (dlt1 x1)).2]
    | 31, [x0, x1] => .agg (smallZ (int1 x0) (str1 x1)).d
    | _, _ => .junk
@[go_sem] theorem vnp176 : Vn.pure 176 = true := rfl
@[go_sem] theorem vnf176 {x0 x1 : D} : Vn.pf 176 [x0, x1] = .i (lastIx (str1 x0) (int1 x1)) := rfl
@[go_sem] theorem vnp169 : Vn.pure 169 = true := rfl
@[go_sem] theorem vnf169 {x0 x1 : D} : Vn.pf 169 [x0, x1] = .i (lastIx (str1 x0) (int1 x1)) := rfl
@[go_sem] theorem vnp153 : Vn.pure 153 = true := rfl
@[go_sem] theorem vnf153 {x0 : D} : Vn.pf 153 [x0] = .b (labelOk (str1 x0)) := rfl
@[go_sem] theorem vnp114 : Vn.pure 114 = true := rfl
@[go_sem] theorem vnf114 {x0 : D} : Vn.pf 114 [x0] = .b (labelOk (str1 x0)) := rfl
@[go_sem] theorem vnp113 : Vn.pure 113 = true := rfl
@[go_sem] theorem vnf113 {x0 : D} : Vn.pf 113 [x0] = .list false ((splitF (str1 x0)).map sR) := rfl
@[go_sem] theorem vnp81 : Vn.pure 81 = true := rfl
@[go_sem] theorem vnf81 {x0 : D} : Vn.pf 81 [x0] = .b (nameOk (str1 x0)) := rfl
@[go_sem] theorem vnp123 : Vn.pure 123 = true := rfl
@[go_sem] theorem vnf123 {x0 : D} : Vn.pf 123 [x0] = .b (nameOk (str1 x0)) := rfl
@[go_sem] theorem vnp90 : Vn.pure 90 = true := rfl
@[go_sem] theorem vnf90 {x0 : D} : Vn.pf 90 [x0] = .b (nameOk (str1 x0)) := rfl
@[go_sem] theorem vnp115 : Vn.pure 115 = true := rfl
@[go_sem] theorem vnf115 {x0 : D} : Vn.pf 115 [x0] = .list false ((partsOf (str1 x0)).map sR) := rfl
@[go_sem] theorem vnp171 : Vn.pure 171 = true := rfl
@[go_sem] theorem vnf171 {x0 x1 : D} : Vn.pf 171 [x0, x1] = .i (Go.Lib.compareBytes (str1 x0) (str1 x1)) := rfl
@[go_sem] theorem vnp155 : Vn.pure 155 = true := rfl
@[go_sem] theorem vnf155 {x0 x1 : D} : Vn.pf 155 [x0, x1] = .i (Go.Lib.compareBytes (str1 x0) (str1 x1)) := rfl
@[go_sem] theorem vnp122 : Vn.pure 122 = true := rfl
@[go_sem] theorem vnf122 {x0 x1 : D} : Vn.pf 122 [x0, x1] = .i (nmOrd (str1 x0) (str1 x1)) := rfl
@[go_sem] theorem vnp120 : Vn.pure 120 = true := rfl
@[go_sem] theorem vnf120 {x0 x1 : D} : Vn.pf 120 [x0, x1] = .tuple [.i (if nameOk (str1 x0) && nameOk (str1 x1) then nmCmp (str1 x0) (str1 x1) else 0), .i (if nameOk (str1 x0) && nameOk (str1 x1) then 0 else 11)] := rfl
@[go_sem] theorem vnp125 : Vn.pure 125 = true := rfl
@[go_sem] theorem vnf125 {x0 x1 : D} : Vn.pf 125 [x0, x1] = .tuple [.i (if nameOk (str1 x0) && nameOk (str1 x1) then nmCmp (str1 x0) (str1 x1) else 0), .i (if nameOk (str1 x0) && nameOk (str1 x1) then 0 else 11)] := rfl
@[go_sem] theorem vnp127 : Vn.pure 127 = true := rfl
@[go_sem] theorem vnf127 {x0 x1 x2 : D} : Vn.pf 127 [x0, x1, x2] = .b (inR (int1 x0) (int1 x1) (int1 x2)) := rfl
@[go_sem] theorem vnp172 : Vn.pure 172 = true := rfl
@[go_sem] theorem vnf172 {x0 x1 x2 : D} : Vn.pf 172 [x0, x1, x2] = .b (inR (int1 x0) (int1 x1) (int1 x2)) := rfl
@[go_sem] theorem vnp116 : Vn.pure 116 = true := rfl
@[go_sem] theorem vnf116 {x0 x1 x2 : D} : Vn.pf 116 [x0, x1, x2] = .b (inR (int1 x0) (int1 x1) (int1 x2)) := rfl
@[go_sem] theorem vnp156 : Vn.pure 156 = true := rfl
@[go_sem] theorem vnf156 {x0 : D} : Vn.pf 156 [x0] = .b ((int1 x0) != (int1 x0)) := rfl
@[go_sem] theorem vnp173 : Vn.pure 173 = true := rfl
@[go_sem] theorem vnf173 {x0 : D} : Vn.pf 173 [x0] = .b ((str1 x0) != (str1 x0)) := rfl
@[go_sem] theorem vnp126 : Vn.pure 126 = true := rfl
@[go_sem] theorem vnf126 {x0 x1 : D} : Vn.pf 126 [x0, x1] = .i (cmpI (int1 x0) (int1 x1)) := rfl
@[go_sem] theorem vnp159 : Vn.pure 159 = true := rfl
@[go_sem] theorem vnf159 {x0 x1 : D} : Vn.pf 159 [x0, x1] = .i (cmpS (str1 x0) (str1 x1)) := rfl
@[go_sem] theorem vnp124 : Vn.pure 124 = true := rfl
@[go_sem] theorem vnf124 {x0 x1 : D} : Vn.pf 124 [x0, x1] = .b (hasPre (str1 x0) (str1 x1)) := rfl
@[go_sem] theorem vnp91 : Vn.pure 91 = true := rfl
@[go_sem] theorem vnf91 {x0 x1 : D} : Vn.pf 91 [x0, x1] = .b (hasPre (str1 x0) (str1 x1)) := rfl
@[go_sem] theorem vnp128 : Vn.pure 128 = true := rfl
@[go_sem] theorem vnf128 {x0 : D} : Vn.pf 128 [x0] = .b (wildB (str1 x0)) := rfl
@[go_sem] theorem vnp110 : Vn.pure 110 = true := rfl
@[go_sem] theorem vnf110 {x0 : D} : Vn.pf 110 [x0] = .b (wildB (str1 x0)) := rfl
@[go_sem] theorem vnp157 : Vn.pure 157 = true := rfl
@[go_sem] theorem vnf157 {x0 : D} : Vn.pf 157 [x0] = .b (freeB (str1 x0)) := rfl
@[go_sem] theorem vnp150 : Vn.pure 150 = true := rfl
@[go_sem] theorem vnf150 {x0 : D} : Vn.pf 150 [x0] = .b (freeB (str1 x0)) := rfl
@[go_sem] theorem vnp119 : Vn.pure 119 = true := rfl
@[go_sem] theorem vnf119 {x0 x1 : D} : Vn.pf 119 [x0, x1] = .b (less (dat1 x0) (dat1 x1)) := rfl
@[go_sem] theorem vnp129 : Vn.pure 129 = true := rfl
@[go_sem] theorem vnf129 {x0 x1 : D} : Vn.pf 129 [x0, x1] = .b (datOk (rule1 x0) (dat1 x1)) := rfl
@[go_sem] theorem vnp118 : Vn.pure 118 = true := rfl
@[go_sem] theorem vnf118 {x0 x1 : D} : Vn.pf 118 [x0, x1] = .b (rDatOk (int1 x0) (dat1 x1)) := rfl
@[go_sem] theorem vnp158 : Vn.pure 158 = true := rfl
@[go_sem] theorem vnf158 {x0 : D} : Vn.pf 158 [x0] = .i (orFrom (ints1 x0) 0) := rfl
@[go_sem] theorem vnp130 : Vn.pure 130 = true := rfl
@[go_sem] theorem vnf130 {x0 x1 : D} : Vn.pf 130 [x0, x1] = .i (datC (dat1 x0) (dat1 x1)) := rfl
@[go_sem] theorem vnp93 : Vn.pure 93 = true := rfl
@[go_sem] theorem vnf93 {x0 : D} : Vn.pf 93 [x0] = .b (setOk (set1 x0)) := rfl
@[go_sem] theorem vnp83 : Vn.pure 83 = true := rfl
@[go_sem] theorem vnf83 {x0 : D} : Vn.pf 83 [x0] = .b (setOk (set1 x0)) := rfl
@[go_sem] theorem vnp117 : Vn.pure 117 = true := rfl
@[go_sem] theorem vnf117 {x0 : D} : Vn.pf 117 [x0] = .b (singleB (int1 x0)) := rfl
@[go_sem] theorem vnp85 : Vn.pure 85 = true := rfl
@[go_sem] theorem vnf85 {x0 x1 : D} : Vn.pf 85 [x0, x1] = .i (rOrd (set1 x0) (set1 x1)) := rfl
@[go_sem] theorem vnp63 : Vn.pure 63 = true := rfl
@[go_sem] theorem vnf63 {x0 x1 : D} : Vn.pf 63 [x0, x1] = .b (sameB (set1 x0) (set1 x1)) := rfl
@[go_sem] theorem vnp165 : Vn.pure 165 = true := rfl
@[go_sem] theorem vnf165 {x0 x1 : D} : Vn.pf 165 [x0, x1] = .b (hasSuf (str1 x0) (str1 x1)) := rfl
@[go_sem] theorem vnp141 : Vn.pure 141 = true := rfl
@[go_sem] theorem vnf141 {x0 x1 : D} : Vn.pf 141 [x0, x1] = .b (hasSuf (str1 x0) (str1 x1)) := rfl
@[go_sem] theorem vnp102 : Vn.pure 102 = true := rfl
@[go_sem] theorem vnf102 {x0 x1 : D} : Vn.pf 102 [x0, x1] = .tuple [.b (underV (str1 x0) (str1 x1)), .i (if nameOk (str1 x0) && nameOk (str1 x1) then 0 else 11)] := rfl
@[go_sem] theorem vnp84 : Vn.pure 84 = true := rfl
@[go_sem] theorem vnf84 {x0 x1 : D} : Vn.pf 84 [x0, x1] = .b (inB (str1 x0) (str1 x1)) := rfl
@[go_sem] theorem vnp82 : Vn.pure 82 = true := rfl
@[go_sem] theorem vnf82 {x0 : D} : Vn.pf 82 [x0] = .b (wild1 (str1 x0)) := rfl
@[go_sem] theorem vnp101 : Vn.pure 101 = true := rfl
@[go_sem] theorem vnf101 {x0 x1 x2 x3 : D} : Vn.pf 101 [x0, x1, x2, x3] = .i (qC ⟨(str1 x0), (int1 x1)⟩ ⟨(str1 x2), (int1 x3)⟩) := rfl
@[go_sem] theorem vnp92 : Vn.pure 92 = true := rfl
@[go_sem] theorem vnf92 {x0 x1 : D} : Vn.pf 92 [x0, x1] = .i (qC (qst1 x0) (qst1 x1)) := rfl
@[go_sem] theorem vnp103 : Vn.pure 103 = true := rfl
@[go_sem] theorem vnf103 {x0 x1 : D} : Vn.pf 103 [x0, x1] = .b (fits (int1 x0) (bool1 x1)) := rfl
@[go_sem] theorem vnp86 : Vn.pure 86 = true := rfl
@[go_sem] theorem vnf86 {x0 x1 : D} : Vn.pf 86 [x0, x1] = .b (fits (int1 x0) (bool1 x1)) := rfl
@[go_sem] theorem vnp104 : Vn.pure 104 = true := rfl
@[go_sem] theorem vnf104 {x0 x1 : D} : Vn.pf 104 [x0, x1] = .b (sigsOk (sigs1 x0) (str1 x1)) := rfl
@[go_sem] theorem vnp89 : Vn.pure 89 = true := rfl
@[go_sem] theorem vnf89 {x0 x1 : D} : Vn.pf 89 [x0, x1] = .b (sigsOk (sigs1 x0) (str1 x1)) := rfl
@[go_sem] theorem vnp61 : Vn.pure 61 = true := rfl
@[go_sem] theorem vnf61 {x0 : D} : Vn.pf 61 [x0] = .b (qOk (qst1 x0)) := rfl
@[go_sem] theorem vnp111 : Vn.pure 111 = true := rfl
@[go_sem] theorem vnf111 {x0 : D} : Vn.pf 111 [x0] = .b (qOk (qst1 x0)) := rfl
@[go_sem] theorem vnp20 : Vn.pure 20 = true := rfl
@[go_sem] theorem vnf20 {x0 x1 : D} : Vn.pf 20 [x0, x1] = .b (sameSgd (sgd1 x0) (sgd1 x1)) := rfl
@[go_sem] theorem vnp60 : Vn.pure 60 = true := rfl
@[go_sem] theorem vnf60 {x0 x1 : D} : Vn.pf 60 [x0, x1] = .b (sameList (sgds1 x0) (sgds1 x1)) := rfl
@[go_sem] theorem vnp18 : Vn.pure 18 = true := rfl
@[go_sem] theorem vnf18 {x0 x1 : D} : Vn.pf 18 [x0, x1] = .b (sameZ (zon1 x0) (zon1 x1)) := rfl
@[go_sem] theorem vnp100 : Vn.pure 100 = true := rfl
@[go_sem] theorem vnf100 {x0 x1 : D} : Vn.pf 100 [x0, x1] = .i (qC (sgd1 x0).q (qst1 x1)) := rfl
@[go_sem] theorem vnp99 : Vn.pure 99 = true := rfl
@[go_sem] theorem vnf99 {x0 x1 x2 : D} : Vn.pf 99 [x0, x1, x2] = .tuple [.i (findIx (sgds1 x0) (qst1 x1)), .b (findOk (sgds1 x0) (qst1 x1))] := rfl
@[go_sem] theorem vnp46 : Vn.pure 46 = true := rfl
@[go_sem] theorem vnf46 {x0 x1 : D} : Vn.pf 46 [x0, x1] = .tuple [.i (findIx (zon1 x0).sets (qst1 x1)), .b (findOk (zon1 x0).sets (qst1 x1))] := rfl
@[go_sem] theorem vnp47 : Vn.pure 47 = true := rfl
@[go_sem] theorem vnf47 {x0 : D} : Vn.pf 47 [x0] = .b (ordered (zon1 x0)) := rfl
@[go_sem] theorem vnp48 : Vn.pure 48 = true := rfl
@[go_sem] theorem vnf48 {x0 : D} : Vn.pf 48 [x0] = .b (apexHolds (zon1 x0)) := rfl
@[go_sem] theorem vnp50 : Vn.pure 50 = true := rfl
@[go_sem] theorem vnf50 {x0 : D} : Vn.pf 50 [x0] = .b (aliasB (lay1 x0)) := rfl
@[go_sem] theorem vnp51 : Vn.pure 51 = true := rfl
@[go_sem] theorem vnf51 {x0 : D} : Vn.pf 51 [x0] = .b (cutB (lay1 x0)) := rfl
@[go_sem] theorem vnp52 : Vn.pure 52 = true := rfl
@[go_sem] theorem vnf52 {x0 : D} : Vn.pf 52 [x0] = .b (glueB (lay1 x0)) := rfl
@[go_sem] theorem vnp53 : Vn.pure 53 = true := rfl
@[go_sem] theorem vnf53 {x0 : D} : Vn.pf 53 [x0] = .b (formB (lay1 x0)) := rfl
@[go_sem] theorem vnp49 : Vn.pure 49 = true := rfl
@[go_sem] theorem vnf49 {x0 : D} : Vn.pf 49 [x0] = .agg (layOf (zon1 x0)).d := rfl
@[go_sem] theorem vnp14 : Vn.pure 14 = true := rfl
@[go_sem] theorem vnf14 {x0 : D} : Vn.pf 14 [x0] = .b (zoneOk (zon1 x0)) := rfl
@[go_sem] theorem vnp13 : Vn.pure 13 = true := rfl
@[go_sem] theorem vnf13 {x0 : D} : Vn.pf 13 [x0] = .tuple [.i (if zoneOk (zon1 x0) then serialOf (zon1 x0) else 0), .i (if zoneOk (zon1 x0) then 0 else 1)] := rfl
@[go_sem] theorem vnp59 : Vn.pure 59 = true := rfl
@[go_sem] theorem vnf59 {x0 x1 : D} : Vn.pf 59 [x0, x1] = .i (atF (zon1 x0).sets (qst1 x1)) := rfl
@[go_sem] theorem vnp32 : Vn.pure 32 = true := rfl
@[go_sem] theorem vnf32 {x0 : D} : Vn.pf 32 [x0] = .b (oneB (zon1 x0)) := rfl
@[go_sem] theorem vnp33 : Vn.pure 33 = true := rfl
@[go_sem] theorem vnf33 {x0 : D} : Vn.pf 33 [x0] = .b (twoB (zon1 x0)) := rfl
@[go_sem] theorem vnp34 : Vn.pure 34 = true := rfl
@[go_sem] theorem vnf34 {x0 : D} : Vn.pf 34 [x0] = .b (threeB (zon1 x0)) := rfl
@[go_sem] theorem vnp151 : Vn.pure 151 = true := rfl
@[go_sem] theorem vnf151 {x0 : D} : Vn.pf 151 [x0] = .list false ((cutsF (zon1 x0)).map sR) := rfl
@[go_sem] theorem vnp121 : Vn.pure 121 = true := rfl
@[go_sem] theorem vnf121 {x0 : D} : Vn.pf 121 [x0] = .list false ((highF (zon1 x0)).map sR) := rfl
@[go_sem] theorem vnp87 : Vn.pure 87 = true := rfl
@[go_sem] theorem vnf87 {x0 : D} : Vn.pf 87 [x0] = .list false ((behR (zon1 x0)).map sR) := rfl
@[go_sem] theorem vnp35 : Vn.pure 35 = true := rfl
@[go_sem] theorem vnf35 {x0 : D} : Vn.pf 35 [x0] = .b (fourB (zon1 x0)) := rfl
@[go_sem] theorem vnp88 : Vn.pure 88 = true := rfl
@[go_sem] theorem vnf88 {x0 : D} : Vn.pf 88 [x0] = .list false ((ownF (zon1 x0)).map bR) := rfl
@[go_sem] theorem vnp36 : Vn.pure 36 = true := rfl
@[go_sem] theorem vnf36 {x0 : D} : Vn.pf 36 [x0] = .b (fiveB (zon1 x0)) := rfl
@[go_sem] theorem vnp11 : Vn.pure 11 = true := rfl
@[go_sem] theorem vnf11 {x0 : D} : Vn.pf 11 [x0] = .b (refOk (zon1 x0)) := rfl
@[go_sem] theorem vnp17 : Vn.pure 17 = true := rfl
@[go_sem] theorem vnf17 {x0 : D} : Vn.pf 17 [x0] = .i (serialR (zon1 x0)) := rfl
@[go_sem] theorem vnp9 : Vn.pure 9 = true := rfl
@[go_sem] theorem vnf9 {x0 : D} : Vn.pf 9 [x0] = .b (fewZ (zon1 x0)) := rfl
@[go_sem] theorem vnp65 : Vn.pure 65 = true := rfl
@[go_sem] theorem vnf65 {x0 : D} : Vn.pf 65 [x0] = .b (serB (int1 x0)) := rfl
@[go_sem] theorem vnp64 : Vn.pure 64 = true := rfl
@[go_sem] theorem vnf64 {x0 : D} : Vn.pf 64 [x0] = .b (serB (int1 x0)) := rfl
@[go_sem] theorem vnp16 : Vn.pure 16 = true := rfl
@[go_sem] theorem vnf16 {x0 x1 : D} : Vn.pf 16 [x0, x1] = .b (befB (int1 x0) (int1 x1)) := rfl
@[go_sem] theorem vnp54 : Vn.pure 54 = true := rfl
@[go_sem] theorem vnf54 {x0 x1 : D} : Vn.pf 54 [x0, x1] = .b (befB (int1 x0) (int1 x1)) := rfl
@[go_sem] theorem vnp23 : Vn.pure 23 = true := rfl
@[go_sem] theorem vnf23 {x0 x1 : D} : Vn.pf 23 [x0, x1] = .tuple [.b (lessF (int1 x0) (int1 x1)).1, .i (lessF (int1 x0) (int1 x1)).2] := rfl
@[go_sem] theorem vnp22 : Vn.pure 22 = true := rfl
@[go_sem] theorem vnf22 {x0 x1 : D} : Vn.pf 22 [x0, x1] = .tuple [.b (lessF (int1 x0) (int1 x1)).1, .i (lessF (int1 x0) (int1 x1)).2] := rfl
@[go_sem] theorem vnp25 : Vn.pure 25 = true := rfl
@[go_sem] theorem vnf25 {x0 : D} : Vn.pf 25 [x0] = .tuple [.i (afterF (int1 x0)).1, .i (afterF (int1 x0)).2] := rfl
@[go_sem] theorem vnp24 : Vn.pure 24 = true := rfl
@[go_sem] theorem vnf24 {x0 : D} : Vn.pf 24 [x0] = .tuple [.i (afterF (int1 x0)).1, .i (afterF (int1 x0)).2] := rfl
@[go_sem] theorem vnp67 : Vn.pure 67 = true := rfl
@[go_sem] theorem vnf67 {x0 : D} : Vn.pf 67 [x0] = .agg (sgd1 x0).q.d := rfl
@[go_sem] theorem vnp41 : Vn.pure 41 = true := rfl
@[go_sem] theorem vnf41 {x0 : D} : Vn.pf 41 [x0] = .agg (sgd1 x0).q.d := rfl
@[go_sem] theorem vnp112 : Vn.pure 112 = true := rfl
@[go_sem] theorem vnf112 {x0 x1 : D} : Vn.pf 112 [x0, x1] = .i (qO (qst1 x0) (qst1 x1)) := rfl
@[go_sem] theorem vnp66 : Vn.pure 66 = true := rfl
@[go_sem] theorem vnf66 {x0 x1 : D} : Vn.pf 66 [x0, x1] = .i (atF (sgds1 x0) (qst1 x1)) := rfl
@[go_sem] theorem vnp78 : Vn.pure 78 = true := rfl
@[go_sem] theorem vnf78 {x0 x1 : D} : Vn.pf 78 [x0, x1] = .b (askB (qsts1 x0) (qst1 x1)) := rfl
@[go_sem] theorem vnp79 : Vn.pure 79 = true := rfl
@[go_sem] theorem vnf79 {x0 x1 : D} : Vn.pf 79 [x0, x1] = .list false ((sortedF (sgds1 x0) (sgd1 x1)).map Sgd.d) := rfl
@[go_sem] theorem vnp80 : Vn.pure 80 = true := rfl
@[go_sem] theorem vnf80 {x0 x1 : D} : Vn.pf 80 [x0, x1] = .list false ((addF (qsts1 x0) (qst1 x1)).map Qst.d) := rfl
@[go_sem] theorem vnp77 : Vn.pure 77 = true := rfl
@[go_sem] theorem vnf77 {x0 : D} : Vn.pf 77 [x0] = .b (dltOk (dlt1 x0)) := rfl
@[go_sem] theorem vnp27 : Vn.pure 27 = true := rfl
@[go_sem] theorem vnf27 {x0 x1 : D} : Vn.pf 27 [x0, x1] = .b (sameD (dlt1 x0) (dlt1 x1)) := rfl
@[go_sem] theorem vnp10 : Vn.pure 10 = true := rfl
@[go_sem] theorem vnf10 {x0 : D} : Vn.pf 10 [x0] = .b (fewD (dlt1 x0)) := rfl
@[go_sem] theorem vnp21 : Vn.pure 21 = true := rfl
@[go_sem] theorem vnf21 {x0 x1 x2 x3 : D} : Vn.pf 21 [x0, x1, x2, x3] = .b (fewAll (zon1 x0) (zon1 x1) (dlt1 x2) (dlt1 x3)) := rfl
@[go_sem] theorem vnp26 : Vn.pure 26 = true := rfl
@[go_sem] theorem vnf26 {x0 x1 : D} : Vn.pf 26 [x0, x1] = .tuple [.agg (diffR (zon1 x0) (zon1 x1)).1.d, .i (diffR (zon1 x0) (zon1 x1)).2] := rfl
@[go_sem] theorem vnp30 : Vn.pure 30 = true := rfl
@[go_sem] theorem vnf30 {x0 x1 : D} : Vn.pf 30 [x0, x1] = .tuple [.agg (applyR (zon1 x0) (dlt1 x1)).1.d, .i (applyR (zon1 x0) (dlt1 x1)).2] := rfl
@[go_sem] theorem vnp29 : Vn.pure 29 = true := rfl
@[go_sem] theorem vnf29 {x0 x1 : D} : Vn.pf 29 [x0, x1] = .tuple [.agg (joinR (dlt1 x0) (dlt1 x1)).1.d, .i (joinR (dlt1 x0) (dlt1 x1)).2] := rfl
@[go_sem] theorem vnp31 : Vn.pure 31 = true := rfl
@[go_sem] theorem vnf31 {x0 x1 : D} : Vn.pf 31 [x0, x1] = .agg (smallZ (int1 x0) (str1 x1)).d := rfl
def VnB : Con := { Vn with bs := true }
@[go_sem] theorem vnB_p {k : FuncId} : VnB.pure k = Vn.pure k := rfl
@[go_sem] theorem vnB_f {k : FuncId} {xs : List D} : VnB.pf k xs = Vn.pf k xs := rfl
@[go_sem] theorem vnB_b : VnB.bs = true := rfl
@[go_sem] theorem vn_b : Vn.bs = false := rfl
@[go_sem] theorem vn_c : Vn.cf = false := rfl
@[go_sem] theorem vnB_c : VnB.cf = false := rfl
def VnF : Con := { Vn with cf := true }
@[go_sem] theorem vnF_p {k : FuncId} : VnF.pure k = Vn.pure k := rfl
@[go_sem] theorem vnF_f {k : FuncId} {xs : List D} : VnF.pf k xs = Vn.pf k xs := rfl
@[go_sem] theorem vnF_b : VnF.bs = false := rfl
@[go_sem] theorem vnF_c : VnF.cf = true := rfl
end Go.Proofs.YtfggmgafjabbjaaGreatDoor
namespace Go.Proofs.YtfggmgafjabbjaaGreatDoor
open Go.DL Go.Str Go.Rec Go.Cmp Go.Zon
set_option maxRecDepth 10000
set_option linter.unusedSimpArgs false
set_option linter.unusedVariables false
end Go.Proofs.YtfggmgafjabbjaaGreatDoor
