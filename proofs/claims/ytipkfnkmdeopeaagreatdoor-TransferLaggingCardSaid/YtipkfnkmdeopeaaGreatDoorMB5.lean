/-
  MANY TEXTS OF MINE IN ONE (a claim has a limit of files): ReW2, ReW3, DlW1, DlW2, DlW3, DlW4, DlW6, DlW8, DlW9, DlW10, DlW11, DlW12, JoW1, JoW2, TrW1, TrW2, TrW3, TrW4, TrW5, TrW6, TlW1, TlW2, TlW3. Conditions: none.
-/
import Derived.Test.YtipkfnkmdeopeaaGreatDoorMB4
namespace Go.Proofs.YtipkfnkmdeopeaaGreatDoor
open Go.DL Go.Str Go.Rec Go.Cmp Go.Zon
set_option maxRecDepth 10000
set_option linter.unusedSimpArgs false
set_option linter.unusedVariables false
@[go_sem] theorem cutsR_0 {z : Zon} : cutsR z 0 = [] := rfl
@[go_sem] theorem highTo_0 {cs : List Str} : highTo cs 0 = [] := rfl
@[go_sem] theorem sR_snoc {l : List Str} {x : Str} : (l ++ [x]).map sR = l.map sR ++ [[.v (.string (bs x))]] := by simp [sR]
theorem cutsR_yes {z : Zon} {k : Nat} (h : z.sets[k]!.set.ty = 2 ∧ ¬ z.sets[k]!.set.name = z.apex) : cutsR z (k + 1) = cutsR z k ++ [z.sets[k]!.set.name] := if_pos h
theorem cutsR_no {z : Zon} {k : Nat} (h : ¬ (z.sets[k]!.set.ty = 2 ∧ ¬ z.sets[k]!.set.name = z.apex)) : cutsR z (k + 1) = cutsR z k := if_neg h
theorem cutsR_len (z : Zon) : ∀ k, (cutsR z k).length ≤ k
  | 0 => Nat.le_refl _
  | k + 1 => by
    have := cutsR_len z k
    by_cases h : z.sets[k]!.set.ty = 2 ∧ ¬ z.sets[k]!.set.name = z.apex
    · rw [cutsR_yes h, List.length_append]; simp; omega
    · rw [cutsR_no h]; omega
theorem cutsR_nm {z : Zon} (hn : nmsOk z) : ∀ k, k ≤ z.sets.length → ∀ x ∈ cutsR z k, x.length ≤ 1000
  | 0, _, x, hx => by cases hx
  | k + 1, h, x, hx => by
    by_cases h2 : z.sets[k]!.set.ty = 2 ∧ ¬ z.sets[k]!.set.name = z.apex
    · rw [cutsR_yes h2, List.mem_append, List.mem_singleton] at hx
      rcases hx with hx | hx
      · exact cutsR_nm hn k (by omega) x hx
      · subst hx; exact hn.2 k (by omega)
    · rw [cutsR_no h2] at hx; exact cutsR_nm hn k (by omega) x hx
theorem cutsF_len {z : Zon} (hn : nmsOk z) : (cutsF z).length ≤ 1000000 := Nat.le_trans (cutsR_len z _) hn.1
theorem cutsF_nm {z : Zon} (hn : nmsOk z) {k : Nat} (h : k < (cutsF z).length) : (cutsF z)[k]!.length ≤ 1000 := by
  refine cutsR_nm hn _ (Nat.le_refl _) _ ?_
  show (cutsF z)[k]! ∈ cutsF z
  rw [getElem!_pos (cutsF z) k h]; exact List.getElem_mem h
theorem highTo_yes {cs : List Str} {k : Nat} (h : highTo cs k = [] ∨ inB cs[k]! (highTo cs k)[(highTo cs k).length - 1]! = false) : highTo cs (k + 1) = highTo cs k ++ [cs[k]!] := if_pos h
theorem highTo_no {cs : List Str} {k : Nat} (h : ¬ (highTo cs k = [] ∨ inB cs[k]! (highTo cs k)[(highTo cs k).length - 1]! = false)) : highTo cs (k + 1) = highTo cs k := if_neg h
theorem highTo_mem (cs : List Str) : ∀ k, k ≤ cs.length → (highTo cs k).length ≤ k ∧ ∀ x ∈ highTo cs k, x ∈ cs
  | 0, _ => ⟨Nat.le_refl _, fun x hx => by cases hx⟩
  | k + 1, h => by
    have ih := highTo_mem cs k (by omega)
    by_cases h2 : highTo cs k = [] ∨ inB cs[k]! (highTo cs k)[(highTo cs k).length - 1]! = false
    · rw [highTo_yes h2]
      refine ⟨by rw [List.length_append]; simp; omega, fun x hx => ?_⟩
      rcases List.mem_append.1 hx with hx | hx
      · exact ih.2 x hx
      · rw [List.mem_singleton] at hx; subst hx; rw [getElem!_pos _ _ (by omega)]; exact List.getElem_mem _
    · rw [highTo_no h2]; exact ⟨by omega, ih.2⟩
theorem highTo_nm {z : Zon} (hn : nmsOk z) {k i : Nat} (hk : k ≤ (cutsF z).length) (h : i < (highTo (cutsF z) k).length) : (highTo (cutsF z) k)[i]!.length ≤ 1000 := by
  refine cutsR_nm hn _ (Nat.le_refl _) _ ((highTo_mem _ k hk).2 _ ?_)
  rw [getElem!_pos (highTo (cutsF z) k) i h]; exact List.getElem_mem h
theorem highF_len {z : Zon} (hn : nmsOk z) : (highF z).length ≤ 1000000 := Nat.le_trans (highTo_mem _ _ (Nat.le_refl _)).1 (cutsF_len hn)
theorem highF_nm {z : Zon} (hn : nmsOk z) {i : Nat} (h : i < (highF z).length) : (highF z)[i]!.length ≤ 1000 := highTo_nm hn (Nat.le_refl _) h
theorem bo165 : hasBody Tryz.prog 165 = true := by kernel_rfl
theorem r06cuts_ct (z : Zon) (hl : z.sets.length ≤ 1000000) : PureCt Tryz.prog 165 [.agg z.d] (.list false ((cutsF z).map sR)) := by
  refine pure_of_dw Tryz.func165 rfl bo165 (by simp [go_sem, D.nr, nrs, nrr]) (by simp [Tryz.f165]) ?_
  unfold Tryz.f165
  simp only [init_eq]
  have ff := True.intro
  refine stp In ?_
  refine stp In ?_
  refine dw_seq ?_
  refine dw_own 3 9 (by simp only [go_sem, ff]) (by simp only [go_sem, ff]) ?_
  refine stp In ?_
  refine dw_block ?_
  refine lp (α := (Nat) × (Nat) × Nat) [1] (fun ⟨k, r, nx⟩ => (k ≤ z.sets.length) ∧ (r < nx) ∧ (0 < r) ∧ True) (fun ⟨k, r, nx⟩ => z.sets.length - k) (fun ⟨k, r, nx⟩ => [(3, .mrow r 0 (cutsR z k).length), (4, .i k)]) (fun ⟨k, r, nx⟩ => [(0, ⟨24, [z.d]⟩), (r, ⟨9, (cutsR z k).map sR⟩)]) (fun ⟨k, r, nx⟩ => nx) (0, 3, _) (hA := ⟨iv, iv, iv, trivial⟩) (round := ?_)
  rintro ⟨k, r, nx⟩ ⟨hk, hr, hr0, -⟩
  show DW _ _ _ _ { n := _, t := tab _, h := _, nx := _, e := _ }
  simp only [List.cons_append, List.nil_append]
  have hcl := cutsR_len z k
  have n0 : 0 < nx := by omega
  have z0_r : (0 = r) = False := eq_false (by omega)
  have yr_0 : (r = 0) = False := eq_false (by omega)
  have ff := And.intro @hr (And.intro @n0 (And.intro @z0_r (And.intro @yr_0 ff)))
  refine dw_seq ?_
  refine stp In ?_
  refine cd (fun c1 => ?_) (fun c1 => ?_) (hp := rfl)
  · skip
    have hk2 : k < z.sets.length := by simpa using c1
    have ff := And.intro (getD_sgd hk2) ff
    refine dw_skip ?_
    show DW _ _ _ _ _
    refine dw_seq ?_
    refine dw_block ?_
    refine stp In ?_
    refine stp In ?_
    refine cd (fun c2 => ?_) (fun c2 => ?_)
    · skip
      refine rgn In ?_
      show DW _ _ _ _ _
      refine rgn In ?_
      show ∃ _, _
      have ff := And.intro (cutsR_yes (z := z) (k := k) (by grind)) ff
      exact rnd (k + 1, (nx + 27), _) (h1 := ⟨iv, iv, iv, trivial⟩)
    · skip
      refine dw_skip ?_
      show DW _ _ _ _ _
      refine rgn In ?_
      show ∃ _, _
      have ff := And.intro (cutsR_no (z := z) (k := k) (by grind)) ff
      exact rnd (k + 1, r, _) (h1 := ⟨iv, iv, iv, trivial⟩)
  · skip
    refine dw_exit ?_
    show DW _ _ _ _ _
    have e9 : k = z.sets.length := by omega
    subst e9
    refine stp In ?_
    refine dw_ret ?_
    exact fin 1 (hr := by (try simp only [go_sem, ff]); all_goals (rfl))
theorem bo132 : hasBody Tryz.prog 132 = true := by kernel_rfl
theorem r06high_ct (z : Zon) (hn : nmsOk z) : PureCt Tryz.prog 132 [.agg z.d] (.list false ((highF z).map sR)) := by
  refine pure_of_dw Tryz.func132 rfl bo132 (by simp [go_sem, D.nr, nrs, nrr]) (by simp [Tryz.f132]) ?_
  unfold Tryz.f132
  simp only [init_eq]
  have ff := True.intro
  have hl := hn.1
  have hcl := cutsF_len hn
  refine stp In ?_
  refine stp In ?_ (hok := by (try simp only [go_sem, ff]); all_goals (exact r06cuts_ct z hl))
  refine stp In ?_
  refine dw_seq ?_
  refine dw_own 4 9 (by simp only [go_sem, ff]) (by simp only [go_sem, ff]) ?_
  refine stp In ?_
  refine dw_block ?_
  refine lp (α := (Nat) × (Nat) × Nat) [3] (fun ⟨k, r, nx⟩ => (k ≤ (cutsF z).length) ∧ (r < nx) ∧ True) (fun ⟨k, r, nx⟩ => (cutsF z).length - k) (fun ⟨k, r, nx⟩ => [(4, .mrow r 0 (highTo (cutsF z) k).length), (5, .i k)]) (fun ⟨k, r, nx⟩ => [(r, ⟨9, (highTo (cutsF z) k).map sR⟩)]) (fun ⟨k, r, nx⟩ => nx) (0, 6, _) (hA := ⟨iv, iv, trivial⟩) (round := ?_)
  rintro ⟨k, r, nx⟩ ⟨hk, hr, -⟩
  show DW _ _ _ _ { n := _, t := tab _, h := _, nx := _, e := _ }
  simp only [List.cons_append, List.nil_append]
  have hhl := (highTo_mem (cutsF z) k hk).1
  have ff := And.intro @hr ff
  refine dw_seq ?_
  refine stp In ?_
  refine cd (fun c1 => ?_) (fun c1 => ?_) (hp := rfl)
  · skip
    have hk2 : k < (cutsF z).length := by simpa using c1
    have e1 : (((highTo (cutsF z) k).length : Int) - 1).toNat = (highTo (cutsF z) k).length - 1 := by omega
    have ff := And.intro (getD_sR hk2) (And.intro @e1 ff)
    refine dw_skip ?_
    show DW _ _ _ _ _
    refine dw_seq ?_
    refine dw_block ?_
    by_cases h0 : (highTo (cutsF z) k).length = 0
    · skip
      have hnil := List.eq_nil_of_length_eq_zero h0
      have ff := And.intro @h0 (And.intro @hnil ff)
      refine stp In ?_ (hok := by (try simp only [go_sem, ff]); all_goals (first | done | ((repeat' (with_reducible apply And.intro)) <;> first | exact (fun _ => rin1_ct _ _ (cutsF_nm hn hk2) (highTo_nm hn hk h9)) | (intros; exact (fun _ => rin1_ct _ _ (cutsF_nm hn hk2) (highTo_nm hn hk h9))) | omega | (intros; omega) | (intro h; simp at h; done) | skip)))
      refine cd (fun c2 => ?_) (fun c2 => ?_) (hq := rfl)
      · skip
        refine rgn In ?_
        show DW _ _ _ _ _
        refine rgn In ?_
        show ∃ _, _
        have ff := And.intro (highTo_yes (cs := cutsF z) (k := k) (by first | exact .inl (List.eq_nil_of_length_eq_zero h0) | grind)) ff
        exact rnd (k + 1, (nx + 27), _) (h1 := ⟨iv, iv, trivial⟩)
      · skip
        grind
    · skip
      have h9 : (highTo (cutsF z) k).length - 1 < (highTo (cutsF z) k).length := by omega
      have ff := And.intro (getD_sR h9) ff
      refine stp In ?_ (hok := by (try simp only [go_sem, ff]); all_goals (first | done | ((repeat' (with_reducible apply And.intro)) <;> first | exact (fun _ => rin1_ct _ _ (cutsF_nm hn hk2) (highTo_nm hn hk h9)) | (intros; exact (fun _ => rin1_ct _ _ (cutsF_nm hn hk2) (highTo_nm hn hk h9))) | omega | (intros; omega) | (intro h; simp at h; done) | skip)))
      refine cd (fun c2 => ?_) (fun c2 => ?_)
      · skip
        refine rgn In ?_
        show DW _ _ _ _ _
        refine rgn In ?_
        show ∃ _, _
        have ff := And.intro (highTo_yes (cs := cutsF z) (k := k) (by first | exact .inl (List.eq_nil_of_length_eq_zero h0) | grind)) ff
        exact rnd (k + 1, (nx + 27), _) (h1 := ⟨iv, iv, trivial⟩)
      · skip
        refine dw_skip ?_
        show DW _ _ _ _ _
        refine rgn In ?_
        show ∃ _, _
        have ff := And.intro (highTo_no (cs := cutsF z) (k := k) (by grind)) ff
        exact rnd (k + 1, r, _) (h1 := ⟨iv, iv, trivial⟩)
  · skip
    refine dw_exit ?_
    show DW _ _ _ _ _
    have e9 : k = (cutsF z).length := by omega
    subst e9
    refine stp In ?_
    refine dw_ret ?_
    exact fin 1 (hr := by (try simp only [go_sem, ff]); all_goals (rfl))
theorem bo93 : hasBody Tryz.prog 93 = true := by kernel_rfl
theorem r06beh_ct (z : Zon) (hn : nmsOk z) : PureCt Tryz.prog 93 [.agg z.d] (.list false ((behR z).map sR)) := by
  refine pure_of_dw Tryz.func93 rfl bo93 (by simp [go_sem, D.nr, nrs, nrr]) (by simp [Tryz.f93]) ?_
  unfold Tryz.f93
  simp only [init_eq]
  have ff := True.intro
  have hl := hn.1
  have hcl := highF_len hn
  refine stp In ?_
  refine stp In ?_ (hok := by (try simp only [go_sem, ff]); all_goals (exact r06high_ct z hn))
  refine stp In ?_
  refine stp In ?_
  refine dw_seq ?_
  refine stp In ?_
  refine dw_block ?_
  refine lp (α := (Nat) × (Nat) × (Nat) × Nat) [1, 3] (fun ⟨k, j, rb, nx⟩ => (k ≤ z.sets.length) ∧ (rb < nx) ∧ (0 < rb) ∧ (j = advTo (highF z) z.sets k) ∧ (j ≤ (highF z).length) ∧ True) (fun ⟨k, j, rb, nx⟩ => z.sets.length - k) (fun ⟨k, j, rb, nx⟩ => [(4, .mrow rb 0 z.sets.length), (5, .i j), (6, .i k)]) (fun ⟨k, j, rb, nx⟩ => [(0, ⟨24, [z.d]⟩), (rb, ⟨9, (rowsR (highF z) z.sets z.sets.length (k)).map sR⟩)]) (fun ⟨k, j, rb, nx⟩ => nx) (0, 0, 8, _) (hA := ⟨iv, iv, iv, rfl, iv, trivial⟩) (round := ?_)
  rintro ⟨k, j, rb, nx⟩ ⟨hk, hx, hb0, hj, hj2, -⟩
  show DW _ _ _ _ { n := _, t := tab _, h := _, nx := _, e := _ }
  simp only [List.cons_append, List.nil_append]
  have n0 : 0 < nx := by omega
  have z0_rb : (0 = rb) = False := eq_false (by omega)
  have yrb_0 : (rb = 0) = False := eq_false (by omega)
  have ff := And.intro @hx (And.intro @n0 (And.intro @z0_rb (And.intro @yrb_0 ff)))
  refine dw_seq ?_
  refine stp In ?_
  refine cd (fun c1 => ?_) (fun c1 => ?_) (hp := rfl)
  · skip
    have hk2 : k < z.sets.length := by simpa using c1
    have ff := And.intro (getD_sgd hk2) (And.intro (rowsR_len (hs := highF z) (l := z.sets) hk) (And.intro (getD_sR (l := rowsR (highF z) z.sets z.sets.length k) (n := k) (by rw [rowsR_len hk]; exact hk2)) ff))
    refine dw_skip ?_
    show DW _ _ _ _ _
    refine dw_seq ?_
    refine dw_block ?_
    refine stp In ?_
    refine dw_seq ?_
    refine dw_block ?_
    refine lp (α := (Nat) × Nat) [1, 3, 4, 6, 7] (fun ⟨i, nx⟩ => (i ≤ (highF z).length) ∧ (rb < nx) ∧ (adv (highF z) z.sets[k]!.set.name j = adv (highF z) z.sets[k]!.set.name i) ∧ True) (fun ⟨i, nx⟩ => (highF z).length - i) (fun ⟨i, nx⟩ => [(5, .i i)]) (fun ⟨i, nx⟩ => [(0, ⟨24, [z.d]⟩), (rb, ⟨9, (rowsR (highF z) z.sets z.sets.length (k)).map sR⟩)]) (fun ⟨i, nx⟩ => nx) (j, _) (hA := ⟨iv, iv, rfl, trivial⟩) (round := ?_)
    rintro ⟨i, nx⟩ ⟨hi, hx, hv2, -⟩
    show DW _ _ _ _ { n := _, t := tab _, h := _, nx := _, e := _ }
    simp only [List.cons_append, List.nil_append]
    have n0 : 0 < nx := by omega
    have ff := And.intro @hx (And.intro @n0 (And.intro @z0_rb (And.intro @yrb_0 ff)))
    refine dw_seq ?_
    by_cases hk4 : i < (highF z).length
    · skip
      have ff := And.intro (getD_sR hk4) ff
      refine stp In ?_ (hok := by (try simp only [go_sem, ff]); all_goals (first | done | ((repeat' (with_reducible apply And.intro)) <;> first | exact (fun _ => rorder_ct _ _ (highF_nm hn hk4) (hn.2 _ hk2)) | (intros; exact (fun _ => rorder_ct _ _ (highF_nm hn hk4) (hn.2 _ hk2))) | omega | (intros; omega) | skip)))
      refine cd (fun c2 => ?_) (fun c2 => ?_) (hq := rfl)
      · skip
        refine dw_skip ?_
        show DW _ _ _ _ _
        refine dw_block ?_
        refine rgn In ?_
        show ∃ _, _
        exact rnd (i + 1, _) (h1 := ⟨iv, iv, (by first | (rw [hv2, adv_eq]; grind) | (dsimp only; rw [hv2, adv_eq]; grind)), trivial⟩)
      · skip
        have hav : advTo (highF z) z.sets (k + 1) = i := by show adv _ _ _ = _; rw [← hj, hv2, adv_eq]; grind
        refine dw_exit ?_
        show DW _ _ _ _ _
        by_cases hi0 : i = 0
        · skip
          have ff := And.intro @hi0 ff
          refine stp In ?_ (hok := by (try simp only [go_sem, ff]); all_goals (first | done | ((repeat' (with_reducible apply And.intro)) <;> first | exact (fun _ => rin1_ct _ _ (hn.2 _ hk2) (highF_nm hn hi9)) | (intros; exact (fun _ => rin1_ct _ _ (hn.2 _ hk2) (highF_nm hn hi9))) | omega | (intros; omega) | (intro h; simp at h; done) | skip)))
          refine cd (fun c3 => ?_) (fun c3 => ?_)
          · skip
            refine rgn In ?_
            show DW _ _ _ _ _
            refine rgn In ?_
            show ∃ _, _
            have hcc : behAt (highF z) z.sets[k]!.set.name (advTo (highF z) z.sets (k + 1)) = (highF z)[i - 1]! := by rw [hav]; simp only [behAt]; grind
            have ff := And.intro (rowsR_setD hk2 hcc) ff
            exact rnd (k + 1, i, rb, _) (h1 := ⟨iv, iv, iv, (by first | (exact hav.symm) | (dsimp only; exact hav.symm)), iv, trivial⟩)
          · skip
            refine dw_skip ?_
            show DW _ _ _ _ _
            refine rgn In ?_
            show ∃ _, _
            have hcc : behAt (highF z) z.sets[k]!.set.name (advTo (highF z) z.sets (k + 1)) = [] := by rw [hav]; simp only [behAt]; grind
            have ff := And.intro (rowsR_same hk2 hcc) ff
            exact rnd (k + 1, i, rb, _) (h1 := ⟨iv, iv, iv, (by first | (exact hav.symm) | (dsimp only; exact hav.symm)), iv, trivial⟩)
        · skip
          have hi9 : i - 1 < (highF z).length := by omega
          have e1 : ((i:Int) - 1).toNat = i - 1 := by omega
          have ff := And.intro @e1 (And.intro (getD_sR hi9) ff)
          refine stp In ?_ (hok := by (try simp only [go_sem, ff]); all_goals (first | done | ((repeat' (with_reducible apply And.intro)) <;> first | exact (fun _ => rin1_ct _ _ (hn.2 _ hk2) (highF_nm hn hi9)) | (intros; exact (fun _ => rin1_ct _ _ (hn.2 _ hk2) (highF_nm hn hi9))) | omega | (intros; omega) | (intro h; simp at h; done) | skip)))
          refine cd (fun c3 => ?_) (fun c3 => ?_)
          · skip
            refine rgn In ?_
            show DW _ _ _ _ _
            refine rgn In ?_
            show ∃ _, _
            have hcc : behAt (highF z) z.sets[k]!.set.name (advTo (highF z) z.sets (k + 1)) = (highF z)[i - 1]! := by rw [hav]; simp only [behAt]; grind
            have ff := And.intro (rowsR_setD hk2 hcc) ff
            exact rnd (k + 1, i, rb, _) (h1 := ⟨iv, iv, iv, (by first | (exact hav.symm) | (dsimp only; exact hav.symm)), iv, trivial⟩)
          · skip
            refine dw_skip ?_
            show DW _ _ _ _ _
            refine rgn In ?_
            show ∃ _, _
            have hcc : behAt (highF z) z.sets[k]!.set.name (advTo (highF z) z.sets (k + 1)) = [] := by rw [hav]; simp only [behAt]; grind
            have ff := And.intro (rowsR_same hk2 hcc) ff
            exact rnd (k + 1, i, rb, _) (h1 := ⟨iv, iv, iv, (by first | (exact hav.symm) | (dsimp only; exact hav.symm)), iv, trivial⟩)
    · skip
      have e9 : decide ((i : Int) < ((highF z).length : Int)) = false := decide_eq_false (by omega)
      have ff := And.intro @e9 ff
      refine stp In ?_ (hok := by (try simp only [go_sem, ff]); all_goals (first | done | ((repeat' (with_reducible apply And.intro)) <;> first | exact (fun _ => rorder_ct _ _ (highF_nm hn hk4) (hn.2 _ hk2)) | (intros; exact (fun _ => rorder_ct _ _ (highF_nm hn hk4) (hn.2 _ hk2))) | omega | (intros; omega) | skip)))
      refine cd (fun c2 => ?_) (fun c2 => ?_) (hp := rfl) (hq := rfl)
      · skip
        grind
      · skip
        have hav : advTo (highF z) z.sets (k + 1) = i := by show adv _ _ _ = _; rw [← hj, hv2, adv_eq]; grind
        refine dw_exit ?_
        show DW _ _ _ _ _
        by_cases hi0 : i = 0
        · skip
          have ff := And.intro @hi0 ff
          refine stp In ?_ (hok := by (try simp only [go_sem, ff]); all_goals (first | done | ((repeat' (with_reducible apply And.intro)) <;> first | exact (fun _ => rin1_ct _ _ (hn.2 _ hk2) (highF_nm hn hi9)) | (intros; exact (fun _ => rin1_ct _ _ (hn.2 _ hk2) (highF_nm hn hi9))) | omega | (intros; omega) | (intro h; simp at h; done) | skip)))
          refine cd (fun c3 => ?_) (fun c3 => ?_)
          · skip
            refine rgn In ?_
            show DW _ _ _ _ _
            refine rgn In ?_
            show ∃ _, _
            have hcc : behAt (highF z) z.sets[k]!.set.name (advTo (highF z) z.sets (k + 1)) = (highF z)[i - 1]! := by rw [hav]; simp only [behAt]; grind
            have ff := And.intro (rowsR_setD hk2 hcc) ff
            exact rnd (k + 1, i, rb, _) (h1 := ⟨iv, iv, iv, (by first | (exact hav.symm) | (dsimp only; exact hav.symm)), iv, trivial⟩)
          · skip
            refine dw_skip ?_
            show DW _ _ _ _ _
            refine rgn In ?_
            show ∃ _, _
            have hcc : behAt (highF z) z.sets[k]!.set.name (advTo (highF z) z.sets (k + 1)) = [] := by rw [hav]; simp only [behAt]; grind
            have ff := And.intro (rowsR_same hk2 hcc) ff
            exact rnd (k + 1, i, rb, _) (h1 := ⟨iv, iv, iv, (by first | (exact hav.symm) | (dsimp only; exact hav.symm)), iv, trivial⟩)
        · skip
          have hi9 : i - 1 < (highF z).length := by omega
          have e1 : ((i:Int) - 1).toNat = i - 1 := by omega
          have ff := And.intro @e1 (And.intro (getD_sR hi9) ff)
          refine stp In ?_ (hok := by (try simp only [go_sem, ff]); all_goals (first | done | ((repeat' (with_reducible apply And.intro)) <;> first | exact (fun _ => rin1_ct _ _ (hn.2 _ hk2) (highF_nm hn hi9)) | (intros; exact (fun _ => rin1_ct _ _ (hn.2 _ hk2) (highF_nm hn hi9))) | omega | (intros; omega) | (intro h; simp at h; done) | skip)))
          refine cd (fun c3 => ?_) (fun c3 => ?_)
          · skip
            refine rgn In ?_
            show DW _ _ _ _ _
            refine rgn In ?_
            show ∃ _, _
            have hcc : behAt (highF z) z.sets[k]!.set.name (advTo (highF z) z.sets (k + 1)) = (highF z)[i - 1]! := by rw [hav]; simp only [behAt]; grind
            have ff := And.intro (rowsR_setD hk2 hcc) ff
            exact rnd (k + 1, i, rb, _) (h1 := ⟨iv, iv, iv, (by first | (exact hav.symm) | (dsimp only; exact hav.symm)), iv, trivial⟩)
          · skip
            refine dw_skip ?_
            show DW _ _ _ _ _
            refine rgn In ?_
            show ∃ _, _
            have hcc : behAt (highF z) z.sets[k]!.set.name (advTo (highF z) z.sets (k + 1)) = [] := by rw [hav]; simp only [behAt]; grind
            have ff := And.intro (rowsR_same hk2 hcc) ff
            exact rnd (k + 1, i, rb, _) (h1 := ⟨iv, iv, iv, (by first | (exact hav.symm) | (dsimp only; exact hav.symm)), iv, trivial⟩)
  · skip
    refine dw_exit ?_
    show DW _ _ _ _ _
    have e9 : k = z.sets.length := by omega
    subst e9
    have tk : List.take z.sets.length ((rowsR (highF z) z.sets z.sets.length z.sets.length).map sR) = (behR z).map sR := by rw [rowsR_n]; exact List.take_of_length_le (by rw [List.length_map, behRTo_len]; exact Nat.le_refl _)
    have ff := And.intro @tk (And.intro (rowsR_len (hs := highF z) (l := z.sets) (Nat.le_refl z.sets.length)) ff)
    refine stp In ?_
    refine dw_ret ?_
    exact fin 1 (hr := by (try simp only [go_sem, ff]); all_goals (rfl)) (hk := by (try simp only [go_sem, ff]); all_goals (exact behRTo_len _ _ _))

end Go.Proofs.YtipkfnkmdeopeaaGreatDoor
namespace Go.Proofs.YtipkfnkmdeopeaaGreatDoor
open Go.DL Go.Str Go.Rec Go.Cmp Go.Zon
set_option maxRecDepth 10000
set_option linter.unusedSimpArgs false
set_option linter.unusedVariables false
theorem behR_len (z : Zon) : (behR z).length = z.sets.length := behRTo_len _ _ _
theorem ownF_len (z : Zon) : (ownF z).length = z.sets.length := ownTo_len _ _
theorem bo52 : hasBody Tryz.prog 52 = true := by kernel_rfl
theorem r06four_ct (z : Zon) (hn : nmsOk z) : PureCt Tryz.prog 52 [.agg z.d] (.b (fourB z)) := by
  refine pure_of_dw Tryz.func52 rfl bo52 (by simp [go_sem, D.nr, nrs, nrr]) (by simp [Tryz.f52]) ?_
  unfold Tryz.f52
  simp only [init_eq]
  have ff := True.intro
  have hl := hn.1
  have hbl := behR_len z
  refine stp In ?_
  refine stp In ?_ (hok := by (try simp only [go_sem, ff]); all_goals (exact r06beh_ct z hn))
  refine dw_seq ?_
  refine stp In ?_
  refine dw_block ?_
  refine lp (α := (Nat) × Nat) [1, 3] (fun ⟨k, nx⟩ => (k ≤ z.sets.length) ∧ (allN z.sets.length (cutAt ⟨z, behR z⟩) 0 = allN z.sets.length (cutAt ⟨z, behR z⟩) k) ∧ (0 < nx) ∧ True) (fun ⟨k, nx⟩ => z.sets.length - k) (fun ⟨k, nx⟩ => [(4, .i k)]) (fun ⟨k, nx⟩ => [(0, ⟨24, [z.d]⟩)]) (fun ⟨k, nx⟩ => nx) (0, _) (hA := ⟨iv, rfl, iv, trivial⟩) (round := ?_)
  rintro ⟨k, nx⟩ ⟨hk, hv, hx, -⟩
  show DW _ _ _ _ { n := _, t := tab _, h := _, nx := _, e := _ }
  simp only [List.cons_append, List.nil_append]
  have ff := And.intro @hx ff
  refine dw_seq ?_
  refine stp In ?_
  refine cd (fun c1 => ?_) (fun c1 => ?_) (hp := rfl)
  · skip
    have hk2 : k < z.sets.length := by simpa using c1
    have hk3 : k < (behR z).length := by omega
    have ff := And.intro (getD_sgd hk2) (And.intro (getD_sR hk3) ff)
    refine dw_skip ?_
    show DW _ _ _ _ _
    refine dw_seq ?_
    refine dw_block ?_
    refine stp In ?_
    refine stp In ?_
    refine dw_seq ?_
    refine stp In ?_
    refine cd (fun c2 => ?_) (fun c2 => ?_)
    · skip
      refine stp In ?_
      refine dw_ret ?_
      exact fin 0 (hr := by (try simp only [go_sem, ff]); all_goals (have hF : (cutAt ⟨z, behR z⟩) k = false := (by simp only [cutAt]; grind); simp only [fourB, cutB]; rw [hv, allN_no hk2 hF]; try simp))
    · skip
      refine dw_skip ?_
      show DW _ _ _ _ _
      refine dw_seq ?_
      refine stp In ?_
      refine cd (fun c3 => ?_) (fun c3 => ?_)
      · skip
        refine stp In ?_
        refine dw_ret ?_
        exact fin 0 (hr := by (try simp only [go_sem, ff]); all_goals (have hF : (cutAt ⟨z, behR z⟩) k = false := (by simp only [cutAt]; grind); simp only [fourB, cutB]; rw [hv, allN_no hk2 hF]; try simp))
      · skip
        refine dw_skip ?_
        show DW _ _ _ _ _
        refine stp In ?_
        refine cd (fun c4 => ?_) (fun c4 => ?_)
        · skip
          refine stp In ?_
          refine dw_ret ?_
          exact fin 0 (hr := by (try simp only [go_sem, ff]); all_goals (have hF : (cutAt ⟨z, behR z⟩) k = false := (by simp only [cutAt]; grind); simp only [fourB, cutB]; rw [hv, allN_no hk2 hF]; try simp))
        · skip
          refine dw_skip ?_
          show DW _ _ _ _ _
          refine rgn In ?_
          show ∃ _, _
          have h8 : (cutAt ⟨z, behR z⟩) k = true := by simp only [cutAt]; grind
          exact rnd (k + 1, _) (h1 := ⟨iv, (by first | (rw [hv, allN_yes hk2 h8]) | (dsimp only; rw [hv, allN_yes hk2 h8])), iv, trivial⟩)
  · skip
    refine dw_exit ?_
    show DW _ _ _ _ _
    refine stp In ?_
    refine dw_ret ?_
    exact fin 0 (hr := by (try simp only [go_sem, ff]); all_goals (simp only [fourB, cutB]; rw [hv, allN_end (by omega)]))
theorem bo94 : hasBody Tryz.prog 94 = true := by kernel_rfl
theorem r06own_ct (z : Zon) (hn : nmsOk z) : PureCt Tryz.prog 94 [.agg z.d] (.list false ((ownF z).map bR)) := by
  refine pure_of_dw Tryz.func94 rfl bo94 (by simp [go_sem, D.nr, nrs, nrr]) (by simp [Tryz.f94]) ?_
  unfold Tryz.f94
  simp only [init_eq]
  have ff := True.intro
  have hl := hn.1
  have hbl := behR_len z
  refine stp In ?_
  refine stp In ?_ (hok := by (try simp only [go_sem, ff]); all_goals (exact r06beh_ct z hn))
  refine stp In ?_
  refine dw_seq ?_
  refine stp In ?_
  refine dw_block ?_
  refine lp (α := (Nat) × (Nat) × Nat) [1, 3] (fun ⟨k, rb, nx⟩ => (k ≤ z.sets.length) ∧ (rb < nx) ∧ (0 < rb) ∧ True) (fun ⟨k, rb, nx⟩ => z.sets.length - k) (fun ⟨k, rb, nx⟩ => [(4, .mrow rb 0 z.sets.length), (5, .i k)]) (fun ⟨k, rb, nx⟩ => [(0, ⟨24, [z.d]⟩), (rb, ⟨4, (rowsO ⟨z, behR z⟩ z.sets.length (k)).map bR⟩)]) (fun ⟨k, rb, nx⟩ => nx) (0, 8, _) (hA := ⟨iv, iv, iv, trivial⟩) (round := ?_)
  rintro ⟨k, rb, nx⟩ ⟨hk, hx, hb0, -⟩
  show DW _ _ _ _ { n := _, t := tab _, h := _, nx := _, e := _ }
  simp only [List.cons_append, List.nil_append]
  have n0 : 0 < nx := by omega
  have z0_rb : (0 = rb) = False := eq_false (by omega)
  have yrb_0 : (rb = 0) = False := eq_false (by omega)
  have ff := And.intro @hx (And.intro @n0 (And.intro @z0_rb (And.intro @yrb_0 ff)))
  refine dw_seq ?_
  refine stp In ?_
  refine cd (fun c1 => ?_) (fun c1 => ?_) (hp := rfl)
  · skip
    have hk2 : k < z.sets.length := by simpa using c1
    have hk3 : k < (behR z).length := by omega
    have ff := And.intro (getD_sgd hk2) (And.intro (getD_sR hk3) (And.intro (rowsO_len (x := ⟨z, behR z⟩) hk) (And.intro (getD_bR (l := rowsO ⟨z, behR z⟩ z.sets.length k) (n := k) (by rw [rowsO_len hk]; exact hk2)) ff)))
    refine dw_skip ?_
    show DW _ _ _ _ _
    refine dw_seq ?_
    refine dw_block ?_
    refine stp In ?_
    refine rgn In ?_
    show DW _ _ _ _ _
    refine rgn In ?_
    show ∃ _, _
    exact rnd (k + 1, rb, _) (h1 := ⟨iv, iv, iv, trivial⟩) (h3 := by (try simp only [go_sem, ff]); all_goals (first | done | exact congrArg (fun q => some (Blk.mk 4 q)) (rowsO_setD hk2 (by simp only [ownAt]; grind)) | (simp; done))) (h4 := by (try simp only [go_sem, ff]); all_goals (first | done | exact congrArg (fun q => some (Blk.mk 4 q)) (rowsO_setD hk2 (by simp only [ownAt]; grind)) | (simp; done))) (h5 := by (try simp only [go_sem, ff]); all_goals (first | done | exact congrArg (fun q => some (Blk.mk 4 q)) (rowsO_setD hk2 (by simp only [ownAt]; grind)) | (simp; done)))
  · skip
    refine dw_exit ?_
    show DW _ _ _ _ _
    have e9 : k = z.sets.length := by omega
    subst e9
    have tk : List.take z.sets.length ((rowsO ⟨z, behR z⟩ z.sets.length (z.sets.length)).map bR) = (ownF z).map bR := by rw [rowsO_n]; exact List.take_of_length_le (by rw [List.length_map, ownTo_len]; exact Nat.le_refl _)
    have ff := And.intro @tk (And.intro (rowsO_len (x := ⟨z, behR z⟩) (Nat.le_refl z.sets.length)) ff)
    refine stp In ?_
    refine dw_ret ?_
    exact fin 1 (hr := by (try simp only [go_sem, ff]); all_goals (rfl)) (hk := by (try simp only [go_sem, ff]); all_goals (exact ownF_len z))
theorem bo53 : hasBody Tryz.prog 53 = true := by kernel_rfl
theorem r06five_ct (z : Zon) (hn : nmsOk z) : PureCt Tryz.prog 53 [.agg z.d] (.b (fiveB z)) := by
  refine pure_of_dw Tryz.func53 rfl bo53 (by simp [go_sem, D.nr, nrs, nrr]) (by simp [Tryz.f53]) ?_
  unfold Tryz.f53
  simp only [init_eq]
  have ff := True.intro
  have hl := hn.1
  have hbl := behR_len z
  have hol := ownF_len z
  refine stp In ?_
  refine stp In ?_ (hok := by (try simp only [go_sem, ff]); all_goals (exact r06own_ct z hn))
  refine dw_seq ?_
  refine stp In ?_
  refine dw_block ?_
  refine lp (α := (Nat) × Nat) [1, 3] (fun ⟨k, nx⟩ => (k ≤ z.sets.length) ∧ (allN z.sets.length (fiveAt ⟨z, behR z⟩) 0 = allN z.sets.length (fiveAt ⟨z, behR z⟩) k) ∧ (0 < nx) ∧ True) (fun ⟨k, nx⟩ => z.sets.length - k) (fun ⟨k, nx⟩ => [(4, .i k)]) (fun ⟨k, nx⟩ => [(0, ⟨24, [z.d]⟩)]) (fun ⟨k, nx⟩ => nx) (0, _) (hA := ⟨iv, rfl, iv, trivial⟩) (round := ?_)
  rintro ⟨k, nx⟩ ⟨hk, hv, hx, -⟩
  show DW _ _ _ _ { n := _, t := tab _, h := _, nx := _, e := _ }
  simp only [List.cons_append, List.nil_append]
  have ff := And.intro @hx ff
  refine dw_seq ?_
  refine stp In ?_
  refine cd (fun c1 => ?_) (fun c1 => ?_) (hp := rfl)
  · skip
    have hk2 : k < z.sets.length := by simpa using c1
    have hk3 : k < (ownF z).length := by omega
    have ho : (ownF z)[k]! = ownAt ⟨z, behR z⟩ k := ownTo_get _ _ _ hk2
    have ff := And.intro (getD_sgd hk2) (And.intro (getD_bR hk3) ff)
    refine dw_skip ?_
    show DW _ _ _ _ _
    refine dw_seq ?_
    refine dw_block ?_
    refine stp In ?_ (hok := by (try simp only [go_sem, ff]); all_goals (first | done | ((repeat' (with_reducible apply And.intro)) <;> first | exact rsigs_ct _ _ | (intros; exact rsigs_ct _ _) | omega | (intros; omega) | (intros; simp_all; done) | skip)))
    refine cd (fun c2 => ?_) (fun c2 => ?_)
    · skip
      refine stp In ?_
      refine dw_ret ?_
      exact fin 0 (hr := by (try simp only [go_sem, ff]); all_goals (have hF : (fiveAt ⟨z, behR z⟩) k = false := (by simp only [fiveAt, formAt, glueAt, ownAt] at *; grind); simp only [fiveB]; rw [hv, allN_no hk2 hF]; try simp))
    · skip
      refine dw_skip ?_
      show DW _ _ _ _ _
      refine rgn In ?_
      show ∃ _, _
      have h8 : (fiveAt ⟨z, behR z⟩) k = true := by simp only [fiveAt, formAt, glueAt, ownAt] at *; grind
      exact rnd (k + 1, _) (h1 := ⟨iv, (by first | (rw [hv, allN_yes hk2 h8]) | (dsimp only; rw [hv, allN_yes hk2 h8])), iv, trivial⟩)
  · skip
    refine dw_exit ?_
    show DW _ _ _ _ _
    refine stp In ?_
    refine dw_ret ?_
    exact fin 0 (hr := by (try simp only [go_sem, ff]); all_goals (simp only [fiveB]; rw [hv, allN_end (by omega)]))
theorem bo28 : hasBody Tryz.prog 28 = true := by kernel_rfl
theorem r06valid_ct (z : Zon) : PureCt Tryz.prog 28 [.agg z.d] (.b (refOk z)) := by
  refine pure_of_dw Tryz.func28 rfl bo28 (by simp [go_sem, D.nr, nrs, nrr]) (by simp [Tryz.f28]) ?_
  unfold Tryz.f28
  simp only [init_eq]
  have ff := True.intro
  refine stp In ?_
  refine stp In ?_ (hok := by (try simp only [go_sem, ff]); all_goals (first | done | ((repeat' (with_reducible apply And.intro)) <;> first | exact r06one_ct z | (intros; exact r06one_ct z) | exact (fun h => r06two_ct z (one_nms (by simp_all)).1) | (intros; exact (fun h => r06two_ct z (one_nms (by simp_all)).1)) | exact (fun h => r06three_ct z (one_nms (by simp_all)).1) | (intros; exact (fun h => r06three_ct z (one_nms (by simp_all)).1)) | exact (fun h => r06four_ct z (one_nms (by simp_all))) | (intros; exact (fun h => r06four_ct z (one_nms (by simp_all)))) | exact (fun h => r06five_ct z (one_nms (by simp_all))) | (intros; exact (fun h => r06five_ct z (one_nms (by simp_all)))) | (intros; simp_all; done) | skip)))
  refine dw_ret ?_
  exact fin 0 (hr := by (try simp only [go_sem, ff]); all_goals (simp [refOk, Bool.and_assoc]))

end Go.Proofs.YtipkfnkmdeopeaaGreatDoor
namespace Go.Proofs.YtipkfnkmdeopeaaGreatDoor
open Go.DL Go.Str Go.Rec Go.Cmp Go.Zon
set_option maxRecDepth 10000
set_option linter.unusedSimpArgs false
set_option linter.unusedVariables false
theorem qst_eqF {x y : Qst} (h : x.name = y.name ∧ x.ty = y.ty) : x = y := by
  obtain ⟨a, b⟩ := x
  obtain ⟨g, i⟩ := y
  simp at h
  simp [h]
theorem qst_neF {x y : Qst} (h : ¬x.name = y.name ∨ ¬x.ty = y.ty) : x ≠ y := by
  rintro rfl
  simp at h
theorem bo103 : hasBody Tryz.prog 103 = true := by kernel_rfl
theorem dserial_ct (x : Int) : PureCt Tryz.prog 103 [.i x] (.b (serB x)) := by
  refine pure_of_dw Tryz.func103 rfl bo103 (by simp [go_sem, D.nr, nrs, nrr]) (by simp [Tryz.f103]) ?_
  unfold Tryz.f103
  simp only [init_eq]
  have ff := True.intro
  refine stp In ?_
  refine stp In ?_
  refine dw_ret ?_
  exact fin 0 (hr := by (try simp only [go_sem, ff]); all_goals (simp [serB]))
theorem bo43 : hasBody Tryz.prog 43 = true := by kernel_rfl
theorem rbefore_ct (a : Int) (b : Int) (ha : serB a = true) (hb : serB b = true) : PureCt Tryz.prog 43 [.i a, .i b] (.b (befB a b)) := by
  refine pure_of_dw Tryz.func43 rfl bo43 (by simp [go_sem, D.nr, nrs, nrr]) (by simp [Tryz.f43]) ?_
  unfold Tryz.f43
  simp only [init_eq]
  have ff := True.intro
  simp only [serB, Bool.and_eq_true, decide_eq_true_eq] at ha hb
  refine stp In ?_
  refine stp In ?_
  refine stp In ?_
  refine dw_ret ?_
  exact fin 0 (hr := by (try simp only [go_sem, ff]); all_goals (simp [befB]))
theorem bo63 : hasBody Tryz.prog 63 = true := by kernel_rfl
theorem dbefore_ct (a : Int) (b : Int) (ha : serB a = true) (hb : serB b = true) : PureCt Tryz.prog 63 [.i a, .i b] (.b (befB a b)) := by
  refine pure_of_dw Tryz.func63 rfl bo63 (by simp [go_sem, D.nr, nrs, nrr]) (by simp [Tryz.f63]) ?_
  unfold Tryz.f63
  simp only [init_eq]
  have ff := True.intro
  simp only [serB, Bool.and_eq_true, decide_eq_true_eq] at ha hb
  refine stp In ?_
  refine stp In ?_
  refine stp In ?_
  refine dw_ret ?_
  exact fin 0 (hr := by (try simp only [go_sem, ff]); all_goals (simp [befB]))
theorem bo58 : hasBody Tryz.prog 58 = true := by kernel_rfl
theorem dless11_ct (a : Int) (b : Int) : PureCt Tryz.prog 58 [.i a, .i b] (.tuple [.b (lessF a b).1, .i (lessF a b).2]) := by
  refine pure_of_dw Tryz.func58 rfl bo58 (by simp [go_sem, D.nr, nrs, nrr]) (by simp [Tryz.f58]) ?_
  unfold Tryz.f58
  simp only [init_eq]
  have ff := True.intro
  refine stp In ?_
  refine dw_seq ?_
  refine stp In ?_ (hok := by (try simp only [go_sem, ff]); all_goals (first | done | ((repeat' (with_reducible apply And.intro)) <;> first | exact dserial_ct _ | (intros; exact dserial_ct _) | skip)))
  refine cd (fun c1 => ?_) (fun c1 => ?_)
  · skip
    refine stp In ?_
    refine dw_ret ?_
    exact fin 1 (hr := by (try simp only [go_sem, ff]); all_goals (simp only [lessF]; grind))
  · skip
    refine dw_skip ?_
    show DW _ _ _ _ _
    refine stp In ?_ (hok := by (try simp only [go_sem, ff]); all_goals (exact dbefore_ct _ _ c1.1 c1.2))
    refine dw_ret ?_
    exact fin 1 (hr := by (try simp only [go_sem, ff]); all_goals (simp [lessF, c1]))
theorem bo67 : hasBody Tryz.prog 67 = true := by kernel_rfl
theorem dplace_ct (s : Sgd) : PureCt Tryz.prog 67 [.agg s.d] (.agg s.q.d) := by
  refine pure_of_dw Tryz.func67 rfl bo67 (by simp [go_sem, D.nr, nrs, nrr]) (by simp [Tryz.f67]) ?_
  unfold Tryz.f67
  simp only [init_eq]
  have ff := True.intro
  refine stp In ?_
  refine stp In ?_
  refine dw_ret ?_
  exact fin 1 (hr := by (try simp only [go_sem, ff]); all_goals (rfl))
theorem bo54 : hasBody Tryz.prog 54 = true := by kernel_rfl
theorem rfew11_ct (d : Dlt) : PureCt Tryz.prog 54 [.agg d.d] (.b (fewD d)) := by
  refine pure_of_dw Tryz.func54 rfl bo54 (by simp [go_sem, D.nr, nrs, nrr]) (by simp [Tryz.f54]) ?_
  unfold Tryz.f54
  simp only [init_eq]
  have ff := True.intro
  refine stp In ?_
  refine dw_seq ?_
  refine stp In ?_
  refine dw_block ?_
  refine lp (α := (Nat) × Nat) [1] (fun ⟨k, nx⟩ => (k ≤ d.put.length) ∧ (k ≤ 50) ∧ (0 < nx) ∧ (allN (min d.put.length 50) (fun i => decide (d.put[i]!.sigs.length ≤ 10) && decide (d.put[i]!.set.data.length ≤ 20)) 0 = allN (min d.put.length 50) (fun i => decide (d.put[i]!.sigs.length ≤ 10) && decide (d.put[i]!.set.data.length ≤ 20)) k) ∧ True) (fun ⟨k, nx⟩ => d.put.length - k) (fun ⟨k, nx⟩ => [(3, .i k)]) (fun ⟨k, nx⟩ => [(0, ⟨65, [d.d]⟩)]) (fun ⟨k, nx⟩ => nx) (0, _) (hA := ⟨iv, iv, iv, rfl, trivial⟩) (round := ?_)
  rintro ⟨k, nx⟩ ⟨hk, hk7, hx, hv, -⟩
  show DW _ _ _ _ { n := _, t := tab _, h := _, nx := _, e := _ }
  simp only [List.cons_append, List.nil_append]
  have ff := And.intro @hx ff
  refine dw_seq ?_
  refine stp In ?_
  refine cd (fun c1 => ?_) (fun c1 => ?_)
  · skip
    have hk2 : k < d.put.length := by grind
    have hk9 : k < 50 := by grind
    have hk8 : k < min d.put.length 50 := by omega
    have ff := And.intro (getD_sgd hk2) ff
    refine dw_skip ?_
    show DW _ _ _ _ _
    refine dw_seq ?_
    refine dw_block ?_
    refine stp In ?_
    refine cd (fun c2 => ?_) (fun c2 => ?_)
    · skip
      refine stp In ?_
      refine dw_ret ?_
      exact fin 0 (hr := by (try simp only [go_sem, ff]); all_goals (simp only [fewD]; rw [hv, allN_no hk8 (by grind)]; rfl))
    · skip
      refine dw_skip ?_
      show DW _ _ _ _ _
      refine rgn In ?_
      show ∃ _, _
      exact rnd (k + 1, _) (h1 := ⟨iv, iv, iv, (by (try dsimp only); rw [hv, allN_yes hk8 (by grind)]), trivial⟩)
  · skip
    refine dw_exit ?_
    show DW _ _ _ _ _
    refine stp In ?_
    refine dw_ret ?_
    exact fin 0 (hr := by (try simp only [go_sem, ff]); all_goals (simp only [fewD]; rw [hv, allN_end (by grind)]; simp; rw [Bool.eq_iff_iff]; simp; omega))
end Go.Proofs.YtipkfnkmdeopeaaGreatDoor
namespace Go.Proofs.YtipkfnkmdeopeaaGreatDoor
open Go.DL Go.Str Go.Rec Go.Cmp Go.Zon
set_option maxRecDepth 10000
set_option linter.unusedSimpArgs false
set_option linter.unusedVariables false
@[go_sem] theorem insTo_0 {α : Type} [Inhabited α] {gt : α → Bool} {l : List α} {s : α} : insTo gt l s 0 = ([], false) := rfl
@[go_sem] theorem sgd_snoc {l : List Sgd} {x : Sgd} : (l ++ [x]).map Sgd.d = l.map Sgd.d ++ [[.v (.string (bs x.set.name)), .i x.set.ty, .i x.set.life, .list false (x.set.data.map Dat.d), .list false (x.sigs.map RSig.d)]] := by simp [Sgd.d]
@[go_sem] theorem qst_snoc {l : List Qst} {x : Qst} : (l ++ [x]).map Qst.d = l.map Qst.d ++ [[.v (.string (bs x.name)), .i x.ty]] := by simp [Qst.d]
end Go.Proofs.YtipkfnkmdeopeaaGreatDoor
namespace Go.Proofs.YtipkfnkmdeopeaaGreatDoor
open Go.DL Go.Str Go.Rec Go.Cmp Go.Zon
set_option maxRecDepth 10000
set_option linter.unusedSimpArgs false
set_option linter.unusedVariables false
end Go.Proofs.YtipkfnkmdeopeaaGreatDoor
namespace Go.Proofs.YtipkfnkmdeopeaaGreatDoor
open Go.DL Go.Str Go.Rec Go.Cmp Go.Zon
set_option maxRecDepth 10000
set_option linter.unusedSimpArgs false
set_option linter.unusedVariables false
@[go_sem] theorem addTo_0 {put l : List Sgd} : addTo put l 0 = l := rfl
end Go.Proofs.YtipkfnkmdeopeaaGreatDoor
namespace Go.Proofs.YtipkfnkmdeopeaaGreatDoor
open Go.DL Go.Str Go.Rec Go.Cmp Go.Zon
set_option maxRecDepth 10000
set_option linter.unusedSimpArgs false
set_option linter.unusedVariables false
@[go_sem] theorem all_dat6 {l : List Dat} : (∀ r ∈ l.map Dat.d, r.length = 3) = True := by
  apply eq_true
  intro r hr
  obtain ⟨x, _, rfl⟩ := List.mem_map.1 hr
  rfl
theorem bo61 : hasBody Tryz.prog 61 = true := by kernel_rfl
theorem clonedat_ct (l : List Dat) (hl : l.length ≤ 1000000) : PureCt Tryz.prog 61 [.list false (l.map Dat.d)] (.list false (l.map Dat.d)) := by
  refine pure_of_dw Tryz.func61 rfl bo61 (by simp [go_sem, D.nr, nrs, nrr]) (by simp [Tryz.f61]) ?_
  unfold Tryz.f61
  simp only [init_eq]
  have ff := True.intro
  refine stp In ?_
  refine dw_seq ?_
  refine dw_seq (dw_seg ?_)
  refine seg_eqnil (C := In) 1 (e := 80) (by omega) (arr_at rfl) rfl rfl (by kernel_rfl) (by simp only [List.drop_succ_cons, List.drop_zero, List.take_succ_cons, List.take_zero, S.put, Nat.sub_self, go_sem, ff]; exact rfl) ?_ (by rfl) (by simp only [go_sem, ff]; exact rfl) (fun y hy => ?_)
  · try simp only [go_sem, ff]
    all_goals (first | done | (repeat' (with_reducible apply And.intro)) <;> first | omega | (with_reducible assumption) | (intros; omega) | (intros; simp only [decide_eq_true_eq, decide_eq_false_iff_not, Bool.or_eq_true, Bool.and_eq_true, Bool.or_eq_false_iff, Bool.not_eq_true', Bool.not_eq_false'] at *; omega) | (simp_all; done) | (simp_all; omega))
  refine seg_done (C := In) (by first | decide | simp) (by simp only [List.drop_succ_cons, List.drop_zero, List.take_succ_cons, List.take_zero, S.put, Nat.sub_self, go_sem, ff]; exact rfl) ?_ rfl ?_
  · try simp only [go_sem, ff]
    all_goals (first | done | (repeat' (with_reducible apply And.intro)) <;> first | omega | (with_reducible assumption) | (intros; omega) | (intros; simp only [decide_eq_true_eq, decide_eq_false_iff_not, Bool.or_eq_true, Bool.and_eq_true, Bool.or_eq_false_iff, Bool.not_eq_true', Bool.not_eq_false'] at *; omega) | (simp_all; done) | (simp_all; omega))
  try simp only [clear_eq]
  refine cd (fun c1 => ?_) (fun c1 => ?_) (hp := rfl) (hq := rfl)
  · skip
    have hn : l = [] := List.map_eq_nil_iff.1 (hy c1)
    subst hn
    refine stp In ?_
    refine dw_ret ?_
    exact fin 1 (hr := by (try simp only [go_sem, ff]); all_goals (rfl))
  · skip
    refine dw_skip ?_
    show DW _ _ _ _ _
    refine stp In ?_
    refine dw_ret ?_
    exact fin 1 (hr := by (try simp only [go_sem, ff]); all_goals (rfl))
theorem bo62 : hasBody Tryz.prog 62 = true := by kernel_rfl
theorem clonesig_ct (l : List RSig) (hl : l.length ≤ 1000000) : PureCt Tryz.prog 62 [.list false (l.map RSig.d)] (.list false (l.map RSig.d)) := by
  refine pure_of_dw Tryz.func62 rfl bo62 (by simp [go_sem, D.nr, nrs, nrr]) (by simp [Tryz.f62]) ?_
  unfold Tryz.f62
  simp only [init_eq]
  have ff := True.intro
  refine stp In ?_
  refine dw_seq ?_
  refine dw_seq (dw_seg ?_)
  refine seg_eqnil (C := In) 1 (e := 99) (by omega) (arr_at rfl) rfl rfl (by kernel_rfl) (by simp only [List.drop_succ_cons, List.drop_zero, List.take_succ_cons, List.take_zero, S.put, Nat.sub_self, go_sem, ff]; exact rfl) ?_ (by rfl) (by simp only [go_sem, ff]; exact rfl) (fun y hy => ?_)
  · try simp only [go_sem, ff]
    all_goals (first | done | (repeat' (with_reducible apply And.intro)) <;> first | omega | (with_reducible assumption) | (intros; omega) | (intros; simp only [decide_eq_true_eq, decide_eq_false_iff_not, Bool.or_eq_true, Bool.and_eq_true, Bool.or_eq_false_iff, Bool.not_eq_true', Bool.not_eq_false'] at *; omega) | (simp_all; done) | (simp_all; omega))
  refine seg_done (C := In) (by first | decide | simp) (by simp only [List.drop_succ_cons, List.drop_zero, List.take_succ_cons, List.take_zero, S.put, Nat.sub_self, go_sem, ff]; exact rfl) ?_ rfl ?_
  · try simp only [go_sem, ff]
    all_goals (first | done | (repeat' (with_reducible apply And.intro)) <;> first | omega | (with_reducible assumption) | (intros; omega) | (intros; simp only [decide_eq_true_eq, decide_eq_false_iff_not, Bool.or_eq_true, Bool.and_eq_true, Bool.or_eq_false_iff, Bool.not_eq_true', Bool.not_eq_false'] at *; omega) | (simp_all; done) | (simp_all; omega))
  try simp only [clear_eq]
  refine cd (fun c1 => ?_) (fun c1 => ?_) (hp := rfl) (hq := rfl)
  · skip
    have hn : l = [] := List.map_eq_nil_iff.1 (hy c1)
    subst hn
    refine stp In ?_
    refine dw_ret ?_
    exact fin 1 (hr := by (try simp only [go_sem, ff]); all_goals (rfl))
  · skip
    refine dw_skip ?_
    show DW _ _ _ _ _
    refine stp In ?_
    refine dw_ret ?_
    exact fin 1 (hr := by (try simp only [go_sem, ff]); all_goals (rfl))
theorem bo70 : hasBody Tryz.prog 70 = true := by kernel_rfl
theorem dclone_ct (s : Sgd) (hs : fit1 s) : PureCt Tryz.prog 70 [.agg s.d] (.agg s.d) := by
  refine pure_of_dw Tryz.func70 rfl bo70 (by simp [go_sem, D.nr, nrs, nrr]) (by simp [Tryz.f70]) ?_
  unfold Tryz.f70
  simp only [init_eq]
  have ff := True.intro
  refine stp In ?_
  refine stp In ?_ (hok := by (try simp only [go_sem, ff]); all_goals (exact clonedat_ct _ (Nat.le_trans hs.1 (by omega))))
  refine stp In ?_ (hok := by (try simp only [go_sem, ff]); all_goals (exact clonesig_ct _ (Nat.le_trans hs.2 (by omega))))
  refine stp In ?_
  refine dw_ret ?_
  exact fin 2 (hr := by (try simp only [go_sem, ff]); all_goals (rfl))

end Go.Proofs.YtipkfnkmdeopeaaGreatDoor
namespace Go.Proofs.YtipkfnkmdeopeaaGreatDoor
open Go.DL Go.Str Go.Rec Go.Cmp Go.Zon
set_option maxRecDepth 10000
set_option linter.unusedSimpArgs false
set_option linter.unusedVariables false
@[go_sem] theorem ofV_map {o : Option Nat} : ofV (.map o) = .v (.map o) := by cases o <;> rfl
@[go_sem] theorem keysOk_Q {m : List Sgd} : keysOk Tryz.prog 89 (kvQ m) = true := by
  induction m with
  | nil => rfl
  | cons s m ih => rw [kvQ_cons]; simp only [keysOk, ih, Qst.d, ko89, Bool.and_self]
@[go_sem] theorem mapTo_0 {l : List Sgd} : mapTo l 0 = [] := rfl
attribute [go_sem] kvQ_nil
theorem kvQ_step {l : List Sgd} {k : Nat} : kvSet (kvQ (mapTo l k)) (.agg [.v (.string (bs l[k]!.q.name)), .i l[k]!.q.ty]) (.agg [.v (.string (bs l[k]!.set.name)), .i l[k]!.set.ty, .i l[k]!.set.life, .list false (l[k]!.set.data.map Dat.d), .list false (l[k]!.sigs.map RSig.d)]) = kvQ (mapTo l (k + 1)) := kvSet_Q
theorem bo64 : hasBody Tryz.prog 64 = true := by kernel_rfl
theorem dbyplace_ct (l : List Sgd) (hl : l.length ≤ 1000000) : PureCt Tryz.prog 64 [.list false (l.map Sgd.d)] (.fmap (kvP (mapP l))) := by
  refine pure_of_dw Tryz.func64 rfl bo64 (by simp [go_sem, D.nr, nrs, nrr]) (by simp [Tryz.f64]) ?_
  unfold Tryz.f64
  simp only [init_eq]
  have ff := True.intro
  refine stp In ?_
  refine stp In ?_
  refine dw_seq ?_
  refine stp In ?_
  refine dw_block ?_
  refine lp (α := (Nat) × Nat) [3, 9, 10] (fun ⟨k, nx⟩ => (k ≤ l.length) ∧ (3 < nx) ∧ True) (fun ⟨k, nx⟩ => l.length - k) (fun ⟨k, nx⟩ => [(11, .i k)]) (fun ⟨k, nx⟩ => [(3, ⟨101, mapRows (kvQ (mapTo l k))⟩)]) (fun ⟨k, nx⟩ => nx) (0, _) (hA := ⟨iv, iv, trivial⟩) (round := ?_)
  rintro ⟨k, nx⟩ ⟨hk, hx, -⟩
  show DW _ _ _ _ { n := _, t := tab _, h := _, nx := _, e := _ }
  simp only [List.cons_append, List.nil_append]
  have ff := And.intro @hx ff
  refine stp In ?_
  refine dw_seq ?_
  refine cd (fun c1 => ?_) (fun c1 => ?_) (hp := rfl)
  · skip
    have hk2 : k < l.length := by simpa using c1
    have ff := And.intro (getD_sgd hk2) (And.intro (kvQ_step (l := l) (k := k)) ff)
    refine dw_skip ?_
    show DW _ _ _ _ _
    refine dw_seq ?_
    refine dw_block ?_
    refine stp In ?_
    refine rgn In ?_ (hok := by (try simp only [go_sem, ff]); all_goals (first | done | ((repeat' (with_reducible apply And.intro)) <;> first | exact dplace_ct l[k]! | (intros; exact dplace_ct l[k]!) | omega | skip)))
    show DW _ _ _ _ _
    refine rgn In ?_
    show ∃ _, _
    exact rnd (k + 1, _) (h1 := ⟨iv, iv, trivial⟩)
  · skip
    refine dw_exit ?_
    show DW _ _ _ _ _
    have e9 : k = l.length := by have h9 : ¬ (k:Int) < l.length := (by simpa using c1); omega
    subst e9
    refine dw_freezem 3 3 ev ev rfl nrs_kvQ ?_
    refine stp In ?_
    refine dw_ret ?_
    exact fin 1 (hr := by (try simp only [go_sem, ff]); all_goals (show (D.fmap (kvQ (mapF l))) = _; rw [kvQ_mapF]))

end Go.Proofs.YtipkfnkmdeopeaaGreatDoor
namespace Go.Proofs.YtipkfnkmdeopeaaGreatDoor
open Go.DL Go.Str Go.Rec Go.Cmp Go.Zon
set_option maxRecDepth 10000
set_option linter.unusedSimpArgs false
set_option linter.unusedVariables false
@[go_sem] theorem keysOk_P {m : PM} : keysOk Tryz.prog 89 (kvP m) = true := by
  induction m with
  | nil => rfl
  | cons p m ih => rw [kvP_cons]; simp only [keysOk, ih, Qst.d, ko89, Bool.and_self]
theorem bo104 : hasBody Tryz.prog 104 = true := by kernel_rfl
theorem eqdat_ct (a : List Dat) (b : List Dat) (hl : a.length ≤ 1000000) : PureCt Tryz.prog 104 [.list false (a.map Dat.d), .list false (b.map Dat.d)] (.b (eqDat a b)) := by
  refine pure_of_dw Tryz.func104 rfl bo104 (by simp [go_sem, D.nr, nrs, nrr]) (by simp [Tryz.f104]) ?_
  unfold Tryz.f104
  simp only [init_eq]
  have ff := True.intro
  refine stp In ?_
  refine dw_seq ?_
  refine stp In ?_
  refine cd (fun c1 => ?_) (fun c1 => ?_)
  · skip
    refine stp In ?_
    refine dw_ret ?_
    exact fin 0 (hr := by (try simp only [go_sem, ff]); all_goals (rw [show eqDat a b = false from decide_eq_false (eq_len (by omega))]))
  · skip
    have hab : a.length = b.length := by omega
    refine dw_skip ?_
    show DW _ _ _ _ _
    refine dw_seq ?_
    refine stp In ?_
    refine dw_block ?_
    refine lp (α := (Nat) × Nat) [0, 1, 12] (fun ⟨k, nx⟩ => (k ≤ a.length) ∧ (∀ i, i < k → a[i]! = b[i]!) ∧ True) (fun ⟨k, nx⟩ => a.length - k) (fun ⟨k, nx⟩ => [(13, .i k)]) (fun ⟨k, nx⟩ => []) (fun ⟨k, nx⟩ => nx) (0, _) (hA := ⟨iv, (by first | (intro i hi; omega) | (dsimp only; intro i hi; omega)), trivial⟩) (round := ?_)
    rintro ⟨k, nx⟩ ⟨hk, hv, -⟩
    show DW _ _ _ _ { n := _, t := tab _, h := _, nx := _, e := _ }
    simp only [List.cons_append, List.nil_append]
    refine stp In ?_
    refine dw_seq ?_
    refine cd (fun c2 => ?_) (fun c2 => ?_) (hp := rfl)
    · skip
      have hk2 : k < a.length := by simpa using c2
      have hk3 : k < b.length := by omega
      have ff := And.intro (getD_dat hk2) (And.intro (getD_dat hk3) ff)
      refine dw_skip ?_
      show DW _ _ _ _ _
      refine dw_seq ?_
      refine dw_block ?_
      refine stp In ?_
      refine stp In ?_
      refine cd (fun c3 => ?_) (fun c3 => ?_)
      · skip
        refine stp In ?_
        refine dw_ret ?_
        exact fin 0 (hr := by (try simp only [go_sem, ff]); all_goals (rw [show eqDat a b = false from decide_eq_false fun e => by subst e; simp at c3]))
      · skip
        refine dw_skip ?_
        show DW _ _ _ _ _
        refine rgn In ?_
        show ∃ _, _
        exact rnd (k + 1, _) (h1 := ⟨iv, (by (try dsimp only); intro i hi; by_cases e : i = k; subst e; exact dat_eqX c3; exact hv i (by omega)), trivial⟩)
    · skip
      refine dw_exit ?_
      show DW _ _ _ _ _
      refine stp In ?_
      refine dw_ret ?_
      exact fin 0 (hr := by (try simp only [go_sem, ff]); all_goals (rw [show eqDat a b = true from decide_eq_true (list_ext! hab fun i hi => hv i (by omega))]))
theorem bo105 : hasBody Tryz.prog 105 = true := by kernel_rfl
theorem eqsig_ct (a : List RSig) (b : List RSig) (hl : a.length ≤ 1000000) : PureCt Tryz.prog 105 [.list false (a.map RSig.d), .list false (b.map RSig.d)] (.b (eqSig a b)) := by
  refine pure_of_dw Tryz.func105 rfl bo105 (by simp [go_sem, D.nr, nrs, nrr]) (by simp [Tryz.f105]) ?_
  unfold Tryz.f105
  simp only [init_eq]
  have ff := True.intro
  refine stp In ?_
  refine dw_seq ?_
  refine stp In ?_
  refine cd (fun c1 => ?_) (fun c1 => ?_)
  · skip
    refine stp In ?_
    refine dw_ret ?_
    exact fin 0 (hr := by (try simp only [go_sem, ff]); all_goals (rw [show eqSig a b = false from decide_eq_false (eq_len (by omega))]))
  · skip
    have hab : a.length = b.length := by omega
    refine dw_skip ?_
    show DW _ _ _ _ _
    refine dw_seq ?_
    refine stp In ?_
    refine dw_block ?_
    refine lp (α := (Nat) × Nat) [0, 1, 12] (fun ⟨k, nx⟩ => (k ≤ a.length) ∧ (∀ i, i < k → a[i]! = b[i]!) ∧ True) (fun ⟨k, nx⟩ => a.length - k) (fun ⟨k, nx⟩ => [(13, .i k)]) (fun ⟨k, nx⟩ => []) (fun ⟨k, nx⟩ => nx) (0, _) (hA := ⟨iv, (by first | (intro i hi; omega) | (dsimp only; intro i hi; omega)), trivial⟩) (round := ?_)
    rintro ⟨k, nx⟩ ⟨hk, hv, -⟩
    show DW _ _ _ _ { n := _, t := tab _, h := _, nx := _, e := _ }
    simp only [List.cons_append, List.nil_append]
    refine stp In ?_
    refine dw_seq ?_
    refine cd (fun c2 => ?_) (fun c2 => ?_) (hp := rfl)
    · skip
      have hk2 : k < a.length := by simpa using c2
      have hk3 : k < b.length := by omega
      have ff := And.intro (getD_sig hk2) (And.intro (getD_sig hk3) ff)
      refine dw_skip ?_
      show DW _ _ _ _ _
      refine dw_seq ?_
      refine dw_block ?_
      refine stp In ?_
      refine stp In ?_
      refine cd (fun c3 => ?_) (fun c3 => ?_)
      · skip
        refine stp In ?_
        refine dw_ret ?_
        exact fin 0 (hr := by (try simp only [go_sem, ff]); all_goals (rw [show eqSig a b = false from decide_eq_false fun e => by subst e; simp at c3]))
      · skip
        refine dw_skip ?_
        show DW _ _ _ _ _
        refine rgn In ?_
        show ∃ _, _
        exact rnd (k + 1, _) (h1 := ⟨iv, (by (try dsimp only); intro i hi; by_cases e : i = k; subst e; exact sig_eqF c3; exact hv i (by omega)), trivial⟩)
    · skip
      refine dw_exit ?_
      show DW _ _ _ _ _
      refine stp In ?_
      refine dw_ret ?_
      exact fin 0 (hr := by (try simp only [go_sem, ff]); all_goals (rw [show eqSig a b = true from decide_eq_true (list_ext! hab fun i hi => hv i (by omega))]))
theorem bo71 : hasBody Tryz.prog 71 = true := by kernel_rfl
theorem dsame_ct (a : Sgd) (b : Sgd) (ha : fit1 a) : PureCt Tryz.prog 71 [.agg a.d, .agg b.d] (.b (sameX a b)) := by
  refine pure_of_dw Tryz.func71 rfl bo71 (by simp [go_sem, D.nr, nrs, nrr]) (by simp [Tryz.f71]) ?_
  unfold Tryz.f71
  simp only [init_eq]
  have ff := True.intro
  refine stp In ?_
  refine stp In ?_ (hok := by (try simp only [go_sem, ff]); all_goals (first | done | ((repeat' (with_reducible apply And.intro)) <;> first | exact (fun _ => eqdat_ct _ _ (Nat.le_trans ha.1 (by omega))) | (intros; exact (fun _ => eqdat_ct _ _ (Nat.le_trans ha.1 (by omega)))) | exact (fun _ => eqsig_ct _ _ (Nat.le_trans ha.2 (by omega))) | (intros; exact (fun _ => eqsig_ct _ _ (Nat.le_trans ha.2 (by omega)))) | skip)))
  refine dw_ret ?_
  exact fin 0 (hr := by (try simp only [go_sem, ff]); all_goals (rw [sameX_eq, Bool.and_assoc]))
theorem bo66 : hasBody Tryz.prog 66 = true := by kernel_rfl
theorem ddiff1_ct (s : Sgd) (m : PM) : PureCt Tryz.prog 66 [.agg s.d, .eptr [.fmap (kvP m)]] (.tuple [.agg s.q.d, .b (newB m s.q)]) := by
  refine pure_of_dw Tryz.func66 rfl bo66 (by simp [go_sem, D.nr, nrs, nrr]) (by simp [Tryz.f66]) ?_
  unfold Tryz.f66
  simp only [init_eq]
  have ff := True.intro
  refine stp In ?_
  refine stp In ?_ (hok := by (try simp only [go_sem, ff]); all_goals (first | done | ((repeat' (with_reducible apply And.intro)) <;> first | exact dplace_ct s | (intros; exact dplace_ct s) | skip)))
  rcases hp : pget m s.q with _ | x
  · skip
    have ff := And.intro @hp ff
    refine stp In ?_
    refine stp In ?_
    refine dw_ret ?_
    exact fin 3 (hr := by (try simp only [go_sem, ff]); all_goals (simp [newB, hp]))
  · skip
    have ff := And.intro @hp ff
    refine stp In ?_
    refine stp In ?_
    refine dw_ret ?_
    exact fin 3 (hr := by (try simp only [go_sem, ff]); all_goals (simp [newB, hp]))
theorem bo79 : hasBody Tryz.prog 79 = true := by kernel_rfl
theorem dapp1_ct (s : Sgd) (m : PM) : PureCt Tryz.prog 79 [.agg s.d, .eptr [.fmap (kvP m)]] (.tuple [.agg s.d, .b (newB m s.q)]) := by
  refine pure_of_dw Tryz.func79 rfl bo79 (by simp [go_sem, D.nr, nrs, nrr]) (by simp [Tryz.f79]) ?_
  unfold Tryz.f79
  simp only [init_eq]
  have ff := True.intro
  refine stp In ?_
  rcases hp : pget m s.q with _ | x
  · skip
    have ff := And.intro @hp ff
    refine stp InF ?_ (hok := by (try simp only [go_sem, ff]); all_goals (first | done | ((repeat' (with_reducible apply And.intro)) <;> first | exact dplace_ct s | (intros; exact dplace_ct s) | skip)))
    refine stp In ?_
    refine dw_ret ?_
    exact fin 3 (hr := by (try simp only [go_sem, ff]); all_goals (simp [newB, hp]))
  · skip
    have ff := And.intro @hp ff
    refine stp InF ?_ (hok := by (try simp only [go_sem, ff]); all_goals (first | done | ((repeat' (with_reducible apply And.intro)) <;> first | exact dplace_ct s | (intros; exact dplace_ct s) | skip)))
    refine stp In ?_
    refine dw_ret ?_
    exact fin 3 (hr := by (try simp only [go_sem, ff]); all_goals (simp [newB, hp]))
theorem bo137 : hasBody Tryz.prog 137 = true := by kernel_rfl
theorem djoin1_ct (s : Sgd) (m : PM) : PureCt Tryz.prog 137 [.agg s.d, .eptr [.fmap (kvP m)]] (.tuple [.agg s.d, .b (newB m s.q)]) := by
  refine pure_of_dw Tryz.func137 rfl bo137 (by simp [go_sem, D.nr, nrs, nrr]) (by simp [Tryz.f137]) ?_
  unfold Tryz.f137
  simp only [init_eq]
  have ff := True.intro
  refine stp In ?_
  rcases hp : pget m s.q with _ | x
  · skip
    have ff := And.intro @hp ff
    refine stp InF ?_ (hok := by (try simp only [go_sem, ff]); all_goals (first | done | ((repeat' (with_reducible apply And.intro)) <;> first | exact dplace_ct s | (intros; exact dplace_ct s) | skip)))
    refine stp In ?_
    refine dw_ret ?_
    exact fin 3 (hr := by (try simp only [go_sem, ff]); all_goals (simp [newB, hp]))
  · skip
    have ff := And.intro @hp ff
    refine stp InF ?_ (hok := by (try simp only [go_sem, ff]); all_goals (first | done | ((repeat' (with_reducible apply And.intro)) <;> first | exact dplace_ct s | (intros; exact dplace_ct s) | skip)))
    refine stp In ?_
    refine dw_ret ?_
    exact fin 3 (hr := by (try simp only [go_sem, ff]); all_goals (simp [newB, hp]))
theorem bo69 : hasBody Tryz.prog 69 = true := by kernel_rfl
theorem ddiff2_ct (s : Sgd) (m : PM) (hs : fit1 s) (hm : ∀ x, pget m s.q = some x → fit1 x) : PureCt Tryz.prog 69 [.agg s.d, .eptr [.fmap (kvP m)]] (.tuple [.agg s.d, .b (diffS (pget m s.q) s)]) := by
  refine pure_of_dw Tryz.func69 rfl bo69 (by simp [go_sem, D.nr, nrs, nrr]) (by simp [Tryz.f69]) ?_
  unfold Tryz.f69
  simp only [init_eq]
  have ff := True.intro
  refine stp In ?_
  rcases hp : pget m s.q with _ | x
  · skip
    have ff := And.intro @hp ff
    refine stp InF ?_ (hok := by (try simp only [go_sem, ff]); all_goals (first | done | ((repeat' (with_reducible apply And.intro)) <;> first | exact dplace_ct s | (intros; exact dplace_ct s) | skip)))
    refine stp In ?_ (hok := by (try simp only [go_sem, ff]); all_goals (first | done | ((repeat' (with_reducible apply And.intro)) <;> first | exact dclone_ct s hs | (intros; exact dclone_ct s hs) | exact dsame_ct x s (hm x hp) | (intros; exact dsame_ct x s (hm x hp)) | exact (fun _ => dsame_ct x s (hm x hp)) | (intros; exact (fun _ => dsame_ct x s (hm x hp))) | skip)))
    refine dw_ret ?_
    exact fin 3 (hr := by (try simp only [go_sem, ff]); all_goals (simp [diffS, hp]))
  · skip
    have ff := And.intro @hp ff
    refine stp InF ?_ (hok := by (try simp only [go_sem, ff]); all_goals (first | done | ((repeat' (with_reducible apply And.intro)) <;> first | exact dplace_ct s | (intros; exact dplace_ct s) | skip)))
    refine stp In ?_ (hok := by (try simp only [go_sem, ff]); all_goals (first | done | ((repeat' (with_reducible apply And.intro)) <;> first | exact dclone_ct s hs | (intros; exact dclone_ct s hs) | exact dsame_ct x s (hm x hp) | (intros; exact dsame_ct x s (hm x hp)) | exact (fun _ => dsame_ct x s (hm x hp)) | (intros; exact (fun _ => dsame_ct x s (hm x hp))) | skip)))
    refine dw_ret ?_
    exact fin 3 (hr := by (try simp only [go_sem, ff]); all_goals (simp [diffS, hp]))
theorem bo82 : hasBody Tryz.prog 82 = true := by kernel_rfl
theorem dapp2_ct (s : Sgd) (hs : fit1 s) : PureCt Tryz.prog 82 [.agg s.d] (.tuple [.agg s.d, .b true]) := by
  refine pure_of_dw Tryz.func82 rfl bo82 (by simp [go_sem, D.nr, nrs, nrr]) (by simp [Tryz.f82]) ?_
  unfold Tryz.f82
  simp only [init_eq]
  have ff := True.intro
  refine stp In ?_
  refine stp In ?_ (hok := by (try simp only [go_sem, ff]); all_goals (exact dclone_ct s hs))
  refine dw_ret ?_
  exact fin 2 (hr := by (try simp only [go_sem, ff]); all_goals (rfl))
theorem bo145 : hasBody Tryz.prog 145 = true := by kernel_rfl
theorem djoin4_ct (s : Sgd) (hs : fit1 s) : PureCt Tryz.prog 145 [.agg s.d] (.tuple [.agg s.d, .b true]) := by
  refine pure_of_dw Tryz.func145 rfl bo145 (by simp [go_sem, D.nr, nrs, nrr]) (by simp [Tryz.f145]) ?_
  unfold Tryz.f145
  simp only [init_eq]
  have ff := True.intro
  refine stp In ?_
  refine stp In ?_ (hok := by (try simp only [go_sem, ff]); all_goals (exact dclone_ct s hs))
  refine dw_ret ?_
  exact fin 2 (hr := by (try simp only [go_sem, ff]); all_goals (rfl))
theorem bo138 : hasBody Tryz.prog 138 = true := by kernel_rfl
theorem djoin2_ct (q : Qst) : PureCt Tryz.prog 138 [.agg q.d] (.agg q.d) := by
  refine pure_of_dw Tryz.func138 rfl bo138 (by simp [go_sem, D.nr, nrs, nrr]) (by simp [Tryz.f138]) ?_
  unfold Tryz.f138
  simp only [init_eq]
  have ff := True.intro
  refine stp In ?_
  refine stp In ?_
  refine dw_ret ?_
  exact fin 1 (hr := by (try simp only [go_sem, ff]); all_goals (rfl))
theorem bo144 : hasBody Tryz.prog 144 = true := by kernel_rfl
theorem djoin3_ct (q : Qst) (m : PM) : PureCt Tryz.prog 144 [.agg q.d, .eptr [.fmap (kvP m)]] (.tuple [.agg q.d, .b (newB m q)]) := by
  refine pure_of_dw Tryz.func144 rfl bo144 (by simp [go_sem, D.nr, nrs, nrr]) (by simp [Tryz.f144]) ?_
  unfold Tryz.f144
  simp only [init_eq]
  have ff := True.intro
  refine stp In ?_
  rcases hp : pget m q with _ | x
  · skip
    have ff := And.intro @hp ff
    refine stp In ?_
    refine stp In ?_
    refine dw_ret ?_
    exact fin 3 (hr := by (try simp only [go_sem, ff]); all_goals (simp [newB, hp]))
  · skip
    have ff := And.intro @hp ff
    refine stp In ?_
    refine stp In ?_
    refine dw_ret ?_
    exact fin 3 (hr := by (try simp only [go_sem, ff]); all_goals (simp [newB, hp]))

end Go.Proofs.YtipkfnkmdeopeaaGreatDoor
namespace Go.Proofs.YtipkfnkmdeopeaaGreatDoor
open Go.DL Go.Str Go.Rec Go.Cmp Go.Zon
set_option maxRecDepth 10000
set_option linter.unusedSimpArgs false
set_option linter.unusedVariables false
theorem bo81 : hasBody Tryz.prog 81 = true := by kernel_rfl
theorem dcomp_ct  : PureCt Tryz.prog 81 [.fn (.func 67) [] []] (.fn (.func 116) [] [.eptr [.fn (.func 67) [] []]]) := by
  refine pure_of_dw Tryz.func81 rfl bo81 (by simp [go_sem, D.nr, nrs, nrr]) (by simp [Tryz.f81]) ?_
  unfold Tryz.f81
  simp only [init_eq]
  have ff := True.intro
  refine stp In ?_
  refine stp In ?_
  refine dw_ret ?_
  exact fin 2 (hr := by (try simp only [go_sem, ff]); all_goals (rfl)) (hk := by (try simp only [go_sem, ff]); all_goals (first | done | rfl | (simp; done)))
theorem bo141 : hasBody Tryz.prog 141 = true := by kernel_rfl
theorem dcompq_ct  : PureCt Tryz.prog 141 [.fn (.func 138) [] []] (.fn (.func 169) [] [.eptr [.fn (.func 138) [] []]]) := by
  refine pure_of_dw Tryz.func141 rfl bo141 (by simp [go_sem, D.nr, nrs, nrr]) (by simp [Tryz.f141]) ?_
  unfold Tryz.f141
  simp only [init_eq]
  have ff := True.intro
  refine stp In ?_
  refine stp In ?_
  refine dw_ret ?_
  exact fin 2 (hr := by (try simp only [go_sem, ff]); all_goals (rfl)) (hk := by (try simp only [go_sem, ff]); all_goals (first | done | rfl | (simp; done)))
theorem bo116 : hasBody Tryz.prog 116 = true := by kernel_rfl
theorem dcmp1_ct (a : Sgd) (b : Sgd) : PureCt Tryz.prog 116 [.agg a.d, .agg b.d, .eptr [.fn (.func 67) [] []]] (.i (qC a.q b.q)) := by
  refine pure_of_dw Tryz.func116 rfl bo116 (by simp [go_sem, D.nr, nrs, nrr]) (by simp [Tryz.f116]) ?_
  unfold Tryz.f116
  simp only [init_eq]
  have ff := True.intro
  refine stp In ?_
  refine stp In ?_ (hok := by (try simp only [go_sem, ff]); all_goals (first | done | ((repeat' (with_reducible apply And.intro)) <;> first | exact dplace_ct a | (intros; exact dplace_ct a) | exact dplace_ct b | (intros; exact dplace_ct b) | exact dcmppl_ct a.q b.q | (intros; exact dcmppl_ct a.q b.q) | skip)))
  refine dw_ret ?_
  exact fin 0 (hr := by (try simp only [go_sem, ff]); all_goals (rfl))
theorem bo169 : hasBody Tryz.prog 169 = true := by kernel_rfl
theorem dcmp1q_ct (a : Qst) (b : Qst) : PureCt Tryz.prog 169 [.agg a.d, .agg b.d, .eptr [.fn (.func 138) [] []]] (.i (qC a b)) := by
  refine pure_of_dw Tryz.func169 rfl bo169 (by simp [go_sem, D.nr, nrs, nrr]) (by simp [Tryz.f169]) ?_
  unfold Tryz.f169
  simp only [init_eq]
  have ff := True.intro
  refine stp In ?_
  refine stp In ?_ (hok := by (try simp only [go_sem, ff]); all_goals (first | done | ((repeat' (with_reducible apply And.intro)) <;> first | exact djoin2_ct a | (intros; exact djoin2_ct a) | exact djoin2_ct b | (intros; exact djoin2_ct b) | exact dcmppl_ct a b | (intros; exact dcmppl_ct a b) | skip)))
  refine dw_ret ?_
  exact fin 0 (hr := by (try simp only [go_sem, ff]); all_goals (rfl))
theorem bo65 : hasBody Tryz.prog 65 = true := by kernel_rfl
theorem dcollsq_ct (l : List Sgd) (m : PM) (hl : fitL l) : PureCt Tryz.prog 65 [.list false (l.map Sgd.d), .fn (.func 66) [] [.eptr [.fmap (kvP m)]]] (.list false ((l.filterMap (d1S m)).map Qst.d)) := by
  refine pure_of_dw Tryz.func65 rfl bo65 (by simp [go_sem, D.nr, nrs, nrr]) (by simp [Tryz.f65]) ?_
  unfold Tryz.f65
  simp only [init_eq]
  have ff := True.intro
  have hl1 := hl.1
  refine stp In ?_
  refine stp In ?_
  refine dw_seq ?_
  refine dw_own 5 89 (by simp only [go_sem, ff]) (by simp only [go_sem, ff]) ?_
  refine stp In ?_
  refine dw_block ?_
  refine lp (α := (Nat) × (Nat) × Nat) [1, 10, 11] (fun ⟨k, r, nx⟩ => (k ≤ l.length) ∧ (r < nx) ∧ True) (fun ⟨k, r, nx⟩ => l.length - k) (fun ⟨k, r, nx⟩ => [(5, .mrow r 0 ((l.take k).filterMap (d1S m)).length), (12, .i k)]) (fun ⟨k, r, nx⟩ => [(r, ⟨89, ((l.take k).filterMap (d1S m)).map Qst.d⟩)]) (fun ⟨k, r, nx⟩ => nx) (0, 2, _) (hA := ⟨iv, iv, trivial⟩) (round := ?_)
  rintro ⟨k, r, nx⟩ ⟨hk, hr, -⟩
  show DW _ _ _ _ { n := _, t := tab _, h := _, nx := _, e := _ }
  simp only [List.cons_append, List.nil_append]
  have hfl := fm_len (d1S m) l k
  have ff := And.intro @hr ff
  refine stp In ?_
  refine dw_seq ?_
  refine cd (fun c1 => ?_) (fun c1 => ?_) (hp := rfl)
  · skip
    have hk2 : k < l.length := by simpa using c1
    have ff := And.intro (getD_sgd hk2) ff
    refine dw_skip ?_
    show DW _ _ _ _ _
    refine dw_seq ?_
    refine dw_block ?_
    refine stp In ?_
    refine stp In ?_ (hok := by (try simp only [go_sem, ff]); all_goals (first | done | ((repeat' (with_reducible apply And.intro)) <;> first | exact ddiff1_ct l[k]! m | (intros; exact ddiff1_ct l[k]! m) | skip)))
    refine stp In ?_
    refine cd (fun c2 => ?_) (fun c2 => ?_)
    · skip
      refine rgn In ?_
      show DW _ _ _ _ _
      refine rgn In ?_
      show ∃ _, _
      have hst := fm_yes (f := d1S m) hk2 (by simp only [d1S]; rw [if_pos (by first | exact c2 | simpa using c2)])
      have hsd : ((l.take (k + 1)).filterMap (d1S m)).map Qst.d = ((l.take k).filterMap (d1S m)).map Qst.d ++ [[.v (.string (bs l[k]!.q.name)), .i l[k]!.q.ty]] := by rw [hst, List.map_append]; rfl
      have hsl : ((l.take (k + 1)).filterMap (d1S m)).length = ((l.take k).filterMap (d1S m)).length + 1 := by rw [hst, List.length_append]; rfl
      have ff := And.intro hsd (And.intro hsl ff)
      exact rnd (k + 1, (nx + 18), _) (h1 := ⟨iv, iv, trivial⟩)
    · skip
      refine dw_skip ?_
      show DW _ _ _ _ _
      refine rgn In ?_
      show ∃ _, _
      have ff := And.intro (fm_no (f := d1S m) hk2 (by simp only [d1S]; rw [if_neg (by rw [c2]; exact Bool.false_ne_true)])) ff
      exact rnd (k + 1, r, _) (h1 := ⟨iv, iv, trivial⟩)
  · skip
    refine dw_exit ?_
    show DW _ _ _ _ _
    have e9 : k = l.length := by have h9 : ¬ (k:Int) < l.length := (by simpa using c1); omega
    subst e9
    rw [List.take_length] at *
    refine stp In ?_
    refine dw_ret ?_
    exact fin 1 (hr := by (try simp only [go_sem, ff]); all_goals (rw [List.take_length]))
theorem bo142 : hasBody Tryz.prog 142 = true := by kernel_rfl
theorem dcollqq_ct (l : List Qst) (m : PM) (hl : l.length ≤ 1000000) : PureCt Tryz.prog 142 [.list false (l.map Qst.d), .fn (.func 144) [] [.eptr [.fmap (kvP m)]]] (.list false ((l.filterMap (j3S m)).map Qst.d)) := by
  refine pure_of_dw Tryz.func142 rfl bo142 (by simp [go_sem, D.nr, nrs, nrr]) (by simp [Tryz.f142]) ?_
  unfold Tryz.f142
  simp only [init_eq]
  have ff := True.intro
  refine stp In ?_
  refine stp In ?_
  refine dw_seq ?_
  refine dw_own 5 89 (by simp only [go_sem, ff]) (by simp only [go_sem, ff]) ?_
  refine stp In ?_
  refine dw_block ?_
  refine lp (α := (Nat) × (Nat) × Nat) [1, 10, 11] (fun ⟨k, r, nx⟩ => (k ≤ l.length) ∧ (r < nx) ∧ True) (fun ⟨k, r, nx⟩ => l.length - k) (fun ⟨k, r, nx⟩ => [(5, .mrow r 0 ((l.take k).filterMap (j3S m)).length), (12, .i k)]) (fun ⟨k, r, nx⟩ => [(r, ⟨89, ((l.take k).filterMap (j3S m)).map Qst.d⟩)]) (fun ⟨k, r, nx⟩ => nx) (0, 2, _) (hA := ⟨iv, iv, trivial⟩) (round := ?_)
  rintro ⟨k, r, nx⟩ ⟨hk, hr, -⟩
  show DW _ _ _ _ { n := _, t := tab _, h := _, nx := _, e := _ }
  simp only [List.cons_append, List.nil_append]
  have hfl := fm_len (j3S m) l k
  have ff := And.intro @hr ff
  refine stp In ?_
  refine dw_seq ?_
  refine cd (fun c1 => ?_) (fun c1 => ?_) (hp := rfl)
  · skip
    have hk2 : k < l.length := by simpa using c1
    have ff := And.intro (getD_qst hk2) ff
    refine dw_skip ?_
    show DW _ _ _ _ _
    refine dw_seq ?_
    refine dw_block ?_
    refine stp In ?_
    refine stp In ?_ (hok := by (try simp only [go_sem, ff]); all_goals (first | done | ((repeat' (with_reducible apply And.intro)) <;> first | exact djoin3_ct l[k]! m | (intros; exact djoin3_ct l[k]! m) | skip)))
    refine stp In ?_
    refine cd (fun c2 => ?_) (fun c2 => ?_)
    · skip
      refine rgn In ?_
      show DW _ _ _ _ _
      refine rgn In ?_
      show ∃ _, _
      have hst := fm_yes (f := j3S m) hk2 (by simp only [j3S]; rw [if_pos (by first | exact c2 | simpa using c2)])
      have hsd : ((l.take (k + 1)).filterMap (j3S m)).map Qst.d = ((l.take k).filterMap (j3S m)).map Qst.d ++ [[.v (.string (bs l[k]!.name)), .i l[k]!.ty]] := by rw [hst, List.map_append]; rfl
      have hsl : ((l.take (k + 1)).filterMap (j3S m)).length = ((l.take k).filterMap (j3S m)).length + 1 := by rw [hst, List.length_append]; rfl
      have ff := And.intro hsd (And.intro hsl ff)
      exact rnd (k + 1, (nx + 18), _) (h1 := ⟨iv, iv, trivial⟩)
    · skip
      refine dw_skip ?_
      show DW _ _ _ _ _
      refine rgn In ?_
      show ∃ _, _
      have ff := And.intro (fm_no (f := j3S m) hk2 (by simp only [j3S]; rw [if_neg (by rw [c2]; exact Bool.false_ne_true)])) ff
      exact rnd (k + 1, r, _) (h1 := ⟨iv, iv, trivial⟩)
  · skip
    refine dw_exit ?_
    show DW _ _ _ _ _
    have e9 : k = l.length := by have h9 : ¬ (k:Int) < l.length := (by simpa using c1); omega
    subst e9
    rw [List.take_length] at *
    refine stp In ?_
    refine dw_ret ?_
    exact fin 1 (hr := by (try simp only [go_sem, ff]); all_goals (rw [List.take_length]))
theorem bo68 : hasBody Tryz.prog 68 = true := by kernel_rfl
theorem dcollssA2_ct (l : List Sgd)  (hl : fitL l) : PureCt Tryz.prog 68 [.list false (l.map Sgd.d), .fn (.func 82) [] []] (.list false ((l.filterMap (some)).map Sgd.d)) := by
  refine pure_of_dw Tryz.func68 rfl bo68 (by simp [go_sem, D.nr, nrs, nrr]) (by simp [Tryz.f68]) ?_
  unfold Tryz.f68
  simp only [init_eq]
  have ff := True.intro
  have hl1 := hl.1
  refine stp In ?_
  refine stp In ?_
  refine dw_seq ?_
  refine dw_own 5 86 (by simp only [go_sem, ff]) (by simp only [go_sem, ff]) ?_
  refine stp In ?_
  refine dw_block ?_
  refine lp (α := (Nat) × (Nat) × Nat) [1, 10, 11] (fun ⟨k, r, nx⟩ => (k ≤ l.length) ∧ (r < nx) ∧ True) (fun ⟨k, r, nx⟩ => l.length - k) (fun ⟨k, r, nx⟩ => [(5, .mrow r 0 ((l.take k).filterMap (some)).length), (12, .i k)]) (fun ⟨k, r, nx⟩ => [(r, ⟨86, ((l.take k).filterMap (some)).map Sgd.d⟩)]) (fun ⟨k, r, nx⟩ => nx) (0, 2, _) (hA := ⟨iv, iv, trivial⟩) (round := ?_)
  rintro ⟨k, r, nx⟩ ⟨hk, hr, -⟩
  show DW _ _ _ _ { n := _, t := tab _, h := _, nx := _, e := _ }
  simp only [List.cons_append, List.nil_append]
  have hfl := fm_len (some) l k
  have ff := And.intro @hr ff
  refine stp In ?_
  refine dw_seq ?_
  refine cd (fun c1 => ?_) (fun c1 => ?_) (hp := rfl)
  · skip
    have hk2 : k < l.length := by simpa using c1
    have ff := And.intro (getD_sgd hk2) ff
    refine dw_skip ?_
    show DW _ _ _ _ _
    refine dw_seq ?_
    refine dw_block ?_
    refine stp In ?_
    refine stp In ?_ (hok := by (try simp only [go_sem, ff]); all_goals (first | done | ((repeat' (with_reducible apply And.intro)) <;> first | exact dapp2_ct l[k]! (hl.2 k hk2) | (intros; exact dapp2_ct l[k]! (hl.2 k hk2)) | skip)))
    refine stp In ?_
    refine cd (fun c2 => ?_) (fun c2 => ?_)
    · skip
      refine rgn In ?_
      show DW _ _ _ _ _
      refine rgn In ?_
      show ∃ _, _
      have hst := fm_yes (f := some) hk2 (rfl)
      have hsd : ((l.take (k + 1)).filterMap (some)).map Sgd.d = ((l.take k).filterMap (some)).map Sgd.d ++ [[.v (.string (bs l[k]!.set.name)), .i l[k]!.set.ty, .i l[k]!.set.life, .list false (l[k]!.set.data.map Dat.d), .list false (l[k]!.sigs.map RSig.d)]] := by rw [hst, List.map_append]; rfl
      have hsl : ((l.take (k + 1)).filterMap (some)).length = ((l.take k).filterMap (some)).length + 1 := by rw [hst, List.length_append]; rfl
      have ff := And.intro hsd (And.intro hsl ff)
      exact rnd (k + 1, (nx + 18), _) (h1 := ⟨iv, iv, trivial⟩)
    · skip
      refine dw_skip ?_
      show DW _ _ _ _ _
      refine rgn In ?_
      show ∃ _, _
      have ff := And.intro (fm_no (f := some) hk2 (by cases c2)) ff
      exact rnd (k + 1, r, _) (h1 := ⟨iv, iv, trivial⟩)
  · skip
    refine dw_exit ?_
    show DW _ _ _ _ _
    have e9 : k = l.length := by have h9 : ¬ (k:Int) < l.length := (by simpa using c1); omega
    subst e9
    rw [List.take_length] at *
    refine stp In ?_
    refine dw_ret ?_
    exact fin 1 (hr := by (try simp only [go_sem, ff]); all_goals (rw [List.take_length]))
theorem dcollssJ4_ct (l : List Sgd)  (hl : fitL l) : PureCt Tryz.prog 68 [.list false (l.map Sgd.d), .fn (.func 145) [] []] (.list false ((l.filterMap (some)).map Sgd.d)) := by
  refine pure_of_dw Tryz.func68 rfl bo68 (by simp [go_sem, D.nr, nrs, nrr]) (by simp [Tryz.f68]) ?_
  unfold Tryz.f68
  simp only [init_eq]
  have ff := True.intro
  have hl1 := hl.1
  refine stp In ?_
  refine stp In ?_
  refine dw_seq ?_
  refine dw_own 5 86 (by simp only [go_sem, ff]) (by simp only [go_sem, ff]) ?_
  refine stp In ?_
  refine dw_block ?_
  refine lp (α := (Nat) × (Nat) × Nat) [1, 10, 11] (fun ⟨k, r, nx⟩ => (k ≤ l.length) ∧ (r < nx) ∧ True) (fun ⟨k, r, nx⟩ => l.length - k) (fun ⟨k, r, nx⟩ => [(5, .mrow r 0 ((l.take k).filterMap (some)).length), (12, .i k)]) (fun ⟨k, r, nx⟩ => [(r, ⟨86, ((l.take k).filterMap (some)).map Sgd.d⟩)]) (fun ⟨k, r, nx⟩ => nx) (0, 2, _) (hA := ⟨iv, iv, trivial⟩) (round := ?_)
  rintro ⟨k, r, nx⟩ ⟨hk, hr, -⟩
  show DW _ _ _ _ { n := _, t := tab _, h := _, nx := _, e := _ }
  simp only [List.cons_append, List.nil_append]
  have hfl := fm_len (some) l k
  have ff := And.intro @hr ff
  refine stp In ?_
  refine dw_seq ?_
  refine cd (fun c1 => ?_) (fun c1 => ?_) (hp := rfl)
  · skip
    have hk2 : k < l.length := by simpa using c1
    have ff := And.intro (getD_sgd hk2) ff
    refine dw_skip ?_
    show DW _ _ _ _ _
    refine dw_seq ?_
    refine dw_block ?_
    refine stp In ?_
    refine stp In ?_ (hok := by (try simp only [go_sem, ff]); all_goals (first | done | ((repeat' (with_reducible apply And.intro)) <;> first | exact djoin4_ct l[k]! (hl.2 k hk2) | (intros; exact djoin4_ct l[k]! (hl.2 k hk2)) | skip)))
    refine stp In ?_
    refine cd (fun c2 => ?_) (fun c2 => ?_)
    · skip
      refine rgn In ?_
      show DW _ _ _ _ _
      refine rgn In ?_
      show ∃ _, _
      have hst := fm_yes (f := some) hk2 (rfl)
      have hsd : ((l.take (k + 1)).filterMap (some)).map Sgd.d = ((l.take k).filterMap (some)).map Sgd.d ++ [[.v (.string (bs l[k]!.set.name)), .i l[k]!.set.ty, .i l[k]!.set.life, .list false (l[k]!.set.data.map Dat.d), .list false (l[k]!.sigs.map RSig.d)]] := by rw [hst, List.map_append]; rfl
      have hsl : ((l.take (k + 1)).filterMap (some)).length = ((l.take k).filterMap (some)).length + 1 := by rw [hst, List.length_append]; rfl
      have ff := And.intro hsd (And.intro hsl ff)
      exact rnd (k + 1, (nx + 18), _) (h1 := ⟨iv, iv, trivial⟩)
    · skip
      refine dw_skip ?_
      show DW _ _ _ _ _
      refine rgn In ?_
      show ∃ _, _
      have ff := And.intro (fm_no (f := some) hk2 (by cases c2)) ff
      exact rnd (k + 1, r, _) (h1 := ⟨iv, iv, trivial⟩)
  · skip
    refine dw_exit ?_
    show DW _ _ _ _ _
    have e9 : k = l.length := by have h9 : ¬ (k:Int) < l.length := (by simpa using c1); omega
    subst e9
    rw [List.take_length] at *
    refine stp In ?_
    refine dw_ret ?_
    exact fin 1 (hr := by (try simp only [go_sem, ff]); all_goals (rw [List.take_length]))
theorem dcollssD2_ct (l : List Sgd) (m : PM) (hl : fitL l) (hm : ∀ k, k < l.length → ∀ x, pget m l[k]!.q = some x → fit1 x) : PureCt Tryz.prog 68 [.list false (l.map Sgd.d), .fn (.func 69) [] [.eptr [.fmap (kvP m)]]] (.list false ((l.filterMap (d2S m)).map Sgd.d)) := by
  refine pure_of_dw Tryz.func68 rfl bo68 (by simp [go_sem, D.nr, nrs, nrr]) (by simp [Tryz.f68]) ?_
  unfold Tryz.f68
  simp only [init_eq]
  have ff := True.intro
  have hl1 := hl.1
  refine stp In ?_
  refine stp In ?_
  refine dw_seq ?_
  refine dw_own 5 86 (by simp only [go_sem, ff]) (by simp only [go_sem, ff]) ?_
  refine stp In ?_
  refine dw_block ?_
  refine lp (α := (Nat) × (Nat) × Nat) [1, 10, 11] (fun ⟨k, r, nx⟩ => (k ≤ l.length) ∧ (r < nx) ∧ True) (fun ⟨k, r, nx⟩ => l.length - k) (fun ⟨k, r, nx⟩ => [(5, .mrow r 0 ((l.take k).filterMap (d2S m)).length), (12, .i k)]) (fun ⟨k, r, nx⟩ => [(r, ⟨86, ((l.take k).filterMap (d2S m)).map Sgd.d⟩)]) (fun ⟨k, r, nx⟩ => nx) (0, 2, _) (hA := ⟨iv, iv, trivial⟩) (round := ?_)
  rintro ⟨k, r, nx⟩ ⟨hk, hr, -⟩
  show DW _ _ _ _ { n := _, t := tab _, h := _, nx := _, e := _ }
  simp only [List.cons_append, List.nil_append]
  have hfl := fm_len (d2S m) l k
  have ff := And.intro @hr ff
  refine stp In ?_
  refine dw_seq ?_
  refine cd (fun c1 => ?_) (fun c1 => ?_) (hp := rfl)
  · skip
    have hk2 : k < l.length := by simpa using c1
    have ff := And.intro (getD_sgd hk2) ff
    refine dw_skip ?_
    show DW _ _ _ _ _
    refine dw_seq ?_
    refine dw_block ?_
    refine stp In ?_
    refine stp In ?_ (hok := by (try simp only [go_sem, ff]); all_goals (first | done | ((repeat' (with_reducible apply And.intro)) <;> first | exact ddiff2_ct l[k]! m (hl.2 k hk2) (hm k hk2) | (intros; exact ddiff2_ct l[k]! m (hl.2 k hk2) (hm k hk2)) | skip)))
    refine stp In ?_
    refine cd (fun c2 => ?_) (fun c2 => ?_)
    · skip
      refine rgn In ?_
      show DW _ _ _ _ _
      refine rgn In ?_
      show ∃ _, _
      have hst := fm_yes (f := d2S m) hk2 (by simp only [d2S]; rw [if_pos (by first | exact c2 | simpa using c2)])
      have hsd : ((l.take (k + 1)).filterMap (d2S m)).map Sgd.d = ((l.take k).filterMap (d2S m)).map Sgd.d ++ [[.v (.string (bs l[k]!.set.name)), .i l[k]!.set.ty, .i l[k]!.set.life, .list false (l[k]!.set.data.map Dat.d), .list false (l[k]!.sigs.map RSig.d)]] := by rw [hst, List.map_append]; rfl
      have hsl : ((l.take (k + 1)).filterMap (d2S m)).length = ((l.take k).filterMap (d2S m)).length + 1 := by rw [hst, List.length_append]; rfl
      have ff := And.intro hsd (And.intro hsl ff)
      exact rnd (k + 1, (nx + 18), _) (h1 := ⟨iv, iv, trivial⟩)
    · skip
      refine dw_skip ?_
      show DW _ _ _ _ _
      refine rgn In ?_
      show ∃ _, _
      have ff := And.intro (fm_no (f := d2S m) hk2 (by simp only [d2S]; rw [if_neg (by rw [c2]; exact Bool.false_ne_true)])) ff
      exact rnd (k + 1, r, _) (h1 := ⟨iv, iv, trivial⟩)
  · skip
    refine dw_exit ?_
    show DW _ _ _ _ _
    have e9 : k = l.length := by have h9 : ¬ (k:Int) < l.length := (by simpa using c1); omega
    subst e9
    rw [List.take_length] at *
    refine stp In ?_
    refine dw_ret ?_
    exact fin 1 (hr := by (try simp only [go_sem, ff]); all_goals (rw [List.take_length]))
theorem dcollssA1_ct (l : List Sgd) (m : PM) (hl : fitL l) (h : H) (n : Nat) : RCt Tryz.prog 68 [.list false (l.map Sgd.d), .fn (.func 79) [] [.eptr [.fmap (kvP m)]]] h n (fun d h' n' => ∃ r, d = .mrow r 0 (l.filterMap (goS m)).length ∧ h' = upd h r (some ⟨86, (l.filterMap (goS m)).map Sgd.d⟩) ∧ n ≤ r ∧ r < n') := by
  refine rct_of_dw Tryz.func68 rfl bo68 (by simp [Tryz.f68]) (fun hnone => ?_)
  unfold Tryz.f68
  have ff := True.intro
  have hl1 := hl.1
  refine stp In ?_
  refine stp In ?_
  refine dw_seq ?_
  refine dw_own 5 86 (by simp only [go_sem, ff]) (by simp only [go_sem, ff]) ?_
  refine stp In ?_
  refine dw_block ?_
  refine lph (α := (Nat) × (Nat) × Nat) [1, 10, 11] (fun ⟨k, r, nx⟩ => (k ≤ l.length) ∧ (r < nx) ∧ (n ≤ r) ∧ True) (fun ⟨k, r, nx⟩ => l.length - k) (fun ⟨k, r, nx⟩ => [(5, .mrow r 0 ((l.take k).filterMap (goS m)).length), (12, .i k)]) (fun ⟨k, r, nx⟩ => upd h r (some ⟨86, ((l.take k).filterMap (goS m)).map Sgd.d⟩)) (fun ⟨k, r, nx⟩ => nx) (0, (n + 2), _) (hA := ⟨iv, iv, iv, trivial⟩) (round := ?_)
  rintro ⟨k, r, nx⟩ ⟨hk, hr, hr0, -⟩
  show DW _ _ _ _ { n := _, t := tab _, h := _, nx := _, e := _ }
  simp only [List.cons_append, List.nil_append]
  have hfl := fm_len (goS m) l k
  have ff := And.intro @hr ff
  refine stp In ?_
  refine dw_seq ?_
  refine cd (fun c1 => ?_) (fun c1 => ?_) (hp := rfl)
  · skip
    have hk2 : k < l.length := by simpa using c1
    have ff := And.intro (getD_sgd hk2) ff
    refine dw_skip ?_
    show DW _ _ _ _ _
    refine dw_seq ?_
    refine dw_block ?_
    refine stp In ?_
    refine stp In ?_ (hok := by (try simp only [go_sem, ff]); all_goals (first | done | ((repeat' (with_reducible apply And.intro)) <;> first | exact dapp1_ct l[k]! m | (intros; exact dapp1_ct l[k]! m) | skip)))
    refine stp In ?_
    refine cd (fun c2 => ?_) (fun c2 => ?_)
    · skip
      refine rgn In ?_
      show DW _ _ _ _ _
      refine rgn In ?_
      show ∃ _, _
      have hst := fm_yes (f := goS m) hk2 (by simp only [goS]; rw [if_pos (by first | exact c2 | simpa using c2)])
      have hsd : ((l.take (k + 1)).filterMap (goS m)).map Sgd.d = ((l.take k).filterMap (goS m)).map Sgd.d ++ [[.v (.string (bs l[k]!.set.name)), .i l[k]!.set.ty, .i l[k]!.set.life, .list false (l[k]!.set.data.map Dat.d), .list false (l[k]!.sigs.map RSig.d)]] := by rw [hst, List.map_append]; rfl
      have hsl : ((l.take (k + 1)).filterMap (goS m)).length = ((l.take k).filterMap (goS m)).length + 1 := by rw [hst, List.length_append]; rfl
      have ff := And.intro hsd (And.intro hsl ff)
      refine rnd (k + 1, (nx + 18), _) (h1 := ⟨iv, iv, iv, trivial⟩) (h5 := ?_)
      refine less_fresh hnone (by simp only [go_sem, ff]) (fun q hq => ?_)
      simp only [upd]
      repeat rw [if_neg (by omega)]
    · skip
      refine dw_skip ?_
      show DW _ _ _ _ _
      refine rgn In ?_
      show ∃ _, _
      have ff := And.intro (fm_no (f := goS m) hk2 (by simp only [goS]; rw [if_neg (by rw [c2]; exact Bool.false_ne_true)])) ff
      refine rnd (k + 1, r, _) (h1 := ⟨iv, iv, iv, trivial⟩) (h5 := ?_)
      refine less_fresh hnone (by simp only [go_sem, ff]) (fun q hq => ?_)
      simp only [upd]
      repeat rw [if_neg (by omega)]
  · skip
    refine dw_exit ?_
    show DW _ _ _ _ _
    have e9 : k = l.length := by have h9 : ¬ (k:Int) < l.length := (by simpa using c1); omega
    subst e9
    rw [List.take_length] at *
    refine stp In ?_
    refine dw_ret ?_
    exact finr (upd h r (some ⟨86, (l.filterMap (goS m)).map Sgd.d⟩)) (hr := by (try simp only [go_sem, ff]); all_goals (exact ⟨r, rfl, rfl, by omega, by omega⟩))
theorem dcollssJ1_ct (l : List Sgd) (m : PM) (hl : fitL l) (h : H) (n : Nat) : RCt Tryz.prog 68 [.list false (l.map Sgd.d), .fn (.func 137) [] [.eptr [.fmap (kvP m)]]] h n (fun d h' n' => ∃ r, d = .mrow r 0 (l.filterMap (goS m)).length ∧ h' = upd h r (some ⟨86, (l.filterMap (goS m)).map Sgd.d⟩) ∧ n ≤ r ∧ r < n') := by
  refine rct_of_dw Tryz.func68 rfl bo68 (by simp [Tryz.f68]) (fun hnone => ?_)
  unfold Tryz.f68
  have ff := True.intro
  have hl1 := hl.1
  refine stp In ?_
  refine stp In ?_
  refine dw_seq ?_
  refine dw_own 5 86 (by simp only [go_sem, ff]) (by simp only [go_sem, ff]) ?_
  refine stp In ?_
  refine dw_block ?_
  refine lph (α := (Nat) × (Nat) × Nat) [1, 10, 11] (fun ⟨k, r, nx⟩ => (k ≤ l.length) ∧ (r < nx) ∧ (n ≤ r) ∧ True) (fun ⟨k, r, nx⟩ => l.length - k) (fun ⟨k, r, nx⟩ => [(5, .mrow r 0 ((l.take k).filterMap (goS m)).length), (12, .i k)]) (fun ⟨k, r, nx⟩ => upd h r (some ⟨86, ((l.take k).filterMap (goS m)).map Sgd.d⟩)) (fun ⟨k, r, nx⟩ => nx) (0, (n + 2), _) (hA := ⟨iv, iv, iv, trivial⟩) (round := ?_)
  rintro ⟨k, r, nx⟩ ⟨hk, hr, hr0, -⟩
  show DW _ _ _ _ { n := _, t := tab _, h := _, nx := _, e := _ }
  simp only [List.cons_append, List.nil_append]
  have hfl := fm_len (goS m) l k
  have ff := And.intro @hr ff
  refine stp In ?_
  refine dw_seq ?_
  refine cd (fun c1 => ?_) (fun c1 => ?_) (hp := rfl)
  · skip
    have hk2 : k < l.length := by simpa using c1
    have ff := And.intro (getD_sgd hk2) ff
    refine dw_skip ?_
    show DW _ _ _ _ _
    refine dw_seq ?_
    refine dw_block ?_
    refine stp In ?_
    refine stp In ?_ (hok := by (try simp only [go_sem, ff]); all_goals (first | done | ((repeat' (with_reducible apply And.intro)) <;> first | exact djoin1_ct l[k]! m | (intros; exact djoin1_ct l[k]! m) | skip)))
    refine stp In ?_
    refine cd (fun c2 => ?_) (fun c2 => ?_)
    · skip
      refine rgn In ?_
      show DW _ _ _ _ _
      refine rgn In ?_
      show ∃ _, _
      have hst := fm_yes (f := goS m) hk2 (by simp only [goS]; rw [if_pos (by first | exact c2 | simpa using c2)])
      have hsd : ((l.take (k + 1)).filterMap (goS m)).map Sgd.d = ((l.take k).filterMap (goS m)).map Sgd.d ++ [[.v (.string (bs l[k]!.set.name)), .i l[k]!.set.ty, .i l[k]!.set.life, .list false (l[k]!.set.data.map Dat.d), .list false (l[k]!.sigs.map RSig.d)]] := by rw [hst, List.map_append]; rfl
      have hsl : ((l.take (k + 1)).filterMap (goS m)).length = ((l.take k).filterMap (goS m)).length + 1 := by rw [hst, List.length_append]; rfl
      have ff := And.intro hsd (And.intro hsl ff)
      refine rnd (k + 1, (nx + 18), _) (h1 := ⟨iv, iv, iv, trivial⟩) (h5 := ?_)
      refine less_fresh hnone (by simp only [go_sem, ff]) (fun q hq => ?_)
      simp only [upd]
      repeat rw [if_neg (by omega)]
    · skip
      refine dw_skip ?_
      show DW _ _ _ _ _
      refine rgn In ?_
      show ∃ _, _
      have ff := And.intro (fm_no (f := goS m) hk2 (by simp only [goS]; rw [if_neg (by rw [c2]; exact Bool.false_ne_true)])) ff
      refine rnd (k + 1, r, _) (h1 := ⟨iv, iv, iv, trivial⟩) (h5 := ?_)
      refine less_fresh hnone (by simp only [go_sem, ff]) (fun q hq => ?_)
      simp only [upd]
      repeat rw [if_neg (by omega)]
  · skip
    refine dw_exit ?_
    show DW _ _ _ _ _
    have e9 : k = l.length := by have h9 : ¬ (k:Int) < l.length := (by simpa using c1); omega
    subst e9
    rw [List.take_length] at *
    refine stp In ?_
    refine dw_ret ?_
    exact finr (upd h r (some ⟨86, (l.filterMap (goS m)).map Sgd.d⟩)) (hr := by (try simp only [go_sem, ff]); all_goals (exact ⟨r, rfl, rfl, by omega, by omega⟩))
theorem dbyplaceL_ct (l : List Sgd) (hl : l.length ≤ 1000000) (h : H) (n : Nat) : RCt Tryz.prog 64 [.list false (l.map Sgd.d)] h n (fun d h' n' => ∃ r, d = .mp r ∧ h' = upd h r (some ⟨101, mapRows (kvZ (mapZ l))⟩) ∧ n ≤ r ∧ r < n') := by
  refine rct_of_dw Tryz.func64 rfl bo64 (by simp [Tryz.f64]) (fun hnone => ?_)
  unfold Tryz.f64
  have ff := True.intro
  refine stp In ?_
  refine stp In ?_
  refine dw_seq ?_
  refine stp In ?_
  refine dw_block ?_
  refine lph (α := (Nat) × Nat) [3, 9, 10] (fun ⟨k, nx⟩ => (k ≤ l.length) ∧ (n + 3 < nx) ∧ True) (fun ⟨k, nx⟩ => l.length - k) (fun ⟨k, nx⟩ => [(11, .i k)]) (fun ⟨k, nx⟩ => upd h (n + 3) (some ⟨101, mapRows (kvQ (mapTo l k))⟩)) (fun ⟨k, nx⟩ => nx) (0, _) (hA := ⟨iv, iv, trivial⟩) (round := ?_) (hhh := by exact fun _ => .inl rfl)
  rintro ⟨k, nx⟩ ⟨hk, hx, -⟩
  show DW _ _ _ _ { n := _, t := tab _, h := _, nx := _, e := _ }
  simp only [List.cons_append, List.nil_append]
  have ff := And.intro @hx ff
  refine stp In ?_
  refine dw_seq ?_
  refine cd (fun c1 => ?_) (fun c1 => ?_) (hp := rfl)
  · skip
    have hk2 : k < l.length := by simpa using c1
    have ff := And.intro (getD_sgd hk2) (And.intro (kvQ_step (l := l) (k := k)) ff)
    refine dw_skip ?_
    show DW _ _ _ _ _
    refine dw_seq ?_
    refine dw_block ?_
    refine stp In ?_
    refine rgn In ?_ (hok := by (try simp only [go_sem, ff]); all_goals (first | done | ((repeat' (with_reducible apply And.intro)) <;> first | exact dplace_ct l[k]! | (intros; exact dplace_ct l[k]!) | omega | skip)))
    show DW _ _ _ _ _
    refine rgn In ?_
    show ∃ _, _
    refine rnd (k + 1, _) (h1 := ⟨iv, iv, trivial⟩) (h5 := ?_)
    refine less_fresh hnone (by simp only [go_sem, ff]) (fun q hq => ?_)
    simp only [upd]
    repeat rw [if_neg (by omega)]
  · skip
    refine dw_exit ?_
    show DW _ _ _ _ _
    have e9 : k = l.length := by have h9 : ¬ (k:Int) < l.length := (by simpa using c1); omega
    subst e9
    refine stp In ?_
    refine dw_ret ?_
    exact finr (upd h (n + 3) (some ⟨101, mapRows (kvZ (mapZ l))⟩)) (hr := by (try simp only [go_sem, ff]); all_goals (exact ⟨n + 3, rfl, rfl, by omega, by omega⟩)) (hh := by rw [← kvQ_mapZ]; exact less_refl _)

end Go.Proofs.YtipkfnkmdeopeaaGreatDoor
namespace Go.Proofs.YtipkfnkmdeopeaaGreatDoor
open Go.DL Go.Str Go.Rec Go.Cmp Go.Zon
set_option maxRecDepth 10000
set_option linter.unusedSimpArgs false
set_option linter.unusedVariables false
theorem zserial_yes {z : Zon} (h : zoneOk z = true) : PureCt Tryz.prog 45 [.agg z.d] (.tuple [.i (serialOf z), .i 0]) := by
  have := zserial_ct z
  rwa [if_pos h, if_pos h] at this
theorem zserial_no {z : Zon} (h : zoneOk z = false) : PureCt Tryz.prog 45 [.agg z.d] (.tuple [.i 0, .i 1]) := by
  have := zserial_ct z
  rwa [if_neg (by simp [h]), if_neg (by simp [h])] at this
@[go_sem] theorem keysOk_S {m : List Qst} : keysOk Tryz.prog 89 (kvS m) = true := by
  induction m with
  | nil => rfl
  | cons p m ih => rw [kvS_cons]; simp only [keysOk, ih, Qst.d, ko89, Bool.and_self]
@[go_sem] theorem keysOk_Z {m : PZ} : keysOk Tryz.prog 89 (kvZ m) = true := by
  induction m with
  | nil => rfl
  | cons p m ih => rw [kvZ_cons]; simp only [keysOk, ih, Qst.d, ko89, Bool.and_self]
theorem bo78 : hasBody Tryz.prog 78 = true := by kernel_rfl
theorem dinform_ct (d : Dlt) : PureCt Tryz.prog 78 [.agg d.d] (.b (dltOk d)) := by
  refine pure_of_dw Tryz.func78 rfl bo78 (by simp [go_sem, D.nr, nrs, nrr]) (by simp [Tryz.f78]) ?_
  unfold Tryz.f78
  simp only [init_eq]
  have ff := True.intro
  refine stp In ?_
  refine dw_seq ?_
  refine stp In ?_ (hok := by (try simp only [go_sem, ff]); all_goals (first | done | ((repeat' (with_reducible apply And.intro)) <;> first | exact nvalid_ct _ | (intros; exact nvalid_ct _) | exact (fun _ => haspre_ct _ _) | (intros; exact (fun _ => haspre_ct _ _)) | skip)))
  refine cd (fun c1 => ?_) (fun c1 => ?_)
  · skip
    refine stp In ?_
    refine dw_ret ?_
    exact fin 0 (hr := by (try simp only [go_sem, ff]); all_goals (rw [← dltC_ok]; simp only [dltC]; (try rw [wild_pre] at *); grind))
  · skip
    refine dw_skip ?_
    show DW _ _ _ _ _
    refine dw_seq ?_
    refine stp In ?_ (hok := by (try simp only [go_sem, ff]); all_goals (first | done | ((repeat' (with_reducible apply And.intro)) <;> first | exact dserial_ct _ | (intros; exact dserial_ct _) | exact (fun _ => dserial_ct _) | (intros; exact (fun _ => dserial_ct _)) | exact (fun h => dbefore_ct _ _ (by simp_all) (by simp_all)) | (intros; exact (fun h => dbefore_ct _ _ (by simp_all) (by simp_all))) | (intros; simp_all; done) | skip)))
    refine cd (fun c2 => ?_) (fun c2 => ?_)
    · skip
      refine stp In ?_
      refine dw_ret ?_
      exact fin 0 (hr := by (try simp only [go_sem, ff]); all_goals (rw [← dltC_ok]; simp only [dltC]; (try rw [wild_pre] at *); grind))
    · skip
      refine dw_skip ?_
      show DW _ _ _ _ _
      refine dw_seq ?_
      refine stp In ?_
      refine cd (fun c3 => ?_) (fun c3 => ?_)
      · skip
        refine stp In ?_
        refine dw_ret ?_
        exact fin 0 (hr := by (try simp only [go_sem, ff]); all_goals (rw [← dltC_ok]; simp only [dltC]; (try rw [wild_pre] at *); grind))
      · skip
        refine dw_skip ?_
        show DW _ _ _ _ _
        refine stp In ?_
        refine dw_seq ?_
        refine stp In ?_
        refine dw_block ?_
        refine lp (α := (Nat) × Nat) [1, 3, 50, 51] (fun ⟨k, nx⟩ => (k ≤ d.drop.length) ∧ (allN d.drop.length (dropAtC d.drop) 0 = allN d.drop.length (dropAtC d.drop) k) ∧ (42 < nx) ∧ True) (fun ⟨k, nx⟩ => d.drop.length - k) (fun ⟨k, nx⟩ => [(52, .i k)]) (fun ⟨k, nx⟩ => [(0, ⟨65, [d.d]⟩), (42, ⟨139, mapRows (kvS (qsTo d.drop (k)))⟩)]) (fun ⟨k, nx⟩ => nx) (0, _) (hA := ⟨iv, rfl, iv, trivial⟩) (round := ?_)
        rintro ⟨k, nx⟩ ⟨hk, hv1, hx, -⟩
        show DW _ _ _ _ { n := _, t := tab _, h := _, nx := _, e := _ }
        simp only [List.cons_append, List.nil_append]
        have n0 : 0 < nx := by omega
        have ff := And.intro @hx (And.intro @n0 ff)
        refine stp In ?_
        refine dw_seq ?_
        refine cd (fun c4 => ?_) (fun c4 => ?_) (hp := rfl)
        · skip
          have hk2 : k < d.drop.length := by simpa using c4
          have hk1 : k - 1 < d.drop.length := by omega
          have e1 : ((k:Int) - 1).toNat = k - 1 := by omega
          have ff := And.intro (getD_qst hk2) (And.intro (getD_qst hk1) (And.intro @e1 ff))
          refine dw_skip ?_
          show DW _ _ _ _ _
          refine dw_seq ?_
          refine dw_block ?_
          refine stp In ?_
          refine dw_seq ?_
          refine stp In ?_ (hok := by (try simp only [go_sem, ff]); all_goals (first | done | ((repeat' (with_reducible apply And.intro)) <;> first | exact nvalid_ct _ | (intros; exact nvalid_ct _) | omega | (intro h; simp only [Bool.and_eq_true, decide_eq_true_eq] at h; omega) | (intros; omega) | (intros; simp_all; done) | skip)))
          refine cd (fun c5 => ?_) (fun c5 => ?_)
          · skip
            refine stp In ?_
            refine dw_ret ?_
            exact fin 0 (hr := by (try simp only [go_sem, ff]); all_goals (rw [← dltC_ok]; have hF : (dropAtC d.drop) k = false := (by simp only [dropAtC, qOk, inR]; grind); simp only [dltC]; rw [hv1, allN_no hk2 hF]; try simp))
          · skip
            refine dw_skip ?_
            show DW _ _ _ _ _
            refine dw_seq ?_
            refine stp In ?_ (hok := by (try simp only [go_sem, ff]); all_goals (first | done | ((repeat' (with_reducible apply And.intro)) <;> first | exact (fun _ => dcmppl_ct d.drop[k - 1]! d.drop[k]!) | (intros; exact (fun _ => dcmppl_ct d.drop[k - 1]! d.drop[k]!)) | omega | (intro h; simp only [Bool.and_eq_true, decide_eq_true_eq] at h; omega) | (intros; omega) | (intros; simp_all; done) | skip)))
            refine cd (fun c6 => ?_) (fun c6 => ?_)
            · skip
              refine stp In ?_
              refine dw_ret ?_
              exact fin 0 (hr := by (try simp only [go_sem, ff]); all_goals (rw [← dltC_ok]; have hF : (dropAtC d.drop) k = false := (by simp only [dropAtC, qOk, inR]; grind); simp only [dltC]; rw [hv1, allN_no hk2 hF]; try simp))
            · skip
              refine dw_skip ?_
              show DW _ _ _ _ _
              refine rgn In ?_
              show DW _ _ _ _ _
              refine rgn In ?_
              show ∃ _, _
              have h8 : (dropAtC d.drop) k = true := by simp only [dropAtC, qOk, inR]; grind
              have ff := And.intro (show qset (qsTo d.drop k) d.drop[k]! = qsTo d.drop (k + 1) from rfl) ff
              exact rnd (k + 1, _) (h1 := ⟨iv, (by first | (rw [hv1, allN_yes hk2 h8]) | (dsimp only; rw [hv1, allN_yes hk2 h8])), iv, trivial⟩)
        · skip
          have e9 : k = d.drop.length := by omega
          subst e9
          refine dw_exit ?_
          show DW _ _ _ _ _
          refine dw_seq ?_
          refine stp In ?_
          refine dw_block ?_
          refine lp (α := (Nat) × Nat) [1, 3, 88, 89] (fun ⟨k, nx⟩ => (k ≤ d.put.length) ∧ (allN d.put.length (putAtC d) 0 = allN d.put.length (putAtC d) k) ∧ (42 < nx) ∧ True) (fun ⟨k, nx⟩ => d.put.length - k) (fun ⟨k, nx⟩ => [(90, .i k)]) (fun ⟨k, nx⟩ => [(0, ⟨65, [d.d]⟩), (42, ⟨139, mapRows (kvS (qsTo d.drop (d.drop.length)))⟩)]) (fun ⟨k, nx⟩ => nx) (0, _) (hA := ⟨iv, rfl, iv, trivial⟩) (round := ?_)
          rintro ⟨k, nx⟩ ⟨hk, hv, hx, -⟩
          show DW _ _ _ _ { n := _, t := tab _, h := _, nx := _, e := _ }
          simp only [List.cons_append, List.nil_append]
          have n0 : 0 < nx := by omega
          have ff := And.intro @hx (And.intro @n0 ff)
          refine stp In ?_
          refine dw_seq ?_
          refine cd (fun c7 => ?_) (fun c7 => ?_) (hp := rfl)
          · skip
            have hk2 : k < d.put.length := by simpa using c7
            have hk1 : k - 1 < d.put.length := by omega
            have e1 : ((k:Int) - 1).toNat = k - 1 := by omega
            have ff := And.intro (getD_sgd hk2) (And.intro (getD_sgd hk1) (And.intro @e1 ff))
            refine dw_skip ?_
            show DW _ _ _ _ _
            refine dw_seq ?_
            refine dw_block ?_
            refine stp In ?_
            refine dw_seq ?_
            refine stp In ?_ (hok := by (try simp only [go_sem, ff]); all_goals (first | done | ((repeat' (with_reducible apply And.intro)) <;> first | exact rvalid_ct _ | (intros; exact rvalid_ct _) | exact (fun _ => dplace_ct d.put[k]!) | (intros; exact (fun _ => dplace_ct d.put[k]!)) | omega | (intro h; simp only [Bool.and_eq_true, decide_eq_true_eq] at h; omega) | (intros; omega) | (intros; simp_all; done) | skip)))
            refine cd (fun c8 => ?_) (fun c8 => ?_)
            · skip
              refine stp In ?_
              refine dw_ret ?_
              exact fin 0 (hr := by (try simp only [go_sem, ff]); all_goals (rw [← dltC_ok]; have hF : (putAtC d) k = false := (by simp only [putAtC]; grind); simp only [dltC]; rw [hv, allN_no hk2 hF]; try simp))
            · skip
              refine dw_skip ?_
              show DW _ _ _ _ _
              refine stp In ?_ (hok := by (try simp only [go_sem, ff]); all_goals (first | done | ((repeat' (with_reducible apply And.intro)) <;> first | exact (fun _ => dplace_ct d.put[k]!) | (intros; exact (fun _ => dplace_ct d.put[k]!)) | exact (fun _ => dplace_ct d.put[k - 1]!) | (intros; exact (fun _ => dplace_ct d.put[k - 1]!)) | exact (fun _ => dcmppl_ct d.put[k - 1]!.q d.put[k]!.q) | (intros; exact (fun _ => dcmppl_ct d.put[k - 1]!.q d.put[k]!.q)) | omega | (intro h; simp only [Bool.and_eq_true, decide_eq_true_eq] at h; omega) | (intros; omega) | (intros; simp_all; done) | skip)))
              refine cd (fun c9 => ?_) (fun c9 => ?_)
              · skip
                refine stp In ?_
                refine dw_ret ?_
                exact fin 0 (hr := by (try simp only [go_sem, ff]); all_goals (rw [← dltC_ok]; have hF : (putAtC d) k = false := (by simp only [putAtC]; grind); simp only [dltC]; rw [hv, allN_no hk2 hF]; try simp))
              · skip
                refine dw_skip ?_
                show DW _ _ _ _ _
                refine rgn In ?_
                show ∃ _, _
                have h8 : (putAtC d) k = true := by simp only [putAtC]; grind
                exact rnd (k + 1, _) (h1 := ⟨iv, (by first | (rw [hv, allN_yes hk2 h8]) | (dsimp only; rw [hv, allN_yes hk2 h8])), iv, trivial⟩)
          · skip
            refine dw_exit ?_
            show DW _ _ _ _ _
            refine stp In ?_
            refine dw_ret ?_
            exact fin 0 (hr := by (try simp only [go_sem, ff]); all_goals (rw [← dltC_ok]; simp only [dltC]; (try rw [wild_pre] at *); rw [hv1, hv, allN_end (n := d.drop.length) (by omega), allN_end (by omega)]; grind))
theorem bo34 : hasBody Tryz.prog 34 = true := by kernel_rfl
theorem ddiff_ct (a : Zon) (b : Zon) : PureCt Tryz.prog 34 [.agg a.d, .agg b.d] (.tuple [.agg (diffP a b).1.d, .i (diffP a b).2]) := by
  refine pure_of_dw Tryz.func34 rfl bo34 (by simp [go_sem, D.nr, nrs, nrr]) (by simp [Tryz.f34]) ?_
  unfold Tryz.f34
  simp only [init_eq]
  have ff := True.intro
  refine stp In ?_
  rcases ha : zoneOk a with _ | _ <;> rcases hb : zoneOk b with _ | _
  · skip
    have ff := And.intro @ha (And.intro @hb ff)
    refine stp In ?_ (hok := by (try simp only [go_sem, ff]); all_goals (first | exact zserial_yes ha | exact zserial_no ha))
    refine stp In ?_ (hok := by (try simp only [go_sem, ff]); all_goals (first | exact zserial_yes hb | exact zserial_no hb))
    refine dw_seq ?_
    refine stp In ?_
    refine cd (fun c1 => ?_) (fun c1 => ?_) (hq := rfl)
    · skip
      refine stp In ?_
      refine dw_ret ?_
      exact fin 3 (hr := by (try simp only [go_sem, ff]); all_goals (rw [diffP, if_pos (by simp_all)]; rfl))
    · skip
      first | exact c1.elim | (simp at c1; done)
  · skip
    have ff := And.intro @ha (And.intro @hb ff)
    refine stp In ?_ (hok := by (try simp only [go_sem, ff]); all_goals (first | exact zserial_yes ha | exact zserial_no ha))
    refine stp In ?_ (hok := by (try simp only [go_sem, ff]); all_goals (first | exact zserial_yes hb | exact zserial_no hb))
    refine dw_seq ?_
    refine stp In ?_
    refine cd (fun c1 => ?_) (fun c1 => ?_) (hq := rfl)
    · skip
      refine stp In ?_
      refine dw_ret ?_
      exact fin 3 (hr := by (try simp only [go_sem, ff]); all_goals (rw [diffP, if_pos (by simp_all)]; rfl))
    · skip
      first | exact c1.elim | (simp at c1; done)
  · skip
    have ff := And.intro @ha (And.intro @hb ff)
    refine stp In ?_ (hok := by (try simp only [go_sem, ff]); all_goals (first | exact zserial_yes ha | exact zserial_no ha))
    refine stp In ?_ (hok := by (try simp only [go_sem, ff]); all_goals (first | exact zserial_yes hb | exact zserial_no hb))
    refine dw_seq ?_
    refine stp In ?_
    refine cd (fun c1 => ?_) (fun c1 => ?_) (hq := rfl)
    · skip
      refine stp In ?_
      refine dw_ret ?_
      exact fin 3 (hr := by (try simp only [go_sem, ff]); all_goals (rw [diffP, if_pos (by simp_all)]; rfl))
    · skip
      first | exact c1.elim | (simp at c1; done)
  · skip
    have hfa := zone_fit ha
    have hfb := zone_fit hb
    have hsa : serB (serialOf a) = true := by rw [serial_ref ha]; exact ref_ser (by rw [← zoneOk_ref]; exact ha)
    have hsb : serB (serialOf b) = true := by rw [serial_ref hb]; exact ref_ser (by rw [← zoneOk_ref]; exact hb)
    have ff := And.intro @ha (And.intro @hb ff)
    refine stp In ?_ (hok := by (try simp only [go_sem, ff]); all_goals (first | exact zserial_yes ha | exact zserial_no ha))
    refine stp In ?_ (hok := by (try simp only [go_sem, ff]); all_goals (first | exact zserial_yes hb | exact zserial_no hb))
    refine dw_seq ?_
    refine stp In ?_
    refine cd (fun c1 => ?_) (fun c1 => ?_)
    · skip
      refine stp In ?_
      refine dw_ret ?_
      exact fin 3 (hr := by (try simp only [go_sem, ff]); all_goals (rw [diffP, if_pos (by simp_all)]; rfl))
    · skip
      refine dw_skip ?_
      show DW _ _ _ _ _
      refine dw_seq ?_
      refine stp In ?_ (hok := by (try simp only [go_sem, ff]); all_goals (exact dbefore_ct _ _ hsa hsb))
      refine cd (fun c2 => ?_) (fun c2 => ?_)
      · skip
        refine stp In ?_
        refine dw_ret ?_
        exact fin 3 (hr := by (try simp only [go_sem, ff]); all_goals (rw [diffP, if_neg (by simp_all), if_pos (by simp_all)]; rfl))
      · skip
        refine dw_skip ?_
        show DW _ _ _ _ _
        refine stp InF ?_ (hok := by (try simp only [go_sem, ff]); all_goals (first | done | ((repeat' (with_reducible apply And.intro)) <;> first | exact dbyplace_ct a.sets hfa.1 | (intros; exact dbyplace_ct a.sets hfa.1) | exact dbyplace_ct b.sets hfb.1 | (intros; exact dbyplace_ct b.sets hfb.1) | skip)))
        refine stp In ?_
        refine dw_freezep 11 42 ev ev nrs_fmapP ?_
        refine stp In ?_ (hok := by (try simp only [go_sem, ff]); all_goals (first | done | ((repeat' (with_reducible apply And.intro)) <;> first | exact dcollsq_ct a.sets (mapP b.sets) hfa | (intros; exact dcollsq_ct a.sets (mapP b.sets) hfa) | skip)))
        refine dw_freezep 10 41 ev ev nrs_fmapP ?_
        refine stp In ?_ (hok := by (try simp only [go_sem, ff]); all_goals (first | done | ((repeat' (with_reducible apply And.intro)) <;> first | exact dcollssD2_ct b.sets (mapP a.sets) hfb (fun k hk x hx => fit_mem hfa (mapP_mem hx).1) | (intros; exact dcollssD2_ct b.sets (mapP a.sets) hfb (fun k hk x hx => fit_mem hfa (mapP_mem hx).1)) | skip)))
        refine stp In ?_
        refine dw_ret ?_
        exact fin 3 (hr := by (try simp only [go_sem, ff]); all_goals (rw [diffP, if_neg (by simp_all), if_neg (by simp_all)]; try rfl))

end Go.Proofs.YtipkfnkmdeopeaaGreatDoor
namespace Go.Proofs.YtipkfnkmdeopeaaGreatDoor
open Go.DL Go.Str Go.Rec Go.Cmp Go.Zon
set_option maxRecDepth 10000
set_option linter.unusedSimpArgs false
set_option linter.unusedVariables false
def srtS_ren : Go.Shelf.Ren := { f := fun x => match x with | 6 => 80 | 15 => 115 | 14 => 114 | 28 => 162 | 29 => 163 | 20 => 154 | 21 => 155 | 22 => 156 | 23 => 157 | 24 => 158 | 25 => 159 | 26 => 160 | 27 => 161 | 46 => 178 | 47 => 179 | 48 => 180 | 49 => 181 | 50 => 182 | 57 => 197 | n => n, t := fun x => match x with | 22 => 22 | 24 => 86 | 25 => 112 | 3 => 3 | 39 => 143 | 0 => 0 | 53 => 178 | 55 => 97 | 4 => 4 | 46 => 172 | 45 => 171 | 50 => 116 | 5 => 5 | 9 => 9 | 66 => 187 | 70 => 191 | 76 => 200 | 77 => 201 | n => n, g := fun n => n }
theorem srtS : Go.Proofs.SlLaysF0.n6 Tryz.prog srtS_ren := {
  mixed := by kernel_rfl
  f6 := ⟨Tryz.f80.name, by decide, Tryz.func80.trans (by kernel_rfl)⟩
  f14 := ⟨Tryz.f114.name, by decide, Tryz.func114.trans (by kernel_rfl)⟩
  f15 := Tryz.func115.trans (by kernel_rfl)
  f20 := ⟨Tryz.f154.name, by decide, Tryz.func154.trans (by kernel_rfl)⟩
  f21 := ⟨Tryz.f155.name, by decide, Tryz.func155.trans (by kernel_rfl)⟩
  f22 := ⟨Tryz.f156.name, by decide, Tryz.func156.trans (by kernel_rfl)⟩
  f23 := ⟨Tryz.f157.name, by decide, Tryz.func157.trans (by kernel_rfl)⟩
  f24 := ⟨Tryz.f158.name, by decide, Tryz.func158.trans (by kernel_rfl)⟩
  f25 := ⟨Tryz.f159.name, by decide, Tryz.func159.trans (by kernel_rfl)⟩
  f26 := ⟨Tryz.f160.name, by decide, Tryz.func160.trans (by kernel_rfl)⟩
  f27 := ⟨Tryz.f161.name, by decide, Tryz.func161.trans (by kernel_rfl)⟩
  f28 := Tryz.func162.trans (by kernel_rfl)
  f29 := Tryz.func163.trans (by kernel_rfl)
  f46 := ⟨Tryz.f178.name, by decide, Tryz.func178.trans (by kernel_rfl)⟩
  f47 := Tryz.func179.trans (by kernel_rfl)
  f48 := Tryz.func180.trans (by kernel_rfl)
  f49 := ⟨Tryz.f181.name, by decide, Tryz.func181.trans (by kernel_rfl)⟩
  f50 := ⟨Tryz.f182.name, by decide, Tryz.func182.trans (by kernel_rfl)⟩
  f57 := ⟨Tryz.f197.name, by decide, Tryz.func197.trans (by kernel_rfl)⟩
  t0 := Tryz.underlying0
  a0 := Tryz.isAgg0
  z0 := Tryz.sizeOf0
  v0 := Tryz.zeroValue0
  t3 := Tryz.underlying3
  a3 := Tryz.isAgg3
  z3 := Tryz.sizeOf3
  v3 := Tryz.zeroValue3
  t4 := Tryz.underlying4
  a4 := Tryz.isAgg4
  z4 := Tryz.sizeOf4
  v4 := Tryz.zeroValue4
  t5 := Tryz.underlying5
  a5 := Tryz.isAgg5
  z5 := Tryz.sizeOf5
  v5 := Tryz.zeroValue5
  t9 := Tryz.underlying9
  a9 := Tryz.isAgg9
  z9 := Tryz.sizeOf9
  v9 := Tryz.zeroValue9
  t22 := Tryz.underlying22
  a22 := Tryz.isAgg22
  z22 := Tryz.sizeOf22
  v22 := Tryz.zeroValue22
  t25 := Tryz.underlying112
  a25 := Tryz.isAgg112
  z25 := Tryz.sizeOf112
  v25 := Tryz.zeroValue112
  t39 := Tryz.underlying143
  a39 := Tryz.isAgg143
  z39 := Tryz.sizeOf143
  v39 := Tryz.zeroValue143
  t45 := Tryz.underlying171
  a45 := Tryz.isAgg171
  z45 := Tryz.sizeOf171
  v45 := Tryz.zeroValue171
  t46 := Tryz.underlying172
  a46 := Tryz.isAgg172
  z46 := Tryz.sizeOf172
  v46 := Tryz.zeroValue172
  t50 := Tryz.underlying116
  a50 := Tryz.isAgg116
  z50 := Tryz.sizeOf116
  v50 := Tryz.zeroValue116
  t53 := Tryz.underlying178
  a53 := Tryz.isAgg178
  z53 := Tryz.sizeOf178
  v53 := Tryz.zeroValue178
  t55 := Tryz.underlying97
  a55 := Tryz.isAgg97
  z55 := Tryz.sizeOf97
  v55 := Tryz.zeroValue97
  t66 := Tryz.underlying187
  a66 := Tryz.isAgg187
  z66 := Tryz.sizeOf187
  v66 := Tryz.zeroValue187
  t70 := Tryz.underlying191
  a70 := Tryz.isAgg191
  z70 := Tryz.sizeOf191
  v70 := Tryz.zeroValue191
  t76 := Tryz.underlying200
  a76 := Tryz.isAgg200
  z76 := Tryz.sizeOf200
  v76 := Tryz.zeroValue200
  t77 := Tryz.underlying201
  a77 := Tryz.isAgg201
  z77 := Tryz.sizeOf201
  v77 := Tryz.zeroValue201 }
theorem sortG (l : List Sgd) (m : Nat) (h : H) (n r : Nat) (hm : m = l.length) (hl : l.length ≤ 1000000) (hn : ∀ s ∈ l, nameOk (s.q).name = true) (ho : Once l) (hr : h r = some ⟨86, l.map Sgd.d⟩) :
    RCt Tryz.prog 80 [.mrow r 0 m, .fn (.func 116) [] [.eptr [.fn (.func 67) [] []]]] h n (fun d h' n' => d = .tuple [] ∧ n' = n ∧ h' = upd h r (some ⟨86, (sortS l).map Sgd.d⟩)) := by
  have e : m = (l.map Sgd.d).length := by simp [hm]
  rw [e]
  have hx : ∀ x ∈ l.map Sgd.d, Sgd.d (Sgd.of x) = x ∧ nameOk ((fun s : Sgd => s.q) (Sgd.of x)).name = true := fun x hx => by
    obtain ⟨s, hs, rfl⟩ := List.mem_map.1 hx
    rw [of_sgd]
    exact ⟨rfl, hn s hs⟩
  have hc : ∀ x ∈ l.map Sgd.d, ∀ y ∈ l.map Sgd.d, qC (Sgd.of x).q (Sgd.of y).q = sp (Sgd.of x) (Sgd.of y) := fun x h1 y h2 => qC_qp (hx x h1).2 (hx y h2).2
  refine (sort_rct (ty := 86) srtS rfl rfl Tryz.isAgg86 Tryz.sizeOf86 (fun x y => qC (Sgd.of x).q (Sgd.of y).q) (by kernel_rfl) hr nrr_sgd rfl (by simp; omega) (fun x h1 y h2 => ?_) ⟨fun x h1 => ?_, fun x h1 y h2 z h3 => ?_, fun x h1 y h2 z h3 => ?_⟩).mono ?_
  · have := dcmp1_ct (Sgd.of x) (Sgd.of y)
    rw [(hx x h1).1, (hx y h2).1] at this
    exact this
  · rw [hc x h1 x h1, cm_s.self]; omega
  · rw [hc x h1 y h2, hc y h2 z h3, hc x h1 z h3]
    intro a b; exact cm_s.lt_le a (by omega)
  · rw [hc x h1 y h2, hc y h2 z h3, hc x h1 z h3]
    intro a b
    have h1 := cm_s.anti (Sgd.of x) (Sgd.of y); have h2 := cm_s.anti (Sgd.of y) (Sgd.of z); have h3 := cm_s.anti (Sgd.of x) (Sgd.of z)
    have := cm_s.tr (Sgd.of z) (Sgd.of y) (Sgd.of x) (by omega) (by omega)
    omega
  · rintro d h' n' ⟨rfl, rfl, rows', hp, hs, rfl⟩
    obtain ⟨q1, q2⟩ := rows_sorted of_sgd hp
    refine ⟨rfl, rfl, ?_⟩
    have hs' : (rows'.map Sgd.of).Pairwise fun a b => sp a b ≤ 0 := by
      rw [List.pairwise_map]
      refine hs.imp_of_mem fun {a b} h1 h2 h3 => ?_
      have h3 : ¬ (fun x y => qC (Sgd.of x).q (Sgd.of y).q) b a < 0 := h3
      dsimp only at h3
      have h4 := hc b (hp.mem_iff.1 h2) a (hp.mem_iff.1 h1)
      rw [h4] at h3
      have := cm_s.anti (Sgd.of a) (Sgd.of b)
      omega
    rw [← sortS_eq ho q2 hs', q1]
theorem dw_freezepw {P : Program} [Glob P] {ro : Option Nat} {Q : Exit → S → Prop} {c : Code} {s : S} (i r : Nat) {ty : TypeId} {row : List D} (hi : s.t i = .mptr r 0 0) (hr : s.h r = some ⟨ty, [row]⟩) (hn : nrs row = true) (h : DW P ro c Q { n := s.n, t := upd s.t i (.eptr (wks row)), h := upd s.h r none, nx := s.nx, e := s.e }) : DW P ro c Q s :=
  dw_freeze1 i r hi (fun _ _ _ hm hv => (frz_ptr hm hr hn hv).wk) h
theorem dstay_ct (z : Zon) (d : Dlt) (hl : fitL z.sets) (h : H) (n : Nat) : RCt Tryz.prog 68 [.list false (z.sets.map Sgd.d), .fn (.func 79) [] [.eptr [.fmap (kvP (zp (goesZ (mapZ d.put) d.drop d.drop.length)))]]] h n (fun x h' n' => ∃ r, x = .mrow r 0 (stayP z d).length ∧ h' = upd h r (some ⟨86, (stayP z d).map Sgd.d⟩) ∧ n ≤ r ∧ r < n') := dcollssA1_ct z.sets _ hl h n
theorem stay_names {z : Zon} {d : Dlt} (hz : ZOrd z) (hd : DOk d) : ∀ s ∈ stayP z d ++ d.put, nameOk s.q.name = true := fun s hs => (List.mem_append.1 hs).elim (fun k => hz.nms s (stay_mem.1 k).1) fun k => (hd.pok s k).name
theorem new_fit {z : Zon} {d : Dlt} (hz : fitL z.sets) (hp : fitL d.put) (hd : d.put.length ≤ 20000) (hl : (stayP z d).length ≤ 20000) : fitL (sortS (stayP z d ++ d.put)) := fit_of (by rw [sortS_len, List.length_append]; omega) fun s hs => (List.mem_append.1 (sortS_mem.1 hs)).elim (fun k => fit_mem hz (stay_mem.1 k).1) fun k => fit_mem hp k
theorem bo41 : hasBody Tryz.prog 41 = true := by kernel_rfl
theorem dapply_ct (z : Zon) (d : Dlt) (hp : fitL d.put) : PureCt Tryz.prog 41 [.agg z.d, .agg d.d] (.tuple [.agg (applyP z d).1.d, .i (applyP z d).2]) := by
  refine pure_of_dw Tryz.func41 rfl bo41 (by simp [go_sem, D.nr, nrs, nrr]) (by simp [Tryz.f41]) ?_
  unfold Tryz.f41
  simp only [init_eq]
  have ff := True.intro
  refine stp In ?_
  rcases ha : zoneOk z with _ | _
  · skip
    have ff := And.intro @ha ff
    refine stp In ?_ (hok := by (try simp only [go_sem, ff]); all_goals (first | exact zserial_yes ha | exact zserial_no ha))
    refine dw_seq ?_
    refine stp In ?_ (hok := by (try simp only [go_sem, ff]); all_goals (first | done | ((repeat' (with_reducible apply And.intro)) <;> first | exact dinform_ct d | (intros; exact dinform_ct d) | exact (fun _ => dinform_ct d) | (intros; exact (fun _ => dinform_ct d)) | skip)))
    refine cd (fun c1 => ?_) (fun c1 => ?_) (hq := rfl)
    · skip
      refine stp In ?_
      refine dw_ret ?_
      exact fin 3 (hr := by (try simp only [go_sem, ff]); all_goals (rw [applyP, if_pos (by grind)]; try rfl))
    · skip
      first | exact c1.elim | (simp at c1; done)
  · skip
    have hfa := zone_fit ha
    have hza := zone_ord ha
    have hlz := hza.len
    have ff := And.intro @ha ff
    refine stp In ?_ (hok := by (try simp only [go_sem, ff]); all_goals (first | exact zserial_yes ha | exact zserial_no ha))
    refine dw_seq ?_
    refine stp In ?_ (hok := by (try simp only [go_sem, ff]); all_goals (first | done | ((repeat' (with_reducible apply And.intro)) <;> first | exact dinform_ct d | (intros; exact dinform_ct d) | exact (fun _ => dinform_ct d) | (intros; exact (fun _ => dinform_ct d)) | skip)))
    refine cd (fun c1 => ?_) (fun c1 => ?_)
    · skip
      refine stp In ?_
      refine dw_ret ?_
      exact fin 3 (hr := by (try simp only [go_sem, ff]); all_goals (rw [applyP, if_pos (by grind)]; try rfl))
    · skip
      have hd : dltOk d = true := by grind
      have hax : z.apex = d.apex := by grind
      have p1 : ¬ (zoneOk z = false ∨ dltOk d = false ∨ z.apex ≠ d.apex) := by rintro (q | q | q); rw [ha] at q; cases q; rw [hd] at q; cases q; exact q hax
      have hdd := dlt_iff.1 hd
      have hld := hdd.dlen
      have hlp := hdd.plen
      have hsl := stay_len z d
      refine dw_skip ?_
      show DW _ _ _ _ _
      refine dw_seq ?_
      refine stp In ?_
      refine cd (fun c2 => ?_) (fun c2 => ?_)
      · skip
        have p2 : serialOf z ≠ d.frm := by grind
        refine stp In ?_
        refine dw_ret ?_
        exact fin 3 (hr := by (try simp only [go_sem, ff]); all_goals (rw [applyP, if_neg p1, if_pos p2]; try rfl))
      · skip
        have p2 : ¬ (serialOf z ≠ d.frm) := fun q => q (by grind)
        refine dw_skip ?_
        show DW _ _ _ _ _
        refine dw_seq (cal1 In 2 (hct := by exact dbyplaceL_ct d.put hp.1 _ _) (hk := ?_))
        rintro res h2 n2 ⟨r1, rfl, rfl, a1, b1⟩
        try dsimp only at a1 b1
        have z0_1 : (0 = 1) = False := eq_false (by omega)
        have y1_0 : (1 = 0) = False := eq_false (by omega)
        have z0_2 : (0 = 2) = False := eq_false (by omega)
        have y2_0 : (2 = 0) = False := eq_false (by omega)
        have z0_r1 : (0 = r1) = False := eq_false (by omega)
        have yr1_0 : (r1 = 0) = False := eq_false (by omega)
        have z0_n23 : (0 = n2 + 3) = False := eq_false (by omega)
        have yn23_0 : (n2 + 3 = 0) = False := eq_false (by omega)
        have z1_2 : (1 = 2) = False := eq_false (by omega)
        have y2_1 : (2 = 1) = False := eq_false (by omega)
        have z1_r1 : (1 = r1) = False := eq_false (by omega)
        have yr1_1 : (r1 = 1) = False := eq_false (by omega)
        have z1_n23 : (1 = n2 + 3) = False := eq_false (by omega)
        have yn23_1 : (n2 + 3 = 1) = False := eq_false (by omega)
        have z2_r1 : (2 = r1) = False := eq_false (by omega)
        have yr1_2 : (r1 = 2) = False := eq_false (by omega)
        have z2_n23 : (2 = n2 + 3) = False := eq_false (by omega)
        have yn23_2 : (n2 + 3 = 2) = False := eq_false (by omega)
        have zr1_n23 : (r1 = n2 + 3) = False := eq_false (by omega)
        have yn23_r1 : (n2 + 3 = r1) = False := eq_false (by omega)
        have ff := And.intro @b1 (And.intro @z0_1 (And.intro @y1_0 (And.intro @z0_2 (And.intro @y2_0 (And.intro @z0_r1 (And.intro @yr1_0 (And.intro @z0_n23 (And.intro @yn23_0 (And.intro @z1_2 (And.intro @y2_1 (And.intro @z1_r1 (And.intro @yr1_1 (And.intro @z1_n23 (And.intro @yn23_1 (And.intro @z2_r1 (And.intro @yr1_2 (And.intro @z2_n23 (And.intro @yn23_2 (And.intro @zr1_n23 (And.intro @yn23_r1 ff))))))))))))))))))))
        refine cal2 In ?_
        show DW _ _ _ _ _
        refine dw_seq ?_
        refine stp In ?_
        refine dw_block ?_
        refine lp (α := (Nat) × (Nat) × Nat) [2, 3, 4, 43, 44] (fun ⟨k, q, nx⟩ => (k ≤ d.drop.length) ∧ (q < nx) ∧ (r1 < q) ∧ (2 < r1) ∧ True) (fun ⟨k, q, nx⟩ => d.drop.length - k) (fun ⟨k, q, nx⟩ => [(8, .mptr q 0 0), (45, .i k)]) (fun ⟨k, q, nx⟩ => [(0, ⟨24, [z.d]⟩), (1, ⟨65, [d.d]⟩), (2, ⟨24, [[.v (.string (bs [])), .list true []]]⟩), (q, ⟨101, [[.mp r1]]⟩), (r1, ⟨101, mapRows (kvZ (goesZ (mapZ d.put) d.drop (k)))⟩)]) (fun ⟨k, q, nx⟩ => nx) (0, n2 + 3, _) (hA := ⟨iv, iv, iv, iv, trivial⟩) (round := ?_)
        rintro ⟨k, q, nx⟩ ⟨hk, hq, hqr, hr1, -⟩
        show DW _ _ _ _ { n := _, t := tab _, h := _, nx := _, e := _ }
        simp only [List.cons_append, List.nil_append]
        have n0 : 0 < nx := by omega
        have hrn : r1 < nx := by omega
        have z0_1 : (0 = 1) = False := eq_false (by omega)
        have y1_0 : (1 = 0) = False := eq_false (by omega)
        have z0_2 : (0 = 2) = False := eq_false (by omega)
        have y2_0 : (2 = 0) = False := eq_false (by omega)
        have z0_q : (0 = q) = False := eq_false (by omega)
        have yq_0 : (q = 0) = False := eq_false (by omega)
        have z0_r1 : (0 = r1) = False := eq_false (by omega)
        have yr1_0 : (r1 = 0) = False := eq_false (by omega)
        have z1_2 : (1 = 2) = False := eq_false (by omega)
        have y2_1 : (2 = 1) = False := eq_false (by omega)
        have z1_q : (1 = q) = False := eq_false (by omega)
        have yq_1 : (q = 1) = False := eq_false (by omega)
        have z1_r1 : (1 = r1) = False := eq_false (by omega)
        have yr1_1 : (r1 = 1) = False := eq_false (by omega)
        have z2_q : (2 = q) = False := eq_false (by omega)
        have yq_2 : (q = 2) = False := eq_false (by omega)
        have z2_r1 : (2 = r1) = False := eq_false (by omega)
        have yr1_2 : (r1 = 2) = False := eq_false (by omega)
        have zq_r1 : (q = r1) = False := eq_false (by omega)
        have yr1_q : (r1 = q) = False := eq_false (by omega)
        have ff := And.intro @hq (And.intro @n0 (And.intro @hrn (And.intro @z0_1 (And.intro @y1_0 (And.intro @z0_2 (And.intro @y2_0 (And.intro @z0_q (And.intro @yq_0 (And.intro @z0_r1 (And.intro @yr1_0 (And.intro @z1_2 (And.intro @y2_1 (And.intro @z1_q (And.intro @yq_1 (And.intro @z1_r1 (And.intro @yr1_1 (And.intro @z2_q (And.intro @yq_2 (And.intro @z2_r1 (And.intro @yr1_2 (And.intro @zq_r1 (And.intro @yr1_q ff))))))))))))))))))))))
        refine stp In ?_
        refine dw_seq ?_
        refine cd (fun c3 => ?_) (fun c3 => ?_) (hp := rfl)
        · skip
          have hk2 : k < d.drop.length := by simpa using c3
          have ff := And.intro (getD_qst hk2) ff
          refine dw_skip ?_
          show DW _ _ _ _ _
          refine dw_seq ?_
          refine dw_block ?_
          refine stp In ?_
          refine rgn In ?_
          show DW _ _ _ _ _
          refine rgn In ?_
          show ∃ _, _
          have ff := And.intro (show zset (goesZ (mapZ d.put) d.drop (k)) d.drop[k]! none = goesZ (mapZ d.put) d.drop (k + 1) from rfl) ff
          exact rnd (k + 1, q, _) (h1 := ⟨iv, iv, iv, iv, trivial⟩)
        · skip
          have e8 : k = d.drop.length := by omega
          subst e8
          refine dw_exit ?_
          show DW _ _ _ _ _
          refine dw_freezemc q 0 r1 ev rfl ev rfl (by omega) nrs_kvZ ?_
          simp only [List.set_cons_zero]
          refine dw_freezepw 8 q ev ev nrs_fmapZ ?_
          refine dw_seq (cal1 In 3 (hct := by exact dstay_ct z d hfa _ _) (hk := ?_))
          rintro res h2 n2 ⟨r2, rfl, rfl, a2, b2⟩
          try dsimp only at a2 b2
          have z0_1 : (0 = 1) = False := eq_false (by omega)
          have y1_0 : (1 = 0) = False := eq_false (by omega)
          have z0_2 : (0 = 2) = False := eq_false (by omega)
          have y2_0 : (2 = 0) = False := eq_false (by omega)
          have z0_r2 : (0 = r2) = False := eq_false (by omega)
          have yr2_0 : (r2 = 0) = False := eq_false (by omega)
          have z1_2 : (1 = 2) = False := eq_false (by omega)
          have y2_1 : (2 = 1) = False := eq_false (by omega)
          have z1_r2 : (1 = r2) = False := eq_false (by omega)
          have yr2_1 : (r2 = 1) = False := eq_false (by omega)
          have z2_r2 : (2 = r2) = False := eq_false (by omega)
          have yr2_2 : (r2 = 2) = False := eq_false (by omega)
          have ff := And.intro @b2 (And.intro @z0_1 (And.intro @y1_0 (And.intro @z0_2 (And.intro @y2_0 (And.intro @z0_r2 (And.intro @yr2_0 (And.intro @z1_2 (And.intro @y2_1 (And.intro @z1_r2 (And.intro @yr2_1 (And.intro @z2_r2 (And.intro @yr2_2 ff))))))))))))
          refine cal2 In ?_
          show DW _ _ _ _ _
          refine dw_seq ?_
          refine stp In ?_
          refine cd (fun c4 => ?_) (fun c4 => ?_)
          · skip
            refine stp In ?_
            refine dw_ret ?_
            exact fin 3 (hr := by (try simp only [go_sem, ff]); all_goals (rw [applyP, if_neg p1, if_neg p2, if_pos (by omega)]; try rfl))
          · skip
            refine dw_skip ?_
            show DW _ _ _ _ _
            refine stp In ?_
            obtain ⟨q5, hq5⟩ : ∃ q, q = n2 + 15 := ⟨_, rfl⟩
            rw [← hq5]
            have hq5b : q5 < n2 + 16 := by omega
            have z0_1 : (0 = 1) = False := eq_false (by omega)
            have y1_0 : (1 = 0) = False := eq_false (by omega)
            have z0_2 : (0 = 2) = False := eq_false (by omega)
            have y2_0 : (2 = 0) = False := eq_false (by omega)
            have z0_q5 : (0 = q5) = False := eq_false (by omega)
            have yq5_0 : (q5 = 0) = False := eq_false (by omega)
            have z1_2 : (1 = 2) = False := eq_false (by omega)
            have y2_1 : (2 = 1) = False := eq_false (by omega)
            have z1_q5 : (1 = q5) = False := eq_false (by omega)
            have yq5_1 : (q5 = 1) = False := eq_false (by omega)
            have z2_q5 : (2 = q5) = False := eq_false (by omega)
            have yq5_2 : (q5 = 2) = False := eq_false (by omega)
            have ff := And.intro @hq5b (And.intro @z0_1 (And.intro @y1_0 (And.intro @z0_2 (And.intro @y2_0 (And.intro @z0_q5 (And.intro @yq5_0 (And.intro @z1_2 (And.intro @y2_1 (And.intro @z1_q5 (And.intro @yq5_1 (And.intro @z2_q5 (And.intro @yq5_2 ff))))))))))))
            refine dw_seq (cal1 In 2 (hok := by (try simp only [go_sem, ff]); all_goals (first | done | ((repeat' (with_reducible apply And.intro)) <;> first | exact dcomp_ct | (intros; exact dcomp_ct) | skip))) (hct := by exact sortG (stayP z d ++ d.put) _ _ _ _ (by simp) (by rw [List.length_append]; omega) (stay_names hza hdd) (new_once hza.ord hdd.pord) (by simp only [go_sem, ff, List.map_append])) (hk := ?_))
            rintro res h2 n2 ⟨rfl, rfl, rfl⟩
            refine cal2 In ?_
            show DW _ _ _ _ _
            refine dw_freezet 12 q5 (rows := (sortS (stayP z d ++ d.put)).map Sgd.d) (off := 0) (len := (stayP z d).length + d.put.length) ev ev (by simp [sortS_len]) nrr_sgd ?_
            rw [List.drop_zero, List.take_of_length_le (by simp [sortS_len])]
            refine stp InF ?_ (hok := by (try simp only [go_sem, ff]); all_goals (first | done | ((repeat' (with_reducible apply And.intro)) <;> first | exact dcollssA2_ct _ (new_fit hfa hp hlp (by omega)) | (intros; exact dcollssA2_ct _ (new_fit hfa hp hlp (by omega))) | omega | skip)))
            refine dw_seq ?_
            rcases hb : zoneOk (⟨z.apex, sortS (stayP z d ++ d.put)⟩ : Zon) with _ | _
            · skip
              have ff := And.intro @hb ff
              have ff := And.intro (fm_some (sortS (stayP z d ++ d.put))) ff
              refine stp In ?_ (hok := by (try simp only [go_sem, ff]); all_goals (first | exact zserial_yes (z := (⟨z.apex, sortS (stayP z d ++ d.put)⟩ : Zon)) hb | exact zserial_no (z := (⟨z.apex, sortS (stayP z d ++ d.put)⟩ : Zon)) hb))
              refine stp In ?_
              refine cd (fun c5 => ?_) (fun c5 => ?_) (hq := rfl)
              · skip
                refine stp In ?_
                refine dw_ret ?_
                exact fin 3 (hr := by (try simp only [go_sem, ff]); all_goals (rw [applyP, if_neg p1, if_neg p2, if_neg (by omega), if_pos (by show zoneOk (⟨z.apex, sortS (stayP z d ++ d.put)⟩ : Zon) = false ∨ serialOf (⟨z.apex, sortS (stayP z d ++ d.put)⟩ : Zon) ≠ d.too; rw [hb]; grind)]; try rfl))
              · skip
                first | exact c5.elim | (simp at c5; done)
            · skip
              have ff := And.intro @hb ff
              have ff := And.intro (fm_some (sortS (stayP z d ++ d.put))) ff
              refine stp In ?_ (hok := by (try simp only [go_sem, ff]); all_goals (first | exact zserial_yes (z := (⟨z.apex, sortS (stayP z d ++ d.put)⟩ : Zon)) hb | exact zserial_no (z := (⟨z.apex, sortS (stayP z d ++ d.put)⟩ : Zon)) hb))
              refine stp In ?_
              refine cd (fun c5 => ?_) (fun c5 => ?_)
              · skip
                refine stp In ?_
                refine dw_ret ?_
                exact fin 3 (hr := by (try simp only [go_sem, ff]); all_goals (rw [applyP, if_neg p1, if_neg p2, if_neg (by omega), if_pos (by show zoneOk (⟨z.apex, sortS (stayP z d ++ d.put)⟩ : Zon) = false ∨ serialOf (⟨z.apex, sortS (stayP z d ++ d.put)⟩ : Zon) ≠ d.too; rw [hb]; grind)]; try rfl))
              · skip
                refine dw_skip ?_
                show DW _ _ _ _ _
                refine stp In ?_
                refine dw_ret ?_
                exact fin 3 (hr := by (try simp only [go_sem, ff]); all_goals (rw [applyP, if_neg p1, if_neg p2, if_neg (by omega), if_neg (by show ¬ (zoneOk (⟨z.apex, sortS (stayP z d ++ d.put)⟩ : Zon) = false ∨ serialOf (⟨z.apex, sortS (stayP z d ++ d.put)⟩ : Zon) ≠ d.too); rw [hb]; grind)]; try rfl))

end Go.Proofs.YtipkfnkmdeopeaaGreatDoor
namespace Go.Proofs.YtipkfnkmdeopeaaGreatDoor
open Go.DL Go.Str Go.Rec Go.Cmp Go.Zon
set_option maxRecDepth 10000
set_option linter.unusedSimpArgs false
set_option linter.unusedVariables false
def growQ_ren : Go.Shelf.Ren := { f := fun x => match x with | 4 => 167 | n => n, t := fun x => match x with | 22 => 63 | 25 => 89 | 3 => 3 | 4 => 4 | 9 => 9 | 20 => 20 | 0 => 0 | n => n, g := fun n => n }
theorem growQ : Go.Proofs.Lays8.n4 Tryz.prog growQ_ren := {
  mixed := by kernel_rfl
  f4 := ⟨Tryz.f167.name, by decide, Tryz.func167.trans (by kernel_rfl)⟩
  t0 := Tryz.underlying0
  a0 := Tryz.isAgg0
  z0 := Tryz.sizeOf0
  v0 := Tryz.zeroValue0
  t3 := Tryz.underlying3
  a3 := Tryz.isAgg3
  z3 := Tryz.sizeOf3
  v3 := Tryz.zeroValue3
  t4 := Tryz.underlying4
  a4 := Tryz.isAgg4
  z4 := Tryz.sizeOf4
  v4 := Tryz.zeroValue4
  t9 := Tryz.underlying9
  a9 := Tryz.isAgg9
  z9 := Tryz.sizeOf9
  v9 := Tryz.zeroValue9
  t20 := Tryz.underlying20
  a20 := Tryz.isAgg20
  z20 := Tryz.sizeOf20
  v20 := Tryz.zeroValue20
  t22 := Tryz.underlying63
  a22 := Tryz.isAgg63
  z22 := Tryz.sizeOf63
  v22 := Tryz.zeroValue63 }
def srtQ_ren : Go.Shelf.Ren := { f := fun x => match x with | 6 => 140 | 15 => 115 | 14 => 168 | 28 => 162 | 29 => 163 | 20 => 184 | 21 => 185 | 22 => 186 | 23 => 187 | 24 => 188 | 25 => 189 | 26 => 190 | 27 => 191 | 46 => 198 | 47 => 179 | 48 => 180 | 49 => 199 | 50 => 200 | 57 => 203 | n => n, t := fun x => match x with | 22 => 63 | 24 => 89 | 25 => 140 | 3 => 3 | 39 => 143 | 0 => 0 | 53 => 178 | 55 => 97 | 4 => 4 | 46 => 172 | 45 => 171 | 50 => 116 | 5 => 5 | 9 => 9 | 66 => 187 | 70 => 191 | 76 => 200 | 77 => 201 | n => n, g := fun n => n }
theorem srtQ : Go.Proofs.SlLaysF0.n6 Tryz.prog srtQ_ren := {
  mixed := by kernel_rfl
  f6 := ⟨Tryz.f140.name, by decide, Tryz.func140.trans (by kernel_rfl)⟩
  f14 := ⟨Tryz.f168.name, by decide, Tryz.func168.trans (by kernel_rfl)⟩
  f15 := Tryz.func115.trans (by kernel_rfl)
  f20 := ⟨Tryz.f184.name, by decide, Tryz.func184.trans (by kernel_rfl)⟩
  f21 := ⟨Tryz.f185.name, by decide, Tryz.func185.trans (by kernel_rfl)⟩
  f22 := ⟨Tryz.f186.name, by decide, Tryz.func186.trans (by kernel_rfl)⟩
  f23 := ⟨Tryz.f187.name, by decide, Tryz.func187.trans (by kernel_rfl)⟩
  f24 := ⟨Tryz.f188.name, by decide, Tryz.func188.trans (by kernel_rfl)⟩
  f25 := ⟨Tryz.f189.name, by decide, Tryz.func189.trans (by kernel_rfl)⟩
  f26 := ⟨Tryz.f190.name, by decide, Tryz.func190.trans (by kernel_rfl)⟩
  f27 := ⟨Tryz.f191.name, by decide, Tryz.func191.trans (by kernel_rfl)⟩
  f28 := Tryz.func162.trans (by kernel_rfl)
  f29 := Tryz.func163.trans (by kernel_rfl)
  f46 := ⟨Tryz.f198.name, by decide, Tryz.func198.trans (by kernel_rfl)⟩
  f47 := Tryz.func179.trans (by kernel_rfl)
  f48 := Tryz.func180.trans (by kernel_rfl)
  f49 := ⟨Tryz.f199.name, by decide, Tryz.func199.trans (by kernel_rfl)⟩
  f50 := ⟨Tryz.f200.name, by decide, Tryz.func200.trans (by kernel_rfl)⟩
  f57 := ⟨Tryz.f203.name, by decide, Tryz.func203.trans (by kernel_rfl)⟩
  t0 := Tryz.underlying0
  a0 := Tryz.isAgg0
  z0 := Tryz.sizeOf0
  v0 := Tryz.zeroValue0
  t3 := Tryz.underlying3
  a3 := Tryz.isAgg3
  z3 := Tryz.sizeOf3
  v3 := Tryz.zeroValue3
  t4 := Tryz.underlying4
  a4 := Tryz.isAgg4
  z4 := Tryz.sizeOf4
  v4 := Tryz.zeroValue4
  t5 := Tryz.underlying5
  a5 := Tryz.isAgg5
  z5 := Tryz.sizeOf5
  v5 := Tryz.zeroValue5
  t9 := Tryz.underlying9
  a9 := Tryz.isAgg9
  z9 := Tryz.sizeOf9
  v9 := Tryz.zeroValue9
  t22 := Tryz.underlying63
  a22 := Tryz.isAgg63
  z22 := Tryz.sizeOf63
  v22 := Tryz.zeroValue63
  t25 := Tryz.underlying140
  a25 := Tryz.isAgg140
  z25 := Tryz.sizeOf140
  v25 := Tryz.zeroValue140
  t39 := Tryz.underlying143
  a39 := Tryz.isAgg143
  z39 := Tryz.sizeOf143
  v39 := Tryz.zeroValue143
  t45 := Tryz.underlying171
  a45 := Tryz.isAgg171
  z45 := Tryz.sizeOf171
  v45 := Tryz.zeroValue171
  t46 := Tryz.underlying172
  a46 := Tryz.isAgg172
  z46 := Tryz.sizeOf172
  v46 := Tryz.zeroValue172
  t50 := Tryz.underlying116
  a50 := Tryz.isAgg116
  z50 := Tryz.sizeOf116
  v50 := Tryz.zeroValue116
  t53 := Tryz.underlying178
  a53 := Tryz.isAgg178
  z53 := Tryz.sizeOf178
  v53 := Tryz.zeroValue178
  t55 := Tryz.underlying97
  a55 := Tryz.isAgg97
  z55 := Tryz.sizeOf97
  v55 := Tryz.zeroValue97
  t66 := Tryz.underlying187
  a66 := Tryz.isAgg187
  z66 := Tryz.sizeOf187
  v66 := Tryz.zeroValue187
  t70 := Tryz.underlying191
  a70 := Tryz.isAgg191
  z70 := Tryz.sizeOf191
  v70 := Tryz.zeroValue191
  t76 := Tryz.underlying200
  a76 := Tryz.isAgg200
  z76 := Tryz.sizeOf200
  v76 := Tryz.zeroValue200
  t77 := Tryz.underlying201
  a77 := Tryz.isAgg201
  z77 := Tryz.sizeOf201
  v77 := Tryz.zeroValue201 }
theorem sortH (l : List Qst) (m : Nat) (h : H) (n r : Nat) (hm : m = l.length) (hl : l.length ≤ 1000000) (hn : ∀ s ∈ l, nameOk (s).name = true) (hr : h r = some ⟨89, l.map Qst.d⟩) :
    RCt Tryz.prog 140 [.mrow r 0 m, .fn (.func 169) [] [.eptr [.fn (.func 138) [] []]]] h n (fun d h' n' => d = .tuple [] ∧ n' = n ∧ h' = upd h r (some ⟨89, (sortQ l).map Qst.d⟩)) := by
  have e : m = (l.map Qst.d).length := by simp [hm]
  rw [e]
  have hx : ∀ x ∈ l.map Qst.d, Qst.d (Qst.of x) = x ∧ nameOk ((fun s : Qst => s) (Qst.of x)).name = true := fun x hx => by
    obtain ⟨s, hs, rfl⟩ := List.mem_map.1 hx
    rw [of_qst]
    exact ⟨rfl, hn s hs⟩
  have hc : ∀ x ∈ l.map Qst.d, ∀ y ∈ l.map Qst.d, qC (Qst.of x) (Qst.of y) = qp (Qst.of x) (Qst.of y) := fun x h1 y h2 => qC_qp (hx x h1).2 (hx y h2).2
  refine (sort_rct (ty := 89) srtQ rfl rfl Tryz.isAgg89 Tryz.sizeOf89 (fun x y => qC (Qst.of x) (Qst.of y)) (by kernel_rfl) hr nrr_qst rfl (by simp; omega) (fun x h1 y h2 => ?_) ⟨fun x h1 => ?_, fun x h1 y h2 z h3 => ?_, fun x h1 y h2 z h3 => ?_⟩).mono ?_
  · have := dcmp1q_ct (Qst.of x) (Qst.of y)
    rw [(hx x h1).1, (hx y h2).1] at this
    exact this
  · rw [hc x h1 x h1, cm_q.self]; omega
  · rw [hc x h1 y h2, hc y h2 z h3, hc x h1 z h3]
    intro a b; exact cm_q.lt_le a (by omega)
  · rw [hc x h1 y h2, hc y h2 z h3, hc x h1 z h3]
    intro a b
    have h1 := cm_q.anti (Qst.of x) (Qst.of y); have h2 := cm_q.anti (Qst.of y) (Qst.of z); have h3 := cm_q.anti (Qst.of x) (Qst.of z)
    have := cm_q.tr (Qst.of z) (Qst.of y) (Qst.of x) (by omega) (by omega)
    omega
  · rintro d h' n' ⟨rfl, rfl, rows', hp, hs, rfl⟩
    obtain ⟨q1, q2⟩ := rows_sorted of_qst hp
    refine ⟨rfl, rfl, ?_⟩
    have hs' : (rows'.map Qst.of).Pairwise fun a b => qp a b ≤ 0 := by
      rw [List.pairwise_map]
      refine hs.imp_of_mem fun {a b} h1 h2 h3 => ?_
      have h3 : ¬ (fun x y => qC (Qst.of x) (Qst.of y)) b a < 0 := h3
      dsimp only at h3
      have h4 := hc b (hp.mem_iff.1 h2) a (hp.mem_iff.1 h1)
      rw [h4] at h3
      have := cm_q.anti (Qst.of a) (Qst.of b)
      omega
    rw [← sortQ_eq q2 hs', q1]
theorem dstayJ_ct (d e : Dlt) (hl : fitL d.put) (h : H) (n : Nat) : RCt Tryz.prog 68 [.list false (d.put.map Sgd.d), .fn (.func 137) [] [.eptr [.fmap (kvP (zp (goesZ (mapZ e.put) e.drop e.drop.length)))]]] h n (fun x h' n' => ∃ r, x = .mrow r 0 (stayJ d e).length ∧ h' = upd h r (some ⟨86, (stayJ d e).map Sgd.d⟩) ∧ n ≤ r ∧ r < n') := dcollssJ1_ct d.put _ hl h n
theorem bo143 : hasBody Tryz.prog 143 = true := by kernel_rfl
theorem compactQ_ct (l : List Qst) (m : Nat) (h : H) (n r : Nat) (hm : m = l.length) (hl : l.length ≤ 1000000) (hr : h r = some ⟨89, l.map Qst.d⟩) : RCt Tryz.prog 143 [.mrow r 0 m] h n (fun d h' n' => d = .mrow r 0 (cpF l).length ∧ h' = upd h r (some ⟨89, (cpF l).map Qst.d⟩) ∧ n ≤ n') := by
  refine rct_of_dw Tryz.func143 rfl bo143 (by simp [Tryz.f143]) (fun hnone => ?_)
  unfold Tryz.f143
  have ff := True.intro
  subst hm
  have ff := And.intro @hr ff
  refine stp In ?_
  refine dw_seq ?_
  refine stp In ?_
  refine cd (fun c1 => ?_) (fun c1 => ?_)
  · skip
    refine stp In ?_
    refine dw_ret ?_
    exact finr (upd h r (some ⟨89, (cpF l).map Qst.d⟩)) (hr := by (try simp only [go_sem, ff]); all_goals (rw [cpF_same (by intro i h1 h2; omega)]; first | exact ⟨rfl, by omega⟩ | exact ⟨rfl, rfl, by omega⟩ | omega)) (hh := by rw [cpF_same (by intro i h1 h2; omega)]; intro q; left; unfold upd; split; rename_i e; subst e; exact hr.symm; rfl)
  · skip
    refine dw_skip ?_
    show DW _ _ _ _ _
    refine dw_seq ?_
    refine stp In ?_
    refine dw_block ?_
    refine lph (α := (Nat) × Nat) [0] (fun ⟨k, nx⟩ => (k ≤ l.length) ∧ (1 ≤ k) ∧ (n ≤ nx) ∧ (∀ i, 0 < i → i < k → l[i]! ≠ l[i - 1]!) ∧ True) (fun ⟨k, nx⟩ => l.length - k) (fun ⟨k, nx⟩ => [(3, .i k)]) (fun ⟨k, nx⟩ => h) (fun ⟨k, nx⟩ => nx) (1, _) (hA := ⟨(by first | (omega) | (dsimp only; omega)), (by first | (omega) | (dsimp only; omega)), iv, (by first | (intro i h1 h2; omega) | (dsimp only; intro i h1 h2; omega)), trivial⟩) (round := ?_)
    rintro ⟨k, nx⟩ ⟨hk, hk1, hn, hv, -⟩
    show DW _ _ _ _ { n := _, t := tab _, h := _, nx := _, e := _ }
    simp only [List.cons_append, List.nil_append]
    refine dw_seq ?_
    refine stp In ?_
    refine cd (fun c2 => ?_) (fun c2 => ?_)
    · skip
      have hk2 : k < l.length := by omega
      have hk3 : k - 1 < l.length := by omega
      have e1 : ((k:Int) - 1).toNat = k - 1 := by omega
      have ff := And.intro (getD_qst hk2) (And.intro (getD_qst hk3) (And.intro @e1 ff))
      refine dw_skip ?_
      show DW _ _ _ _ _
      refine dw_seq ?_
      refine dw_block ?_
      refine stp In ?_
      refine cd (fun c3 => ?_) (fun c3 => ?_)
      · skip
        have heq : ¬ (k = 0 ∨ l[k]! ≠ l[k - 1]!) := by rintro (q | q); omega; exact q (qst_eqF c3)
        have hcp : cpTo l (k + 1) = l.take k := by rw [cp_no heq, cp_take k (by omega) hv]
        have hcr : cpR l (k + 1) = l.map Qst.d := by rw [cpR_skip heq, cpR_same (by omega) hv]
        have hcl : (l.take k).length = k := by rw [List.length_take]; omega
        refine stp In ?_
        refine dw_seq ?_
        refine stp In ?_
        refine dw_block ?_
        have ff := And.intro @hcp (And.intro @hcr (And.intro @hcl ff))
        refine lph (α := (Nat) × Nat) [0, 4] (fun ⟨k2, nx⟩ => (k + k2 ≤ l.length) ∧ (1 ≤ k2) ∧ (n ≤ nx) ∧ ((cpTo l (k + k2)).length < k + k2) ∧ True) (fun ⟨k2, nx⟩ => l.length - k - k2) (fun ⟨k2, nx⟩ => [(3, .i (cpTo l (k + k2)).length), (5, .i k2)]) (fun ⟨k2, nx⟩ => upd h r (some ⟨89, cpR l (k + k2)⟩)) (fun ⟨k2, nx⟩ => nx) (1, _) (hA := ⟨(by first | (omega) | (dsimp only; omega)), iv, iv, (by first | (rw [hcp, hcl]; omega) | (dsimp only; rw [hcp, hcl]; omega)), trivial⟩) (round := ?_) (hhh := by intro q; left; dsimp only; rw [hcr]; unfold upd; split; rename_i e; subst e; exact hr.symm; rfl)
        rintro ⟨k2, nx⟩ ⟨hk2b, hk21, hn2, hcl2, -⟩
        show DW _ _ _ _ { n := _, t := tab _, h := _, nx := _, e := _ }
        simp only [List.cons_append, List.nil_append]
        refine dw_seq ?_
        refine stp In ?_
        refine cd (fun c4 => ?_) (fun c4 => ?_)
        · skip
          have hj : k + k2 < l.length := by omega
          have hcl := cpR_len (l := l) (k := k + k2) (by omega)
          have e1 : ((k2:Int) - 1).toNat = k2 - 1 := by omega
          have e2 : k + (k2 - 1) = k + k2 - 1 := by omega
          have ga := cpR_at (l := l) (k := k + k2) (i := k + k2) (by omega) hj
          have gb := cpR_at (l := l) (k := k + k2) (i := k + k2 - 1) (by omega) (by omega)
          have gc := cpR_at (l := l) (k := k + k2) (i := (cpTo l (k + k2)).length) (Nat.le_refl _) (by omega)
          have ff := And.intro @e1 (And.intro @e2 (And.intro @ga (And.intro @gb (And.intro @gc (And.intro @hcl ff)))))
          refine dw_skip ?_
          show DW _ _ _ _ _
          refine dw_seq ?_
          refine dw_block ?_
          refine stp In ?_
          refine cd (fun c5 => ?_) (fun c5 => ?_)
          · skip
            refine stp In ?_
            refine rgn In ?_
            show DW _ _ _ _ _
            refine rgn In ?_
            show ∃ _, _
            have hst : k + k2 = 0 ∨ l[k + k2]! ≠ l[k + k2 - 1]! := .inr (qst_neF c5)
            have hs1 := cpR_set hst hj
            have hs2 : cpTo l (k + (k2 + 1)) = cpTo l (k + k2) ++ [l[k + k2]!] := cp_yes hst
            have hs3 : cpR l (k + (k2 + 1)) = cpR l (k + k2 + 1) := rfl
            have hs4 : (cpTo l (k + (k2 + 1))).length = (cpTo l (k + k2)).length + 1 := by rw [hs2]; simp
            have ff := And.intro hs1 (And.intro hs3 (And.intro hs4 ff))
            refine rnd (k2 + 1, _) (h1 := ⟨iv, iv, iv, (by (try dsimp only); rw [show k + (k2 + 1) = k + k2 + 1 from by omega]; first | (rw [cp_yes hst, List.length_append, List.length_singleton]; omega) | (rw [cp_no hst]; omega)), trivial⟩) (h5 := ?_)
            intro q; left; simp only [upd]; split <;> simp_all
          · skip
            refine dw_skip ?_
            show DW _ _ _ _ _
            refine rgn In ?_
            show ∃ _, _
            have hst : ¬ (k + k2 = 0 ∨ l[k + k2]! ≠ l[k + k2 - 1]!) := by rintro (q | q); omega; exact q (qst_eqF (by grind))
            have hs3 : cpR l (k + (k2 + 1)) = cpR l (k + k2) := cpR_skip hst
            have hs4 : cpTo l (k + (k2 + 1)) = cpTo l (k + k2) := cp_no hst
            have ff := And.intro hs3 (And.intro hs4 ff)
            refine rnd (k2 + 1, _) (h1 := ⟨iv, iv, iv, (by (try dsimp only); rw [show k + (k2 + 1) = k + k2 + 1 from by omega]; first | (rw [cp_yes hst, List.length_append, List.length_singleton]; omega) | (rw [cp_no hst]; omega)), trivial⟩) (h5 := ?_)
            intro q; left; simp only [upd]; split <;> simp_all
        · skip
          have e9 : k + k2 = l.length := by omega
          have hcl := cpR_len (l := l) (k := l.length) (Nat.le_refl _)
          have hcq := cp_len l l.length
          have ff := And.intro @e9 (And.intro @hcl ff)
          refine dw_exit ?_
          show DW _ _ _ _ _
          refine dw_seq (dw_seg ?_)
          refine seg_clear (C := In) 3 (by omega) (arr_at rfl) rfl rfl (by kernel_rfl) (by kernel_rfl) (by kernel_rfl) (by simp only [List.drop_succ_cons, List.drop_zero, List.take_succ_cons, List.take_zero, S.put, Nat.sub_self, go_sem, ff]; exact rfl) ?_ (by rfl) (by simp only [go_sem, ff]; exact rfl) (by simp only [go_sem, ff]; exact rfl) (by rw [cpR_len (by omega)]; omega) ?_
          · try simp only [go_sem, ff]
            all_goals exact ok0
          refine seg_done (C := In) (by first | decide | simp) (by simp only [List.drop_succ_cons, List.drop_zero, List.take_succ_cons, List.take_zero, S.put, Nat.sub_self, go_sem, ff]; exact rfl) ?_ rfl ?_
          · try simp only [go_sem, ff]
            all_goals exact ok0
          try simp only [clear_eq]
          refine stp In ?_
          refine dw_ret ?_
          exact finr (upd h r (some ⟨89, (cpF l).map Qst.d⟩)) (hr := by (try simp only [go_sem, ff]); all_goals (first | omega | exact ⟨by simp_all [cpF], by omega⟩ | exact ⟨by simp_all [cpF], rfl, by omega⟩)) (hh := by intro q; left; simp only [upd]; split <;> simp_all [cpR_take, cpF])
      · skip
        refine dw_skip ?_
        show DW _ _ _ _ _
        refine rgn In ?_
        show ∃ _, _
        exact rnd (k + 1, _) (h1 := ⟨iv, iv, iv, (by (try dsimp only); intro i h1 h2; by_cases e : i = k; subst e; exact qst_neF (by grind); exact hv i h1 (by omega)), trivial⟩)
    · skip
      have e9 : k = l.length := by omega
      subst e9
      refine dw_exit ?_
      show DW _ _ _ _ _
      refine stp In ?_
      refine dw_ret ?_
      exact finr (upd h r (some ⟨89, (cpF l).map Qst.d⟩)) (hr := by (try simp only [go_sem, ff]); all_goals (rw [cpF_same hv]; first | exact ⟨rfl, by omega⟩ | exact ⟨rfl, rfl, by omega⟩ | omega)) (hh := by rw [cpF_same hv]; intro q; left; unfold upd; split; rename_i e; subst e; exact hr.symm; rfl)
theorem bo139 : hasBody Tryz.prog 139 = true := by kernel_rfl
theorem concatQ_ct (a b : List Qst) (ha : a.length ≤ 20000) (hb : b.length ≤ 20000) (h : H) (n : Nat) : RCt Tryz.prog 139 [.list false [[.list false (a.map Qst.d)], [.list false (b.map Qst.d)]]] h n (fun d h' n' => ∃ r, d = .mrow r 0 (a ++ b).length ∧ h' = upd h r (some ⟨89, (a ++ b).map Qst.d⟩) ∧ n ≤ r ∧ r < n') := by
  refine rct_of_dw Tryz.func139 rfl bo139 (by simp [Tryz.f139]) (fun hnone => ?_)
  unfold Tryz.f139
  have ff := True.intro
  refine stp In ?_
  refine stp In ?_
  refine dw_seq ?_
  refine stp In ?_
  refine dw_block ?_
  refine lph (α := (Nat) × Nat) [0, 9, 10] (fun ⟨k, nx⟩ => (k ≤ 2) ∧ (n ≤ nx) ∧ True) (fun ⟨k, nx⟩ => 2 - k) (fun ⟨k, nx⟩ => [(3, .i (catL a b (k)).length), (11, .i k)]) (fun ⟨k, nx⟩ => h) (fun ⟨k, nx⟩ => nx) (0, _) (hA := ⟨iv, iv, trivial⟩) (round := ?_)
  rintro ⟨k, nx⟩ ⟨hk, hn, -⟩
  show DW _ _ _ _ { n := _, t := tab _, h := _, nx := _, e := _ }
  simp only [List.cons_append, List.nil_append]
  have hcl := catL_len a b k
  refine stp In ?_
  refine dw_seq ?_
  refine cd (fun c1 => ?_) (fun c1 => ?_) (hp := rfl) (hq := rfl)
  · skip
    have h01 : k = 0 ∨ k = 1 := by have h9 : (k:Int) < 2 := (by simpa using c1); omega
    refine dw_skip ?_
    show DW _ _ _ _ _
    refine dw_seq ?_
    refine dw_block ?_
    rcases h01 with e0 | e0
    · skip
      have ff := And.intro @e0 ff
      refine stp In ?_
      refine stp In ?_
      refine stp In ?_
      refine cd (fun c2 => ?_) (fun c2 => ?_) (hp := rfl)
      · skip
        exfalso; simp at c2; omega
      · skip
        refine dw_skip ?_
        show DW _ _ _ _ _
        refine rgn In ?_
        show ∃ _, _
        exact rnd (k + 1, _) (h1 := ⟨iv, iv, trivial⟩) (h3 := by (try simp only [go_sem, ff]); all_goals (first | done | (simp [catL]; done) | (simp [catL]; omega))) (h4 := by (try simp only [go_sem, ff]); all_goals (first | done | (simp [catL]; done) | (simp [catL]; omega)))
    · skip
      have ff := And.intro @e0 ff
      refine stp In ?_
      refine stp In ?_
      refine stp In ?_
      refine cd (fun c2 => ?_) (fun c2 => ?_) (hp := rfl)
      · skip
        exfalso; simp at c2; omega
      · skip
        refine dw_skip ?_
        show DW _ _ _ _ _
        refine rgn In ?_
        show ∃ _, _
        exact rnd (k + 1, _) (h1 := ⟨iv, iv, trivial⟩) (h3 := by (try simp only [go_sem, ff]); all_goals (first | done | (simp [catL]; done) | (simp [catL]; omega))) (h4 := by (try simp only [go_sem, ff]); all_goals (first | done | (simp [catL]; done) | (simp [catL]; omega)))
  · skip
    have e9 : k = 2 := by have h9 : ¬ (k:Int) < 2 := (by simpa using c1); omega
    subst e9
    refine dw_exit ?_
    show DW _ _ _ _ _
    refine dw_seq (cal0 In 1 (hct := by exact grow_rct (fG := 167) (ty := 89) growQ rfl rfl (by kernel_rfl) (by kernel_rfl) (of_decide_eq_true (by kernel_rfl)) (m := (a ++ b).length) (by rw [List.length_append]; simp only [go_sem]; omega) (by rw [List.length_append]; omega)) (hk := ?_))
    rintro res h2 n2 ⟨rfl, rfl, rfl⟩
    refine cal2 In ?_
    show DW _ _ _ _ _
    refine dw_seq ?_
    refine stp In ?_
    refine dw_block ?_
    refine lph (α := (Nat) × (Nat) × Nat) [25, 26] (fun ⟨k, r, nx⟩ => (k ≤ 2) ∧ (n ≤ r) ∧ (r < nx) ∧ True) (fun ⟨k, r, nx⟩ => 2 - k) (fun ⟨k, r, nx⟩ => [(6, .mrow r 0 (catL a b (k)).length), (27, .i k)]) (fun ⟨k, r, nx⟩ => upd h r (some ⟨89, (catL a b (k)).map Qst.d⟩)) (fun ⟨k, r, nx⟩ => nx) (0, nx + 2, _) (hA := ⟨iv, iv, iv, trivial⟩) (round := ?_)
    rintro ⟨k, r, nx⟩ ⟨hk, hn, hr, -⟩
    show DW _ _ _ _ { n := _, t := tab _, h := _, nx := _, e := _ }
    simp only [List.cons_append, List.nil_append]
    have hcl := catL_len a b k
    have ff := And.intro @hr ff
    refine stp In ?_
    refine dw_seq ?_
    refine cd (fun c3 => ?_) (fun c3 => ?_) (hp := rfl) (hq := rfl)
    · skip
      have h01 : k = 0 ∨ k = 1 := by have h9 : (k:Int) < 2 := (by simpa using c3); omega
      refine dw_skip ?_
      show DW _ _ _ _ _
      refine dw_seq ?_
      refine dw_block ?_
      rcases h01 with e0 | e0
      · skip
        have ff := And.intro @e0 ff
        refine stp In ?_
        refine rgn In ?_
        show DW _ _ _ _ _
        refine rgn In ?_
        show ∃ _, _
        refine rnd (k + 1, (nx + 6), _) (h1 := ⟨iv, iv, iv, trivial⟩) (h5 := ?_)
        refine less_fresh hnone (by simp only [go_sem, ff, List.map_append]) (fun q hq => ?_)
        simp only [upd]
        repeat rw [if_neg (by omega)]
      · skip
        have ff := And.intro @e0 ff
        refine stp In ?_
        refine rgn In ?_
        show DW _ _ _ _ _
        refine rgn In ?_
        show ∃ _, _
        refine rnd (k + 1, (nx + 6), _) (h1 := ⟨iv, iv, iv, trivial⟩) (h5 := ?_)
        refine less_fresh hnone (by simp only [go_sem, ff, List.map_append]) (fun q hq => ?_)
        simp only [upd]
        repeat rw [if_neg (by omega)]
    · skip
      have e9 : k = 2 := by have h9 : ¬ (k:Int) < 2 := (by simpa using c3); omega
      subst e9
      refine dw_exit ?_
      show DW _ _ _ _ _
      refine stp In ?_
      refine dw_ret ?_
      exact finr (upd h r (some ⟨89, (a ++ b).map Qst.d⟩)) (hr := by (try simp only [go_sem, ff]); all_goals (exact ⟨r, rfl, rfl, by omega, by omega⟩))

end Go.Proofs.YtipkfnkmdeopeaaGreatDoor
namespace Go.Proofs.YtipkfnkmdeopeaaGreatDoor
open Go.DL Go.Str Go.Rec Go.Cmp Go.Zon
set_option maxRecDepth 10000
set_option linter.unusedSimpArgs false
set_option linter.unusedVariables false
theorem bo107 : hasBody Tryz.prog 107 = true := by kernel_rfl
theorem djoin_ct (d : Dlt) (e : Dlt) (hpd : fitL d.put) (hpe : fitL e.put) : PureCt Tryz.prog 107 [.agg d.d, .agg e.d] (.tuple [.agg (joinP d e).1.d, .i (joinP d e).2]) := by
  refine pure_of_dw Tryz.func107 rfl bo107 (by simp [go_sem, D.nr, nrs, nrr]) (by simp [Tryz.f107]) ?_
  unfold Tryz.f107
  simp only [init_eq]
  have ff := True.intro
  refine stp In ?_
  refine dw_seq ?_
  refine stp In ?_ (hok := by (try simp only [go_sem, ff]); all_goals (first | done | ((repeat' (with_reducible apply And.intro)) <;> first | exact dinform_ct d | (intros; exact dinform_ct d) | exact (fun _ => dinform_ct e) | (intros; exact (fun _ => dinform_ct e)) | skip)))
  refine cd (fun c1 => ?_) (fun c1 => ?_)
  · skip
    refine stp In ?_
    refine dw_ret ?_
    exact fin 3 (hr := by (try simp only [go_sem, ff]); all_goals (rw [joinP, if_pos (by grind)]; try rfl))
  · skip
    have hd : dltOk d = true := by grind
    have he : dltOk e = true := by grind
    have hax : d.apex = e.apex := by grind
    have p1 : ¬ (dltOk d = false ∨ dltOk e = false ∨ d.apex ≠ e.apex) := by rintro (q | q | q); rw [hd] at q; cases q; rw [he] at q; cases q; exact q hax
    have hdd := dlt_iff.1 hd
    have hde := dlt_iff.1 he
    have hld := hdd.dlen
    have hlp := hdd.plen
    have hle := hde.dlen
    have hlq := hde.plen
    have hs1 := hdd.frm
    have hs2 := hde.too
    have hsl := stayJ_len d e
    have hdl := dropP_len d e
    have hpl := putP_len d e
    refine dw_skip ?_
    show DW _ _ _ _ _
    refine dw_seq ?_
    refine stp In ?_ (hok := by (try simp only [go_sem, ff]); all_goals (first | done | ((repeat' (with_reducible apply And.intro)) <;> first | exact (fun _ => dbefore_ct _ _ hs1 hs2) | (intros; exact (fun _ => dbefore_ct _ _ hs1 hs2)) | skip)))
    refine cd (fun c2 => ?_) (fun c2 => ?_)
    · skip
      have p2 : d.too ≠ e.frm ∨ befB d.frm e.too = false := by grind
      refine stp In ?_
      refine dw_ret ?_
      exact fin 3 (hr := by (try simp only [go_sem, ff]); all_goals (rw [joinP, if_neg p1, if_pos p2]; try rfl))
    · skip
      have p2 : ¬ (d.too ≠ e.frm ∨ befB d.frm e.too = false) := by grind
      refine dw_skip ?_
      show DW _ _ _ _ _
      refine dw_seq (cal1 In 2 (hct := by exact dbyplaceL_ct e.put hpe.1 _ _) (hk := ?_))
      rintro res h2 n2 ⟨r1, rfl, rfl, a1, b1⟩
      try dsimp only at a1 b1
      have z0_1 : (0 = 1) = False := eq_false (by omega)
      have y1_0 : (1 = 0) = False := eq_false (by omega)
      have z0_2 : (0 = 2) = False := eq_false (by omega)
      have y2_0 : (2 = 0) = False := eq_false (by omega)
      have z0_r1 : (0 = r1) = False := eq_false (by omega)
      have yr1_0 : (r1 = 0) = False := eq_false (by omega)
      have z0_n23 : (0 = n2 + 3) = False := eq_false (by omega)
      have yn23_0 : (n2 + 3 = 0) = False := eq_false (by omega)
      have z1_2 : (1 = 2) = False := eq_false (by omega)
      have y2_1 : (2 = 1) = False := eq_false (by omega)
      have z1_r1 : (1 = r1) = False := eq_false (by omega)
      have yr1_1 : (r1 = 1) = False := eq_false (by omega)
      have z1_n23 : (1 = n2 + 3) = False := eq_false (by omega)
      have yn23_1 : (n2 + 3 = 1) = False := eq_false (by omega)
      have z2_r1 : (2 = r1) = False := eq_false (by omega)
      have yr1_2 : (r1 = 2) = False := eq_false (by omega)
      have z2_n23 : (2 = n2 + 3) = False := eq_false (by omega)
      have yn23_2 : (n2 + 3 = 2) = False := eq_false (by omega)
      have zr1_n23 : (r1 = n2 + 3) = False := eq_false (by omega)
      have yn23_r1 : (n2 + 3 = r1) = False := eq_false (by omega)
      have ff := And.intro @b1 (And.intro @z0_1 (And.intro @y1_0 (And.intro @z0_2 (And.intro @y2_0 (And.intro @z0_r1 (And.intro @yr1_0 (And.intro @z0_n23 (And.intro @yn23_0 (And.intro @z1_2 (And.intro @y2_1 (And.intro @z1_r1 (And.intro @yr1_1 (And.intro @z1_n23 (And.intro @yn23_1 (And.intro @z2_r1 (And.intro @yr1_2 (And.intro @z2_n23 (And.intro @yn23_2 (And.intro @zr1_n23 (And.intro @yn23_r1 ff))))))))))))))))))))
      refine cal2 In ?_
      show DW _ _ _ _ _
      refine dw_seq ?_
      refine stp In ?_
      refine dw_block ?_
      refine lp (α := (Nat) × (Nat) × Nat) [2, 3, 4, 47, 48] (fun ⟨k, q, nx⟩ => (k ≤ e.drop.length) ∧ (q < nx) ∧ (r1 < q) ∧ (2 < r1) ∧ True) (fun ⟨k, q, nx⟩ => e.drop.length - k) (fun ⟨k, q, nx⟩ => [(6, .mptr q 0 0), (49, .i k)]) (fun ⟨k, q, nx⟩ => [(0, ⟨65, [d.d]⟩), (1, ⟨65, [e.d]⟩), (2, ⟨65, [[.v (.string (bs [])), .i 0, .i 0, .list true [], .list true []]]⟩), (q, ⟨101, [[.mp r1]]⟩), (r1, ⟨101, mapRows (kvZ (goesZ (mapZ e.put) e.drop (k)))⟩)]) (fun ⟨k, q, nx⟩ => nx) (0, n2 + 3, _) (hA := ⟨iv, iv, iv, iv, trivial⟩) (round := ?_)
      rintro ⟨k, q, nx⟩ ⟨hk, hq, hqr, hr1, -⟩
      show DW _ _ _ _ { n := _, t := tab _, h := _, nx := _, e := _ }
      simp only [List.cons_append, List.nil_append]
      have n0 : 0 < nx := by omega
      have hrn : r1 < nx := by omega
      have z0_1 : (0 = 1) = False := eq_false (by omega)
      have y1_0 : (1 = 0) = False := eq_false (by omega)
      have z0_2 : (0 = 2) = False := eq_false (by omega)
      have y2_0 : (2 = 0) = False := eq_false (by omega)
      have z0_q : (0 = q) = False := eq_false (by omega)
      have yq_0 : (q = 0) = False := eq_false (by omega)
      have z0_r1 : (0 = r1) = False := eq_false (by omega)
      have yr1_0 : (r1 = 0) = False := eq_false (by omega)
      have z1_2 : (1 = 2) = False := eq_false (by omega)
      have y2_1 : (2 = 1) = False := eq_false (by omega)
      have z1_q : (1 = q) = False := eq_false (by omega)
      have yq_1 : (q = 1) = False := eq_false (by omega)
      have z1_r1 : (1 = r1) = False := eq_false (by omega)
      have yr1_1 : (r1 = 1) = False := eq_false (by omega)
      have z2_q : (2 = q) = False := eq_false (by omega)
      have yq_2 : (q = 2) = False := eq_false (by omega)
      have z2_r1 : (2 = r1) = False := eq_false (by omega)
      have yr1_2 : (r1 = 2) = False := eq_false (by omega)
      have zq_r1 : (q = r1) = False := eq_false (by omega)
      have yr1_q : (r1 = q) = False := eq_false (by omega)
      have ff := And.intro @hq (And.intro @n0 (And.intro @hrn (And.intro @z0_1 (And.intro @y1_0 (And.intro @z0_2 (And.intro @y2_0 (And.intro @z0_q (And.intro @yq_0 (And.intro @z0_r1 (And.intro @yr1_0 (And.intro @z1_2 (And.intro @y2_1 (And.intro @z1_q (And.intro @yq_1 (And.intro @z1_r1 (And.intro @yr1_1 (And.intro @z2_q (And.intro @yq_2 (And.intro @z2_r1 (And.intro @yr1_2 (And.intro @zq_r1 (And.intro @yr1_q ff))))))))))))))))))))))
      refine stp In ?_
      refine dw_seq ?_
      refine cd (fun c3 => ?_) (fun c3 => ?_) (hp := rfl)
      · skip
        have hk2 : k < e.drop.length := by simpa using c3
        have ff := And.intro (getD_qst hk2) ff
        refine dw_skip ?_
        show DW _ _ _ _ _
        refine dw_seq ?_
        refine dw_block ?_
        refine stp In ?_
        refine rgn In ?_
        show DW _ _ _ _ _
        refine rgn In ?_
        show ∃ _, _
        have ff := And.intro (show zset (goesZ (mapZ e.put) e.drop (k)) e.drop[k]! none = goesZ (mapZ e.put) e.drop (k + 1) from rfl) ff
        exact rnd (k + 1, q, _) (h1 := ⟨iv, iv, iv, iv, trivial⟩)
      · skip
        have e8 : k = e.drop.length := by omega
        subst e8
        refine dw_exit ?_
        show DW _ _ _ _ _
        refine dw_freezemc q 0 r1 ev rfl ev rfl (by omega) nrs_kvZ ?_
        simp only [List.set_cons_zero]
        refine dw_freezepw 6 q ev ev nrs_fmapZ ?_
        refine dw_seq (cal1 In 3 (hct := by exact dstayJ_ct d e hpd _ _) (hk := ?_))
        rintro res h2 n2 ⟨r2, rfl, rfl, a2, b2⟩
        try dsimp only at a2 b2
        have z0_1 : (0 = 1) = False := eq_false (by omega)
        have y1_0 : (1 = 0) = False := eq_false (by omega)
        have z0_2 : (0 = 2) = False := eq_false (by omega)
        have y2_0 : (2 = 0) = False := eq_false (by omega)
        have z0_r2 : (0 = r2) = False := eq_false (by omega)
        have yr2_0 : (r2 = 0) = False := eq_false (by omega)
        have z1_2 : (1 = 2) = False := eq_false (by omega)
        have y2_1 : (2 = 1) = False := eq_false (by omega)
        have z1_r2 : (1 = r2) = False := eq_false (by omega)
        have yr2_1 : (r2 = 1) = False := eq_false (by omega)
        have z2_r2 : (2 = r2) = False := eq_false (by omega)
        have yr2_2 : (r2 = 2) = False := eq_false (by omega)
        have ff := And.intro @b2 (And.intro @z0_1 (And.intro @y1_0 (And.intro @z0_2 (And.intro @y2_0 (And.intro @z0_r2 (And.intro @yr2_0 (And.intro @z1_2 (And.intro @y2_1 (And.intro @z1_r2 (And.intro @yr2_1 (And.intro @z2_r2 (And.intro @yr2_2 ff))))))))))))
        refine cal2 In ?_
        show DW _ _ _ _ _
        refine stp In ?_
        obtain ⟨q5, hq5⟩ : ∃ q, q = n2 + 8 := ⟨_, rfl⟩
        rw [← hq5]
        have hq5b : q5 < n2 + 9 := by omega
        have z0_1 : (0 = 1) = False := eq_false (by omega)
        have y1_0 : (1 = 0) = False := eq_false (by omega)
        have z0_2 : (0 = 2) = False := eq_false (by omega)
        have y2_0 : (2 = 0) = False := eq_false (by omega)
        have z0_q5 : (0 = q5) = False := eq_false (by omega)
        have yq5_0 : (q5 = 0) = False := eq_false (by omega)
        have z1_2 : (1 = 2) = False := eq_false (by omega)
        have y2_1 : (2 = 1) = False := eq_false (by omega)
        have z1_q5 : (1 = q5) = False := eq_false (by omega)
        have yq5_1 : (q5 = 1) = False := eq_false (by omega)
        have z2_q5 : (2 = q5) = False := eq_false (by omega)
        have yq5_2 : (q5 = 2) = False := eq_false (by omega)
        have ff := And.intro @hq5b (And.intro @z0_1 (And.intro @y1_0 (And.intro @z0_2 (And.intro @y2_0 (And.intro @z0_q5 (And.intro @yq5_0 (And.intro @z1_2 (And.intro @y2_1 (And.intro @z1_q5 (And.intro @yq5_1 (And.intro @z2_q5 (And.intro @yq5_2 ff))))))))))))
        refine dw_seq (cal1 In 2 (hok := by (try simp only [go_sem, ff]); all_goals (first | done | ((repeat' (with_reducible apply And.intro)) <;> first | exact dcomp_ct | (intros; exact dcomp_ct) | skip))) (hct := by exact sortG (stayJ d e ++ e.put) _ _ _ _ (by simp) (by rw [List.length_append]; omega) (stayJ_names hdd hde) (putP_once hdd.pord hde.pord) (by simp only [go_sem, ff, List.map_append])) (hk := ?_))
        rintro res h2 n2 ⟨rfl, rfl, rfl⟩
        refine cal2 In ?_
        show DW _ _ _ _ _
        refine dw_freezet 9 q5 (rows := (putP d e).map Sgd.d) (off := 0) (len := (stayJ d e).length + e.put.length) ev ev (by simp [putP, sortS_len]) nrr_sgd ?_
        rw [List.drop_zero, List.take_of_length_le (by simp [putP, sortS_len])]
        refine stp In ?_ (hok := by (try simp only [go_sem, ff]); all_goals (first | done | ((repeat' (with_reducible apply And.intro)) <;> first | exact dbyplace_ct (putP d e) (by omega) | (intros; exact dbyplace_ct (putP d e) (by omega)) | omega | skip)))
        refine dw_freezep 10 (n2 + 17) ev ev nrs_fmapP ?_
        refine stp In ?_
        refine dw_seq (cal1 In 5 (hct := by exact concatQ_ct d.drop e.drop hld hle _ _) (hk := ?_))
        rintro res h2 n2 ⟨r3, rfl, rfl, a3, b3⟩
        try dsimp only at a3 b3
        have z0_1 : (0 = 1) = False := eq_false (by omega)
        have y1_0 : (1 = 0) = False := eq_false (by omega)
        have z0_2 : (0 = 2) = False := eq_false (by omega)
        have y2_0 : (2 = 0) = False := eq_false (by omega)
        have z0_r3 : (0 = r3) = False := eq_false (by omega)
        have yr3_0 : (r3 = 0) = False := eq_false (by omega)
        have z1_2 : (1 = 2) = False := eq_false (by omega)
        have y2_1 : (2 = 1) = False := eq_false (by omega)
        have z1_r3 : (1 = r3) = False := eq_false (by omega)
        have yr3_1 : (r3 = 1) = False := eq_false (by omega)
        have z2_r3 : (2 = r3) = False := eq_false (by omega)
        have yr3_2 : (r3 = 2) = False := eq_false (by omega)
        have ff := And.intro @b3 (And.intro @z0_1 (And.intro @y1_0 (And.intro @z0_2 (And.intro @y2_0 (And.intro @z0_r3 (And.intro @yr3_0 (And.intro @z1_2 (And.intro @y2_1 (And.intro @z1_r3 (And.intro @yr3_1 (And.intro @z2_r3 (And.intro @yr3_2 ff))))))))))))
        refine cal2 In ?_
        show DW _ _ _ _ _
        refine dw_seq (cal1 In 3 (hok := by (try simp only [go_sem, ff]); all_goals (first | done | ((repeat' (with_reducible apply And.intro)) <;> first | exact dcompq_ct | (intros; exact dcompq_ct) | skip))) (hct := by exact sortH (d.drop ++ e.drop) _ _ _ r3 rfl (by rw [List.length_append]; omega) (joinD_names hdd hde) (by simp only [go_sem, ff])) (hk := ?_))
        rintro res h2 n2 ⟨rfl, rfl, rfl⟩
        refine cal2 In ?_
        show DW _ _ _ _ _
        refine dw_seq (dw_seg ?_)
        refine seg_call (C := In) 1 (R := _) (by omega) (arr_at rfl) rfl rfl (by simp only [List.drop_succ_cons, List.drop_zero, List.take_succ_cons, List.take_zero, S.put, Nat.sub_self, go_sem, ff]; exact rfl) ?_ ?_ (by simp only [go_sem, ff]; exact rfl) (by simp only [go_sem, ff]) (by simp only [go_sem, ff]; exact rfl) (by exact compactQ_ct (sortQ (d.drop ++ e.drop)) _ _ _ r3 (by rw [sortQ_len]) (by rw [sortQ_len, List.length_append]; omega) (by simp only [go_sem, ff])) ?_
        · try simp only [go_sem, ff]
          all_goals (first | done | (repeat' (with_reducible apply And.intro)) <;> first | omega | (with_reducible assumption) | (intros; omega) | (intros; simp only [decide_eq_true_eq, decide_eq_false_iff_not, Bool.or_eq_true, Bool.and_eq_true, Bool.or_eq_false_iff, Bool.not_eq_true', Bool.not_eq_false'] at *; omega) | (simp_all; done) | (simp_all; omega))
        · try simp only [go_sem, ff]
          all_goals (first | done | rfl | decide | simp)
        rintro res h2 n2 ⟨rfl, rfl, hn3⟩
        refine seg_freezet 81 r3 (rows := (cpF (sortQ (d.drop ++ e.drop))).map Qst.d) (off := 0) (len := (cpF (sortQ (d.drop ++ e.drop))).length) (by simp only [S.put, go_sem, ff]) (by simp only [go_sem, ff]; exact rfl) (by simp) nrr_qst ?_
        simp only [List.drop_zero, take_map_len]
        refine seg_done (C := In) (by first | decide | simp) (by simp only [List.drop_succ_cons, List.drop_zero, List.take_succ_cons, List.take_zero, S.put, Nat.sub_self, go_sem, ff]; exact rfl) ?_ rfl ?_
        · try simp only [go_sem, ff]
          all_goals (first | done | ((repeat' (with_reducible apply And.intro)) <;> first | exact dcollqq_ct (cpF (sortQ (d.drop ++ e.drop))) (mapP (putP d e)) (by have := cpF_len (sortQ (d.drop ++ e.drop)); rw [sortQ_len, List.length_append] at this; omega) | (intros; exact dcollqq_ct (cpF (sortQ (d.drop ++ e.drop))) (mapP (putP d e)) (by have := cpF_len (sortQ (d.drop ++ e.drop)); rw [sortQ_len, List.length_append] at this; omega)) | omega | skip))
        try simp only [clear_eq]
        show DW _ _ _ _ _
        refine dw_seq ?_
        have ff := And.intro (show (cpF (sortQ (d.drop ++ e.drop))).filterMap (j3S (mapP (putP d e))) = dropP d e from rfl) ff
        refine stp In ?_
        refine cd (fun c4 => ?_) (fun c4 => ?_)
        · skip
          refine stp In ?_
          refine dw_ret ?_
          exact fin 3 (hr := by (try simp only [go_sem, ff]); all_goals (rw [joinP, if_neg p1, if_neg p2, if_pos (by omega)]; try rfl))
        · skip
          refine dw_skip ?_
          show DW _ _ _ _ _
          refine stp In ?_ (hok := by (try simp only [go_sem, ff]); all_goals (first | done | ((repeat' (with_reducible apply And.intro)) <;> first | exact dcollssJ4_ct (putP d e) (putP_fit hpd hpe hlp hlq) | (intros; exact dcollssJ4_ct (putP d e) (putP_fit hpd hpe hlp hlq)) | omega | skip)))
          have ff := And.intro (fm_some (putP d e)) ff
          refine stp In ?_
          refine dw_ret ?_
          exact fin 3 (hr := by (try simp only [go_sem, ff]); all_goals (rw [joinP, if_neg p1, if_neg p2, if_neg (by omega)]; try rfl))

end Go.Proofs.YtipkfnkmdeopeaaGreatDoor
namespace Go.Proofs.YtipkfnkmdeopeaaGreatDoor
open Go.DL Go.Str Go.Rec Go.Cmp Go.Zon
set_option maxRecDepth 10000
set_option linter.unusedSimpArgs false
set_option linter.unusedVariables false
theorem djoin_as9 {d e : Dlt} {x : Dlt} {k : Int} (hd : fitL d.put) (he : fitL e.put) (h : joinP d e = (x, k)) : PureCt Tryz.prog 107 [.agg d.d, .agg e.d] (.tuple [.agg x.d, .i k]) := by
  have := djoin_ct d e hd he
  rwa [h] at this
theorem dless_as9 {a b : Int} {x : Bool} {e : Int} (h : lessF a b = (x, e)) : PureCt Tryz.prog 58 [.i a, .i b] (.tuple [.b x, .i e]) := by
  have := dless11_ct a b
  rwa [h] at this
theorem ddiff_as9 {a b : Zon} {x : Dlt} {e : Int} (h : diffP a b = (x, e)) : PureCt Tryz.prog 34 [.agg a.d, .agg b.d] (.tuple [.agg x.d, .i e]) := by
  have := ddiff_ct a b
  rwa [h] at this
theorem dapply_as9 {z : Zon} {d : Dlt} {x : Zon} {e : Int} (hp : fitL d.put) (h : applyP z d = (x, e)) : PureCt Tryz.prog 41 [.agg z.d, .agg d.d] (.tuple [.agg x.d, .i e]) := by
  have := dapply_ct z d hp
  rwa [h] at this
@[go_sem] theorem sgd_snoc9 {l : List Sgd} {x : Sgd} : (l ++ [x]).map Sgd.d = l.map Sgd.d ++ [[.v (.string (bs x.set.name)), .i x.set.ty, .i x.set.life, .list false (x.set.data.map Dat.d), .list false (x.sigs.map RSig.d)]] := by simp [Sgd.d]
@[go_sem] theorem int_snoc9 {l : List Int} {x : Int} : (l ++ [x]).map ziD = l.map ziD ++ [[.i x]] := by simp [ziD]
@[go_sem] theorem dlt_snoc9 {l : List Dlt} {x : Dlt} : (l ++ [x]).map Dlt.d = l.map Dlt.d ++ [[.v (.string (bs x.apex)), .i x.frm, .i x.too, .list false (x.drop.map Qst.d), .list false (x.put.map Sgd.d)]] := by simp [Dlt.d]
@[go_sem] theorem versIx {l : List Zon} : List.map ziD (List.map serialOf ([] : List Zon)) = [] := rfl
theorem bo75 : hasBody Tryz.prog 75 = true := by kernel_rfl
theorem tnothing_ct (z : Zon) : PureCt Tryz.prog 75 [.agg z.d] (.b (noZ z)) := by
  refine pure_of_dw Tryz.func75 rfl bo75 (by simp [go_sem, D.nr, nrs, nrr]) (by simp [Tryz.f75]) ?_
  unfold Tryz.f75
  simp only [init_eq]
  have ff := True.intro
  refine stp In ?_
  refine stp In ?_
  refine dw_ret ?_
  exact fin 0 (hr := by (try simp only [go_sem, ff]); all_goals (rw [noZ_eq]))
theorem bo76 : hasBody Tryz.prog 76 = true := by kernel_rfl
theorem tinform_ct (d : Dlt) (hp : fitL d.put) : PureCt Tryz.prog 76 [.agg d.d] (.b (dltOk d)) := by
  refine pure_of_dw Tryz.func76 rfl bo76 (by simp [go_sem, D.nr, nrs, nrr]) (by simp [Tryz.f76]) ?_
  unfold Tryz.f76
  simp only [init_eq]
  have ff := True.intro
  refine stp In ?_
  rcases hd : dltOk d with _ | _
  · skip
    have hj := join_self_no hd
    have ff := And.intro @hj (And.intro @hd ff)
    refine stp In ?_ (hok := by (try simp only [go_sem, ff]); all_goals (exact djoin_as9 hp hp hj))
    refine stp In ?_
    refine dw_ret ?_
    exact fin 0 (hr := by (try simp only [go_sem, ff]); all_goals (first | rfl | (simp; done)))
  · skip
    have hj := join_self_yes hd
    have ff := And.intro @hj (And.intro @hd ff)
    refine stp In ?_ (hok := by (try simp only [go_sem, ff]); all_goals (exact djoin_as9 hp hp hj))
    refine stp In ?_
    refine dw_ret ?_
    exact fin 0 (hr := by (try simp only [go_sem, ff]); all_goals (first | rfl | (simp; done)))
theorem bo37 : hasBody Tryz.prog 37 = true := by kernel_rfl
theorem tvsec_ct (s : Sec) : PureCt Tryz.prog 37 [.agg s.d] (.b (secOk s)) := by
  refine pure_of_dw Tryz.func37 rfl bo37 (by simp [go_sem, D.nr, nrs, nrr]) (by simp [Tryz.f37]) ?_
  unfold Tryz.f37
  simp only [init_eq]
  have ff := True.intro
  refine stp In ?_
  refine dw_seq ?_
  refine stp In ?_
  refine cd (fun c1 => ?_) (fun c1 => ?_)
  · skip
    refine stp In ?_
    refine dw_ret ?_
    exact fin 0 (hr := by (try simp only [go_sem, ff]); all_goals (simp only [secOk]; grind))
  · skip
    refine dw_skip ?_
    show DW _ _ _ _ _
    refine dw_seq ?_
    refine stp In ?_
    refine cd (fun c2 => ?_) (fun c2 => ?_)
    · skip
      refine stp In ?_ (hok := by (try simp only [go_sem, ff]); all_goals (exact zvalid_ct _))
      refine dw_ret ?_
      exact fin 0 (hr := by (try simp only [go_sem, ff]); all_goals (simp only [secOk]; grind))
    · skip
      refine dw_skip ?_
      show DW _ _ _ _ _
      refine stp In ?_ (hok := by (try simp only [go_sem, ff]); all_goals (exact tnothing_ct _))
      refine dw_ret ?_
      exact fin 0 (hr := by (try simp only [go_sem, ff]); all_goals (simp only [secOk]; grind))
theorem bo38 : hasBody Tryz.prog 38 = true := by kernel_rfl
theorem tvoff_ct (o : Off) (hf : ∀ i, i < o.deltas.length → fitL o.deltas[i]!.put) : PureCt Tryz.prog 38 [.agg o.d] (.b (offOk o)) := by
  refine pure_of_dw Tryz.func38 rfl bo38 (by simp [go_sem, D.nr, nrs, nrr]) (by simp [Tryz.f38]) ?_
  unfold Tryz.f38
  simp only [init_eq]
  have ff := True.intro
  refine stp In ?_
  refine dw_seq ?_
  refine stp In ?_
  refine cd (fun c1 => ?_) (fun c1 => ?_)
  · skip
    refine stp In ?_ (hok := by (try simp only [go_sem, ff]); all_goals (first | done | ((repeat' (with_reducible apply And.intro)) <;> first | exact zvalid_ct _ | (intros; exact zvalid_ct _) | skip)))
    refine dw_ret ?_
    exact fin 0 (hr := by (try simp only [go_sem, ff]); all_goals (rw [offOk, if_pos (by grind), intq]))
  · skip
    refine dw_skip ?_
    show DW _ _ _ _ _
    refine dw_seq ?_
    refine stp In ?_ (hok := by (try simp only [go_sem, ff]); all_goals (first | done | ((repeat' (with_reducible apply And.intro)) <;> first | exact tnothing_ct _ | (intros; exact tnothing_ct _) | skip)))
    refine cd (fun c2 => ?_) (fun c2 => ?_)
    · skip
      refine stp In ?_
      refine dw_ret ?_
      exact fin 0 (hr := by (try simp only [go_sem, ff]); all_goals (simp only [offOk]; grind))
    · skip
      have hfu : o.full = false := by grind
      have hl2 : o.deltas.length ≤ 20000 := by grind
      refine dw_skip ?_
      show DW _ _ _ _ _
      refine dw_seq ?_
      refine stp In ?_
      refine dw_block ?_
      refine lp (α := (Nat) × Nat) [1, 27, 28] (fun ⟨k, nx⟩ => (k ≤ o.deltas.length) ∧ (allN o.deltas.length (offAt o) 0 = allN o.deltas.length (offAt o) k) ∧ (0 < nx) ∧ True) (fun ⟨k, nx⟩ => o.deltas.length - k) (fun ⟨k, nx⟩ => [(29, .i k)]) (fun ⟨k, nx⟩ => [(0, ⟨30, [o.d]⟩)]) (fun ⟨k, nx⟩ => nx) (0, _) (hA := ⟨iv, rfl, iv, trivial⟩) (round := ?_)
      rintro ⟨k, nx⟩ ⟨hk, hv, hx, -⟩
      show DW _ _ _ _ { n := _, t := tab _, h := _, nx := _, e := _ }
      simp only [List.cons_append, List.nil_append]
      have ff := And.intro @hx ff
      refine stp In ?_
      refine dw_seq ?_
      refine cd (fun c3 => ?_) (fun c3 => ?_) (hp := rfl)
      · skip
        have hk2 : k < o.deltas.length := by simpa using c3
        have hk1 : k - 1 < o.deltas.length := by omega
        have e1 : ((k:Int) - 1).toNat = k - 1 := by omega
        have ff := And.intro (getD_dlt hk2) (And.intro (getD_dlt hk1) (And.intro @e1 ff))
        refine dw_skip ?_
        show DW _ _ _ _ _
        refine dw_seq ?_
        refine dw_block ?_
        refine stp In ?_
        refine dw_seq ?_
        refine stp In ?_ (hok := by (try simp only [go_sem, ff]); all_goals (first | done | ((repeat' (with_reducible apply And.intro)) <;> first | exact tinform_ct o.deltas[k]! (hf k hk2) | (intros; exact tinform_ct o.deltas[k]! (hf k hk2)) | omega | skip)))
        refine cd (fun c4 => ?_) (fun c4 => ?_)
        · skip
          refine stp In ?_
          refine dw_ret ?_
          exact fin 0 (hr := by (try simp only [go_sem, ff]); all_goals (have hF : (offAt o) k = false := (by simp only [offAt]; grind); simp only [offOk]; rw [hv, allN_no hk2 hF]; simp; try grind))
        · skip
          refine dw_skip ?_
          show DW _ _ _ _ _
          refine stp In ?_ (hok := by (try simp only [go_sem, ff]); all_goals (exact ok0))
          refine cd (fun c5 => ?_) (fun c5 => ?_)
          · skip
            refine stp In ?_
            refine dw_ret ?_
            exact fin 0 (hr := by (try simp only [go_sem, ff]); all_goals (have hF : (offAt o) k = false := (by simp only [offAt]; grind); simp only [offOk]; rw [hv, allN_no hk2 hF]; simp; try grind))
          · skip
            refine dw_skip ?_
            show DW _ _ _ _ _
            refine rgn In ?_
            show ∃ _, _
            have h8 : (offAt o) k = true := by simp only [offAt]; grind
            exact rnd (k + 1, _) (h1 := ⟨iv, (by first | (rw [hv, allN_yes hk2 h8]) | (dsimp only; rw [hv, allN_yes hk2 h8])), iv, trivial⟩)
      · skip
        refine dw_exit ?_
        show DW _ _ _ _ _
        refine stp In ?_
        refine dw_ret ?_
        exact fin 0 (hr := by (try simp only [go_sem, ff]); all_goals (simp only [offOk]; rw [hv, allN_end (by omega)]; grind))
theorem bo39 : hasBody Tryz.prog 39 = true := by kernel_rfl
theorem toffd_ct (o : Off) : PureCt Tryz.prog 39 [.agg o.d] (.tuple [.v (.string (bs (offdF o).1)), .b (offdF o).2]) := by
  refine pure_of_dw Tryz.func39 rfl bo39 (by simp [go_sem, D.nr, nrs, nrr]) (by simp [Tryz.f39]) ?_
  unfold Tryz.f39
  simp only [init_eq]
  have ff := True.intro
  refine stp In ?_
  refine dw_seq ?_
  refine stp In ?_
  refine cd (fun c1 => ?_) (fun c1 => ?_)
  · skip
    refine stp In ?_
    refine dw_ret ?_
    exact fin 1 (hr := by (try simp only [go_sem, ff]); all_goals (simp only [offdF]; rw [if_pos (by grind)]; try rfl))
  · skip
    refine dw_skip ?_
    show DW _ _ _ _ _
    refine dw_seq ?_
    refine stp In ?_
    refine cd (fun c2 => ?_) (fun c2 => ?_)
    · skip
      have h0 : 0 < o.deltas.length := by omega
      have ff := And.intro (getD_dlt h0) ff
      refine stp In ?_
      refine dw_ret ?_
      exact fin 1 (hr := by (try simp only [go_sem, ff]); all_goals (simp only [offdF]; rw [if_neg (by grind), if_pos (by omega)]; try rfl))
    · skip
      refine dw_skip ?_
      show DW _ _ _ _ _
      refine stp In ?_
      refine dw_ret ?_
      exact fin 1 (hr := by (try simp only [go_sem, ff]); all_goals (simp only [offdF]; rw [if_neg (by grind), if_neg (by omega)]; try rfl))
theorem bo109 : hasBody Tryz.prog 109 = true := by kernel_rfl
theorem tsame1_ct (a : Sgd) (b : Sgd) (ha : fit1 a) : PureCt Tryz.prog 109 [.agg a.d, .agg b.d] (.b (sameSgd a b)) := by
  refine pure_of_dw Tryz.func109 rfl bo109 (by simp [go_sem, D.nr, nrs, nrr]) (by simp [Tryz.f109]) ?_
  unfold Tryz.f109
  simp only [init_eq]
  have ff := True.intro
  refine stp In ?_
  refine stp In ?_ (hok := by (try simp only [go_sem, ff]); all_goals (first | done | ((repeat' (with_reducible apply And.intro)) <;> first | exact (fun _ => eqdat_ct _ _ (Nat.le_trans ha.1 (by omega))) | (intros; exact (fun _ => eqdat_ct _ _ (Nat.le_trans ha.1 (by omega)))) | exact (fun _ => eqsig_ct _ _ (Nat.le_trans ha.2 (by omega))) | (intros; exact (fun _ => eqsig_ct _ _ (Nat.le_trans ha.2 (by omega)))) | skip)))
  refine dw_ret ?_
  exact fin 0 (hr := by (try simp only [go_sem, ff]); all_goals (rw [← same_parts]))
theorem bo108 : hasBody Tryz.prog 108 = true := by kernel_rfl
theorem teqf_ct (a : List Sgd) (b : List Sgd) (hl : fitL a) : PureCt Tryz.prog 108 [.list false (a.map Sgd.d), .list false (b.map Sgd.d), .fn (.func 109) [] []] (.b (sameList a b)) := by
  refine pure_of_dw Tryz.func108 rfl bo108 (by simp [go_sem, D.nr, nrs, nrr]) (by simp [Tryz.f108]) ?_
  unfold Tryz.f108
  simp only [init_eq]
  have ff := True.intro
  have hl1 := hl.1
  refine stp In ?_
  refine dw_seq ?_
  refine stp In ?_
  refine cd (fun c1 => ?_) (fun c1 => ?_)
  · skip
    refine stp In ?_
    refine dw_ret ?_
    exact fin 0 (hr := by (try simp only [go_sem, ff]); all_goals (rw [sgds_len (by omega)]))
  · skip
    have hab : a.length = b.length := by omega
    refine dw_skip ?_
    show DW _ _ _ _ _
    refine dw_seq ?_
    refine stp In ?_
    refine dw_block ?_
    refine lp (α := (Nat) × Nat) [1, 2, 15, 16] (fun ⟨k, nx⟩ => (k ≤ a.length) ∧ (∀ i, i < k → sameSgd a[i]! b[i]! = true) ∧ True) (fun ⟨k, nx⟩ => a.length - k) (fun ⟨k, nx⟩ => [(17, .i k)]) (fun ⟨k, nx⟩ => []) (fun ⟨k, nx⟩ => nx) (0, _) (hA := ⟨iv, (by first | (intro i hi; omega) | (dsimp only; intro i hi; omega)), trivial⟩) (round := ?_)
    rintro ⟨k, nx⟩ ⟨hk, hv, -⟩
    show DW _ _ _ _ { n := _, t := tab _, h := _, nx := _, e := _ }
    simp only [List.cons_append, List.nil_append]
    refine stp In ?_
    refine dw_seq ?_
    refine cd (fun c2 => ?_) (fun c2 => ?_) (hp := rfl)
    · skip
      have hk2 : k < a.length := by simpa using c2
      have hk3 : k < b.length := by omega
      have ff := And.intro (getD_sgd hk2) (And.intro (getD_sgd hk3) ff)
      refine dw_skip ?_
      show DW _ _ _ _ _
      refine dw_seq ?_
      refine dw_block ?_
      refine stp In ?_
      refine stp In ?_
      refine stp In ?_ (hok := by (try simp only [go_sem, ff]); all_goals (first | done | ((repeat' (with_reducible apply And.intro)) <;> first | exact tsame1_ct a[k]! b[k]! (hl.2 k hk2) | (intros; exact tsame1_ct a[k]! b[k]! (hl.2 k hk2)) | omega | skip)))
      refine cd (fun c3 => ?_) (fun c3 => ?_)
      · skip
        refine stp In ?_
        refine dw_ret ?_
        exact fin 0 (hr := by (try simp only [go_sem, ff]); all_goals (rw [sgd_not3 (k := k) (by grind)]))
      · skip
        have hs : sameSgd a[k]! b[k]! = true := by grind
        refine dw_skip ?_
        show DW _ _ _ _ _
        refine rgn In ?_
        show ∃ _, _
        exact rnd (k + 1, _) (h1 := ⟨iv, (by (try dsimp only); intro i hi; by_cases e : i = k; subst e; exact hs; exact hv i (by omega)), trivial⟩)
    · skip
      refine dw_exit ?_
      show DW _ _ _ _ _
      refine stp In ?_
      refine dw_ret ?_
      exact fin 0 (hr := by (try simp only [go_sem, ff]); all_goals (rw [sgds_same hab fun i hi => hv i (by omega)]))
theorem bo77 : hasBody Tryz.prog 77 = true := by kernel_rfl
theorem tsamez_ct (a : Zon) (b : Zon) (hf : fitL a.sets) : PureCt Tryz.prog 77 [.agg a.d, .agg b.d] (.b (sameZ a b)) := by
  refine pure_of_dw Tryz.func77 rfl bo77 (by simp [go_sem, D.nr, nrs, nrr]) (by simp [Tryz.f77]) ?_
  unfold Tryz.f77
  simp only [init_eq]
  have ff := True.intro
  refine stp In ?_
  refine stp In ?_ (hok := by (try simp only [go_sem, ff]); all_goals (first | done | ((repeat' (with_reducible apply And.intro)) <;> first | exact (fun _ => teqf_ct a.sets b.sets hf) | (intros; exact (fun _ => teqf_ct a.sets b.sets hf)) | skip)))
  refine dw_ret ?_
  exact fin 0 (hr := by (try simp only [go_sem, ff]); all_goals (rw [← zon_parts]))
theorem bo40 : hasBody Tryz.prog 40 = true := by kernel_rfl
theorem tfits_ct (s : Sec) (z : Zon) (hs : s.has = true → zoneOk s.zone = true) (hz : zoneOk z = true) : PureCt Tryz.prog 40 [.agg s.d, .agg z.d] (.i (fitsF s z)) := by
  refine pure_of_dw Tryz.func40 rfl bo40 (by simp [go_sem, D.nr, nrs, nrr]) (by simp [Tryz.f40]) ?_
  unfold Tryz.f40
  simp only [init_eq]
  have ff := True.intro
  refine stp In ?_
  refine dw_seq ?_
  refine stp In ?_
  refine cd (fun c1 => ?_) (fun c1 => ?_)
  · skip
    refine stp In ?_
    refine dw_ret ?_
    exact fin 0 (hr := by (try simp only [go_sem, ff]); all_goals (simp [fitsF, c1]))
  · skip
    have hh : s.has = true := by grind
    have hsz := hs hh
    have hl9 : lessF (serialOf s.zone) (serialOf z) = (befB (serialOf s.zone) (serialOf z), 0) := by unfold lessF; rw [ser_ok hsz, ser_ok hz]; rfl
    have ff := And.intro @hsz (And.intro @hz (And.intro @hl9 ff))
    refine dw_skip ?_
    show DW _ _ _ _ _
    refine stp In ?_ (hok := by (try simp only [go_sem, ff]); all_goals (exact zserial_yes hsz))
    refine stp In ?_ (hok := by (try simp only [go_sem, ff]); all_goals (exact zserial_yes hz))
    refine dw_seq ?_
    refine stp In ?_
    refine cd (fun c2 => ?_) (fun c2 => ?_)
    · skip
      refine dw_seq ?_
      refine stp In ?_ (hok := by (try simp only [go_sem, ff]); all_goals (exact tsamez_ct s.zone z (zone_fit hsz)))
      refine cd (fun c3 => ?_) (fun c3 => ?_)
      · skip
        refine stp In ?_
        refine dw_ret ?_
        exact fin 0 (hr := by (try simp only [go_sem, ff]); all_goals (rw [fits_clash hh (by grind) (by simp only [sameZ] at c3; grind)]))
      · skip
        refine dw_skip ?_
        show DW _ _ _ _ _
        refine stp In ?_
        refine dw_ret ?_
        exact fin 0 (hr := by (try simp only [go_sem, ff]); all_goals (rw [fits_same hh (by simp only [sameZ] at c3; grind)]))
    · skip
      refine dw_skip ?_
      show DW _ _ _ _ _
      refine dw_seq ?_
      refine stp In ?_ (hok := by (try simp only [go_sem, ff]); all_goals (exact dless_as9 hl9))
      refine stp In ?_
      refine cd (fun c4 => ?_) (fun c4 => ?_)
      · skip
        refine stp In ?_
        refine dw_ret ?_
        exact fin 0 (hr := by (try simp only [go_sem, ff]); all_goals (rw [fits_old hh (by grind) (by grind)]))
      · skip
        refine dw_skip ?_
        show DW _ _ _ _ _
        refine stp In ?_
        refine dw_ret ?_
        exact fin 0 (hr := by (try simp only [go_sem, ff]); all_goals (rw [fits_next hh (by grind)]))
theorem bo60 : hasBody Tryz.prog 60 = true := by kernel_rfl
theorem tclos1_ct (s : Sgd) (hs : fit1 s) : PureCt Tryz.prog 60 [.agg s.d] (.agg s.d) := by
  refine pure_of_dw Tryz.func60 rfl bo60 (by simp [go_sem, D.nr, nrs, nrr]) (by simp [Tryz.f60]) ?_
  unfold Tryz.f60
  simp only [init_eq]
  have ff := True.intro
  refine stp In ?_
  refine stp In ?_ (hok := by (try simp only [go_sem, ff]); all_goals (exact clonedat_ct _ (Nat.le_trans hs.1 (by omega))))
  refine stp In ?_ (hok := by (try simp only [go_sem, ff]); all_goals (exact clonesig_ct _ (Nat.le_trans hs.2 (by omega))))
  refine stp In ?_
  refine dw_ret ?_
  exact fin 2 (hr := by (try simp only [go_sem, ff]); all_goals (rfl))
theorem bo59 : hasBody Tryz.prog 59 = true := by kernel_rfl
theorem tcolls_ct (l : List Sgd) (hl : fitL l) : PureCt Tryz.prog 59 [.list false (l.map Sgd.d), .fn (.func 60) [] []] (.list false (l.map Sgd.d)) := by
  refine pure_of_dw Tryz.func59 rfl bo59 (by simp [go_sem, D.nr, nrs, nrr]) (by simp [Tryz.f59]) ?_
  unfold Tryz.f59
  simp only [init_eq]
  have ff := True.intro
  have hl1 := hl.1
  refine stp In ?_
  refine stp In ?_
  refine dw_seq ?_
  refine dw_own 5 86 (by simp only [go_sem, ff]) (by simp only [go_sem, ff]) ?_
  refine stp In ?_
  refine dw_block ?_
  refine lp (α := (Nat) × (Nat) × Nat) [1, 8, 9] (fun ⟨k, r, nx⟩ => (k ≤ l.length) ∧ (r < nx) ∧ True) (fun ⟨k, r, nx⟩ => l.length - k) (fun ⟨k, r, nx⟩ => [(5, .mrow r 0 (l.take k).length), (10, .i k)]) (fun ⟨k, r, nx⟩ => [(r, ⟨86, (l.take k).map Sgd.d⟩)]) (fun ⟨k, r, nx⟩ => nx) (0, 2, _) (hA := ⟨iv, iv, trivial⟩) (round := ?_)
  rintro ⟨k, r, nx⟩ ⟨hk, hr, -⟩
  show DW _ _ _ _ { n := _, t := tab _, h := _, nx := _, e := _ }
  simp only [List.cons_append, List.nil_append]
  have hfl : (l.take k).length = k := by rw [List.length_take]; omega
  have ff := And.intro hfl ff
  have ff := And.intro @hr ff
  refine stp In ?_
  refine dw_seq ?_
  refine cd (fun c1 => ?_) (fun c1 => ?_) (hp := rfl)
  · skip
    have hk2 : k < l.length := by simpa using c1
    have ff := And.intro (getD_sgd hk2) ff
    refine dw_skip ?_
    show DW _ _ _ _ _
    refine dw_seq ?_
    refine dw_block ?_
    refine stp In ?_
    refine rgn In ?_ (hok := by (try simp only [go_sem, ff]); all_goals (first | done | ((repeat' (with_reducible apply And.intro)) <;> first | exact tclos1_ct l[k]! (hl.2 k hk2) | (intros; exact tclos1_ct l[k]! (hl.2 k hk2)) | omega | (simp; omega) | skip)))
    show DW _ _ _ _ _
    refine rgn In ?_
    show ∃ _, _
    have hst : (l.take (k + 1)).map Sgd.d = (l.take k).map Sgd.d ++ [[.v (.string (bs l[k]!.set.name)), .i l[k]!.set.ty, .i l[k]!.set.life, .list false (l[k]!.set.data.map Dat.d), .list false (l[k]!.sigs.map RSig.d)]] := by rw [take_succ! hk2, sgd_snoc9]
    have hsl : (l.take (k + 1)).length = k + 1 := by rw [List.length_take]; omega
    have ff := And.intro hst (And.intro hsl ff)
    exact rnd (k + 1, (nx + 10), _) (h1 := ⟨iv, iv, trivial⟩)
  · skip
    refine dw_exit ?_
    show DW _ _ _ _ _
    have e9 : k = l.length := by have h9 : ¬ (k:Int) < l.length := (by simpa using c1); omega
    subst e9
    refine stp In ?_
    refine dw_ret ?_
    exact fin 1 (hr := by (try simp only [go_sem, ff]); all_goals (first | rfl | (rw [List.take_length]; done) | (simp only [List.take_length, go_sem]; done) | (simp only [List.take_length]; exact nrr_zint) | (simp; done)))
theorem bo33 : hasBody Tryz.prog 33 = true := by kernel_rfl
theorem tclone_ct (z : Zon) (hf : fitL z.sets) : PureCt Tryz.prog 33 [.agg z.d] (.agg z.d) := by
  refine pure_of_dw Tryz.func33 rfl bo33 (by simp [go_sem, D.nr, nrs, nrr]) (by simp [Tryz.f33]) ?_
  unfold Tryz.f33
  simp only [init_eq]
  have ff := True.intro
  refine stp In ?_
  refine stp InF ?_ (hok := by (try simp only [go_sem, ff]); all_goals (first | done | ((repeat' (with_reducible apply And.intro)) <;> first | exact tcolls_ct z.sets hf | (intros; exact tcolls_ct z.sets hf) | skip)))
  refine dw_ret ?_
  exact fin 2 (hr := by (try simp only [go_sem, ff]); all_goals (rfl))
theorem bo57 : hasBody Tryz.prog 57 = true := by kernel_rfl
theorem tver1_ct (z : Zon) (hz : zoneOk z = true) : PureCt Tryz.prog 57 [.agg z.d] (.i (serialOf z)) := by
  refine pure_of_dw Tryz.func57 rfl bo57 (by simp [go_sem, D.nr, nrs, nrr]) (by simp [Tryz.f57]) ?_
  unfold Tryz.f57
  simp only [init_eq]
  have ff := True.intro
  have ff := And.intro @hz ff
  refine stp In ?_
  refine stp In ?_ (hok := by (try simp only [go_sem, ff]); all_goals (exact zserial_yes hz))
  refine stp In ?_
  refine dw_ret ?_
  exact fin 0 (hr := by (try simp only [go_sem, ff]); all_goals (rfl))
theorem bo56 : hasBody Tryz.prog 56 = true := by kernel_rfl
theorem tcolli_ct (l : List Zon) (hl : l.length ≤ 1000000) (hz : ∀ i, i < l.length → zoneOk l[i]! = true) : PureCt Tryz.prog 56 [.list false (l.map Zon.d), .fn (.func 57) [] []] (.list false ((l.map serialOf).map ziD)) := by
  refine pure_of_dw Tryz.func56 rfl bo56 (by simp [go_sem, D.nr, nrs, nrr]) (by simp [Tryz.f56]) ?_
  unfold Tryz.f56
  simp only [init_eq]
  have ff := True.intro
  refine stp In ?_
  refine stp In ?_
  refine dw_seq ?_
  refine dw_own 5 3 (by simp only [go_sem, ff]) (by simp only [go_sem, ff]) ?_
  refine stp In ?_
  refine dw_block ?_
  refine lp (α := (Nat) × (Nat) × Nat) [1, 8, 9] (fun ⟨k, r, nx⟩ => (k ≤ l.length) ∧ (r < nx) ∧ True) (fun ⟨k, r, nx⟩ => l.length - k) (fun ⟨k, r, nx⟩ => [(5, .mrow r 0 (l.take k).length), (10, .i k)]) (fun ⟨k, r, nx⟩ => [(r, ⟨3, ((l.take k).map serialOf).map ziD⟩)]) (fun ⟨k, r, nx⟩ => nx) (0, 2, _) (hA := ⟨iv, iv, trivial⟩) (round := ?_)
  rintro ⟨k, r, nx⟩ ⟨hk, hr, -⟩
  show DW _ _ _ _ { n := _, t := tab _, h := _, nx := _, e := _ }
  simp only [List.cons_append, List.nil_append]
  have hfl : (l.take k).length = k := by rw [List.length_take]; omega
  have ff := And.intro hfl ff
  have ff := And.intro @hr ff
  refine stp In ?_
  refine dw_seq ?_
  refine cd (fun c1 => ?_) (fun c1 => ?_) (hp := rfl)
  · skip
    have hk2 : k < l.length := by simpa using c1
    have ff := And.intro (getD_zon hk2) ff
    refine dw_skip ?_
    show DW _ _ _ _ _
    refine dw_seq ?_
    refine dw_block ?_
    refine stp In ?_
    refine rgn In ?_ (hok := by (try simp only [go_sem, ff]); all_goals (first | done | ((repeat' (with_reducible apply And.intro)) <;> first | exact tver1_ct l[k]! (hz k hk2) | (intros; exact tver1_ct l[k]! (hz k hk2)) | omega | (simp; omega) | skip)))
    show DW _ _ _ _ _
    refine rgn In ?_
    show ∃ _, _
    have hst : ((l.take (k + 1)).map serialOf).map ziD = ((l.take k).map serialOf).map ziD ++ [[.i (serialOf l[k]!)]] := by rw [take_succ! hk2, List.map_append]; exact int_snoc9
    have hsl : (l.take (k + 1)).length = k + 1 := by rw [List.length_take]; omega
    have ff := And.intro hst (And.intro hsl ff)
    exact rnd (k + 1, (nx + 10), _) (h1 := ⟨iv, iv, trivial⟩)
  · skip
    refine dw_exit ?_
    show DW _ _ _ _ _
    have e9 : k = l.length := by have h9 : ¬ (k:Int) < l.length := (by simpa using c1); omega
    subst e9
    have ff := And.intro (show (List.map ziD (List.map serialOf l)).take l.length = List.map ziD (List.map serialOf l) from List.take_of_length_le (by simp)) ff
    refine stp In ?_
    refine dw_ret ?_
    exact fin 1 (hr := by (try simp only [go_sem, ff]); all_goals (first | rfl | (rw [List.take_length]; done) | (simp only [List.take_length, go_sem]; done) | (simp only [List.take_length]; exact nrr_zint) | (simp; done)))

end Go.Proofs.YtipkfnkmdeopeaaGreatDoor
namespace Go.Proofs.YtipkfnkmdeopeaaGreatDoor
open Go.DL Go.Str Go.Rec Go.Cmp Go.Zon
set_option maxRecDepth 10000
set_option linter.unusedSimpArgs false
set_option linter.unusedVariables false
theorem bo31 : hasBody Tryz.prog 31 = true := by kernel_rfl
theorem tvers_ct (l : List Zon) (hl : l.length ≤ 20000) : PureCt Tryz.prog 31 [.list false (l.map Zon.d)] (.tuple [.list false ((versF l).1.map ziD), .b (versF l).2]) := by
  refine pure_of_dw Tryz.func31 rfl bo31 (by simp [go_sem, D.nr, nrs, nrr]) (by simp [Tryz.f31]) ?_
  unfold Tryz.f31
  simp only [init_eq]
  have ff := True.intro
  refine stp In ?_
  refine dw_seq ?_
  refine stp In ?_
  refine dw_block ?_
  refine lp (α := (Nat) × Nat) [0, 10, 11] (fun ⟨k, nx⟩ => (k ≤ l.length) ∧ (allN l.length (verAt l) 0 = allN l.length (verAt l) k) ∧ True) (fun ⟨k, nx⟩ => l.length - k) (fun ⟨k, nx⟩ => [(12, .i k)]) (fun ⟨k, nx⟩ => []) (fun ⟨k, nx⟩ => nx) (0, _) (hA := ⟨iv, rfl, trivial⟩) (round := ?_)
  rintro ⟨k, nx⟩ ⟨hk, hv1, -⟩
  show DW _ _ _ _ { n := _, t := tab _, h := _, nx := _, e := _ }
  simp only [List.cons_append, List.nil_append]
  refine stp In ?_
  refine dw_seq ?_
  refine cd (fun c1 => ?_) (fun c1 => ?_) (hp := rfl)
  · skip
    have hk2 : k < l.length := by simpa using c1
    have hk0 : 0 < l.length := by omega
    have ff := And.intro (getD_zon hk2) (And.intro (getD_zon hk0) ff)
    refine dw_skip ?_
    show DW _ _ _ _ _
    refine dw_seq ?_
    refine dw_block ?_
    refine stp In ?_
    refine stp In ?_ (hok := by (try simp only [go_sem, ff]); all_goals (first | done | ((repeat' (with_reducible apply And.intro)) <;> first | exact zvalid_ct l[k]! | (intros; exact zvalid_ct l[k]!) | omega | (intro h; simp only [Bool.and_eq_true, decide_eq_true_eq] at h; omega) | (intros; omega) | (intros; simp_all; done) | skip)))
    refine cd (fun c2 => ?_) (fun c2 => ?_)
    · skip
      refine stp In ?_
      refine dw_ret ?_
      exact fin 2 (hr := by (try simp only [go_sem, ff]); all_goals (rw [vers_no (.inl (by rw [hv1]; exact allN_no hk2 (by simp only [verAt]; grind)))]; rfl))
    · skip
      refine dw_skip ?_
      show DW _ _ _ _ _
      refine rgn In ?_
      show ∃ _, _
      have h8 : (verAt l) k = true := by simp only [verAt]; grind
      exact rnd (k + 1, _) (h1 := ⟨iv, (by first | (rw [hv1, allN_yes hk2 h8]) | (dsimp only; rw [hv1, allN_yes hk2 h8])), trivial⟩)
  · skip
    have e8 : k = l.length := by omega
    subst e8
    have hA : allN l.length (verAt l) 0 = true := by rw [hv1, allN_end (by omega)]
    have hzs : ∀ i, i < l.length → zoneOk l[i]! = true := fun i hi => by have := (allN_iff _ _ _).1 hA i (Nat.zero_le _) hi; simp only [verAt, Bool.and_eq_true] at this; exact this.1
    refine dw_exit ?_
    show DW _ _ _ _ _
    refine stp In ?_ (hok := by (try simp only [go_sem, ff]); all_goals (first | done | ((repeat' (with_reducible apply And.intro)) <;> first | exact tcolli_ct l (by omega) hzs | (intros; exact tcolli_ct l (by omega) hzs) | omega | skip)))
    refine dw_seq ?_
    refine stp In ?_
    refine dw_block ?_
    refine lp (α := (Nat) × Nat) [6] (fun ⟨k, nx⟩ => (k ≤ l.length ∨ l.length = 0) ∧ (1 ≤ k) ∧ (allN l.length (serAt l) 0 = allN l.length (serAt l) k) ∧ True) (fun ⟨k, nx⟩ => l.length - k) (fun ⟨k, nx⟩ => [(7, .i k)]) (fun ⟨k, nx⟩ => []) (fun ⟨k, nx⟩ => nx) (1, _) (hA := ⟨(by first | (omega) | (dsimp only; omega)), (by first | (omega) | (dsimp only; omega)), (by (try dsimp only); by_cases e : l.length = 0; rw [allN_end (k := 0) (by omega), allN_end (k := 1) (by omega)]; rw [allN_yes (n := l.length) (by omega) (by simp [serAt])]), trivial⟩) (round := ?_)
    rintro ⟨k, nx⟩ ⟨hk, hk1, hv, -⟩
    show DW _ _ _ _ { n := _, t := tab _, h := _, nx := _, e := _ }
    simp only [List.cons_append, List.nil_append]
    refine dw_seq ?_
    refine stp In ?_
    refine cd (fun c3 => ?_) (fun c3 => ?_) (hp := rfl)
    · skip
      have hk2 : k < l.length := by simpa using c3
      have hk3 : k - 1 < l.length := by omega
      have e1 : ((k:Int) - 1).toNat = k - 1 := by omega
      have hl9 : lessF (serialOf l[k - 1]!) (serialOf l[k]!) = (befB (serialOf l[k - 1]!) (serialOf l[k]!), 0) := by unfold lessF; rw [ser_ok (hzs _ hk3), ser_ok (hzs _ hk2)]; rfl
      have ff := And.intro (getD_ser hk2) (And.intro (getD_ser hk3) (And.intro @e1 (And.intro @hl9 ff)))
      refine dw_skip ?_
      show DW _ _ _ _ _
      refine dw_seq ?_
      refine dw_block ?_
      refine stp In ?_ (hok := by (try simp only [go_sem, ff]); all_goals (first | done | ((repeat' (with_reducible apply And.intro)) <;> first | exact dless_as9 hl9 | (intros; exact dless_as9 hl9) | omega | (intro h; simp only [Bool.and_eq_true, decide_eq_true_eq] at h; omega) | (intros; omega) | (intros; simp_all; done) | skip)))
      refine stp In ?_
      refine cd (fun c4 => ?_) (fun c4 => ?_)
      · skip
        refine stp In ?_
        refine dw_ret ?_
        exact fin 2 (hr := by (try simp only [go_sem, ff]); all_goals (rw [vers_no (.inr (by rw [hv]; exact allN_no hk2 (by simp only [serAt]; grind)))]; rfl))
      · skip
        refine dw_skip ?_
        show DW _ _ _ _ _
        refine rgn In ?_
        show ∃ _, _
        have h8 : (serAt l) k = true := by simp only [serAt]; grind
        exact rnd (k + 1, _) (h1 := ⟨(by first | (omega) | (dsimp only; omega)), (by first | (omega) | (dsimp only; omega)), (by first | (rw [hv, allN_yes hk2 h8]) | (dsimp only; rw [hv, allN_yes hk2 h8])), trivial⟩)
    · skip
      refine dw_exit ?_
      show DW _ _ _ _ _
      refine stp In ?_
      refine dw_ret ?_
      exact fin 2 (hr := by (try simp only [go_sem, ff]); all_goals (rw [vers_yes hA (by rw [hv]; exact allN_end (by omega))]; try rfl))
theorem bo32 : hasBody Tryz.prog 32 = true := by kernel_rfl
theorem toffer_ct (f : Int) (l : List Zon) (hl : l.length ≤ 20000) (hp : 0 < l.length) (hv : Vers l) (hf : f < l.length) : PureCt Tryz.prog 32 [.i f, .eptr [.list false (l.map Zon.d)]] (.agg (offerF l f).d) := by
  refine pure_of_dw Tryz.func32 rfl bo32 (by simp [go_sem, D.nr, nrs, nrr]) (by simp [Tryz.f32]) ?_
  unfold Tryz.f32
  simp only [init_eq]
  have ff := True.intro
  refine stp In ?_
  refine dw_seq ?_
  refine stp In ?_
  refine cd (fun c1 => ?_) (fun c1 => ?_)
  · skip
    have e1 : ((l.length:Int) - 1).toNat = l.length - 1 := by omega
    have hk2 : l.length - 1 < l.length := by omega
    have ff := And.intro @e1 (And.intro (getD_zon hk2) ff)
    refine stp In ?_ (hok := by (try simp only [go_sem, ff]); all_goals (first | done | ((repeat' (with_reducible apply And.intro)) <;> first | exact tclone_ct l[l.length - 1]! (zone_fit (hv.ok _ hk2)) | (intros; exact tclone_ct l[l.length - 1]! (zone_fit (hv.ok _ hk2))) | omega | (intro h; simp only [Bool.and_eq_true, decide_eq_true_eq] at h; omega) | (intros; omega) | (intros; simp_all; done) | skip)))
    refine dw_ret ?_
    exact fin 3 (hr := by (try simp only [go_sem, ff]); all_goals (rw [offerF, if_pos (by grind)]; rfl))
  · skip
    refine dw_skip ?_
    show DW _ _ _ _ _
    refine stp In ?_
    refine dw_seq ?_
    refine dw_ownj 3 3 30 65 (by simp only [go_sem, ff]; exact rfl) (by rfl) (by simp only [go_sem, ff]) ?_
    simp only [List.set_cons_succ, List.set_cons_zero]
    refine stp In ?_
    refine dw_block ?_
    refine lp (α := (Nat) × (Nat) × Nat) [1, 3, 4] (fun ⟨k, r, nx⟩ => (k ≤ l.length - 1 - f.toNat) ∧ (r < nx) ∧ (3 < r) ∧ True) (fun ⟨k, r, nx⟩ => l.length - 1 - f.toNat - k) (fun ⟨k, r, nx⟩ => [(5, .i (f + k))]) (fun ⟨k, r, nx⟩ => [(0, ⟨30, [[.b false, .v (.string (bs [])), .list true [], .list true []]]⟩), (3, ⟨30, [[.b false, .v (.string (bs [])), .list true [], .mrow r 0 (difTo l f.toNat k).length]]⟩), (r, ⟨65, (difTo l f.toNat k).map Dlt.d⟩)]) (fun ⟨k, r, nx⟩ => nx) (0, 4, _) (hA := ⟨iv, iv, iv, trivial⟩) (round := ?_)
    rintro ⟨k, r, nx⟩ ⟨hk, hr, hr0, -⟩
    show DW _ _ _ _ { n := _, t := tab _, h := _, nx := _, e := _ }
    simp only [List.cons_append, List.nil_append]
    have n0 : 0 < nx := by omega
    have n3 : 3 < nx := by omega
    have hdl := difTo_len l f.toNat k
    have z0_3 : (0 = 3) = False := eq_false (by omega)
    have y3_0 : (3 = 0) = False := eq_false (by omega)
    have z0_r : (0 = r) = False := eq_false (by omega)
    have yr_0 : (r = 0) = False := eq_false (by omega)
    have z3_r : (3 = r) = False := eq_false (by omega)
    have yr_3 : (r = 3) = False := eq_false (by omega)
    have ff := And.intro @hr (And.intro @n0 (And.intro @n3 (And.intro @z0_3 (And.intro @y3_0 (And.intro @z0_r (And.intro @yr_0 (And.intro @z3_r (And.intro @yr_3 ff))))))))
    refine dw_seq ?_
    refine stp In ?_
    refine cd (fun c2 => ?_) (fun c2 => ?_) (hp := rfl)
    · skip
      have hk2 : f.toNat + k < l.length := by have h9 : (f + k + 1 : Int) < l.length := (by simpa using c2); omega
      have hk3 : f.toNat + (k + 1) < l.length := by have h9 : (f + k + 1 : Int) < l.length := (by simpa using c2); omega
      have e1 : (f + (k:Int)).toNat = f.toNat + k := by omega
      have e2 : (f + (k:Int) + 1).toNat = f.toNat + (k + 1) := by omega
      have hdv : diffP l[f.toNat + k]! l[f.toNat + (k + 1)]! = (difAt l (f.toNat + k), 0) := hv.difv hk3
      have ff := And.intro (getD_zon hk2) (And.intro (getD_zon hk3) (And.intro @e1 (And.intro @e2 (And.intro @hdv ff))))
      refine dw_skip ?_
      show DW _ _ _ _ _
      refine dw_seq ?_
      refine dw_block ?_
      refine stp InF ?_ (hok := by (try simp only [go_sem, ff]); all_goals (first | done | ((repeat' (with_reducible apply And.intro)) <;> first | exact ddiff_as9 hdv | (intros; exact ddiff_as9 hdv) | omega | (intro h; simp only [Bool.and_eq_true, decide_eq_true_eq] at h; omega) | (intros; omega) | (intros; simp_all; done) | skip)))
      refine rgn In ?_
      show DW _ _ _ _ _
      refine rgn In ?_
      show ∃ _, _
      have hst : (difTo l f.toNat (k + 1)).map Dlt.d = (difTo l f.toNat k).map Dlt.d ++ [[.v (.string (bs (difAt l (f.toNat + k)).apex)), .i (difAt l (f.toNat + k)).frm, .i (difAt l (f.toNat + k)).too, .list false ((difAt l (f.toNat + k)).drop.map Qst.d), .list false ((difAt l (f.toNat + k)).put.map Sgd.d)]] := by rw [difTo_succ, dlt_snoc9]
      have hsl : (difTo l f.toNat (k + 1)).length = (difTo l f.toNat k).length + 1 := by rw [difTo_len, difTo_len]
      have ff := And.intro hst (And.intro hsl ff)
      exact rnd (k + 1, (nx + 25), _) (h1 := ⟨iv, iv, iv, trivial⟩)
    · skip
      refine dw_exit ?_
      show DW _ _ _ _ _
      refine dw_freezec 3 3 r (rows := (difTo l f.toNat k).map Dlt.d) (off := 0) (len := (difTo l f.toNat k).length) ev rfl ev (by omega) (by simp) nrr_dlt ?_
      simp only [List.drop_zero, take_map_len, List.set_cons_succ, List.set_cons_zero]
      have e9 : k = l.length - 1 - f.toNat := by have h9 : ¬ (f + k + 1 : Int) < l.length := (by simpa using c2); omega
      subst e9
      refine stp In ?_
      refine dw_ret ?_
      exact fin 3 (hr := by (try simp only [go_sem, ff]); all_goals (rw [offerF, if_neg (by omega)]; rfl))
theorem bo11 : hasBody Tryz.prog 11 = true := by kernel_rfl
theorem tserve_ct (l : List Zon) (b : Bool) (n : Int) : PureCt Tryz.prog 11 [.list false (l.map Zon.d), .b b, .i n] (.tuple [.agg (serveF l b n).1.d, .i (serveF l b n).2]) := by
  refine pure_of_dw Tryz.func11 rfl bo11 (by simp [go_sem, D.nr, nrs, nrr]) (by simp [Tryz.f11]) ?_
  unfold Tryz.f11
  simp only [init_eq]
  have ff := True.intro
  refine stp In ?_
  refine dw_seq ?_
  refine stp In ?_
  refine cd (fun c1 => ?_) (fun c1 => ?_)
  · skip
    refine stp In ?_
    refine dw_ret ?_
    exact fin 3 (hr := by (try simp only [go_sem, ff]); all_goals (rw [serveF, if_pos (by grind)]; rfl))
  · skip
    have hl2 : l.length ≤ 20000 := by omega
    have p1 : ¬ (20000 < l.length ∨ (b = true ∧ (n < 0 ∨ 65536 ≤ n))) := by rintro (q | ⟨q1, q2⟩); omega; grind
    refine dw_skip ?_
    show DW _ _ _ _ _
    refine stp In ?_ (hok := by (try simp only [go_sem, ff]); all_goals (exact tvers_ct l hl2))
    refine dw_seq ?_
    refine stp In ?_
    refine cd (fun c2 => ?_) (fun c2 => ?_)
    · skip
      have hvo : versOk l = false := by cases q : versOk l with | false => rfl | true => (rw [versF_yes q] at c2; cases c2)
      refine stp In ?_
      refine dw_ret ?_
      exact fin 3 (hr := by (try simp only [go_sem, ff]); all_goals (rw [serveF, if_neg p1, if_pos hvo]; rfl))
    · skip
      have hvo : versOk l = true := by cases q : versOk l with | true => rfl | false => (rw [versF_no q] at c2; cases c2)
      have hvs := vers_iff.1 hvo
      have hvf := versF_yes hvo
      have ff := And.intro @hvf ff
      refine dw_skip ?_
      show DW _ _ _ _ _
      refine dw_seq ?_
      refine stp In ?_
      refine cd (fun c3 => ?_) (fun c3 => ?_)
      · skip
        refine stp In ?_
        refine dw_ret ?_
        exact fin 3 (hr := by (try simp only [go_sem, ff]); all_goals (rw [serveF, if_neg p1, if_neg (by rw [hvo]; exact Bool.noConfusion), if_pos (by omega)]; rfl))
      · skip
        have hp : 0 < l.length := by omega
        refine dw_skip ?_
        show DW _ _ _ _ _
        refine dw_freezep 3 0 ev ev (by simp only [nrs, D.nr, nrr_zon]; rfl) ?_
        refine stp In ?_
        refine stp In ?_
        refine dw_seq ?_
        rcases b with _ | _
        · skip
          have hfi : firstF l false n = -1 := rfl
          have hfl := first_lt l false n
          refine stp In ?_
          refine cd (fun c4 => ?_) (fun c4 => ?_) (hp := rfl)
          · skip
            cases c4
          · skip
            refine dw_skip ?_
            show DW _ _ _ _ _
            refine stp In ?_ (hok := by (try simp only [go_sem, ff]); all_goals (first | done | ((repeat' (with_reducible apply And.intro)) <;> first | exact toffer_ct (firstF l b n) l hl2 hp hvs (by have := first_lt l b n; omega) | (intros; exact toffer_ct (firstF l b n) l hl2 hp hvs (by have := first_lt l b n; omega)) | exact toffer_ct (-1) l hl2 hp hvs (by omega) | (intros; exact toffer_ct (-1) l hl2 hp hvs (by omega)) | exact toffer_ct (lstIx (fun i => decide (serialOf l[i]! = n)) l.length) l hl2 hp hvs (by omega) | (intros; exact toffer_ct (lstIx (fun i => decide (serialOf l[i]! = n)) l.length) l hl2 hp hvs (by omega)) | skip)))
            refine dw_ret ?_
            exact fin 3 (hr := by (try simp only [go_sem, ff]); all_goals (rw [serveF, if_neg p1, if_neg (by rw [hvo]; exact Bool.noConfusion), if_neg (by omega)]; rfl))
        · skip
          refine stp In ?_
          refine cd (fun c4 => ?_) (fun c4 => ?_) (hq := rfl)
          · skip
            refine stp In ?_
            refine dw_block ?_
            refine lp (α := (Nat) × Nat) [2, 6, 10, 43, 44] (fun ⟨k, nx⟩ => (k ≤ l.length) ∧ (1 < nx) ∧ True) (fun ⟨k, nx⟩ => l.length - k) (fun ⟨k, nx⟩ => [(11, .i (lstIx (fun i => decide (serialOf l[i]! = n)) k)), (45, .i k)]) (fun ⟨k, nx⟩ => [(1, ⟨30, [[.b false, .v (.string (bs [])), .list true [], .list true []]]⟩)]) (fun ⟨k, nx⟩ => nx) (0, _) (hA := ⟨iv, iv, trivial⟩) (round := ?_)
            rintro ⟨k, nx⟩ ⟨hk, hx, -⟩
            show DW _ _ _ _ { n := _, t := tab _, h := _, nx := _, e := _ }
            simp only [List.cons_append, List.nil_append]
            have ff := And.intro @hx ff
            refine stp In ?_
            refine dw_seq ?_
            refine cd (fun c5 => ?_) (fun c5 => ?_) (hp := rfl)
            · skip
              have hk2 : k < l.length := by simpa using c5
              have ff := And.intro (getD_ser hk2) ff
              refine dw_skip ?_
              show DW _ _ _ _ _
              refine dw_seq ?_
              refine dw_block ?_
              refine stp In ?_
              refine stp In ?_
              refine cd (fun c6 => ?_) (fun c6 => ?_)
              · skip
                refine rgn In ?_
                show DW _ _ _ _ _
                refine rgn In ?_
                show ∃ _, _
                have ff := And.intro (lstIx_yes (p := fun i => decide (serialOf l[i]! = n)) (k := k) (by grind)) ff
                exact rnd (k + 1, _) (h1 := ⟨iv, iv, trivial⟩)
              · skip
                refine dw_skip ?_
                show DW _ _ _ _ _
                refine rgn In ?_
                show ∃ _, _
                have ff := And.intro (lstIx_no (p := fun i => decide (serialOf l[i]! = n)) (k := k) (by grind)) ff
                exact rnd (k + 1, _) (h1 := ⟨iv, iv, trivial⟩)
            · skip
              have e8 : k = l.length := by omega
              subst e8
              have hfi : firstF l true n = lstIx (fun i => decide (serialOf l[i]! = n)) l.length := rfl
              have hfl := first_lt l true n
              refine dw_exit ?_
              show DW _ _ _ _ _
              refine stp In ?_ (hok := by (try simp only [go_sem, ff]); all_goals (first | done | ((repeat' (with_reducible apply And.intro)) <;> first | exact toffer_ct (firstF l b n) l hl2 hp hvs (by have := first_lt l b n; omega) | (intros; exact toffer_ct (firstF l b n) l hl2 hp hvs (by have := first_lt l b n; omega)) | exact toffer_ct (-1) l hl2 hp hvs (by omega) | (intros; exact toffer_ct (-1) l hl2 hp hvs (by omega)) | exact toffer_ct (lstIx (fun i => decide (serialOf l[i]! = n)) l.length) l hl2 hp hvs (by omega) | (intros; exact toffer_ct (lstIx (fun i => decide (serialOf l[i]! = n)) l.length) l hl2 hp hvs (by omega)) | skip)))
              refine dw_ret ?_
              exact fin 3 (hr := by (try simp only [go_sem, ff]); all_goals (rw [serveF, if_neg p1, if_neg (by rw [hvo]; exact Bool.noConfusion), if_neg (by omega)]; rfl))
          · skip
            cases c4

end Go.Proofs.YtipkfnkmdeopeaaGreatDoor
namespace Go.Proofs.YtipkfnkmdeopeaaGreatDoor
open Go.DL Go.Str Go.Rec Go.Cmp Go.Zon
set_option maxRecDepth 10000
set_option linter.unusedSimpArgs false
set_option linter.unusedVariables false
theorem tserve_as {l : List Zon} {b : Bool} {n : Int} {x : Off} {e : Int} (h : serveF l b n = (x, e)) : PureCt Tryz.prog 11 [.list false (l.map Zon.d), .b b, .i n] (.tuple [.agg x.d, .i e]) := by
  have := tserve_ct l b n
  rwa [h] at this
theorem bo14 : hasBody Tryz.prog 14 = true := by kernel_rfl
theorem ttake_ct (s : Sec) (o : Off) (t : Int) (hf : ∀ i, i < o.deltas.length → fitL o.deltas[i]!.put) : PureCt Tryz.prog 14 [.agg s.d, .agg o.d, .i t] (.tuple [.agg (takeF s o t).1.d, .i (takeF s o t).2]) := by
  refine pure_of_dw Tryz.func14 rfl bo14 (by simp [go_sem, D.nr, nrs, nrr]) (by simp [Tryz.f14]) ?_
  unfold Tryz.f14
  simp only [init_eq]
  have ff := True.intro
  refine stp In ?_
  refine dw_seq ?_
  refine stp In ?_ (hok := by (try simp only [go_sem, ff]); all_goals (first | done | ((repeat' (with_reducible apply And.intro)) <;> first | exact tvsec_ct s | (intros; exact tvsec_ct s) | exact (fun _ => tvoff_ct o hf) | (intros; exact (fun _ => tvoff_ct o hf)) | omega | (intro h; simp only [Bool.and_eq_true, decide_eq_true_eq] at h; omega) | (intros; omega) | (intros; simp_all; done) | skip)))
  refine cd (fun c1 => ?_) (fun c1 => ?_)
  · skip
    refine stp In ?_
    refine dw_ret ?_
    exact fin 3 (hr := by (try simp only [go_sem, ff]); all_goals (rw [takeF, if_pos (by grind)]; try rfl))
  · skip
    have hs : secOk s = true := by grind
    have ho : offOk o = true := by grind
    have p1 : ¬ (secOk s = false ∨ offOk o = false ∨ t < s.seen ∨ 10000000 < t) := by rintro (q | q | q | q); rw [hs] at q; cases q; rw [ho] at q; cases q; omega; omega
    refine dw_skip ?_
    show DW _ _ _ _ _
    refine dw_seq ?_
    refine stp In ?_ (hok := by (try simp only [go_sem, ff]); all_goals (exact toffd_ct o))
    refine stp In ?_
    refine cd (fun c2 => ?_) (fun c2 => ?_)
    · skip
      refine stp In ?_
      refine dw_ret ?_
      exact fin 3 (hr := by (try simp only [go_sem, ff]); all_goals (rw [takeF, if_neg p1, if_pos (by grind)]; try rfl))
    · skip
      have p2 : ¬ (s.has = true ∧ (offdF o).2 = true ∧ (offdF o).1 ≠ s.zone.apex) := by grind
      refine dw_skip ?_
      show DW _ _ _ _ _
      refine dw_seq ?_
      refine stp In ?_
      refine cd (fun c3 => ?_) (fun c3 => ?_)
      · skip
        refine stp In ?_
        refine dw_ret ?_
        exact fin 3 (hr := by (try simp only [go_sem, ff]); all_goals (rw [takeF, if_neg p1, if_neg p2, if_pos (by grind)]; try rfl))
      · skip
        have p3 : ¬ (s.has = false ∧ o.full = false) := by grind
        refine dw_skip ?_
        show DW _ _ _ _ _
        refine dw_seq ?_
        refine stp In ?_
        refine cd (fun c4 => ?_) (fun c4 => ?_)
        · skip
          have hfu : o.full = true := by grind
          have hoz := off_zone ho hfu
          refine dw_seq ?_
          refine stp In ?_ (hok := by (try simp only [go_sem, ff]); all_goals (exact tfits_ct s o.zone (sec_zone hs) hoz))
          refine stp In ?_
          refine cd (fun c5 => ?_) (fun c5 => ?_)
          · skip
            refine stp In ?_
            refine dw_ret ?_
            exact fin 3 (hr := by (try simp only [go_sem, ff]); all_goals (rw [takeF, if_neg p1, if_neg p2, if_neg p3, if_pos hfu, if_pos (by grind)]; try rfl))
          · skip
            refine dw_skip ?_
            show DW _ _ _ _ _
            refine stp In ?_ (hok := by (try simp only [go_sem, ff]); all_goals (exact tclone_ct o.zone (zone_fit hoz)))
            refine dw_ret ?_
            exact fin 3 (hr := by (try simp only [go_sem, ff]); all_goals (rw [takeF, if_neg p1, if_neg p2, if_neg p3, if_pos hfu, if_neg (by grind)]; try rfl))
        · skip
          have hfu : o.full = false := by grind
          have hh : s.has = true := by cases q : s.has with | true => rfl | false => exact absurd ⟨q, hfu⟩ p3
          have hsv := sec_zone hs hh
          have hol := off_len ho
          refine dw_skip ?_
          show DW _ _ _ _ _
          refine stp In ?_ (hok := by (try simp only [go_sem, ff]); all_goals (exact tclone_ct s.zone (zone_fit hsv)))
          refine dw_seq ?_
          refine stp In ?_
          refine dw_block ?_
          refine lp (α := (Nat) × (Zon) × Nat) [2, 6, 11, 81, 82] (fun ⟨k, w, nx⟩ => (k ≤ o.deltas.length) ∧ (54 < nx) ∧ (appTo s.zone o.deltas k = (w, 0)) ∧ True) (fun ⟨k, w, nx⟩ => o.deltas.length - k) (fun ⟨k, w, nx⟩ => [(83, .i k)]) (fun ⟨k, w, nx⟩ => [(0, ⟨26, [s.d]⟩), (1, ⟨30, [o.d]⟩), (2, ⟨26, [[.b false, .v (.string (bs [])), .list true [], .i 0]]⟩), (54, ⟨24, [w.d]⟩)]) (fun ⟨k, w, nx⟩ => nx) (0, s.zone, _) (hA := ⟨iv, iv, rfl, trivial⟩) (round := ?_)
          rintro ⟨k, w, nx⟩ ⟨hk, hx, ha, -⟩
          show DW _ _ _ _ { n := _, t := tab _, h := _, nx := _, e := _ }
          simp only [List.cons_append, List.nil_append]
          have n0 : 0 < nx := by omega
          have n1 : 1 < nx := by omega
          have n2 : 2 < nx := by omega
          have ff := And.intro @hx (And.intro @n0 (And.intro @n1 (And.intro @n2 ff)))
          refine stp In ?_
          refine dw_seq ?_
          refine cd (fun c6 => ?_) (fun c6 => ?_) (hp := rfl)
          · skip
            have hk2 : k < o.deltas.length := by simpa using c6
            have ff := And.intro (getD_dlt hk2) ff
            refine dw_skip ?_
            show DW _ _ _ _ _
            refine dw_seq ?_
            refine dw_block ?_
            refine stp In ?_
            rcases hap : applyP w o.deltas[k]! with ⟨x, e1⟩
            have ff := And.intro @hap ff
            refine stp In ?_ (hok := by (try simp only [go_sem, ff]); all_goals (exact dapply_as9 (hf k hk2) hap))
            refine dw_seq ?_
            refine stp In ?_
            refine cd (fun c7 => ?_) (fun c7 => ?_)
            · skip
              have he1 : e1 ≠ 0 := by grind
              have hst : appTo s.zone o.deltas (k + 1) = (x, e1) := by rw [appTo_yes (by rw [ha]), ha]; exact hap
              have hsp := appTo_stop (z := s.zone) (l := o.deltas) (k := k + 1) (by rw [hst]; exact he1) o.deltas.length (by omega)
              refine stp In ?_
              refine dw_ret ?_
              exact fin 3 (hr := by (try simp only [go_sem, ff]); all_goals (rw [takeF, if_neg p1, if_neg p2, if_neg p3, if_neg (by rw [hfu]; exact Bool.noConfusion), hsp, hst, if_pos he1]; try rfl))
            · skip
              obtain rfl : e1 = 0 := by grind
              refine dw_skip ?_
              show DW _ _ _ _ _
              refine rgn In ?_
              show DW _ _ _ _ _
              refine rgn In ?_
              show ∃ _, _
              exact rnd (k + 1, x, _) (h1 := ⟨iv, iv, (by (try dsimp only); rw [appTo_yes (by rw [ha]), ha]; exact hap), trivial⟩)
          · skip
            have e8 : k = o.deltas.length := by omega
            subst e8
            refine dw_exit ?_
            show DW _ _ _ _ _
            refine stp In ?_
            refine dw_ret ?_
            exact fin 3 (hr := by (try simp only [go_sem, ff]); all_goals (rw [takeF, if_neg p1, if_neg p2, if_neg p3, if_neg (by rw [hfu]; exact Bool.noConfusion), ha, if_neg (fun q => q rfl)]; try rfl))
theorem bo17 : hasBody Tryz.prog 17 = true := by kernel_rfl
theorem tpull_ct (s : Sec) (l : List Zon) (t : Int) : PureCt Tryz.prog 17 [.agg s.d, .list false (l.map Zon.d), .i t] (.tuple [.agg (pullF s l t).1.d, .i (pullF s l t).2]) := by
  refine pure_of_dw Tryz.func17 rfl bo17 (by simp [go_sem, D.nr, nrs, nrr]) (by simp [Tryz.f17]) ?_
  unfold Tryz.f17
  simp only [init_eq]
  have ff := True.intro
  refine stp In ?_
  refine dw_seq ?_
  refine stp In ?_ (hok := by (try simp only [go_sem, ff]); all_goals (first | done | ((repeat' (with_reducible apply And.intro)) <;> first | exact tvsec_ct s | (intros; exact tvsec_ct s) | skip)))
  refine cd (fun c1 => ?_) (fun c1 => ?_)
  · skip
    refine stp In ?_
    refine dw_ret ?_
    exact fin 3 (hr := by (try simp only [go_sem, ff]); all_goals (rw [pullF, if_pos (by grind)]; try rfl))
  · skip
    have hs : secOk s = true := by grind
    refine dw_skip ?_
    show DW _ _ _ _ _
    refine stp In ?_
    refine dw_seq ?_
    rcases hsv : serveF l s.has (secSer s) with ⟨x, e0⟩
    have hxf := serve_fit hsv
    rcases fOrT s.has with hh | hh
    · skip
      have hss : secSer s = 0 := by unfold secSer; rw [hh]; try rfl
      have hsv2 : serveF l s.has 0 = (x, e0) := by rw [hss] at hsv; exact hsv
      have ff := And.intro @hsv2 ff
      refine stp In ?_
      refine cd (fun c2 => ?_) (fun c2 => ?_) (hp := rfl)
      · skip
        exfalso; rw [hh] at c2; cases c2
      · skip
        refine dw_skip ?_
        show DW _ _ _ _ _
        refine stp In ?_ (hok := by (try simp only [go_sem, ff]); all_goals (exact tserve_as hsv2))
        refine dw_seq ?_
        refine stp In ?_
        refine cd (fun c3 => ?_) (fun c3 => ?_)
        · skip
          refine stp In ?_
          refine dw_ret ?_
          exact fin 3 (hr := by (try simp only [go_sem, ff]); all_goals (rw [pullF, if_neg (by rw [hs]; exact Bool.noConfusion), hsv, if_pos (by grind)]; try rfl))
        · skip
          refine dw_skip ?_
          show DW _ _ _ _ _
          refine stp In ?_ (hok := by (try simp only [go_sem, ff]); all_goals (first | done | ((repeat' (with_reducible apply And.intro)) <;> first | exact ttake_ct s x t hxf | (intros; exact ttake_ct s x t hxf) | (have h9 := ttake_ct s x t hxf; simp only [go_sem, hh] at h9; exact h9) | skip)))
          refine dw_ret ?_
          exact fin 3 (hr := by (try simp only [go_sem, ff]); all_goals (rw [pullF, if_neg (by rw [hs]; exact Bool.noConfusion), hsv, if_neg (by grind)]; try rfl))
    · skip
      have hss : secSer s = serialOf s.zone := by unfold secSer; rw [hh]; try rfl
      have hsz := sec_zone hs hh
      have hsv2 : serveF l s.has (serialOf s.zone) = (x, e0) := by rw [hss] at hsv; exact hsv
      have ff := And.intro @hsz (And.intro @hsv2 ff)
      refine stp In ?_
      refine cd (fun c2 => ?_) (fun c2 => ?_) (hq := rfl)
      · skip
        refine rgn In ?_ (hok := by (try simp only [go_sem, ff]); all_goals (exact zserial_yes hsz))
        show DW _ _ _ _ _
        refine stp In ?_ (hok := by (try simp only [go_sem, ff]); all_goals (exact tserve_as hsv2))
        refine dw_seq ?_
        refine stp In ?_
        refine cd (fun c3 => ?_) (fun c3 => ?_)
        · skip
          refine stp In ?_
          refine dw_ret ?_
          exact fin 3 (hr := by (try simp only [go_sem, ff]); all_goals (rw [pullF, if_neg (by rw [hs]; exact Bool.noConfusion), hsv, if_pos (by grind)]; try rfl))
        · skip
          refine dw_skip ?_
          show DW _ _ _ _ _
          refine stp In ?_ (hok := by (try simp only [go_sem, ff]); all_goals (first | done | ((repeat' (with_reducible apply And.intro)) <;> first | exact ttake_ct s x t hxf | (intros; exact ttake_ct s x t hxf) | (have h9 := ttake_ct s x t hxf; simp only [go_sem, hh] at h9; exact h9) | skip)))
          refine dw_ret ?_
          exact fin 3 (hr := by (try simp only [go_sem, ff]); all_goals (rw [pullF, if_neg (by rw [hs]; exact Bool.noConfusion), hsv, if_neg (by grind)]; try rfl))
      · skip
        exfalso; rw [hh] at c2; cases c2
theorem bo19 : hasBody Tryz.prog 19 = true := by kernel_rfl
theorem texp_ct (s : Sec) (t : Int) (p : Int) : PureCt Tryz.prog 19 [.agg s.d, .i t, .i p] (.tuple [.b (expF s t p).1, .i (expF s t p).2]) := by
  refine pure_of_dw Tryz.func19 rfl bo19 (by simp [go_sem, D.nr, nrs, nrr]) (by simp [Tryz.f19]) ?_
  unfold Tryz.f19
  simp only [init_eq]
  have ff := True.intro
  refine stp In ?_
  refine dw_seq ?_
  refine stp In ?_ (hok := by (try simp only [go_sem, ff]); all_goals (first | done | ((repeat' (with_reducible apply And.intro)) <;> first | exact tvsec_ct s | (intros; exact tvsec_ct s) | omega | (intro h; simp only [Bool.and_eq_true, decide_eq_true_eq] at h; omega) | (intros; omega) | (intros; simp_all; done) | skip)))
  refine cd (fun c1 => ?_) (fun c1 => ?_)
  · skip
    refine stp In ?_
    refine dw_ret ?_
    exact fin 1 (hr := by (try simp only [go_sem, ff]); all_goals (rw [expF, if_pos (by grind)]; try rfl))
  · skip
    have hs : secOk s = true := by grind
    have hsn := sec_seen hs
    refine dw_skip ?_
    show DW _ _ _ _ _
    refine stp In ?_
    refine dw_ret ?_
    exact fin 1 (hr := by (try simp only [go_sem, ff]); all_goals (rw [exp_ok hs (by grind) (by grind) (by grind)]; try rfl))

end Go.Proofs.YtipkfnkmdeopeaaGreatDoor
namespace Go.Proofs.YtipkfnkmdeopeaaGreatDoor
open Go.DL Go.Str Go.Rec Go.Cmp Go.Zon
set_option maxRecDepth 10000
set_option linter.unusedSimpArgs false
set_option linter.unusedVariables false
theorem rser_as {z : Zon} (h : zoneOk z = true) : PureCt Tryz.prog 25 [.agg z.d] (.i (serialR z)) := by
  have hr : refOk z = true := by rw [← zoneOk_ref]; exact h
  exact r06serial_ct z (by have := ref_len hr; omega) (ref_start hr) (ref_data hr)
theorem rsamez_as9 {a b : Zon} (h : fitL a.sets) : PureCt Tryz.prog 22 [.agg a.d, .agg b.d] (.b (sameZ a b)) := rsamez_ct a b h
theorem bo48 : hasBody Tryz.prog 48 = true := by kernel_rfl
theorem rnone14_ct (z : Zon) : PureCt Tryz.prog 48 [.agg z.d] (.b (noZ z)) := by
  refine pure_of_dw Tryz.func48 rfl bo48 (by simp [go_sem, D.nr, nrs, nrr]) (by simp [Tryz.f48]) ?_
  unfold Tryz.f48
  simp only [init_eq]
  have ff := True.intro
  refine stp In ?_
  refine stp In ?_
  refine dw_ret ?_
  exact fin 0 (hr := by (try simp only [go_sem, ff]); all_goals (rw [noZ_eq]))
theorem bo27 : hasBody Tryz.prog 27 = true := by kernel_rfl
theorem rvsec14_ct (s : Sec) : PureCt Tryz.prog 27 [.agg s.d] (.b (secOk s)) := by
  refine pure_of_dw Tryz.func27 rfl bo27 (by simp [go_sem, D.nr, nrs, nrr]) (by simp [Tryz.f27]) ?_
  unfold Tryz.f27
  simp only [init_eq]
  have ff := True.intro
  refine stp In ?_
  refine dw_seq ?_
  refine stp In ?_
  refine cd (fun c1 => ?_) (fun c1 => ?_)
  · skip
    refine stp In ?_
    refine dw_ret ?_
    exact fin 0 (hr := by (try simp only [go_sem, ff]); all_goals (simp only [secOk]; grind))
  · skip
    refine dw_skip ?_
    show DW _ _ _ _ _
    refine dw_seq ?_
    refine stp In ?_
    refine cd (fun c2 => ?_) (fun c2 => ?_)
    · skip
      refine stp In ?_ (hok := by (try simp only [go_sem, ff]); all_goals (exact r06valid_ct _))
      refine dw_ret ?_
      exact fin 0 (hr := by (try simp only [go_sem, ff]); all_goals (simp only [secOk, zoneOk_ref]; grind))
    · skip
      refine dw_skip ?_
      show DW _ _ _ _ _
      refine stp In ?_ (hok := by (try simp only [go_sem, ff]); all_goals (exact rnone14_ct _))
      refine dw_ret ?_
      exact fin 0 (hr := by (try simp only [go_sem, ff]); all_goals (simp only [secOk]; grind))
theorem bo24 : hasBody Tryz.prog 24 = true := by kernel_rfl
theorem rvers14_ct (l : List Zon) (hl : l.length ≤ 1000000) : PureCt Tryz.prog 24 [.list false (l.map Zon.d)] (.b (versOk l)) := by
  refine pure_of_dw Tryz.func24 rfl bo24 (by simp [go_sem, D.nr, nrs, nrr]) (by simp [Tryz.f24]) ?_
  unfold Tryz.f24
  simp only [init_eq]
  have ff := True.intro
  refine stp In ?_
  refine dw_seq ?_
  refine stp In ?_
  refine dw_block ?_
  refine lp (α := (Nat) × Nat) [0] (fun ⟨k, nx⟩ => (k ≤ l.length) ∧ (allN l.length (rverAt l) 0 = allN l.length (rverAt l) k) ∧ (∀ i, i < k → zoneOk l[i]! = true) ∧ True) (fun ⟨k, nx⟩ => l.length - k) (fun ⟨k, nx⟩ => [(3, .i k)]) (fun ⟨k, nx⟩ => []) (fun ⟨k, nx⟩ => nx) (0, _) (hA := ⟨iv, rfl, (by first | (intro i hi; omega) | (dsimp only; intro i hi; omega)), trivial⟩) (round := ?_)
  rintro ⟨k, nx⟩ ⟨hk, hv, hzs, -⟩
  show DW _ _ _ _ { n := _, t := tab _, h := _, nx := _, e := _ }
  simp only [List.cons_append, List.nil_append]
  refine dw_seq ?_
  refine stp In ?_
  refine cd (fun c1 => ?_) (fun c1 => ?_) (hp := rfl)
  · skip
    have hk2 : k < l.length := by simpa using c1
    have hk3 : k - 1 < l.length := by omega
    have e1 : ((k:Int) - 1).toNat = k - 1 := by omega
    have ff := And.intro (getD_zon hk2) (And.intro (getD_zon hk3) (And.intro @e1 ff))
    refine dw_skip ?_
    show DW _ _ _ _ _
    refine dw_seq ?_
    refine dw_block ?_
    refine stp In ?_ (hok := by (try simp only [go_sem, ff]); all_goals (first | done | ((repeat' (with_reducible apply And.intro)) <;> first | exact r06valid_ct l[k]! | (intros; exact r06valid_ct l[k]!) | exact (fun _ _ => rser_as (hzs (k - 1) (by omega))) | (intros; exact (fun _ _ => rser_as (hzs (k - 1) (by omega)))) | (intro h; exact rser_as (by rw [zoneOk_ref]; grind)) | (intro h; exact rser_as (hzs (k - 1) (by grind))) | (intro h; exact rbefore_ct _ _ (by rw [← serial_ref (hzs (k - 1) (by grind))]; exact ser_ok (hzs (k - 1) (by grind))) (by rw [← serial_ref (by rw [zoneOk_ref]; grind)]; exact ser_ok (by rw [zoneOk_ref]; grind))) | omega | (intro h; simp only [Bool.and_eq_true, decide_eq_true_eq] at h; omega) | (intros; omega) | (intros; simp_all; done) | skip)))
    refine cd (fun c2 => ?_) (fun c2 => ?_)
    · skip
      refine stp In ?_
      refine dw_ret ?_
      exact fin 0 (hr := by (try simp only [go_sem, ff]); all_goals (rw [← versR_ok, versR, hv, allN_no hk2 (by simp only [rverAt]; grind)]))
    · skip
      refine dw_skip ?_
      show DW _ _ _ _ _
      refine rgn In ?_
      show ∃ _, _
      have h8 : (rverAt l) k = true := by simp only [rverAt]; grind
      exact rnd (k + 1, _) (h1 := ⟨iv, (by first | (rw [hv, allN_yes hk2 h8]) | (dsimp only; rw [hv, allN_yes hk2 h8])), (by (try dsimp only); intro i hi; by_cases e : i = k; subst e; exact (rver_iff.1 h8).1; exact hzs i (by omega)), trivial⟩)
  · skip
    refine dw_exit ?_
    show DW _ _ _ _ _
    refine stp In ?_
    refine dw_ret ?_
    exact fin 0 (hr := by (try simp only [go_sem, ff]); all_goals (rw [← versR_ok, versR, hv, allN_end (by omega)]))

end Go.Proofs.YtipkfnkmdeopeaaGreatDoor
namespace Go.Proofs.YtipkfnkmdeopeaaGreatDoor
open Go.DL Go.Str Go.Rec Go.Cmp Go.Zon
set_option maxRecDepth 10000
set_option linter.unusedSimpArgs false
set_option linter.unusedVariables false
attribute [go_sem] firstTo_0
theorem bo16 : hasBody Tryz.prog 16 = true := by kernel_rfl
theorem rsame14_ct (a : Sec) (b : Sec) (hf : fitL a.zone.sets) : PureCt Tryz.prog 16 [.agg a.d, .agg b.d] (.b (sameC a b)) := by
  refine pure_of_dw Tryz.func16 rfl bo16 (by simp [go_sem, D.nr, nrs, nrr]) (by simp [Tryz.f16]) ?_
  unfold Tryz.f16
  simp only [init_eq]
  have ff := True.intro
  refine stp In ?_
  refine stp In ?_ (hok := by (try simp only [go_sem, ff]); all_goals (first | done | ((repeat' (with_reducible apply And.intro)) <;> first | exact (fun _ => rsamez_as9 (a := a.zone) (b := b.zone) hf) | (intros; exact (fun _ => rsamez_as9 (a := a.zone) (b := b.zone) hf)) | omega | (intro h; simp only [Bool.and_eq_true, decide_eq_true_eq] at h; omega) | (intros; omega) | (intros; simp_all; done) | skip)))
  refine dw_ret ?_
  exact fin 0 (hr := by (try simp only [go_sem, ff]); all_goals (rw [← sec_parts]))
theorem bo23 : hasBody Tryz.prog 23 = true := by kernel_rfl
theorem rfew14_ct (l : List Zon) : PureCt Tryz.prog 23 [.list false (l.map Zon.d)] (.b (fewL l)) := by
  refine pure_of_dw Tryz.func23 rfl bo23 (by simp [go_sem, D.nr, nrs, nrr]) (by simp [Tryz.f23]) ?_
  unfold Tryz.f23
  simp only [init_eq]
  have ff := True.intro
  refine stp In ?_
  refine dw_seq ?_
  refine stp In ?_
  refine dw_block ?_
  refine lp (α := (Nat) × Nat) [0] (fun ⟨k, nx⟩ => (k ≤ l.length) ∧ (k ≤ 10) ∧ (allN (min l.length 10) (fun i => fewZ l[i]!) 0 = allN (min l.length 10) (fun i => fewZ l[i]!) k) ∧ True) (fun ⟨k, nx⟩ => l.length - k) (fun ⟨k, nx⟩ => [(3, .i k)]) (fun ⟨k, nx⟩ => []) (fun ⟨k, nx⟩ => nx) (0, _) (hA := ⟨iv, iv, rfl, trivial⟩) (round := ?_)
  rintro ⟨k, nx⟩ ⟨hk, hk7, hv, -⟩
  show DW _ _ _ _ { n := _, t := tab _, h := _, nx := _, e := _ }
  simp only [List.cons_append, List.nil_append]
  refine dw_seq ?_
  refine stp In ?_
  refine cd (fun c1 => ?_) (fun c1 => ?_)
  · skip
    have hk2 : k < l.length := by grind
    have hk9 : k < 10 := by grind
    have hk8 : k < min l.length 10 := by omega
    have ff := And.intro (getD_zon hk2) ff
    refine dw_skip ?_
    show DW _ _ _ _ _
    refine dw_seq ?_
    refine dw_block ?_
    refine stp In ?_ (hok := by (try simp only [go_sem, ff]); all_goals (first | done | ((repeat' (with_reducible apply And.intro)) <;> first | exact r06few_ct l[k]! | (intros; exact r06few_ct l[k]!) | omega | (intro h; simp only [Bool.and_eq_true, decide_eq_true_eq] at h; omega) | (intros; omega) | (intros; simp_all; done) | skip)))
    refine cd (fun c2 => ?_) (fun c2 => ?_)
    · skip
      refine stp In ?_
      refine dw_ret ?_
      exact fin 0 (hr := by (try simp only [go_sem, ff]); all_goals (simp only [fewL]; rw [hv, allN_no hk8 (by grind)]; try rfl))
    · skip
      refine dw_skip ?_
      show DW _ _ _ _ _
      refine rgn In ?_
      show ∃ _, _
      exact rnd (k + 1, _) (h1 := ⟨iv, iv, (by (try dsimp only); rw [hv, allN_yes hk8 (by grind)]), trivial⟩)
  · skip
    refine dw_exit ?_
    show DW _ _ _ _ _
    refine stp In ?_
    refine dw_ret ?_
    exact fin 0 (hr := by (try simp only [go_sem, ff]); all_goals (simp only [fewL]; rw [hv, allN_end (by grind)]; simp; first | done | omega | (rw [Bool.eq_iff_iff]; simp; omega)))
theorem bo30 : hasBody Tryz.prog 30 = true := by kernel_rfl
theorem rfewo14_ct (o : Off) : PureCt Tryz.prog 30 [.agg o.d] (.b (fewO o)) := by
  refine pure_of_dw Tryz.func30 rfl bo30 (by simp [go_sem, D.nr, nrs, nrr]) (by simp [Tryz.f30]) ?_
  unfold Tryz.f30
  simp only [init_eq]
  have ff := True.intro
  refine stp In ?_
  refine dw_seq ?_
  refine stp In ?_
  refine dw_block ?_
  refine lp (α := (Nat) × Nat) [1] (fun ⟨k, nx⟩ => (k ≤ o.deltas.length) ∧ (k ≤ 10) ∧ (0 < nx) ∧ (allN (min o.deltas.length 10) (fun i => fewD o.deltas[i]!) 0 = allN (min o.deltas.length 10) (fun i => fewD o.deltas[i]!) k) ∧ True) (fun ⟨k, nx⟩ => o.deltas.length - k) (fun ⟨k, nx⟩ => [(3, .i k)]) (fun ⟨k, nx⟩ => [(0, ⟨30, [o.d]⟩)]) (fun ⟨k, nx⟩ => nx) (0, _) (hA := ⟨iv, iv, iv, rfl, trivial⟩) (round := ?_)
  rintro ⟨k, nx⟩ ⟨hk, hk7, hx, hv, -⟩
  show DW _ _ _ _ { n := _, t := tab _, h := _, nx := _, e := _ }
  simp only [List.cons_append, List.nil_append]
  have ff := And.intro @hx ff
  refine dw_seq ?_
  refine stp In ?_
  refine cd (fun c1 => ?_) (fun c1 => ?_)
  · skip
    have hk2 : k < o.deltas.length := by grind
    have hk9 : k < 10 := by grind
    have hk8 : k < min o.deltas.length 10 := by omega
    have ff := And.intro (getD_dlt hk2) ff
    refine dw_skip ?_
    show DW _ _ _ _ _
    refine dw_seq ?_
    refine dw_block ?_
    refine stp In ?_ (hok := by (try simp only [go_sem, ff]); all_goals (first | done | ((repeat' (with_reducible apply And.intro)) <;> first | exact rfew11_ct o.deltas[k]! | (intros; exact rfew11_ct o.deltas[k]!) | omega | (intro h; simp only [Bool.and_eq_true, decide_eq_true_eq] at h; omega) | (intros; omega) | (intros; simp_all; done) | skip)))
    refine cd (fun c2 => ?_) (fun c2 => ?_)
    · skip
      refine stp In ?_
      refine dw_ret ?_
      exact fin 0 (hr := by (try simp only [go_sem, ff]); all_goals (simp only [fewO]; rw [hv, allN_no hk8 (by grind)]; try rfl))
    · skip
      refine dw_skip ?_
      show DW _ _ _ _ _
      refine rgn In ?_
      show ∃ _, _
      exact rnd (k + 1, _) (h1 := ⟨iv, iv, iv, (by (try dsimp only); rw [hv, allN_yes hk8 (by grind)]), trivial⟩)
  · skip
    refine dw_exit ?_
    show DW _ _ _ _ _
    refine stp In ?_ (hok := by (try simp only [go_sem, ff]); all_goals (first | done | ((repeat' (with_reducible apply And.intro)) <;> first | exact r06few_ct o.zone | (intros; exact r06few_ct o.zone) | omega | (intro h; simp only [Bool.and_eq_true, decide_eq_true_eq] at h; omega) | (intros; omega) | (intros; simp_all; done) | skip)))
    refine dw_ret ?_
    exact fin 0 (hr := by (try simp only [go_sem, ff]); all_goals (simp only [fewO]; rw [hv, allN_end (by grind)]; simp; first | done | omega | (rw [Bool.eq_iff_iff]; simp; omega)))
end Go.Proofs.YtipkfnkmdeopeaaGreatDoor
namespace Go.Proofs.YtipkfnkmdeopeaaGreatDoor
open Go.DL Go.Str Go.Rec Go.Cmp Go.Zon
set_option maxRecDepth 10000
set_option linter.unusedSimpArgs false
set_option linter.unusedVariables false
end Go.Proofs.YtipkfnkmdeopeaaGreatDoor
namespace Go.Proofs.YtipkfnkmdeopeaaGreatDoor
open Go.DL Go.Str Go.Rec Go.Cmp Go.Zon
set_option maxRecDepth 10000
set_option linter.unusedSimpArgs false
set_option linter.unusedVariables false
theorem hq1 : serveF [verZ 1, verZ 2, verZ 3] true 2 = (⟨false, zon0, [dD (verZ 2) (verZ 3)]⟩, 0) := by kernel_rfl
theorem hq2 : serveF [verZ 1, verZ 2, verZ 3] true 7 = (⟨true, verZ 3, []⟩, 0) := by kernel_rfl
theorem hq3 : serveF [] false 0 = (off0, 4) := by kernel_rfl
theorem hq4 : pullF ⟨true, verZ 1, 5⟩ [verZ 1, verZ 2, verZ 3] 9 = (⟨true, verZ 3, 9⟩, 0) := by kernel_rfl
theorem hq5 : pullF ⟨true, verZ 7, 5⟩ [verZ 1, verZ 2, verZ 3] 9 = (sec0, 23) := by kernel_rfl
theorem hq6 : pullF ⟨false, ⟨[], []⟩, 0⟩ [verZ 1, verZ 2, verZ 3] 9 = (⟨true, verZ 3, 9⟩, 0) := by kernel_rfl
theorem hq7 : takeF ⟨false, ⟨[], []⟩, 0⟩ ⟨false, ⟨[], []⟩, [dD (verZ 2) (verZ 3)]⟩ 9 = (sec0, 6) := by kernel_rfl
theorem hq8 : expF ⟨true, verZ 3, 9⟩ 20 10 = (true, 0) := by kernel_rfl
theorem hq9 : fitL (verZ 3).sets := ⟨by decide, by intro k hk; have : k = 0 ∨ k = 1 := (by have : (verZ 3).sets.length = 2 := rfl; omega); rcases this with e | e <;> subst e <;> exact ⟨by decide, by decide⟩⟩
theorem hqf : fitL (dD (verZ 2) (verZ 3)).put := putD_fit hq9
theorem hqp : ∀ i, i < ([dD (verZ 2) (verZ 3)] : List Dlt).length → fitL ([dD (verZ 2) (verZ 3)] : List Dlt)[i]!.put := by
  intro i hi
  have : i = 0 := by simp at hi; omega
  subst this
  exact hqf
theorem hql : ([dD (verZ 2) (verZ 3)] : List Dlt).length = 1 := rfl
theorem tpull_as {s : Sec} {l : List Zon} {t : Int} {x : Sec} {e : Int} (h : pullF s l t = (x, e)) : PureCt Tryz.prog 17 [.agg s.d, .list false (l.map Zon.d), .i t] (.tuple [.agg x.d, .i e]) := by
  have := tpull_ct s l t
  rwa [h] at this
theorem ttake_as {s : Sec} {o : Off} {t : Int} {x : Sec} {e : Int} (hf : ∀ i, i < o.deltas.length → fitL o.deltas[i]!.put) (h : takeF s o t = (x, e)) : PureCt Tryz.prog 14 [.agg s.d, .agg o.d, .i t] (.tuple [.agg x.d, .i e]) := by
  have := ttake_ct s o t hf
  rwa [h] at this
theorem texp_as {s : Sec} {t p : Int} {x : Bool} {e : Int} (h : expF s t p = (x, e)) : PureCt Tryz.prog 19 [.agg s.d, .i t, .i p] (.tuple [.b x, .i e]) := by
  have := texp_ct s t p
  rwa [h] at this
theorem rsame14_self {x : Sec} (h : fitL x.zone.sets) : PureCt Tryz.prog 16 [.agg x.d, .agg x.d] (.b true) := by
  have := rsame14_ct x x h
  rwa [sameC_self] at this
theorem rsamez_self9 {x : Zon} (h : fitL x.sets) : PureCt Tryz.prog 22 [.agg x.d, .agg x.d] (.b true) := by
  have := rsamez_ct x x h
  rwa [show sameZ x x = true from decide_eq_true rfl] at this
theorem bo29 : hasBody Tryz.prog 29 = true := by kernel_rfl
theorem tversion_ct (n : Int) : PureCt Tryz.prog 29 [.i n] (.agg (verZ n).d) := by
  refine pure_of_dw Tryz.func29 rfl bo29 (by simp [go_sem, D.nr, nrs, nrr]) (by simp [Tryz.f29]) ?_
  unfold Tryz.f29
  simp only [init_eq]
  have ff := True.intro
  refine stp In ?_
  refine stp In ?_
  refine dw_seq ?_
  refine dw_ownj 2 1 24 86 (by simp only [go_sem, ff]; exact rfl) (by rfl) (by simp only [go_sem, ff]) ?_
  simp only [List.set_cons_succ, List.set_cons_zero]
  refine stp In ?_
  refine dw_block ?_
  refine lp (α := (Nat) × (Nat) × Nat) [2, 3, 14, 15] (fun ⟨k, r, nx⟩ => (k ≤ 2) ∧ (r < nx) ∧ (2 < r) ∧ True) (fun ⟨k, r, nx⟩ => 2 - k) (fun ⟨k, r, nx⟩ => [(16, .i k)]) (fun ⟨k, r, nx⟩ => [(0, ⟨24, [[.v (.string (bs [])), .list true []]]⟩), (2, ⟨24, [[.v (.string (bs [120])), .mrow r 0 k]]⟩), (r, ⟨86, ([[.v (.string (bs [120])), .i 2, .i 0, .list true [[.v (.string (bs [97, 46, 110, 115])), .i 0, .i 0]], .list true []], [.v (.string (bs [120])), .i 4, .i 0, .list true [[.v (.string (bs [])), .i n, .i 0]], .list true []]]).take k⟩)]) (fun ⟨k, r, nx⟩ => nx) (0, 4, _) (hA := ⟨iv, iv, iv, trivial⟩) (round := ?_)
  rintro ⟨k, r, nx⟩ ⟨hk, hr, hr0, -⟩
  show DW _ _ _ _ { n := _, t := tab _, h := _, nx := _, e := _ }
  simp only [List.cons_append, List.nil_append]
  have n0 : 2 < nx := by omega
  have z0_2 : (0 = 2) = False := eq_false (by omega)
  have y2_0 : (2 = 0) = False := eq_false (by omega)
  have z0_r : (0 = r) = False := eq_false (by omega)
  have yr_0 : (r = 0) = False := eq_false (by omega)
  have z2_r : (2 = r) = False := eq_false (by omega)
  have yr_2 : (r = 2) = False := eq_false (by omega)
  have ff := And.intro @hr (And.intro @n0 (And.intro @z0_2 (And.intro @y2_0 (And.intro @z0_r (And.intro @yr_0 (And.intro @z2_r (And.intro @yr_2 ff)))))))
  refine stp In ?_
  refine dw_seq ?_
  refine cd (fun c1 => ?_) (fun c1 => ?_) (hp := rfl)
  · skip
    have h01 : k = 0 ∨ k = 1 := by have h9 : (k:Int) < 2 := (by simpa using c1); omega
    refine dw_skip ?_
    show DW _ _ _ _ _
    refine dw_seq ?_
    refine dw_block ?_
    rcases h01 with e0 | e0
    · skip
      have ff := And.intro @e0 ff
      refine stp In ?_
      refine rgn In ?_
      show DW _ _ _ _ _
      refine rgn In ?_
      show ∃ _, _
      exact rnd (k + 1, (nx + 10), _) (h1 := ⟨iv, iv, iv, trivial⟩) (h3 := by (try simp only [go_sem, ff]); all_goals (first | done | rfl | (simp; done) | (left; simp; done) | (right; simp; done))) (h4 := by (try simp only [go_sem, ff]); all_goals (first | done | rfl | (simp; done) | (left; simp; done) | (right; simp; done))) (h5 := by (try simp only [go_sem, ff]); all_goals (first | done | rfl | (simp; done) | (left; simp; done) | (right; simp; done)))
    · skip
      have ff := And.intro @e0 ff
      refine stp In ?_
      refine rgn In ?_
      show DW _ _ _ _ _
      refine rgn In ?_
      show ∃ _, _
      exact rnd (k + 1, (nx + 10), _) (h1 := ⟨iv, iv, iv, trivial⟩) (h3 := by (try simp only [go_sem, ff]); all_goals (first | done | rfl | (simp; done) | (left; simp; done) | (right; simp; done))) (h4 := by (try simp only [go_sem, ff]); all_goals (first | done | rfl | (simp; done) | (left; simp; done) | (right; simp; done))) (h5 := by (try simp only [go_sem, ff]); all_goals (first | done | rfl | (simp; done) | (left; simp; done) | (right; simp; done)))
  · skip
    refine dw_exit ?_
    show DW _ _ _ _ _
    have e9 : k = 2 := by have h9 : ¬ (k:Int) < 2 := (by simpa using c1); omega
    subst e9
    refine stp In ?_
    refine dw_ret ?_
    exact fin 5 (hr := by (try simp only [go_sem, ff]); all_goals (rfl))
theorem bo10 : hasBody Tryz.prog 10 = true := by kernel_rfl
theorem tfew_ct (s : Sec) (l : List Zon) (o : Off) : PureCt Tryz.prog 10 [.agg s.d, .list false (l.map Zon.d), .agg o.d] (.b (fewT s l o)) := by
  refine pure_of_dw Tryz.func10 rfl bo10 (by simp [go_sem, D.nr, nrs, nrr]) (by simp [Tryz.f10]) ?_
  unfold Tryz.f10
  simp only [init_eq]
  have ff := True.intro
  refine stp In ?_
  refine stp In ?_ (hok := by (try simp only [go_sem, ff]); all_goals (first | done | ((repeat' (with_reducible apply And.intro)) <;> first | exact r06few_ct s.zone | (intros; exact r06few_ct s.zone) | exact (fun _ => rfew14_ct l) | (intros; exact (fun _ => rfew14_ct l)) | exact (fun _ => rfewo14_ct o) | (intros; exact (fun _ => rfewo14_ct o)) | skip)))
  refine dw_ret ?_
  exact fin 0 (hr := by (try simp only [go_sem, ff]); all_goals (rfl))
theorem bo21 : hasBody Tryz.prog 21 = true := by kernel_rfl
theorem tknown_ct (s : Sec) (l : List Zon) (hl : l.length ≤ 1000000) : PureCt Tryz.prog 21 [.agg s.d, .list false (l.map Zon.d)] (.b (knownB s l)) := by
  refine pure_of_dw Tryz.func21 rfl bo21 (by simp [go_sem, D.nr, nrs, nrr]) (by simp [Tryz.f21]) ?_
  unfold Tryz.f21
  simp only [init_eq]
  have ff := True.intro
  refine stp In ?_
  refine dw_seq ?_
  refine stp In ?_ (hok := by (try simp only [go_sem, ff]); all_goals (first | done | ((repeat' (with_reducible apply And.intro)) <;> first | exact (fun _ => rvsec14_ct s) | (intros; exact (fun _ => rvsec14_ct s)) | exact (fun _ => rvers14_ct l hl) | (intros; exact (fun _ => rvers14_ct l hl)) | omega | (intro h; simp only [Bool.and_eq_true, decide_eq_true_eq] at h; omega) | (intros; omega) | (intros; simp_all; done) | skip)))
  refine cd (fun c1 => ?_) (fun c1 => ?_)
  · skip
    refine stp In ?_
    refine dw_ret ?_
    exact fin 0 (hr := by (try simp only [go_sem, ff]); all_goals (rw [knownB, if_pos (by grind)]))
  · skip
    have hh : s.has = true := by grind
    have hs : secOk s = true := by grind
    have hvo : versOk l = true := by grind
    have hvs := vers_iff.1 hvo
    have hsz := sec_zone hs hh
    have hkb : knownB s l = knownTo s l l.length := by unfold knownB; rw [if_neg (by rintro (q | q | q); rw [hh] at q; cases q; rw [hs] at q; cases q; rw [hvo] at q; cases q)]
    refine dw_skip ?_
    show DW _ _ _ _ _
    refine dw_seq ?_
    refine stp In ?_
    refine dw_block ?_
    refine lp (α := (Nat) × Nat) [1, 2] (fun ⟨k, nx⟩ => (k ≤ l.length) ∧ (0 < nx) ∧ (knownTo s l l.length = knownTo s l k) ∧ True) (fun ⟨k, nx⟩ => k) (fun ⟨k, nx⟩ => [(5, .i ((k:Int) - 1))]) (fun ⟨k, nx⟩ => [(0, ⟨26, [s.d]⟩)]) (fun ⟨k, nx⟩ => nx) (l.length, _) (hA := ⟨iv, iv, rfl, trivial⟩) (round := ?_)
    rintro ⟨k, nx⟩ ⟨hk, hx, hv, -⟩
    show DW _ _ _ _ { n := _, t := tab _, h := _, nx := _, e := _ }
    simp only [List.cons_append, List.nil_append]
    have ff := And.intro @hx ff
    refine dw_seq ?_
    refine stp In ?_
    refine cd (fun c2 => ?_) (fun c2 => ?_)
    · skip
      have hk1 : 1 ≤ k := by omega
      have hk2 : k - 1 < l.length := by omega
      have e1 : ((k:Int) - 1).toNat = k - 1 := by omega
      have hkk : knownTo s l k = if serialOf l[k - 1]! = serialOf s.zone then decide (l[k - 1]! = s.zone) else knownTo s l (k - 1) := known_step hk1
      have hr1 := serial_ref (hvs.ok (k - 1) hk2)
      have hr2 := serial_ref hsz
      have ff := And.intro @e1 (And.intro (getD_zon hk2) ff)
      refine dw_skip ?_
      show DW _ _ _ _ _
      refine dw_seq ?_
      refine dw_block ?_
      have h1 := rser_as (z := l[k - 1]!) (hvs.ok (k - 1) hk2)
      have h2 := rser_as hsz
      simp only [go_sem] at h1 h2
      refine stp In ?_ (hok := by (try simp only [go_sem, ff]); all_goals (first | exact ok0 | (apply r06serial_ct <;> omega) | (intros; apply r06serial_ct <;> omega)))
      refine cd (fun c3 => ?_) (fun c3 => ?_)
      · skip
        have h3 := rsamez_as9 (a := l[k - 1]!) (b := s.zone) (zone_fit (hvs.ok _ hk2))
        simp only [go_sem] at h3
        refine stp In ?_ (hok := by (try simp only [go_sem, ff]); all_goals (first | exact ok0 | (apply rsamez_ct <;> omega) | (intros; apply rsamez_ct <;> omega)))
        refine dw_ret ?_
        exact fin 0 (hr := by (try simp only [go_sem, ff]); all_goals (rw [hkb, hv, hkk, if_pos (by rw [hr1, hr2]; grind)]; try rfl))
      · skip
        refine dw_skip ?_
        show DW _ _ _ _ _
        refine rgn In ?_
        show ∃ _, _
        have hkc : ((k:Int) - 1 - 1) = ((k - 1 : Nat) : Int) - 1 := by omega
        have ff := And.intro hkc ff
        exact rnd (k - 1, _) (h1 := ⟨iv, iv, (by (try dsimp only); rw [hv, hkk, if_neg (by rw [hr1, hr2]; grind)]), trivial⟩) (h2 := by show (_ : Nat) < _; omega)
    · skip
      refine dw_exit ?_
      show DW _ _ _ _ _
      refine stp In ?_
      refine dw_ret ?_
      exact fin 0 (hr := by (try simp only [go_sem, ff]); all_goals (rw [hkb, hv, show k = 0 from by omega]; try rfl))
theorem bo9 : hasBody Tryz.prog 9 = true := by kernel_rfl
theorem head14_ct  : PureCt Tryz.prog 9 [] (.b true) := by
  refine pure_of_dw Tryz.func9 rfl bo9 (by simp [go_sem, D.nr, nrs, nrr]) (by simp [Tryz.f9]) ?_
  unfold Tryz.f9
  simp only [init_eq]
  have ff := True.intro
  have ff := And.intro @hq1 (And.intro @hq2 (And.intro @hq3 (And.intro @hq4 (And.intro @hq5 (And.intro @hq6 (And.intro @hq7 (And.intro @hq8 (And.intro @hql (And.intro (@sameC_self) ff)))))))))
  refine stp In ?_
  refine stp In ?_ (hok := by (try simp only [go_sem, ff]); all_goals (first | done | ((repeat' (with_reducible apply And.intro)) <;> first | exact tversion_ct 1 | (intros; exact tversion_ct 1) | exact tversion_ct 2 | (intros; exact tversion_ct 2) | exact tversion_ct 3 | (intros; exact tversion_ct 3) | skip)))
  refine stp In ?_ (hok := by (try simp only [go_sem, ff]); all_goals (exact tserve_as hq1))
  refine stp In ?_ (hok := by (try simp only [go_sem, ff]); all_goals (exact tserve_as hq2))
  refine stp In ?_ (hok := by (try simp only [go_sem, ff]); all_goals (exact tserve_as hq3))
  refine stp In ?_ (hok := by (try simp only [go_sem, ff]); all_goals (first | done | ((repeat' (with_reducible apply And.intro)) <;> first | exact tversion_ct 1 | (intros; exact tversion_ct 1) | exact tpull_as hq4 | (intros; exact tpull_as hq4) | skip)))
  refine stp In ?_ (hok := by (try simp only [go_sem, ff]); all_goals (first | done | ((repeat' (with_reducible apply And.intro)) <;> first | exact tversion_ct 7 | (intros; exact tversion_ct 7) | exact tpull_as hq5 | (intros; exact tpull_as hq5) | skip)))
  refine stp In ?_ (hok := by (try simp only [go_sem, ff]); all_goals (first | done | ((repeat' (with_reducible apply And.intro)) <;> first | exact tpull_as hq6 | (intros; exact tpull_as hq6) | skip)))
  refine stp In ?_ (hok := by (try simp only [go_sem, ff]); all_goals (first | done | ((repeat' (with_reducible apply And.intro)) <;> first | exact ttake_as hqp hq7 | (intros; exact ttake_as hqp hq7) | skip)))
  refine stp In ?_ (hok := by (try simp only [go_sem, ff]); all_goals (exact texp_as hq8))
  refine stp In ?_
  refine stp In ?_ (hok := by (try simp only [go_sem, ff]); all_goals (first | done | ((repeat' (with_reducible apply And.intro)) <;> first | exact tversion_ct 3 | (intros; exact tversion_ct 3) | exact (fun _ => tversion_ct 3) | (intros; exact (fun _ => tversion_ct 3)) | exact (fun _ => rsame14_self (x := ⟨true, verZ 3, 9⟩) hq9) | (intros; exact (fun _ => rsame14_self (x := ⟨true, verZ 3, 9⟩) hq9)) | exact rsame14_self (x := ⟨true, verZ 3, 9⟩) hq9 | (intros; exact rsame14_self (x := ⟨true, verZ 3, 9⟩) hq9) | skip)))
  refine dw_ret ?_
  exact fin 0 (hr := by (try simp only [go_sem, ff]); all_goals (first | rfl | kernel_rfl))

end Go.Proofs.YtipkfnkmdeopeaaGreatDoor
namespace Go.Proofs.YtipkfnkmdeopeaaGreatDoor
open Go.DL Go.Str Go.Rec Go.Cmp Go.Zon
set_option maxRecDepth 10000
set_option linter.unusedSimpArgs false
set_option linter.unusedVariables false
theorem bo8 : hasBody Tryz.prog 8 = true := by kernel_rfl
theorem lawTP_ct (s : Sec) (a : Int) (b : Int) (c : Int) (d : Int) (ha : 0 ≤ a ∧ a < 65536) (hb : 0 ≤ b ∧ b < 65536) (hc : 0 ≤ c ∧ c < 65536) (hd : 0 ≤ d ∧ d < 65536) : PureCt Tryz.prog 8 [.agg s.d, .v (.int .u16 a), .v (.int .u16 b), .v (.int .u16 c), .v (.int .u16 d)] (.b true) := by
  refine pure_of_dw Tryz.func8 rfl bo8 (by simp [go_sem, D.nr, nrs, nrr]) (by simp [Tryz.f8]) ?_
  unfold Tryz.f8
  simp only [init_eq]
  have ff := True.intro
  have w1 : IntKind.i64.wrap a = a := by rw [IntKind.wrap_i64]; omega
  have w2 : IntKind.i64.wrap b = b := by rw [IntKind.wrap_i64]; omega
  have w3 : IntKind.i64.wrap c = c := by rw [IntKind.wrap_i64]; omega
  have w4 : IntKind.i64.wrap d = d := by rw [IntKind.wrap_i64]; omega
  have ff := And.intro @w1 (And.intro @w2 (And.intro @w3 (And.intro @w4 ff)))
  refine stp In ?_
  refine stp In ?_ (hok := by (try simp only [go_sem, ff]); all_goals (exact head14_ct))
  refine dw_seq ?_
  refine stp In ?_ (hok := by (try simp only [go_sem, ff]); all_goals (first | done | ((repeat' (with_reducible apply And.intro)) <;> first | exact r06few_ct s.zone | (intros; exact r06few_ct s.zone) | exact (fun _ => rvsec14_ct s) | (intros; exact (fun _ => rvsec14_ct s)) | omega | (intro h; simp only [Bool.and_eq_true, decide_eq_true_eq] at h; omega) | (intros; omega) | (intros; simp_all; done) | skip)))
  refine cd (fun c1 => ?_) (fun c1 => ?_)
  · skip
    refine stp In ?_
    refine dw_ret ?_
    exact fin 0 (hr := by (try simp only [go_sem, ff]); all_goals (rfl))
  · skip
    have f1 : fewZ s.zone = true := by grind
    have hs : secOk s = true := by grind
    have hsn := sec_seen hs
    have hs9 : s.seen ≤ 9800000 := by grind
    have x1 := exp_ok (t := s.seen) (p := c) hs (by omega) (by omega) (by omega)
    have x2 := exp_ok (t := s.seen + a) (p := c) hs (by omega) (by omega) (by omega)
    have x3 := exp_ok (t := s.seen + a + b) (p := c) hs (by omega) (by omega) (by omega)
    have x4 := exp_ok (t := s.seen + a) (p := min c d) hs (by omega) (by omega) (by omega)
    have x5 := exp_early (s := s) (t := s.seen - 1) (p := c) (by omega)
    have ff := And.intro @x1 (And.intro @x2 (And.intro @x3 (And.intro @x4 (And.intro @x5 ff))))
    refine dw_skip ?_
    show DW _ _ _ _ _
    refine stp In ?_
    refine stp In ?_ (hok := by (try simp only [go_sem, ff]); all_goals (first | done | ((repeat' (with_reducible apply And.intro)) <;> first | exact texp_as x1 | (intros; exact texp_as x1) | omega | (intro h; simp only [Bool.and_eq_true, decide_eq_true_eq] at h; omega) | (intros; omega) | (intros; simp_all; done) | skip)))
    refine stp In ?_ (hok := by (try simp only [go_sem, ff]); all_goals (first | done | ((repeat' (with_reducible apply And.intro)) <;> first | exact texp_as x2 | (intros; exact texp_as x2) | omega | (intro h; simp only [Bool.and_eq_true, decide_eq_true_eq] at h; omega) | (intros; omega) | (intros; simp_all; done) | skip)))
    refine stp In ?_ (hok := by (try simp only [go_sem, ff]); all_goals (first | done | ((repeat' (with_reducible apply And.intro)) <;> first | exact texp_as x3 | (intros; exact texp_as x3) | omega | (intro h; simp only [Bool.and_eq_true, decide_eq_true_eq] at h; omega) | (intros; omega) | (intros; simp_all; done) | skip)))
    refine stp In ?_ (hok := by (try simp only [go_sem, ff]); all_goals (first | done | ((repeat' (with_reducible apply And.intro)) <;> first | exact texp_as x4 | (intros; exact texp_as x4) | omega | (intro h; simp only [Bool.and_eq_true, decide_eq_true_eq] at h; omega) | (intros; omega) | (intros; simp_all; done) | skip)))
    refine stp In ?_ (hok := by (try simp only [go_sem, ff]); all_goals (first | done | ((repeat' (with_reducible apply And.intro)) <;> first | exact texp_as x5 | (intros; exact texp_as x5) | omega | (intro h; simp only [Bool.and_eq_true, decide_eq_true_eq] at h; omega) | (intros; omega) | (intros; simp_all; done) | skip)))
    refine dw_seq ?_
    refine stp In ?_
    refine cd (fun c2 => ?_) (fun c2 => ?_) (hp := rfl)
    · skip
      first | exact c2.elim | (simp at c2; done) | cases c2
    · skip
      refine dw_skip ?_
      show DW _ _ _ _ _
      refine stp In ?_
      refine dw_ret ?_
      exact fin 0 (hr := by (try simp only [go_sem, ff]); all_goals (cases s.has <;> simp <;> omega))

end Go.Proofs.YtipkfnkmdeopeaaGreatDoor
namespace Go.Proofs.YtipkfnkmdeopeaaGreatDoor
open Go.DL Go.Str Go.Rec Go.Cmp Go.Zon
set_option maxRecDepth 10000
set_option linter.unusedSimpArgs false
set_option linter.unusedVariables false
theorem bo7 : hasBody Tryz.prog 7 = true := by kernel_rfl
theorem lawTO_ct (s : Sec) (z : Zon) (t : Int) : PureCt Tryz.prog 7 [.agg s.d, .agg z.d, .i t] (.b true) := by
  refine pure_of_dw Tryz.func7 rfl bo7 (by simp [go_sem, D.nr, nrs, nrr]) (by simp [Tryz.f7]) ?_
  unfold Tryz.f7
  simp only [init_eq]
  have ff := True.intro
  refine stp In ?_
  refine stp In ?_ (hok := by (try simp only [go_sem, ff]); all_goals (exact head14_ct))
  refine dw_seq ?_
  refine stp In ?_ (hok := by (try simp only [go_sem, ff]); all_goals (first | done | ((repeat' (with_reducible apply And.intro)) <;> first | exact r06few_ct s.zone | (intros; exact r06few_ct s.zone) | exact (fun _ => r06few_ct z) | (intros; exact (fun _ => r06few_ct z)) | exact (fun _ => rvsec14_ct s) | (intros; exact (fun _ => rvsec14_ct s)) | exact (fun _ => r06valid_ct z) | (intros; exact (fun _ => r06valid_ct z)) | omega | (intro h; simp only [Bool.and_eq_true, decide_eq_true_eq] at h; omega) | (intros; omega) | (intros; simp_all; done) | skip)))
  refine cd (fun c1 => ?_) (fun c1 => ?_)
  · skip
    refine stp In ?_
    refine dw_ret ?_
    exact fin 0 (hr := by (try simp only [go_sem, ff]); all_goals (rfl))
  · skip
    have f1 : fewZ s.zone = true := by grind
    have hs : secOk s = true := by grind
    have hh : s.has = true := by grind
    have hz : zoneOk z = true := by rw [zoneOk_ref]; grind
    have hsz := sec_zone hs hh
    have hb1 : serB (serialOf s.zone) = true := ser_ok hsz
    have hb2 : serB (serialOf z) = true := ser_ok hz
    have hg0 := gap_zero hb1 hb2
    have hgb := gap_bef (a := serialOf s.zone) (b := serialOf z)
    rw [serial_ref hsz, serial_ref hz] at hg0 hgb
    unfold gapN at hg0 hgb
    refine dw_skip ?_
    show DW _ _ _ _ _
    rcases take_five (t := t) hs hh hz with ⟨hc, hT⟩ | ⟨hc, he, hT⟩ | ⟨hc, he, hn, hT⟩ | ⟨hc, he, hT⟩ | ⟨hc, he, hn, hT⟩
    · skip
      have ff := And.intro @hT ff
      refine stp In ?_ (hok := by (try simp only [go_sem, ff]); all_goals (first | done | ((repeat' (with_reducible apply And.intro)) <;> first | exact ttake_as (fun i hi => absurd hi (Nat.not_lt_zero _)) hT | (intros; exact ttake_as (fun i hi => absurd hi (Nat.not_lt_zero _)) hT) | skip)))
      refine dw_seq ?_
      refine stp In ?_
      refine cd (fun c2 => ?_) (fun c2 => ?_)
      · skip
        refine stp In ?_
        refine dw_ret ?_
        exact fin 0 (hr := by (try simp only [go_sem, ff]); all_goals (first | rfl | (simp; done)))
      · skip
        exfalso; first | omega | grind
    · skip
      have he3 : serialR z = serialR s.zone := by rw [he]
      have hgg : (serialR z - serialR s.zone + 65536) % 65536 = 0 := by rw [hg0, he3]
      have hsm : sameZ z s.zone = true := decide_eq_true he
      have ff := And.intro @hT (And.intro @hsm ff)
      refine stp In ?_ (hok := by (try simp only [go_sem, ff]); all_goals (first | done | ((repeat' (with_reducible apply And.intro)) <;> first | exact ttake_as (fun i hi => absurd hi (Nat.not_lt_zero _)) hT | (intros; exact ttake_as (fun i hi => absurd hi (Nat.not_lt_zero _)) hT) | skip)))
      refine dw_seq ?_
      refine stp In ?_
      refine cd (fun c2 => ?_) (fun c2 => ?_)
      · skip
        exfalso; first | omega | grind
      · skip
        refine dw_skip ?_
        show DW _ _ _ _ _
        have h1 := rser_as hz
        have h2 := rser_as hsz
        simp only [go_sem] at h1 h2
        have hq1 : serB (serialR z) = true := by rw [← serial_ref hz]; exact hb2
        have hq2 : serB (serialR s.zone) = true := by rw [← serial_ref hsz]; exact hb1
        simp only [serB, Bool.and_eq_true, decide_eq_true_eq] at hq1 hq2
        refine stp In ?_ (hok := by (try simp only [go_sem, ff]); all_goals (first | exact ok0 | (apply r06serial_ct <;> omega) | (intros; apply r06serial_ct <;> omega)))
        refine dw_seq ?_
        refine dw_block ?_
        refine dw_seq ?_
        refine stp In ?_ (hok := by (try simp only [go_sem, ff]); all_goals (first | done | ((repeat' (with_reducible apply And.intro)) <;> first | exact (fun _ => rsamez_as9 (a := z) (b := s.zone) (zone_fit hz)) | (intros; exact (fun _ => rsamez_as9 (a := z) (b := s.zone) (zone_fit hz))) | (intro _; have h9 := rsamez_as9 (a := z) (b := s.zone) (zone_fit hz); rw [hsm] at h9; exact h9) | omega | (intro h; simp only [Bool.and_eq_true, decide_eq_true_eq] at h; omega) | (intros; omega) | (intros; simp_all; done) | skip)))
        refine cd (fun c3 => ?_) (fun c3 => ?_)
        · skip
          refine dw_skip ?_
          show DW _ _ _ _ _
          refine cd (fun c4 => ?_) (fun c4 => ?_)
          · skip
            have ff := And.intro (@sameZ_self) ff
            refine stp In ?_ (hok := by (try simp only [go_sem, ff]); all_goals (first | done | ((repeat' (with_reducible apply And.intro)) <;> first | exact (fun _ => rsamez_self9 (zone_fit hz)) | (intros; exact (fun _ => rsamez_self9 (zone_fit hz))) | exact rsamez_self9 (zone_fit hz) | (intros; exact rsamez_self9 (zone_fit hz)) | (intros; simp_all; done) | omega | (intro h; simp only [Bool.and_eq_true, decide_eq_true_eq] at h; omega) | (intros; omega) | (intros; simp_all; done) | skip)))
            refine dw_ret ?_
            exact fin 0 (hr := by (try simp only [go_sem, ff]); all_goals (first | rfl | (simp; done)))
          · skip
            exfalso; first | omega | grind
        · skip
          exfalso; first | omega | grind
    · skip
      rw [serial_ref hsz, serial_ref hz] at he
      have hgg : (serialR z - serialR s.zone + 65536) % 65536 = 0 := hg0.2 he
      have hsm : sameZ z s.zone = false := decide_eq_false hn
      have ff := And.intro @hT (And.intro @hsm ff)
      refine stp In ?_ (hok := by (try simp only [go_sem, ff]); all_goals (first | done | ((repeat' (with_reducible apply And.intro)) <;> first | exact ttake_as (fun i hi => absurd hi (Nat.not_lt_zero _)) hT | (intros; exact ttake_as (fun i hi => absurd hi (Nat.not_lt_zero _)) hT) | skip)))
      refine dw_seq ?_
      refine stp In ?_
      refine cd (fun c2 => ?_) (fun c2 => ?_)
      · skip
        exfalso; first | omega | grind
      · skip
        refine dw_skip ?_
        show DW _ _ _ _ _
        have h1 := rser_as hz
        have h2 := rser_as hsz
        simp only [go_sem] at h1 h2
        have hq1 : serB (serialR z) = true := by rw [← serial_ref hz]; exact hb2
        have hq2 : serB (serialR s.zone) = true := by rw [← serial_ref hsz]; exact hb1
        simp only [serB, Bool.and_eq_true, decide_eq_true_eq] at hq1 hq2
        refine stp In ?_ (hok := by (try simp only [go_sem, ff]); all_goals (first | exact ok0 | (apply r06serial_ct <;> omega) | (intros; apply r06serial_ct <;> omega)))
        refine dw_seq ?_
        refine dw_block ?_
        refine dw_seq ?_
        refine stp In ?_ (hok := by (try simp only [go_sem, ff]); all_goals (first | done | ((repeat' (with_reducible apply And.intro)) <;> first | exact (fun _ => rsamez_as9 (a := z) (b := s.zone) (zone_fit hz)) | (intros; exact (fun _ => rsamez_as9 (a := z) (b := s.zone) (zone_fit hz))) | (intro _; have h9 := rsamez_as9 (a := z) (b := s.zone) (zone_fit hz); rw [hsm] at h9; exact h9) | omega | (intro h; simp only [Bool.and_eq_true, decide_eq_true_eq] at h; omega) | (intros; omega) | (intros; simp_all; done) | skip)))
        refine cd (fun c3 => ?_) (fun c3 => ?_)
        · skip
          exfalso; first | omega | grind
        · skip
          refine rgn In ?_
          show DW _ _ _ _ _
          refine cd (fun c5 => ?_) (fun c5 => ?_)
          · skip
            exfalso; first | omega | grind
          · skip
            refine stp In ?_
            refine cd (fun c6 => ?_) (fun c6 => ?_)
            · skip
              refine stp In ?_
              refine dw_ret ?_
              exact fin 0 (hr := by (try simp only [go_sem, ff]); all_goals (first | rfl | (simp; done)))
            · skip
              exfalso; first | omega | grind
    · skip
      rw [serial_ref hsz, serial_ref hz, hgb, Bool.and_eq_true, decide_eq_true_eq, decide_eq_true_eq] at he
      obtain ⟨hga, hgc⟩ := he
      have ff := And.intro @hT ff
      refine stp In ?_ (hok := by (try simp only [go_sem, ff]); all_goals (first | done | ((repeat' (with_reducible apply And.intro)) <;> first | exact ttake_as (fun i hi => absurd hi (Nat.not_lt_zero _)) hT | (intros; exact ttake_as (fun i hi => absurd hi (Nat.not_lt_zero _)) hT) | skip)))
      refine dw_seq ?_
      refine stp In ?_
      refine cd (fun c2 => ?_) (fun c2 => ?_)
      · skip
        exfalso; first | omega | grind
      · skip
        refine dw_skip ?_
        show DW _ _ _ _ _
        have h1 := rser_as hz
        have h2 := rser_as hsz
        simp only [go_sem] at h1 h2
        have hq1 : serB (serialR z) = true := by rw [← serial_ref hz]; exact hb2
        have hq2 : serB (serialR s.zone) = true := by rw [← serial_ref hsz]; exact hb1
        simp only [serB, Bool.and_eq_true, decide_eq_true_eq] at hq1 hq2
        refine stp In ?_ (hok := by (try simp only [go_sem, ff]); all_goals (first | exact ok0 | (apply r06serial_ct <;> omega) | (intros; apply r06serial_ct <;> omega)))
        refine dw_seq ?_
        refine dw_block ?_
        refine dw_seq ?_
        refine stp In ?_ (hok := by (try simp only [go_sem, ff]); all_goals (first | done | ((repeat' (with_reducible apply And.intro)) <;> first | exact (fun _ => rsamez_as9 (a := z) (b := s.zone) (zone_fit hz)) | (intros; exact (fun _ => rsamez_as9 (a := z) (b := s.zone) (zone_fit hz))) | (intro _; have h9 := rsamez_as9 (a := z) (b := s.zone) (zone_fit hz); rw [hsm] at h9; exact h9) | omega | (intro h; simp only [Bool.and_eq_true, decide_eq_true_eq] at h; omega) | (intros; omega) | (intros; simp_all; done) | skip)))
        refine cd (fun c3 => ?_) (fun c3 => ?_)
        · skip
          exfalso; first | omega | grind
        · skip
          refine rgn In ?_
          show DW _ _ _ _ _
          refine cd (fun c5 => ?_) (fun c5 => ?_)
          · skip
            have ff := And.intro (@sameZ_self) ff
            refine stp In ?_ (hok := by (try simp only [go_sem, ff]); all_goals (first | done | ((repeat' (with_reducible apply And.intro)) <;> first | exact (fun _ => rsamez_self9 (zone_fit hz)) | (intros; exact (fun _ => rsamez_self9 (zone_fit hz))) | exact rsamez_self9 (zone_fit hz) | (intros; exact rsamez_self9 (zone_fit hz)) | (intros; simp_all; done) | omega | (intro h; simp only [Bool.and_eq_true, decide_eq_true_eq] at h; omega) | (intros; omega) | (intros; simp_all; done) | skip)))
            refine dw_ret ?_
            exact fin 0 (hr := by (try simp only [go_sem, ff]); all_goals (first | rfl | (simp; done)))
          · skip
            exfalso; first | omega | grind
    · skip
      rw [serial_ref hsz, serial_ref hz] at he hn
      have hg9 : (serialR z - serialR s.zone + 65536) % 65536 ≠ 0 := fun q => he (hg0.1 q)
      rw [hgb, Bool.and_eq_false_iff, decide_eq_false_iff_not, decide_eq_false_iff_not] at hn
      have ff := And.intro @hT ff
      refine stp In ?_ (hok := by (try simp only [go_sem, ff]); all_goals (first | done | ((repeat' (with_reducible apply And.intro)) <;> first | exact ttake_as (fun i hi => absurd hi (Nat.not_lt_zero _)) hT | (intros; exact ttake_as (fun i hi => absurd hi (Nat.not_lt_zero _)) hT) | skip)))
      refine dw_seq ?_
      refine stp In ?_
      refine cd (fun c2 => ?_) (fun c2 => ?_)
      · skip
        exfalso; first | omega | grind
      · skip
        refine dw_skip ?_
        show DW _ _ _ _ _
        have h1 := rser_as hz
        have h2 := rser_as hsz
        simp only [go_sem] at h1 h2
        have hq1 : serB (serialR z) = true := by rw [← serial_ref hz]; exact hb2
        have hq2 : serB (serialR s.zone) = true := by rw [← serial_ref hsz]; exact hb1
        simp only [serB, Bool.and_eq_true, decide_eq_true_eq] at hq1 hq2
        refine stp In ?_ (hok := by (try simp only [go_sem, ff]); all_goals (first | exact ok0 | (apply r06serial_ct <;> omega) | (intros; apply r06serial_ct <;> omega)))
        refine dw_seq ?_
        refine dw_block ?_
        refine dw_seq ?_
        refine stp In ?_ (hok := by (try simp only [go_sem, ff]); all_goals (first | done | ((repeat' (with_reducible apply And.intro)) <;> first | exact (fun _ => rsamez_as9 (a := z) (b := s.zone) (zone_fit hz)) | (intros; exact (fun _ => rsamez_as9 (a := z) (b := s.zone) (zone_fit hz))) | (intro _; have h9 := rsamez_as9 (a := z) (b := s.zone) (zone_fit hz); rw [hsm] at h9; exact h9) | omega | (intro h; simp only [Bool.and_eq_true, decide_eq_true_eq] at h; omega) | (intros; omega) | (intros; simp_all; done) | skip)))
        refine cd (fun c3 => ?_) (fun c3 => ?_)
        · skip
          exfalso; first | omega | grind
        · skip
          refine rgn In ?_
          show DW _ _ _ _ _
          refine cd (fun c5 => ?_) (fun c5 => ?_)
          · skip
            exfalso; first | omega | grind
          · skip
            refine stp In ?_
            refine cd (fun c6 => ?_) (fun c6 => ?_)
            · skip
              exfalso; first | omega | grind
            · skip
              refine dw_skip ?_
              show DW _ _ _ _ _
              refine stp In ?_
              refine dw_ret ?_
              exact fin 0 (hr := by (try simp only [go_sem, ff]); all_goals (first | rfl | (simp; done)))
theorem bo4 : hasBody Tryz.prog 4 = true := by kernel_rfl
theorem lawTN_ct (s : Sec) (l : List Zon) (t : Int) (c : Int) (hc : 0 ≤ c ∧ c < 65536) : PureCt Tryz.prog 4 [.agg s.d, .list false (l.map Zon.d), .i t, .v (.int .u16 c)] (.b true) := by
  refine pure_of_dw Tryz.func4 rfl bo4 (by simp [go_sem, D.nr, nrs, nrr]) (by simp [Tryz.f4]) ?_
  unfold Tryz.f4
  simp only [init_eq]
  have ff := True.intro
  have w1 : IntKind.i64.wrap c = c := by rw [IntKind.wrap_i64]; omega
  have ff := And.intro @w1 ff
  refine stp In ?_
  refine stp In ?_ (hok := by (try simp only [go_sem, ff]); all_goals (exact head14_ct))
  refine dw_seq ?_
  refine stp In ?_ (hok := by (try simp only [go_sem, ff]); all_goals (first | done | ((repeat' (with_reducible apply And.intro)) <;> first | exact tfew_ct s l ⟨false, ⟨[], []⟩, []⟩ | (intros; exact tfew_ct s l ⟨false, ⟨[], []⟩, []⟩) | exact (fun h => tknown_ct s l (fewT_len h)) | (intros; exact (fun h => tknown_ct s l (fewT_len h))) | omega | (intro h; simp only [Bool.and_eq_true, decide_eq_true_eq] at h; omega) | (intros; omega) | (intros; simp_all; done) | skip)))
  refine cd (fun c1 => ?_) (fun c1 => ?_)
  · skip
    refine stp In ?_
    refine dw_ret ?_
    exact fin 0 (hr := by (try simp only [go_sem, ff]); all_goals (rfl))
  · skip
    have hf : fewT s l ⟨false, ⟨[], []⟩, []⟩ = true := by grind
    have hk : knownB s l = true := by grind
    refine dw_skip ?_
    show DW _ _ _ _ _
    rcases hx : pullF s l t with ⟨x, k1⟩
    have ff := And.intro @hx ff
    refine stp In ?_ (hok := by (try simp only [go_sem, ff]); all_goals (exact tpull_as hx))
    refine dw_seq ?_
    refine stp In ?_
    refine cd (fun c2 => ?_) (fun c2 => ?_)
    · skip
      have hx0 : x = sec0 := by have := pull_err (s := s) (l := l) (t := t) (by rw [hx]; grind); rw [hx] at this; exact this
      subst hx0
      have ff := And.intro (show sec0.has = false from rfl) (And.intro (show sec0.zone.sets = [] from rfl) ff)
      refine stp In ?_
      refine dw_ret ?_
      exact fin 0 (hr := by (try simp only [go_sem, ff]); all_goals (first | rfl | (simp; done)))
    · skip
      obtain rfl : k1 = 0 := by grind
      obtain ⟨rfl, h1, h2, hv, h3, h4⟩ := pull_newest hk hx
      have hlk : l.length - 1 < l.length := by omega
      have e1 : ((l.length:Int) - 1).toNat = l.length - 1 := by omega
      have hfl := zone_fit (hv.ok _ hlk)
      have ff := And.intro @e1 (And.intro (getD_zon hlk) (And.intro (@sameZ_self) (And.intro (@sameC_self) ff)))
      refine dw_skip ?_
      show DW _ _ _ _ _
      refine dw_seq ?_
      refine stp In ?_ (hok := by (try simp only [go_sem, ff]); all_goals (first | done | ((repeat' (with_reducible apply And.intro)) <;> first | exact (fun _ => rsamez_self9 (x := l[l.length - 1]!) hfl) | (intros; exact (fun _ => rsamez_self9 (x := l[l.length - 1]!) hfl)) | exact rsamez_self9 (x := l[l.length - 1]!) hfl | (intros; exact rsamez_self9 (x := l[l.length - 1]!) hfl) | omega | (intro h; simp only [Bool.and_eq_true, decide_eq_true_eq] at h; omega) | (intros; omega) | (intros; simp_all; done) | skip)))
      refine cd (fun c3 => ?_) (fun c3 => ?_)
      · skip
        exfalso; first | omega | grind
      · skip
        refine dw_skip ?_
        show DW _ _ _ _ _
        refine stp In ?_
        have hpa := pull_again hv h1 h2 h3 h4 (u := t + c) (by omega)
        by_cases hu : 10000000 < t + c
        · skip
          rw [if_pos hu] at hpa
          have ff := And.intro @hpa ff
          refine stp In ?_ (hok := by (try simp only [go_sem, ff]); all_goals (first | done | ((repeat' (with_reducible apply And.intro)) <;> first | exact tpull_as hpa | (intros; exact tpull_as hpa) | skip)))
          refine dw_seq ?_
          refine stp In ?_
          refine cd (fun c4 => ?_) (fun c4 => ?_)
          · skip
            refine stp In ?_
            refine dw_ret ?_
            exact fin 0 (hr := by (try simp only [go_sem, ff]); all_goals (first | rfl | (simp; done)))
          · skip
            exfalso; first | omega | grind
        · skip
          rw [if_neg hu] at hpa
          have ff := And.intro @hpa ff
          refine stp In ?_ (hok := by (try simp only [go_sem, ff]); all_goals (first | done | ((repeat' (with_reducible apply And.intro)) <;> first | exact tpull_as hpa | (intros; exact tpull_as hpa) | skip)))
          refine dw_seq ?_
          refine stp In ?_
          refine cd (fun c4 => ?_) (fun c4 => ?_)
          · skip
            exfalso; first | omega | grind
          · skip
            refine dw_skip ?_
            show DW _ _ _ _ _
            refine stp In ?_ (hok := by (try simp only [go_sem, ff]); all_goals (first | done | ((repeat' (with_reducible apply And.intro)) <;> first | exact (fun _ => rsame14_self (x := ⟨true, l[l.length - 1]!, t + c⟩) hfl) | (intros; exact (fun _ => rsame14_self (x := ⟨true, l[l.length - 1]!, t + c⟩) hfl)) | exact rsame14_self (x := ⟨true, l[l.length - 1]!, t + c⟩) hfl | (intros; exact rsame14_self (x := ⟨true, l[l.length - 1]!, t + c⟩) hfl) | omega | (intro h; simp only [Bool.and_eq_true, decide_eq_true_eq] at h; omega) | (intros; omega) | (intros; simp_all; done) | skip)))
            refine dw_ret ?_
            exact fin 0 (hr := by (try simp only [go_sem, ff]); all_goals (first | rfl | (simp; done)))

end Go.Proofs.YtipkfnkmdeopeaaGreatDoor
