import Derived.Test.YtfggmgafjabbjaaDoorRcW3
namespace Go.Proofs.YtfggmgafjabbjaaDoor
open Go.DL Go.Str Go.Rec Go.Cmp
set_option maxRecDepth 10000
set_option linter.unusedSimpArgs false
set_option linter.unusedVariables false
theorem rule_ldc {k : Nat} (h1 : 1 ≤ k) (h8 : k ≤ 8) : ∃ rest : List D, ∀ hh, ldc Tryd.prog (.v (.pointer (some ⟨0, k * 8, none⟩))) hh = (ruleAt k).d ++ rest := by
  refine ⟨(rulesTab.drop (k * 8 + 8)).map D.v, fun hh => ?_⟩
  have : k = 1 ∨ k = 2 ∨ k = 3 ∨ k = 4 ∨ k = 5 ∨ k = 6 ∨ k = 7 ∨ k = 8 := by omega
  rcases this with e | e | e | e | e | e | e | e <;> subst e <;> rfl
theorem bo14 : hasBody Tryd.prog 14 = true := by kernel_rfl
theorem rvalid_ct (s : RSet) : PureCt Tryd.prog 14 [.agg s.d] (.b (setOk s)) := by
  refine pure_of_dw Tryd.func14 rfl bo14 (by simp [go_sem, D.nr, nrs, nrr]) (by simp [Tryd.f14]) ?_
  unfold Tryd.f14
  simp only [init_eq]
  refine dw_step (C := Rn) (by simp only [go_sem]; exact rfl) (fun h => by cases h) ?_ ?_
  · try simp only [go_sem]
    all_goals (first | done | (repeat' (with_reducible apply And.intro)) <;> first | omega | (with_reducible assumption) | (intros; omega) | (intros; simp only [decide_eq_true_eq, decide_eq_false_iff_not, Bool.or_eq_true, Bool.and_eq_true, Bool.or_eq_false_iff, Bool.not_eq_true', Bool.not_eq_false'] at *; omega) | (simp_all; done) | (simp_all; omega))
  refine dw_seq ?_
  refine dw_step (C := Rn) (by simp only [go_sem]; exact rfl) (fun h => by cases h) ?_ ?_
  · try simp only [go_sem]
    all_goals (first | done | ((repeat' (with_reducible apply And.intro)) <;> first | exact nvalid_ct _ | (intros; exact nvalid_ct _) | exact within_ct _ _ _ | (intros; exact within_ct _ _ _) | (intros; simp_all; done) | omega))
  refine dw_cond (by simp only [go_sem]; exact rfl) (fun c1 => ?_) (fun c1 => ?_)
  · skip
    try simp only [decide_eq_true_eq, decide_eq_false_iff_not, Bool.or_eq_true, Bool.and_eq_true, Bool.or_eq_false_iff, Bool.not_eq_true', Bool.not_eq_false', Bool.and_eq_false_iff, beq_iff_eq, beq_eq_false_iff_ne, bne_iff_ne, bne_eq_false_iff_eq, ne_eq] at c1
    refine dw_step (C := Rn) (by simp only [go_sem]; exact rfl) (fun h => by cases h) ?_ ?_
    · try simp only [go_sem]
      all_goals (first | done | (repeat' (with_reducible apply And.intro)) <;> first | omega | (with_reducible assumption) | (intros; omega) | (intros; simp only [decide_eq_true_eq, decide_eq_false_iff_not, Bool.or_eq_true, Bool.and_eq_true, Bool.or_eq_false_iff, Bool.not_eq_true', Bool.not_eq_false'] at *; omega) | (simp_all; done) | (simp_all; omega))
    refine dw_ret ?_
    refine ⟨(by first | exact .inr rfl | trivial | simp), ?_, ?_⟩
    · simp only [go_sem]
    refine ⟨0, ?_, ?_⟩
    · try simp only [go_sem]
      all_goals (simp)
    · try simp only [go_sem]
      all_goals (rcases c1 with (h | h) | h <;> simp [setOk, h])
  · skip
    try simp only [decide_eq_true_eq, decide_eq_false_iff_not, Bool.or_eq_true, Bool.and_eq_true, Bool.or_eq_false_iff, Bool.not_eq_true', Bool.not_eq_false', Bool.and_eq_false_iff, beq_iff_eq, beq_eq_false_iff_ne, bne_iff_ne, bne_eq_false_iff_eq, ne_eq] at c1
    refine dw_skip ?_
    show DW _ _ _ _ _
    refine dw_seq ?_
    refine dw_step (C := Rn) (by simp only [go_sem]; exact rfl) (fun h => by cases h) ?_ ?_
    · try simp only [go_sem]
      all_goals (exact within_ct _ _ _)
    refine dw_cond (by simp only [go_sem]; exact rfl) (fun c2 => ?_) (fun c2 => ?_)
    · skip
      try simp only [decide_eq_true_eq, decide_eq_false_iff_not, Bool.or_eq_true, Bool.and_eq_true, Bool.or_eq_false_iff, Bool.not_eq_true', Bool.not_eq_false', Bool.and_eq_false_iff, beq_iff_eq, beq_eq_false_iff_ne, bne_iff_ne, bne_eq_false_iff_eq, ne_eq] at c2
      refine dw_step (C := Rn) (by simp only [go_sem]; exact rfl) (fun h => by cases h) ?_ ?_
      · try simp only [go_sem]
        all_goals (first | done | (repeat' (with_reducible apply And.intro)) <;> first | omega | (with_reducible assumption) | (intros; omega) | (intros; simp only [decide_eq_true_eq, decide_eq_false_iff_not, Bool.or_eq_true, Bool.and_eq_true, Bool.or_eq_false_iff, Bool.not_eq_true', Bool.not_eq_false'] at *; omega) | (simp_all; done) | (simp_all; omega))
      refine dw_ret ?_
      refine ⟨(by first | exact .inr rfl | trivial | simp), ?_, ?_⟩
      · simp only [go_sem]
      refine ⟨0, ?_, ?_⟩
      · try simp only [go_sem]
        all_goals (simp)
      · try simp only [go_sem]
        all_goals (simp [setOk, c2])
    · skip
      try simp only [decide_eq_true_eq, decide_eq_false_iff_not, Bool.or_eq_true, Bool.and_eq_true, Bool.or_eq_false_iff, Bool.not_eq_true', Bool.not_eq_false', Bool.and_eq_false_iff, beq_iff_eq, beq_eq_false_iff_ne, bne_iff_ne, bne_eq_false_iff_eq, ne_eq] at c2
      have hty := inR_iff.1 c1.1.2
      obtain ⟨rest, hld⟩ := rule_ldc (k := s.ty.toNat) (by omega) (by omega)
      refine dw_skip ?_
      show DW _ _ _ _ _
      refine dw_step (C := Rn) (by simp only [go_sem, hld]; exact rfl) (fun h => by cases h) ?_ ?_
      · try simp only [go_sem, hld]
        all_goals (first | done | omega | ((repeat' (with_reducible apply And.intro)) <;> first | omega | rfl))
      refine dw_seq ?_
      refine dw_step (C := Rn) (by simp only [go_sem, hld]; exact rfl) (fun h => by cases h) ?_ ?_
      · try simp only [go_sem, hld]
        all_goals (first | done | ((repeat' (with_reducible apply And.intro)) <;> first | exact iswild_ct _ | (intros; exact iswild_ct _) | (intros; simp_all; done) | (intros; by_cases hq : (ruleAt s.ty.toNat).single = true <;> simp_all)))
      refine dw_cond (by simp only [go_sem, hld]; exact rfl) (fun c3 => ?_) (fun c3 => ?_)
      · skip
        try simp only [decide_eq_true_eq, decide_eq_false_iff_not, Bool.or_eq_true, Bool.and_eq_true, Bool.or_eq_false_iff, Bool.not_eq_true', Bool.not_eq_false', Bool.and_eq_false_iff, beq_iff_eq, beq_eq_false_iff_ne, bne_iff_ne, bne_eq_false_iff_eq, ne_eq] at c3
        refine dw_step (C := Rn) (by simp only [go_sem, hld]; exact rfl) (fun h => by cases h) ?_ ?_
        · try simp only [go_sem, hld]
          all_goals (first | done | (repeat' (with_reducible apply And.intro)) <;> first | omega | (with_reducible assumption) | (intros; omega) | (intros; simp only [decide_eq_true_eq, decide_eq_false_iff_not, Bool.or_eq_true, Bool.and_eq_true, Bool.or_eq_false_iff, Bool.not_eq_true', Bool.not_eq_false'] at *; omega) | (simp_all; done) | (simp_all; omega))
        refine dw_ret ?_
        refine ⟨(by first | exact .inr rfl | trivial | simp), ?_, ?_⟩
        · simp only [go_sem, hld]
        refine ⟨0, ?_, ?_⟩
        · try simp only [go_sem, hld]
          all_goals (simp)
        · try simp only [go_sem, hld]
          all_goals (rcases c3 with ⟨h1, h2⟩ | ⟨h1, h2⟩ <;> simp [setOk, h1, h2])
      · skip
        try simp only [decide_eq_true_eq, decide_eq_false_iff_not, Bool.or_eq_true, Bool.and_eq_true, Bool.or_eq_false_iff, Bool.not_eq_true', Bool.not_eq_false', Bool.and_eq_false_iff, beq_iff_eq, beq_eq_false_iff_ne, bne_iff_ne, bne_eq_false_iff_eq, ne_eq] at c3
        refine dw_skip ?_
        show DW _ _ _ _ _
        refine dw_seq ?_
        refine dw_step (C := Rn) (by simp only [go_sem, hld]; exact rfl) (fun h => by cases h) ?_ ?_
        · try simp only [go_sem, hld]
          all_goals (first | done | (repeat' (with_reducible apply And.intro)) <;> first | omega | (with_reducible assumption) | (intros; omega) | (intros; simp only [decide_eq_true_eq, decide_eq_false_iff_not, Bool.or_eq_true, Bool.and_eq_true, Bool.or_eq_false_iff, Bool.not_eq_true', Bool.not_eq_false'] at *; omega) | (simp_all; done) | (simp_all; omega))
        refine dw_block ?_
        refine dw_loop_fix (α := (Nat) × Nat) [1, 3, 50, 51] (fun ⟨k, nx⟩ => (k ≤ s.data.length) ∧ (27 < nx) ∧ (allN s.data.length (datAt s.ty.toNat s.data) 0 = allN s.data.length (datAt s.ty.toNat s.data) k) ∧ True) (fun ⟨k, nx⟩ => s.data.length - k) (fun ⟨k, nx⟩ => [(52, .i k)]) (fun ⟨k, nx⟩ => [(0, ⟨24, [s.d]⟩), (27, ⟨60, [(ruleAt s.ty.toNat).d]⟩)]) (fun ⟨k, nx⟩ => nx) (0, _) (by simp only [List.map_cons, List.map_nil, go_sem, hld]; exact rfl) ⟨(by first | (first | omega | (with_reducible assumption) | (simp_all; done) | (simp_all; omega)) | (dsimp only; first | omega | (with_reducible assumption) | (simp_all; done) | (simp_all; omega))), (by first | (first | omega | (with_reducible assumption) | (simp_all; done) | (simp_all; omega)) | (dsimp only; first | omega | (with_reducible assumption) | (simp_all; done) | (simp_all; omega))), (by first | (rfl) | (dsimp only; rfl)), trivial⟩ (by first | (simp only [go_sem, hld]; done) | (simp [go_sem, hld]; done) | (simp only [go_sem, hld]; (repeat' (with_reducible apply And.intro)) <;> first | (left; simp; done) | (right; simp [go_sem]; done))) (by first | (simp only [go_sem, hld]; done) | simp [go_sem, hld]) (Nat.le_refl _) ?_
        rintro ⟨k, nx⟩ ⟨hk, hx, hv, -⟩
        show DW _ _ _ _ { n := _, t := tab _, h := _, nx := _, e := _ }
        simp only [List.cons_append, List.nil_append]
        have n0 : 0 < nx := by omega
        refine dw_step (C := Rn) (by simp only [go_sem, hld, hx, n0]; exact rfl) (fun h => by cases h) ?_ ?_
        · try simp only [go_sem, hld, hx, n0]
          all_goals (first | done | (repeat' (with_reducible apply And.intro)) <;> first | omega | (with_reducible assumption) | (intros; omega) | (intros; simp only [decide_eq_true_eq, decide_eq_false_iff_not, Bool.or_eq_true, Bool.and_eq_true, Bool.or_eq_false_iff, Bool.not_eq_true', Bool.not_eq_false'] at *; omega) | (simp_all; done) | (simp_all; omega))
        refine dw_seq ?_
        refine dw_cond (by simp only [go_sem, hld, hx, n0]; exact rfl) (fun c4 => ?_) (fun c4 => ?_)
        · skip
          have hk2 : k < s.data.length := by simpa using c4
          refine dw_skip ?_
          show DW _ _ _ _ _
          refine dw_seq ?_
          refine dw_block ?_
          refine dw_step (C := Rn) (by simp only [go_sem, hld, hx, n0, getD_dat hk2]; exact rfl) (fun h => by cases h) ?_ ?_
          · try simp only [go_sem, hld, hx, n0, getD_dat hk2]
            all_goals (first | done | (repeat' (with_reducible apply And.intro)) <;> first | omega | (with_reducible assumption) | (intros; omega) | (intros; simp only [decide_eq_true_eq, decide_eq_false_iff_not, Bool.or_eq_true, Bool.and_eq_true, Bool.or_eq_false_iff, Bool.not_eq_true', Bool.not_eq_false'] at *; omega) | (simp_all; done) | (simp_all; omega))
          have hl8 := inR_iff.1 c2
          have e1 : ((k:Int) - 1).toNat = k - 1 := by omega
          have hk1 : k - 1 < s.data.length := by omega
          refine dw_step (C := Rn) (by simp only [go_sem, hld, hx, n0, getD_dat hk2, e1, getD_dat hk1]; exact rfl) (fun _ => ⟨mix, by kernel_rfl, by kernel_rfl⟩) ?_ ?_
          · try simp only [go_sem, hld, hx, n0, getD_dat hk2, e1, getD_dat hk1]
            all_goals (first | done | ((repeat' (with_reducible apply And.intro)) <;> first | exact vdatum_ct _ _ (rule_even _) | (intros; exact vdatum_ct _ _ (rule_even _)) | exact cmpdata_ct _ _ | (intros; exact cmpdata_ct _ _) | (intros; simp_all; done) | (intro h; simp only [Bool.and_eq_true, decide_eq_true_eq] at h; have := h.2; omega) | skip))
          refine dw_cond (by simp only [go_sem, hld, hx, n0, getD_dat hk2, e1, getD_dat hk1]; exact rfl) (fun c5 => ?_) (fun c5 => ?_)
          · skip
            try simp only [decide_eq_true_eq, decide_eq_false_iff_not, Bool.or_eq_true, Bool.and_eq_true, Bool.or_eq_false_iff, Bool.not_eq_true', Bool.not_eq_false', Bool.and_eq_false_iff, beq_iff_eq, beq_eq_false_iff_ne, bne_iff_ne, bne_eq_false_iff_eq, ne_eq] at c5
            refine dw_step (C := Rn) (by simp only [go_sem, hld, hx, n0, getD_dat hk2]; exact rfl) (fun h => by cases h) ?_ ?_
            · try simp only [go_sem, hld, hx, n0, getD_dat hk2]
              all_goals (first | done | (repeat' (with_reducible apply And.intro)) <;> first | omega | (with_reducible assumption) | (intros; omega) | (intros; simp only [decide_eq_true_eq, decide_eq_false_iff_not, Bool.or_eq_true, Bool.and_eq_true, Bool.or_eq_false_iff, Bool.not_eq_true', Bool.not_eq_false'] at *; omega) | (simp_all; done) | (simp_all; omega))
            refine dw_ret ?_
            refine ⟨(by first | exact .inr rfl | trivial | simp), ?_, ?_⟩
            · simp only [go_sem, hld, hx, n0, getD_dat hk2]
            refine ⟨0, ?_, ?_⟩
            · try simp only [go_sem, hld, hx, n0, getD_dat hk2]
              all_goals (simp)
            · try simp only [go_sem, hld, hx, n0, getD_dat hk2]
              all_goals (rw [set_rest c1 c2 c3, hv, allN_eq, if_pos hk2, dat_no c5]; rfl)
          · skip
            try simp only [decide_eq_true_eq, decide_eq_false_iff_not, Bool.or_eq_true, Bool.and_eq_true, Bool.or_eq_false_iff, Bool.not_eq_true', Bool.not_eq_false', Bool.and_eq_false_iff, beq_iff_eq, beq_eq_false_iff_ne, bne_iff_ne, bne_eq_false_iff_eq, ne_eq] at c5
            refine dw_skip ?_
            show DW _ _ _ _ _
            refine dw_reg (C := Rn) (by simp only [go_sem, hld, hx, n0, getD_dat hk2]; exact rfl) (fun h => by cases h) ?_ ?_
            · try simp only [go_sem, hld, hx, n0, getD_dat hk2]
              all_goals (first | done | (repeat' (with_reducible apply And.intro)) <;> first | omega | (with_reducible assumption) | (intros; omega) | (intros; simp only [decide_eq_true_eq, decide_eq_false_iff_not, Bool.or_eq_true, Bool.and_eq_true, Bool.or_eq_false_iff, Bool.not_eq_true', Bool.not_eq_false'] at *; omega) | (simp_all; done) | (simp_all; omega))
            show ∃ _, _
            refine ⟨(k + 1, _), ⟨(by first | (first | omega | (with_reducible assumption) | (simp_all; done) | (simp_all; omega)) | (dsimp only; first | omega | (with_reducible assumption) | (simp_all; done) | (simp_all; omega))), (by first | (first | omega | (with_reducible assumption) | (simp_all; done) | (simp_all; omega)) | (dsimp only; first | omega | (with_reducible assumption) | (simp_all; done) | (simp_all; omega))), (by first | (rw [hv, allN_eq, if_pos hk2, dat_yes c5]; rfl) | (dsimp only; rw [hv, allN_eq, if_pos hk2, dat_yes c5]; rfl)), trivial⟩, (by show (_ : Nat) < _; first | omega | simp_all; omega), ?_, ?_, ?_, Nat.le_refl _, rfl, rfl⟩
            · try simp only [go_sem, hld, hx, n0, getD_dat hk2]
              all_goals (first | done | (simp; done) | (simp; omega) | ((repeat' (with_reducible apply And.intro)) <;> first | (left; simp; done) | (right; simp [go_sem]; done)))
            · try simp only [go_sem, hld, hx, n0, getD_dat hk2]
              all_goals (first | done | (simp; done) | (simp; omega) | ((repeat' (with_reducible apply And.intro)) <;> first | (left; simp; done) | (right; simp [go_sem]; done)))
            · try simp only [go_sem, hld, hx, n0, getD_dat hk2]
              all_goals (first | done | (simp; done) | (simp; omega) | ((repeat' (with_reducible apply And.intro)) <;> first | (left; simp; done) | (right; simp [go_sem]; done)))
        · skip
          try simp only [decide_eq_true_eq, decide_eq_false_iff_not, Bool.or_eq_true, Bool.and_eq_true, Bool.or_eq_false_iff, Bool.not_eq_true', Bool.not_eq_false', Bool.and_eq_false_iff, beq_iff_eq, beq_eq_false_iff_ne, bne_iff_ne, bne_eq_false_iff_eq, ne_eq] at c4
          refine dw_exit ?_
          show DW _ _ _ _ _
          refine dw_step (C := Rn) (by simp only [go_sem, hld, hx, n0]; exact rfl) (fun h => by cases h) ?_ ?_
          · try simp only [go_sem, hld, hx, n0]
            all_goals (first | done | (repeat' (with_reducible apply And.intro)) <;> first | omega | (with_reducible assumption) | (intros; omega) | (intros; simp only [decide_eq_true_eq, decide_eq_false_iff_not, Bool.or_eq_true, Bool.and_eq_true, Bool.or_eq_false_iff, Bool.not_eq_true', Bool.not_eq_false'] at *; omega) | (simp_all; done) | (simp_all; omega))
          refine dw_ret ?_
          refine ⟨(by first | exact .inr rfl | trivial | simp), ?_, ?_⟩
          · simp only [go_sem, hld, hx, n0]
          refine ⟨0, ?_, ?_⟩
          · try simp only [go_sem, hld, hx, n0]
            all_goals (simp)
          · try simp only [go_sem, hld, hx, n0]
            all_goals (rw [set_rest c1 c2 c3, hv, allN_eq, if_neg (by omega)])

end Go.Proofs.YtfggmgafjabbjaaDoor
