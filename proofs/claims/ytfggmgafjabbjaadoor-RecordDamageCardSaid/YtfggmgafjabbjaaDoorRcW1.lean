import Derived.Test.YtfggmgafjabbjaaDoorRecCon
namespace Go.Proofs.YtfggmgafjabbjaaDoor
open Go.DL Go.Str Go.Rec
set_option maxRecDepth 10000
set_option linter.unusedSimpArgs false
set_option linter.unusedVariables false
theorem bo35 : hasBody Tryd.prog 35 = true := by kernel_rfl
theorem within_ct (x : Int) (lo : Int) (hi : Int) : PureCt Tryd.prog 35 [.i x, .i lo, .i hi] (.b (inR x lo hi)) := by
  refine pure_of_dw Tryd.func35 rfl bo35 (by simp [go_sem, D.nr, nrs, nrr]) (by simp [Tryd.f35]) ?_
  unfold Tryd.f35
  simp only [init_eq]
  refine dw_step (C := Rn) (by simp only [go_sem]; exact rfl) (fun h => by cases h) ?_ ?_
  · try simp only [go_sem]
    all_goals (first | done | (repeat' (with_reducible apply And.intro)) <;> first | omega | (with_reducible assumption) | (intros; omega) | (intros; simp only [decide_eq_true_eq, decide_eq_false_iff_not, Bool.or_eq_true, Bool.and_eq_true, Bool.or_eq_false_iff, Bool.not_eq_true', Bool.not_eq_false'] at *; omega) | (simp_all; done) | (simp_all; omega))
  refine dw_step (C := Rn) (by simp only [go_sem]; exact rfl) (fun h => by cases h) ?_ ?_
  · try simp only [go_sem]
    all_goals (first | done | (repeat' (with_reducible apply And.intro)) <;> first | omega | (with_reducible assumption) | (intros; omega) | (intros; simp only [decide_eq_true_eq, decide_eq_false_iff_not, Bool.or_eq_true, Bool.and_eq_true, Bool.or_eq_false_iff, Bool.not_eq_true', Bool.not_eq_false'] at *; omega) | (simp_all; done) | (simp_all; omega))
  refine dw_ret ?_
  refine ⟨(by first | exact .inr rfl | trivial | simp), ?_, ?_⟩
  · simp only [go_sem]
  refine ⟨0, ?_, ?_⟩
  · try simp only [go_sem]
    all_goals (simp)
  · try simp only [go_sem]
    all_goals (rfl)
theorem bo102 : hasBody Tryd.prog 102 = true := by kernel_rfl
theorem withinb_ct (x : Int) (lo : Int) (hi : Int) : PureCt Tryd.prog 102 [.v (.int .u8 x), .v (.int .u8 lo), .v (.int .u8 hi)] (.b (inR x lo hi)) := by
  refine pure_of_dw Tryd.func102 rfl bo102 (by simp [go_sem, D.nr, nrs, nrr]) (by simp [Tryd.f102]) ?_
  unfold Tryd.f102
  simp only [init_eq]
  refine dw_step (C := Rn) (by simp only [go_sem]; exact rfl) (fun h => by cases h) ?_ ?_
  · try simp only [go_sem]
    all_goals (first | done | (repeat' (with_reducible apply And.intro)) <;> first | omega | (with_reducible assumption) | (intros; omega) | (intros; simp only [decide_eq_true_eq, decide_eq_false_iff_not, Bool.or_eq_true, Bool.and_eq_true, Bool.or_eq_false_iff, Bool.not_eq_true', Bool.not_eq_false'] at *; omega) | (simp_all; done) | (simp_all; omega))
  refine dw_step (C := Rn) (by simp only [go_sem]; exact rfl) (fun h => by cases h) ?_ ?_
  · try simp only [go_sem]
    all_goals (first | done | (repeat' (with_reducible apply And.intro)) <;> first | omega | (with_reducible assumption) | (intros; omega) | (intros; simp only [decide_eq_true_eq, decide_eq_false_iff_not, Bool.or_eq_true, Bool.and_eq_true, Bool.or_eq_false_iff, Bool.not_eq_true', Bool.not_eq_false'] at *; omega) | (simp_all; done) | (simp_all; omega))
  refine dw_ret ?_
  refine ⟨(by first | exact .inr rfl | trivial | simp), ?_, ?_⟩
  · simp only [go_sem]
  refine ⟨0, ?_, ?_⟩
  · try simp only [go_sem]
    all_goals (simp)
  · try simp only [go_sem]
    all_goals (rfl)
theorem bo40 : hasBody Tryd.prog 40 = true := by kernel_rfl
theorem rwithin_ct (x : Int) (lo : Int) (hi : Int) : PureCt Tryd.prog 40 [.i x, .i lo, .i hi] (.b (inR x lo hi)) := by
  refine pure_of_dw Tryd.func40 rfl bo40 (by simp [go_sem, D.nr, nrs, nrr]) (by simp [Tryd.f40]) ?_
  unfold Tryd.f40
  simp only [init_eq]
  refine dw_step (C := Rn) (by simp only [go_sem]; exact rfl) (fun h => by cases h) ?_ ?_
  · try simp only [go_sem]
    all_goals (first | done | (repeat' (with_reducible apply And.intro)) <;> first | omega | (with_reducible assumption) | (intros; omega) | (intros; simp only [decide_eq_true_eq, decide_eq_false_iff_not, Bool.or_eq_true, Bool.and_eq_true, Bool.or_eq_false_iff, Bool.not_eq_true', Bool.not_eq_false'] at *; omega) | (simp_all; done) | (simp_all; omega))
  refine dw_step (C := Rn) (by simp only [go_sem]; exact rfl) (fun h => by cases h) ?_ ?_
  · try simp only [go_sem]
    all_goals (first | done | (repeat' (with_reducible apply And.intro)) <;> first | omega | (with_reducible assumption) | (intros; omega) | (intros; simp only [decide_eq_true_eq, decide_eq_false_iff_not, Bool.or_eq_true, Bool.and_eq_true, Bool.or_eq_false_iff, Bool.not_eq_true', Bool.not_eq_false'] at *; omega) | (simp_all; done) | (simp_all; omega))
  refine dw_ret ?_
  refine ⟨(by first | exact .inr rfl | trivial | simp), ?_, ?_⟩
  · simp only [go_sem]
  refine ⟨0, ?_, ?_⟩
  · try simp only [go_sem]
    all_goals (simp)
  · try simp only [go_sem]
    all_goals (rfl)
theorem bo94 : hasBody Tryd.prog 94 = true := by kernel_rfl
theorem nanI_ct (x : Int) : PureCt Tryd.prog 94 [.i x] (.b (x != x)) := by
  refine pure_of_dw Tryd.func94 rfl bo94 (by simp [go_sem, D.nr, nrs, nrr]) (by simp [Tryd.f94]) ?_
  unfold Tryd.f94
  simp only [init_eq]
  refine dw_step (C := Rn) (by simp only [go_sem]; exact rfl) (fun h => by cases h) ?_ ?_
  · try simp only [go_sem]
    all_goals (first | done | (repeat' (with_reducible apply And.intro)) <;> first | omega | (with_reducible assumption) | (intros; omega) | (intros; simp only [decide_eq_true_eq, decide_eq_false_iff_not, Bool.or_eq_true, Bool.and_eq_true, Bool.or_eq_false_iff, Bool.not_eq_true', Bool.not_eq_false'] at *; omega) | (simp_all; done) | (simp_all; omega))
  refine dw_step (C := Rn) (by simp only [go_sem]; exact rfl) (fun h => by cases h) ?_ ?_
  · try simp only [go_sem]
    all_goals (first | done | (repeat' (with_reducible apply And.intro)) <;> first | omega | (with_reducible assumption) | (intros; omega) | (intros; simp only [decide_eq_true_eq, decide_eq_false_iff_not, Bool.or_eq_true, Bool.and_eq_true, Bool.or_eq_false_iff, Bool.not_eq_true', Bool.not_eq_false'] at *; omega) | (simp_all; done) | (simp_all; omega))
  refine dw_ret ?_
  refine ⟨(by first | exact .inr rfl | trivial | simp), ?_, ?_⟩
  · simp only [go_sem]
  refine ⟨0, ?_, ?_⟩
  · try simp only [go_sem]
    all_goals (simp)
  · try simp only [go_sem]
    all_goals (rfl)
theorem bo103 : hasBody Tryd.prog 103 = true := by kernel_rfl
theorem nanS_ct (x : Str) : PureCt Tryd.prog 103 [.v (.string (bs x))] (.b (x != x)) := by
  refine pure_of_dw Tryd.func103 rfl bo103 (by simp [go_sem, D.nr, nrs, nrr]) (by simp [Tryd.f103]) ?_
  unfold Tryd.f103
  simp only [init_eq]
  refine dw_step (C := Rn) (by simp only [go_sem]; exact rfl) (fun h => by cases h) ?_ ?_
  · try simp only [go_sem]
    all_goals (first | done | (repeat' (with_reducible apply And.intro)) <;> first | omega | (with_reducible assumption) | (intros; omega) | (intros; simp only [decide_eq_true_eq, decide_eq_false_iff_not, Bool.or_eq_true, Bool.and_eq_true, Bool.or_eq_false_iff, Bool.not_eq_true', Bool.not_eq_false'] at *; omega) | (simp_all; done) | (simp_all; omega))
  refine dw_step (C := Rn) (by simp only [go_sem]; exact rfl) (fun h => by cases h) ?_ ?_
  · try simp only [go_sem]
    all_goals (first | done | (repeat' (with_reducible apply And.intro)) <;> first | omega | (with_reducible assumption) | (intros; omega) | (intros; simp only [decide_eq_true_eq, decide_eq_false_iff_not, Bool.or_eq_true, Bool.and_eq_true, Bool.or_eq_false_iff, Bool.not_eq_true', Bool.not_eq_false'] at *; omega) | (simp_all; done) | (simp_all; omega))
  refine dw_ret ?_
  refine ⟨(by first | exact .inr rfl | trivial | simp), ?_, ?_⟩
  · simp only [go_sem]
  refine ⟨0, ?_, ?_⟩
  · try simp only [go_sem]
    all_goals (simp)
  · try simp only [go_sem]
    all_goals (rfl)
theorem bo61 : hasBody Tryd.prog 61 = true := by kernel_rfl
theorem cmpint_ct (x : Int) (y : Int) : PureCt Tryd.prog 61 [.i x, .i y] (.i (cmpI x y)) := by
  refine pure_of_dw Tryd.func61 rfl bo61 (by simp [go_sem, D.nr, nrs, nrr]) (by simp [Tryd.f61]) ?_
  unfold Tryd.f61
  simp only [init_eq]
  refine dw_step (C := Rn) (by simp only [go_sem]; exact rfl) (fun h => by cases h) ?_ ?_
  · try simp only [go_sem]
    all_goals (first | done | (repeat' (with_reducible apply And.intro)) <;> first | omega | (with_reducible assumption) | (intros; omega) | (intros; simp only [decide_eq_true_eq, decide_eq_false_iff_not, Bool.or_eq_true, Bool.and_eq_true, Bool.or_eq_false_iff, Bool.not_eq_true', Bool.not_eq_false'] at *; omega) | (simp_all; done) | (simp_all; omega))
  refine dw_step (C := Rn) (by simp only [go_sem, bne_self_eq_false]; exact rfl) (fun h => by cases h) ?_ ?_
  · try simp only [go_sem, bne_self_eq_false]
    all_goals (have h := nanI_ct x; simp only [bne_self_eq_false] at h; exact h)
  refine dw_step (C := Rn) (by simp only [go_sem, bne_self_eq_false]; exact rfl) (fun h => by cases h) ?_ ?_
  · try simp only [go_sem, bne_self_eq_false]
    all_goals (have h := nanI_ct y; simp only [bne_self_eq_false] at h; exact h)
  refine dw_seq ?_
  refine dw_step (C := Rn) (by simp only [go_sem]; exact rfl) (fun h => by cases h) ?_ ?_
  · try simp only [go_sem]
    all_goals (first | done | (repeat' (with_reducible apply And.intro)) <;> first | omega | (with_reducible assumption) | (intros; omega) | (intros; simp only [decide_eq_true_eq, decide_eq_false_iff_not, Bool.or_eq_true, Bool.and_eq_true, Bool.or_eq_false_iff, Bool.not_eq_true', Bool.not_eq_false'] at *; omega) | (simp_all; done) | (simp_all; omega))
  refine dw_cond (by simp only [go_sem]; exact rfl) (fun c1 => ?_) (fun c1 => ?_)
  · skip
    simp at c1
  · skip
    try simp only [decide_eq_true_eq, decide_eq_false_iff_not, Bool.or_eq_true, Bool.and_eq_true, Bool.or_eq_false_iff, Bool.not_eq_true', Bool.not_eq_false', Bool.and_eq_false_iff, beq_iff_eq, beq_eq_false_iff_ne, bne_iff_ne, bne_eq_false_iff_eq, ne_eq] at c1
    refine dw_skip ?_
    show DW _ _ _ _ _
    refine dw_seq ?_
    refine dw_step (C := Rn) (by simp only [go_sem]; exact rfl) (fun h => by cases h) ?_ ?_
    · try simp only [go_sem]
      all_goals (first | done | (repeat' (with_reducible apply And.intro)) <;> first | omega | (with_reducible assumption) | (intros; omega) | (intros; simp only [decide_eq_true_eq, decide_eq_false_iff_not, Bool.or_eq_true, Bool.and_eq_true, Bool.or_eq_false_iff, Bool.not_eq_true', Bool.not_eq_false'] at *; omega) | (simp_all; done) | (simp_all; omega))
    refine dw_cond (by simp only [go_sem]; exact rfl) (fun c2 => ?_) (fun c2 => ?_)
    · skip
      simp at c2
    · skip
      try simp only [decide_eq_true_eq, decide_eq_false_iff_not, Bool.or_eq_true, Bool.and_eq_true, Bool.or_eq_false_iff, Bool.not_eq_true', Bool.not_eq_false', Bool.and_eq_false_iff, beq_iff_eq, beq_eq_false_iff_ne, bne_iff_ne, bne_eq_false_iff_eq, ne_eq] at c2
      refine dw_skip ?_
      show DW _ _ _ _ _
      refine dw_seq ?_
      refine dw_step (C := Rn) (by simp only [go_sem]; exact rfl) (fun h => by cases h) ?_ ?_
      · try simp only [go_sem]
        all_goals (first | done | (repeat' (with_reducible apply And.intro)) <;> first | omega | (with_reducible assumption) | (intros; omega) | (intros; simp only [decide_eq_true_eq, decide_eq_false_iff_not, Bool.or_eq_true, Bool.and_eq_true, Bool.or_eq_false_iff, Bool.not_eq_true', Bool.not_eq_false'] at *; omega) | (simp_all; done) | (simp_all; omega))
      refine dw_cond (by simp only [go_sem]; exact rfl) (fun c3 => ?_) (fun c3 => ?_)
      · skip
        try simp only [decide_eq_true_eq, decide_eq_false_iff_not, Bool.or_eq_true, Bool.and_eq_true, Bool.or_eq_false_iff, Bool.not_eq_true', Bool.not_eq_false', Bool.and_eq_false_iff, beq_iff_eq, beq_eq_false_iff_ne, bne_iff_ne, bne_eq_false_iff_eq, ne_eq] at c3
        refine dw_step (C := Rn) (by simp only [go_sem]; exact rfl) (fun h => by cases h) ?_ ?_
        · try simp only [go_sem]
          all_goals (first | done | (repeat' (with_reducible apply And.intro)) <;> first | omega | (with_reducible assumption) | (intros; omega) | (intros; simp only [decide_eq_true_eq, decide_eq_false_iff_not, Bool.or_eq_true, Bool.and_eq_true, Bool.or_eq_false_iff, Bool.not_eq_true', Bool.not_eq_false'] at *; omega) | (simp_all; done) | (simp_all; omega))
        refine dw_ret ?_
        refine ⟨(by first | exact .inr rfl | trivial | simp), ?_, ?_⟩
        · simp only [go_sem]
        refine ⟨0, ?_, ?_⟩
        · try simp only [go_sem]
          all_goals (simp)
        · try simp only [go_sem]
          all_goals (simp only [cmpI, cmpS, ltS]; first | (simp_all; done) | ((repeat' split) <;> first | rfl | omega))
      · skip
        try simp only [decide_eq_true_eq, decide_eq_false_iff_not, Bool.or_eq_true, Bool.and_eq_true, Bool.or_eq_false_iff, Bool.not_eq_true', Bool.not_eq_false', Bool.and_eq_false_iff, beq_iff_eq, beq_eq_false_iff_ne, bne_iff_ne, bne_eq_false_iff_eq, ne_eq] at c3
        refine dw_skip ?_
        show DW _ _ _ _ _
        refine dw_seq ?_
        refine dw_step (C := Rn) (by simp only [go_sem]; exact rfl) (fun h => by cases h) ?_ ?_
        · try simp only [go_sem]
          all_goals (first | done | (repeat' (with_reducible apply And.intro)) <;> first | omega | (with_reducible assumption) | (intros; omega) | (intros; simp only [decide_eq_true_eq, decide_eq_false_iff_not, Bool.or_eq_true, Bool.and_eq_true, Bool.or_eq_false_iff, Bool.not_eq_true', Bool.not_eq_false'] at *; omega) | (simp_all; done) | (simp_all; omega))
        refine dw_cond (by simp only [go_sem]; exact rfl) (fun c4 => ?_) (fun c4 => ?_)
        · skip
          try simp only [decide_eq_true_eq, decide_eq_false_iff_not, Bool.or_eq_true, Bool.and_eq_true, Bool.or_eq_false_iff, Bool.not_eq_true', Bool.not_eq_false', Bool.and_eq_false_iff, beq_iff_eq, beq_eq_false_iff_ne, bne_iff_ne, bne_eq_false_iff_eq, ne_eq] at c4
          refine dw_step (C := Rn) (by simp only [go_sem]; exact rfl) (fun h => by cases h) ?_ ?_
          · try simp only [go_sem]
            all_goals (first | done | (repeat' (with_reducible apply And.intro)) <;> first | omega | (with_reducible assumption) | (intros; omega) | (intros; simp only [decide_eq_true_eq, decide_eq_false_iff_not, Bool.or_eq_true, Bool.and_eq_true, Bool.or_eq_false_iff, Bool.not_eq_true', Bool.not_eq_false'] at *; omega) | (simp_all; done) | (simp_all; omega))
          refine dw_ret ?_
          refine ⟨(by first | exact .inr rfl | trivial | simp), ?_, ?_⟩
          · simp only [go_sem]
          refine ⟨0, ?_, ?_⟩
          · try simp only [go_sem]
            all_goals (simp)
          · try simp only [go_sem]
            all_goals (simp only [cmpI, cmpS, ltS]; first | (simp_all; done) | ((repeat' split) <;> first | rfl | omega))
        · skip
          try simp only [decide_eq_true_eq, decide_eq_false_iff_not, Bool.or_eq_true, Bool.and_eq_true, Bool.or_eq_false_iff, Bool.not_eq_true', Bool.not_eq_false', Bool.and_eq_false_iff, beq_iff_eq, beq_eq_false_iff_ne, bne_iff_ne, bne_eq_false_iff_eq, ne_eq] at c4
          refine dw_skip ?_
          show DW _ _ _ _ _
          refine dw_step (C := Rn) (by simp only [go_sem]; exact rfl) (fun h => by cases h) ?_ ?_
          · try simp only [go_sem]
            all_goals (first | done | (repeat' (with_reducible apply And.intro)) <;> first | omega | (with_reducible assumption) | (intros; omega) | (intros; simp only [decide_eq_true_eq, decide_eq_false_iff_not, Bool.or_eq_true, Bool.and_eq_true, Bool.or_eq_false_iff, Bool.not_eq_true', Bool.not_eq_false'] at *; omega) | (simp_all; done) | (simp_all; omega))
          refine dw_ret ?_
          refine ⟨(by first | exact .inr rfl | trivial | simp), ?_, ?_⟩
          · simp only [go_sem]
          refine ⟨0, ?_, ?_⟩
          · try simp only [go_sem]
            all_goals (simp)
          · try simp only [go_sem]
            all_goals (simp only [cmpI, cmpS, ltS]; first | (simp_all; done) | ((repeat' split) <;> first | rfl | omega))
theorem bo70 : hasBody Tryd.prog 70 = true := by kernel_rfl
theorem cmpstr_ct (x : Str) (y : Str) : PureCt Tryd.prog 70 [.v (.string (bs x)), .v (.string (bs y))] (.i (cmpS x y)) := by
  refine pure_of_dw Tryd.func70 rfl bo70 (by simp [go_sem, D.nr, nrs, nrr]) (by simp [Tryd.f70]) ?_
  unfold Tryd.f70
  simp only [init_eq]
  refine dw_step (C := Rn) (by simp only [go_sem]; exact rfl) (fun h => by cases h) ?_ ?_
  · try simp only [go_sem]
    all_goals (first | done | (repeat' (with_reducible apply And.intro)) <;> first | omega | (with_reducible assumption) | (intros; omega) | (intros; simp only [decide_eq_true_eq, decide_eq_false_iff_not, Bool.or_eq_true, Bool.and_eq_true, Bool.or_eq_false_iff, Bool.not_eq_true', Bool.not_eq_false'] at *; omega) | (simp_all; done) | (simp_all; omega))
  refine dw_step (C := Rn) (by simp only [go_sem, bne_self_eq_false]; exact rfl) (fun h => by cases h) ?_ ?_
  · try simp only [go_sem, bne_self_eq_false]
    all_goals (have h := nanS_ct x; simp only [bne_self_eq_false] at h; exact h)
  refine dw_step (C := Rn) (by simp only [go_sem, bne_self_eq_false]; exact rfl) (fun h => by cases h) ?_ ?_
  · try simp only [go_sem, bne_self_eq_false]
    all_goals (have h := nanS_ct y; simp only [bne_self_eq_false] at h; exact h)
  refine dw_seq ?_
  refine dw_step (C := Rn) (by simp only [go_sem]; exact rfl) (fun h => by cases h) ?_ ?_
  · try simp only [go_sem]
    all_goals (first | done | (repeat' (with_reducible apply And.intro)) <;> first | omega | (with_reducible assumption) | (intros; omega) | (intros; simp only [decide_eq_true_eq, decide_eq_false_iff_not, Bool.or_eq_true, Bool.and_eq_true, Bool.or_eq_false_iff, Bool.not_eq_true', Bool.not_eq_false'] at *; omega) | (simp_all; done) | (simp_all; omega))
  refine dw_cond (by simp only [go_sem]; exact rfl) (fun c1 => ?_) (fun c1 => ?_)
  · skip
    simp at c1
  · skip
    try simp only [decide_eq_true_eq, decide_eq_false_iff_not, Bool.or_eq_true, Bool.and_eq_true, Bool.or_eq_false_iff, Bool.not_eq_true', Bool.not_eq_false', Bool.and_eq_false_iff, beq_iff_eq, beq_eq_false_iff_ne, bne_iff_ne, bne_eq_false_iff_eq, ne_eq] at c1
    refine dw_skip ?_
    show DW _ _ _ _ _
    refine dw_seq ?_
    refine dw_step (C := Rn) (by simp only [go_sem]; exact rfl) (fun h => by cases h) ?_ ?_
    · try simp only [go_sem]
      all_goals (first | done | (repeat' (with_reducible apply And.intro)) <;> first | omega | (with_reducible assumption) | (intros; omega) | (intros; simp only [decide_eq_true_eq, decide_eq_false_iff_not, Bool.or_eq_true, Bool.and_eq_true, Bool.or_eq_false_iff, Bool.not_eq_true', Bool.not_eq_false'] at *; omega) | (simp_all; done) | (simp_all; omega))
    refine dw_cond (by simp only [go_sem]; exact rfl) (fun c2 => ?_) (fun c2 => ?_)
    · skip
      simp at c2
    · skip
      try simp only [decide_eq_true_eq, decide_eq_false_iff_not, Bool.or_eq_true, Bool.and_eq_true, Bool.or_eq_false_iff, Bool.not_eq_true', Bool.not_eq_false', Bool.and_eq_false_iff, beq_iff_eq, beq_eq_false_iff_ne, bne_iff_ne, bne_eq_false_iff_eq, ne_eq] at c2
      refine dw_skip ?_
      show DW _ _ _ _ _
      refine dw_seq ?_
      refine dw_step (C := Rn) (by simp only [go_sem]; exact rfl) (fun h => by cases h) ?_ ?_
      · try simp only [go_sem]
        all_goals (first | done | (repeat' (with_reducible apply And.intro)) <;> first | omega | (with_reducible assumption) | (intros; omega) | (intros; simp only [decide_eq_true_eq, decide_eq_false_iff_not, Bool.or_eq_true, Bool.and_eq_true, Bool.or_eq_false_iff, Bool.not_eq_true', Bool.not_eq_false'] at *; omega) | (simp_all; done) | (simp_all; omega))
      refine dw_cond (by simp only [go_sem]; exact rfl) (fun c3 => ?_) (fun c3 => ?_)
      · skip
        try simp only [decide_eq_true_eq, decide_eq_false_iff_not, Bool.or_eq_true, Bool.and_eq_true, Bool.or_eq_false_iff, Bool.not_eq_true', Bool.not_eq_false', Bool.and_eq_false_iff, beq_iff_eq, beq_eq_false_iff_ne, bne_iff_ne, bne_eq_false_iff_eq, ne_eq] at c3
        refine dw_step (C := Rn) (by simp only [go_sem]; exact rfl) (fun h => by cases h) ?_ ?_
        · try simp only [go_sem]
          all_goals (first | done | (repeat' (with_reducible apply And.intro)) <;> first | omega | (with_reducible assumption) | (intros; omega) | (intros; simp only [decide_eq_true_eq, decide_eq_false_iff_not, Bool.or_eq_true, Bool.and_eq_true, Bool.or_eq_false_iff, Bool.not_eq_true', Bool.not_eq_false'] at *; omega) | (simp_all; done) | (simp_all; omega))
        refine dw_ret ?_
        refine ⟨(by first | exact .inr rfl | trivial | simp), ?_, ?_⟩
        · simp only [go_sem]
        refine ⟨0, ?_, ?_⟩
        · try simp only [go_sem]
          all_goals (simp)
        · try simp only [go_sem]
          all_goals (simp only [cmpI, cmpS, ltS]; first | (simp_all; done) | ((repeat' split) <;> first | rfl | omega))
      · skip
        try simp only [decide_eq_true_eq, decide_eq_false_iff_not, Bool.or_eq_true, Bool.and_eq_true, Bool.or_eq_false_iff, Bool.not_eq_true', Bool.not_eq_false', Bool.and_eq_false_iff, beq_iff_eq, beq_eq_false_iff_ne, bne_iff_ne, bne_eq_false_iff_eq, ne_eq] at c3
        refine dw_skip ?_
        show DW _ _ _ _ _
        refine dw_seq ?_
        refine dw_step (C := Rn) (by simp only [go_sem]; exact rfl) (fun h => by cases h) ?_ ?_
        · try simp only [go_sem]
          all_goals (first | done | (repeat' (with_reducible apply And.intro)) <;> first | omega | (with_reducible assumption) | (intros; omega) | (intros; simp only [decide_eq_true_eq, decide_eq_false_iff_not, Bool.or_eq_true, Bool.and_eq_true, Bool.or_eq_false_iff, Bool.not_eq_true', Bool.not_eq_false'] at *; omega) | (simp_all; done) | (simp_all; omega))
        refine dw_cond (by simp only [go_sem]; exact rfl) (fun c4 => ?_) (fun c4 => ?_)
        · skip
          try simp only [decide_eq_true_eq, decide_eq_false_iff_not, Bool.or_eq_true, Bool.and_eq_true, Bool.or_eq_false_iff, Bool.not_eq_true', Bool.not_eq_false', Bool.and_eq_false_iff, beq_iff_eq, beq_eq_false_iff_ne, bne_iff_ne, bne_eq_false_iff_eq, ne_eq] at c4
          refine dw_step (C := Rn) (by simp only [go_sem]; exact rfl) (fun h => by cases h) ?_ ?_
          · try simp only [go_sem]
            all_goals (first | done | (repeat' (with_reducible apply And.intro)) <;> first | omega | (with_reducible assumption) | (intros; omega) | (intros; simp only [decide_eq_true_eq, decide_eq_false_iff_not, Bool.or_eq_true, Bool.and_eq_true, Bool.or_eq_false_iff, Bool.not_eq_true', Bool.not_eq_false'] at *; omega) | (simp_all; done) | (simp_all; omega))
          refine dw_ret ?_
          refine ⟨(by first | exact .inr rfl | trivial | simp), ?_, ?_⟩
          · simp only [go_sem]
          refine ⟨0, ?_, ?_⟩
          · try simp only [go_sem]
            all_goals (simp)
          · try simp only [go_sem]
            all_goals (simp only [cmpI, cmpS, ltS]; first | (simp_all; done) | ((repeat' split) <;> first | rfl | omega))
        · skip
          try simp only [decide_eq_true_eq, decide_eq_false_iff_not, Bool.or_eq_true, Bool.and_eq_true, Bool.or_eq_false_iff, Bool.not_eq_true', Bool.not_eq_false', Bool.and_eq_false_iff, beq_iff_eq, beq_eq_false_iff_ne, bne_iff_ne, bne_eq_false_iff_eq, ne_eq] at c4
          refine dw_skip ?_
          show DW _ _ _ _ _
          refine dw_step (C := Rn) (by simp only [go_sem]; exact rfl) (fun h => by cases h) ?_ ?_
          · try simp only [go_sem]
            all_goals (first | done | (repeat' (with_reducible apply And.intro)) <;> first | omega | (with_reducible assumption) | (intros; omega) | (intros; simp only [decide_eq_true_eq, decide_eq_false_iff_not, Bool.or_eq_true, Bool.and_eq_true, Bool.or_eq_false_iff, Bool.not_eq_true', Bool.not_eq_false'] at *; omega) | (simp_all; done) | (simp_all; omega))
          refine dw_ret ?_
          refine ⟨(by first | exact .inr rfl | trivial | simp), ?_, ?_⟩
          · simp only [go_sem]
          refine ⟨0, ?_, ?_⟩
          · try simp only [go_sem]
            all_goals (simp)
          · try simp only [go_sem]
            all_goals (simp only [cmpI, cmpS, ltS]; first | (simp_all; done) | ((repeat' split) <;> first | rfl | omega))
theorem bo101 : hasBody Tryd.prog 101 = true := by kernel_rfl
theorem haspre0_ct (s : Str) (p : Str) : PureCt Tryd.prog 101 [.v (.string (bs s)), .v (.string (bs p))] (.b (hasPre s p)) := by
  refine pure_of_dw Tryd.func101 rfl bo101 (by simp [go_sem, D.nr, nrs, nrr]) (by simp [Tryd.f101]) ?_
  unfold Tryd.f101
  simp only [init_eq]
  refine dw_step (C := Rn) (by simp only [go_sem]; exact rfl) (fun h => by cases h) ?_ ?_
  · try simp only [go_sem]
    all_goals (first | done | (repeat' (with_reducible apply And.intro)) <;> first | omega | (with_reducible assumption) | (intros; omega) | (intros; simp only [decide_eq_true_eq, decide_eq_false_iff_not, Bool.or_eq_true, Bool.and_eq_true, Bool.or_eq_false_iff, Bool.not_eq_true', Bool.not_eq_false'] at *; omega) | (simp_all; done) | (simp_all; omega))
  refine dw_step (C := Rn) (by simp only [go_sem]; exact rfl) (fun h => by cases h) ?_ ?_
  · try simp only [go_sem]
    all_goals (first | done | (repeat' (with_reducible apply And.intro)) <;> first | omega | (with_reducible assumption) | (intros; omega) | (intros; simp only [decide_eq_true_eq, decide_eq_false_iff_not, Bool.or_eq_true, Bool.and_eq_true, Bool.or_eq_false_iff, Bool.not_eq_true', Bool.not_eq_false'] at *; omega) | (simp_all; done) | (simp_all; omega))
  refine dw_ret ?_
  refine ⟨(by first | exact .inr rfl | trivial | simp), ?_, ?_⟩
  · simp only [go_sem]
  refine ⟨0, ?_, ?_⟩
  · try simp only [go_sem]
    all_goals (simp)
  · try simp only [go_sem]
    all_goals (have e : decide ((p.length : Int) ≤ s.length) = decide (p.length ≤ s.length) := decide_eq_decide.2 (by omega); rw [hasPre, e])
theorem bo67 : hasBody Tryd.prog 67 = true := by kernel_rfl
theorem haspre_ct (s : Str) (p : Str) : PureCt Tryd.prog 67 [.v (.string (bs s)), .v (.string (bs p))] (.b (hasPre s p)) := by
  refine pure_of_dw Tryd.func67 rfl bo67 (by simp [go_sem, D.nr, nrs, nrr]) (by simp [Tryd.f67]) ?_
  unfold Tryd.f67
  simp only [init_eq]
  refine dw_step (C := Rn) (by simp only [go_sem]; exact rfl) (fun h => by cases h) ?_ ?_
  · try simp only [go_sem]
    all_goals (first | done | (repeat' (with_reducible apply And.intro)) <;> first | omega | (with_reducible assumption) | (intros; omega) | (intros; simp only [decide_eq_true_eq, decide_eq_false_iff_not, Bool.or_eq_true, Bool.and_eq_true, Bool.or_eq_false_iff, Bool.not_eq_true', Bool.not_eq_false'] at *; omega) | (simp_all; done) | (simp_all; omega))
  refine dw_step (C := Rn) (by simp only [go_sem]; exact rfl) (fun h => by cases h) ?_ ?_
  · try simp only [go_sem]
    all_goals (first | done | (repeat' (with_reducible apply And.intro)) <;> first | omega | (with_reducible assumption) | (intros; omega) | (intros; simp only [decide_eq_true_eq, decide_eq_false_iff_not, Bool.or_eq_true, Bool.and_eq_true, Bool.or_eq_false_iff, Bool.not_eq_true', Bool.not_eq_false'] at *; omega) | (simp_all; done) | (simp_all; omega) | (apply haspre0_ct <;> omega) | (intros; apply haspre0_ct <;> omega))
  refine dw_ret ?_
  refine ⟨(by first | exact .inr rfl | trivial | simp), ?_, ?_⟩
  · simp only [go_sem]
  refine ⟨0, ?_, ?_⟩
  · try simp only [go_sem]
    all_goals (simp)
  · try simp only [go_sem]
    all_goals (rfl)
theorem bo36 : hasBody Tryd.prog 36 = true := by kernel_rfl
theorem iswild_ct (s : Str) : PureCt Tryd.prog 36 [.v (.string (bs s))] (.b (wildB s)) := by
  refine pure_of_dw Tryd.func36 rfl bo36 (by simp [go_sem, D.nr, nrs, nrr]) (by simp [Tryd.f36]) ?_
  unfold Tryd.f36
  simp only [init_eq]
  refine dw_step (C := Rn) (by simp only [go_sem]; exact rfl) (fun h => by cases h) ?_ ?_
  · try simp only [go_sem]
    all_goals (first | done | (repeat' (with_reducible apply And.intro)) <;> first | omega | (with_reducible assumption) | (intros; omega) | (intros; simp only [decide_eq_true_eq, decide_eq_false_iff_not, Bool.or_eq_true, Bool.and_eq_true, Bool.or_eq_false_iff, Bool.not_eq_true', Bool.not_eq_false'] at *; omega) | (simp_all; done) | (simp_all; omega))
  refine dw_step (C := Rn) (by simp only [go_sem]; exact rfl) (fun h => by cases h) ?_ ?_
  · try simp only [go_sem]
    all_goals (first | done | (repeat' (with_reducible apply And.intro)) <;> first | omega | (with_reducible assumption) | (intros; omega) | (intros; simp only [decide_eq_true_eq, decide_eq_false_iff_not, Bool.or_eq_true, Bool.and_eq_true, Bool.or_eq_false_iff, Bool.not_eq_true', Bool.not_eq_false'] at *; omega) | (simp_all; done) | (simp_all; omega) | (apply haspre_ct <;> omega) | (intros; apply haspre_ct <;> omega))
  refine dw_ret ?_
  refine ⟨(by first | exact .inr rfl | trivial | simp), ?_, ?_⟩
  · simp only [go_sem]
  refine ⟨0, ?_, ?_⟩
  · try simp only [go_sem]
    all_goals (simp)
  · try simp only [go_sem]
    all_goals (rw [wild_pre])
theorem bo41 : hasBody Tryd.prog 41 = true := by kernel_rfl
theorem rwild_ct (s : Str) : PureCt Tryd.prog 41 [.v (.string (bs s))] (.b (wildB s)) := by
  refine pure_of_dw Tryd.func41 rfl bo41 (by simp [go_sem, D.nr, nrs, nrr]) (by simp [Tryd.f41]) ?_
  unfold Tryd.f41
  simp only [init_eq]
  refine dw_step (C := Rn) (by simp only [go_sem]; exact rfl) (fun h => by cases h) ?_ ?_
  · try simp only [go_sem]
    all_goals (first | done | (repeat' (with_reducible apply And.intro)) <;> first | omega | (with_reducible assumption) | (intros; omega) | (intros; simp only [decide_eq_true_eq, decide_eq_false_iff_not, Bool.or_eq_true, Bool.and_eq_true, Bool.or_eq_false_iff, Bool.not_eq_true', Bool.not_eq_false'] at *; omega) | (simp_all; done) | (simp_all; omega))
  refine dw_step (C := Rn) (by simp only [go_sem]; exact rfl) (fun h => by cases h) ?_ ?_
  · try simp only [go_sem]
    all_goals (first | done | (repeat' (with_reducible apply And.intro)) <;> first | omega | (with_reducible assumption) | (intros; omega) | (intros; simp only [decide_eq_true_eq, decide_eq_false_iff_not, Bool.or_eq_true, Bool.and_eq_true, Bool.or_eq_false_iff, Bool.not_eq_true', Bool.not_eq_false'] at *; omega) | (simp_all; done) | (simp_all; omega))
  refine dw_ret ?_
  refine ⟨(by first | exact .inr rfl | trivial | simp), ?_, ?_⟩
  · simp only [go_sem]
  refine ⟨0, ?_, ?_⟩
  · try simp only [go_sem]
    all_goals (simp)
  · try simp only [go_sem]
    all_goals (rw [wildB]; congr 2; rw [Bool.eq_iff_iff]; simp only [Bool.and_eq_true, decide_eq_true_eq, beq_iff_eq]; omega)
theorem bo68 : hasBody Tryd.prog 68 = true := by kernel_rfl
theorem isfree_ct (s : Str) : PureCt Tryd.prog 68 [.v (.string (bs s))] (.b (freeB s)) := by
  rw [freeB]
  refine pure_of_dw Tryd.func68 rfl bo68 (by simp [go_sem, D.nr, nrs, nrr]) (by simp [Tryd.f68]) ?_
  unfold Tryd.f68
  simp only [init_eq]
  have e1 : ((s.length:Int) - 1).toNat = s.length - 1 := by omega
  refine dw_step (C := Rn) (by simp only [go_sem, e1]; exact rfl) (fun h => by cases h) ?_ ?_
  · try simp only [go_sem, e1]
    all_goals (first | done | (repeat' (with_reducible apply And.intro)) <;> first | omega | (with_reducible assumption) | (intros; omega) | (intros; simp only [decide_eq_true_eq, decide_eq_false_iff_not, Bool.or_eq_true, Bool.and_eq_true, Bool.or_eq_false_iff, Bool.not_eq_true', Bool.not_eq_false'] at *; omega) | (simp_all; done) | (simp_all; omega))
  refine dw_seq ?_
  have hin : inR (s.length : Int) 1 40 = true → (1:Int) ≤ s.length ∧ (s.length : Int) ≤ 40 := by intro h; simp only [inR, Bool.and_eq_true, decide_eq_true_eq] at h; exact h
  refine dw_step (C := Rn) (by simp only [go_sem, e1]; exact rfl) (fun h => by cases h) ?_ ?_
  · try simp only [go_sem, e1]
    all_goals (refine ⟨⟨⟨within_ct _ _ _, fun h => by have := hin h; omega⟩, fun h => ?_⟩, fun h => ?_⟩ <;> (rw [Bool.or_eq_false_iff, Bool.not_eq_false'] at h; have := hin h.1; omega))
  refine dw_cond (by simp only [go_sem, e1]; exact rfl) (fun c1 => ?_) (fun c1 => ?_)
  · skip
    try simp only [decide_eq_true_eq, decide_eq_false_iff_not, Bool.or_eq_true, Bool.and_eq_true, Bool.or_eq_false_iff, Bool.not_eq_true', Bool.not_eq_false', Bool.and_eq_false_iff, beq_iff_eq, beq_eq_false_iff_ne, bne_iff_ne, bne_eq_false_iff_eq, ne_eq] at c1
    try simp only [inR, Bool.and_eq_true, Bool.and_eq_false_iff, decide_eq_true_eq, decide_eq_false_iff_not] at c1
    refine dw_step (C := Rn) (by simp only [go_sem, e1]; exact rfl) (fun h => by cases h) ?_ ?_
    · try simp only [go_sem, e1]
      all_goals (first | done | (repeat' (with_reducible apply And.intro)) <;> first | omega | (with_reducible assumption) | (intros; omega) | (intros; simp only [decide_eq_true_eq, decide_eq_false_iff_not, Bool.or_eq_true, Bool.and_eq_true, Bool.or_eq_false_iff, Bool.not_eq_true', Bool.not_eq_false'] at *; omega) | (simp_all; done) | (simp_all; omega))
    refine dw_ret ?_
    refine ⟨(by first | exact .inr rfl | trivial | simp), ?_, ?_⟩
    · simp only [go_sem, e1]
    refine ⟨0, ?_, ?_⟩
    · try simp only [go_sem, e1]
      all_goals (simp)
    · try simp only [go_sem, e1]
      all_goals ((repeat' split) <;> first | rfl | (exfalso; omega))
  · skip
    try simp only [decide_eq_true_eq, decide_eq_false_iff_not, Bool.or_eq_true, Bool.and_eq_true, Bool.or_eq_false_iff, Bool.not_eq_true', Bool.not_eq_false', Bool.and_eq_false_iff, beq_iff_eq, beq_eq_false_iff_ne, bne_iff_ne, bne_eq_false_iff_eq, ne_eq] at c1
    try simp only [inR, Bool.and_eq_true, Bool.and_eq_false_iff, decide_eq_true_eq, decide_eq_false_iff_not] at c1
    refine dw_skip ?_
    show DW _ _ _ _ _
    refine dw_seq ?_
    refine dw_step (C := Rn) (by simp only [go_sem, e1]; exact rfl) (fun h => by cases h) ?_ ?_
    · try simp only [go_sem, e1]
      all_goals (first | done | (repeat' (with_reducible apply And.intro)) <;> first | omega | (with_reducible assumption) | (intros; omega) | (intros; simp only [decide_eq_true_eq, decide_eq_false_iff_not, Bool.or_eq_true, Bool.and_eq_true, Bool.or_eq_false_iff, Bool.not_eq_true', Bool.not_eq_false'] at *; omega) | (simp_all; done) | (simp_all; omega))
    refine dw_block ?_
    refine dw_loop_fix (α := (Nat) × Nat) [0, 23] (fun ⟨k, nx⟩ => (k ≤ s.length) ∧ (allN s.length (freeIn s) 0 = allN s.length (freeIn s) k) ∧ True) (fun ⟨k, nx⟩ => s.length - k) (fun ⟨k, nx⟩ => [(24, .i k)]) (fun ⟨k, nx⟩ => []) (fun ⟨k, nx⟩ => nx) (0, _) (by simp only [List.map_cons, List.map_nil, go_sem, e1]; exact rfl) ⟨(by first | (first | omega | (with_reducible assumption) | (simp_all; done) | (simp_all; omega)) | (dsimp only; first | omega | (with_reducible assumption) | (simp_all; done) | (simp_all; omega))), (by first | (rfl) | (dsimp only; rfl)), trivial⟩ (by first | (simp only [go_sem, e1]; done) | (simp [go_sem, e1]; done) | (simp only [go_sem, e1]; (repeat' (with_reducible apply And.intro)) <;> first | (left; simp; done) | (right; simp [go_sem]; done))) (by first | (simp only [go_sem, e1]; done) | simp [go_sem, e1]) (Nat.le_refl _) ?_
    rintro ⟨k, nx⟩ ⟨hk, hv, -⟩
    show DW _ _ _ _ { n := _, t := tab _, h := _, nx := _, e := _ }
    simp only [List.cons_append, List.nil_append]
    refine dw_step (C := Rn) (by simp only [go_sem, e1]; exact rfl) (fun h => by cases h) ?_ ?_
    · try simp only [go_sem, e1]
      all_goals (first | done | (repeat' (with_reducible apply And.intro)) <;> first | omega | (with_reducible assumption) | (intros; omega) | (intros; simp only [decide_eq_true_eq, decide_eq_false_iff_not, Bool.or_eq_true, Bool.and_eq_true, Bool.or_eq_false_iff, Bool.not_eq_true', Bool.not_eq_false'] at *; omega) | (simp_all; done) | (simp_all; omega))
    refine dw_seq ?_
    refine dw_cond (by simp only [go_sem, e1]; exact rfl) (fun c2 => ?_) (fun c2 => ?_)
    · skip
      have hk2 : k < s.length := by simpa using c2
      refine dw_skip ?_
      show DW _ _ _ _ _
      refine dw_seq ?_
      refine dw_block ?_
      refine dw_step (C := Rn) (by simp only [go_sem, e1]; exact rfl) (fun h => by cases h) ?_ ?_
      · try simp only [go_sem, e1]
        all_goals (first | done | (repeat' (with_reducible apply And.intro)) <;> first | omega | (with_reducible assumption) | (intros; omega) | (intros; simp only [decide_eq_true_eq, decide_eq_false_iff_not, Bool.or_eq_true, Bool.and_eq_true, Bool.or_eq_false_iff, Bool.not_eq_true', Bool.not_eq_false'] at *; omega) | (simp_all; done) | (simp_all; omega))
      refine dw_step (C := Rn) (by simp only [go_sem, e1]; exact rfl) (fun h => by cases h) ?_ ?_
      · try simp only [go_sem, e1]
        all_goals (first | done | (repeat' (with_reducible apply And.intro)) <;> first | omega | (with_reducible assumption) | (intros; omega) | (intros; simp only [decide_eq_true_eq, decide_eq_false_iff_not, Bool.or_eq_true, Bool.and_eq_true, Bool.or_eq_false_iff, Bool.not_eq_true', Bool.not_eq_false'] at *; omega) | (simp_all; done) | (simp_all; omega))
      refine dw_step (C := Rn) (by simp only [go_sem, e1]; exact rfl) (fun h => by cases h) ?_ ?_
      · try simp only [go_sem, e1]
        all_goals (first | done | (simp only [withinb_ct, and_true, implies_true]; done) | ((repeat' (with_reducible apply And.intro)) <;> first | exact withinb_ct _ _ _ | (intros; exact withinb_ct _ _ _) | (intros; simp_all; done)))
      refine dw_cond (by simp only [go_sem, e1]; exact rfl) (fun c3 => ?_) (fun c3 => ?_)
      · skip
        try simp only [decide_eq_true_eq, decide_eq_false_iff_not, Bool.or_eq_true, Bool.and_eq_true, Bool.or_eq_false_iff, Bool.not_eq_true', Bool.not_eq_false', Bool.and_eq_false_iff, beq_iff_eq, beq_eq_false_iff_ne, bne_iff_ne, bne_eq_false_iff_eq, ne_eq] at c3
        refine dw_step (C := Rn) (by simp only [go_sem, e1]; exact rfl) (fun h => by cases h) ?_ ?_
        · try simp only [go_sem, e1]
          all_goals (first | done | (repeat' (with_reducible apply And.intro)) <;> first | omega | (with_reducible assumption) | (intros; omega) | (intros; simp only [decide_eq_true_eq, decide_eq_false_iff_not, Bool.or_eq_true, Bool.and_eq_true, Bool.or_eq_false_iff, Bool.not_eq_true', Bool.not_eq_false'] at *; omega) | (simp_all; done) | (simp_all; omega))
        refine dw_ret ?_
        refine ⟨(by first | exact .inr rfl | trivial | simp), ?_, ?_⟩
        · simp only [go_sem, e1]
        refine ⟨0, ?_, ?_⟩
        · try simp only [go_sem, e1]
          all_goals (simp)
        · try simp only [go_sem, e1]
          all_goals (have h8 : freeIn s k = false := (by simp only [freeIn, alnum, Bool.or_eq_false_iff, Bool.and_eq_false_iff, decide_eq_false_iff_not]; (try simp only [inR, Bool.and_eq_true, Bool.and_eq_false_iff, decide_eq_true_eq, decide_eq_false_iff_not] at c3); omega); rw [hv, allN_eq, if_pos hk2, h8]; (repeat' split) <;> rfl)
      · skip
        try simp only [decide_eq_true_eq, decide_eq_false_iff_not, Bool.or_eq_true, Bool.and_eq_true, Bool.or_eq_false_iff, Bool.not_eq_true', Bool.not_eq_false', Bool.and_eq_false_iff, beq_iff_eq, beq_eq_false_iff_ne, bne_iff_ne, bne_eq_false_iff_eq, ne_eq] at c3
        refine dw_skip ?_
        show DW _ _ _ _ _
        refine dw_reg (C := Rn) (by simp only [go_sem, e1]; exact rfl) (fun h => by cases h) ?_ ?_
        · try simp only [go_sem, e1]
          all_goals (first | done | (repeat' (with_reducible apply And.intro)) <;> first | omega | (with_reducible assumption) | (intros; omega) | (intros; simp only [decide_eq_true_eq, decide_eq_false_iff_not, Bool.or_eq_true, Bool.and_eq_true, Bool.or_eq_false_iff, Bool.not_eq_true', Bool.not_eq_false'] at *; omega) | (simp_all; done) | (simp_all; omega))
        show ∃ _, _
        refine ⟨(k + 1, _), ⟨(by first | (first | omega | (with_reducible assumption) | (simp_all; done) | (simp_all; omega)) | (dsimp only; first | omega | (with_reducible assumption) | (simp_all; done) | (simp_all; omega))), (by first | (have h8 : freeIn s k = true := (by simp only [freeIn, alnum, Bool.or_eq_true, Bool.and_eq_true, decide_eq_true_eq]; (try simp only [inR, Bool.and_eq_true, Bool.and_eq_false_iff, decide_eq_true_eq, decide_eq_false_iff_not] at c3); omega); rw [hv, allN_eq, if_pos hk2, h8]; rfl) | (dsimp only; have h8 : freeIn s k = true := (by simp only [freeIn, alnum, Bool.or_eq_true, Bool.and_eq_true, decide_eq_true_eq]; (try simp only [inR, Bool.and_eq_true, Bool.and_eq_false_iff, decide_eq_true_eq, decide_eq_false_iff_not] at c3); omega); rw [hv, allN_eq, if_pos hk2, h8]; rfl)), trivial⟩, (by show (_ : Nat) < _; first | omega | simp_all; omega), ?_, ?_, ?_, Nat.le_refl _, rfl, rfl⟩
        · try simp only [go_sem, e1]
          all_goals (first | done | (simp; done) | (simp; omega) | ((repeat' (with_reducible apply And.intro)) <;> first | (left; simp; done) | (right; simp [go_sem]; done)))
        · try simp only [go_sem, e1]
          all_goals (first | done | (simp; done) | (simp; omega) | ((repeat' (with_reducible apply And.intro)) <;> first | (left; simp; done) | (right; simp [go_sem]; done)))
        · try simp only [go_sem, e1]
          all_goals (first | done | (simp; done) | (simp; omega) | ((repeat' (with_reducible apply And.intro)) <;> first | (left; simp; done) | (right; simp [go_sem]; done)))
    · skip
      try simp only [decide_eq_true_eq, decide_eq_false_iff_not, Bool.or_eq_true, Bool.and_eq_true, Bool.or_eq_false_iff, Bool.not_eq_true', Bool.not_eq_false', Bool.and_eq_false_iff, beq_iff_eq, beq_eq_false_iff_ne, bne_iff_ne, bne_eq_false_iff_eq, ne_eq] at c2
      refine dw_exit ?_
      show DW _ _ _ _ _
      refine dw_step (C := Rn) (by simp only [go_sem, e1]; exact rfl) (fun h => by cases h) ?_ ?_
      · try simp only [go_sem, e1]
        all_goals (first | done | (repeat' (with_reducible apply And.intro)) <;> first | omega | (with_reducible assumption) | (intros; omega) | (intros; simp only [decide_eq_true_eq, decide_eq_false_iff_not, Bool.or_eq_true, Bool.and_eq_true, Bool.or_eq_false_iff, Bool.not_eq_true', Bool.not_eq_false'] at *; omega) | (simp_all; done) | (simp_all; omega))
      refine dw_ret ?_
      refine ⟨(by first | exact .inr rfl | trivial | simp), ?_, ?_⟩
      · simp only [go_sem, e1]
      refine ⟨0, ?_, ?_⟩
      · try simp only [go_sem, e1]
        all_goals (simp)
      · try simp only [go_sem, e1]
        all_goals (rw [hv, allN_eq, if_neg (by omega), if_neg (by omega), if_neg (by omega), if_neg (by omega), if_neg (by omega)])
theorem bo73 : hasBody Tryd.prog 73 = true := by kernel_rfl
theorem rtext_ct (s : Str) : PureCt Tryd.prog 73 [.v (.string (bs s))] (.b (freeB s)) := by
  rw [freeB]
  refine pure_of_dw Tryd.func73 rfl bo73 (by simp [go_sem, D.nr, nrs, nrr]) (by simp [Tryd.f73]) ?_
  unfold Tryd.f73
  simp only [init_eq]
  have e1 : ((s.length:Int) - 1).toNat = s.length - 1 := by omega
  refine dw_step (C := Rn) (by simp only [go_sem, e1]; exact rfl) (fun h => by cases h) ?_ ?_
  · try simp only [go_sem, e1]
    all_goals (first | done | (repeat' (with_reducible apply And.intro)) <;> first | omega | (with_reducible assumption) | (intros; omega) | (intros; simp only [decide_eq_true_eq, decide_eq_false_iff_not, Bool.or_eq_true, Bool.and_eq_true, Bool.or_eq_false_iff, Bool.not_eq_true', Bool.not_eq_false'] at *; omega) | (simp_all; done) | (simp_all; omega))
  refine dw_step (C := Rn) (by simp only [go_sem, e1]; exact rfl) (fun h => by cases h) ?_ ?_
  · try simp only [go_sem, e1]
    all_goals (first | done | (repeat' (with_reducible apply And.intro)) <;> first | omega | (with_reducible assumption) | (intros; omega) | (intros; simp only [decide_eq_true_eq, decide_eq_false_iff_not, Bool.or_eq_true, Bool.and_eq_true, Bool.or_eq_false_iff, Bool.not_eq_true', Bool.not_eq_false'] at *; omega) | (simp_all; done) | (simp_all; omega))
  refine dw_seq ?_
  refine dw_step (C := Rn) (by simp only [go_sem, e1]; exact rfl) (fun h => by cases h) ?_ ?_
  · try simp only [go_sem, e1]
    all_goals (first | done | (repeat' (with_reducible apply And.intro)) <;> first | omega | (with_reducible assumption) | (intros; omega) | (intros; simp only [decide_eq_true_eq, decide_eq_false_iff_not, Bool.or_eq_true, Bool.and_eq_true, Bool.or_eq_false_iff, Bool.not_eq_true', Bool.not_eq_false'] at *; omega) | (simp_all; done) | (simp_all; omega))
  refine dw_cond (by simp only [go_sem, e1]; exact rfl) (fun c1 => ?_) (fun c1 => ?_)
  · skip
    try simp only [decide_eq_true_eq, decide_eq_false_iff_not, Bool.or_eq_true, Bool.and_eq_true, Bool.or_eq_false_iff, Bool.not_eq_true', Bool.not_eq_false', Bool.and_eq_false_iff, beq_iff_eq, beq_eq_false_iff_ne, bne_iff_ne, bne_eq_false_iff_eq, ne_eq] at c1
    refine dw_step (C := Rn) (by simp only [go_sem, e1]; exact rfl) (fun h => by cases h) ?_ ?_
    · try simp only [go_sem, e1]
      all_goals (first | done | (repeat' (with_reducible apply And.intro)) <;> first | omega | (with_reducible assumption) | (intros; omega) | (intros; simp only [decide_eq_true_eq, decide_eq_false_iff_not, Bool.or_eq_true, Bool.and_eq_true, Bool.or_eq_false_iff, Bool.not_eq_true', Bool.not_eq_false'] at *; omega) | (simp_all; done) | (simp_all; omega))
    refine dw_ret ?_
    refine ⟨(by first | exact .inr rfl | trivial | simp), ?_, ?_⟩
    · simp only [go_sem, e1]
    refine ⟨0, ?_, ?_⟩
    · try simp only [go_sem, e1]
      all_goals (simp)
    · try simp only [go_sem, e1]
      all_goals ((repeat' split) <;> first | rfl | (exfalso; omega))
  · skip
    try simp only [decide_eq_true_eq, decide_eq_false_iff_not, Bool.or_eq_true, Bool.and_eq_true, Bool.or_eq_false_iff, Bool.not_eq_true', Bool.not_eq_false', Bool.and_eq_false_iff, beq_iff_eq, beq_eq_false_iff_ne, bne_iff_ne, bne_eq_false_iff_eq, ne_eq] at c1
    refine dw_skip ?_
    show DW _ _ _ _ _
    refine dw_seq ?_
    refine dw_step (C := Rn) (by simp only [go_sem, e1]; exact rfl) (fun h => by cases h) ?_ ?_
    · try simp only [go_sem, e1]
      all_goals (first | done | (repeat' (with_reducible apply And.intro)) <;> first | omega | (with_reducible assumption) | (intros; omega) | (intros; simp only [decide_eq_true_eq, decide_eq_false_iff_not, Bool.or_eq_true, Bool.and_eq_true, Bool.or_eq_false_iff, Bool.not_eq_true', Bool.not_eq_false'] at *; omega) | (simp_all; done) | (simp_all; omega))
    refine dw_block ?_
    refine dw_loop_fix (α := (Nat) × Nat) [0, 3] (fun ⟨k, nx⟩ => (k ≤ s.length) ∧ (allN s.length (freeIn s) 0 = allN s.length (freeIn s) k) ∧ True) (fun ⟨k, nx⟩ => s.length - k) (fun ⟨k, nx⟩ => [(4, .i k)]) (fun ⟨k, nx⟩ => []) (fun ⟨k, nx⟩ => nx) (0, _) (by simp only [List.map_cons, List.map_nil, go_sem, e1]; exact rfl) ⟨(by first | (first | omega | (with_reducible assumption) | (simp_all; done) | (simp_all; omega)) | (dsimp only; first | omega | (with_reducible assumption) | (simp_all; done) | (simp_all; omega))), (by first | (rfl) | (dsimp only; rfl)), trivial⟩ (by first | (simp only [go_sem, e1]; done) | (simp [go_sem, e1]; done) | (simp only [go_sem, e1]; (repeat' (with_reducible apply And.intro)) <;> first | (left; simp; done) | (right; simp [go_sem]; done))) (by first | (simp only [go_sem, e1]; done) | simp [go_sem, e1]) (Nat.le_refl _) ?_
    rintro ⟨k, nx⟩ ⟨hk, hv, -⟩
    show DW _ _ _ _ { n := _, t := tab _, h := _, nx := _, e := _ }
    simp only [List.cons_append, List.nil_append]
    refine dw_seq ?_
    refine dw_step (C := Rn) (by simp only [go_sem, e1]; exact rfl) (fun h => by cases h) ?_ ?_
    · try simp only [go_sem, e1]
      all_goals (first | done | (repeat' (with_reducible apply And.intro)) <;> first | omega | (with_reducible assumption) | (intros; omega) | (intros; simp only [decide_eq_true_eq, decide_eq_false_iff_not, Bool.or_eq_true, Bool.and_eq_true, Bool.or_eq_false_iff, Bool.not_eq_true', Bool.not_eq_false'] at *; omega) | (simp_all; done) | (simp_all; omega))
    refine dw_cond (by simp only [go_sem, e1]; exact rfl) (fun c2 => ?_) (fun c2 => ?_)
    · skip
      have hk2 : k < s.length := by simpa using c2
      refine dw_skip ?_
      show DW _ _ _ _ _
      refine dw_seq ?_
      refine dw_block ?_
      refine dw_step (C := Rn) (by simp only [go_sem, e1]; exact rfl) (fun h => by cases h) ?_ ?_
      · try simp only [go_sem, e1]
        all_goals (first | done | (repeat' (with_reducible apply And.intro)) <;> first | omega | (with_reducible assumption) | (intros; omega) | (intros; simp only [decide_eq_true_eq, decide_eq_false_iff_not, Bool.or_eq_true, Bool.and_eq_true, Bool.or_eq_false_iff, Bool.not_eq_true', Bool.not_eq_false'] at *; omega) | (simp_all; done) | (simp_all; omega))
      refine dw_step (C := Rn) (by simp only [go_sem, e1]; exact rfl) (fun h => by cases h) ?_ ?_
      · try simp only [go_sem, e1]
        all_goals (first | done | (repeat' (with_reducible apply And.intro)) <;> first | omega | (with_reducible assumption) | (intros; omega) | (intros; simp only [decide_eq_true_eq, decide_eq_false_iff_not, Bool.or_eq_true, Bool.and_eq_true, Bool.or_eq_false_iff, Bool.not_eq_true', Bool.not_eq_false'] at *; omega) | (simp_all; done) | (simp_all; omega))
      refine dw_cond (by simp only [go_sem, e1]; exact rfl) (fun c3 => ?_) (fun c3 => ?_)
      · skip
        try simp only [decide_eq_true_eq, decide_eq_false_iff_not, Bool.or_eq_true, Bool.and_eq_true, Bool.or_eq_false_iff, Bool.not_eq_true', Bool.not_eq_false', Bool.and_eq_false_iff, beq_iff_eq, beq_eq_false_iff_ne, bne_iff_ne, bne_eq_false_iff_eq, ne_eq] at c3
        refine dw_step (C := Rn) (by simp only [go_sem, e1]; exact rfl) (fun h => by cases h) ?_ ?_
        · try simp only [go_sem, e1]
          all_goals (first | done | (repeat' (with_reducible apply And.intro)) <;> first | omega | (with_reducible assumption) | (intros; omega) | (intros; simp only [decide_eq_true_eq, decide_eq_false_iff_not, Bool.or_eq_true, Bool.and_eq_true, Bool.or_eq_false_iff, Bool.not_eq_true', Bool.not_eq_false'] at *; omega) | (simp_all; done) | (simp_all; omega))
        refine dw_ret ?_
        refine ⟨(by first | exact .inr rfl | trivial | simp), ?_, ?_⟩
        · simp only [go_sem, e1]
        refine ⟨0, ?_, ?_⟩
        · try simp only [go_sem, e1]
          all_goals (simp)
        · try simp only [go_sem, e1]
          all_goals (have h8 : freeIn s k = false := (by simp only [freeIn, alnum, Bool.or_eq_false_iff, Bool.and_eq_false_iff, decide_eq_false_iff_not]; (try simp only [inR, Bool.and_eq_true, Bool.and_eq_false_iff, decide_eq_true_eq, decide_eq_false_iff_not] at c3); omega); rw [hv, allN_eq, if_pos hk2, h8]; (repeat' split) <;> rfl)
      · skip
        try simp only [decide_eq_true_eq, decide_eq_false_iff_not, Bool.or_eq_true, Bool.and_eq_true, Bool.or_eq_false_iff, Bool.not_eq_true', Bool.not_eq_false', Bool.and_eq_false_iff, beq_iff_eq, beq_eq_false_iff_ne, bne_iff_ne, bne_eq_false_iff_eq, ne_eq] at c3
        refine dw_skip ?_
        show DW _ _ _ _ _
        refine dw_reg (C := Rn) (by simp only [go_sem, e1]; exact rfl) (fun h => by cases h) ?_ ?_
        · try simp only [go_sem, e1]
          all_goals (first | done | (repeat' (with_reducible apply And.intro)) <;> first | omega | (with_reducible assumption) | (intros; omega) | (intros; simp only [decide_eq_true_eq, decide_eq_false_iff_not, Bool.or_eq_true, Bool.and_eq_true, Bool.or_eq_false_iff, Bool.not_eq_true', Bool.not_eq_false'] at *; omega) | (simp_all; done) | (simp_all; omega))
        show ∃ _, _
        refine ⟨(k + 1, _), ⟨(by first | (first | omega | (with_reducible assumption) | (simp_all; done) | (simp_all; omega)) | (dsimp only; first | omega | (with_reducible assumption) | (simp_all; done) | (simp_all; omega))), (by first | (have h8 : freeIn s k = true := (by simp only [freeIn, alnum, Bool.or_eq_true, Bool.and_eq_true, decide_eq_true_eq]; (try simp only [inR, Bool.and_eq_true, Bool.and_eq_false_iff, decide_eq_true_eq, decide_eq_false_iff_not] at c3); omega); rw [hv, allN_eq, if_pos hk2, h8]; rfl) | (dsimp only; have h8 : freeIn s k = true := (by simp only [freeIn, alnum, Bool.or_eq_true, Bool.and_eq_true, decide_eq_true_eq]; (try simp only [inR, Bool.and_eq_true, Bool.and_eq_false_iff, decide_eq_true_eq, decide_eq_false_iff_not] at c3); omega); rw [hv, allN_eq, if_pos hk2, h8]; rfl)), trivial⟩, (by show (_ : Nat) < _; first | omega | simp_all; omega), ?_, ?_, ?_, Nat.le_refl _, rfl, rfl⟩
        · try simp only [go_sem, e1]
          all_goals (first | done | (simp; done) | (simp; omega) | ((repeat' (with_reducible apply And.intro)) <;> first | (left; simp; done) | (right; simp [go_sem]; done)))
        · try simp only [go_sem, e1]
          all_goals (first | done | (simp; done) | (simp; omega) | ((repeat' (with_reducible apply And.intro)) <;> first | (left; simp; done) | (right; simp [go_sem]; done)))
        · try simp only [go_sem, e1]
          all_goals (first | done | (simp; done) | (simp; omega) | ((repeat' (with_reducible apply And.intro)) <;> first | (left; simp; done) | (right; simp [go_sem]; done)))
    · skip
      try simp only [decide_eq_true_eq, decide_eq_false_iff_not, Bool.or_eq_true, Bool.and_eq_true, Bool.or_eq_false_iff, Bool.not_eq_true', Bool.not_eq_false', Bool.and_eq_false_iff, beq_iff_eq, beq_eq_false_iff_ne, bne_iff_ne, bne_eq_false_iff_eq, ne_eq] at c2
      refine dw_exit ?_
      show DW _ _ _ _ _
      refine dw_step (C := Rn) (by simp only [go_sem, e1]; exact rfl) (fun h => by cases h) ?_ ?_
      · try simp only [go_sem, e1]
        all_goals (first | done | (repeat' (with_reducible apply And.intro)) <;> first | omega | (with_reducible assumption) | (intros; omega) | (intros; simp only [decide_eq_true_eq, decide_eq_false_iff_not, Bool.or_eq_true, Bool.and_eq_true, Bool.or_eq_false_iff, Bool.not_eq_true', Bool.not_eq_false'] at *; omega) | (simp_all; done) | (simp_all; omega))
      refine dw_ret ?_
      refine ⟨(by first | exact .inr rfl | trivial | simp), ?_, ?_⟩
      · simp only [go_sem, e1]
      refine ⟨0, ?_, ?_⟩
      · try simp only [go_sem, e1]
        all_goals (simp)
      · try simp only [go_sem, e1]
        all_goals (rw [hv, allN_eq, if_neg (by omega), if_neg (by omega), if_neg (by omega), if_neg (by omega), if_neg (by omega)])
theorem bo43 : hasBody Tryd.prog 43 = true := by kernel_rfl
theorem rless_ct (a : Dat) (b : Dat) : PureCt Tryd.prog 43 [.agg a.d, .agg b.d] (.b (less a b)) := by
  rw [less]
  refine pure_of_dw Tryd.func43 rfl bo43 (by simp [go_sem, D.nr, nrs, nrr]) (by simp [Tryd.f43]) ?_
  unfold Tryd.f43
  simp only [init_eq]
  refine dw_step (C := Rn) (by simp only [go_sem]; exact rfl) (fun h => by cases h) ?_ ?_
  · try simp only [go_sem]
    all_goals (first | done | (repeat' (with_reducible apply And.intro)) <;> first | omega | (with_reducible assumption) | (intros; omega) | (intros; simp only [decide_eq_true_eq, decide_eq_false_iff_not, Bool.or_eq_true, Bool.and_eq_true, Bool.or_eq_false_iff, Bool.not_eq_true', Bool.not_eq_false'] at *; omega) | (simp_all; done) | (simp_all; omega))
  refine dw_seq ?_
  refine dw_step (C := Rn) (by simp only [go_sem]; exact rfl) (fun h => by cases h) ?_ ?_
  · try simp only [go_sem]
    all_goals (first | done | (repeat' (with_reducible apply And.intro)) <;> first | omega | (with_reducible assumption) | (intros; omega) | (intros; simp only [decide_eq_true_eq, decide_eq_false_iff_not, Bool.or_eq_true, Bool.and_eq_true, Bool.or_eq_false_iff, Bool.not_eq_true', Bool.not_eq_false'] at *; omega) | (simp_all; done) | (simp_all; omega))
  refine dw_cond (by simp only [go_sem]; exact rfl) (fun c1 => ?_) (fun c1 => ?_)
  · skip
    refine dw_step (C := Rn) (by simp only [go_sem]; exact rfl) (fun h => by cases h) ?_ ?_
    · try simp only [go_sem]
      all_goals (first | done | (repeat' (with_reducible apply And.intro)) <;> first | omega | (with_reducible assumption) | (intros; omega) | (intros; simp only [decide_eq_true_eq, decide_eq_false_iff_not, Bool.or_eq_true, Bool.and_eq_true, Bool.or_eq_false_iff, Bool.not_eq_true', Bool.not_eq_false'] at *; omega) | (simp_all; done) | (simp_all; omega))
    refine dw_ret ?_
    refine ⟨(by first | exact .inr rfl | trivial | simp), ?_, ?_⟩
    · simp only [go_sem]
    refine ⟨0, ?_, ?_⟩
    · try simp only [go_sem]
      all_goals (simp)
    · try simp only [go_sem]
      all_goals (rw [if_pos c1]; rfl)
  · skip
    refine dw_skip ?_
    show DW _ _ _ _ _
    refine dw_seq ?_
    refine dw_step (C := Rn) (by simp only [go_sem]; exact rfl) (fun h => by cases h) ?_ ?_
    · try simp only [go_sem]
      all_goals (first | done | (repeat' (with_reducible apply And.intro)) <;> first | omega | (with_reducible assumption) | (intros; omega) | (intros; simp only [decide_eq_true_eq, decide_eq_false_iff_not, Bool.or_eq_true, Bool.and_eq_true, Bool.or_eq_false_iff, Bool.not_eq_true', Bool.not_eq_false'] at *; omega) | (simp_all; done) | (simp_all; omega))
    refine dw_cond (by simp only [go_sem]; exact rfl) (fun c2 => ?_) (fun c2 => ?_)
    · skip
      refine dw_step (C := Rn) (by simp only [go_sem]; exact rfl) (fun h => by cases h) ?_ ?_
      · try simp only [go_sem]
        all_goals (first | done | (repeat' (with_reducible apply And.intro)) <;> first | omega | (with_reducible assumption) | (intros; omega) | (intros; simp only [decide_eq_true_eq, decide_eq_false_iff_not, Bool.or_eq_true, Bool.and_eq_true, Bool.or_eq_false_iff, Bool.not_eq_true', Bool.not_eq_false'] at *; omega) | (simp_all; done) | (simp_all; omega))
      refine dw_ret ?_
      refine ⟨(by first | exact .inr rfl | trivial | simp), ?_, ?_⟩
      · simp only [go_sem]
      refine ⟨0, ?_, ?_⟩
      · try simp only [go_sem]
        all_goals (simp)
      · try simp only [go_sem]
        all_goals (rw [if_neg (by rw [c1]; simp), if_pos c2])
    · skip
      refine dw_skip ?_
      show DW _ _ _ _ _
      refine dw_step (C := Rn) (by simp only [go_sem]; exact rfl) (fun h => by cases h) ?_ ?_
      · try simp only [go_sem]
        all_goals (first | done | (repeat' (with_reducible apply And.intro)) <;> first | omega | (with_reducible assumption) | (intros; omega) | (intros; simp only [decide_eq_true_eq, decide_eq_false_iff_not, Bool.or_eq_true, Bool.and_eq_true, Bool.or_eq_false_iff, Bool.not_eq_true', Bool.not_eq_false'] at *; omega) | (simp_all; done) | (simp_all; omega))
      refine dw_ret ?_
      refine ⟨(by first | exact .inr rfl | trivial | simp), ?_, ?_⟩
      · simp only [go_sem]
      refine ⟨0, ?_, ?_⟩
      · try simp only [go_sem]
        all_goals (simp)
      · try simp only [go_sem]
        all_goals (rw [if_neg (by rw [c1]; simp), if_neg (by rw [c2]; simp)])

end Go.Proofs.YtfggmgafjabbjaaDoor
