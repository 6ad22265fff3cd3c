import Derived.Test.YtfggmgafjabbjaaDoorRcW1
namespace Go.Proofs.YtfggmgafjabbjaaDoor
open Go.DL Go.Str Go.Rec
set_option maxRecDepth 10000
set_option linter.unusedSimpArgs false
set_option linter.unusedVariables false
theorem bo69 : hasBody Tryd.prog 69 = true := by kernel_rfl
theorem cmpor_ct (l : List Int) : PureCt Tryd.prog 69 [.list false (l.map iR)] (.i (orFrom l 0)) := by
  refine pure_of_dw Tryd.func69 rfl bo69 (by simp [go_sem, D.nr, nrs, nrr]) (by simp [Tryd.f69]) ?_
  unfold Tryd.f69
  simp only [init_eq]
  refine dw_len 0 rfl fun hlen => ?_
  simp only [List.length_map, maxLen] at hlen
  refine dw_step (C := Rn) (by simp only [go_sem]; exact rfl) (fun h => by cases h) ?_ ?_
  · try simp only [go_sem]
    all_goals (first | done | (repeat' (with_reducible apply And.intro)) <;> first | omega | (with_reducible assumption) | (intros; omega) | (intros; simp only [decide_eq_true_eq, decide_eq_false_iff_not, Bool.or_eq_true, Bool.and_eq_true, Bool.or_eq_false_iff, Bool.not_eq_true', Bool.not_eq_false'] at *; omega) | (simp_all; done) | (simp_all; omega))
  refine dw_step (C := Rn) (by simp only [go_sem]; exact rfl) (fun h => by cases h) ?_ ?_
  · try simp only [go_sem]
    all_goals (first | done | (repeat' (with_reducible apply And.intro)) <;> first | omega | (with_reducible assumption) | (intros; omega) | (intros; simp only [decide_eq_true_eq, decide_eq_false_iff_not, Bool.or_eq_true, Bool.and_eq_true, Bool.or_eq_false_iff, Bool.not_eq_true', Bool.not_eq_false'] at *; omega) | (simp_all; done) | (simp_all; omega))
  refine dw_seq ?_
  refine dw_step (C := Rn) (by simp only [go_sem]; exact rfl) (fun h => by cases h) ?_ ?_
  · try simp only [go_sem]
    all_goals (first | done | (repeat' (with_reducible apply And.intro)) <;> first | omega | (with_reducible assumption) | (intros; omega) | (intros; simp only [decide_eq_true_eq, decide_eq_false_iff_not, Bool.or_eq_true, Bool.and_eq_true, Bool.or_eq_false_iff, Bool.not_eq_true', Bool.not_eq_false'] at *; omega) | (simp_all; done) | (simp_all; omega))
  refine dw_block ?_
  refine dw_loop_fix (α := (Nat) × Nat) [3, 6, 7] (fun ⟨k, nx⟩ => (k ≤ l.length) ∧ (orFrom l 0 = orFrom l k) ∧ True) (fun ⟨k, nx⟩ => l.length - k) (fun ⟨k, nx⟩ => [(8, .i k)]) (fun ⟨k, nx⟩ => []) (fun ⟨k, nx⟩ => nx) (0, _) (by simp only [List.map_cons, List.map_nil, go_sem]; exact rfl) ⟨(by first | (first | omega | (with_reducible assumption) | (simp_all; done) | (simp_all; omega)) | (dsimp only; first | omega | (with_reducible assumption) | (simp_all; done) | (simp_all; omega))), (by first | (rfl) | (dsimp only; rfl)), trivial⟩ (by first | (simp only [go_sem]; done) | (simp [go_sem]; done) | (simp only [go_sem]; (repeat' (with_reducible apply And.intro)) <;> first | (left; simp; done) | (right; simp [go_sem]; done))) (by first | (simp only [go_sem]; done) | simp [go_sem]) (Nat.le_refl _) ?_
  rintro ⟨k, nx⟩ ⟨hk, hv, -⟩
  show DW _ _ _ _ { n := _, t := tab _, h := _, nx := _, e := _ }
  simp only [List.cons_append, List.nil_append]
  refine dw_step (C := Rn) (by simp only [go_sem]; exact rfl) (fun h => by cases h) ?_ ?_
  · try simp only [go_sem]
    all_goals (first | done | (repeat' (with_reducible apply And.intro)) <;> first | omega | (with_reducible assumption) | (intros; omega) | (intros; simp only [decide_eq_true_eq, decide_eq_false_iff_not, Bool.or_eq_true, Bool.and_eq_true, Bool.or_eq_false_iff, Bool.not_eq_true', Bool.not_eq_false'] at *; omega) | (simp_all; done) | (simp_all; omega))
  refine dw_seq ?_
  refine dw_cond (by simp only [go_sem]; exact rfl) (fun c1 => ?_) (fun c1 => ?_)
  · skip
    have hk2 : k < l.length := by simpa using c1
    refine dw_skip ?_
    show DW _ _ _ _ _
    refine dw_seq ?_
    refine dw_block ?_
    refine dw_step (C := Rn) (by simp only [go_sem, getD_iR hk2]; exact rfl) (fun h => by cases h) ?_ ?_
    · try simp only [go_sem, getD_iR hk2]
      all_goals (first | done | (repeat' (with_reducible apply And.intro)) <;> first | omega | (with_reducible assumption) | (intros; omega) | (intros; simp only [decide_eq_true_eq, decide_eq_false_iff_not, Bool.or_eq_true, Bool.and_eq_true, Bool.or_eq_false_iff, Bool.not_eq_true', Bool.not_eq_false'] at *; omega) | (simp_all; done) | (simp_all; omega))
    refine dw_step (C := Rn) (by simp only [go_sem, getD_iR hk2]; exact rfl) (fun h => by cases h) ?_ ?_
    · try simp only [go_sem, getD_iR hk2]
      all_goals (first | done | (repeat' (with_reducible apply And.intro)) <;> first | omega | (with_reducible assumption) | (intros; omega) | (intros; simp only [decide_eq_true_eq, decide_eq_false_iff_not, Bool.or_eq_true, Bool.and_eq_true, Bool.or_eq_false_iff, Bool.not_eq_true', Bool.not_eq_false'] at *; omega) | (simp_all; done) | (simp_all; omega))
    refine dw_cond (by simp only [go_sem, getD_iR hk2]; exact rfl) (fun c2 => ?_) (fun c2 => ?_)
    · skip
      refine dw_step (C := Rn) (by simp only [go_sem, getD_iR hk2]; exact rfl) (fun h => by cases h) ?_ ?_
      · try simp only [go_sem, getD_iR hk2]
        all_goals (first | done | (repeat' (with_reducible apply And.intro)) <;> first | omega | (with_reducible assumption) | (intros; omega) | (intros; simp only [decide_eq_true_eq, decide_eq_false_iff_not, Bool.or_eq_true, Bool.and_eq_true, Bool.or_eq_false_iff, Bool.not_eq_true', Bool.not_eq_false'] at *; omega) | (simp_all; done) | (simp_all; omega))
      refine dw_ret ?_
      refine ⟨(by first | exact .inr rfl | trivial | simp), ?_, ?_⟩
      · simp only [go_sem, getD_iR hk2]
      refine ⟨0, ?_, ?_⟩
      · try simp only [go_sem, getD_iR hk2]
        all_goals (simp)
      · try simp only [go_sem, getD_iR hk2]
        all_goals (rw [hv, orFrom_eq, if_pos hk2, if_pos c2])
    · skip
      refine dw_skip ?_
      show DW _ _ _ _ _
      refine dw_reg (C := Rn) (by simp only [go_sem, getD_iR hk2]; exact rfl) (fun h => by cases h) ?_ ?_
      · try simp only [go_sem, getD_iR hk2]
        all_goals (first | done | (repeat' (with_reducible apply And.intro)) <;> first | omega | (with_reducible assumption) | (intros; omega) | (intros; simp only [decide_eq_true_eq, decide_eq_false_iff_not, Bool.or_eq_true, Bool.and_eq_true, Bool.or_eq_false_iff, Bool.not_eq_true', Bool.not_eq_false'] at *; omega) | (simp_all; done) | (simp_all; omega))
      show ∃ _, _
      refine ⟨(k + 1, _), ⟨(by first | (first | omega | (with_reducible assumption) | (simp_all; done) | (simp_all; omega)) | (dsimp only; first | omega | (with_reducible assumption) | (simp_all; done) | (simp_all; omega))), (by first | (rw [hv, orFrom_eq, if_pos hk2, if_neg (by rw [c2]; simp)]) | (dsimp only; rw [hv, orFrom_eq, if_pos hk2, if_neg (by rw [c2]; simp)])), trivial⟩, (by show (_ : Nat) < _; first | omega | simp_all; omega), ?_, ?_, ?_, Nat.le_refl _, rfl, rfl⟩
      · try simp only [go_sem, getD_iR hk2]
        all_goals (first | done | (simp; done) | (simp; omega) | ((repeat' (with_reducible apply And.intro)) <;> first | (left; simp; done) | (right; simp [go_sem]; done)))
      · try simp only [go_sem, getD_iR hk2]
        all_goals (first | done | (simp; done) | (simp; omega) | ((repeat' (with_reducible apply And.intro)) <;> first | (left; simp; done) | (right; simp [go_sem]; done)))
      · try simp only [go_sem, getD_iR hk2]
        all_goals (first | done | (simp; done) | (simp; omega) | ((repeat' (with_reducible apply And.intro)) <;> first | (left; simp; done) | (right; simp [go_sem]; done)))
  · skip
    try simp only [decide_eq_true_eq, decide_eq_false_iff_not, Bool.or_eq_true, Bool.and_eq_true, Bool.or_eq_false_iff, Bool.not_eq_true', Bool.not_eq_false', Bool.and_eq_false_iff, beq_iff_eq, beq_eq_false_iff_ne, bne_iff_ne, bne_eq_false_iff_eq, ne_eq] at c1
    refine dw_exit ?_
    show DW _ _ _ _ _
    refine dw_step (C := Rn) (by simp only [go_sem]; exact rfl) (fun h => by cases h) ?_ ?_
    · try simp only [go_sem]
      all_goals (first | done | (repeat' (with_reducible apply And.intro)) <;> first | omega | (with_reducible assumption) | (intros; omega) | (intros; simp only [decide_eq_true_eq, decide_eq_false_iff_not, Bool.or_eq_true, Bool.and_eq_true, Bool.or_eq_false_iff, Bool.not_eq_true', Bool.not_eq_false'] at *; omega) | (simp_all; done) | (simp_all; omega))
    refine dw_ret ?_
    refine ⟨(by first | exact .inr rfl | trivial | simp), ?_, ?_⟩
    · simp only [go_sem]
    refine ⟨0, ?_, ?_⟩
    · try simp only [go_sem]
      all_goals (simp)
    · try simp only [go_sem]
      all_goals (rw [hv, orFrom_eq, if_neg (by omega)])
theorem bo38 : hasBody Tryd.prog 38 = true := by kernel_rfl
theorem cmpdata_ct (a : Dat) (b : Dat) : PureCt Tryd.prog 38 [.agg a.d, .agg b.d] (.i (datC a b)) := by
  refine pure_of_dw Tryd.func38 rfl bo38 (by simp [go_sem, D.nr, nrs, nrr]) (by simp [Tryd.f38]) ?_
  unfold Tryd.f38
  simp only [init_eq]
  refine dw_step (C := Rn) (by simp only [go_sem]; exact rfl) (fun h => by cases h) ?_ ?_
  · try simp only [go_sem]
    all_goals (first | done | (repeat' (with_reducible apply And.intro)) <;> first | omega | (with_reducible assumption) | (intros; omega) | (intros; simp only [decide_eq_true_eq, decide_eq_false_iff_not, Bool.or_eq_true, Bool.and_eq_true, Bool.or_eq_false_iff, Bool.not_eq_true', Bool.not_eq_false'] at *; omega) | (simp_all; done) | (simp_all; omega))
  refine dw_step (C := Rn) (by simp only [go_sem]; exact rfl) (fun _ => ⟨mix, by kernel_rfl, by kernel_rfl⟩) ?_ ?_
  · try simp only [go_sem]
    all_goals (first | done | ((repeat' (with_reducible apply And.intro)) <;> first | exact cmpstr_ct _ _ | exact cmpint_ct _ _ | exact cmpor_ct [_, _, _] | omega))
  refine dw_ret ?_
  refine ⟨(by first | exact .inr rfl | trivial | simp), ?_, ?_⟩
  · simp only [go_sem]
  refine ⟨0, ?_, ?_⟩
  · try simp only [go_sem]
    all_goals (simp)
  · try simp only [go_sem]
    all_goals (rw [← orFrom_dat]; rfl)
theorem bo33 : hasBody Tryd.prog 33 = true := by kernel_rfl
theorem rsingle_ct (k : Int) : PureCt Tryd.prog 33 [.i k] (.b (singleB k)) := by
  refine pure_of_dw Tryd.func33 rfl bo33 (by simp [go_sem, D.nr, nrs, nrr]) (by simp [Tryd.f33]) ?_
  unfold Tryd.f33
  simp only [init_eq]
  refine dw_step (C := Rn) (by simp only [go_sem]; exact rfl) (fun h => by cases h) ?_ ?_
  · try simp only [go_sem]
    all_goals (first | done | (repeat' (with_reducible apply And.intro)) <;> first | omega | (with_reducible assumption) | (intros; omega) | (intros; simp only [decide_eq_true_eq, decide_eq_false_iff_not, Bool.or_eq_true, Bool.and_eq_true, Bool.or_eq_false_iff, Bool.not_eq_true', Bool.not_eq_false'] at *; omega) | (simp_all; done) | (simp_all; omega))
  refine dw_step (C := Rn) (by simp only [go_sem]; exact rfl) (fun h => by cases h) ?_ ?_
  · try simp only [go_sem]
    all_goals (first | done | (repeat' (with_reducible apply And.intro)) <;> first | omega | (with_reducible assumption) | (intros; omega) | (intros; simp only [decide_eq_true_eq, decide_eq_false_iff_not, Bool.or_eq_true, Bool.and_eq_true, Bool.or_eq_false_iff, Bool.not_eq_true', Bool.not_eq_false'] at *; omega) | (simp_all; done) | (simp_all; omega))
  refine dw_ret ?_
  refine ⟨(by first | exact .inr rfl | trivial | simp), ?_, ?_⟩
  · simp only [go_sem]
  refine ⟨0, ?_, ?_⟩
  · try simp only [go_sem]
    all_goals (simp)
  · try simp only [go_sem]
    all_goals (first | rfl | (unfold singleB; simp))
theorem bo37 : hasBody Tryd.prog 37 = true := by kernel_rfl
theorem vdatum_ct (r : Rule) (d : Dat) (hr : r.even = true → 0 ≤ r.n0) : PureCt Tryd.prog 37 [.agg r.d, .agg d.d] (.b (datOk r d)) := by
  refine pure_of_dw Tryd.func37 rfl bo37 (by simp [go_sem, D.nr, nrs, nrr]) (by simp [Tryd.f37]) ?_
  unfold Tryd.f37
  simp only [init_eq]
  refine dw_step (C := Rn) (by simp only [go_sem]; exact rfl) (fun h => by cases h) ?_ ?_
  · try simp only [go_sem]
    all_goals (first | done | (repeat' (with_reducible apply And.intro)) <;> first | omega | (with_reducible assumption) | (intros; omega) | (intros; simp only [decide_eq_true_eq, decide_eq_false_iff_not, Bool.or_eq_true, Bool.and_eq_true, Bool.or_eq_false_iff, Bool.not_eq_true', Bool.not_eq_false'] at *; omega) | (simp_all; done) | (simp_all; omega))
  refine dw_seq ?_
  refine dw_step (C := Rn) (by simp only [go_sem]; exact rfl) (fun h => by cases h) ?_ ?_
  · try simp only [go_sem]
    all_goals (first | done | ((repeat' (with_reducible apply And.intro)) <;> first | exact within_ct _ _ _ | (intros; exact within_ct _ _ _) | (intro h; simp only [Bool.and_eq_true, Bool.not_eq_true', Bool.or_eq_false_iff, Bool.not_eq_false', inR_iff] at h; have := hr h.2; omega) | (intros; simp_all; done)))
  refine dw_cond (by simp only [go_sem]; exact rfl) (fun c1 => ?_) (fun c1 => ?_)
  · skip
    try simp only [decide_eq_true_eq, decide_eq_false_iff_not, Bool.or_eq_true, Bool.and_eq_true, Bool.or_eq_false_iff, Bool.not_eq_true', Bool.not_eq_false', Bool.and_eq_false_iff, beq_iff_eq, beq_eq_false_iff_ne, bne_iff_ne, bne_eq_false_iff_eq, ne_eq] at c1
    refine dw_step (C := Rn) (by simp only [go_sem]; exact rfl) (fun h => by cases h) ?_ ?_
    · try simp only [go_sem]
      all_goals (first | done | (repeat' (with_reducible apply And.intro)) <;> first | omega | (with_reducible assumption) | (intros; omega) | (intros; simp only [decide_eq_true_eq, decide_eq_false_iff_not, Bool.or_eq_true, Bool.and_eq_true, Bool.or_eq_false_iff, Bool.not_eq_true', Bool.not_eq_false'] at *; omega) | (simp_all; done) | (simp_all; omega))
    refine dw_ret ?_
    refine ⟨(by first | exact .inr rfl | trivial | simp), ?_, ?_⟩
    · simp only [go_sem]
    refine ⟨0, ?_, ?_⟩
    · try simp only [go_sem]
      all_goals (simp)
    · try simp only [go_sem]
      all_goals (rcases c1 with (h | h) | ⟨h1, h2⟩ <;> simp [datOk, *])
  · skip
    try simp only [decide_eq_true_eq, decide_eq_false_iff_not, Bool.or_eq_true, Bool.and_eq_true, Bool.or_eq_false_iff, Bool.not_eq_true', Bool.not_eq_false', Bool.and_eq_false_iff, beq_iff_eq, beq_eq_false_iff_ne, bne_iff_ne, bne_eq_false_iff_eq, ne_eq] at c1
    refine dw_skip ?_
    show DW _ _ _ _ _
    refine dw_seq ?_
    refine dw_step (C := Rn) (by simp only [go_sem]; exact rfl) (fun h => by cases h) ?_ ?_
    · try simp only [go_sem]
      all_goals (first | done | (repeat' (with_reducible apply And.intro)) <;> first | omega | (with_reducible assumption) | (intros; omega) | (intros; simp only [decide_eq_true_eq, decide_eq_false_iff_not, Bool.or_eq_true, Bool.and_eq_true, Bool.or_eq_false_iff, Bool.not_eq_true', Bool.not_eq_false'] at *; omega) | (simp_all; done) | (simp_all; omega))
    refine dw_block ?_
    refine dw_step (C := Rn) (by simp only [go_sem]; exact rfl) (fun h => by cases h) ?_ ?_
    · try simp only [go_sem]
      all_goals (first | done | (repeat' (with_reducible apply And.intro)) <;> first | omega | (with_reducible assumption) | (intros; omega) | (intros; simp only [decide_eq_true_eq, decide_eq_false_iff_not, Bool.or_eq_true, Bool.and_eq_true, Bool.or_eq_false_iff, Bool.not_eq_true', Bool.not_eq_false'] at *; omega) | (simp_all; done) | (simp_all; omega))
    refine dw_cond (by simp only [go_sem]; exact rfl) (fun c2 => ?_) (fun c2 => ?_)
    · skip
      try simp only [decide_eq_true_eq, decide_eq_false_iff_not, Bool.or_eq_true, Bool.and_eq_true, Bool.or_eq_false_iff, Bool.not_eq_true', Bool.not_eq_false', Bool.and_eq_false_iff, beq_iff_eq, beq_eq_false_iff_ne, bne_iff_ne, bne_eq_false_iff_eq, ne_eq] at c2
      refine dw_step (C := Rn) (by simp only [go_sem]; exact rfl) (fun h => by cases h) ?_ ?_
      · try simp only [go_sem]
        all_goals (first | done | ((repeat' (with_reducible apply And.intro)) <;> first | exact nvalid_ct _ | (intros; exact nvalid_ct _) | exact iswild_ct _ | (intros; exact iswild_ct _)))
      refine dw_ret ?_
      refine ⟨(by first | exact .inr rfl | trivial | simp), ?_, ?_⟩
      · simp only [go_sem]
      refine ⟨0, ?_, ?_⟩
      · try simp only [go_sem]
        all_goals (simp)
      · try simp only [go_sem]
        all_goals (obtain ⟨⟨h1, h2⟩, h3⟩ := c1; rcases h3 with h3 | h3 <;> simp [datOk, textOk, *])
    · skip
      try simp only [decide_eq_true_eq, decide_eq_false_iff_not, Bool.or_eq_true, Bool.and_eq_true, Bool.or_eq_false_iff, Bool.not_eq_true', Bool.not_eq_false', Bool.and_eq_false_iff, beq_iff_eq, beq_eq_false_iff_ne, bne_iff_ne, bne_eq_false_iff_eq, ne_eq] at c2
      refine dw_step (C := Rn) (by simp only [go_sem]; exact rfl) (fun h => by cases h) ?_ ?_
      · try simp only [go_sem]
        all_goals (first | done | (repeat' (with_reducible apply And.intro)) <;> first | omega | (with_reducible assumption) | (intros; omega) | (intros; simp only [decide_eq_true_eq, decide_eq_false_iff_not, Bool.or_eq_true, Bool.and_eq_true, Bool.or_eq_false_iff, Bool.not_eq_true', Bool.not_eq_false'] at *; omega) | (simp_all; done) | (simp_all; omega))
      refine dw_cond (by simp only [go_sem]; exact rfl) (fun c3 => ?_) (fun c3 => ?_)
      · skip
        try simp only [decide_eq_true_eq, decide_eq_false_iff_not, Bool.or_eq_true, Bool.and_eq_true, Bool.or_eq_false_iff, Bool.not_eq_true', Bool.not_eq_false', Bool.and_eq_false_iff, beq_iff_eq, beq_eq_false_iff_ne, bne_iff_ne, bne_eq_false_iff_eq, ne_eq] at c3
        refine dw_step (C := Rn) (by simp only [go_sem]; exact rfl) (fun h => by cases h) ?_ ?_
        · try simp only [go_sem]
          all_goals (exact nvalid_ct _)
        refine dw_ret ?_
        refine ⟨(by first | exact .inr rfl | trivial | simp), ?_, ?_⟩
        · simp only [go_sem]
        refine ⟨0, ?_, ?_⟩
        · try simp only [go_sem]
          all_goals (simp)
        · try simp only [go_sem]
          all_goals (obtain ⟨⟨h1, h2⟩, h3⟩ := c1; rcases h3 with h3 | h3 <;> simp [datOk, textOk, *])
      · skip
        try simp only [decide_eq_true_eq, decide_eq_false_iff_not, Bool.or_eq_true, Bool.and_eq_true, Bool.or_eq_false_iff, Bool.not_eq_true', Bool.not_eq_false', Bool.and_eq_false_iff, beq_iff_eq, beq_eq_false_iff_ne, bne_iff_ne, bne_eq_false_iff_eq, ne_eq] at c3
        refine dw_step (C := Rn) (by simp only [go_sem]; exact rfl) (fun h => by cases h) ?_ ?_
        · try simp only [go_sem]
          all_goals (first | done | (repeat' (with_reducible apply And.intro)) <;> first | omega | (with_reducible assumption) | (intros; omega) | (intros; simp only [decide_eq_true_eq, decide_eq_false_iff_not, Bool.or_eq_true, Bool.and_eq_true, Bool.or_eq_false_iff, Bool.not_eq_true', Bool.not_eq_false'] at *; omega) | (simp_all; done) | (simp_all; omega))
        refine dw_cond (by simp only [go_sem]; exact rfl) (fun c4 => ?_) (fun c4 => ?_)
        · skip
          try simp only [decide_eq_true_eq, decide_eq_false_iff_not, Bool.or_eq_true, Bool.and_eq_true, Bool.or_eq_false_iff, Bool.not_eq_true', Bool.not_eq_false', Bool.and_eq_false_iff, beq_iff_eq, beq_eq_false_iff_ne, bne_iff_ne, bne_eq_false_iff_eq, ne_eq] at c4
          refine dw_step (C := Rn) (by simp only [go_sem]; exact rfl) (fun h => by cases h) ?_ ?_
          · try simp only [go_sem]
            all_goals (exact isfree_ct _)
          refine dw_ret ?_
          refine ⟨(by first | exact .inr rfl | trivial | simp), ?_, ?_⟩
          · simp only [go_sem]
          refine ⟨0, ?_, ?_⟩
          · try simp only [go_sem]
            all_goals (simp)
          · try simp only [go_sem]
            all_goals (obtain ⟨⟨h1, h2⟩, h3⟩ := c1; rcases h3 with h3 | h3 <;> simp [datOk, textOk, *])
        · skip
          try simp only [decide_eq_true_eq, decide_eq_false_iff_not, Bool.or_eq_true, Bool.and_eq_true, Bool.or_eq_false_iff, Bool.not_eq_true', Bool.not_eq_false', Bool.and_eq_false_iff, beq_iff_eq, beq_eq_false_iff_ne, bne_iff_ne, bne_eq_false_iff_eq, ne_eq] at c4
          refine dw_skip ?_
          show DW _ _ _ _ _
          refine dw_step (C := Rn) (by simp only [go_sem]; exact rfl) (fun h => by cases h) ?_ ?_
          · try simp only [go_sem]
            all_goals (first | done | (repeat' (with_reducible apply And.intro)) <;> first | omega | (with_reducible assumption) | (intros; omega) | (intros; simp only [decide_eq_true_eq, decide_eq_false_iff_not, Bool.or_eq_true, Bool.and_eq_true, Bool.or_eq_false_iff, Bool.not_eq_true', Bool.not_eq_false'] at *; omega) | (simp_all; done) | (simp_all; omega))
          refine dw_ret ?_
          refine ⟨(by first | exact .inr rfl | trivial | simp), ?_, ?_⟩
          · simp only [go_sem]
          refine ⟨0, ?_, ?_⟩
          · try simp only [go_sem]
            all_goals (simp)
          · try simp only [go_sem]
            all_goals (obtain ⟨⟨h1, h2⟩, h3⟩ := c1; rcases h3 with h3 | h3 <;> simp [datOk, textOk, *] <;> cases d.t <;> rfl)
theorem bo42 : hasBody Tryd.prog 42 = true := by kernel_rfl
theorem rdatum_ct (k : Int) (d : Dat) : PureCt Tryd.prog 42 [.i k, .agg d.d] (.b (rDatOk k d)) := by
  refine pure_of_dw Tryd.func42 rfl bo42 (by simp [go_sem, D.nr, nrs, nrr]) (by simp [Tryd.f42]) ?_
  unfold Tryd.f42
  simp only [init_eq]
  refine dw_step (C := Rn) (by simp only [go_sem]; exact rfl) (fun h => by cases h) ?_ ?_
  · try simp only [go_sem]
    all_goals (first | done | (repeat' (with_reducible apply And.intro)) <;> first | omega | (with_reducible assumption) | (intros; omega) | (intros; simp only [decide_eq_true_eq, decide_eq_false_iff_not, Bool.or_eq_true, Bool.and_eq_true, Bool.or_eq_false_iff, Bool.not_eq_true', Bool.not_eq_false'] at *; omega) | (simp_all; done) | (simp_all; omega))
  refine dw_seq ?_
  refine dw_step (C := Rn) (by simp only [go_sem]; exact rfl) (fun h => by cases h) ?_ ?_
  · try simp only [go_sem]
    all_goals (first | done | (repeat' (with_reducible apply And.intro)) <;> first | omega | (with_reducible assumption) | (intros; omega) | (intros; simp only [decide_eq_true_eq, decide_eq_false_iff_not, Bool.or_eq_true, Bool.and_eq_true, Bool.or_eq_false_iff, Bool.not_eq_true', Bool.not_eq_false'] at *; omega) | (simp_all; done) | (simp_all; omega))
  refine dw_block ?_
  refine dw_step (C := Rn) (by simp only [go_sem]; exact rfl) (fun h => by cases h) ?_ ?_
  · try simp only [go_sem]
    all_goals (first | done | (repeat' (with_reducible apply And.intro)) <;> first | omega | (with_reducible assumption) | (intros; omega) | (intros; simp only [decide_eq_true_eq, decide_eq_false_iff_not, Bool.or_eq_true, Bool.and_eq_true, Bool.or_eq_false_iff, Bool.not_eq_true', Bool.not_eq_false'] at *; omega) | (simp_all; done) | (simp_all; omega))
  refine dw_cond (by simp only [go_sem]; exact rfl) (fun c1 => ?_) (fun c1 => ?_)
  · skip
    try simp only [decide_eq_true_eq, decide_eq_false_iff_not, Bool.or_eq_true, Bool.and_eq_true, Bool.or_eq_false_iff, Bool.not_eq_true', Bool.not_eq_false', Bool.and_eq_false_iff, beq_iff_eq, beq_eq_false_iff_ne, bne_iff_ne, bne_eq_false_iff_eq, ne_eq] at c1
    refine dw_step (C := Rn) (by simp only [go_sem]; exact rfl) (fun h => by cases h) ?_ ?_
    · try simp only [go_sem]
      all_goals (first | done | ((repeat' (with_reducible apply And.intro)) <;> first | exact rwithin_ct _ _ _ | (intros; exact rwithin_ct _ _ _) | exact rnvalid_ct _ | (intros; exact rnvalid_ct _) | exact rwild_ct _ | (intros; exact rwild_ct _) | (intro h; simp only [Bool.and_eq_true, inR_iff] at h; omega) | omega))
    refine dw_ret ?_
    refine ⟨(by first | exact .inr rfl | trivial | simp), ?_, ?_⟩
    · simp only [go_sem]
    refine ⟨0, ?_, ?_⟩
    · try simp only [go_sem]
      all_goals (simp)
    · try simp only [go_sem]
      all_goals (simp [rDatOk, *])
  · skip
    try simp only [decide_eq_true_eq, decide_eq_false_iff_not, Bool.or_eq_true, Bool.and_eq_true, Bool.or_eq_false_iff, Bool.not_eq_true', Bool.not_eq_false', Bool.and_eq_false_iff, beq_iff_eq, beq_eq_false_iff_ne, bne_iff_ne, bne_eq_false_iff_eq, ne_eq] at c1
    refine dw_seq ?_
    refine dw_step (C := Rn) (by simp only [go_sem]; exact rfl) (fun h => by cases h) ?_ ?_
    · try simp only [go_sem]
      all_goals (first | done | (repeat' (with_reducible apply And.intro)) <;> first | omega | (with_reducible assumption) | (intros; omega) | (intros; simp only [decide_eq_true_eq, decide_eq_false_iff_not, Bool.or_eq_true, Bool.and_eq_true, Bool.or_eq_false_iff, Bool.not_eq_true', Bool.not_eq_false'] at *; omega) | (simp_all; done) | (simp_all; omega))
    refine dw_cond (by simp only [go_sem]; exact rfl) (fun c2 => ?_) (fun c2 => ?_)
    · skip
      try simp only [decide_eq_true_eq, decide_eq_false_iff_not, Bool.or_eq_true, Bool.and_eq_true, Bool.or_eq_false_iff, Bool.not_eq_true', Bool.not_eq_false', Bool.and_eq_false_iff, beq_iff_eq, beq_eq_false_iff_ne, bne_iff_ne, bne_eq_false_iff_eq, ne_eq] at c2
      refine dw_skip ?_
      show DW _ _ _ _ _
      refine dw_cond (by simp only [go_sem]; exact rfl) (fun c3 => ?_) (fun c3 => ?_)
      · skip
        try simp only [decide_eq_true_eq, decide_eq_false_iff_not, Bool.or_eq_true, Bool.and_eq_true, Bool.or_eq_false_iff, Bool.not_eq_true', Bool.not_eq_false', Bool.and_eq_false_iff, beq_iff_eq, beq_eq_false_iff_ne, bne_iff_ne, bne_eq_false_iff_eq, ne_eq] at c3
        refine dw_step (C := Rn) (by simp only [go_sem]; exact rfl) (fun h => by cases h) ?_ ?_
        · try simp only [go_sem]
          all_goals (first | done | ((repeat' (with_reducible apply And.intro)) <;> first | exact rwithin_ct _ _ _ | (intros; exact rwithin_ct _ _ _) | exact rnvalid_ct _ | (intros; exact rnvalid_ct _) | exact rwild_ct _ | (intros; exact rwild_ct _) | (intro h; simp only [Bool.and_eq_true, inR_iff] at h; omega) | omega))
        refine dw_ret ?_
        refine ⟨(by first | exact .inr rfl | trivial | simp), ?_, ?_⟩
        · simp only [go_sem]
        refine ⟨0, ?_, ?_⟩
        · try simp only [go_sem]
          all_goals (simp)
        · try simp only [go_sem]
          all_goals (simp [rDatOk, *])
      · skip
        try simp only [decide_eq_true_eq, decide_eq_false_iff_not, Bool.or_eq_true, Bool.and_eq_true, Bool.or_eq_false_iff, Bool.not_eq_true', Bool.not_eq_false', Bool.and_eq_false_iff, beq_iff_eq, beq_eq_false_iff_ne, bne_iff_ne, bne_eq_false_iff_eq, ne_eq] at c3
        exact absurd c2 c3
    · skip
      try simp only [decide_eq_true_eq, decide_eq_false_iff_not, Bool.or_eq_true, Bool.and_eq_true, Bool.or_eq_false_iff, Bool.not_eq_true', Bool.not_eq_false', Bool.and_eq_false_iff, beq_iff_eq, beq_eq_false_iff_ne, bne_iff_ne, bne_eq_false_iff_eq, ne_eq] at c2
      refine dw_reg (C := Rn) (by simp only [go_sem]; exact rfl) (fun h => by cases h) ?_ ?_
      · try simp only [go_sem]
        all_goals (first | done | (repeat' (with_reducible apply And.intro)) <;> first | omega | (with_reducible assumption) | (intros; omega) | (intros; simp only [decide_eq_true_eq, decide_eq_false_iff_not, Bool.or_eq_true, Bool.and_eq_true, Bool.or_eq_false_iff, Bool.not_eq_true', Bool.not_eq_false'] at *; omega) | (simp_all; done) | (simp_all; omega))
      show DW _ _ _ _ _
      refine dw_cond (by simp only [go_sem]; exact rfl) (fun c4 => ?_) (fun c4 => ?_)
      · skip
        try simp only [decide_eq_true_eq, decide_eq_false_iff_not, Bool.or_eq_true, Bool.and_eq_true, Bool.or_eq_false_iff, Bool.not_eq_true', Bool.not_eq_false', Bool.and_eq_false_iff, beq_iff_eq, beq_eq_false_iff_ne, bne_iff_ne, bne_eq_false_iff_eq, ne_eq] at c4
        refine dw_step (C := Rn) (by simp only [go_sem]; exact rfl) (fun h => by cases h) ?_ ?_
        · try simp only [go_sem]
          all_goals (first | done | ((repeat' (with_reducible apply And.intro)) <;> first | exact rwithin_ct _ _ _ | (intros; exact rwithin_ct _ _ _) | exact rnvalid_ct _ | (intros; exact rnvalid_ct _) | exact rwild_ct _ | (intros; exact rwild_ct _) | (intro h; simp only [Bool.and_eq_true, inR_iff] at h; omega) | omega))
        refine dw_ret ?_
        refine ⟨(by first | exact .inr rfl | trivial | simp), ?_, ?_⟩
        · simp only [go_sem]
        refine ⟨0, ?_, ?_⟩
        · try simp only [go_sem]
          all_goals (simp)
        · try simp only [go_sem]
          all_goals (simp [rDatOk, *])
      · skip
        try simp only [decide_eq_true_eq, decide_eq_false_iff_not, Bool.or_eq_true, Bool.and_eq_true, Bool.or_eq_false_iff, Bool.not_eq_true', Bool.not_eq_false', Bool.and_eq_false_iff, beq_iff_eq, beq_eq_false_iff_ne, bne_iff_ne, bne_eq_false_iff_eq, ne_eq] at c4
        refine dw_step (C := Rn) (by simp only [go_sem]; exact rfl) (fun h => by cases h) ?_ ?_
        · try simp only [go_sem]
          all_goals (first | done | (repeat' (with_reducible apply And.intro)) <;> first | omega | (with_reducible assumption) | (intros; omega) | (intros; simp only [decide_eq_true_eq, decide_eq_false_iff_not, Bool.or_eq_true, Bool.and_eq_true, Bool.or_eq_false_iff, Bool.not_eq_true', Bool.not_eq_false'] at *; omega) | (simp_all; done) | (simp_all; omega))
        refine dw_cond (by simp only [go_sem]; exact rfl) (fun c5 => ?_) (fun c5 => ?_)
        · skip
          try simp only [decide_eq_true_eq, decide_eq_false_iff_not, Bool.or_eq_true, Bool.and_eq_true, Bool.or_eq_false_iff, Bool.not_eq_true', Bool.not_eq_false', Bool.and_eq_false_iff, beq_iff_eq, beq_eq_false_iff_ne, bne_iff_ne, bne_eq_false_iff_eq, ne_eq] at c5
          refine dw_step (C := Rn) (by simp only [go_sem]; exact rfl) (fun h => by cases h) ?_ ?_
          · try simp only [go_sem]
            all_goals (first | done | ((repeat' (with_reducible apply And.intro)) <;> first | exact rwithin_ct _ _ _ | (intros; exact rwithin_ct _ _ _) | exact rnvalid_ct _ | (intros; exact rnvalid_ct _) | exact rwild_ct _ | (intros; exact rwild_ct _) | (intro h; simp only [Bool.and_eq_true, inR_iff] at h; omega) | omega))
          refine dw_ret ?_
          refine ⟨(by first | exact .inr rfl | trivial | simp), ?_, ?_⟩
          · simp only [go_sem]
          refine ⟨0, ?_, ?_⟩
          · try simp only [go_sem]
            all_goals (simp)
          · try simp only [go_sem]
            all_goals (simp [rDatOk, *])
        · skip
          try simp only [decide_eq_true_eq, decide_eq_false_iff_not, Bool.or_eq_true, Bool.and_eq_true, Bool.or_eq_false_iff, Bool.not_eq_true', Bool.not_eq_false', Bool.and_eq_false_iff, beq_iff_eq, beq_eq_false_iff_ne, bne_iff_ne, bne_eq_false_iff_eq, ne_eq] at c5
          refine dw_step (C := Rn) (by simp only [go_sem]; exact rfl) (fun h => by cases h) ?_ ?_
          · try simp only [go_sem]
            all_goals (first | done | (repeat' (with_reducible apply And.intro)) <;> first | omega | (with_reducible assumption) | (intros; omega) | (intros; simp only [decide_eq_true_eq, decide_eq_false_iff_not, Bool.or_eq_true, Bool.and_eq_true, Bool.or_eq_false_iff, Bool.not_eq_true', Bool.not_eq_false'] at *; omega) | (simp_all; done) | (simp_all; omega))
          refine dw_cond (by simp only [go_sem]; exact rfl) (fun c6 => ?_) (fun c6 => ?_)
          · skip
            try simp only [decide_eq_true_eq, decide_eq_false_iff_not, Bool.or_eq_true, Bool.and_eq_true, Bool.or_eq_false_iff, Bool.not_eq_true', Bool.not_eq_false', Bool.and_eq_false_iff, beq_iff_eq, beq_eq_false_iff_ne, bne_iff_ne, bne_eq_false_iff_eq, ne_eq] at c6
            refine dw_step (C := Rn) (by simp only [go_sem]; exact rfl) (fun h => by cases h) ?_ ?_
            · try simp only [go_sem]
              all_goals (first | done | exact rtext_ct _)
            refine dw_ret ?_
            refine ⟨(by first | exact .inr rfl | trivial | simp), ?_, ?_⟩
            · simp only [go_sem]
            refine ⟨0, ?_, ?_⟩
            · try simp only [go_sem]
              all_goals (simp)
            · try simp only [go_sem]
              all_goals (simp [rDatOk, *])
          · skip
            try simp only [decide_eq_true_eq, decide_eq_false_iff_not, Bool.or_eq_true, Bool.and_eq_true, Bool.or_eq_false_iff, Bool.not_eq_true', Bool.not_eq_false', Bool.and_eq_false_iff, beq_iff_eq, beq_eq_false_iff_ne, bne_iff_ne, bne_eq_false_iff_eq, ne_eq] at c6
            refine dw_seq ?_
            refine dw_step (C := Rn) (by simp only [go_sem]; exact rfl) (fun h => by cases h) ?_ ?_
            · try simp only [go_sem]
              all_goals (first | done | (repeat' (with_reducible apply And.intro)) <;> first | omega | (with_reducible assumption) | (intros; omega) | (intros; simp only [decide_eq_true_eq, decide_eq_false_iff_not, Bool.or_eq_true, Bool.and_eq_true, Bool.or_eq_false_iff, Bool.not_eq_true', Bool.not_eq_false'] at *; omega) | (simp_all; done) | (simp_all; omega))
            refine dw_cond (by simp only [go_sem]; exact rfl) (fun c7 => ?_) (fun c7 => ?_)
            · skip
              try simp only [decide_eq_true_eq, decide_eq_false_iff_not, Bool.or_eq_true, Bool.and_eq_true, Bool.or_eq_false_iff, Bool.not_eq_true', Bool.not_eq_false', Bool.and_eq_false_iff, beq_iff_eq, beq_eq_false_iff_ne, bne_iff_ne, bne_eq_false_iff_eq, ne_eq] at c7
              refine dw_skip ?_
              show DW _ _ _ _ _
              refine dw_cond (by simp only [go_sem]; exact rfl) (fun c8 => ?_) (fun c8 => ?_)
              · skip
                try simp only [decide_eq_true_eq, decide_eq_false_iff_not, Bool.or_eq_true, Bool.and_eq_true, Bool.or_eq_false_iff, Bool.not_eq_true', Bool.not_eq_false', Bool.and_eq_false_iff, beq_iff_eq, beq_eq_false_iff_ne, bne_iff_ne, bne_eq_false_iff_eq, ne_eq] at c8
                refine dw_step (C := Rn) (by simp only [go_sem]; exact rfl) (fun h => by cases h) ?_ ?_
                · try simp only [go_sem]
                  all_goals (first | done | ((repeat' (with_reducible apply And.intro)) <;> first | exact rwithin_ct _ _ _ | (intros; exact rwithin_ct _ _ _) | exact rnvalid_ct _ | (intros; exact rnvalid_ct _) | exact rwild_ct _ | (intros; exact rwild_ct _) | (intro h; simp only [Bool.and_eq_true, inR_iff] at h; omega) | omega))
                refine dw_ret ?_
                refine ⟨(by first | exact .inr rfl | trivial | simp), ?_, ?_⟩
                · simp only [go_sem]
                refine ⟨0, ?_, ?_⟩
                · try simp only [go_sem]
                  all_goals (simp)
                · try simp only [go_sem]
                  all_goals (simp [rDatOk, *])
              · skip
                try simp only [decide_eq_true_eq, decide_eq_false_iff_not, Bool.or_eq_true, Bool.and_eq_true, Bool.or_eq_false_iff, Bool.not_eq_true', Bool.not_eq_false', Bool.and_eq_false_iff, beq_iff_eq, beq_eq_false_iff_ne, bne_iff_ne, bne_eq_false_iff_eq, ne_eq] at c8
                exact absurd c7 c8
            · skip
              try simp only [decide_eq_true_eq, decide_eq_false_iff_not, Bool.or_eq_true, Bool.and_eq_true, Bool.or_eq_false_iff, Bool.not_eq_true', Bool.not_eq_false', Bool.and_eq_false_iff, beq_iff_eq, beq_eq_false_iff_ne, bne_iff_ne, bne_eq_false_iff_eq, ne_eq] at c7
              refine dw_reg (C := Rn) (by simp only [go_sem]; exact rfl) (fun h => by cases h) ?_ ?_
              · try simp only [go_sem]
                all_goals (first | done | (repeat' (with_reducible apply And.intro)) <;> first | omega | (with_reducible assumption) | (intros; omega) | (intros; simp only [decide_eq_true_eq, decide_eq_false_iff_not, Bool.or_eq_true, Bool.and_eq_true, Bool.or_eq_false_iff, Bool.not_eq_true', Bool.not_eq_false'] at *; omega) | (simp_all; done) | (simp_all; omega))
              show DW _ _ _ _ _
              refine dw_cond (by simp only [go_sem]; exact rfl) (fun c9 => ?_) (fun c9 => ?_)
              · skip
                try simp only [decide_eq_true_eq, decide_eq_false_iff_not, Bool.or_eq_true, Bool.and_eq_true, Bool.or_eq_false_iff, Bool.not_eq_true', Bool.not_eq_false', Bool.and_eq_false_iff, beq_iff_eq, beq_eq_false_iff_ne, bne_iff_ne, bne_eq_false_iff_eq, ne_eq] at c9
                refine dw_step (C := Rn) (by simp only [go_sem]; exact rfl) (fun h => by cases h) ?_ ?_
                · try simp only [go_sem]
                  all_goals (first | done | ((repeat' (with_reducible apply And.intro)) <;> first | exact rwithin_ct _ _ _ | (intros; exact rwithin_ct _ _ _) | exact rnvalid_ct _ | (intros; exact rnvalid_ct _) | exact rwild_ct _ | (intros; exact rwild_ct _) | (intro h; simp only [Bool.and_eq_true, inR_iff] at h; omega) | omega))
                refine dw_ret ?_
                refine ⟨(by first | exact .inr rfl | trivial | simp), ?_, ?_⟩
                · simp only [go_sem]
                refine ⟨0, ?_, ?_⟩
                · try simp only [go_sem]
                  all_goals (simp)
                · try simp only [go_sem]
                  all_goals (simp [rDatOk, *])
              · skip
                try simp only [decide_eq_true_eq, decide_eq_false_iff_not, Bool.or_eq_true, Bool.and_eq_true, Bool.or_eq_false_iff, Bool.not_eq_true', Bool.not_eq_false', Bool.and_eq_false_iff, beq_iff_eq, beq_eq_false_iff_ne, bne_iff_ne, bne_eq_false_iff_eq, ne_eq] at c9
                refine dw_step (C := Rn) (by simp only [go_sem]; exact rfl) (fun h => by cases h) ?_ ?_
                · try simp only [go_sem]
                  all_goals (first | done | (repeat' (with_reducible apply And.intro)) <;> first | omega | (with_reducible assumption) | (intros; omega) | (intros; simp only [decide_eq_true_eq, decide_eq_false_iff_not, Bool.or_eq_true, Bool.and_eq_true, Bool.or_eq_false_iff, Bool.not_eq_true', Bool.not_eq_false'] at *; omega) | (simp_all; done) | (simp_all; omega))
                refine dw_cond (by simp only [go_sem]; exact rfl) (fun c10 => ?_) (fun c10 => ?_)
                · skip
                  try simp only [decide_eq_true_eq, decide_eq_false_iff_not, Bool.or_eq_true, Bool.and_eq_true, Bool.or_eq_false_iff, Bool.not_eq_true', Bool.not_eq_false', Bool.and_eq_false_iff, beq_iff_eq, beq_eq_false_iff_ne, bne_iff_ne, bne_eq_false_iff_eq, ne_eq] at c10
                  refine dw_step (C := Rn) (by simp only [go_sem]; exact rfl) (fun h => by cases h) ?_ ?_
                  · try simp only [go_sem]
                    all_goals (first | done | ((repeat' (with_reducible apply And.intro)) <;> first | exact rwithin_ct _ _ _ | (intros; exact rwithin_ct _ _ _) | exact rnvalid_ct _ | (intros; exact rnvalid_ct _) | exact rwild_ct _ | (intros; exact rwild_ct _) | (intro h; simp only [Bool.and_eq_true, inR_iff] at h; omega) | omega))
                  refine dw_ret ?_
                  refine ⟨(by first | exact .inr rfl | trivial | simp), ?_, ?_⟩
                  · simp only [go_sem]
                  refine ⟨0, ?_, ?_⟩
                  · try simp only [go_sem]
                    all_goals (simp)
                  · try simp only [go_sem]
                    all_goals (simp [rDatOk, *])
                · skip
                  try simp only [decide_eq_true_eq, decide_eq_false_iff_not, Bool.or_eq_true, Bool.and_eq_true, Bool.or_eq_false_iff, Bool.not_eq_true', Bool.not_eq_false', Bool.and_eq_false_iff, beq_iff_eq, beq_eq_false_iff_ne, bne_iff_ne, bne_eq_false_iff_eq, ne_eq] at c10
                  refine dw_skip ?_
                  show DW _ _ _ _ _
                  refine dw_step (C := Rn) (by simp only [go_sem]; exact rfl) (fun h => by cases h) ?_ ?_
                  · try simp only [go_sem]
                    all_goals (first | done | (repeat' (with_reducible apply And.intro)) <;> first | omega | (with_reducible assumption) | (intros; omega) | (intros; simp only [decide_eq_true_eq, decide_eq_false_iff_not, Bool.or_eq_true, Bool.and_eq_true, Bool.or_eq_false_iff, Bool.not_eq_true', Bool.not_eq_false'] at *; omega) | (simp_all; done) | (simp_all; omega))
                  refine dw_ret ?_
                  refine ⟨(by first | exact .inr rfl | trivial | simp), ?_, ?_⟩
                  · simp only [go_sem]
                  refine ⟨0, ?_, ?_⟩
                  · try simp only [go_sem]
                    all_goals (simp)
                  · try simp only [go_sem]
                    all_goals (simp [rDatOk, *])

end Go.Proofs.YtfggmgafjabbjaaDoor
