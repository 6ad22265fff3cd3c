import Derived.Test.YtfcdbijmoiegiaaSpanW2
namespace Go.Proofs.Ytfcdbijmoiegiaa
open Go.DL Go.Span
set_option maxRecDepth 10000
set_option linter.unusedSimpArgs false
set_option linter.unusedVariables false
theorem bo28 : hasBody Try.prog 28 = true := by kernel_rfl
theorem normal1_ct (s : Sp) : PureCt Try.prog 28 [.agg s.d] (.b (lt1 s)) := by
  refine pure_of_dw Try.func28 rfl bo28 (by simp [go_sem, D.nr, nrs, Sp.d]) (by simp [Try.f28]) ?_
  unfold Try.f28
  simp only [init_eq]
  refine dw_step (C := Cn) (by simp only [go_sem]; exact rfl) (fun h => by cases h) ?_ ?_
  · try simp only [go_sem]
    all_goals (first | done | (repeat' (with_reducible apply And.intro)) <;> first | omega | (with_reducible assumption) | (intros; omega) | (intros; simp only [decide_eq_true_eq, decide_eq_false_iff_not, Bool.or_eq_true, Bool.and_eq_true, Bool.or_eq_false_iff, Bool.not_eq_true', Bool.not_eq_false'] at *; omega) | (simp_all; done) | (simp_all; omega))
  refine dw_step (C := Cn) (by simp only [go_sem]; exact rfl) (fun h => by cases h) ?_ ?_
  · try simp only [go_sem]
    all_goals (first | done | (repeat' (with_reducible apply And.intro)) <;> first | omega | (with_reducible assumption) | (intros; omega) | (intros; simp only [decide_eq_true_eq, decide_eq_false_iff_not, Bool.or_eq_true, Bool.and_eq_true, Bool.or_eq_false_iff, Bool.not_eq_true', Bool.not_eq_false'] at *; omega) | (simp_all; done) | (simp_all; omega))
  refine dw_ret ?_
  refine ⟨.inr rfl, ?_, ?_⟩
  · simp only [go_sem]
  refine ⟨0, ?_, ?_⟩
  · try simp only [go_sem]
    all_goals (simp)
  · try simp only [go_sem]
    all_goals (rfl)
theorem bo47 : hasBody Try.prog 47 = true := by kernel_rfl
theorem isnan_ct (x : Int) : PureCt Try.prog 47 [.i x] (.b (x != x)) := by
  refine pure_of_dw Try.func47 rfl bo47 (by simp [go_sem, D.nr, nrs, Sp.d]) (by simp [Try.f47]) ?_
  unfold Try.f47
  simp only [init_eq]
  refine dw_step (C := Cn) (by simp only [go_sem]; exact rfl) (fun h => by cases h) ?_ ?_
  · try simp only [go_sem]
    all_goals (first | done | (repeat' (with_reducible apply And.intro)) <;> first | omega | (with_reducible assumption) | (intros; omega) | (intros; simp only [decide_eq_true_eq, decide_eq_false_iff_not, Bool.or_eq_true, Bool.and_eq_true, Bool.or_eq_false_iff, Bool.not_eq_true', Bool.not_eq_false'] at *; omega) | (simp_all; done) | (simp_all; omega))
  refine dw_step (C := Cn) (by simp only [go_sem]; exact rfl) (fun h => by cases h) ?_ ?_
  · try simp only [go_sem]
    all_goals (first | done | (repeat' (with_reducible apply And.intro)) <;> first | omega | (with_reducible assumption) | (intros; omega) | (intros; simp only [decide_eq_true_eq, decide_eq_false_iff_not, Bool.or_eq_true, Bool.and_eq_true, Bool.or_eq_false_iff, Bool.not_eq_true', Bool.not_eq_false'] at *; omega) | (simp_all; done) | (simp_all; omega))
  refine dw_ret ?_
  refine ⟨.inr rfl, ?_, ?_⟩
  · simp only [go_sem]
  refine ⟨0, ?_, ?_⟩
  · try simp only [go_sem]
    all_goals (simp)
  · try simp only [go_sem]
    all_goals (rfl)
theorem bo31 : hasBody Try.prog 31 = true := by kernel_rfl
theorem cmpint_ct (x : Int) (y : Int) : PureCt Try.prog 31 [.i x, .i y] (.i (cmpI x y)) := by
  refine pure_of_dw Try.func31 rfl bo31 (by simp [go_sem, D.nr, nrs, Sp.d]) (by simp [Try.f31]) ?_
  unfold Try.f31
  simp only [init_eq]
  refine dw_step (C := Cn) (by simp only [go_sem, bne_self_eq_false]; exact rfl) (fun h => by cases h) ?_ ?_
  · try simp only [go_sem, bne_self_eq_false]
    all_goals (first | done | (repeat' (with_reducible apply And.intro)) <;> first | omega | (with_reducible assumption) | (intros; omega) | (intros; simp only [decide_eq_true_eq, decide_eq_false_iff_not, Bool.or_eq_true, Bool.and_eq_true, Bool.or_eq_false_iff, Bool.not_eq_true', Bool.not_eq_false'] at *; omega) | (simp_all; done) | (simp_all; omega))
  refine dw_step (C := Cn) (by simp only [go_sem]; exact rfl) (fun h => by cases h) ?_ ?_
  · try simp only [go_sem]
    all_goals (first | done | (repeat' (with_reducible apply And.intro)) <;> first | omega | (with_reducible assumption) | (intros; omega) | (intros; simp only [decide_eq_true_eq, decide_eq_false_iff_not, Bool.or_eq_true, Bool.and_eq_true, Bool.or_eq_false_iff, Bool.not_eq_true', Bool.not_eq_false'] at *; omega) | (simp_all; done) | (simp_all; omega) | (apply isnan_ct <;> omega) | (intros; apply isnan_ct <;> omega))
  refine dw_step (C := Cn) (by simp only [go_sem]; exact rfl) (fun h => by cases h) ?_ ?_
  · try simp only [go_sem]
    all_goals (first | done | (repeat' (with_reducible apply And.intro)) <;> first | omega | (with_reducible assumption) | (intros; omega) | (intros; simp only [decide_eq_true_eq, decide_eq_false_iff_not, Bool.or_eq_true, Bool.and_eq_true, Bool.or_eq_false_iff, Bool.not_eq_true', Bool.not_eq_false'] at *; omega) | (simp_all; done) | (simp_all; omega) | (apply isnan_ct <;> omega) | (intros; apply isnan_ct <;> omega))
  refine dw_seq ?_
  refine dw_step (C := Cn) (by simp only [go_sem]; exact rfl) (fun h => by cases h) ?_ ?_
  · try simp only [go_sem]
    all_goals (first | done | (repeat' (with_reducible apply And.intro)) <;> first | omega | (with_reducible assumption) | (intros; omega) | (intros; simp only [decide_eq_true_eq, decide_eq_false_iff_not, Bool.or_eq_true, Bool.and_eq_true, Bool.or_eq_false_iff, Bool.not_eq_true', Bool.not_eq_false'] at *; omega) | (simp_all; done) | (simp_all; omega))
  refine dw_cond (by simp only [go_sem]; exact rfl) (fun c1 => ?_) (fun c1 => ?_)
  · skip
    simp at c1
  · skip
    try simp only [decide_eq_true_eq, decide_eq_false_iff_not, Bool.or_eq_true, Bool.and_eq_true, Bool.or_eq_false_iff, Bool.not_eq_true', Bool.not_eq_false'] at c1
    refine dw_skip ?_
    show DW _ _ _ _ _
    refine dw_seq ?_
    refine dw_step (C := Cn) (by simp only [go_sem]; exact rfl) (fun h => by cases h) ?_ ?_
    · try simp only [go_sem]
      all_goals (first | done | (repeat' (with_reducible apply And.intro)) <;> first | omega | (with_reducible assumption) | (intros; omega) | (intros; simp only [decide_eq_true_eq, decide_eq_false_iff_not, Bool.or_eq_true, Bool.and_eq_true, Bool.or_eq_false_iff, Bool.not_eq_true', Bool.not_eq_false'] at *; omega) | (simp_all; done) | (simp_all; omega))
    refine dw_cond (by simp only [go_sem]; exact rfl) (fun c2 => ?_) (fun c2 => ?_)
    · skip
      simp at c2
    · skip
      try simp only [decide_eq_true_eq, decide_eq_false_iff_not, Bool.or_eq_true, Bool.and_eq_true, Bool.or_eq_false_iff, Bool.not_eq_true', Bool.not_eq_false'] at c2
      refine dw_skip ?_
      show DW _ _ _ _ _
      refine dw_seq ?_
      refine dw_step (C := Cn) (by simp only [go_sem]; exact rfl) (fun h => by cases h) ?_ ?_
      · try simp only [go_sem]
        all_goals (first | done | (repeat' (with_reducible apply And.intro)) <;> first | omega | (with_reducible assumption) | (intros; omega) | (intros; simp only [decide_eq_true_eq, decide_eq_false_iff_not, Bool.or_eq_true, Bool.and_eq_true, Bool.or_eq_false_iff, Bool.not_eq_true', Bool.not_eq_false'] at *; omega) | (simp_all; done) | (simp_all; omega))
      refine dw_cond (by simp only [go_sem]; exact rfl) (fun c3 => ?_) (fun c3 => ?_)
      · skip
        try simp only [decide_eq_true_eq, decide_eq_false_iff_not, Bool.or_eq_true, Bool.and_eq_true, Bool.or_eq_false_iff, Bool.not_eq_true', Bool.not_eq_false'] at c3
        refine dw_step (C := Cn) (by simp only [go_sem]; exact rfl) (fun h => by cases h) ?_ ?_
        · try simp only [go_sem]
          all_goals (first | done | (repeat' (with_reducible apply And.intro)) <;> first | omega | (with_reducible assumption) | (intros; omega) | (intros; simp only [decide_eq_true_eq, decide_eq_false_iff_not, Bool.or_eq_true, Bool.and_eq_true, Bool.or_eq_false_iff, Bool.not_eq_true', Bool.not_eq_false'] at *; omega) | (simp_all; done) | (simp_all; omega))
        refine dw_ret ?_
        refine ⟨.inr rfl, ?_, ?_⟩
        · simp only [go_sem]
        refine ⟨0, ?_, ?_⟩
        · try simp only [go_sem]
          all_goals (simp)
        · try simp only [go_sem]
          all_goals (simp only [cmpI]; (try simp only [decide_eq_true_eq, decide_eq_false_iff_not, gt_iff_lt] at *); split <;> first | rfl | omega | (split <;> first | rfl | omega))
      · skip
        try simp only [decide_eq_true_eq, decide_eq_false_iff_not, Bool.or_eq_true, Bool.and_eq_true, Bool.or_eq_false_iff, Bool.not_eq_true', Bool.not_eq_false'] at c3
        refine dw_skip ?_
        show DW _ _ _ _ _
        refine dw_seq ?_
        refine dw_step (C := Cn) (by simp only [go_sem]; exact rfl) (fun h => by cases h) ?_ ?_
        · try simp only [go_sem]
          all_goals (first | done | (repeat' (with_reducible apply And.intro)) <;> first | omega | (with_reducible assumption) | (intros; omega) | (intros; simp only [decide_eq_true_eq, decide_eq_false_iff_not, Bool.or_eq_true, Bool.and_eq_true, Bool.or_eq_false_iff, Bool.not_eq_true', Bool.not_eq_false'] at *; omega) | (simp_all; done) | (simp_all; omega))
        refine dw_cond (by simp only [go_sem]; exact rfl) (fun c4 => ?_) (fun c4 => ?_)
        · skip
          try simp only [decide_eq_true_eq, decide_eq_false_iff_not, Bool.or_eq_true, Bool.and_eq_true, Bool.or_eq_false_iff, Bool.not_eq_true', Bool.not_eq_false'] at c4
          refine dw_step (C := Cn) (by simp only [go_sem]; exact rfl) (fun h => by cases h) ?_ ?_
          · try simp only [go_sem]
            all_goals (first | done | (repeat' (with_reducible apply And.intro)) <;> first | omega | (with_reducible assumption) | (intros; omega) | (intros; simp only [decide_eq_true_eq, decide_eq_false_iff_not, Bool.or_eq_true, Bool.and_eq_true, Bool.or_eq_false_iff, Bool.not_eq_true', Bool.not_eq_false'] at *; omega) | (simp_all; done) | (simp_all; omega))
          refine dw_ret ?_
          refine ⟨.inr rfl, ?_, ?_⟩
          · simp only [go_sem]
          refine ⟨0, ?_, ?_⟩
          · try simp only [go_sem]
            all_goals (simp)
          · try simp only [go_sem]
            all_goals (simp only [cmpI]; (try simp only [decide_eq_true_eq, decide_eq_false_iff_not, gt_iff_lt] at *); split <;> first | rfl | omega | (split <;> first | rfl | omega))
        · skip
          try simp only [decide_eq_true_eq, decide_eq_false_iff_not, Bool.or_eq_true, Bool.and_eq_true, Bool.or_eq_false_iff, Bool.not_eq_true', Bool.not_eq_false'] at c4
          refine dw_skip ?_
          show DW _ _ _ _ _
          refine dw_step (C := Cn) (by simp only [go_sem]; exact rfl) (fun h => by cases h) ?_ ?_
          · try simp only [go_sem]
            all_goals (first | done | (repeat' (with_reducible apply And.intro)) <;> first | omega | (with_reducible assumption) | (intros; omega) | (intros; simp only [decide_eq_true_eq, decide_eq_false_iff_not, Bool.or_eq_true, Bool.and_eq_true, Bool.or_eq_false_iff, Bool.not_eq_true', Bool.not_eq_false'] at *; omega) | (simp_all; done) | (simp_all; omega))
          refine dw_ret ?_
          refine ⟨.inr rfl, ?_, ?_⟩
          · simp only [go_sem]
          refine ⟨0, ?_, ?_⟩
          · try simp only [go_sem]
            all_goals (simp)
          · try simp only [go_sem]
            all_goals (simp only [cmpI]; (try simp only [decide_eq_true_eq, decide_eq_false_iff_not, gt_iff_lt] at *); split <;> first | rfl | omega | (split <;> first | rfl | omega))
theorem bo30 : hasBody Try.prog 30 = true := by kernel_rfl
theorem normal2_ct (x : Sp) (y : Sp) : PureCt Try.prog 30 [.agg x.d, .agg y.d] (.i (cmpI (x).a (y).a)) := by
  refine pure_of_dw Try.func30 rfl bo30 (by simp [go_sem, D.nr, nrs, Sp.d]) (by simp [Try.f30]) ?_
  unfold Try.f30
  simp only [init_eq]
  refine dw_step (C := Cn) (by simp only [go_sem]; exact rfl) (fun h => by cases h) ?_ ?_
  · try simp only [go_sem]
    all_goals (first | done | (repeat' (with_reducible apply And.intro)) <;> first | omega | (with_reducible assumption) | (intros; omega) | (intros; simp only [decide_eq_true_eq, decide_eq_false_iff_not, Bool.or_eq_true, Bool.and_eq_true, Bool.or_eq_false_iff, Bool.not_eq_true', Bool.not_eq_false'] at *; omega) | (simp_all; done) | (simp_all; omega))
  refine dw_step (C := Cn) (by simp only [go_sem]; exact rfl) (fun h => by cases h) ?_ ?_
  · try simp only [go_sem]
    all_goals (first | done | (repeat' (with_reducible apply And.intro)) <;> first | omega | (with_reducible assumption) | (intros; omega) | (intros; simp only [decide_eq_true_eq, decide_eq_false_iff_not, Bool.or_eq_true, Bool.and_eq_true, Bool.or_eq_false_iff, Bool.not_eq_true', Bool.not_eq_false'] at *; omega) | (simp_all; done) | (simp_all; omega) | (apply cmpint_ct <;> omega) | (intros; apply cmpint_ct <;> omega))
  refine dw_ret ?_
  refine ⟨.inr rfl, ?_, ?_⟩
  · simp only [go_sem]
  refine ⟨0, ?_, ?_⟩
  · try simp only [go_sem]
    all_goals (simp)
  · try simp only [go_sem]
    all_goals (rfl)
theorem bo32 : hasBody Try.prog 32 = true := by kernel_rfl
theorem united_ct (l : List Sp) (hl : l.length ≤ 100000) : PureCt Try.prog 32 [.list false (l.map Sp.d)] (.list false ((united l).map Sp.d)) := by
  rw [united]
  refine pure_of_dw Try.func32 rfl bo32 (by simp [go_sem, D.nr, nrs, Sp.d]) (by simp [Try.f32]) ?_
  unfold Try.f32
  simp only [init_eq]
  refine dw_step (C := Cn) (by simp only [go_sem]; exact rfl) (fun h => by cases h) ?_ ?_
  · try simp only [go_sem]
    all_goals (first | done | (repeat' (with_reducible apply And.intro)) <;> first | omega | (with_reducible assumption) | (intros; omega) | (intros; simp only [decide_eq_true_eq, decide_eq_false_iff_not, Bool.or_eq_true, Bool.and_eq_true, Bool.or_eq_false_iff, Bool.not_eq_true', Bool.not_eq_false'] at *; omega) | (simp_all; done) | (simp_all; omega))
  refine dw_step (C := Cn) (by simp only [go_sem]; exact rfl) (fun h => by cases h) ?_ ?_
  · try simp only [go_sem]
    all_goals (first | done | (repeat' (with_reducible apply And.intro)) <;> first | omega | (with_reducible assumption) | (intros; omega) | (intros; simp only [decide_eq_true_eq, decide_eq_false_iff_not, Bool.or_eq_true, Bool.and_eq_true, Bool.or_eq_false_iff, Bool.not_eq_true', Bool.not_eq_false'] at *; omega) | (simp_all; done) | (simp_all; omega))
  refine dw_seq ?_
  refine dw_step (C := Cn) (by simp only [go_sem]; exact rfl) (fun h => by cases h) ?_ ?_
  · try simp only [go_sem]
    all_goals (first | done | (repeat' (with_reducible apply And.intro)) <;> first | omega | (with_reducible assumption) | (intros; omega) | (intros; simp only [decide_eq_true_eq, decide_eq_false_iff_not, Bool.or_eq_true, Bool.and_eq_true, Bool.or_eq_false_iff, Bool.not_eq_true', Bool.not_eq_false'] at *; omega) | (simp_all; done) | (simp_all; omega))
  refine dw_block ?_
  refine dw_own 3 34 (by simp only [go_sem]) (by simp only [go_sem]) ?_
  refine dw_loop_fix (α := (Nat) × (List Sp) × (Nat) × Nat) [7, 8] (fun ⟨k, out, r, nx⟩ => (k ≤ l.length) ∧ (out.length ≤ k) ∧ (unitedFrom l 0 [] = unitedFrom l k out) ∧ (r < nx) ∧ True) (fun ⟨k, out, r, nx⟩ => l.length - k) (fun ⟨k, out, r, nx⟩ => [(3, .mrow r 0 out.length), (9, .i k)]) (fun ⟨k, out, r, nx⟩ => [(r, ⟨34, out.map Sp.d⟩)]) (fun ⟨k, out, r, nx⟩ => nx) (0, [], 5, _) (by simp only [List.map_cons, List.map_nil, go_sem]; exact rfl) ⟨(by first | (first | omega | (with_reducible assumption) | (simp_all; done) | (simp_all; omega)) | (dsimp only; first | omega | (with_reducible assumption) | (simp_all; done) | (simp_all; omega))), (by first | (simp) | (dsimp only; simp)), (by first | (rfl) | (dsimp only; rfl)), (by first | (first | omega | (with_reducible assumption) | (simp_all; done) | (simp_all; omega)) | (dsimp only; first | omega | (with_reducible assumption) | (simp_all; done) | (simp_all; omega))), trivial⟩ (by first | (simp only [go_sem]; done) | (simp [go_sem]; done) | (simp only [go_sem]; (repeat' (with_reducible apply And.intro)) <;> first | (left; simp; done) | (right; simp [go_sem]; done))) (by first | (simp only [go_sem]; done) | simp [go_sem]) (Nat.le_refl _) ?_
  rintro ⟨k, out, r, nx⟩ ⟨hk, ho, hv, hr, -⟩
  show DW _ _ _ _ { n := _, t := tab _, h := _, nx := _, e := _ }
  simp only [List.cons_append, List.nil_append]
  refine dw_step (C := Cn) (by simp only [go_sem, hr]; exact rfl) (fun h => by cases h) ?_ ?_
  · try simp only [go_sem, hr]
    all_goals (first | done | (repeat' (with_reducible apply And.intro)) <;> first | omega | (with_reducible assumption) | (intros; omega) | (intros; simp only [decide_eq_true_eq, decide_eq_false_iff_not, Bool.or_eq_true, Bool.and_eq_true, Bool.or_eq_false_iff, Bool.not_eq_true', Bool.not_eq_false'] at *; omega) | (simp_all; done) | (simp_all; omega))
  refine dw_seq ?_
  refine dw_cond (by simp only [go_sem, hr]; exact rfl) (fun c1 => ?_) (fun c1 => ?_)
  · skip
    have hk2 : k < l.length := by simpa using c1
    refine dw_skip ?_
    show DW _ _ _ _ _
    refine dw_seq ?_
    refine dw_block ?_
    refine dw_step (C := Cn) (by simp only [go_sem, hr, getD_sp hk2]; exact rfl) (fun h => by cases h) ?_ ?_
    · try simp only [go_sem, hr, getD_sp hk2]
      all_goals (first | done | (repeat' (with_reducible apply And.intro)) <;> first | omega | (with_reducible assumption) | (intros; omega) | (intros; simp only [decide_eq_true_eq, decide_eq_false_iff_not, Bool.or_eq_true, Bool.and_eq_true, Bool.or_eq_false_iff, Bool.not_eq_true', Bool.not_eq_false'] at *; omega) | (simp_all; done) | (simp_all; omega))
    refine dw_step (C := Cn) (by simp only [go_sem, hr, getD_sp hk2]; exact rfl) (fun h => by cases h) ?_ ?_
    · try simp only [go_sem, hr, getD_sp hk2]
      all_goals (first | done | (repeat' (with_reducible apply And.intro)) <;> first | omega | (with_reducible assumption) | (intros; omega) | (intros; simp only [decide_eq_true_eq, decide_eq_false_iff_not, Bool.or_eq_true, Bool.and_eq_true, Bool.or_eq_false_iff, Bool.not_eq_true', Bool.not_eq_false'] at *; omega) | (simp_all; done) | (simp_all; omega))
    by_cases hp : 0 < out.length
    · skip
      have e0 : decide (0 < (out.length : Int)) = true := by simpa using hp
      have e1 : ((out.length : Int) - 1).toNat = out.length - 1 := by omega
      have hk3 : out.length - 1 < out.length := by omega
      refine dw_step (C := Cn) (by simp only [go_sem, hr, getD_sp hk2, e0, e1, getD_sp hk3]; exact rfl) (fun _ => ⟨mix, by kernel_rfl, by kernel_rfl⟩) ?_ ?_
      · try simp only [go_sem, hr, getD_sp hk2, e0, e1, getD_sp hk3]
        all_goals (first | done | (repeat' (with_reducible apply And.intro)) <;> first | omega | (with_reducible assumption) | (intros; omega) | (intros; simp only [decide_eq_true_eq, decide_eq_false_iff_not, Bool.or_eq_true, Bool.and_eq_true, Bool.or_eq_false_iff, Bool.not_eq_true', Bool.not_eq_false'] at *; omega) | (simp_all; done) | (simp_all; omega))
      refine dw_cond (by simp only [go_sem, hr, getD_sp hk2, e0, e1, getD_sp hk3]; exact rfl) (fun c2 => ?_) (fun c2 => ?_)
      · skip
        try simp only [decide_eq_true_eq] at c2
        refine dw_reg (C := Cn) (by simp only [go_sem, hr, getD_sp hk2, e0, e1, getD_sp hk3]; exact rfl) (fun _ => ⟨mix, by kernel_rfl, by kernel_rfl⟩) ?_ ?_
        · try simp only [go_sem, hr, getD_sp hk2, e0, e1, getD_sp hk3]
          all_goals (first | done | (repeat' (with_reducible apply And.intro)) <;> first | omega | (with_reducible assumption) | (intros; omega) | (intros; simp only [decide_eq_true_eq, decide_eq_false_iff_not, Bool.or_eq_true, Bool.and_eq_true, Bool.or_eq_false_iff, Bool.not_eq_true', Bool.not_eq_false'] at *; omega) | (simp_all; done) | (simp_all; omega))
        show DW _ _ _ _ _
        refine dw_reg (C := Cn) (by simp only [go_sem, hr, getD_sp hk2, e0, e1, getD_sp hk3]; exact rfl) (fun h => by cases h) ?_ ?_
        · try simp only [go_sem, hr, getD_sp hk2, e0, e1, getD_sp hk3]
          all_goals (first | done | (repeat' (with_reducible apply And.intro)) <;> first | omega | (with_reducible assumption) | (intros; omega) | (intros; simp only [decide_eq_true_eq, decide_eq_false_iff_not, Bool.or_eq_true, Bool.and_eq_true, Bool.or_eq_false_iff, Bool.not_eq_true', Bool.not_eq_false'] at *; omega) | (simp_all; done) | (simp_all; omega))
        show ∃ _, _
        refine ⟨(k + 1, out.set (out.length - 1) ⟨out[out.length - 1]!.a, max out[out.length - 1]!.b l[k]!.b⟩, r, _), ⟨(by first | (first | omega | (with_reducible assumption) | (simp_all; done) | (simp_all; omega)) | (dsimp only; first | omega | (with_reducible assumption) | (simp_all; done) | (simp_all; omega))), (by first | (simp; omega) | (dsimp only; simp; omega)), (by first | (rw [hv, unitedFrom_eq, if_pos hk2, if_pos ⟨hp, c2⟩]) | (dsimp only; rw [hv, unitedFrom_eq, if_pos hk2, if_pos ⟨hp, c2⟩])), (by first | (first | omega | (with_reducible assumption) | (simp_all; done) | (simp_all; omega)) | (dsimp only; first | omega | (with_reducible assumption) | (simp_all; done) | (simp_all; omega))), trivial⟩, (by show (_ : Nat) < _; first | omega | simp_all; omega), ?_, ?_, ?_, Nat.le_refl _, rfl, rfl⟩
        · try simp only [go_sem, hr, getD_sp hk2, e0, e1, getD_sp hk3]
          all_goals (first | done | (simp [Sp.d]; done) | (simp [Sp.d]; omega))
        · try simp only [go_sem, hr, getD_sp hk2, e0, e1, getD_sp hk3]
          all_goals (first | done | (simp [Sp.d]; done) | (simp [Sp.d]; omega))
        · try simp only [go_sem, hr, getD_sp hk2, e0, e1, getD_sp hk3]
          all_goals (first | done | (simp [Sp.d]; done) | (simp [Sp.d]; omega))
      · skip
        try simp only [decide_eq_false_iff_not] at c2
        refine dw_reg (C := Cn) (by simp only [go_sem, hr, getD_sp hk2, e0, e1, getD_sp hk3]; exact rfl) (fun h => by cases h) ?_ ?_
        · try simp only [go_sem, hr, getD_sp hk2, e0, e1, getD_sp hk3]
          all_goals (first | done | (repeat' (with_reducible apply And.intro)) <;> first | omega | (with_reducible assumption) | (intros; omega) | (intros; simp only [decide_eq_true_eq, decide_eq_false_iff_not, Bool.or_eq_true, Bool.and_eq_true, Bool.or_eq_false_iff, Bool.not_eq_true', Bool.not_eq_false'] at *; omega) | (simp_all; done) | (simp_all; omega))
        show DW _ _ _ _ _
        refine dw_reg (C := Cn) (by simp only [go_sem, hr, getD_sp hk2, e0, e1, getD_sp hk3]; exact rfl) (fun h => by cases h) ?_ ?_
        · try simp only [go_sem, hr, getD_sp hk2, e0, e1, getD_sp hk3]
          all_goals (first | done | (repeat' (with_reducible apply And.intro)) <;> first | omega | (with_reducible assumption) | (intros; omega) | (intros; simp only [decide_eq_true_eq, decide_eq_false_iff_not, Bool.or_eq_true, Bool.and_eq_true, Bool.or_eq_false_iff, Bool.not_eq_true', Bool.not_eq_false'] at *; omega) | (simp_all; done) | (simp_all; omega))
        show ∃ _, _
        refine ⟨(k + 1, out ++ [l[k]!], (nx + 24), _), ⟨(by first | (first | omega | (with_reducible assumption) | (simp_all; done) | (simp_all; omega)) | (dsimp only; first | omega | (with_reducible assumption) | (simp_all; done) | (simp_all; omega))), (by first | (simp; omega) | (dsimp only; simp; omega)), (by first | (rw [hv, unitedFrom_eq, if_pos hk2, if_neg (by intro q; first | exact hp q.1 | exact c2 q.2)]) | (dsimp only; rw [hv, unitedFrom_eq, if_pos hk2, if_neg (by intro q; first | exact hp q.1 | exact c2 q.2)])), (by first | (first | omega | (with_reducible assumption) | (simp_all; done) | (simp_all; omega)) | (dsimp only; first | omega | (with_reducible assumption) | (simp_all; done) | (simp_all; omega))), trivial⟩, (by show (_ : Nat) < _; first | omega | simp_all; omega), ?_, ?_, ?_, Nat.le_refl _, rfl, rfl⟩
        · try simp only [go_sem, hr, getD_sp hk2, e0, e1, getD_sp hk3]
          all_goals (first | done | (simp [Sp.d]; done) | (simp [Sp.d]; omega))
        · try simp only [go_sem, hr, getD_sp hk2, e0, e1, getD_sp hk3]
          all_goals (first | done | (simp [Sp.d]; done) | (simp [Sp.d]; omega))
        · try simp only [go_sem, hr, getD_sp hk2, e0, e1, getD_sp hk3]
          all_goals (first | done | (simp [Sp.d]; done) | (simp [Sp.d]; omega))
    · skip
      have e0 : decide (0 < (out.length : Int)) = false := by simpa using hp
      refine dw_step (C := Cn) (by simp only [go_sem, hr, getD_sp hk2, e0]; exact rfl) (fun _ => ⟨mix, by kernel_rfl, by kernel_rfl⟩) ?_ ?_
      · try simp only [go_sem, hr, getD_sp hk2, e0]
        all_goals (first | done | (repeat' (with_reducible apply And.intro)) <;> first | omega | (with_reducible assumption) | (intros; omega) | (intros; simp only [decide_eq_true_eq, decide_eq_false_iff_not, Bool.or_eq_true, Bool.and_eq_true, Bool.or_eq_false_iff, Bool.not_eq_true', Bool.not_eq_false'] at *; omega) | (simp_all; done) | (simp_all; omega))
      refine dw_cond (by simp only [go_sem, hr, getD_sp hk2, e0]; exact rfl) (fun c2 => ?_) (fun c2 => ?_)
      · skip
        simp at c2
      · skip
        try simp only [decide_eq_false_iff_not] at c2
        refine dw_reg (C := Cn) (by simp only [go_sem, hr, getD_sp hk2, e0]; exact rfl) (fun h => by cases h) ?_ ?_
        · try simp only [go_sem, hr, getD_sp hk2, e0]
          all_goals (first | done | (repeat' (with_reducible apply And.intro)) <;> first | omega | (with_reducible assumption) | (intros; omega) | (intros; simp only [decide_eq_true_eq, decide_eq_false_iff_not, Bool.or_eq_true, Bool.and_eq_true, Bool.or_eq_false_iff, Bool.not_eq_true', Bool.not_eq_false'] at *; omega) | (simp_all; done) | (simp_all; omega))
        show DW _ _ _ _ _
        refine dw_reg (C := Cn) (by simp only [go_sem, hr, getD_sp hk2, e0]; exact rfl) (fun h => by cases h) ?_ ?_
        · try simp only [go_sem, hr, getD_sp hk2, e0]
          all_goals (first | done | (repeat' (with_reducible apply And.intro)) <;> first | omega | (with_reducible assumption) | (intros; omega) | (intros; simp only [decide_eq_true_eq, decide_eq_false_iff_not, Bool.or_eq_true, Bool.and_eq_true, Bool.or_eq_false_iff, Bool.not_eq_true', Bool.not_eq_false'] at *; omega) | (simp_all; done) | (simp_all; omega))
        show ∃ _, _
        refine ⟨(k + 1, out ++ [l[k]!], (nx + 24), _), ⟨(by first | (first | omega | (with_reducible assumption) | (simp_all; done) | (simp_all; omega)) | (dsimp only; first | omega | (with_reducible assumption) | (simp_all; done) | (simp_all; omega))), (by first | (simp; omega) | (dsimp only; simp; omega)), (by first | (rw [hv, unitedFrom_eq, if_pos hk2, if_neg (by intro q; first | exact hp q.1 | exact c2 q.2)]) | (dsimp only; rw [hv, unitedFrom_eq, if_pos hk2, if_neg (by intro q; first | exact hp q.1 | exact c2 q.2)])), (by first | (first | omega | (with_reducible assumption) | (simp_all; done) | (simp_all; omega)) | (dsimp only; first | omega | (with_reducible assumption) | (simp_all; done) | (simp_all; omega))), trivial⟩, (by show (_ : Nat) < _; first | omega | simp_all; omega), ?_, ?_, ?_, Nat.le_refl _, rfl, rfl⟩
        · try simp only [go_sem, hr, getD_sp hk2, e0]
          all_goals (first | done | (simp [Sp.d]; done) | (simp [Sp.d]; omega))
        · try simp only [go_sem, hr, getD_sp hk2, e0]
          all_goals (first | done | (simp [Sp.d]; done) | (simp [Sp.d]; omega))
        · try simp only [go_sem, hr, getD_sp hk2, e0]
          all_goals (first | done | (simp [Sp.d]; done) | (simp [Sp.d]; omega))
  · skip
    try simp only [decide_eq_true_eq, decide_eq_false_iff_not, Bool.or_eq_true, Bool.and_eq_true, Bool.or_eq_false_iff, Bool.not_eq_true', Bool.not_eq_false'] at c1
    refine dw_exit ?_
    show DW _ _ _ _ _
    refine dw_step (C := Cn) (by simp only [go_sem, hr]; exact rfl) (fun h => by cases h) ?_ ?_
    · try simp only [go_sem, hr]
      all_goals (first | done | (repeat' (with_reducible apply And.intro)) <;> first | omega | (with_reducible assumption) | (intros; omega) | (intros; simp only [decide_eq_true_eq, decide_eq_false_iff_not, Bool.or_eq_true, Bool.and_eq_true, Bool.or_eq_false_iff, Bool.not_eq_true', Bool.not_eq_false'] at *; omega) | (simp_all; done) | (simp_all; omega))
    refine dw_ret ?_
    refine ⟨.inr rfl, ?_, ?_⟩
    · simp only [go_sem, hr]
    refine ⟨1, ?_, ?_⟩
    · try simp only [go_sem, hr]
      all_goals (simp)
    · try simp only [go_sem, hr]
      all_goals (rw [hv, unitedFrom_eq, if_neg (by omega)])
theorem bo61 : hasBody Try.prog 61 = true := by kernel_rfl
theorem flat_ct (l : List Sp) (hl : l.length ≤ 100000) : PureCt Try.prog 61 [.list false (l.map Sp.d)] (.list false ((flatL l).map iD)) := by
  rw [flatL]
  refine pure_of_dw Try.func61 rfl bo61 (by simp [go_sem, D.nr, nrs, Sp.d]) (by simp [Try.f61]) ?_
  unfold Try.f61
  simp only [init_eq]
  refine dw_step (C := Cn) (by simp only [go_sem]; exact rfl) (fun h => by cases h) ?_ ?_
  · try simp only [go_sem]
    all_goals (first | done | (repeat' (with_reducible apply And.intro)) <;> first | omega | (with_reducible assumption) | (intros; omega) | (intros; simp only [decide_eq_true_eq, decide_eq_false_iff_not, Bool.or_eq_true, Bool.and_eq_true, Bool.or_eq_false_iff, Bool.not_eq_true', Bool.not_eq_false'] at *; omega) | (simp_all; done) | (simp_all; omega))
  refine dw_step (C := Cn) (by simp only [go_sem]; exact rfl) (fun h => by cases h) ?_ ?_
  · try simp only [go_sem]
    all_goals (first | done | (repeat' (with_reducible apply And.intro)) <;> first | omega | (with_reducible assumption) | (intros; omega) | (intros; simp only [decide_eq_true_eq, decide_eq_false_iff_not, Bool.or_eq_true, Bool.and_eq_true, Bool.or_eq_false_iff, Bool.not_eq_true', Bool.not_eq_false'] at *; omega) | (simp_all; done) | (simp_all; omega))
  refine dw_seq ?_
  refine dw_step (C := Cn) (by simp only [go_sem]; exact rfl) (fun h => by cases h) ?_ ?_
  · try simp only [go_sem]
    all_goals (first | done | (repeat' (with_reducible apply And.intro)) <;> first | omega | (with_reducible assumption) | (intros; omega) | (intros; simp only [decide_eq_true_eq, decide_eq_false_iff_not, Bool.or_eq_true, Bool.and_eq_true, Bool.or_eq_false_iff, Bool.not_eq_true', Bool.not_eq_false'] at *; omega) | (simp_all; done) | (simp_all; omega))
  refine dw_block ?_
  refine dw_own 3 3 (by simp only [go_sem]) (by simp only [go_sem]) ?_
  refine dw_loop_fix (α := (Nat) × (List Int) × (Nat) × Nat) [6, 7] (fun ⟨k, out, r, nx⟩ => (k ≤ l.length) ∧ (out.length = 2 * k) ∧ (flatFrom l 0 [] = flatFrom l k out) ∧ (r < nx) ∧ True) (fun ⟨k, out, r, nx⟩ => l.length - k) (fun ⟨k, out, r, nx⟩ => [(3, .mrow r 0 out.length), (8, .i k)]) (fun ⟨k, out, r, nx⟩ => [(r, ⟨3, out.map iD⟩)]) (fun ⟨k, out, r, nx⟩ => nx) (0, [], 5, _) (by simp only [List.map_cons, List.map_nil, go_sem]; exact rfl) ⟨(by first | (first | omega | (with_reducible assumption) | (simp_all; done) | (simp_all; omega)) | (dsimp only; first | omega | (with_reducible assumption) | (simp_all; done) | (simp_all; omega))), (by first | (simp) | (dsimp only; simp)), (by first | (rfl) | (dsimp only; rfl)), (by first | (first | omega | (with_reducible assumption) | (simp_all; done) | (simp_all; omega)) | (dsimp only; first | omega | (with_reducible assumption) | (simp_all; done) | (simp_all; omega))), trivial⟩ (by first | (simp only [go_sem]; done) | (simp [go_sem]; done) | (simp only [go_sem]; (repeat' (with_reducible apply And.intro)) <;> first | (left; simp; done) | (right; simp [go_sem]; done))) (by first | (simp only [go_sem]; done) | simp [go_sem]) (Nat.le_refl _) ?_
  rintro ⟨k, out, r, nx⟩ ⟨hk, ho, hv, hr, -⟩
  show DW _ _ _ _ { n := _, t := tab _, h := _, nx := _, e := _ }
  simp only [List.cons_append, List.nil_append]
  refine dw_step (C := Cn) (by simp only [go_sem, hr]; exact rfl) (fun h => by cases h) ?_ ?_
  · try simp only [go_sem, hr]
    all_goals (first | done | (repeat' (with_reducible apply And.intro)) <;> first | omega | (with_reducible assumption) | (intros; omega) | (intros; simp only [decide_eq_true_eq, decide_eq_false_iff_not, Bool.or_eq_true, Bool.and_eq_true, Bool.or_eq_false_iff, Bool.not_eq_true', Bool.not_eq_false'] at *; omega) | (simp_all; done) | (simp_all; omega))
  refine dw_seq ?_
  refine dw_cond (by simp only [go_sem, hr]; exact rfl) (fun c1 => ?_) (fun c1 => ?_)
  · skip
    have hk2 : k < l.length := by simpa using c1
    refine dw_skip ?_
    show DW _ _ _ _ _
    refine dw_seq ?_
    refine dw_block ?_
    refine dw_step (C := Cn) (by simp only [go_sem, hr, getD_sp hk2]; exact rfl) (fun h => by cases h) ?_ ?_
    · try simp only [go_sem, hr, getD_sp hk2]
      all_goals (first | done | (repeat' (with_reducible apply And.intro)) <;> first | omega | (with_reducible assumption) | (intros; omega) | (intros; simp only [decide_eq_true_eq, decide_eq_false_iff_not, Bool.or_eq_true, Bool.and_eq_true, Bool.or_eq_false_iff, Bool.not_eq_true', Bool.not_eq_false'] at *; omega) | (simp_all; done) | (simp_all; omega))
    refine dw_reg (C := Cn) (by simp only [go_sem, hr, getD_sp hk2]; exact rfl) (fun h => by cases h) ?_ ?_
    · try simp only [go_sem, hr, getD_sp hk2]
      all_goals (first | done | (repeat' (with_reducible apply And.intro)) <;> first | omega | (with_reducible assumption) | (intros; omega) | (intros; simp only [decide_eq_true_eq, decide_eq_false_iff_not, Bool.or_eq_true, Bool.and_eq_true, Bool.or_eq_false_iff, Bool.not_eq_true', Bool.not_eq_false'] at *; omega) | (simp_all; done) | (simp_all; omega))
    show DW _ _ _ _ _
    refine dw_reg (C := Cn) (by simp only [go_sem, hr, getD_sp hk2]; exact rfl) (fun h => by cases h) ?_ ?_
    · try simp only [go_sem, hr, getD_sp hk2]
      all_goals (first | done | (repeat' (with_reducible apply And.intro)) <;> first | omega | (with_reducible assumption) | (intros; omega) | (intros; simp only [decide_eq_true_eq, decide_eq_false_iff_not, Bool.or_eq_true, Bool.and_eq_true, Bool.or_eq_false_iff, Bool.not_eq_true', Bool.not_eq_false'] at *; omega) | (simp_all; done) | (simp_all; omega))
    show ∃ _, _
    refine ⟨(k + 1, out ++ [l[k]!.a, l[k]!.b], (nx + 11), _), ⟨(by first | (first | omega | (with_reducible assumption) | (simp_all; done) | (simp_all; omega)) | (dsimp only; first | omega | (with_reducible assumption) | (simp_all; done) | (simp_all; omega))), (by first | (simp; omega) | (dsimp only; simp; omega)), (by first | (rw [hv, flatFrom_eq, if_pos hk2]) | (dsimp only; rw [hv, flatFrom_eq, if_pos hk2])), (by first | (first | omega | (with_reducible assumption) | (simp_all; done) | (simp_all; omega)) | (dsimp only; first | omega | (with_reducible assumption) | (simp_all; done) | (simp_all; omega))), trivial⟩, (by show (_ : Nat) < _; first | omega | simp_all; omega), ?_, ?_, ?_, Nat.le_refl _, rfl, rfl⟩
    · try simp only [go_sem, hr, getD_sp hk2]
      all_goals (first | done | (simp [iD]; done) | (simp [iD]; omega))
    · try simp only [go_sem, hr, getD_sp hk2]
      all_goals (first | done | (simp [iD]; done) | (simp [iD]; omega))
    · try simp only [go_sem, hr, getD_sp hk2]
      all_goals (first | done | (simp [iD]; done) | (simp [iD]; omega))
  · skip
    try simp only [decide_eq_true_eq, decide_eq_false_iff_not, Bool.or_eq_true, Bool.and_eq_true, Bool.or_eq_false_iff, Bool.not_eq_true', Bool.not_eq_false'] at c1
    refine dw_exit ?_
    show DW _ _ _ _ _
    refine dw_step (C := Cn) (by simp only [go_sem, hr]; exact rfl) (fun h => by cases h) ?_ ?_
    · try simp only [go_sem, hr]
      all_goals (first | done | (repeat' (with_reducible apply And.intro)) <;> first | omega | (with_reducible assumption) | (intros; omega) | (intros; simp only [decide_eq_true_eq, decide_eq_false_iff_not, Bool.or_eq_true, Bool.and_eq_true, Bool.or_eq_false_iff, Bool.not_eq_true', Bool.not_eq_false'] at *; omega) | (simp_all; done) | (simp_all; omega))
    refine dw_ret ?_
    refine ⟨.inr rfl, ?_, ?_⟩
    · simp only [go_sem, hr]
    refine ⟨1, ?_, ?_⟩
    · try simp only [go_sem, hr]
      all_goals (simp)
    · try simp only [go_sem, hr]
      all_goals (rw [hv, flatFrom_eq, if_neg (by omega)])
theorem bo44 : hasBody Try.prog 44 = true := by kernel_rfl
theorem has1_ct (s : Sp) (t : Int) : PureCt Try.prog 44 [.agg s.d, .eptr [.i t]] (.b (has1 s t)) := by
  refine pure_of_dw Try.func44 rfl bo44 (by simp [go_sem, D.nr, nrs, Sp.d]) (by simp [Try.f44]) ?_
  unfold Try.f44
  simp only [init_eq]
  refine dw_step (C := Cn) (by simp only [go_sem]; exact rfl) (fun h => by cases h) ?_ ?_
  · try simp only [go_sem]
    all_goals (first | done | (repeat' (with_reducible apply And.intro)) <;> first | omega | (with_reducible assumption) | (intros; omega) | (intros; simp only [decide_eq_true_eq, decide_eq_false_iff_not, Bool.or_eq_true, Bool.and_eq_true, Bool.or_eq_false_iff, Bool.not_eq_true', Bool.not_eq_false'] at *; omega) | (simp_all; done) | (simp_all; omega))
  refine dw_step (C := Cn) (by simp only [go_sem]; exact rfl) (fun h => by cases h) ?_ ?_
  · try simp only [go_sem]
    all_goals (first | done | (repeat' (with_reducible apply And.intro)) <;> first | omega | (with_reducible assumption) | (intros; omega) | (intros; simp only [decide_eq_true_eq, decide_eq_false_iff_not, Bool.or_eq_true, Bool.and_eq_true, Bool.or_eq_false_iff, Bool.not_eq_true', Bool.not_eq_false'] at *; omega) | (simp_all; done) | (simp_all; omega))
  refine dw_ret ?_
  refine ⟨.inr rfl, ?_, ?_⟩
  · simp only [go_sem]
  refine ⟨0, ?_, ?_⟩
  · try simp only [go_sem]
    all_goals (simp)
  · try simp only [go_sem]
    all_goals (rfl)
theorem bo49 : hasBody Try.prog 49 = true := by kernel_rfl
theorem indexfunc_ct (l : List Sp) (t : Int) : PureCt Try.prog 49 [.list false (l.map Sp.d), .fn (.func 44) [] [.eptr [.i t]]] (.i (idxFrom l t 0)) := by
  refine pure_of_dw Try.func49 rfl bo49 (by simp [go_sem, D.nr, nrs]) (by simp [Try.f49]) ?_
  unfold Try.f49
  simp only [init_eq]
  refine dw_len 0 rfl fun hlen => ?_
  simp only [List.length_map, maxLen] at hlen
  refine dw_step (C := Cn) (by simp only [go_sem]; exact rfl) (fun h => by cases h) ?_ ?_
  · try simp only [go_sem]
    all_goals (first | done | (repeat' (with_reducible apply And.intro)) <;> first | omega | (with_reducible assumption) | (intros; omega) | (intros; simp only [decide_eq_true_eq, decide_eq_false_iff_not, Bool.or_eq_true, Bool.and_eq_true, Bool.or_eq_false_iff, Bool.not_eq_true', Bool.not_eq_false'] at *; omega) | (simp_all; done) | (simp_all; omega))
  refine dw_seq ?_
  refine dw_step (C := Cn) (by simp only [go_sem]; exact rfl) (fun h => by cases h) ?_ ?_
  · try simp only [go_sem]
    all_goals (first | done | (repeat' (with_reducible apply And.intro)) <;> first | omega | (with_reducible assumption) | (intros; omega) | (intros; simp only [decide_eq_true_eq, decide_eq_false_iff_not, Bool.or_eq_true, Bool.and_eq_true, Bool.or_eq_false_iff, Bool.not_eq_true', Bool.not_eq_false'] at *; omega) | (simp_all; done) | (simp_all; omega))
  refine dw_block ?_
  refine dw_loop_fix (α := (Nat) × Nat) [0, 1, 7] (fun ⟨k, nx⟩ => (k ≤ l.length) ∧ (idxFrom l t 0 = idxFrom l t k) ∧ True) (fun ⟨k, nx⟩ => l.length - k) (fun ⟨k, nx⟩ => [(8, .i k)]) (fun ⟨k, nx⟩ => []) (fun ⟨k, nx⟩ => nx) (0, _) (by simp only [List.map_cons, List.map_nil, go_sem]; exact rfl) ⟨(by first | (first | omega | (with_reducible assumption) | (simp_all; done) | (simp_all; omega)) | (dsimp only; first | omega | (with_reducible assumption) | (simp_all; done) | (simp_all; omega))), (by first | (rfl) | (dsimp only; rfl)), trivial⟩ (by first | (simp only [go_sem]; done) | (simp [go_sem]; done) | (simp only [go_sem]; (repeat' (with_reducible apply And.intro)) <;> first | (left; simp; done) | (right; simp [go_sem]; done))) (by first | (simp only [go_sem]; done) | simp [go_sem]) (Nat.le_refl _) ?_
  rintro ⟨k, nx⟩ ⟨hk, hv, -⟩
  show DW _ _ _ _ { n := _, t := tab _, h := _, nx := _, e := _ }
  simp only [List.cons_append, List.nil_append]
  refine dw_step (C := Cn) (by simp only [go_sem]; exact rfl) (fun h => by cases h) ?_ ?_
  · try simp only [go_sem]
    all_goals (first | done | (repeat' (with_reducible apply And.intro)) <;> first | omega | (with_reducible assumption) | (intros; omega) | (intros; simp only [decide_eq_true_eq, decide_eq_false_iff_not, Bool.or_eq_true, Bool.and_eq_true, Bool.or_eq_false_iff, Bool.not_eq_true', Bool.not_eq_false'] at *; omega) | (simp_all; done) | (simp_all; omega))
  refine dw_seq ?_
  refine dw_cond (by simp only [go_sem]; exact rfl) (fun c1 => ?_) (fun c1 => ?_)
  · skip
    have hk2 : k < l.length := by simpa using c1
    refine dw_skip ?_
    show DW _ _ _ _ _
    refine dw_seq ?_
    refine dw_block ?_
    refine dw_step (C := Cn) (by simp only [go_sem, getD_sp hk2]; exact rfl) (fun h => by cases h) ?_ ?_
    · try simp only [go_sem, getD_sp hk2]
      all_goals (first | done | (repeat' (with_reducible apply And.intro)) <;> first | omega | (with_reducible assumption) | (intros; omega) | (intros; simp only [decide_eq_true_eq, decide_eq_false_iff_not, Bool.or_eq_true, Bool.and_eq_true, Bool.or_eq_false_iff, Bool.not_eq_true', Bool.not_eq_false'] at *; omega) | (simp_all; done) | (simp_all; omega))
    refine dw_step (C := Cn) (by simp only [go_sem, getD_sp hk2]; exact rfl) (fun h => by cases h) ?_ ?_
    · try simp only [go_sem, getD_sp hk2]
      all_goals (first | done | ((repeat' (with_reducible apply And.intro)) <;> first | omega | exact has1_ct ⟨_, _⟩ _ | exact has1_ct _ _))
    refine dw_cond (by simp only [go_sem, getD_sp hk2]; exact rfl) (fun c2 => ?_) (fun c2 => ?_)
    · skip
      refine dw_step (C := Cn) (by simp only [go_sem, getD_sp hk2]; exact rfl) (fun h => by cases h) ?_ ?_
      · try simp only [go_sem, getD_sp hk2]
        all_goals (first | done | (repeat' (with_reducible apply And.intro)) <;> first | omega | (with_reducible assumption) | (intros; omega) | (intros; simp only [decide_eq_true_eq, decide_eq_false_iff_not, Bool.or_eq_true, Bool.and_eq_true, Bool.or_eq_false_iff, Bool.not_eq_true', Bool.not_eq_false'] at *; omega) | (simp_all; done) | (simp_all; omega))
      refine dw_ret ?_
      refine ⟨.inr rfl, ?_, ?_⟩
      · simp only [go_sem, getD_sp hk2]
      refine ⟨0, ?_, ?_⟩
      · try simp only [go_sem, getD_sp hk2]
        all_goals (simp)
      · try simp only [go_sem, getD_sp hk2]
        all_goals (rw [hv, idxFrom_eq, if_pos hk2, c2]; rfl)
    · skip
      refine dw_skip ?_
      show DW _ _ _ _ _
      refine dw_reg (C := Cn) (by simp only [go_sem, getD_sp hk2]; exact rfl) (fun h => by cases h) ?_ ?_
      · try simp only [go_sem, getD_sp hk2]
        all_goals (first | done | (repeat' (with_reducible apply And.intro)) <;> first | omega | (with_reducible assumption) | (intros; omega) | (intros; simp only [decide_eq_true_eq, decide_eq_false_iff_not, Bool.or_eq_true, Bool.and_eq_true, Bool.or_eq_false_iff, Bool.not_eq_true', Bool.not_eq_false'] at *; omega) | (simp_all; done) | (simp_all; omega))
      show ∃ _, _
      refine ⟨(k + 1, _), ⟨(by first | (first | omega | (with_reducible assumption) | (simp_all; done) | (simp_all; omega)) | (dsimp only; first | omega | (with_reducible assumption) | (simp_all; done) | (simp_all; omega))), (by first | (rw [hv, idxFrom_eq, if_pos hk2, c2]; rfl) | (dsimp only; rw [hv, idxFrom_eq, if_pos hk2, c2]; rfl)), trivial⟩, (by show (_ : Nat) < _; first | omega | simp_all; omega), ?_, ?_, ?_, Nat.le_refl _, rfl, rfl⟩
      · try simp only [go_sem, getD_sp hk2]
        all_goals (first | done | (simp; done) | (simp; omega) | ((repeat' (with_reducible apply And.intro)) <;> first | (left; simp; done) | (right; simp [go_sem]; done)))
      · try simp only [go_sem, getD_sp hk2]
        all_goals (first | done | (simp; done) | (simp; omega) | ((repeat' (with_reducible apply And.intro)) <;> first | (left; simp; done) | (right; simp [go_sem]; done)))
      · try simp only [go_sem, getD_sp hk2]
        all_goals (first | done | (simp; done) | (simp; omega) | ((repeat' (with_reducible apply And.intro)) <;> first | (left; simp; done) | (right; simp [go_sem]; done)))
  · skip
    try simp only [decide_eq_true_eq, decide_eq_false_iff_not, Bool.or_eq_true, Bool.and_eq_true, Bool.or_eq_false_iff, Bool.not_eq_true', Bool.not_eq_false'] at c1
    refine dw_exit ?_
    show DW _ _ _ _ _
    refine dw_step (C := Cn) (by simp only [go_sem]; exact rfl) (fun h => by cases h) ?_ ?_
    · try simp only [go_sem]
      all_goals (first | done | (repeat' (with_reducible apply And.intro)) <;> first | omega | (with_reducible assumption) | (intros; omega) | (intros; simp only [decide_eq_true_eq, decide_eq_false_iff_not, Bool.or_eq_true, Bool.and_eq_true, Bool.or_eq_false_iff, Bool.not_eq_true', Bool.not_eq_false'] at *; omega) | (simp_all; done) | (simp_all; omega))
    refine dw_ret ?_
    refine ⟨.inr rfl, ?_, ?_⟩
    · simp only [go_sem]
    refine ⟨0, ?_, ?_⟩
    · try simp only [go_sem]
      all_goals (simp)
    · try simp only [go_sem]
      all_goals (rw [hv, idxFrom_eq, if_neg (by omega)])
theorem bo43 : hasBody Try.prog 43 = true := by kernel_rfl
theorem containsfunc_ct (l : List Sp) (t : Int) : PureCt Try.prog 43 [.list false (l.map Sp.d), .fn (.func 44) [] [.eptr [.i t]]] (.b (rhas l t)) := by
  refine pure_of_dw Try.func43 rfl bo43 (by simp [go_sem, D.nr, nrs]) (by simp [Try.f43]) ?_
  unfold Try.f43
  simp only [init_eq]
  refine dw_step (C := Cn) (by simp only [go_sem]; exact rfl) (fun h => by cases h) ?_ ?_
  · try simp only [go_sem]
    all_goals (first | done | (repeat' (with_reducible apply And.intro)) <;> first | omega | (with_reducible assumption) | (intros; omega) | (intros; simp only [decide_eq_true_eq, decide_eq_false_iff_not, Bool.or_eq_true, Bool.and_eq_true, Bool.or_eq_false_iff, Bool.not_eq_true', Bool.not_eq_false'] at *; omega) | (simp_all; done) | (simp_all; omega))
  refine dw_step (C := Cn) (by simp only [go_sem]; exact rfl) (fun h => by cases h) ?_ ?_
  · try simp only [go_sem]
    all_goals (first | done | (repeat' (with_reducible apply And.intro)) <;> first | omega | (with_reducible assumption) | (intros; omega) | (intros; simp only [decide_eq_true_eq, decide_eq_false_iff_not, Bool.or_eq_true, Bool.and_eq_true, Bool.or_eq_false_iff, Bool.not_eq_true', Bool.not_eq_false'] at *; omega) | (simp_all; done) | (simp_all; omega) | (apply indexfunc_ct <;> omega) | (intros; apply indexfunc_ct <;> omega))
  refine dw_ret ?_
  refine ⟨.inr rfl, ?_, ?_⟩
  · simp only [go_sem]
  refine ⟨0, ?_, ?_⟩
  · try simp only [go_sem]
    all_goals (simp)
  · try simp only [go_sem]
    all_goals (rw [rhas, ← idx_has l t l.length 0 (by omega)])
theorem bo24 : hasBody Try.prog 24 = true := by kernel_rfl
theorem has_ct (l : List Sp) (t : Int) : PureCt Try.prog 24 [.list false (l.map Sp.d), .i t] (.b (rhas l t)) := by
  refine pure_of_dw Try.func24 rfl bo24 (by simp [go_sem, D.nr, nrs, Sp.d]) (by simp [Try.f24]) ?_
  unfold Try.f24
  simp only [init_eq]
  refine dw_step (C := Cn) (by simp only [go_sem]; exact rfl) (fun h => by cases h) ?_ ?_
  · try simp only [go_sem]
    all_goals (first | done | (repeat' (with_reducible apply And.intro)) <;> first | omega | (with_reducible assumption) | (intros; omega) | (intros; simp only [decide_eq_true_eq, decide_eq_false_iff_not, Bool.or_eq_true, Bool.and_eq_true, Bool.or_eq_false_iff, Bool.not_eq_true', Bool.not_eq_false'] at *; omega) | (simp_all; done) | (simp_all; omega))
  refine dw_step (C := Cn) (by simp only [go_sem]; exact rfl) (fun h => by cases h) ?_ ?_
  · try simp only [go_sem]
    all_goals (first | done | (repeat' (with_reducible apply And.intro)) <;> first | omega | (with_reducible assumption) | (intros; omega) | (intros; simp only [decide_eq_true_eq, decide_eq_false_iff_not, Bool.or_eq_true, Bool.and_eq_true, Bool.or_eq_false_iff, Bool.not_eq_true', Bool.not_eq_false'] at *; omega) | (simp_all; done) | (simp_all; omega) | (apply containsfunc_ct <;> omega) | (intros; apply containsfunc_ct <;> omega))
  refine dw_ret ?_
  refine ⟨.inr rfl, ?_, ?_⟩
  · simp only [go_sem]
  refine ⟨0, ?_, ?_⟩
  · try simp only [go_sem]
    all_goals (simp)
  · try simp only [go_sem]
    all_goals (rfl)
theorem bo35 : hasBody Try.prog 35 = true := by kernel_rfl
theorem union1_ct (x : Bool) (y : Bool) : PureCt Try.prog 35 [.b x, .b y] (.b (cnt 35 x y)) := by
  refine pure_of_dw Try.func35 rfl bo35 (by simp [go_sem, D.nr, nrs, Sp.d]) (by simp [Try.f35]) ?_
  unfold Try.f35
  simp only [init_eq]
  refine dw_step (C := Cn) (by simp only [go_sem]; exact rfl) (fun h => by cases h) ?_ ?_
  · try simp only [go_sem]
    all_goals (first | done | (repeat' (with_reducible apply And.intro)) <;> first | omega | (with_reducible assumption) | (intros; omega) | (intros; simp only [decide_eq_true_eq, decide_eq_false_iff_not, Bool.or_eq_true, Bool.and_eq_true, Bool.or_eq_false_iff, Bool.not_eq_true', Bool.not_eq_false'] at *; omega) | (simp_all; done) | (simp_all; omega))
  refine dw_step (C := Cn) (by simp only [go_sem]; exact rfl) (fun h => by cases h) ?_ ?_
  · try simp only [go_sem]
    all_goals (first | done | (repeat' (with_reducible apply And.intro)) <;> first | omega | (with_reducible assumption) | (intros; omega) | (intros; simp only [decide_eq_true_eq, decide_eq_false_iff_not, Bool.or_eq_true, Bool.and_eq_true, Bool.or_eq_false_iff, Bool.not_eq_true', Bool.not_eq_false'] at *; omega) | (simp_all; done) | (simp_all; omega))
  refine dw_ret ?_
  refine ⟨.inr rfl, ?_, ?_⟩
  · simp only [go_sem]
  refine ⟨0, ?_, ?_⟩
  · try simp only [go_sem]
    all_goals (simp)
  · try simp only [go_sem]
    all_goals (cases x <;> cases y <;> rfl)
theorem bo38 : hasBody Try.prog 38 = true := by kernel_rfl
theorem cross1_ct (x : Bool) (y : Bool) : PureCt Try.prog 38 [.b x, .b y] (.b (cnt 38 x y)) := by
  refine pure_of_dw Try.func38 rfl bo38 (by simp [go_sem, D.nr, nrs, Sp.d]) (by simp [Try.f38]) ?_
  unfold Try.f38
  simp only [init_eq]
  refine dw_step (C := Cn) (by simp only [go_sem]; exact rfl) (fun h => by cases h) ?_ ?_
  · try simp only [go_sem]
    all_goals (first | done | (repeat' (with_reducible apply And.intro)) <;> first | omega | (with_reducible assumption) | (intros; omega) | (intros; simp only [decide_eq_true_eq, decide_eq_false_iff_not, Bool.or_eq_true, Bool.and_eq_true, Bool.or_eq_false_iff, Bool.not_eq_true', Bool.not_eq_false'] at *; omega) | (simp_all; done) | (simp_all; omega))
  refine dw_step (C := Cn) (by simp only [go_sem]; exact rfl) (fun h => by cases h) ?_ ?_
  · try simp only [go_sem]
    all_goals (first | done | (repeat' (with_reducible apply And.intro)) <;> first | omega | (with_reducible assumption) | (intros; omega) | (intros; simp only [decide_eq_true_eq, decide_eq_false_iff_not, Bool.or_eq_true, Bool.and_eq_true, Bool.or_eq_false_iff, Bool.not_eq_true', Bool.not_eq_false'] at *; omega) | (simp_all; done) | (simp_all; omega))
  refine dw_ret ?_
  refine ⟨.inr rfl, ?_, ?_⟩
  · simp only [go_sem]
  refine ⟨0, ?_, ?_⟩
  · try simp only [go_sem]
    all_goals (simp)
  · try simp only [go_sem]
    all_goals (cases x <;> cases y <;> rfl)
theorem bo40 : hasBody Try.prog 40 = true := by kernel_rfl
theorem minus1_ct (x : Bool) (y : Bool) : PureCt Try.prog 40 [.b x, .b y] (.b (cnt 40 x y)) := by
  refine pure_of_dw Try.func40 rfl bo40 (by simp [go_sem, D.nr, nrs, Sp.d]) (by simp [Try.f40]) ?_
  unfold Try.f40
  simp only [init_eq]
  refine dw_step (C := Cn) (by simp only [go_sem]; exact rfl) (fun h => by cases h) ?_ ?_
  · try simp only [go_sem]
    all_goals (first | done | (repeat' (with_reducible apply And.intro)) <;> first | omega | (with_reducible assumption) | (intros; omega) | (intros; simp only [decide_eq_true_eq, decide_eq_false_iff_not, Bool.or_eq_true, Bool.and_eq_true, Bool.or_eq_false_iff, Bool.not_eq_true', Bool.not_eq_false'] at *; omega) | (simp_all; done) | (simp_all; omega))
  refine dw_step (C := Cn) (by simp only [go_sem]; exact rfl) (fun h => by cases h) ?_ ?_
  · try simp only [go_sem]
    all_goals (first | done | (repeat' (with_reducible apply And.intro)) <;> first | omega | (with_reducible assumption) | (intros; omega) | (intros; simp only [decide_eq_true_eq, decide_eq_false_iff_not, Bool.or_eq_true, Bool.and_eq_true, Bool.or_eq_false_iff, Bool.not_eq_true', Bool.not_eq_false'] at *; omega) | (simp_all; done) | (simp_all; omega))
  refine dw_ret ?_
  refine ⟨.inr rfl, ?_, ?_⟩
  · simp only [go_sem]
  refine ⟨0, ?_, ?_⟩
  · try simp only [go_sem]
    all_goals (simp)
  · try simp only [go_sem]
    all_goals (cases x <;> cases y <;> rfl)
theorem bo48 : hasBody Try.prog 48 = true := by kernel_rfl
theorem ends_ct (a : List Sp) (b : List Sp) : PureCt Try.prog 48 [.list false (a.map Sp.d), .list false (b.map Sp.d)] (.fn (.func 60) [] [.eptr [.list false (a.map Sp.d)], .eptr [.list false (b.map Sp.d)]]) := by
  refine pure_of_dw Try.func48 rfl bo48 (by simp [go_sem, D.nr, nrs, Sp.d]) (by simp [Try.f48]) ?_
  unfold Try.f48
  simp only [init_eq]
  refine dw_step (C := Cn) (by simp only [go_sem]; exact rfl) (fun h => by cases h) ?_ ?_
  · try simp only [go_sem]
    all_goals (first | done | (repeat' (with_reducible apply And.intro)) <;> first | omega | (with_reducible assumption) | (intros; omega) | (intros; simp only [decide_eq_true_eq, decide_eq_false_iff_not, Bool.or_eq_true, Bool.and_eq_true, Bool.or_eq_false_iff, Bool.not_eq_true', Bool.not_eq_false'] at *; omega) | (simp_all; done) | (simp_all; omega))
  refine dw_step (C := Cn) (by simp only [go_sem]; exact rfl) (fun h => by cases h) ?_ ?_
  · try simp only [go_sem]
    all_goals (first | done | (repeat' (with_reducible apply And.intro)) <;> first | omega | (with_reducible assumption) | (intros; omega) | (intros; simp only [decide_eq_true_eq, decide_eq_false_iff_not, Bool.or_eq_true, Bool.and_eq_true, Bool.or_eq_false_iff, Bool.not_eq_true', Bool.not_eq_false'] at *; omega) | (simp_all; done) | (simp_all; omega))
  refine dw_ret ?_
  refine ⟨.inr rfl, ?_, ?_⟩
  · simp only [go_sem]
  refine ⟨2, ?_, ?_⟩
  · try simp only [go_sem]
    all_goals (simp)
  · try simp only [go_sem]
    all_goals (rfl)
theorem bo26 : hasBody Try.prog 26 = true := by kernel_rfl
theorem spans_ct (l : List Int) (hl : l.length ≤ 1000) : PureCt Try.prog 26 [.list false (l.map iD)] (.list false ((spans l).map Sp.d)) := by
  rw [spans]
  refine pure_of_dw Try.func26 rfl bo26 (by simp [go_sem, D.nr, nrs, iD]) (by simp [Try.f26]) ?_
  unfold Try.f26
  simp only [init_eq]
  refine dw_step (C := Cn) (by simp only [go_sem]; exact rfl) (fun h => by cases h) ?_ ?_
  · try simp only [go_sem]
    all_goals (first | done | (repeat' (with_reducible apply And.intro)) <;> first | omega | (with_reducible assumption) | (intros; omega) | (intros; simp only [decide_eq_true_eq, decide_eq_false_iff_not, Bool.or_eq_true, Bool.and_eq_true, Bool.or_eq_false_iff, Bool.not_eq_true', Bool.not_eq_false'] at *; omega) | (simp_all; done) | (simp_all; omega))
  refine dw_step (C := Cn) (by simp only [go_sem]; exact rfl) (fun h => by cases h) ?_ ?_
  · try simp only [go_sem]
    all_goals (first | done | (repeat' (with_reducible apply And.intro)) <;> first | omega | (with_reducible assumption) | (intros; omega) | (intros; simp only [decide_eq_true_eq, decide_eq_false_iff_not, Bool.or_eq_true, Bool.and_eq_true, Bool.or_eq_false_iff, Bool.not_eq_true', Bool.not_eq_false'] at *; omega) | (simp_all; done) | (simp_all; omega))
  refine dw_seq ?_
  refine dw_step (C := Cn) (by simp only [go_sem]; exact rfl) (fun h => by cases h) ?_ ?_
  · try simp only [go_sem]
    all_goals (first | done | (repeat' (with_reducible apply And.intro)) <;> first | omega | (with_reducible assumption) | (intros; omega) | (intros; simp only [decide_eq_true_eq, decide_eq_false_iff_not, Bool.or_eq_true, Bool.and_eq_true, Bool.or_eq_false_iff, Bool.not_eq_true', Bool.not_eq_false'] at *; omega) | (simp_all; done) | (simp_all; omega))
  refine dw_block ?_
  refine dw_own 3 34 (by simp only [go_sem]) (by simp only [go_sem]) ?_
  refine dw_loop_fix (α := (Nat) × (List Sp) × (Nat) × Nat) [0] (fun ⟨k, out, r, nx⟩ => (k ≤ l.length + 1) ∧ (out.length ≤ k) ∧ (spansFrom l 0 [] = spansFrom l k out) ∧ (r < nx) ∧ True) (fun ⟨k, out, r, nx⟩ => l.length + 1 - k) (fun ⟨k, out, r, nx⟩ => [(3, .mrow r 0 out.length), (4, .i k)]) (fun ⟨k, out, r, nx⟩ => [(r, ⟨34, out.map Sp.d⟩)]) (fun ⟨k, out, r, nx⟩ => nx) (0, [], 3, _) (by simp only [List.map_cons, List.map_nil, go_sem]; exact rfl) ⟨(by first | (first | omega | (with_reducible assumption) | (simp_all; done) | (simp_all; omega)) | (dsimp only; first | omega | (with_reducible assumption) | (simp_all; done) | (simp_all; omega))), (by first | (simp) | (dsimp only; simp)), (by first | (rfl) | (dsimp only; rfl)), (by first | (first | omega | (with_reducible assumption) | (simp_all; done) | (simp_all; omega)) | (dsimp only; first | omega | (with_reducible assumption) | (simp_all; done) | (simp_all; omega))), trivial⟩ (by first | (simp only [go_sem]; done) | (simp [go_sem]; done) | (simp only [go_sem]; (repeat' (with_reducible apply And.intro)) <;> first | (left; simp; done) | (right; simp [go_sem]; done))) (by first | (simp only [go_sem]; done) | simp [go_sem]) (Nat.le_refl _) ?_
  rintro ⟨k, out, r, nx⟩ ⟨hk, ho, hv, hr, -⟩
  show DW _ _ _ _ { n := _, t := tab _, h := _, nx := _, e := _ }
  simp only [List.cons_append, List.nil_append]
  refine dw_seq ?_
  refine dw_step (C := Cn) (by simp only [go_sem, hr]; exact rfl) (fun h => by cases h) ?_ ?_
  · try simp only [go_sem, hr]
    all_goals (first | done | (repeat' (with_reducible apply And.intro)) <;> first | omega | (with_reducible assumption) | (intros; omega) | (intros; simp only [decide_eq_true_eq, decide_eq_false_iff_not, Bool.or_eq_true, Bool.and_eq_true, Bool.or_eq_false_iff, Bool.not_eq_true', Bool.not_eq_false'] at *; omega) | (simp_all; done) | (simp_all; omega))
  refine dw_cond (by simp only [go_sem, hr]; exact rfl) (fun c1 => ?_) (fun c1 => ?_)
  · skip
    have hk4 : (k:Int) + 1 < l.length := by simpa using c1
    have hk2 : k + 1 < l.length := by omega
    have hk3 : k < l.length := by omega
    have e1 : ((k:Int) + 1).toNat = k + 1 := by omega
    refine dw_skip ?_
    show DW _ _ _ _ _
    refine dw_seq ?_
    refine dw_block ?_
    refine dw_reg (C := Cn) (by simp only [go_sem, hr, getD_i hk2, getD_i hk3, e1]; exact rfl) (fun _ => ⟨mix, by kernel_rfl, by kernel_rfl⟩) ?_ ?_
    · try simp only [go_sem, hr, getD_i hk2, getD_i hk3, e1]
      all_goals (first | done | (repeat' (with_reducible apply And.intro)) <;> first | omega | (with_reducible assumption) | (intros; omega) | (intros; simp only [decide_eq_true_eq, decide_eq_false_iff_not, Bool.or_eq_true, Bool.and_eq_true, Bool.or_eq_false_iff, Bool.not_eq_true', Bool.not_eq_false'] at *; omega) | (simp_all; done) | (simp_all; omega))
    show DW _ _ _ _ _
    refine dw_reg (C := Cn) (by simp only [go_sem, hr, getD_i hk2, getD_i hk3, e1]; exact rfl) (fun h => by cases h) ?_ ?_
    · try simp only [go_sem, hr, getD_i hk2, getD_i hk3, e1]
      all_goals (first | done | (repeat' (with_reducible apply And.intro)) <;> first | omega | (with_reducible assumption) | (intros; omega) | (intros; simp only [decide_eq_true_eq, decide_eq_false_iff_not, Bool.or_eq_true, Bool.and_eq_true, Bool.or_eq_false_iff, Bool.not_eq_true', Bool.not_eq_false'] at *; omega) | (simp_all; done) | (simp_all; omega))
    show ∃ _, _
    refine ⟨(k + 2, out ++ [⟨l[k]!, l[k + 1]!⟩], (nx + 17), _), ⟨(by first | (first | omega | (with_reducible assumption) | (simp_all; done) | (simp_all; omega)) | (dsimp only; first | omega | (with_reducible assumption) | (simp_all; done) | (simp_all; omega))), (by first | (simp; omega) | (dsimp only; simp; omega)), (by first | (rw [hv, spansFrom_eq, if_pos (by omega)]) | (dsimp only; rw [hv, spansFrom_eq, if_pos (by omega)])), (by first | (first | omega | (with_reducible assumption) | (simp_all; done) | (simp_all; omega)) | (dsimp only; first | omega | (with_reducible assumption) | (simp_all; done) | (simp_all; omega))), trivial⟩, (by show (_ : Nat) < _; first | omega | simp_all; omega), ?_, ?_, ?_, Nat.le_refl _, rfl, rfl⟩
    · try simp only [go_sem, hr, getD_i hk2, getD_i hk3, e1]
      all_goals (first | done | (simp [Sp.d]; done) | (simp [Sp.d]; omega))
    · try simp only [go_sem, hr, getD_i hk2, getD_i hk3, e1]
      all_goals (first | done | (simp [Sp.d]; done) | (simp [Sp.d]; omega))
    · try simp only [go_sem, hr, getD_i hk2, getD_i hk3, e1]
      all_goals (first | done | (simp [Sp.d]; done) | (simp [Sp.d]; omega))
  · skip
    try simp only [decide_eq_true_eq, decide_eq_false_iff_not, Bool.or_eq_true, Bool.and_eq_true, Bool.or_eq_false_iff, Bool.not_eq_true', Bool.not_eq_false'] at c1
    refine dw_exit ?_
    show DW _ _ _ _ _
    refine dw_step (C := Cn) (by simp only [go_sem, hr]; exact rfl) (fun h => by cases h) ?_ ?_
    · try simp only [go_sem, hr]
      all_goals (first | done | (repeat' (with_reducible apply And.intro)) <;> first | omega | (with_reducible assumption) | (intros; omega) | (intros; simp only [decide_eq_true_eq, decide_eq_false_iff_not, Bool.or_eq_true, Bool.and_eq_true, Bool.or_eq_false_iff, Bool.not_eq_true', Bool.not_eq_false'] at *; omega) | (simp_all; done) | (simp_all; omega))
    refine dw_ret ?_
    refine ⟨.inr rfl, ?_, ?_⟩
    · simp only [go_sem, hr]
    refine ⟨1, ?_, ?_⟩
    · try simp only [go_sem, hr]
      all_goals (simp)
    · try simp only [go_sem, hr]
      all_goals (rw [hv, spansFrom_eq, if_neg (by omega)])
end Go.Proofs.Ytfcdbijmoiegiaa
