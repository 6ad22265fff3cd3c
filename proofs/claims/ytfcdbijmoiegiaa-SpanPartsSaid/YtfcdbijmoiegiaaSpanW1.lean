import Derived.Test.YtfcdbijmoiegiaaSpanCon
namespace Go.Proofs.Ytfcdbijmoiegiaa
open Go.DL Go.Span
set_option maxRecDepth 10000
set_option linter.unusedSimpArgs false
set_option linter.unusedVariables false
theorem bo10 : hasBody Try.prog 10 = true := by kernel_rfl
theorem rfew_ct (l : List Sp) : PureCt Try.prog 10 [.list false (l.map Sp.d)] (.b (rfew l)) := by
  refine pure_of_dw Try.func10 rfl bo10 (by simp [go_sem, D.nr]) (by simp [Try.f10]) ?_
  unfold Try.f10
  simp only [init_eq]
  refine dw_step (C := Cn) (by simp only [go_sem]; exact rfl) (fun h => by cases h) ?_ ?_
  · try simp only [go_sem]
    all_goals (first | done | (repeat' (with_reducible apply And.intro)) <;> first | omega | (with_reducible assumption) | (intros; omega) | (intros; simp only [decide_eq_true_eq, decide_eq_false_iff_not, Bool.or_eq_true, Bool.and_eq_true, Bool.or_eq_false_iff, Bool.not_eq_true', Bool.not_eq_false'] at *; omega) | (simp_all; done) | (simp_all; omega))
  refine dw_step (C := Cn) (by simp only [go_sem]; exact rfl) (fun h => by cases h) ?_ ?_
  · try simp only [go_sem]
    all_goals (first | done | (repeat' (with_reducible apply And.intro)) <;> first | omega | (with_reducible assumption) | (intros; omega) | (intros; simp only [decide_eq_true_eq, decide_eq_false_iff_not, Bool.or_eq_true, Bool.and_eq_true, Bool.or_eq_false_iff, Bool.not_eq_true', Bool.not_eq_false'] at *; omega) | (simp_all; done) | (simp_all; omega))
  refine dw_ret ?_
  refine ⟨.inr rfl, ?_, ?_⟩
  · simp only [go_sem]
  refine ⟨0, ?_, ?_⟩
  · try simp only [go_sem]
    all_goals (simp)
  · try simp only [go_sem]
    all_goals (rfl)
theorem bo22 : hasBody Try.prog 22 = true := by kernel_rfl
theorem valid_ct (l : List Sp) : PureCt Try.prog 22 [.list false (l.map Sp.d)] (.b (valid l)) := by
  rw [valid]
  refine pure_of_dw Try.func22 rfl bo22 (by simp [go_sem, D.nr]) (by simp [Try.f22]) ?_
  unfold Try.f22
  simp only [init_eq]
  refine dw_len 0 rfl fun hlen => ?_
  simp only [List.length_map, maxLen] at hlen
  refine dw_step (C := Cn) (by simp only [go_sem]; exact rfl) (fun h => by cases h) ?_ ?_
  · try simp only [go_sem]
    all_goals (first | done | (repeat' (with_reducible apply And.intro)) <;> first | omega | (with_reducible assumption) | (intros; omega) | (intros; simp only [decide_eq_true_eq, decide_eq_false_iff_not, Bool.or_eq_true, Bool.and_eq_true, Bool.or_eq_false_iff, Bool.not_eq_true', Bool.not_eq_false'] at *; omega) | (simp_all; done) | (simp_all; omega))
  refine dw_seq ?_
  refine dw_step (C := Cn) (by simp only [go_sem]; exact rfl) (fun h => by cases h) ?_ ?_
  · try simp only [go_sem]
    all_goals (first | done | (repeat' (with_reducible apply And.intro)) <;> first | omega | (with_reducible assumption) | (intros; omega) | (intros; simp only [decide_eq_true_eq, decide_eq_false_iff_not, Bool.or_eq_true, Bool.and_eq_true, Bool.or_eq_false_iff, Bool.not_eq_true', Bool.not_eq_false'] at *; omega) | (simp_all; done) | (simp_all; omega))
  refine dw_cond (by simp only [go_sem]; exact rfl) (fun c1 => ?_) (fun c1 => ?_)
  · skip
    try simp only [decide_eq_true_eq, decide_eq_false_iff_not, Bool.or_eq_true, Bool.and_eq_true, Bool.or_eq_false_iff, Bool.not_eq_true', Bool.not_eq_false'] at c1
    refine dw_step (C := Cn) (by simp only [go_sem]; exact rfl) (fun h => by cases h) ?_ ?_
    · try simp only [go_sem]
      all_goals (first | done | (repeat' (with_reducible apply And.intro)) <;> first | omega | (with_reducible assumption) | (intros; omega) | (intros; simp only [decide_eq_true_eq, decide_eq_false_iff_not, Bool.or_eq_true, Bool.and_eq_true, Bool.or_eq_false_iff, Bool.not_eq_true', Bool.not_eq_false'] at *; omega) | (simp_all; done) | (simp_all; omega))
    refine dw_ret ?_
    refine ⟨.inr rfl, ?_, ?_⟩
    · simp only [go_sem]
    refine ⟨0, ?_, ?_⟩
    · try simp only [go_sem]
      all_goals (simp)
    · try simp only [go_sem]
      all_goals (rw [if_pos c1])
  · skip
    try simp only [decide_eq_true_eq, decide_eq_false_iff_not, Bool.or_eq_true, Bool.and_eq_true, Bool.or_eq_false_iff, Bool.not_eq_true', Bool.not_eq_false'] at c1
    refine dw_skip ?_
    show DW _ _ _ _ _
    refine dw_seq ?_
    refine dw_step (C := Cn) (by simp only [go_sem]; exact rfl) (fun h => by cases h) ?_ ?_
    · try simp only [go_sem]
      all_goals (first | done | (repeat' (with_reducible apply And.intro)) <;> first | omega | (with_reducible assumption) | (intros; omega) | (intros; simp only [decide_eq_true_eq, decide_eq_false_iff_not, Bool.or_eq_true, Bool.and_eq_true, Bool.or_eq_false_iff, Bool.not_eq_true', Bool.not_eq_false'] at *; omega) | (simp_all; done) | (simp_all; omega))
    refine dw_block ?_
    refine dw_loop_fix (α := (Nat) × Nat) [0, 8, 9] (fun ⟨k, nx⟩ => (k ≤ l.length) ∧ (noBad l 0 = noBad l k) ∧ True) (fun ⟨k, nx⟩ => l.length - k) (fun ⟨k, nx⟩ => [(10, .i k)]) (fun ⟨k, nx⟩ => []) (fun ⟨k, nx⟩ => nx) (0, _) (by simp only [List.map_cons, List.map_nil, go_sem]; exact rfl) ⟨(by first | (first | omega | (with_reducible assumption) | (simp_all; done) | (simp_all; omega)) | (dsimp only; first | omega | (with_reducible assumption) | (simp_all; done) | (simp_all; omega))), (by first | (first | omega | (with_reducible assumption) | (simp_all; done) | (simp_all; omega)) | (dsimp only; first | omega | (with_reducible assumption) | (simp_all; done) | (simp_all; omega))), trivial⟩ (by first | (simp only [go_sem]; done) | (simp [go_sem]; done) | (simp only [go_sem]; (repeat' (with_reducible apply And.intro)) <;> first | (left; simp; done) | (right; simp [go_sem]; done))) (by first | (simp only [go_sem]; done) | simp [go_sem]) (Nat.le_refl _) ?_
    rintro ⟨k, nx⟩ ⟨hk, hv, -⟩
    show DW _ _ _ _ { n := _, t := tab _, h := _, nx := _, e := _ }
    simp only [List.cons_append, List.nil_append]
    refine dw_step (C := Cn) (by simp only [go_sem]; exact rfl) (fun h => by cases h) ?_ ?_
    · try simp only [go_sem]
      all_goals (first | done | (repeat' (with_reducible apply And.intro)) <;> first | omega | (with_reducible assumption) | (intros; omega) | (intros; simp only [decide_eq_true_eq, decide_eq_false_iff_not, Bool.or_eq_true, Bool.and_eq_true, Bool.or_eq_false_iff, Bool.not_eq_true', Bool.not_eq_false'] at *; omega) | (simp_all; done) | (simp_all; omega))
    refine dw_seq ?_
    refine dw_cond (by simp only [go_sem]; exact rfl) (fun c2 => ?_) (fun c2 => ?_)
    · skip
      have hk2 : k < l.length := by simpa using c2
      refine dw_skip ?_
      show DW _ _ _ _ _
      refine dw_seq ?_
      refine dw_block ?_
      refine dw_step (C := Cn) (by simp only [go_sem, getD_sp hk2]; exact rfl) (fun h => by cases h) ?_ ?_
      · try simp only [go_sem, getD_sp hk2]
        all_goals (first | done | (repeat' (with_reducible apply And.intro)) <;> first | omega | (with_reducible assumption) | (intros; omega) | (intros; simp only [decide_eq_true_eq, decide_eq_false_iff_not, Bool.or_eq_true, Bool.and_eq_true, Bool.or_eq_false_iff, Bool.not_eq_true', Bool.not_eq_false'] at *; omega) | (simp_all; done) | (simp_all; omega))
      have e1 : ((k:Int) - 1).toNat = k - 1 := by omega
      have hk1 : k - 1 < l.length := by omega
      refine dw_step (C := Cn) (by simp only [go_sem, getD_sp hk2, e1, getD_sp hk1]; exact rfl) (fun _ => ⟨mix, by kernel_rfl, by kernel_rfl⟩) ?_ ?_
      · try simp only [go_sem, getD_sp hk2, e1, getD_sp hk1]
        all_goals (first | done | (repeat' (with_reducible apply And.intro)) <;> first | omega | (with_reducible assumption) | (intros; omega) | (intros; simp only [decide_eq_true_eq, decide_eq_false_iff_not, Bool.or_eq_true, Bool.and_eq_true, Bool.or_eq_false_iff, Bool.not_eq_true', Bool.not_eq_false'] at *; omega) | (simp_all; done) | (simp_all; omega))
      refine dw_cond (by simp only [go_sem, getD_sp hk2, e1, getD_sp hk1]; exact rfl) (fun c3 => ?_) (fun c3 => ?_)
      · skip
        refine dw_step (C := Cn) (by simp only [go_sem]; exact rfl) (fun h => by cases h) ?_ ?_
        · try simp only [go_sem]
          all_goals (first | done | (repeat' (with_reducible apply And.intro)) <;> first | omega | (with_reducible assumption) | (intros; omega) | (intros; simp only [decide_eq_true_eq, decide_eq_false_iff_not, Bool.or_eq_true, Bool.and_eq_true, Bool.or_eq_false_iff, Bool.not_eq_true', Bool.not_eq_false'] at *; omega) | (simp_all; done) | (simp_all; omega))
        refine dw_ret ?_
        refine ⟨.inr rfl, ?_, ?_⟩
        · simp only [go_sem]
        refine ⟨0, ?_, ?_⟩
        · try simp only [go_sem]
          all_goals (simp)
        · try simp only [go_sem]
          all_goals (rw [if_neg c1, hv, noBad_eq, if_pos hk2, badAt, c3]; rfl)
      · skip
        refine dw_skip ?_
        show DW _ _ _ _ _
        refine dw_reg (C := Cn) (by simp only [go_sem]; exact rfl) (fun h => by cases h) ?_ ?_
        · try simp only [go_sem]
          all_goals (first | done | (repeat' (with_reducible apply And.intro)) <;> first | omega | (with_reducible assumption) | (intros; omega) | (intros; simp only [decide_eq_true_eq, decide_eq_false_iff_not, Bool.or_eq_true, Bool.and_eq_true, Bool.or_eq_false_iff, Bool.not_eq_true', Bool.not_eq_false'] at *; omega) | (simp_all; done) | (simp_all; omega))
        show ∃ _, _
        refine ⟨(k + 1, _), ⟨(by first | (first | omega | (with_reducible assumption) | (simp_all; done) | (simp_all; omega)) | (dsimp only; first | omega | (with_reducible assumption) | (simp_all; done) | (simp_all; omega))), (by first | (rw [hv, noBad_eq, if_pos hk2, badAt, c3]; rfl) | (dsimp only; rw [hv, noBad_eq, if_pos hk2, badAt, c3]; rfl)), trivial⟩, (by show (_ : Nat) < _; first | omega | simp_all; omega), ?_, ?_, ?_, Nat.le_refl _, rfl, rfl⟩
        · try simp only [go_sem]
          all_goals (first | done | (simp; done) | (simp; omega) | ((repeat' (with_reducible apply And.intro)) <;> first | (left; simp; done) | (right; simp [go_sem]; done)))
        · try simp only [go_sem]
          all_goals (first | done | (simp; done) | (simp; omega) | ((repeat' (with_reducible apply And.intro)) <;> first | (left; simp; done) | (right; simp [go_sem]; done)))
        · try simp only [go_sem]
          all_goals (first | done | (simp; done) | (simp; omega) | ((repeat' (with_reducible apply And.intro)) <;> first | (left; simp; done) | (right; simp [go_sem]; done)))
    · skip
      try simp only [decide_eq_true_eq, decide_eq_false_iff_not, Bool.or_eq_true, Bool.and_eq_true, Bool.or_eq_false_iff, Bool.not_eq_true', Bool.not_eq_false'] at c2
      refine dw_exit ?_
      show DW _ _ _ _ _
      refine dw_step (C := Cn) (by simp only [go_sem]; exact rfl) (fun h => by cases h) ?_ ?_
      · try simp only [go_sem]
        all_goals (first | done | (repeat' (with_reducible apply And.intro)) <;> first | omega | (with_reducible assumption) | (intros; omega) | (intros; simp only [decide_eq_true_eq, decide_eq_false_iff_not, Bool.or_eq_true, Bool.and_eq_true, Bool.or_eq_false_iff, Bool.not_eq_true', Bool.not_eq_false'] at *; omega) | (simp_all; done) | (simp_all; omega))
      refine dw_ret ?_
      refine ⟨.inr rfl, ?_, ?_⟩
      · simp only [go_sem]
      refine ⟨0, ?_, ?_⟩
      · try simp only [go_sem]
        all_goals (simp)
      · try simp only [go_sem]
        all_goals (rw [if_neg c1, hv, noBad_eq, if_neg (by omega)])
theorem bo42 : hasBody Try.prog 42 = true := by kernel_rfl
theorem with1_ct (l : List Sp) (s : Sp) (hl : l.length ≤ 1000000) : PureCt Try.prog 42 [.list false (l.map Sp.d), .agg s.d] (.list false ((with1 l s).map Sp.d)) := by
  rw [with1]
  refine pure_of_dw Try.func42 rfl bo42 (by simp [go_sem, D.nr, nrs, Sp.d]) (by simp [Try.f42]) ?_
  unfold Try.f42
  simp only [init_eq]
  refine dw_step (C := Cn) (by simp only [go_sem]; exact rfl) (fun h => by cases h) ?_ ?_
  · try simp only [go_sem]
    all_goals (first | done | (repeat' (with_reducible apply And.intro)) <;> first | omega | (with_reducible assumption) | (intros; omega) | (intros; simp only [decide_eq_true_eq, decide_eq_false_iff_not, Bool.or_eq_true, Bool.and_eq_true, Bool.or_eq_false_iff, Bool.not_eq_true', Bool.not_eq_false'] at *; omega) | (simp_all; done) | (simp_all; omega))
  refine dw_seq ?_
  refine dw_step (C := Cn) (by simp only [go_sem]; exact rfl) (fun h => by cases h) ?_ ?_
  · try simp only [go_sem]
    all_goals (first | done | (repeat' (with_reducible apply And.intro)) <;> first | omega | (with_reducible assumption) | (intros; omega) | (intros; simp only [decide_eq_true_eq, decide_eq_false_iff_not, Bool.or_eq_true, Bool.and_eq_true, Bool.or_eq_false_iff, Bool.not_eq_true', Bool.not_eq_false'] at *; omega) | (simp_all; done) | (simp_all; omega))
  refine dw_cond (by simp only [go_sem]; exact rfl) (fun c1 => ?_) (fun c1 => ?_)
  · skip
    try simp only [decide_eq_true_eq, decide_eq_false_iff_not, Bool.or_eq_true, Bool.and_eq_true, Bool.or_eq_false_iff, Bool.not_eq_true', Bool.not_eq_false'] at c1
    refine dw_step (C := Cn) (by simp only [go_sem]; exact rfl) (fun h => by cases h) ?_ ?_
    · try simp only [go_sem]
      all_goals (first | done | (repeat' (with_reducible apply And.intro)) <;> first | omega | (with_reducible assumption) | (intros; omega) | (intros; simp only [decide_eq_true_eq, decide_eq_false_iff_not, Bool.or_eq_true, Bool.and_eq_true, Bool.or_eq_false_iff, Bool.not_eq_true', Bool.not_eq_false'] at *; omega) | (simp_all; done) | (simp_all; omega))
    refine dw_ret ?_
    refine ⟨.inr rfl, ?_, ?_⟩
    · simp only [go_sem]
    refine ⟨1, ?_, ?_⟩
    · try simp only [go_sem]
      all_goals (simp)
    · try simp only [go_sem]
      all_goals (rw [if_pos c1])
  · skip
    try simp only [decide_eq_true_eq, decide_eq_false_iff_not, Bool.or_eq_true, Bool.and_eq_true, Bool.or_eq_false_iff, Bool.not_eq_true', Bool.not_eq_false'] at c1
    refine dw_skip ?_
    show DW _ _ _ _ _
    refine dw_step (C := Cn) (by simp only [go_sem]; exact rfl) (fun h => by cases h) ?_ ?_
    · try simp only [go_sem]
      all_goals (first | done | (repeat' (with_reducible apply And.intro)) <;> first | omega | (with_reducible assumption) | (intros; omega) | (intros; simp only [decide_eq_true_eq, decide_eq_false_iff_not, Bool.or_eq_true, Bool.and_eq_true, Bool.or_eq_false_iff, Bool.not_eq_true', Bool.not_eq_false'] at *; omega) | (simp_all; done) | (simp_all; omega))
    refine dw_step (C := Cn) (by simp only [go_sem]; exact rfl) (fun h => by cases h) ?_ ?_
    · try simp only [go_sem]
      all_goals (first | done | (repeat' (with_reducible apply And.intro)) <;> first | omega | (with_reducible assumption) | (intros; omega) | (intros; simp only [decide_eq_true_eq, decide_eq_false_iff_not, Bool.or_eq_true, Bool.and_eq_true, Bool.or_eq_false_iff, Bool.not_eq_true', Bool.not_eq_false'] at *; omega) | (simp_all; done) | (simp_all; omega))
    refine dw_seq ?_
    refine dw_step (C := Cn) (by simp only [go_sem]; exact rfl) (fun h => by cases h) ?_ ?_
    · try simp only [go_sem]
      all_goals (first | done | (repeat' (with_reducible apply And.intro)) <;> first | omega | (with_reducible assumption) | (intros; omega) | (intros; simp only [decide_eq_true_eq, decide_eq_false_iff_not, Bool.or_eq_true, Bool.and_eq_true, Bool.or_eq_false_iff, Bool.not_eq_true', Bool.not_eq_false'] at *; omega) | (simp_all; done) | (simp_all; omega))
    refine dw_block ?_
    refine dw_own 5 34 (by simp only [go_sem]) (by simp only [go_sem]) ?_
    refine dw_loop_fix (α := (Nat) × (List Sp) × (Bool) × (Sp) × (Nat) × Nat) [0, 3] (fun ⟨k, out, put, s1, r, nx⟩ => (k ≤ l.length) ∧ (out.length ≤ 2 * k) ∧ (withFrom l 0 [] false s = withFrom l k out put s1) ∧ (0 < r) ∧ (r < nx) ∧ True) (fun ⟨k, out, put, s1, r, nx⟩ => l.length - k) (fun ⟨k, out, put, s1, r, nx⟩ => [(5, .mrow r 0 out.length), (6, .b put), (7, .i k)]) (fun ⟨k, out, put, s1, r, nx⟩ => [(0, ⟨34, [s1.d]⟩), (r, ⟨34, out.map Sp.d⟩)]) (fun ⟨k, out, put, s1, r, nx⟩ => nx) (0, [], false, s, 10, _) (by simp only [List.map_cons, List.map_nil, go_sem]; exact rfl) ⟨(by first | (first | omega | (with_reducible assumption) | (simp_all; done) | (simp_all; omega)) | (dsimp only; first | omega | (with_reducible assumption) | (simp_all; done) | (simp_all; omega))), (by first | (simp) | (dsimp only; simp)), (by first | (rfl) | (dsimp only; rfl)), (by first | (first | omega | (with_reducible assumption) | (simp_all; done) | (simp_all; omega)) | (dsimp only; first | omega | (with_reducible assumption) | (simp_all; done) | (simp_all; omega))), (by first | (first | omega | (with_reducible assumption) | (simp_all; done) | (simp_all; omega)) | (dsimp only; first | omega | (with_reducible assumption) | (simp_all; done) | (simp_all; omega))), trivial⟩ (by first | (simp only [go_sem]; done) | (simp [go_sem]; done) | (simp only [go_sem]; (repeat' (with_reducible apply And.intro)) <;> first | (left; simp; done) | (right; simp [go_sem]; done))) (by first | (simp only [go_sem]; done) | simp [go_sem]) (Nat.le_refl _) ?_
    rintro ⟨k, out, put, s1, r, nx⟩ ⟨hk, ho, hv, hr0, hr, -⟩
    show DW _ _ _ _ { n := _, t := tab _, h := _, nx := _, e := _ }
    simp only [List.cons_append, List.nil_append]
    refine dw_seq ?_
    refine dw_step (C := Cn) (by simp only [go_sem, hr, Nat.pos_iff_ne_zero.1 hr0, (Nat.pos_iff_ne_zero.1 hr0).symm]; exact rfl) (fun h => by cases h) ?_ ?_
    · try simp only [go_sem, hr, Nat.pos_iff_ne_zero.1 hr0, (Nat.pos_iff_ne_zero.1 hr0).symm]
      all_goals (first | done | (repeat' (with_reducible apply And.intro)) <;> first | omega | (with_reducible assumption) | (intros; omega) | (intros; simp only [decide_eq_true_eq, decide_eq_false_iff_not, Bool.or_eq_true, Bool.and_eq_true, Bool.or_eq_false_iff, Bool.not_eq_true', Bool.not_eq_false'] at *; omega) | (simp_all; done) | (simp_all; omega))
    refine dw_cond (by simp only [go_sem, hr, Nat.pos_iff_ne_zero.1 hr0, (Nat.pos_iff_ne_zero.1 hr0).symm]; exact rfl) (fun c2 => ?_) (fun c2 => ?_)
    · skip
      have hk2 : k < l.length := by simpa using c2
      refine dw_skip ?_
      show DW _ _ _ _ _
      refine dw_seq ?_
      refine dw_block ?_
      refine dw_seq ?_
      refine dw_step (C := Cn) (by simp only [go_sem, hr, Nat.pos_iff_ne_zero.1 hr0, (Nat.pos_iff_ne_zero.1 hr0).symm, getD_sp hk2]; exact rfl) (fun _ => ⟨mix, by kernel_rfl, by kernel_rfl⟩) ?_ ?_
      · try simp only [go_sem, hr, Nat.pos_iff_ne_zero.1 hr0, (Nat.pos_iff_ne_zero.1 hr0).symm, getD_sp hk2]
        all_goals (first | done | (repeat' (with_reducible apply And.intro)) <;> first | omega | (with_reducible assumption) | (intros; omega) | (intros; simp only [decide_eq_true_eq, decide_eq_false_iff_not, Bool.or_eq_true, Bool.and_eq_true, Bool.or_eq_false_iff, Bool.not_eq_true', Bool.not_eq_false'] at *; omega) | (simp_all; done) | (simp_all; omega))
      refine dw_cond (by simp only [go_sem, hr, Nat.pos_iff_ne_zero.1 hr0, (Nat.pos_iff_ne_zero.1 hr0).symm, getD_sp hk2]; exact rfl) (fun c3 => ?_) (fun c3 => ?_)
      · skip
        try simp only [decide_eq_true_eq, decide_eq_false_iff_not, Bool.or_eq_true, Bool.and_eq_true, Bool.or_eq_false_iff, Bool.not_eq_true', Bool.not_eq_false'] at c3
        refine dw_step (C := Cn) (by simp only [go_sem, hr, Nat.pos_iff_ne_zero.1 hr0, (Nat.pos_iff_ne_zero.1 hr0).symm, getD_sp hk2]; exact rfl) (fun h => by cases h) ?_ ?_
        · try simp only [go_sem, hr, Nat.pos_iff_ne_zero.1 hr0, (Nat.pos_iff_ne_zero.1 hr0).symm, getD_sp hk2]
          all_goals (first | done | (repeat' (with_reducible apply And.intro)) <;> first | omega | (with_reducible assumption) | (intros; omega) | (intros; simp only [decide_eq_true_eq, decide_eq_false_iff_not, Bool.or_eq_true, Bool.and_eq_true, Bool.or_eq_false_iff, Bool.not_eq_true', Bool.not_eq_false'] at *; omega) | (simp_all; done) | (simp_all; omega))
        refine dw_exit ?_
        show DW _ _ _ _ _
        refine dw_reg (C := Cn) (by simp only [go_sem, hr, Nat.pos_iff_ne_zero.1 hr0, (Nat.pos_iff_ne_zero.1 hr0).symm, getD_sp hk2]; exact rfl) (fun h => by cases h) ?_ ?_
        · try simp only [go_sem, hr, Nat.pos_iff_ne_zero.1 hr0, (Nat.pos_iff_ne_zero.1 hr0).symm, getD_sp hk2]
          all_goals (first | done | (repeat' (with_reducible apply And.intro)) <;> first | omega | (with_reducible assumption) | (intros; omega) | (intros; simp only [decide_eq_true_eq, decide_eq_false_iff_not, Bool.or_eq_true, Bool.and_eq_true, Bool.or_eq_false_iff, Bool.not_eq_true', Bool.not_eq_false'] at *; omega) | (simp_all; done) | (simp_all; omega))
        show ∃ _, _
        refine ⟨(k + 1, out ++ [l[k]!], put, s1, (nx + 18), _), ⟨(by first | (first | omega | (with_reducible assumption) | (simp_all; done) | (simp_all; omega)) | (dsimp only; first | omega | (with_reducible assumption) | (simp_all; done) | (simp_all; omega))), (by first | (simp; omega) | (dsimp only; simp; omega)), (by first | (rw [hv, withFrom_eq, if_pos hk2, if_pos c3]) | (dsimp only; rw [hv, withFrom_eq, if_pos hk2, if_pos c3])), (by first | (first | omega | (with_reducible assumption) | (simp_all; done) | (simp_all; omega)) | (dsimp only; first | omega | (with_reducible assumption) | (simp_all; done) | (simp_all; omega))), (by first | (first | omega | (with_reducible assumption) | (simp_all; done) | (simp_all; omega)) | (dsimp only; first | omega | (with_reducible assumption) | (simp_all; done) | (simp_all; omega))), trivial⟩, (by show (_ : Nat) < _; first | omega | simp_all; omega), ?_, ?_, ?_, Nat.le_refl _, rfl, rfl⟩
        · try simp only [go_sem, hr, Nat.pos_iff_ne_zero.1 hr0, (Nat.pos_iff_ne_zero.1 hr0).symm, getD_sp hk2]
          all_goals (first | done | (simp [Sp.d]; done) | (simp [Sp.d]; omega))
        · try simp only [go_sem, hr, Nat.pos_iff_ne_zero.1 hr0, (Nat.pos_iff_ne_zero.1 hr0).symm, getD_sp hk2]
          all_goals (first | done | (simp [Sp.d]; done) | (simp [Sp.d]; omega))
        · try simp only [go_sem, hr, Nat.pos_iff_ne_zero.1 hr0, (Nat.pos_iff_ne_zero.1 hr0).symm, getD_sp hk2]
          all_goals (first | done | (simp [Sp.d]; done) | (simp [Sp.d]; omega))
      · skip
        try simp only [decide_eq_true_eq, decide_eq_false_iff_not, Bool.or_eq_true, Bool.and_eq_true, Bool.or_eq_false_iff, Bool.not_eq_true', Bool.not_eq_false'] at c3
        refine dw_skip ?_
        show DW _ _ _ _ _
        refine dw_seq ?_
        refine dw_step (C := Cn) (by simp only [go_sem, hr, Nat.pos_iff_ne_zero.1 hr0, (Nat.pos_iff_ne_zero.1 hr0).symm, getD_sp hk2]; exact rfl) (fun _ => ⟨mix, by kernel_rfl, by kernel_rfl⟩) ?_ ?_
        · try simp only [go_sem, hr, Nat.pos_iff_ne_zero.1 hr0, (Nat.pos_iff_ne_zero.1 hr0).symm, getD_sp hk2]
          all_goals (first | done | (repeat' (with_reducible apply And.intro)) <;> first | omega | (with_reducible assumption) | (intros; omega) | (intros; simp only [decide_eq_true_eq, decide_eq_false_iff_not, Bool.or_eq_true, Bool.and_eq_true, Bool.or_eq_false_iff, Bool.not_eq_true', Bool.not_eq_false'] at *; omega) | (simp_all; done) | (simp_all; omega))
        refine dw_cond (by simp only [go_sem, hr, Nat.pos_iff_ne_zero.1 hr0, (Nat.pos_iff_ne_zero.1 hr0).symm, getD_sp hk2]; exact rfl) (fun c4 => ?_) (fun c4 => ?_)
        · skip
          try simp only [decide_eq_true_eq, decide_eq_false_iff_not, Bool.or_eq_true, Bool.and_eq_true, Bool.or_eq_false_iff, Bool.not_eq_true', Bool.not_eq_false'] at c4
          refine dw_seq ?_
          refine dw_step (C := Cn) (by simp only [go_sem, hr, Nat.pos_iff_ne_zero.1 hr0, (Nat.pos_iff_ne_zero.1 hr0).symm, getD_sp hk2]; exact rfl) (fun h => by cases h) ?_ ?_
          · try simp only [go_sem, hr, Nat.pos_iff_ne_zero.1 hr0, (Nat.pos_iff_ne_zero.1 hr0).symm, getD_sp hk2]
            all_goals (first | done | (repeat' (with_reducible apply And.intro)) <;> first | omega | (with_reducible assumption) | (intros; omega) | (intros; simp only [decide_eq_true_eq, decide_eq_false_iff_not, Bool.or_eq_true, Bool.and_eq_true, Bool.or_eq_false_iff, Bool.not_eq_true', Bool.not_eq_false'] at *; omega) | (simp_all; done) | (simp_all; omega))
          refine dw_cond (by simp only [go_sem, hr, Nat.pos_iff_ne_zero.1 hr0, (Nat.pos_iff_ne_zero.1 hr0).symm, getD_sp hk2]; exact rfl) (fun c5 => ?_) (fun c5 => ?_)
          · skip
            try simp only [decide_eq_true_eq, decide_eq_false_iff_not, Bool.or_eq_true, Bool.and_eq_true, Bool.or_eq_false_iff, Bool.not_eq_true', Bool.not_eq_false'] at c5
            refine dw_step (C := Cn) (by simp only [go_sem, hr, Nat.pos_iff_ne_zero.1 hr0, (Nat.pos_iff_ne_zero.1 hr0).symm, getD_sp hk2]; exact rfl) (fun h => by cases h) ?_ ?_
            · try simp only [go_sem, hr, Nat.pos_iff_ne_zero.1 hr0, (Nat.pos_iff_ne_zero.1 hr0).symm, getD_sp hk2]
              all_goals (first | done | (repeat' (with_reducible apply And.intro)) <;> first | omega | (with_reducible assumption) | (intros; omega) | (intros; simp only [decide_eq_true_eq, decide_eq_false_iff_not, Bool.or_eq_true, Bool.and_eq_true, Bool.or_eq_false_iff, Bool.not_eq_true', Bool.not_eq_false'] at *; omega) | (simp_all; done) | (simp_all; omega))
            refine dw_reg (C := Cn) (by simp only [go_sem, hr, Nat.pos_iff_ne_zero.1 hr0, (Nat.pos_iff_ne_zero.1 hr0).symm, getD_sp hk2]; exact rfl) (fun h => by cases h) ?_ ?_
            · try simp only [go_sem, hr, Nat.pos_iff_ne_zero.1 hr0, (Nat.pos_iff_ne_zero.1 hr0).symm, getD_sp hk2]
              all_goals (first | done | (repeat' (with_reducible apply And.intro)) <;> first | omega | (with_reducible assumption) | (intros; omega) | (intros; simp only [decide_eq_true_eq, decide_eq_false_iff_not, Bool.or_eq_true, Bool.and_eq_true, Bool.or_eq_false_iff, Bool.not_eq_true', Bool.not_eq_false'] at *; omega) | (simp_all; done) | (simp_all; omega))
            show DW _ _ _ _ _
            refine dw_step (C := Cn) (by simp only [go_sem, hr, Nat.pos_iff_ne_zero.1 hr0, (Nat.pos_iff_ne_zero.1 hr0).symm, getD_sp hk2]; exact rfl) (fun h => by cases h) ?_ ?_
            · try simp only [go_sem, hr, Nat.pos_iff_ne_zero.1 hr0, (Nat.pos_iff_ne_zero.1 hr0).symm, getD_sp hk2]
              all_goals (first | done | (repeat' (with_reducible apply And.intro)) <;> first | omega | (with_reducible assumption) | (intros; omega) | (intros; simp only [decide_eq_true_eq, decide_eq_false_iff_not, Bool.or_eq_true, Bool.and_eq_true, Bool.or_eq_false_iff, Bool.not_eq_true', Bool.not_eq_false'] at *; omega) | (simp_all; done) | (simp_all; omega))
            refine dw_exit ?_
            show DW _ _ _ _ _
            refine dw_reg (C := Cn) (by simp only [go_sem, hr, Nat.pos_iff_ne_zero.1 hr0, (Nat.pos_iff_ne_zero.1 hr0).symm, getD_sp hk2]; exact rfl) (fun h => by cases h) ?_ ?_
            · try simp only [go_sem, hr, Nat.pos_iff_ne_zero.1 hr0, (Nat.pos_iff_ne_zero.1 hr0).symm, getD_sp hk2]
              all_goals (first | done | (repeat' (with_reducible apply And.intro)) <;> first | omega | (with_reducible assumption) | (intros; omega) | (intros; simp only [decide_eq_true_eq, decide_eq_false_iff_not, Bool.or_eq_true, Bool.and_eq_true, Bool.or_eq_false_iff, Bool.not_eq_true', Bool.not_eq_false'] at *; omega) | (simp_all; done) | (simp_all; omega))
            show ∃ _, _
            refine ⟨(k + 1, out ++ [s1] ++ [l[k]!], true, s1, (nx + 34), _), ⟨(by first | (first | omega | (with_reducible assumption) | (simp_all; done) | (simp_all; omega)) | (dsimp only; first | omega | (with_reducible assumption) | (simp_all; done) | (simp_all; omega))), (by first | (simp; omega) | (dsimp only; simp; omega)), (by first | (rw [hv, withFrom_eq, if_pos hk2, if_neg (by omega), if_pos c4]; simp [c5]) | (dsimp only; rw [hv, withFrom_eq, if_pos hk2, if_neg (by omega), if_pos c4]; simp [c5])), (by first | (first | omega | (with_reducible assumption) | (simp_all; done) | (simp_all; omega)) | (dsimp only; first | omega | (with_reducible assumption) | (simp_all; done) | (simp_all; omega))), (by first | (first | omega | (with_reducible assumption) | (simp_all; done) | (simp_all; omega)) | (dsimp only; first | omega | (with_reducible assumption) | (simp_all; done) | (simp_all; omega))), trivial⟩, (by show (_ : Nat) < _; first | omega | simp_all; omega), ?_, ?_, ?_, Nat.le_refl _, rfl, rfl⟩
            · try simp only [go_sem, hr, Nat.pos_iff_ne_zero.1 hr0, (Nat.pos_iff_ne_zero.1 hr0).symm, getD_sp hk2]
              all_goals (first | done | (simp [Sp.d]; done) | (simp [Sp.d]; omega))
            · try simp only [go_sem, hr, Nat.pos_iff_ne_zero.1 hr0, (Nat.pos_iff_ne_zero.1 hr0).symm, getD_sp hk2]
              all_goals (first | done | (simp [Sp.d]; done) | (simp [Sp.d]; omega))
            · try simp only [go_sem, hr, Nat.pos_iff_ne_zero.1 hr0, (Nat.pos_iff_ne_zero.1 hr0).symm, getD_sp hk2]
              all_goals (first | done | (simp [Sp.d]; done) | (simp [Sp.d]; omega))
          · skip
            try simp only [decide_eq_true_eq, decide_eq_false_iff_not, Bool.or_eq_true, Bool.and_eq_true, Bool.or_eq_false_iff, Bool.not_eq_true', Bool.not_eq_false'] at c5
            refine dw_skip ?_
            show DW _ _ _ _ _
            refine dw_step (C := Cn) (by simp only [go_sem, hr, Nat.pos_iff_ne_zero.1 hr0, (Nat.pos_iff_ne_zero.1 hr0).symm, getD_sp hk2]; exact rfl) (fun h => by cases h) ?_ ?_
            · try simp only [go_sem, hr, Nat.pos_iff_ne_zero.1 hr0, (Nat.pos_iff_ne_zero.1 hr0).symm, getD_sp hk2]
              all_goals (first | done | (repeat' (with_reducible apply And.intro)) <;> first | omega | (with_reducible assumption) | (intros; omega) | (intros; simp only [decide_eq_true_eq, decide_eq_false_iff_not, Bool.or_eq_true, Bool.and_eq_true, Bool.or_eq_false_iff, Bool.not_eq_true', Bool.not_eq_false'] at *; omega) | (simp_all; done) | (simp_all; omega))
            refine dw_exit ?_
            show DW _ _ _ _ _
            refine dw_reg (C := Cn) (by simp only [go_sem, hr, Nat.pos_iff_ne_zero.1 hr0, (Nat.pos_iff_ne_zero.1 hr0).symm, getD_sp hk2]; exact rfl) (fun h => by cases h) ?_ ?_
            · try simp only [go_sem, hr, Nat.pos_iff_ne_zero.1 hr0, (Nat.pos_iff_ne_zero.1 hr0).symm, getD_sp hk2]
              all_goals (first | done | (repeat' (with_reducible apply And.intro)) <;> first | omega | (with_reducible assumption) | (intros; omega) | (intros; simp only [decide_eq_true_eq, decide_eq_false_iff_not, Bool.or_eq_true, Bool.and_eq_true, Bool.or_eq_false_iff, Bool.not_eq_true', Bool.not_eq_false'] at *; omega) | (simp_all; done) | (simp_all; omega))
            show ∃ _, _
            refine ⟨(k + 1, out ++ [l[k]!], true, s1, (nx + 28), _), ⟨(by first | (first | omega | (with_reducible assumption) | (simp_all; done) | (simp_all; omega)) | (dsimp only; first | omega | (with_reducible assumption) | (simp_all; done) | (simp_all; omega))), (by first | (simp; omega) | (dsimp only; simp; omega)), (by first | (rw [hv, withFrom_eq, if_pos hk2, if_neg (by omega), if_pos c4]; simp [c5]) | (dsimp only; rw [hv, withFrom_eq, if_pos hk2, if_neg (by omega), if_pos c4]; simp [c5])), (by first | (first | omega | (with_reducible assumption) | (simp_all; done) | (simp_all; omega)) | (dsimp only; first | omega | (with_reducible assumption) | (simp_all; done) | (simp_all; omega))), (by first | (first | omega | (with_reducible assumption) | (simp_all; done) | (simp_all; omega)) | (dsimp only; first | omega | (with_reducible assumption) | (simp_all; done) | (simp_all; omega))), trivial⟩, (by show (_ : Nat) < _; first | omega | simp_all; omega), ?_, ?_, ?_, Nat.le_refl _, rfl, rfl⟩
            · try simp only [go_sem, hr, Nat.pos_iff_ne_zero.1 hr0, (Nat.pos_iff_ne_zero.1 hr0).symm, getD_sp hk2]
              all_goals (first | done | (simp [Sp.d]; done) | (simp [Sp.d]; omega))
            · try simp only [go_sem, hr, Nat.pos_iff_ne_zero.1 hr0, (Nat.pos_iff_ne_zero.1 hr0).symm, getD_sp hk2]
              all_goals (first | done | (simp [Sp.d]; done) | (simp [Sp.d]; omega))
            · try simp only [go_sem, hr, Nat.pos_iff_ne_zero.1 hr0, (Nat.pos_iff_ne_zero.1 hr0).symm, getD_sp hk2]
              all_goals (first | done | (simp [Sp.d]; done) | (simp [Sp.d]; omega))
        · skip
          try simp only [decide_eq_true_eq, decide_eq_false_iff_not, Bool.or_eq_true, Bool.and_eq_true, Bool.or_eq_false_iff, Bool.not_eq_true', Bool.not_eq_false'] at c4
          refine dw_skip ?_
          show DW _ _ _ _ _
          refine dw_step (C := Cn) (by simp only [go_sem, hr, Nat.pos_iff_ne_zero.1 hr0, (Nat.pos_iff_ne_zero.1 hr0).symm, getD_sp hk2]; exact rfl) (fun _ => ⟨mix, by kernel_rfl, by kernel_rfl⟩) ?_ ?_
          · try simp only [go_sem, hr, Nat.pos_iff_ne_zero.1 hr0, (Nat.pos_iff_ne_zero.1 hr0).symm, getD_sp hk2]
            all_goals (first | done | (repeat' (with_reducible apply And.intro)) <;> first | omega | (with_reducible assumption) | (intros; omega) | (intros; simp only [decide_eq_true_eq, decide_eq_false_iff_not, Bool.or_eq_true, Bool.and_eq_true, Bool.or_eq_false_iff, Bool.not_eq_true', Bool.not_eq_false'] at *; omega) | (simp_all; done) | (simp_all; omega))
          refine dw_reg (C := Cn) (by simp only [go_sem, hr, Nat.pos_iff_ne_zero.1 hr0, (Nat.pos_iff_ne_zero.1 hr0).symm, getD_sp hk2]; exact rfl) (fun _ => ⟨mix, by kernel_rfl, by kernel_rfl⟩) ?_ ?_
          · try simp only [go_sem, hr, Nat.pos_iff_ne_zero.1 hr0, (Nat.pos_iff_ne_zero.1 hr0).symm, getD_sp hk2]
            all_goals (first | done | (repeat' (with_reducible apply And.intro)) <;> first | omega | (with_reducible assumption) | (intros; omega) | (intros; simp only [decide_eq_true_eq, decide_eq_false_iff_not, Bool.or_eq_true, Bool.and_eq_true, Bool.or_eq_false_iff, Bool.not_eq_true', Bool.not_eq_false'] at *; omega) | (simp_all; done) | (simp_all; omega))
          show DW _ _ _ _ _
          refine dw_reg (C := Cn) (by simp only [go_sem, hr, Nat.pos_iff_ne_zero.1 hr0, (Nat.pos_iff_ne_zero.1 hr0).symm, getD_sp hk2]; exact rfl) (fun h => by cases h) ?_ ?_
          · try simp only [go_sem, hr, Nat.pos_iff_ne_zero.1 hr0, (Nat.pos_iff_ne_zero.1 hr0).symm, getD_sp hk2]
            all_goals (first | done | (repeat' (with_reducible apply And.intro)) <;> first | omega | (with_reducible assumption) | (intros; omega) | (intros; simp only [decide_eq_true_eq, decide_eq_false_iff_not, Bool.or_eq_true, Bool.and_eq_true, Bool.or_eq_false_iff, Bool.not_eq_true', Bool.not_eq_false'] at *; omega) | (simp_all; done) | (simp_all; omega))
          show ∃ _, _
          refine ⟨(k + 1, out, put, ⟨min s1.a l[k]!.a, max s1.b l[k]!.b⟩, r, _), ⟨(by first | (first | omega | (with_reducible assumption) | (simp_all; done) | (simp_all; omega)) | (dsimp only; first | omega | (with_reducible assumption) | (simp_all; done) | (simp_all; omega))), (by first | (omega) | (dsimp only; omega)), (by first | (rw [hv, withFrom_eq, if_pos hk2, if_neg (by omega), if_neg (by omega)]) | (dsimp only; rw [hv, withFrom_eq, if_pos hk2, if_neg (by omega), if_neg (by omega)])), (by first | (first | omega | (with_reducible assumption) | (simp_all; done) | (simp_all; omega)) | (dsimp only; first | omega | (with_reducible assumption) | (simp_all; done) | (simp_all; omega))), (by first | (first | omega | (with_reducible assumption) | (simp_all; done) | (simp_all; omega)) | (dsimp only; first | omega | (with_reducible assumption) | (simp_all; done) | (simp_all; omega))), trivial⟩, (by show (_ : Nat) < _; first | omega | simp_all; omega), ?_, ?_, ?_, Nat.le_refl _, rfl, rfl⟩
          · try simp only [go_sem, hr, Nat.pos_iff_ne_zero.1 hr0, (Nat.pos_iff_ne_zero.1 hr0).symm, getD_sp hk2]
            all_goals (first | done | (simp [Sp.d]; done) | (simp [Sp.d]; omega))
          · try simp only [go_sem, hr, Nat.pos_iff_ne_zero.1 hr0, (Nat.pos_iff_ne_zero.1 hr0).symm, getD_sp hk2]
            all_goals (first | done | (simp [Sp.d]; done) | (simp [Sp.d]; omega))
          · try simp only [go_sem, hr, Nat.pos_iff_ne_zero.1 hr0, (Nat.pos_iff_ne_zero.1 hr0).symm, getD_sp hk2]
            all_goals (first | done | (simp [Sp.d]; done) | (simp [Sp.d]; omega))
    · skip
      try simp only [decide_eq_true_eq, decide_eq_false_iff_not, Bool.or_eq_true, Bool.and_eq_true, Bool.or_eq_false_iff, Bool.not_eq_true', Bool.not_eq_false'] at c2
      refine dw_exit ?_
      show DW _ _ _ _ _
      refine dw_seq ?_
      refine dw_step (C := Cn) (by simp only [go_sem, hr, Nat.pos_iff_ne_zero.1 hr0, (Nat.pos_iff_ne_zero.1 hr0).symm]; exact rfl) (fun h => by cases h) ?_ ?_
      · try simp only [go_sem, hr, Nat.pos_iff_ne_zero.1 hr0, (Nat.pos_iff_ne_zero.1 hr0).symm]
        all_goals (first | done | (repeat' (with_reducible apply And.intro)) <;> first | omega | (with_reducible assumption) | (intros; omega) | (intros; simp only [decide_eq_true_eq, decide_eq_false_iff_not, Bool.or_eq_true, Bool.and_eq_true, Bool.or_eq_false_iff, Bool.not_eq_true', Bool.not_eq_false'] at *; omega) | (simp_all; done) | (simp_all; omega))
      refine dw_cond (by simp only [go_sem, hr, Nat.pos_iff_ne_zero.1 hr0, (Nat.pos_iff_ne_zero.1 hr0).symm]; exact rfl) (fun c6 => ?_) (fun c6 => ?_)
      · skip
        try simp only [decide_eq_true_eq, decide_eq_false_iff_not, Bool.or_eq_true, Bool.and_eq_true, Bool.or_eq_false_iff, Bool.not_eq_true', Bool.not_eq_false'] at c6
        refine dw_reg (C := Cn) (by simp only [go_sem, hr, Nat.pos_iff_ne_zero.1 hr0, (Nat.pos_iff_ne_zero.1 hr0).symm]; exact rfl) (fun h => by cases h) ?_ ?_
        · try simp only [go_sem, hr, Nat.pos_iff_ne_zero.1 hr0, (Nat.pos_iff_ne_zero.1 hr0).symm]
          all_goals (first | done | (repeat' (with_reducible apply And.intro)) <;> first | omega | (with_reducible assumption) | (intros; omega) | (intros; simp only [decide_eq_true_eq, decide_eq_false_iff_not, Bool.or_eq_true, Bool.and_eq_true, Bool.or_eq_false_iff, Bool.not_eq_true', Bool.not_eq_false'] at *; omega) | (simp_all; done) | (simp_all; omega))
        show DW _ _ _ _ _
        refine dw_step (C := Cn) (by simp only [go_sem, hr, Nat.pos_iff_ne_zero.1 hr0, (Nat.pos_iff_ne_zero.1 hr0).symm]; exact rfl) (fun h => by cases h) ?_ ?_
        · try simp only [go_sem, hr, Nat.pos_iff_ne_zero.1 hr0, (Nat.pos_iff_ne_zero.1 hr0).symm]
          all_goals (first | done | (repeat' (with_reducible apply And.intro)) <;> first | omega | (with_reducible assumption) | (intros; omega) | (intros; simp only [decide_eq_true_eq, decide_eq_false_iff_not, Bool.or_eq_true, Bool.and_eq_true, Bool.or_eq_false_iff, Bool.not_eq_true', Bool.not_eq_false'] at *; omega) | (simp_all; done) | (simp_all; omega))
        refine dw_ret ?_
        refine ⟨.inr rfl, ?_, ?_⟩
        · simp only [go_sem, hr, Nat.pos_iff_ne_zero.1 hr0, (Nat.pos_iff_ne_zero.1 hr0).symm]
        refine ⟨1, ?_, ?_⟩
        · try simp only [go_sem, hr, Nat.pos_iff_ne_zero.1 hr0, (Nat.pos_iff_ne_zero.1 hr0).symm]
          all_goals (simp)
        · try simp only [go_sem, hr, Nat.pos_iff_ne_zero.1 hr0, (Nat.pos_iff_ne_zero.1 hr0).symm]
          all_goals (rw [if_neg c1, hv, withFrom_eq, if_neg (by omega)]; simp [Go.Span.endWith, c6, Sp.d])
      · skip
        try simp only [decide_eq_true_eq, decide_eq_false_iff_not, Bool.or_eq_true, Bool.and_eq_true, Bool.or_eq_false_iff, Bool.not_eq_true', Bool.not_eq_false'] at c6
        refine dw_skip ?_
        show DW _ _ _ _ _
        refine dw_step (C := Cn) (by simp only [go_sem, hr, Nat.pos_iff_ne_zero.1 hr0, (Nat.pos_iff_ne_zero.1 hr0).symm]; exact rfl) (fun h => by cases h) ?_ ?_
        · try simp only [go_sem, hr, Nat.pos_iff_ne_zero.1 hr0, (Nat.pos_iff_ne_zero.1 hr0).symm]
          all_goals (first | done | (repeat' (with_reducible apply And.intro)) <;> first | omega | (with_reducible assumption) | (intros; omega) | (intros; simp only [decide_eq_true_eq, decide_eq_false_iff_not, Bool.or_eq_true, Bool.and_eq_true, Bool.or_eq_false_iff, Bool.not_eq_true', Bool.not_eq_false'] at *; omega) | (simp_all; done) | (simp_all; omega))
        refine dw_ret ?_
        refine ⟨.inr rfl, ?_, ?_⟩
        · simp only [go_sem, hr, Nat.pos_iff_ne_zero.1 hr0, (Nat.pos_iff_ne_zero.1 hr0).symm]
        refine ⟨1, ?_, ?_⟩
        · try simp only [go_sem, hr, Nat.pos_iff_ne_zero.1 hr0, (Nat.pos_iff_ne_zero.1 hr0).symm]
          all_goals (simp)
        · try simp only [go_sem, hr, Nat.pos_iff_ne_zero.1 hr0, (Nat.pos_iff_ne_zero.1 hr0).symm]
          all_goals (rw [if_neg c1, hv, withFrom_eq, if_neg (by omega)]; simp [Go.Span.endWith, c6, Sp.d])
theorem bo33 : hasBody Try.prog 33 = true := by kernel_rfl
theorem rall_ct (l : List Sp) (hl : l.length ≤ 500000) : PureCt Try.prog 33 [.list false (l.map Sp.d)] (.list false ((rall l).map Sp.d)) := by
  rw [rall]
  refine pure_of_dw Try.func33 rfl bo33 (by simp [go_sem, D.nr, nrs, Sp.d]) (by simp [Try.f33]) ?_
  unfold Try.f33
  simp only [init_eq]
  refine dw_step (C := Cn) (by simp only [go_sem]; exact rfl) (fun h => by cases h) ?_ ?_
  · try simp only [go_sem]
    all_goals (first | done | (repeat' (with_reducible apply And.intro)) <;> first | omega | (with_reducible assumption) | (intros; omega) | (intros; simp only [decide_eq_true_eq, decide_eq_false_iff_not, Bool.or_eq_true, Bool.and_eq_true, Bool.or_eq_false_iff, Bool.not_eq_true', Bool.not_eq_false'] at *; omega) | (simp_all; done) | (simp_all; omega))
  refine dw_step (C := Cn) (by simp only [go_sem]; exact rfl) (fun h => by cases h) ?_ ?_
  · try simp only [go_sem]
    all_goals (first | done | (repeat' (with_reducible apply And.intro)) <;> first | omega | (with_reducible assumption) | (intros; omega) | (intros; simp only [decide_eq_true_eq, decide_eq_false_iff_not, Bool.or_eq_true, Bool.and_eq_true, Bool.or_eq_false_iff, Bool.not_eq_true', Bool.not_eq_false'] at *; omega) | (simp_all; done) | (simp_all; omega))
  refine dw_seq ?_
  refine dw_step (C := Cn) (by simp only [go_sem]; exact rfl) (fun h => by cases h) ?_ ?_
  · try simp only [go_sem]
    all_goals (first | done | (repeat' (with_reducible apply And.intro)) <;> first | omega | (with_reducible assumption) | (intros; omega) | (intros; simp only [decide_eq_true_eq, decide_eq_false_iff_not, Bool.or_eq_true, Bool.and_eq_true, Bool.or_eq_false_iff, Bool.not_eq_true', Bool.not_eq_false'] at *; omega) | (simp_all; done) | (simp_all; omega))
  refine dw_block ?_
  refine dw_loop_fix (α := (Nat) × (List Sp) × Nat) [0] (fun ⟨k, out, nx⟩ => (k ≤ l.length) ∧ (out.length ≤ 2 * k) ∧ (allFrom l 0 [] = allFrom l k out) ∧ True) (fun ⟨k, out, nx⟩ => l.length - k) (fun ⟨k, out, nx⟩ => [(3, .list false (out.map Sp.d)), (4, .i k)]) (fun ⟨k, out, nx⟩ => []) (fun ⟨k, out, nx⟩ => nx) (0, [], _) (by simp only [List.map_cons, List.map_nil, go_sem]; exact rfl) ⟨(by first | (first | omega | (with_reducible assumption) | (simp_all; done) | (simp_all; omega)) | (dsimp only; first | omega | (with_reducible assumption) | (simp_all; done) | (simp_all; omega))), (by first | (simp) | (dsimp only; simp)), (by first | (rfl) | (dsimp only; rfl)), trivial⟩ (by first | (simp only [go_sem]; done) | (simp [go_sem]; done) | (simp only [go_sem]; (repeat' (with_reducible apply And.intro)) <;> first | (left; simp; done) | (right; simp [go_sem]; done))) (by first | (simp only [go_sem]; done) | simp [go_sem]) (Nat.le_refl _) ?_
  rintro ⟨k, out, nx⟩ ⟨hk, ho, hv, -⟩
  show DW _ _ _ _ { n := _, t := tab _, h := _, nx := _, e := _ }
  simp only [List.cons_append, List.nil_append]
  refine dw_seq ?_
  refine dw_step (C := Cn) (by simp only [go_sem]; exact rfl) (fun h => by cases h) ?_ ?_
  · try simp only [go_sem]
    all_goals (first | done | (repeat' (with_reducible apply And.intro)) <;> first | omega | (with_reducible assumption) | (intros; omega) | (intros; simp only [decide_eq_true_eq, decide_eq_false_iff_not, Bool.or_eq_true, Bool.and_eq_true, Bool.or_eq_false_iff, Bool.not_eq_true', Bool.not_eq_false'] at *; omega) | (simp_all; done) | (simp_all; omega))
  refine dw_cond (by simp only [go_sem]; exact rfl) (fun c1 => ?_) (fun c1 => ?_)
  · skip
    have hk2 : k < l.length := by simpa using c1
    refine dw_skip ?_
    show DW _ _ _ _ _
    refine dw_seq ?_
    refine dw_block ?_
    refine dw_reg (C := Cn) (by simp only [go_sem, getD_sp hk2]; exact rfl) (fun h => by cases h) ?_ ?_
    · try simp only [go_sem, getD_sp hk2]
      all_goals (first | done | exact ⟨by omega, with1_ct _ _ (by omega)⟩ | exact with1_ct _ _ (by omega))
    show DW _ _ _ _ _
    refine dw_reg (C := Cn) (by simp only [go_sem, getD_sp hk2]; exact rfl) (fun h => by cases h) ?_ ?_
    · try simp only [go_sem, getD_sp hk2]
      all_goals (first | done | (repeat' (with_reducible apply And.intro)) <;> first | omega | (with_reducible assumption) | (intros; omega) | (intros; simp only [decide_eq_true_eq, decide_eq_false_iff_not, Bool.or_eq_true, Bool.and_eq_true, Bool.or_eq_false_iff, Bool.not_eq_true', Bool.not_eq_false'] at *; omega) | (simp_all; done) | (simp_all; omega))
    show ∃ _, _
    refine ⟨(k + 1, with1 out l[k]!, _), ⟨(by first | (first | omega | (with_reducible assumption) | (simp_all; done) | (simp_all; omega)) | (dsimp only; first | omega | (with_reducible assumption) | (simp_all; done) | (simp_all; omega))), (by first | (have := with1_len out l[k]!; omega) | (dsimp only; have := with1_len out l[k]!; omega)), (by first | (rw [hv, allFrom_eq, if_pos hk2]) | (dsimp only; rw [hv, allFrom_eq, if_pos hk2])), trivial⟩, (by show (_ : Nat) < _; first | omega | simp_all; omega), ?_, ?_, ?_, Nat.le_refl _, rfl, rfl⟩
    · try simp only [go_sem, getD_sp hk2]
      all_goals (first | done | (simp; done) | (simp; omega) | ((repeat' (with_reducible apply And.intro)) <;> first | (left; simp; done) | (right; simp [go_sem]; done)))
    · try simp only [go_sem, getD_sp hk2]
      all_goals (first | done | (simp; done) | (simp; omega) | ((repeat' (with_reducible apply And.intro)) <;> first | (left; simp; done) | (right; simp [go_sem]; done)))
    · try simp only [go_sem, getD_sp hk2]
      all_goals (first | done | (simp; done) | (simp; omega) | ((repeat' (with_reducible apply And.intro)) <;> first | (left; simp; done) | (right; simp [go_sem]; done)))
  · skip
    try simp only [decide_eq_true_eq, decide_eq_false_iff_not, Bool.or_eq_true, Bool.and_eq_true, Bool.or_eq_false_iff, Bool.not_eq_true', Bool.not_eq_false'] at c1
    refine dw_exit ?_
    show DW _ _ _ _ _
    refine dw_step (C := Cn) (by simp only [go_sem]; exact rfl) (fun h => by cases h) ?_ ?_
    · try simp only [go_sem]
      all_goals (first | done | (repeat' (with_reducible apply And.intro)) <;> first | omega | (with_reducible assumption) | (intros; omega) | (intros; simp only [decide_eq_true_eq, decide_eq_false_iff_not, Bool.or_eq_true, Bool.and_eq_true, Bool.or_eq_false_iff, Bool.not_eq_true', Bool.not_eq_false'] at *; omega) | (simp_all; done) | (simp_all; omega))
    refine dw_ret ?_
    refine ⟨.inr rfl, ?_, ?_⟩
    · simp only [go_sem]
    refine ⟨0, ?_, ?_⟩
    · try simp only [go_sem]
      all_goals (simp)
    · try simp only [go_sem]
      all_goals (rw [hv, allFrom_eq, if_neg (by omega)])
theorem bo23 : hasBody Try.prog 23 = true := by kernel_rfl
theorem rvalid_ct (l : List Sp) : PureCt Try.prog 23 [.list false (l.map Sp.d)] (.b (rvalid l)) := by
  rw [rvalid]
  refine pure_of_dw Try.func23 rfl bo23 (by simp [go_sem, D.nr, nrs, Sp.d]) (by simp [Try.f23]) ?_
  unfold Try.f23
  simp only [init_eq]
  refine dw_len 0 rfl fun hlen => ?_
  simp only [List.length_map, maxLen] at hlen
  refine dw_step (C := Cn) (by simp only [go_sem]; exact rfl) (fun h => by cases h) ?_ ?_
  · try simp only [go_sem]
    all_goals (first | done | (repeat' (with_reducible apply And.intro)) <;> first | omega | (with_reducible assumption) | (intros; omega) | (intros; simp only [decide_eq_true_eq, decide_eq_false_iff_not, Bool.or_eq_true, Bool.and_eq_true, Bool.or_eq_false_iff, Bool.not_eq_true', Bool.not_eq_false'] at *; omega) | (simp_all; done) | (simp_all; omega))
  refine dw_seq ?_
  refine dw_step (C := Cn) (by simp only [go_sem]; exact rfl) (fun h => by cases h) ?_ ?_
  · try simp only [go_sem]
    all_goals (first | done | (repeat' (with_reducible apply And.intro)) <;> first | omega | (with_reducible assumption) | (intros; omega) | (intros; simp only [decide_eq_true_eq, decide_eq_false_iff_not, Bool.or_eq_true, Bool.and_eq_true, Bool.or_eq_false_iff, Bool.not_eq_true', Bool.not_eq_false'] at *; omega) | (simp_all; done) | (simp_all; omega))
  refine dw_block ?_
  refine dw_loop_fix (α := (Nat) × Nat) [0] (fun ⟨k, nx⟩ => (k ≤ l.length) ∧ (noBad l 0 = noBad l k) ∧ True) (fun ⟨k, nx⟩ => l.length - k) (fun ⟨k, nx⟩ => [(3, .i k)]) (fun ⟨k, nx⟩ => []) (fun ⟨k, nx⟩ => nx) (0, _) (by simp only [List.map_cons, List.map_nil, go_sem]; exact rfl) ⟨(by first | (first | omega | (with_reducible assumption) | (simp_all; done) | (simp_all; omega)) | (dsimp only; first | omega | (with_reducible assumption) | (simp_all; done) | (simp_all; omega))), (by first | (rfl) | (dsimp only; rfl)), trivial⟩ (by first | (simp only [go_sem]; done) | (simp [go_sem]; done) | (simp only [go_sem]; (repeat' (with_reducible apply And.intro)) <;> first | (left; simp; done) | (right; simp [go_sem]; done))) (by first | (simp only [go_sem]; done) | simp [go_sem]) (Nat.le_refl _) ?_
  rintro ⟨k, nx⟩ ⟨hk, hv, -⟩
  show DW _ _ _ _ { n := _, t := tab _, h := _, nx := _, e := _ }
  simp only [List.cons_append, List.nil_append]
  refine dw_seq ?_
  refine dw_step (C := Cn) (by simp only [go_sem]; exact rfl) (fun h => by cases h) ?_ ?_
  · try simp only [go_sem]
    all_goals (first | done | (repeat' (with_reducible apply And.intro)) <;> first | omega | (with_reducible assumption) | (intros; omega) | (intros; simp only [decide_eq_true_eq, decide_eq_false_iff_not, Bool.or_eq_true, Bool.and_eq_true, Bool.or_eq_false_iff, Bool.not_eq_true', Bool.not_eq_false'] at *; omega) | (simp_all; done) | (simp_all; omega))
  refine dw_cond (by simp only [go_sem]; exact rfl) (fun c1 => ?_) (fun c1 => ?_)
  · skip
    have hk2 : k < l.length := by simpa using c1
    refine dw_skip ?_
    show DW _ _ _ _ _
    refine dw_seq ?_
    refine dw_block ?_
    have e1 : ((k:Int) - 1).toNat = k - 1 := by omega
    have hk1 : k - 1 < l.length := by omega
    refine dw_step (C := Cn) (by simp only [go_sem, getD_sp hk2, e1, getD_sp hk1]; exact rfl) (fun _ => ⟨mix, by kernel_rfl, by kernel_rfl⟩) ?_ ?_
    · try simp only [go_sem, getD_sp hk2, e1, getD_sp hk1]
      all_goals (first | done | (repeat' (with_reducible apply And.intro)) <;> first | omega | (with_reducible assumption) | (intros; omega) | (intros; simp only [decide_eq_true_eq, decide_eq_false_iff_not, Bool.or_eq_true, Bool.and_eq_true, Bool.or_eq_false_iff, Bool.not_eq_true', Bool.not_eq_false'] at *; omega) | (simp_all; done) | (simp_all; omega))
    refine dw_cond (by simp only [go_sem, getD_sp hk2, e1, getD_sp hk1]; exact rfl) (fun c2 => ?_) (fun c2 => ?_)
    · skip
      refine dw_step (C := Cn) (by simp only [go_sem, getD_sp hk2]; exact rfl) (fun h => by cases h) ?_ ?_
      · try simp only [go_sem, getD_sp hk2]
        all_goals (first | done | (repeat' (with_reducible apply And.intro)) <;> first | omega | (with_reducible assumption) | (intros; omega) | (intros; simp only [decide_eq_true_eq, decide_eq_false_iff_not, Bool.or_eq_true, Bool.and_eq_true, Bool.or_eq_false_iff, Bool.not_eq_true', Bool.not_eq_false'] at *; omega) | (simp_all; done) | (simp_all; omega))
      refine dw_ret ?_
      refine ⟨.inr rfl, ?_, ?_⟩
      · simp only [go_sem, getD_sp hk2]
      refine ⟨0, ?_, ?_⟩
      · try simp only [go_sem, getD_sp hk2]
        all_goals (simp)
      · try simp only [go_sem, getD_sp hk2]
        all_goals (rw [hv, noBad_eq, if_pos hk2, badAt, c2]; rfl)
    · skip
      refine dw_skip ?_
      show DW _ _ _ _ _
      refine dw_reg (C := Cn) (by simp only [go_sem, getD_sp hk2]; exact rfl) (fun h => by cases h) ?_ ?_
      · try simp only [go_sem, getD_sp hk2]
        all_goals (first | done | (repeat' (with_reducible apply And.intro)) <;> first | omega | (with_reducible assumption) | (intros; omega) | (intros; simp only [decide_eq_true_eq, decide_eq_false_iff_not, Bool.or_eq_true, Bool.and_eq_true, Bool.or_eq_false_iff, Bool.not_eq_true', Bool.not_eq_false'] at *; omega) | (simp_all; done) | (simp_all; omega))
      show ∃ _, _
      refine ⟨(k + 1, _), ⟨(by first | (first | omega | (with_reducible assumption) | (simp_all; done) | (simp_all; omega)) | (dsimp only; first | omega | (with_reducible assumption) | (simp_all; done) | (simp_all; omega))), (by first | (rw [hv, noBad_eq, if_pos hk2, badAt, c2]; rfl) | (dsimp only; rw [hv, noBad_eq, if_pos hk2, badAt, c2]; rfl)), trivial⟩, (by show (_ : Nat) < _; first | omega | simp_all; omega), ?_, ?_, ?_, Nat.le_refl _, rfl, rfl⟩
      · try simp only [go_sem, getD_sp hk2]
        all_goals (first | done | (simp; done) | (simp; omega) | ((repeat' (with_reducible apply And.intro)) <;> first | (left; simp; done) | (right; simp [go_sem]; done)))
      · try simp only [go_sem, getD_sp hk2]
        all_goals (first | done | (simp; done) | (simp; omega) | ((repeat' (with_reducible apply And.intro)) <;> first | (left; simp; done) | (right; simp [go_sem]; done)))
      · try simp only [go_sem, getD_sp hk2]
        all_goals (first | done | (simp; done) | (simp; omega) | ((repeat' (with_reducible apply And.intro)) <;> first | (left; simp; done) | (right; simp [go_sem]; done)))
  · skip
    try simp only [decide_eq_true_eq, decide_eq_false_iff_not, Bool.or_eq_true, Bool.and_eq_true, Bool.or_eq_false_iff, Bool.not_eq_true', Bool.not_eq_false'] at c1
    refine dw_exit ?_
    show DW _ _ _ _ _
    refine dw_step (C := Cn) (by simp only [go_sem]; exact rfl) (fun h => by cases h) ?_ ?_
    · try simp only [go_sem]
      all_goals (first | done | (repeat' (with_reducible apply And.intro)) <;> first | omega | (with_reducible assumption) | (intros; omega) | (intros; simp only [decide_eq_true_eq, decide_eq_false_iff_not, Bool.or_eq_true, Bool.and_eq_true, Bool.or_eq_false_iff, Bool.not_eq_true', Bool.not_eq_false'] at *; omega) | (simp_all; done) | (simp_all; omega))
    refine dw_ret ?_
    refine ⟨.inr rfl, ?_, ?_⟩
    · simp only [go_sem]
    refine ⟨0, ?_, ?_⟩
    · try simp only [go_sem]
      all_goals (simp)
    · try simp only [go_sem]
      all_goals (rw [hv, noBad_eq, if_neg (by omega)]; rfl)
theorem bo36 : hasBody Try.prog 36 = true := by kernel_rfl
theorem rlimited_ct (l : List Sp) : PureCt Try.prog 36 [.list false (l.map Sp.d)] (.tuple [.list false ((rlimited l).1.map Sp.d), .i (rlimited l).2]) := by
  rw [rlimited]
  refine pure_of_dw Try.func36 rfl bo36 (by simp [go_sem, D.nr, nrs, Sp.d]) (by simp [Try.f36]) ?_
  unfold Try.f36
  simp only [init_eq]
  refine dw_step (C := Cn) (by simp only [go_sem]; exact rfl) (fun h => by cases h) ?_ ?_
  · try simp only [go_sem]
    all_goals (first | done | (repeat' (with_reducible apply And.intro)) <;> first | omega | (with_reducible assumption) | (intros; omega) | (intros; simp only [decide_eq_true_eq, decide_eq_false_iff_not, Bool.or_eq_true, Bool.and_eq_true, Bool.or_eq_false_iff, Bool.not_eq_true', Bool.not_eq_false'] at *; omega) | (simp_all; done) | (simp_all; omega))
  refine dw_seq ?_
  refine dw_step (C := Cn) (by simp only [go_sem]; exact rfl) (fun h => by cases h) ?_ ?_
  · try simp only [go_sem]
    all_goals (first | done | (repeat' (with_reducible apply And.intro)) <;> first | omega | (with_reducible assumption) | (intros; omega) | (intros; simp only [decide_eq_true_eq, decide_eq_false_iff_not, Bool.or_eq_true, Bool.and_eq_true, Bool.or_eq_false_iff, Bool.not_eq_true', Bool.not_eq_false'] at *; omega) | (simp_all; done) | (simp_all; omega))
  refine dw_cond (by simp only [go_sem]; exact rfl) (fun c1 => ?_) (fun c1 => ?_)
  · skip
    try simp only [decide_eq_true_eq, decide_eq_false_iff_not, Bool.or_eq_true, Bool.and_eq_true, Bool.or_eq_false_iff, Bool.not_eq_true', Bool.not_eq_false'] at c1
    refine dw_step (C := Cn) (by simp only [go_sem]; exact rfl) (fun h => by cases h) ?_ ?_
    · try simp only [go_sem]
      all_goals (first | done | (repeat' (with_reducible apply And.intro)) <;> first | omega | (with_reducible assumption) | (intros; omega) | (intros; simp only [decide_eq_true_eq, decide_eq_false_iff_not, Bool.or_eq_true, Bool.and_eq_true, Bool.or_eq_false_iff, Bool.not_eq_true', Bool.not_eq_false'] at *; omega) | (simp_all; done) | (simp_all; omega))
    refine dw_ret ?_
    refine ⟨.inr rfl, ?_, ?_⟩
    · simp only [go_sem]
    refine ⟨1, ?_, ?_⟩
    · try simp only [go_sem]
      all_goals (simp)
    · try simp only [go_sem]
      all_goals (rw [if_pos c1]; rfl)
  · skip
    try simp only [decide_eq_true_eq, decide_eq_false_iff_not, Bool.or_eq_true, Bool.and_eq_true, Bool.or_eq_false_iff, Bool.not_eq_true', Bool.not_eq_false'] at c1
    refine dw_skip ?_
    show DW _ _ _ _ _
    refine dw_step (C := Cn) (by simp only [go_sem]; exact rfl) (fun h => by cases h) ?_ ?_
    · try simp only [go_sem]
      all_goals (first | done | (repeat' (with_reducible apply And.intro)) <;> first | omega | (with_reducible assumption) | (intros; omega) | (intros; simp only [decide_eq_true_eq, decide_eq_false_iff_not, Bool.or_eq_true, Bool.and_eq_true, Bool.or_eq_false_iff, Bool.not_eq_true', Bool.not_eq_false'] at *; omega) | (simp_all; done) | (simp_all; omega))
    refine dw_ret ?_
    refine ⟨.inr rfl, ?_, ?_⟩
    · simp only [go_sem]
    refine ⟨1, ?_, ?_⟩
    · try simp only [go_sem]
      all_goals (simp)
    · try simp only [go_sem]
      all_goals (rw [if_neg c1])
theorem bo12 : hasBody Try.prog 12 = true := by kernel_rfl
theorem rnormal_ct (l : List Sp) (hl : l.length ≤ 500000) : PureCt Try.prog 12 [.list false (l.map Sp.d)] (.tuple [.list false ((rnormal l).1.map Sp.d), .i (rnormal l).2]) := by
  rw [rnormal]
  refine pure_of_dw Try.func12 rfl bo12 (by simp [go_sem, D.nr, nrs, Sp.d]) (by simp [Try.f12]) ?_
  unfold Try.f12
  simp only [init_eq]
  refine dw_step (C := Cn) (by simp only [go_sem]; exact rfl) (fun h => by cases h) ?_ ?_
  · try simp only [go_sem]
    all_goals (first | done | (repeat' (with_reducible apply And.intro)) <;> first | omega | (with_reducible assumption) | (intros; omega) | (intros; simp only [decide_eq_true_eq, decide_eq_false_iff_not, Bool.or_eq_true, Bool.and_eq_true, Bool.or_eq_false_iff, Bool.not_eq_true', Bool.not_eq_false'] at *; omega) | (simp_all; done) | (simp_all; omega))
  refine dw_seq ?_
  refine dw_step (C := Cn) (by simp only [go_sem]; exact rfl) (fun h => by cases h) ?_ ?_
  · try simp only [go_sem]
    all_goals (first | done | (repeat' (with_reducible apply And.intro)) <;> first | omega | (with_reducible assumption) | (intros; omega) | (intros; simp only [decide_eq_true_eq, decide_eq_false_iff_not, Bool.or_eq_true, Bool.and_eq_true, Bool.or_eq_false_iff, Bool.not_eq_true', Bool.not_eq_false'] at *; omega) | (simp_all; done) | (simp_all; omega))
  refine dw_block ?_
  refine dw_loop_fix (α := (Nat) × Nat) [0] (fun ⟨k, nx⟩ => (k ≤ l.length) ∧ (nNoBad l 0 = nNoBad l k) ∧ True) (fun ⟨k, nx⟩ => l.length - k) (fun ⟨k, nx⟩ => [(4, .i k)]) (fun ⟨k, nx⟩ => []) (fun ⟨k, nx⟩ => nx) (0, _) (by simp only [List.map_cons, List.map_nil, go_sem]; exact rfl) ⟨(by first | (first | omega | (with_reducible assumption) | (simp_all; done) | (simp_all; omega)) | (dsimp only; first | omega | (with_reducible assumption) | (simp_all; done) | (simp_all; omega))), (by first | (rfl) | (dsimp only; rfl)), trivial⟩ (by first | (simp only [go_sem]; done) | (simp [go_sem]; done) | (simp only [go_sem]; (repeat' (with_reducible apply And.intro)) <;> first | (left; simp; done) | (right; simp [go_sem]; done))) (by first | (simp only [go_sem]; done) | simp [go_sem]) (Nat.le_refl _) ?_
  rintro ⟨k, nx⟩ ⟨hk, hv, -⟩
  show DW _ _ _ _ { n := _, t := tab _, h := _, nx := _, e := _ }
  simp only [List.cons_append, List.nil_append]
  refine dw_seq ?_
  refine dw_step (C := Cn) (by simp only [go_sem]; exact rfl) (fun h => by cases h) ?_ ?_
  · try simp only [go_sem]
    all_goals (first | done | (repeat' (with_reducible apply And.intro)) <;> first | omega | (with_reducible assumption) | (intros; omega) | (intros; simp only [decide_eq_true_eq, decide_eq_false_iff_not, Bool.or_eq_true, Bool.and_eq_true, Bool.or_eq_false_iff, Bool.not_eq_true', Bool.not_eq_false'] at *; omega) | (simp_all; done) | (simp_all; omega))
  refine dw_cond (by simp only [go_sem]; exact rfl) (fun c1 => ?_) (fun c1 => ?_)
  · skip
    have hk2 : k < l.length := by simpa using c1
    refine dw_skip ?_
    show DW _ _ _ _ _
    refine dw_seq ?_
    refine dw_block ?_
    refine dw_step (C := Cn) (by simp only [go_sem, getD_sp hk2]; exact rfl) (fun _ => ⟨mix, by kernel_rfl, by kernel_rfl⟩) ?_ ?_
    · try simp only [go_sem, getD_sp hk2]
      all_goals (first | done | (repeat' (with_reducible apply And.intro)) <;> first | omega | (with_reducible assumption) | (intros; omega) | (intros; simp only [decide_eq_true_eq, decide_eq_false_iff_not, Bool.or_eq_true, Bool.and_eq_true, Bool.or_eq_false_iff, Bool.not_eq_true', Bool.not_eq_false'] at *; omega) | (simp_all; done) | (simp_all; omega))
    refine dw_cond (by simp only [go_sem, getD_sp hk2]; exact rfl) (fun c2 => ?_) (fun c2 => ?_)
    · skip
      refine dw_step (C := Cn) (by simp only [go_sem, getD_sp hk2]; exact rfl) (fun h => by cases h) ?_ ?_
      · try simp only [go_sem, getD_sp hk2]
        all_goals (first | done | (repeat' (with_reducible apply And.intro)) <;> first | omega | (with_reducible assumption) | (intros; omega) | (intros; simp only [decide_eq_true_eq, decide_eq_false_iff_not, Bool.or_eq_true, Bool.and_eq_true, Bool.or_eq_false_iff, Bool.not_eq_true', Bool.not_eq_false'] at *; omega) | (simp_all; done) | (simp_all; omega))
      refine dw_ret ?_
      refine ⟨.inr rfl, ?_, ?_⟩
      · simp only [go_sem, getD_sp hk2]
      refine ⟨1, ?_, ?_⟩
      · try simp only [go_sem, getD_sp hk2]
        all_goals (simp)
      · try simp only [go_sem, getD_sp hk2]
        all_goals (rw [if_neg]; rfl; rw [hv, nNoBad_eq, if_pos hk2, nbad, c2]; simp)
    · skip
      refine dw_skip ?_
      show DW _ _ _ _ _
      refine dw_reg (C := Cn) (by simp only [go_sem, getD_sp hk2]; exact rfl) (fun h => by cases h) ?_ ?_
      · try simp only [go_sem, getD_sp hk2]
        all_goals (first | done | (repeat' (with_reducible apply And.intro)) <;> first | omega | (with_reducible assumption) | (intros; omega) | (intros; simp only [decide_eq_true_eq, decide_eq_false_iff_not, Bool.or_eq_true, Bool.and_eq_true, Bool.or_eq_false_iff, Bool.not_eq_true', Bool.not_eq_false'] at *; omega) | (simp_all; done) | (simp_all; omega))
      show ∃ _, _
      refine ⟨(k + 1, _), ⟨(by first | (first | omega | (with_reducible assumption) | (simp_all; done) | (simp_all; omega)) | (dsimp only; first | omega | (with_reducible assumption) | (simp_all; done) | (simp_all; omega))), (by first | (rw [hv, nNoBad_eq, if_pos hk2, nbad, c2]; rfl) | (dsimp only; rw [hv, nNoBad_eq, if_pos hk2, nbad, c2]; rfl)), trivial⟩, (by show (_ : Nat) < _; first | omega | simp_all; omega), ?_, ?_, ?_, Nat.le_refl _, rfl, rfl⟩
      · try simp only [go_sem, getD_sp hk2]
        all_goals (first | done | (simp; done) | (simp; omega) | ((repeat' (with_reducible apply And.intro)) <;> first | (left; simp; done) | (right; simp [go_sem]; done)))
      · try simp only [go_sem, getD_sp hk2]
        all_goals (first | done | (simp; done) | (simp; omega) | ((repeat' (with_reducible apply And.intro)) <;> first | (left; simp; done) | (right; simp [go_sem]; done)))
      · try simp only [go_sem, getD_sp hk2]
        all_goals (first | done | (simp; done) | (simp; omega) | ((repeat' (with_reducible apply And.intro)) <;> first | (left; simp; done) | (right; simp [go_sem]; done)))
  · skip
    have hk2 : nNoBad l 0 = true := by rw [hv, nNoBad_eq, if_neg (by simpa using c1)]
    refine dw_exit ?_
    show DW _ _ _ _ _
    refine dw_seq ?_
    refine dw_step (C := Cn) (by simp only [go_sem]; exact rfl) (fun h => by cases h) ?_ ?_
    · try simp only [go_sem]
      all_goals (first | done | (repeat' (with_reducible apply And.intro)) <;> first | omega | (with_reducible assumption) | (intros; omega) | (intros; simp only [decide_eq_true_eq, decide_eq_false_iff_not, Bool.or_eq_true, Bool.and_eq_true, Bool.or_eq_false_iff, Bool.not_eq_true', Bool.not_eq_false'] at *; omega) | (simp_all; done) | (simp_all; omega))
    refine dw_cond (by simp only [go_sem]; exact rfl) (fun c3 => ?_) (fun c3 => ?_)
    · skip
      try simp only [decide_eq_true_eq, decide_eq_false_iff_not, Bool.or_eq_true, Bool.and_eq_true, Bool.or_eq_false_iff, Bool.not_eq_true', Bool.not_eq_false'] at c3
      refine dw_step (C := Cn) (by simp only [go_sem]; exact rfl) (fun h => by cases h) ?_ ?_
      · try simp only [go_sem]
        all_goals (first | done | (repeat' (with_reducible apply And.intro)) <;> first | omega | (with_reducible assumption) | (intros; omega) | (intros; simp only [decide_eq_true_eq, decide_eq_false_iff_not, Bool.or_eq_true, Bool.and_eq_true, Bool.or_eq_false_iff, Bool.not_eq_true', Bool.not_eq_false'] at *; omega) | (simp_all; done) | (simp_all; omega))
      refine dw_ret ?_
      refine ⟨.inr rfl, ?_, ?_⟩
      · simp only [go_sem]
      refine ⟨1, ?_, ?_⟩
      · try simp only [go_sem]
        all_goals (simp)
      · try simp only [go_sem]
        all_goals (rw [if_pos hk2, if_pos c3]; rfl)
    · skip
      try simp only [decide_eq_true_eq, decide_eq_false_iff_not, Bool.or_eq_true, Bool.and_eq_true, Bool.or_eq_false_iff, Bool.not_eq_true', Bool.not_eq_false'] at c3
      refine dw_skip ?_
      show DW _ _ _ _ _
      refine dw_step (C := Cn) (by simp only [go_sem]; exact rfl) (fun h => by cases h) ?_ ?_
      · try simp only [go_sem]
        all_goals (first | done | exact rall_ct _ (by omega))
      refine dw_ret ?_
      refine ⟨.inr rfl, ?_, ?_⟩
      · simp only [go_sem]
      refine ⟨1, ?_, ?_⟩
      · try simp only [go_sem]
        all_goals (simp)
      · try simp only [go_sem]
        all_goals (rw [if_pos hk2, if_neg c3])
theorem bo25 : hasBody Try.prog 25 = true := by kernel_rfl
theorem rhas_ct (l : List Sp) (t : Int) : PureCt Try.prog 25 [.list false (l.map Sp.d), .i t] (.b (rhas l t)) := by
  rw [rhas]
  refine pure_of_dw Try.func25 rfl bo25 (by simp [go_sem, D.nr, nrs, Sp.d]) (by simp [Try.f25]) ?_
  unfold Try.f25
  simp only [init_eq]
  refine dw_len 0 rfl fun hlen => ?_
  simp only [List.length_map, maxLen] at hlen
  refine dw_step (C := Cn) (by simp only [go_sem]; exact rfl) (fun h => by cases h) ?_ ?_
  · try simp only [go_sem]
    all_goals (first | done | (repeat' (with_reducible apply And.intro)) <;> first | omega | (with_reducible assumption) | (intros; omega) | (intros; simp only [decide_eq_true_eq, decide_eq_false_iff_not, Bool.or_eq_true, Bool.and_eq_true, Bool.or_eq_false_iff, Bool.not_eq_true', Bool.not_eq_false'] at *; omega) | (simp_all; done) | (simp_all; omega))
  refine dw_seq ?_
  refine dw_step (C := Cn) (by simp only [go_sem]; exact rfl) (fun h => by cases h) ?_ ?_
  · try simp only [go_sem]
    all_goals (first | done | (repeat' (with_reducible apply And.intro)) <;> first | omega | (with_reducible assumption) | (intros; omega) | (intros; simp only [decide_eq_true_eq, decide_eq_false_iff_not, Bool.or_eq_true, Bool.and_eq_true, Bool.or_eq_false_iff, Bool.not_eq_true', Bool.not_eq_false'] at *; omega) | (simp_all; done) | (simp_all; omega))
  refine dw_block ?_
  refine dw_loop_fix (α := (Nat) × Nat) [0, 1] (fun ⟨k, nx⟩ => (k ≤ l.length) ∧ (hasFrom l t 0 = hasFrom l t k) ∧ True) (fun ⟨k, nx⟩ => l.length - k) (fun ⟨k, nx⟩ => [(5, .i k)]) (fun ⟨k, nx⟩ => []) (fun ⟨k, nx⟩ => nx) (0, _) (by simp only [List.map_cons, List.map_nil, go_sem]; exact rfl) ⟨(by first | (first | omega | (with_reducible assumption) | (simp_all; done) | (simp_all; omega)) | (dsimp only; first | omega | (with_reducible assumption) | (simp_all; done) | (simp_all; omega))), (by first | (rfl) | (dsimp only; rfl)), trivial⟩ (by first | (simp only [go_sem]; done) | (simp [go_sem]; done) | (simp only [go_sem]; (repeat' (with_reducible apply And.intro)) <;> first | (left; simp; done) | (right; simp [go_sem]; done))) (by first | (simp only [go_sem]; done) | simp [go_sem]) (Nat.le_refl _) ?_
  rintro ⟨k, nx⟩ ⟨hk, hv, -⟩
  show DW _ _ _ _ { n := _, t := tab _, h := _, nx := _, e := _ }
  simp only [List.cons_append, List.nil_append]
  refine dw_seq ?_
  refine dw_step (C := Cn) (by simp only [go_sem]; exact rfl) (fun h => by cases h) ?_ ?_
  · try simp only [go_sem]
    all_goals (first | done | (repeat' (with_reducible apply And.intro)) <;> first | omega | (with_reducible assumption) | (intros; omega) | (intros; simp only [decide_eq_true_eq, decide_eq_false_iff_not, Bool.or_eq_true, Bool.and_eq_true, Bool.or_eq_false_iff, Bool.not_eq_true', Bool.not_eq_false'] at *; omega) | (simp_all; done) | (simp_all; omega))
  refine dw_cond (by simp only [go_sem]; exact rfl) (fun c1 => ?_) (fun c1 => ?_)
  · skip
    have hk2 : k < l.length := by simpa using c1
    refine dw_skip ?_
    show DW _ _ _ _ _
    refine dw_seq ?_
    refine dw_block ?_
    refine dw_step (C := Cn) (by simp only [go_sem, getD_sp hk2]; exact rfl) (fun h => by cases h) ?_ ?_
    · try simp only [go_sem, getD_sp hk2]
      all_goals (first | done | (repeat' (with_reducible apply And.intro)) <;> first | omega | (with_reducible assumption) | (intros; omega) | (intros; simp only [decide_eq_true_eq, decide_eq_false_iff_not, Bool.or_eq_true, Bool.and_eq_true, Bool.or_eq_false_iff, Bool.not_eq_true', Bool.not_eq_false'] at *; omega) | (simp_all; done) | (simp_all; omega))
    refine dw_cond (by simp only [go_sem, getD_sp hk2]; exact rfl) (fun c2 => ?_) (fun c2 => ?_)
    · skip
      refine dw_step (C := Cn) (by simp only [go_sem, getD_sp hk2]; exact rfl) (fun h => by cases h) ?_ ?_
      · try simp only [go_sem, getD_sp hk2]
        all_goals (first | done | (repeat' (with_reducible apply And.intro)) <;> first | omega | (with_reducible assumption) | (intros; omega) | (intros; simp only [decide_eq_true_eq, decide_eq_false_iff_not, Bool.or_eq_true, Bool.and_eq_true, Bool.or_eq_false_iff, Bool.not_eq_true', Bool.not_eq_false'] at *; omega) | (simp_all; done) | (simp_all; omega))
      refine dw_ret ?_
      refine ⟨.inr rfl, ?_, ?_⟩
      · simp only [go_sem, getD_sp hk2]
      refine ⟨0, ?_, ?_⟩
      · try simp only [go_sem, getD_sp hk2]
        all_goals (simp)
      · try simp only [go_sem, getD_sp hk2]
        all_goals (rw [hv, hasFrom_eq, if_pos hk2, has1, c2]; rfl)
    · skip
      refine dw_skip ?_
      show DW _ _ _ _ _
      refine dw_reg (C := Cn) (by simp only [go_sem, getD_sp hk2]; exact rfl) (fun h => by cases h) ?_ ?_
      · try simp only [go_sem, getD_sp hk2]
        all_goals (first | done | (repeat' (with_reducible apply And.intro)) <;> first | omega | (with_reducible assumption) | (intros; omega) | (intros; simp only [decide_eq_true_eq, decide_eq_false_iff_not, Bool.or_eq_true, Bool.and_eq_true, Bool.or_eq_false_iff, Bool.not_eq_true', Bool.not_eq_false'] at *; omega) | (simp_all; done) | (simp_all; omega))
      show ∃ _, _
      refine ⟨(k + 1, _), ⟨(by first | (first | omega | (with_reducible assumption) | (simp_all; done) | (simp_all; omega)) | (dsimp only; first | omega | (with_reducible assumption) | (simp_all; done) | (simp_all; omega))), (by first | (rw [hv, hasFrom_eq, if_pos hk2, has1, c2]; rfl) | (dsimp only; rw [hv, hasFrom_eq, if_pos hk2, has1, c2]; rfl)), trivial⟩, (by show (_ : Nat) < _; first | omega | simp_all; omega), ?_, ?_, ?_, Nat.le_refl _, rfl, rfl⟩
      · try simp only [go_sem, getD_sp hk2]
        all_goals (first | done | (simp; done) | (simp; omega) | ((repeat' (with_reducible apply And.intro)) <;> first | (left; simp; done) | (right; simp [go_sem]; done)))
      · try simp only [go_sem, getD_sp hk2]
        all_goals (first | done | (simp; done) | (simp; omega) | ((repeat' (with_reducible apply And.intro)) <;> first | (left; simp; done) | (right; simp [go_sem]; done)))
      · try simp only [go_sem, getD_sp hk2]
        all_goals (first | done | (simp; done) | (simp; omega) | ((repeat' (with_reducible apply And.intro)) <;> first | (left; simp; done) | (right; simp [go_sem]; done)))
  · skip
    try simp only [decide_eq_true_eq, decide_eq_false_iff_not, Bool.or_eq_true, Bool.and_eq_true, Bool.or_eq_false_iff, Bool.not_eq_true', Bool.not_eq_false'] at c1
    refine dw_exit ?_
    show DW _ _ _ _ _
    refine dw_step (C := Cn) (by simp only [go_sem]; exact rfl) (fun h => by cases h) ?_ ?_
    · try simp only [go_sem]
      all_goals (first | done | (repeat' (with_reducible apply And.intro)) <;> first | omega | (with_reducible assumption) | (intros; omega) | (intros; simp only [decide_eq_true_eq, decide_eq_false_iff_not, Bool.or_eq_true, Bool.and_eq_true, Bool.or_eq_false_iff, Bool.not_eq_true', Bool.not_eq_false'] at *; omega) | (simp_all; done) | (simp_all; omega))
    refine dw_ret ?_
    refine ⟨.inr rfl, ?_, ?_⟩
    · simp only [go_sem]
    refine ⟨0, ?_, ?_⟩
    · try simp only [go_sem]
      all_goals (simp)
    · try simp only [go_sem]
      all_goals (rw [hv, hasFrom_eq, if_neg (by omega)])
theorem bo13 : hasBody Try.prog 13 = true := by kernel_rfl
theorem rsame_ct (a : List Sp) (b : List Sp) : PureCt Try.prog 13 [.list false (a.map Sp.d), .list false (b.map Sp.d)] (.b (rsame a b)) := by
  rw [rsame]
  refine pure_of_dw Try.func13 rfl bo13 (by simp [go_sem, D.nr, nrs, Sp.d]) (by simp [Try.f13]) ?_
  unfold Try.f13
  simp only [init_eq]
  refine dw_len 0 rfl fun hlen => ?_
  simp only [List.length_map, maxLen] at hlen
  refine dw_step (C := Cn) (by simp only [go_sem]; exact rfl) (fun h => by cases h) ?_ ?_
  · try simp only [go_sem]
    all_goals (first | done | (repeat' (with_reducible apply And.intro)) <;> first | omega | (with_reducible assumption) | (intros; omega) | (intros; simp only [decide_eq_true_eq, decide_eq_false_iff_not, Bool.or_eq_true, Bool.and_eq_true, Bool.or_eq_false_iff, Bool.not_eq_true', Bool.not_eq_false'] at *; omega) | (simp_all; done) | (simp_all; omega))
  refine dw_seq ?_
  refine dw_step (C := Cn) (by simp only [go_sem]; exact rfl) (fun h => by cases h) ?_ ?_
  · try simp only [go_sem]
    all_goals (first | done | (repeat' (with_reducible apply And.intro)) <;> first | omega | (with_reducible assumption) | (intros; omega) | (intros; simp only [decide_eq_true_eq, decide_eq_false_iff_not, Bool.or_eq_true, Bool.and_eq_true, Bool.or_eq_false_iff, Bool.not_eq_true', Bool.not_eq_false'] at *; omega) | (simp_all; done) | (simp_all; omega))
  refine dw_cond (by simp only [go_sem]; exact rfl) (fun c1 => ?_) (fun c1 => ?_)
  · skip
    refine dw_step (C := Cn) (by simp only [go_sem]; exact rfl) (fun h => by cases h) ?_ ?_
    · try simp only [go_sem]
      all_goals (first | done | (repeat' (with_reducible apply And.intro)) <;> first | omega | (with_reducible assumption) | (intros; omega) | (intros; simp only [decide_eq_true_eq, decide_eq_false_iff_not, Bool.or_eq_true, Bool.and_eq_true, Bool.or_eq_false_iff, Bool.not_eq_true', Bool.not_eq_false'] at *; omega) | (simp_all; done) | (simp_all; omega))
    refine dw_ret ?_
    refine ⟨.inr rfl, ?_, ?_⟩
    · simp only [go_sem]
    refine ⟨0, ?_, ?_⟩
    · try simp only [go_sem]
      all_goals (simp)
    · try simp only [go_sem]
      all_goals (rw [c1]; rfl)
  · skip
    have hab : (a.length : Int) = b.length := by simpa using c1
    refine dw_skip ?_
    show DW _ _ _ _ _
    refine dw_seq ?_
    refine dw_step (C := Cn) (by simp only [go_sem]; exact rfl) (fun h => by cases h) ?_ ?_
    · try simp only [go_sem]
      all_goals (first | done | (repeat' (with_reducible apply And.intro)) <;> first | omega | (with_reducible assumption) | (intros; omega) | (intros; simp only [decide_eq_true_eq, decide_eq_false_iff_not, Bool.or_eq_true, Bool.and_eq_true, Bool.or_eq_false_iff, Bool.not_eq_true', Bool.not_eq_false'] at *; omega) | (simp_all; done) | (simp_all; omega))
    refine dw_block ?_
    refine dw_loop_fix (α := (Nat) × Nat) [0, 1] (fun ⟨k, nx⟩ => (k ≤ a.length) ∧ (sameFrom a b 0 = sameFrom a b k) ∧ True) (fun ⟨k, nx⟩ => a.length - k) (fun ⟨k, nx⟩ => [(5, .i k)]) (fun ⟨k, nx⟩ => []) (fun ⟨k, nx⟩ => nx) (0, _) (by simp only [List.map_cons, List.map_nil, go_sem]; exact rfl) ⟨(by first | (first | omega | (with_reducible assumption) | (simp_all; done) | (simp_all; omega)) | (dsimp only; first | omega | (with_reducible assumption) | (simp_all; done) | (simp_all; omega))), (by first | (rfl) | (dsimp only; rfl)), trivial⟩ (by first | (simp only [go_sem]; done) | (simp [go_sem]; done) | (simp only [go_sem]; (repeat' (with_reducible apply And.intro)) <;> first | (left; simp; done) | (right; simp [go_sem]; done))) (by first | (simp only [go_sem]; done) | simp [go_sem]) (Nat.le_refl _) ?_
    rintro ⟨k, nx⟩ ⟨hk, hv, -⟩
    show DW _ _ _ _ { n := _, t := tab _, h := _, nx := _, e := _ }
    simp only [List.cons_append, List.nil_append]
    refine dw_seq ?_
    refine dw_step (C := Cn) (by simp only [go_sem]; exact rfl) (fun h => by cases h) ?_ ?_
    · try simp only [go_sem]
      all_goals (first | done | (repeat' (with_reducible apply And.intro)) <;> first | omega | (with_reducible assumption) | (intros; omega) | (intros; simp only [decide_eq_true_eq, decide_eq_false_iff_not, Bool.or_eq_true, Bool.and_eq_true, Bool.or_eq_false_iff, Bool.not_eq_true', Bool.not_eq_false'] at *; omega) | (simp_all; done) | (simp_all; omega))
    refine dw_cond (by simp only [go_sem]; exact rfl) (fun c2 => ?_) (fun c2 => ?_)
    · skip
      have hk2 : k < a.length := by simpa using c2
      have hk3 : k < b.length := by omega
      refine dw_skip ?_
      show DW _ _ _ _ _
      refine dw_seq ?_
      refine dw_block ?_
      refine dw_step (C := Cn) (by simp only [go_sem, getD_sp hk2, getD_sp hk3, Bool.and_true]; exact rfl) (fun _ => ⟨mix, by kernel_rfl, by kernel_rfl⟩) ?_ ?_
      · try simp only [go_sem, getD_sp hk2, getD_sp hk3, Bool.and_true]
        all_goals (first | done | (repeat' (with_reducible apply And.intro)) <;> first | omega | (with_reducible assumption) | (intros; omega) | (intros; simp only [decide_eq_true_eq, decide_eq_false_iff_not, Bool.or_eq_true, Bool.and_eq_true, Bool.or_eq_false_iff, Bool.not_eq_true', Bool.not_eq_false'] at *; omega) | (simp_all; done) | (simp_all; omega))
      refine dw_cond (by simp only [go_sem, getD_sp hk2, getD_sp hk3, Bool.and_true]; exact rfl) (fun c3 => ?_) (fun c3 => ?_)
      · skip
        refine dw_step (C := Cn) (by simp only [go_sem, getD_sp hk2, getD_sp hk3, Bool.and_true]; exact rfl) (fun h => by cases h) ?_ ?_
        · try simp only [go_sem, getD_sp hk2, getD_sp hk3, Bool.and_true]
          all_goals (first | done | (repeat' (with_reducible apply And.intro)) <;> first | omega | (with_reducible assumption) | (intros; omega) | (intros; simp only [decide_eq_true_eq, decide_eq_false_iff_not, Bool.or_eq_true, Bool.and_eq_true, Bool.or_eq_false_iff, Bool.not_eq_true', Bool.not_eq_false'] at *; omega) | (simp_all; done) | (simp_all; omega))
        refine dw_ret ?_
        refine ⟨.inr rfl, ?_, ?_⟩
        · simp only [go_sem, getD_sp hk2, getD_sp hk3, Bool.and_true]
        refine ⟨0, ?_, ?_⟩
        · try simp only [go_sem, getD_sp hk2, getD_sp hk3, Bool.and_true]
          all_goals (simp)
        · try simp only [go_sem, getD_sp hk2, getD_sp hk3, Bool.and_true]
          all_goals (rw [c1, hv, sameFrom_eq, if_pos hk2, neAt, c3]; rfl)
      · skip
        refine dw_skip ?_
        show DW _ _ _ _ _
        refine dw_reg (C := Cn) (by simp only [go_sem, getD_sp hk2, getD_sp hk3, Bool.and_true]; exact rfl) (fun h => by cases h) ?_ ?_
        · try simp only [go_sem, getD_sp hk2, getD_sp hk3, Bool.and_true]
          all_goals (first | done | (repeat' (with_reducible apply And.intro)) <;> first | omega | (with_reducible assumption) | (intros; omega) | (intros; simp only [decide_eq_true_eq, decide_eq_false_iff_not, Bool.or_eq_true, Bool.and_eq_true, Bool.or_eq_false_iff, Bool.not_eq_true', Bool.not_eq_false'] at *; omega) | (simp_all; done) | (simp_all; omega))
        show ∃ _, _
        refine ⟨(k + 1, _), ⟨(by first | (first | omega | (with_reducible assumption) | (simp_all; done) | (simp_all; omega)) | (dsimp only; first | omega | (with_reducible assumption) | (simp_all; done) | (simp_all; omega))), (by first | (rw [hv, sameFrom_eq, if_pos hk2, neAt, c3]; rfl) | (dsimp only; rw [hv, sameFrom_eq, if_pos hk2, neAt, c3]; rfl)), trivial⟩, (by show (_ : Nat) < _; first | omega | simp_all; omega), ?_, ?_, ?_, Nat.le_refl _, rfl, rfl⟩
        · try simp only [go_sem, getD_sp hk2, getD_sp hk3, Bool.and_true]
          all_goals (first | done | (simp; done) | (simp; omega) | ((repeat' (with_reducible apply And.intro)) <;> first | (left; simp; done) | (right; simp [go_sem]; done)))
        · try simp only [go_sem, getD_sp hk2, getD_sp hk3, Bool.and_true]
          all_goals (first | done | (simp; done) | (simp; omega) | ((repeat' (with_reducible apply And.intro)) <;> first | (left; simp; done) | (right; simp [go_sem]; done)))
        · try simp only [go_sem, getD_sp hk2, getD_sp hk3, Bool.and_true]
          all_goals (first | done | (simp; done) | (simp; omega) | ((repeat' (with_reducible apply And.intro)) <;> first | (left; simp; done) | (right; simp [go_sem]; done)))
    · skip
      try simp only [decide_eq_true_eq, decide_eq_false_iff_not, Bool.or_eq_true, Bool.and_eq_true, Bool.or_eq_false_iff, Bool.not_eq_true', Bool.not_eq_false'] at c2
      refine dw_exit ?_
      show DW _ _ _ _ _
      refine dw_step (C := Cn) (by simp only [go_sem]; exact rfl) (fun h => by cases h) ?_ ?_
      · try simp only [go_sem]
        all_goals (first | done | (repeat' (with_reducible apply And.intro)) <;> first | omega | (with_reducible assumption) | (intros; omega) | (intros; simp only [decide_eq_true_eq, decide_eq_false_iff_not, Bool.or_eq_true, Bool.and_eq_true, Bool.or_eq_false_iff, Bool.not_eq_true', Bool.not_eq_false'] at *; omega) | (simp_all; done) | (simp_all; omega))
      refine dw_ret ?_
      refine ⟨.inr rfl, ?_, ?_⟩
      · simp only [go_sem]
      refine ⟨0, ?_, ?_⟩
      · try simp only [go_sem]
        all_goals (simp)
      · try simp only [go_sem]
        all_goals (simp only [c1, Bool.false_eq_true, if_false]; rw [hv, sameFrom_eq, if_neg (by omega)])
theorem bo37 : hasBody Try.prog 37 = true := by kernel_rfl
theorem reither_ct (a : List Sp) (b : List Sp) (ha : a.length ≤ 100000) (hb : b.length ≤ 100000) : PureCt Try.prog 37 [.list false (a.map Sp.d), .list false (b.map Sp.d)] (.list false ((reither a b).map Sp.d)) := by
  rw [reither]
  refine pure_of_dw Try.func37 rfl bo37 (by simp [go_sem, D.nr, nrs, Sp.d]) (by simp [Try.f37]) ?_
  unfold Try.f37
  simp only [init_eq]
  refine dw_step (C := Cn) (by simp only [go_sem]; exact rfl) (fun h => by cases h) ?_ ?_
  · try simp only [go_sem]
    all_goals (first | done | (repeat' (with_reducible apply And.intro)) <;> first | omega | (with_reducible assumption) | (intros; omega) | (intros; simp only [decide_eq_true_eq, decide_eq_false_iff_not, Bool.or_eq_true, Bool.and_eq_true, Bool.or_eq_false_iff, Bool.not_eq_true', Bool.not_eq_false'] at *; omega) | (simp_all; done) | (simp_all; omega))
  refine dw_step (C := Cn) (by simp only [go_sem]; exact rfl) (fun h => by cases h) ?_ ?_
  · try simp only [go_sem]
    all_goals (first | done | exact rall_ct _ (by omega))
  refine dw_seq ?_
  refine dw_step (C := Cn) (by simp only [go_sem]; exact rfl) (fun h => by cases h) ?_ ?_
  · try simp only [go_sem]
    all_goals (first | done | (repeat' (with_reducible apply And.intro)) <;> first | omega | (with_reducible assumption) | (intros; omega) | (intros; simp only [decide_eq_true_eq, decide_eq_false_iff_not, Bool.or_eq_true, Bool.and_eq_true, Bool.or_eq_false_iff, Bool.not_eq_true', Bool.not_eq_false'] at *; omega) | (simp_all; done) | (simp_all; omega))
  refine dw_block ?_
  refine dw_loop_fix (α := (Nat) × (List Sp) × Nat) [1] (fun ⟨k, out, nx⟩ => (k ≤ b.length) ∧ (out.length ≤ 100000 + k) ∧ (allFrom b 0 (rall a) = allFrom b k out) ∧ True) (fun ⟨k, out, nx⟩ => b.length - k) (fun ⟨k, out, nx⟩ => [(5, .list false (out.map Sp.d)), (6, .i k)]) (fun ⟨k, out, nx⟩ => []) (fun ⟨k, out, nx⟩ => nx) (0, rall a, _) (by simp only [List.map_cons, List.map_nil, go_sem]; exact rfl) ⟨(by first | (first | omega | (with_reducible assumption) | (simp_all; done) | (simp_all; omega)) | (dsimp only; first | omega | (with_reducible assumption) | (simp_all; done) | (simp_all; omega))), (by first | (have := rall_len a; omega) | (dsimp only; have := rall_len a; omega)), (by first | (rfl) | (dsimp only; rfl)), trivial⟩ (by first | (simp only [go_sem]; done) | (simp [go_sem]; done) | (simp only [go_sem]; (repeat' (with_reducible apply And.intro)) <;> first | (left; simp; done) | (right; simp [go_sem]; done))) (by first | (simp only [go_sem]; done) | simp [go_sem]) (Nat.le_refl _) ?_
  rintro ⟨k, out, nx⟩ ⟨hk, ho, hv, -⟩
  show DW _ _ _ _ { n := _, t := tab _, h := _, nx := _, e := _ }
  simp only [List.cons_append, List.nil_append]
  refine dw_seq ?_
  refine dw_step (C := Cn) (by simp only [go_sem]; exact rfl) (fun h => by cases h) ?_ ?_
  · try simp only [go_sem]
    all_goals (first | done | (repeat' (with_reducible apply And.intro)) <;> first | omega | (with_reducible assumption) | (intros; omega) | (intros; simp only [decide_eq_true_eq, decide_eq_false_iff_not, Bool.or_eq_true, Bool.and_eq_true, Bool.or_eq_false_iff, Bool.not_eq_true', Bool.not_eq_false'] at *; omega) | (simp_all; done) | (simp_all; omega))
  refine dw_cond (by simp only [go_sem]; exact rfl) (fun c1 => ?_) (fun c1 => ?_)
  · skip
    have hk2 : k < b.length := by simpa using c1
    refine dw_skip ?_
    show DW _ _ _ _ _
    refine dw_seq ?_
    refine dw_block ?_
    refine dw_reg (C := Cn) (by simp only [go_sem, getD_sp hk2]; exact rfl) (fun h => by cases h) ?_ ?_
    · try simp only [go_sem, getD_sp hk2]
      all_goals (first | done | exact ⟨by omega, with1_ct _ _ (by omega)⟩ | exact with1_ct _ _ (by omega))
    show DW _ _ _ _ _
    refine dw_reg (C := Cn) (by simp only [go_sem, getD_sp hk2]; exact rfl) (fun h => by cases h) ?_ ?_
    · try simp only [go_sem, getD_sp hk2]
      all_goals (first | done | (repeat' (with_reducible apply And.intro)) <;> first | omega | (with_reducible assumption) | (intros; omega) | (intros; simp only [decide_eq_true_eq, decide_eq_false_iff_not, Bool.or_eq_true, Bool.and_eq_true, Bool.or_eq_false_iff, Bool.not_eq_true', Bool.not_eq_false'] at *; omega) | (simp_all; done) | (simp_all; omega))
    show ∃ _, _
    refine ⟨(k + 1, with1 out b[k]!, _), ⟨(by first | (first | omega | (with_reducible assumption) | (simp_all; done) | (simp_all; omega)) | (dsimp only; first | omega | (with_reducible assumption) | (simp_all; done) | (simp_all; omega))), (by first | (have := with1_len out b[k]!; omega) | (dsimp only; have := with1_len out b[k]!; omega)), (by first | (rw [hv, allFrom_eq, if_pos hk2]) | (dsimp only; rw [hv, allFrom_eq, if_pos hk2])), trivial⟩, (by show (_ : Nat) < _; first | omega | simp_all; omega), ?_, ?_, ?_, Nat.le_refl _, rfl, rfl⟩
    · try simp only [go_sem, getD_sp hk2]
      all_goals (first | done | (simp; done) | (simp; omega) | ((repeat' (with_reducible apply And.intro)) <;> first | (left; simp; done) | (right; simp [go_sem]; done)))
    · try simp only [go_sem, getD_sp hk2]
      all_goals (first | done | (simp; done) | (simp; omega) | ((repeat' (with_reducible apply And.intro)) <;> first | (left; simp; done) | (right; simp [go_sem]; done)))
    · try simp only [go_sem, getD_sp hk2]
      all_goals (first | done | (simp; done) | (simp; omega) | ((repeat' (with_reducible apply And.intro)) <;> first | (left; simp; done) | (right; simp [go_sem]; done)))
  · skip
    try simp only [decide_eq_true_eq, decide_eq_false_iff_not, Bool.or_eq_true, Bool.and_eq_true, Bool.or_eq_false_iff, Bool.not_eq_true', Bool.not_eq_false'] at c1
    refine dw_exit ?_
    show DW _ _ _ _ _
    refine dw_step (C := Cn) (by simp only [go_sem]; exact rfl) (fun h => by cases h) ?_ ?_
    · try simp only [go_sem]
      all_goals (first | done | (repeat' (with_reducible apply And.intro)) <;> first | omega | (with_reducible assumption) | (intros; omega) | (intros; simp only [decide_eq_true_eq, decide_eq_false_iff_not, Bool.or_eq_true, Bool.and_eq_true, Bool.or_eq_false_iff, Bool.not_eq_true', Bool.not_eq_false'] at *; omega) | (simp_all; done) | (simp_all; omega))
    refine dw_ret ?_
    refine ⟨.inr rfl, ?_, ?_⟩
    · simp only [go_sem]
    refine ⟨0, ?_, ?_⟩
    · try simp only [go_sem]
      all_goals (simp)
    · try simp only [go_sem]
      all_goals (rw [hv, allFrom_eq, if_neg (by omega)])
end Go.Proofs.Ytfcdbijmoiegiaa
