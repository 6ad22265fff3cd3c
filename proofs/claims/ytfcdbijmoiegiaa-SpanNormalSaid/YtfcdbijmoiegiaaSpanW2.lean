import Derived.Test.YtfcdbijmoiegiaaSpanW1
namespace Go.Proofs.Ytfcdbijmoiegiaa
open Go.DL Go.Span
set_option maxRecDepth 10000
set_option linter.unusedSimpArgs false
set_option linter.unusedVariables false
theorem bo15 : hasBody Try.prog 15 = true := by kernel_rfl
theorem runion_ct (a : List Sp) (b : List Sp) : PureCt Try.prog 15 [.list false (a.map Sp.d), .list false (b.map Sp.d)] (.tuple [.list false ((runion a b).1.map Sp.d), .i (runion a b).2]) := by
  rw [runion]
  refine pure_of_dw Try.func15 rfl bo15 (by simp [go_sem, D.nr, nrs, Sp.d]) (by simp [Try.f15]) ?_
  unfold Try.f15
  simp only [init_eq]
  refine dw_step (C := Cn) (by simp only [go_sem]; exact rfl) (fun h => by cases h) ?_ ?_
  · try simp only [go_sem]
    all_goals (first | done | (repeat' (with_reducible apply And.intro)) <;> first | omega | (with_reducible assumption) | (intros; omega) | (intros; simp only [decide_eq_true_eq, decide_eq_false_iff_not, Bool.or_eq_true, Bool.and_eq_true, Bool.or_eq_false_iff, Bool.not_eq_true', Bool.not_eq_false'] at *; omega) | (simp_all; done) | (simp_all; omega))
  refine dw_seq ?_
  refine dw_step (C := Cn) (by simp only [go_sem]; exact rfl) (fun h => by cases h) ?_ ?_
  · try simp only [go_sem]
    all_goals (first | done | (repeat' (with_reducible apply And.intro)) <;> first | omega | (with_reducible assumption) | (intros; omega) | (intros; simp only [decide_eq_true_eq, decide_eq_false_iff_not, Bool.or_eq_true, Bool.and_eq_true, Bool.or_eq_false_iff, Bool.not_eq_true', Bool.not_eq_false'] at *; omega) | (simp_all; done) | (simp_all; omega) | (apply rvalid_ct <;> omega) | (intros; apply rvalid_ct <;> omega) | (apply rvalid_ct <;> omega) | (intros; apply rvalid_ct <;> omega))
  refine dw_cond (by simp only [go_sem]; exact rfl) (fun c1 => ?_) (fun c1 => ?_)
  · skip
    have hv1 : (rvalid a && rvalid b) = false := by revert c1; cases rvalid a <;> cases rvalid b <;> simp
    refine dw_step (C := Cn) (by simp only [go_sem]; exact rfl) (fun h => by cases h) ?_ ?_
    · try simp only [go_sem]
      all_goals (first | done | (repeat' (with_reducible apply And.intro)) <;> first | omega | (with_reducible assumption) | (intros; omega) | (intros; simp only [decide_eq_true_eq, decide_eq_false_iff_not, Bool.or_eq_true, Bool.and_eq_true, Bool.or_eq_false_iff, Bool.not_eq_true', Bool.not_eq_false'] at *; omega) | (simp_all; done) | (simp_all; omega))
    refine dw_ret ?_
    refine ⟨.inr rfl, ?_, ?_⟩
    · simp only [go_sem]
    refine ⟨1, ?_, ?_⟩
    · try simp only [go_sem]
      all_goals (simp)
    · try simp only [go_sem]
      all_goals (rw [hv1]; rfl)
  · skip
    have hv1 : rvalid a = true ∧ rvalid b = true := by simpa using c1
    have hl1 := rvalid_len hv1.1
    have hl2 := rvalid_len hv1.2
    refine dw_skip ?_
    show DW _ _ _ _ _
    refine dw_step (C := Cn) (by simp only [go_sem]; exact rfl) (fun h => by cases h) ?_ ?_
    · try simp only [go_sem]
      all_goals (first | done | (repeat' (with_reducible apply And.intro)) <;> first | omega | (with_reducible assumption) | (intros; omega) | (intros; simp only [decide_eq_true_eq, decide_eq_false_iff_not, Bool.or_eq_true, Bool.and_eq_true, Bool.or_eq_false_iff, Bool.not_eq_true', Bool.not_eq_false'] at *; omega) | (simp_all; done) | (simp_all; omega) | (apply reither_ct <;> omega) | (intros; apply reither_ct <;> omega) | (apply rlimited_ct <;> omega) | (intros; apply rlimited_ct <;> omega))
    refine dw_ret ?_
    refine ⟨.inr rfl, ?_, ?_⟩
    · simp only [go_sem]
    refine ⟨1, ?_, ?_⟩
    · try simp only [go_sem]
      all_goals (simp)
    · try simp only [go_sem]
      all_goals (simp only [hv1.1, hv1.2, Bool.and_self, if_true])
theorem bo39 : hasBody Try.prog 39 = true := by kernel_rfl
theorem rboth_ct (a : List Sp) (b : List Sp) (ha : a.length ≤ 30000) (hb : b.length ≤ 30000) : PureCt Try.prog 39 [.list false (a.map Sp.d), .list false (b.map Sp.d)] (.list false ((rboth a b).map Sp.d)) := by
  rw [rboth]
  refine pure_of_dw Try.func39 rfl bo39 (by simp [go_sem, D.nr, nrs, Sp.d]) (by simp [Try.f39]) ?_
  unfold Try.f39
  simp only [init_eq]
  refine dw_step (C := Cn) (by simp only [go_sem]; exact rfl) (fun h => by cases h) ?_ ?_
  · try simp only [go_sem]
    all_goals (first | done | (repeat' (with_reducible apply And.intro)) <;> first | omega | (with_reducible assumption) | (intros; omega) | (intros; simp only [decide_eq_true_eq, decide_eq_false_iff_not, Bool.or_eq_true, Bool.and_eq_true, Bool.or_eq_false_iff, Bool.not_eq_true', Bool.not_eq_false'] at *; omega) | (simp_all; done) | (simp_all; omega))
  refine dw_step (C := Cn) (by simp only [go_sem]; exact rfl) (fun h => by cases h) ?_ ?_
  · try simp only [go_sem]
    all_goals (first | done | (repeat' (with_reducible apply And.intro)) <;> first | omega | (with_reducible assumption) | (intros; omega) | (intros; simp only [decide_eq_true_eq, decide_eq_false_iff_not, Bool.or_eq_true, Bool.and_eq_true, Bool.or_eq_false_iff, Bool.not_eq_true', Bool.not_eq_false'] at *; omega) | (simp_all; done) | (simp_all; omega))
  refine dw_seq ?_
  refine dw_step (C := Cn) (by simp only [go_sem]; exact rfl) (fun h => by cases h) ?_ ?_
  · try simp only [go_sem]
    all_goals (first | done | (repeat' (with_reducible apply And.intro)) <;> first | omega | (with_reducible assumption) | (intros; omega) | (intros; simp only [decide_eq_true_eq, decide_eq_false_iff_not, Bool.or_eq_true, Bool.and_eq_true, Bool.or_eq_false_iff, Bool.not_eq_true', Bool.not_eq_false'] at *; omega) | (simp_all; done) | (simp_all; omega))
  refine dw_block ?_
  refine dw_own 5 34 (by simp only [go_sem]) (by simp only [go_sem]) ?_
  refine dw_loop_fix (α := (Nat) × (List Sp) × (Nat) × Nat) [0, 1] (fun ⟨i, out, r, nx⟩ => (i ≤ a.length) ∧ (out.length ≤ 30000 * i) ∧ (both1 a b 0 [] = both1 a b i out) ∧ (r < nx) ∧ True) (fun ⟨i, out, r, nx⟩ => a.length - i) (fun ⟨i, out, r, nx⟩ => [(5, .mrow r 0 out.length), (6, .i i)]) (fun ⟨i, out, r, nx⟩ => [(r, ⟨34, out.map Sp.d⟩)]) (fun ⟨i, out, r, nx⟩ => nx) (0, [], 3, _) (by simp only [List.map_cons, List.map_nil, go_sem]; exact rfl) ⟨(by first | (first | omega | (with_reducible assumption) | (simp_all; done) | (simp_all; omega)) | (dsimp only; first | omega | (with_reducible assumption) | (simp_all; done) | (simp_all; omega))), (by first | (simp) | (dsimp only; simp)), (by first | (rfl) | (dsimp only; rfl)), (by first | (first | omega | (with_reducible assumption) | (simp_all; done) | (simp_all; omega)) | (dsimp only; first | omega | (with_reducible assumption) | (simp_all; done) | (simp_all; omega))), trivial⟩ (by first | (simp only [go_sem]; done) | (simp [go_sem]; done) | (simp only [go_sem]; (repeat' (with_reducible apply And.intro)) <;> first | (left; simp; done) | (right; simp [go_sem]; done))) (by first | (simp only [go_sem]; done) | simp [go_sem]) (Nat.le_refl _) ?_
  rintro ⟨i, out, r, nx⟩ ⟨hi, ho, hv, hr, -⟩
  show DW _ _ _ _ { n := _, t := tab _, h := _, nx := _, e := _ }
  simp only [List.cons_append, List.nil_append]
  refine dw_seq ?_
  refine dw_step (C := Cn) (by simp only [go_sem, hr]; exact rfl) (fun h => by cases h) ?_ ?_
  · try simp only [go_sem, hr]
    all_goals (first | done | (repeat' (with_reducible apply And.intro)) <;> first | omega | (with_reducible assumption) | (intros; omega) | (intros; simp only [decide_eq_true_eq, decide_eq_false_iff_not, Bool.or_eq_true, Bool.and_eq_true, Bool.or_eq_false_iff, Bool.not_eq_true', Bool.not_eq_false'] at *; omega) | (simp_all; done) | (simp_all; omega))
  refine dw_cond (by simp only [go_sem, hr]; exact rfl) (fun c1 => ?_) (fun c1 => ?_)
  · skip
    have hi2 : i < a.length := by simpa using c1
    refine dw_skip ?_
    show DW _ _ _ _ _
    refine dw_seq ?_
    refine dw_block ?_
    refine dw_step (C := Cn) (by simp only [go_sem, hr, getD_sp hi2]; exact rfl) (fun h => by cases h) ?_ ?_
    · try simp only [go_sem, hr, getD_sp hi2]
      all_goals (first | done | (repeat' (with_reducible apply And.intro)) <;> first | omega | (with_reducible assumption) | (intros; omega) | (intros; simp only [decide_eq_true_eq, decide_eq_false_iff_not, Bool.or_eq_true, Bool.and_eq_true, Bool.or_eq_false_iff, Bool.not_eq_true', Bool.not_eq_false'] at *; omega) | (simp_all; done) | (simp_all; omega))
    refine dw_block ?_
    refine dw_loop_fix (α := (Nat) × (List Sp) × (Nat) × Nat) [0, 1, 6] (fun ⟨k, out1, r1, nx⟩ => (k ≤ b.length) ∧ (out1.length ≤ 30000 * i + k) ∧ (both2 a b i 0 out = both2 a b i k out1) ∧ (r1 < nx) ∧ True) (fun ⟨k, out1, r1, nx⟩ => b.length - k) (fun ⟨k, out1, r1, nx⟩ => [(5, .mrow r1 0 out1.length), (7, .i k)]) (fun ⟨k, out1, r1, nx⟩ => [(r1, ⟨34, out1.map Sp.d⟩)]) (fun ⟨k, out1, r1, nx⟩ => nx) (0, out, r, _) (by simp only [List.map_cons, List.map_nil, go_sem, hr, getD_sp hi2]; exact rfl) ⟨(by first | (first | omega | (with_reducible assumption) | (simp_all; done) | (simp_all; omega)) | (dsimp only; first | omega | (with_reducible assumption) | (simp_all; done) | (simp_all; omega))), (by first | (first | omega | (with_reducible assumption) | (simp_all; done) | (simp_all; omega)) | (dsimp only; first | omega | (with_reducible assumption) | (simp_all; done) | (simp_all; omega))), (by first | (rfl) | (dsimp only; rfl)), (by first | (first | omega | (with_reducible assumption) | (simp_all; done) | (simp_all; omega)) | (dsimp only; first | omega | (with_reducible assumption) | (simp_all; done) | (simp_all; omega))), trivial⟩ (by first | (simp only [go_sem, hr, getD_sp hi2]; done) | (simp [go_sem, hr, getD_sp hi2]; done) | (simp only [go_sem, hr, getD_sp hi2]; (repeat' (with_reducible apply And.intro)) <;> first | (left; simp; done) | (right; simp [go_sem]; done))) (by first | (simp only [go_sem, hr, getD_sp hi2]; done) | simp [go_sem, hr, getD_sp hi2]) (Nat.le_refl _) ?_
    rintro ⟨k, out1, r1, nx⟩ ⟨hk, ho1, hv1, hr1, -⟩
    show DW _ _ _ _ { n := _, t := tab _, h := _, nx := _, e := _ }
    simp only [List.cons_append, List.nil_append]
    refine dw_seq ?_
    refine dw_step (C := Cn) (by simp only [go_sem, hr, getD_sp hi2, hr1]; exact rfl) (fun h => by cases h) ?_ ?_
    · try simp only [go_sem, hr, getD_sp hi2, hr1]
      all_goals (first | done | (repeat' (with_reducible apply And.intro)) <;> first | omega | (with_reducible assumption) | (intros; omega) | (intros; simp only [decide_eq_true_eq, decide_eq_false_iff_not, Bool.or_eq_true, Bool.and_eq_true, Bool.or_eq_false_iff, Bool.not_eq_true', Bool.not_eq_false'] at *; omega) | (simp_all; done) | (simp_all; omega))
    refine dw_cond (by simp only [go_sem, hr, getD_sp hi2, hr1]; exact rfl) (fun c2 => ?_) (fun c2 => ?_)
    · skip
      have hk2 : k < b.length := by simpa using c2
      refine dw_skip ?_
      show DW _ _ _ _ _
      refine dw_seq ?_
      refine dw_block ?_
      refine dw_step (C := Cn) (by simp only [go_sem, hr, getD_sp hi2, hr1, getD_sp hk2]; exact rfl) (fun _ => ⟨mix, by kernel_rfl, by kernel_rfl⟩) ?_ ?_
      · try simp only [go_sem, hr, getD_sp hi2, hr1, getD_sp hk2]
        all_goals (first | done | (repeat' (with_reducible apply And.intro)) <;> first | omega | (with_reducible assumption) | (intros; omega) | (intros; simp only [decide_eq_true_eq, decide_eq_false_iff_not, Bool.or_eq_true, Bool.and_eq_true, Bool.or_eq_false_iff, Bool.not_eq_true', Bool.not_eq_false'] at *; omega) | (simp_all; done) | (simp_all; omega))
      refine dw_step (C := Cn) (by simp only [go_sem, hr, getD_sp hi2, hr1, getD_sp hk2]; exact rfl) (fun h => by cases h) ?_ ?_
      · try simp only [go_sem, hr, getD_sp hi2, hr1, getD_sp hk2]
        all_goals (first | done | (repeat' (with_reducible apply And.intro)) <;> first | omega | (with_reducible assumption) | (intros; omega) | (intros; simp only [decide_eq_true_eq, decide_eq_false_iff_not, Bool.or_eq_true, Bool.and_eq_true, Bool.or_eq_false_iff, Bool.not_eq_true', Bool.not_eq_false'] at *; omega) | (simp_all; done) | (simp_all; omega))
      refine dw_cond (by simp only [go_sem, hr, getD_sp hi2, hr1, getD_sp hk2]; exact rfl) (fun c3 => ?_) (fun c3 => ?_)
      · skip
        try simp only [decide_eq_true_eq, decide_eq_false_iff_not, Bool.or_eq_true, Bool.and_eq_true, Bool.or_eq_false_iff, Bool.not_eq_true', Bool.not_eq_false'] at c3
        refine dw_reg (C := Cn) (by simp only [go_sem, hr, getD_sp hi2, hr1, getD_sp hk2]; exact rfl) (fun h => by cases h) ?_ ?_
        · try simp only [go_sem, hr, getD_sp hi2, hr1, getD_sp hk2]
          all_goals (first | done | (repeat' (with_reducible apply And.intro)) <;> first | omega | (with_reducible assumption) | (intros; omega) | (intros; simp only [decide_eq_true_eq, decide_eq_false_iff_not, Bool.or_eq_true, Bool.and_eq_true, Bool.or_eq_false_iff, Bool.not_eq_true', Bool.not_eq_false'] at *; omega) | (simp_all; done) | (simp_all; omega))
        show DW _ _ _ _ _
        refine dw_reg (C := Cn) (by simp only [go_sem, hr, getD_sp hi2, hr1, getD_sp hk2]; exact rfl) (fun h => by cases h) ?_ ?_
        · try simp only [go_sem, hr, getD_sp hi2, hr1, getD_sp hk2]
          all_goals (first | done | (repeat' (with_reducible apply And.intro)) <;> first | omega | (with_reducible assumption) | (intros; omega) | (intros; simp only [decide_eq_true_eq, decide_eq_false_iff_not, Bool.or_eq_true, Bool.and_eq_true, Bool.or_eq_false_iff, Bool.not_eq_true', Bool.not_eq_false'] at *; omega) | (simp_all; done) | (simp_all; omega))
        show ∃ _, _
        refine ⟨(k + 1, out1 ++ [⟨max a[i]!.a b[k]!.a, min a[i]!.b b[k]!.b⟩], (nx + 37), _), ⟨(by first | (first | omega | (with_reducible assumption) | (simp_all; done) | (simp_all; omega)) | (dsimp only; first | omega | (with_reducible assumption) | (simp_all; done) | (simp_all; omega))), (by first | (simp; omega) | (dsimp only; simp; omega)), (by first | (rw [hv1, both2_eq, if_pos hk2, if_pos c3]) | (dsimp only; rw [hv1, both2_eq, if_pos hk2, if_pos c3])), (by first | (first | omega | (with_reducible assumption) | (simp_all; done) | (simp_all; omega)) | (dsimp only; first | omega | (with_reducible assumption) | (simp_all; done) | (simp_all; omega))), trivial⟩, (by show (_ : Nat) < _; first | omega | simp_all; omega), ?_, ?_, ?_, Nat.le_refl _, rfl, rfl⟩
        · try simp only [go_sem, hr, getD_sp hi2, hr1, getD_sp hk2]
          all_goals (first | done | (simp [Sp.d]; done) | (simp [Sp.d]; omega))
        · try simp only [go_sem, hr, getD_sp hi2, hr1, getD_sp hk2]
          all_goals (first | done | (simp [Sp.d]; done) | (simp [Sp.d]; omega))
        · try simp only [go_sem, hr, getD_sp hi2, hr1, getD_sp hk2]
          all_goals (first | done | (simp [Sp.d]; done) | (simp [Sp.d]; omega))
      · skip
        try simp only [decide_eq_true_eq, decide_eq_false_iff_not, Bool.or_eq_true, Bool.and_eq_true, Bool.or_eq_false_iff, Bool.not_eq_true', Bool.not_eq_false'] at c3
        refine dw_skip ?_
        show DW _ _ _ _ _
        refine dw_reg (C := Cn) (by simp only [go_sem, hr, getD_sp hi2, hr1, getD_sp hk2]; exact rfl) (fun h => by cases h) ?_ ?_
        · try simp only [go_sem, hr, getD_sp hi2, hr1, getD_sp hk2]
          all_goals (first | done | (repeat' (with_reducible apply And.intro)) <;> first | omega | (with_reducible assumption) | (intros; omega) | (intros; simp only [decide_eq_true_eq, decide_eq_false_iff_not, Bool.or_eq_true, Bool.and_eq_true, Bool.or_eq_false_iff, Bool.not_eq_true', Bool.not_eq_false'] at *; omega) | (simp_all; done) | (simp_all; omega))
        show ∃ _, _
        refine ⟨(k + 1, out1, r1, _), ⟨(by first | (first | omega | (with_reducible assumption) | (simp_all; done) | (simp_all; omega)) | (dsimp only; first | omega | (with_reducible assumption) | (simp_all; done) | (simp_all; omega))), (by first | (omega) | (dsimp only; omega)), (by first | (rw [hv1, both2_eq, if_pos hk2, if_neg (by omega)]) | (dsimp only; rw [hv1, both2_eq, if_pos hk2, if_neg (by omega)])), (by first | (first | omega | (with_reducible assumption) | (simp_all; done) | (simp_all; omega)) | (dsimp only; first | omega | (with_reducible assumption) | (simp_all; done) | (simp_all; omega))), trivial⟩, (by show (_ : Nat) < _; first | omega | simp_all; omega), ?_, ?_, ?_, Nat.le_refl _, rfl, rfl⟩
        · try simp only [go_sem, hr, getD_sp hi2, hr1, getD_sp hk2]
          all_goals (first | done | (simp [Sp.d]; done) | (simp [Sp.d]; omega))
        · try simp only [go_sem, hr, getD_sp hi2, hr1, getD_sp hk2]
          all_goals (first | done | (simp [Sp.d]; done) | (simp [Sp.d]; omega))
        · try simp only [go_sem, hr, getD_sp hi2, hr1, getD_sp hk2]
          all_goals (first | done | (simp [Sp.d]; done) | (simp [Sp.d]; omega))
    · skip
      try simp only [decide_eq_true_eq, decide_eq_false_iff_not, Bool.or_eq_true, Bool.and_eq_true, Bool.or_eq_false_iff, Bool.not_eq_true', Bool.not_eq_false'] at c2
      refine dw_exit ?_
      show DW _ _ _ _ _
      refine dw_reg (C := Cn) (by simp only [go_sem, hr, getD_sp hi2, hr1]; exact rfl) (fun h => by cases h) ?_ ?_
      · try simp only [go_sem, hr, getD_sp hi2, hr1]
        all_goals (first | done | (repeat' (with_reducible apply And.intro)) <;> first | omega | (with_reducible assumption) | (intros; omega) | (intros; simp only [decide_eq_true_eq, decide_eq_false_iff_not, Bool.or_eq_true, Bool.and_eq_true, Bool.or_eq_false_iff, Bool.not_eq_true', Bool.not_eq_false'] at *; omega) | (simp_all; done) | (simp_all; omega))
      show ∃ _, _
      refine ⟨(i + 1, out1, r1, _), ⟨(by first | (first | omega | (with_reducible assumption) | (simp_all; done) | (simp_all; omega)) | (dsimp only; first | omega | (with_reducible assumption) | (simp_all; done) | (simp_all; omega))), (by first | (first | omega | (with_reducible assumption) | (simp_all; done) | (simp_all; omega)) | (dsimp only; first | omega | (with_reducible assumption) | (simp_all; done) | (simp_all; omega))), (by first | (rw [hv, both1_eq, if_pos hi2, hv1, both2_eq, if_neg (by omega)]) | (dsimp only; rw [hv, both1_eq, if_pos hi2, hv1, both2_eq, if_neg (by omega)])), (by first | (first | omega | (with_reducible assumption) | (simp_all; done) | (simp_all; omega)) | (dsimp only; first | omega | (with_reducible assumption) | (simp_all; done) | (simp_all; omega))), trivial⟩, (by show (_ : Nat) < _; first | omega | simp_all; omega), ?_, ?_, ?_, Nat.le_refl _, rfl, rfl⟩
      · try simp only [go_sem, hr, getD_sp hi2, hr1]
        all_goals (first | done | (simp [Sp.d]; done) | (simp [Sp.d]; omega))
      · try simp only [go_sem, hr, getD_sp hi2, hr1]
        all_goals (first | done | (simp [Sp.d]; done) | (simp [Sp.d]; omega))
      · try simp only [go_sem, hr, getD_sp hi2, hr1]
        all_goals (first | done | (simp [Sp.d]; done) | (simp [Sp.d]; omega))
  · skip
    try simp only [decide_eq_true_eq, decide_eq_false_iff_not, Bool.or_eq_true, Bool.and_eq_true, Bool.or_eq_false_iff, Bool.not_eq_true', Bool.not_eq_false'] at c1
    refine dw_exit ?_
    show DW _ _ _ _ _
    refine dw_step (C := Cn) (by simp only [go_sem, hr]; exact rfl) (fun h => by cases h) ?_ ?_
    · try simp only [go_sem, hr]
      all_goals (first | done | (repeat' (with_reducible apply And.intro)) <;> first | omega | (with_reducible assumption) | (intros; omega) | (intros; simp only [decide_eq_true_eq, decide_eq_false_iff_not, Bool.or_eq_true, Bool.and_eq_true, Bool.or_eq_false_iff, Bool.not_eq_true', Bool.not_eq_false'] at *; omega) | (simp_all; done) | (simp_all; omega))
    refine dw_ret ?_
    refine ⟨.inr rfl, ?_, ?_⟩
    · simp only [go_sem, hr]
    refine ⟨1, ?_, ?_⟩
    · try simp only [go_sem, hr]
      all_goals (simp)
    · try simp only [go_sem, hr]
      all_goals (rw [hv, both1_eq, if_neg (by omega)])
theorem bo17 : hasBody Try.prog 17 = true := by kernel_rfl
theorem rcross_ct (a : List Sp) (b : List Sp) : PureCt Try.prog 17 [.list false (a.map Sp.d), .list false (b.map Sp.d)] (.tuple [.list false ((rcross a b).1.map Sp.d), .i (rcross a b).2]) := by
  rw [rcross]
  refine pure_of_dw Try.func17 rfl bo17 (by simp [go_sem, D.nr, nrs, Sp.d]) (by simp [Try.f17]) ?_
  unfold Try.f17
  simp only [init_eq]
  refine dw_step (C := Cn) (by simp only [go_sem]; exact rfl) (fun h => by cases h) ?_ ?_
  · try simp only [go_sem]
    all_goals (first | done | (repeat' (with_reducible apply And.intro)) <;> first | omega | (with_reducible assumption) | (intros; omega) | (intros; simp only [decide_eq_true_eq, decide_eq_false_iff_not, Bool.or_eq_true, Bool.and_eq_true, Bool.or_eq_false_iff, Bool.not_eq_true', Bool.not_eq_false'] at *; omega) | (simp_all; done) | (simp_all; omega))
  refine dw_seq ?_
  refine dw_step (C := Cn) (by simp only [go_sem]; exact rfl) (fun h => by cases h) ?_ ?_
  · try simp only [go_sem]
    all_goals (first | done | (repeat' (with_reducible apply And.intro)) <;> first | omega | (with_reducible assumption) | (intros; omega) | (intros; simp only [decide_eq_true_eq, decide_eq_false_iff_not, Bool.or_eq_true, Bool.and_eq_true, Bool.or_eq_false_iff, Bool.not_eq_true', Bool.not_eq_false'] at *; omega) | (simp_all; done) | (simp_all; omega) | (apply rvalid_ct <;> omega) | (intros; apply rvalid_ct <;> omega) | (apply rvalid_ct <;> omega) | (intros; apply rvalid_ct <;> omega))
  refine dw_cond (by simp only [go_sem]; exact rfl) (fun c1 => ?_) (fun c1 => ?_)
  · skip
    have hv1 : (rvalid a && rvalid b) = false := by revert c1; cases rvalid a <;> cases rvalid b <;> simp
    refine dw_step (C := Cn) (by simp only [go_sem]; exact rfl) (fun h => by cases h) ?_ ?_
    · try simp only [go_sem]
      all_goals (first | done | (repeat' (with_reducible apply And.intro)) <;> first | omega | (with_reducible assumption) | (intros; omega) | (intros; simp only [decide_eq_true_eq, decide_eq_false_iff_not, Bool.or_eq_true, Bool.and_eq_true, Bool.or_eq_false_iff, Bool.not_eq_true', Bool.not_eq_false'] at *; omega) | (simp_all; done) | (simp_all; omega))
    refine dw_ret ?_
    refine ⟨.inr rfl, ?_, ?_⟩
    · simp only [go_sem]
    refine ⟨1, ?_, ?_⟩
    · try simp only [go_sem]
      all_goals (simp)
    · try simp only [go_sem]
      all_goals (rw [hv1]; rfl)
  · skip
    have hv1 : rvalid a = true ∧ rvalid b = true := by simpa using c1
    have hl1 := rvalid_len hv1.1
    have hl2 := rvalid_len hv1.2
    refine dw_skip ?_
    show DW _ _ _ _ _
    refine dw_step (C := Cn) (by simp only [go_sem]; exact rfl) (fun h => by cases h) ?_ ?_
    · try simp only [go_sem]
      all_goals (first | done | (repeat' (with_reducible apply And.intro)) <;> first | omega | (with_reducible assumption) | (intros; omega) | (intros; simp only [decide_eq_true_eq, decide_eq_false_iff_not, Bool.or_eq_true, Bool.and_eq_true, Bool.or_eq_false_iff, Bool.not_eq_true', Bool.not_eq_false'] at *; omega) | (simp_all; done) | (simp_all; omega) | (apply rboth_ct <;> omega) | (intros; apply rboth_ct <;> omega) | (apply rlimited_ct <;> omega) | (intros; apply rlimited_ct <;> omega))
    refine dw_ret ?_
    refine ⟨.inr rfl, ?_, ?_⟩
    · simp only [go_sem]
    refine ⟨1, ?_, ?_⟩
    · try simp only [go_sem]
      all_goals (simp)
    · try simp only [go_sem]
      all_goals (simp only [hv1.1, hv1.2, Bool.and_self, if_true])
theorem bo41 : hasBody Try.prog 41 = true := by kernel_rfl
theorem rnot_ct (l : List Sp) (hl : l.length ≤ 100000) : PureCt Try.prog 41 [.list false (l.map Sp.d)] (.list false ((rnot l).map Sp.d)) := by
  rw [rnot]
  refine pure_of_dw Try.func41 rfl bo41 (by simp [go_sem, D.nr, nrs, Sp.d]) (by simp [Try.f41]) ?_
  unfold Try.f41
  simp only [init_eq]
  refine dw_step (C := Cn) (by simp only [go_sem]; exact rfl) (fun h => by cases h) ?_ ?_
  · try simp only [go_sem]
    all_goals (first | done | (repeat' (with_reducible apply And.intro)) <;> first | omega | (with_reducible assumption) | (intros; omega) | (intros; simp only [decide_eq_true_eq, decide_eq_false_iff_not, Bool.or_eq_true, Bool.and_eq_true, Bool.or_eq_false_iff, Bool.not_eq_true', Bool.not_eq_false'] at *; omega) | (simp_all; done) | (simp_all; omega))
  refine dw_step (C := Cn) (by simp only [go_sem]; exact rfl) (fun h => by cases h) ?_ ?_
  · try simp only [go_sem]
    all_goals (first | done | (repeat' (with_reducible apply And.intro)) <;> first | omega | (with_reducible assumption) | (intros; omega) | (intros; simp only [decide_eq_true_eq, decide_eq_false_iff_not, Bool.or_eq_true, Bool.and_eq_true, Bool.or_eq_false_iff, Bool.not_eq_true', Bool.not_eq_false'] at *; omega) | (simp_all; done) | (simp_all; omega))
  refine dw_step (C := Cn) (by simp only [go_sem]; exact rfl) (fun h => by cases h) ?_ ?_
  · try simp only [go_sem]
    all_goals (first | done | (repeat' (with_reducible apply And.intro)) <;> first | omega | (with_reducible assumption) | (intros; omega) | (intros; simp only [decide_eq_true_eq, decide_eq_false_iff_not, Bool.or_eq_true, Bool.and_eq_true, Bool.or_eq_false_iff, Bool.not_eq_true', Bool.not_eq_false'] at *; omega) | (simp_all; done) | (simp_all; omega))
  refine dw_seq ?_
  refine dw_step (C := Cn) (by simp only [go_sem]; exact rfl) (fun h => by cases h) ?_ ?_
  · try simp only [go_sem]
    all_goals (first | done | (repeat' (with_reducible apply And.intro)) <;> first | omega | (with_reducible assumption) | (intros; omega) | (intros; simp only [decide_eq_true_eq, decide_eq_false_iff_not, Bool.or_eq_true, Bool.and_eq_true, Bool.or_eq_false_iff, Bool.not_eq_true', Bool.not_eq_false'] at *; omega) | (simp_all; done) | (simp_all; omega))
  refine dw_block ?_
  refine dw_own 3 34 (by simp only [go_sem]) (by simp only [go_sem]) ?_
  refine dw_loop_fix (α := (Nat) × (Int) × (List Sp) × (Nat) × Nat) [0] (fun ⟨k, at1, out, r, nx⟩ => (k ≤ l.length) ∧ (out.length ≤ k) ∧ (notFrom l 0 0 [] = notFrom l k at1 out) ∧ (r < nx) ∧ True) (fun ⟨k, at1, out, r, nx⟩ => l.length - k) (fun ⟨k, at1, out, r, nx⟩ => [(3, .mrow r 0 out.length), (4, .i at1), (5, .i k)]) (fun ⟨k, at1, out, r, nx⟩ => [(r, ⟨34, out.map Sp.d⟩)]) (fun ⟨k, at1, out, r, nx⟩ => nx) (0, 0, [], 4, _) (by simp only [List.map_cons, List.map_nil, go_sem]; exact rfl) ⟨(by first | (first | omega | (with_reducible assumption) | (simp_all; done) | (simp_all; omega)) | (dsimp only; first | omega | (with_reducible assumption) | (simp_all; done) | (simp_all; omega))), (by first | (simp) | (dsimp only; simp)), (by first | (rfl) | (dsimp only; rfl)), (by first | (first | omega | (with_reducible assumption) | (simp_all; done) | (simp_all; omega)) | (dsimp only; first | omega | (with_reducible assumption) | (simp_all; done) | (simp_all; omega))), trivial⟩ (by first | (simp only [go_sem]; done) | (simp [go_sem]; done) | (simp only [go_sem]; (repeat' (with_reducible apply And.intro)) <;> first | (left; simp; done) | (right; simp [go_sem]; done))) (by first | (simp only [go_sem]; done) | simp [go_sem]) (Nat.le_refl _) ?_
  rintro ⟨k, at1, out, r, nx⟩ ⟨hk, ho, hv, hr, -⟩
  show DW _ _ _ _ { n := _, t := tab _, h := _, nx := _, e := _ }
  simp only [List.cons_append, List.nil_append]
  refine dw_seq ?_
  refine dw_step (C := Cn) (by simp only [go_sem, hr]; exact rfl) (fun h => by cases h) ?_ ?_
  · try simp only [go_sem, hr]
    all_goals (first | done | (repeat' (with_reducible apply And.intro)) <;> first | omega | (with_reducible assumption) | (intros; omega) | (intros; simp only [decide_eq_true_eq, decide_eq_false_iff_not, Bool.or_eq_true, Bool.and_eq_true, Bool.or_eq_false_iff, Bool.not_eq_true', Bool.not_eq_false'] at *; omega) | (simp_all; done) | (simp_all; omega))
  refine dw_cond (by simp only [go_sem, hr]; exact rfl) (fun c1 => ?_) (fun c1 => ?_)
  · skip
    have hk2 : k < l.length := by simpa using c1
    refine dw_skip ?_
    show DW _ _ _ _ _
    refine dw_seq ?_
    refine dw_block ?_
    refine dw_seq ?_
    refine dw_step (C := Cn) (by simp only [go_sem, hr, getD_sp hk2]; exact rfl) (fun h => by cases h) ?_ ?_
    · try simp only [go_sem, hr, getD_sp hk2]
      all_goals (first | done | (repeat' (with_reducible apply And.intro)) <;> first | omega | (with_reducible assumption) | (intros; omega) | (intros; simp only [decide_eq_true_eq, decide_eq_false_iff_not, Bool.or_eq_true, Bool.and_eq_true, Bool.or_eq_false_iff, Bool.not_eq_true', Bool.not_eq_false'] at *; omega) | (simp_all; done) | (simp_all; omega))
    refine dw_cond (by simp only [go_sem, hr, getD_sp hk2]; exact rfl) (fun c2 => ?_) (fun c2 => ?_)
    · skip
      try simp only [decide_eq_true_eq, decide_eq_false_iff_not, Bool.or_eq_true, Bool.and_eq_true, Bool.or_eq_false_iff, Bool.not_eq_true', Bool.not_eq_false'] at c2
      refine dw_reg (C := Cn) (by simp only [go_sem, hr, getD_sp hk2]; exact rfl) (fun h => by cases h) ?_ ?_
      · try simp only [go_sem, hr, getD_sp hk2]
        all_goals (first | done | (repeat' (with_reducible apply And.intro)) <;> first | omega | (with_reducible assumption) | (intros; omega) | (intros; simp only [decide_eq_true_eq, decide_eq_false_iff_not, Bool.or_eq_true, Bool.and_eq_true, Bool.or_eq_false_iff, Bool.not_eq_true', Bool.not_eq_false'] at *; omega) | (simp_all; done) | (simp_all; omega))
      show DW _ _ _ _ _
      refine dw_reg (C := Cn) (by simp only [go_sem, hr, getD_sp hk2]; exact rfl) (fun h => by cases h) ?_ ?_
      · try simp only [go_sem, hr, getD_sp hk2]
        all_goals (first | done | (repeat' (with_reducible apply And.intro)) <;> first | omega | (with_reducible assumption) | (intros; omega) | (intros; simp only [decide_eq_true_eq, decide_eq_false_iff_not, Bool.or_eq_true, Bool.and_eq_true, Bool.or_eq_false_iff, Bool.not_eq_true', Bool.not_eq_false'] at *; omega) | (simp_all; done) | (simp_all; omega))
      show DW _ _ _ _ _
      refine dw_reg (C := Cn) (by simp only [go_sem, hr, getD_sp hk2]; exact rfl) (fun h => by cases h) ?_ ?_
      · try simp only [go_sem, hr, getD_sp hk2]
        all_goals (first | done | (repeat' (with_reducible apply And.intro)) <;> first | omega | (with_reducible assumption) | (intros; omega) | (intros; simp only [decide_eq_true_eq, decide_eq_false_iff_not, Bool.or_eq_true, Bool.and_eq_true, Bool.or_eq_false_iff, Bool.not_eq_true', Bool.not_eq_false'] at *; omega) | (simp_all; done) | (simp_all; omega))
      show ∃ _, _
      refine ⟨(k + 1, l[k]!.b, out ++ [⟨at1, l[k]!.a⟩], (nx + 20), _), ⟨(by first | (first | omega | (with_reducible assumption) | (simp_all; done) | (simp_all; omega)) | (dsimp only; first | omega | (with_reducible assumption) | (simp_all; done) | (simp_all; omega))), (by first | (simp; omega) | (dsimp only; simp; omega)), (by first | (rw [hv, notFrom_eq, if_pos hk2, if_pos c2]) | (dsimp only; rw [hv, notFrom_eq, if_pos hk2, if_pos c2])), (by first | (first | omega | (with_reducible assumption) | (simp_all; done) | (simp_all; omega)) | (dsimp only; first | omega | (with_reducible assumption) | (simp_all; done) | (simp_all; omega))), trivial⟩, (by show (_ : Nat) < _; first | omega | simp_all; omega), ?_, ?_, ?_, Nat.le_refl _, rfl, rfl⟩
      · try simp only [go_sem, hr, getD_sp hk2]
        all_goals (first | done | (simp [Sp.d]; done) | (simp [Sp.d]; omega))
      · try simp only [go_sem, hr, getD_sp hk2]
        all_goals (first | done | (simp [Sp.d]; done) | (simp [Sp.d]; omega))
      · try simp only [go_sem, hr, getD_sp hk2]
        all_goals (first | done | (simp [Sp.d]; done) | (simp [Sp.d]; omega))
    · skip
      try simp only [decide_eq_true_eq, decide_eq_false_iff_not, Bool.or_eq_true, Bool.and_eq_true, Bool.or_eq_false_iff, Bool.not_eq_true', Bool.not_eq_false'] at c2
      refine dw_skip ?_
      show DW _ _ _ _ _
      refine dw_reg (C := Cn) (by simp only [go_sem, hr, getD_sp hk2]; exact rfl) (fun h => by cases h) ?_ ?_
      · try simp only [go_sem, hr, getD_sp hk2]
        all_goals (first | done | (repeat' (with_reducible apply And.intro)) <;> first | omega | (with_reducible assumption) | (intros; omega) | (intros; simp only [decide_eq_true_eq, decide_eq_false_iff_not, Bool.or_eq_true, Bool.and_eq_true, Bool.or_eq_false_iff, Bool.not_eq_true', Bool.not_eq_false'] at *; omega) | (simp_all; done) | (simp_all; omega))
      show DW _ _ _ _ _
      refine dw_reg (C := Cn) (by simp only [go_sem, hr, getD_sp hk2]; exact rfl) (fun h => by cases h) ?_ ?_
      · try simp only [go_sem, hr, getD_sp hk2]
        all_goals (first | done | (repeat' (with_reducible apply And.intro)) <;> first | omega | (with_reducible assumption) | (intros; omega) | (intros; simp only [decide_eq_true_eq, decide_eq_false_iff_not, Bool.or_eq_true, Bool.and_eq_true, Bool.or_eq_false_iff, Bool.not_eq_true', Bool.not_eq_false'] at *; omega) | (simp_all; done) | (simp_all; omega))
      show ∃ _, _
      refine ⟨(k + 1, l[k]!.b, out, r, _), ⟨(by first | (first | omega | (with_reducible assumption) | (simp_all; done) | (simp_all; omega)) | (dsimp only; first | omega | (with_reducible assumption) | (simp_all; done) | (simp_all; omega))), (by first | (omega) | (dsimp only; omega)), (by first | (rw [hv, notFrom_eq, if_pos hk2, if_neg (by omega)]) | (dsimp only; rw [hv, notFrom_eq, if_pos hk2, if_neg (by omega)])), (by first | (first | omega | (with_reducible assumption) | (simp_all; done) | (simp_all; omega)) | (dsimp only; first | omega | (with_reducible assumption) | (simp_all; done) | (simp_all; omega))), trivial⟩, (by show (_ : Nat) < _; first | omega | simp_all; omega), ?_, ?_, ?_, Nat.le_refl _, rfl, rfl⟩
      · try simp only [go_sem, hr, getD_sp hk2]
        all_goals (first | done | (simp [Sp.d]; done) | (simp [Sp.d]; omega))
      · try simp only [go_sem, hr, getD_sp hk2]
        all_goals (first | done | (simp [Sp.d]; done) | (simp [Sp.d]; omega))
      · try simp only [go_sem, hr, getD_sp hk2]
        all_goals (first | done | (simp [Sp.d]; done) | (simp [Sp.d]; omega))
  · skip
    try simp only [decide_eq_true_eq, decide_eq_false_iff_not, Bool.or_eq_true, Bool.and_eq_true, Bool.or_eq_false_iff, Bool.not_eq_true', Bool.not_eq_false'] at c1
    refine dw_exit ?_
    show DW _ _ _ _ _
    refine dw_seq ?_
    refine dw_step (C := Cn) (by simp only [go_sem, hr]; exact rfl) (fun h => by cases h) ?_ ?_
    · try simp only [go_sem, hr]
      all_goals (first | done | (repeat' (with_reducible apply And.intro)) <;> first | omega | (with_reducible assumption) | (intros; omega) | (intros; simp only [decide_eq_true_eq, decide_eq_false_iff_not, Bool.or_eq_true, Bool.and_eq_true, Bool.or_eq_false_iff, Bool.not_eq_true', Bool.not_eq_false'] at *; omega) | (simp_all; done) | (simp_all; omega))
    refine dw_cond (by simp only [go_sem, hr]; exact rfl) (fun c3 => ?_) (fun c3 => ?_)
    · skip
      have hv2 : notFrom l 0 0 [] = (out, at1) := by rw [hv, notFrom_eq, if_neg (by omega)]
      have hlt : at1 < 20000000 := by simpa using c3
      refine dw_reg (C := Cn) (by simp only [go_sem, hr]; exact rfl) (fun h => by cases h) ?_ ?_
      · try simp only [go_sem, hr]
        all_goals (first | done | (repeat' (with_reducible apply And.intro)) <;> first | omega | (with_reducible assumption) | (intros; omega) | (intros; simp only [decide_eq_true_eq, decide_eq_false_iff_not, Bool.or_eq_true, Bool.and_eq_true, Bool.or_eq_false_iff, Bool.not_eq_true', Bool.not_eq_false'] at *; omega) | (simp_all; done) | (simp_all; omega))
      show DW _ _ _ _ _
      refine dw_step (C := Cn) (by simp only [go_sem, hr]; exact rfl) (fun h => by cases h) ?_ ?_
      · try simp only [go_sem, hr]
        all_goals (first | done | (repeat' (with_reducible apply And.intro)) <;> first | omega | (with_reducible assumption) | (intros; omega) | (intros; simp only [decide_eq_true_eq, decide_eq_false_iff_not, Bool.or_eq_true, Bool.and_eq_true, Bool.or_eq_false_iff, Bool.not_eq_true', Bool.not_eq_false'] at *; omega) | (simp_all; done) | (simp_all; omega))
      refine dw_ret ?_
      refine ⟨.inr rfl, ?_, ?_⟩
      · simp only [go_sem, hr]
      refine ⟨1, ?_, ?_⟩
      · try simp only [go_sem, hr]
        all_goals (simp)
      · try simp only [go_sem, hr]
        all_goals ((simp only [hv2, hlt, if_true, if_false]; try simp [Sp.d]))
    · skip
      have hv2 : notFrom l 0 0 [] = (out, at1) := by rw [hv, notFrom_eq, if_neg (by omega)]
      have hlt : ¬ at1 < 20000000 := by simpa using c3
      refine dw_skip ?_
      show DW _ _ _ _ _
      refine dw_step (C := Cn) (by simp only [go_sem, hr]; exact rfl) (fun h => by cases h) ?_ ?_
      · try simp only [go_sem, hr]
        all_goals (first | done | (repeat' (with_reducible apply And.intro)) <;> first | omega | (with_reducible assumption) | (intros; omega) | (intros; simp only [decide_eq_true_eq, decide_eq_false_iff_not, Bool.or_eq_true, Bool.and_eq_true, Bool.or_eq_false_iff, Bool.not_eq_true', Bool.not_eq_false'] at *; omega) | (simp_all; done) | (simp_all; omega))
      refine dw_ret ?_
      refine ⟨.inr rfl, ?_, ?_⟩
      · simp only [go_sem, hr]
      refine ⟨1, ?_, ?_⟩
      · try simp only [go_sem, hr]
        all_goals (simp)
      · try simp only [go_sem, hr]
        all_goals ((simp only [hv2, hlt, if_true, if_false]; try simp [Sp.d]))
theorem bo19 : hasBody Try.prog 19 = true := by kernel_rfl
theorem rminus_ct (a : List Sp) (b : List Sp) : PureCt Try.prog 19 [.list false (a.map Sp.d), .list false (b.map Sp.d)] (.tuple [.list false ((rminus a b).1.map Sp.d), .i (rminus a b).2]) := by
  rw [rminus]
  refine pure_of_dw Try.func19 rfl bo19 (by simp [go_sem, D.nr, nrs, Sp.d]) (by simp [Try.f19]) ?_
  unfold Try.f19
  simp only [init_eq]
  refine dw_step (C := Cn) (by simp only [go_sem]; exact rfl) (fun h => by cases h) ?_ ?_
  · try simp only [go_sem]
    all_goals (first | done | (repeat' (with_reducible apply And.intro)) <;> first | omega | (with_reducible assumption) | (intros; omega) | (intros; simp only [decide_eq_true_eq, decide_eq_false_iff_not, Bool.or_eq_true, Bool.and_eq_true, Bool.or_eq_false_iff, Bool.not_eq_true', Bool.not_eq_false'] at *; omega) | (simp_all; done) | (simp_all; omega))
  refine dw_seq ?_
  refine dw_step (C := Cn) (by simp only [go_sem]; exact rfl) (fun h => by cases h) ?_ ?_
  · try simp only [go_sem]
    all_goals (first | done | (repeat' (with_reducible apply And.intro)) <;> first | omega | (with_reducible assumption) | (intros; omega) | (intros; simp only [decide_eq_true_eq, decide_eq_false_iff_not, Bool.or_eq_true, Bool.and_eq_true, Bool.or_eq_false_iff, Bool.not_eq_true', Bool.not_eq_false'] at *; omega) | (simp_all; done) | (simp_all; omega) | (apply rvalid_ct <;> omega) | (intros; apply rvalid_ct <;> omega) | (apply rvalid_ct <;> omega) | (intros; apply rvalid_ct <;> omega))
  refine dw_cond (by simp only [go_sem]; exact rfl) (fun c1 => ?_) (fun c1 => ?_)
  · skip
    have hv1 : (rvalid a && rvalid b) = false := by revert c1; cases rvalid a <;> cases rvalid b <;> simp
    refine dw_step (C := Cn) (by simp only [go_sem]; exact rfl) (fun h => by cases h) ?_ ?_
    · try simp only [go_sem]
      all_goals (first | done | (repeat' (with_reducible apply And.intro)) <;> first | omega | (with_reducible assumption) | (intros; omega) | (intros; simp only [decide_eq_true_eq, decide_eq_false_iff_not, Bool.or_eq_true, Bool.and_eq_true, Bool.or_eq_false_iff, Bool.not_eq_true', Bool.not_eq_false'] at *; omega) | (simp_all; done) | (simp_all; omega))
    refine dw_ret ?_
    refine ⟨.inr rfl, ?_, ?_⟩
    · simp only [go_sem]
    refine ⟨1, ?_, ?_⟩
    · try simp only [go_sem]
      all_goals (simp)
    · try simp only [go_sem]
      all_goals (rw [hv1]; rfl)
  · skip
    have hv1 : rvalid a = true ∧ rvalid b = true := by simpa using c1
    have hl1 := rvalid_len hv1.1
    have hl2 := rvalid_len hv1.2
    have hl3 := rnot_len b
    refine dw_skip ?_
    show DW _ _ _ _ _
    refine dw_step (C := Cn) (by simp only [go_sem]; exact rfl) (fun h => by cases h) ?_ ?_
    · try simp only [go_sem]
      all_goals (first | done | (repeat' (with_reducible apply And.intro)) <;> first | omega | (with_reducible assumption) | (intros; omega) | (intros; simp only [decide_eq_true_eq, decide_eq_false_iff_not, Bool.or_eq_true, Bool.and_eq_true, Bool.or_eq_false_iff, Bool.not_eq_true', Bool.not_eq_false'] at *; omega) | (simp_all; done) | (simp_all; omega) | (apply rnot_ct <;> omega) | (intros; apply rnot_ct <;> omega) | (apply rboth_ct <;> omega) | (intros; apply rboth_ct <;> omega) | (apply rlimited_ct <;> omega) | (intros; apply rlimited_ct <;> omega))
    refine dw_ret ?_
    refine ⟨.inr rfl, ?_, ?_⟩
    · simp only [go_sem]
    refine ⟨1, ?_, ?_⟩
    · try simp only [go_sem]
      all_goals (simp)
    · try simp only [go_sem]
      all_goals (simp only [hv1.1, hv1.2, Bool.and_self, if_true])
theorem bo21 : hasBody Try.prog 21 = true := by kernel_rfl
theorem rgrow_ct (l : List Sp) (before : Int) (after : Int) : PureCt Try.prog 21 [.list false (l.map Sp.d), .i before, .i after] (.tuple [.list false ((rgrow l before after).1.map Sp.d), .i (rgrow l before after).2]) := by
  rw [rgrow]
  refine pure_of_dw Try.func21 rfl bo21 (by simp [go_sem, D.nr, nrs, Sp.d]) (by simp [Try.f21]) ?_
  unfold Try.f21
  simp only [init_eq]
  refine dw_step (C := Cn) (by simp only [go_sem]; exact rfl) (fun h => by cases h) ?_ ?_
  · try simp only [go_sem]
    all_goals (first | done | (repeat' (with_reducible apply And.intro)) <;> first | omega | (with_reducible assumption) | (intros; omega) | (intros; simp only [decide_eq_true_eq, decide_eq_false_iff_not, Bool.or_eq_true, Bool.and_eq_true, Bool.or_eq_false_iff, Bool.not_eq_true', Bool.not_eq_false'] at *; omega) | (simp_all; done) | (simp_all; omega))
  refine dw_seq ?_
  refine dw_step (C := Cn) (by simp only [go_sem]; exact rfl) (fun h => by cases h) ?_ ?_
  · try simp only [go_sem]
    all_goals (first | done | (repeat' (with_reducible apply And.intro)) <;> first | omega | (with_reducible assumption) | (intros; omega) | (intros; simp only [decide_eq_true_eq, decide_eq_false_iff_not, Bool.or_eq_true, Bool.and_eq_true, Bool.or_eq_false_iff, Bool.not_eq_true', Bool.not_eq_false'] at *; omega) | (simp_all; done) | (simp_all; omega) | (apply rvalid_ct <;> omega) | (intros; apply rvalid_ct <;> omega))
  refine dw_cond (by simp only [go_sem]; exact rfl) (fun c1 => ?_) (fun c1 => ?_)
  · skip
    have hv1 : (!rvalid l || badGrow before after) = true := by simpa [badGrow, or_assoc] using c1
    refine dw_step (C := Cn) (by simp only [go_sem]; exact rfl) (fun h => by cases h) ?_ ?_
    · try simp only [go_sem]
      all_goals (first | done | (repeat' (with_reducible apply And.intro)) <;> first | omega | (with_reducible assumption) | (intros; omega) | (intros; simp only [decide_eq_true_eq, decide_eq_false_iff_not, Bool.or_eq_true, Bool.and_eq_true, Bool.or_eq_false_iff, Bool.not_eq_true', Bool.not_eq_false'] at *; omega) | (simp_all; done) | (simp_all; omega))
    refine dw_ret ?_
    refine ⟨.inr rfl, ?_, ?_⟩
    · simp only [go_sem]
    refine ⟨1, ?_, ?_⟩
    · try simp only [go_sem]
      all_goals (simp)
    · try simp only [go_sem]
      all_goals (rw [hv1]; rfl)
  · skip
    have hv1 : (!rvalid l || badGrow before after) = false := by simpa [badGrow, and_assoc] using c1
    have hv2 : rvalid l = true ∧ badGrow before after = false := by simpa using hv1
    have hb1 : 0 ≤ before ∧ before ≤ 20000000 ∧ 0 ≤ after ∧ after ≤ 20000000 := by have := hv2.2; simp [badGrow] at this; omega
    have hl1 := rvalid_len hv2.1
    refine dw_skip ?_
    show DW _ _ _ _ _
    refine dw_step (C := Cn) (by simp only [go_sem]; exact rfl) (fun h => by cases h) ?_ ?_
    · try simp only [go_sem]
      all_goals (first | done | (repeat' (with_reducible apply And.intro)) <;> first | omega | (with_reducible assumption) | (intros; omega) | (intros; simp only [decide_eq_true_eq, decide_eq_false_iff_not, Bool.or_eq_true, Bool.and_eq_true, Bool.or_eq_false_iff, Bool.not_eq_true', Bool.not_eq_false'] at *; omega) | (simp_all; done) | (simp_all; omega))
    refine dw_seq ?_
    refine dw_step (C := Cn) (by simp only [go_sem]; exact rfl) (fun h => by cases h) ?_ ?_
    · try simp only [go_sem]
      all_goals (first | done | (repeat' (with_reducible apply And.intro)) <;> first | omega | (with_reducible assumption) | (intros; omega) | (intros; simp only [decide_eq_true_eq, decide_eq_false_iff_not, Bool.or_eq_true, Bool.and_eq_true, Bool.or_eq_false_iff, Bool.not_eq_true', Bool.not_eq_false'] at *; omega) | (simp_all; done) | (simp_all; omega))
    refine dw_block ?_
    refine dw_loop_fix (α := (Nat) × (List Sp) × Nat) [0, 1, 2] (fun ⟨k, out, nx⟩ => (k ≤ l.length) ∧ (out.length ≤ 2 * k) ∧ (growFrom l before after 0 [] = growFrom l before after k out) ∧ True) (fun ⟨k, out, nx⟩ => l.length - k) (fun ⟨k, out, nx⟩ => [(8, .list false (out.map Sp.d)), (9, .i k)]) (fun ⟨k, out, nx⟩ => []) (fun ⟨k, out, nx⟩ => nx) (0, [], _) (by simp only [List.map_cons, List.map_nil, go_sem]; exact rfl) ⟨(by first | (first | omega | (with_reducible assumption) | (simp_all; done) | (simp_all; omega)) | (dsimp only; first | omega | (with_reducible assumption) | (simp_all; done) | (simp_all; omega))), (by first | (simp) | (dsimp only; simp)), (by first | (rfl) | (dsimp only; rfl)), trivial⟩ (by first | (simp only [go_sem]; done) | (simp [go_sem]; done) | (simp only [go_sem]; (repeat' (with_reducible apply And.intro)) <;> first | (left; simp; done) | (right; simp [go_sem]; done))) (by first | (simp only [go_sem]; done) | simp [go_sem]) (Nat.le_refl _) ?_
    rintro ⟨k, out, nx⟩ ⟨hk, ho, hv, -⟩
    show DW _ _ _ _ { n := _, t := tab _, h := _, nx := _, e := _ }
    simp only [List.cons_append, List.nil_append]
    refine dw_seq ?_
    refine dw_step (C := Cn) (by simp only [go_sem]; exact rfl) (fun h => by cases h) ?_ ?_
    · try simp only [go_sem]
      all_goals (first | done | (repeat' (with_reducible apply And.intro)) <;> first | omega | (with_reducible assumption) | (intros; omega) | (intros; simp only [decide_eq_true_eq, decide_eq_false_iff_not, Bool.or_eq_true, Bool.and_eq_true, Bool.or_eq_false_iff, Bool.not_eq_true', Bool.not_eq_false'] at *; omega) | (simp_all; done) | (simp_all; omega))
    refine dw_cond (by simp only [go_sem]; exact rfl) (fun c2 => ?_) (fun c2 => ?_)
    · skip
      have hk2 : k < l.length := by simpa using c2
      have hb2 := rvalid_at hv2.1 hk2
      refine dw_skip ?_
      show DW _ _ _ _ _
      refine dw_seq ?_
      refine dw_block ?_
      refine dw_reg (C := Cn) (by simp only [go_sem, getD_sp hk2]; exact rfl) (fun _ => ⟨mix, by kernel_rfl, by kernel_rfl⟩) ?_ ?_
      · try simp only [go_sem, getD_sp hk2]
        all_goals (first | done | (refine ⟨by omega, by omega, ?_⟩; exact with1_ct _ _ (by omega)) | ((repeat' (with_reducible apply And.intro)) <;> first | omega | (refine with1_ct _ ⟨_, _⟩ ?_; omega)))
      show DW _ _ _ _ _
      refine dw_reg (C := Cn) (by simp only [go_sem, getD_sp hk2]; exact rfl) (fun h => by cases h) ?_ ?_
      · try simp only [go_sem, getD_sp hk2]
        all_goals (first | done | (repeat' (with_reducible apply And.intro)) <;> first | omega | (with_reducible assumption) | (intros; omega) | (intros; simp only [decide_eq_true_eq, decide_eq_false_iff_not, Bool.or_eq_true, Bool.and_eq_true, Bool.or_eq_false_iff, Bool.not_eq_true', Bool.not_eq_false'] at *; omega) | (simp_all; done) | (simp_all; omega))
      show ∃ _, _
      refine ⟨(k + 1, with1 out ⟨max 0 (l[k]!.a - before), min 20000000 (l[k]!.b + after)⟩, _), ⟨(by first | (first | omega | (with_reducible assumption) | (simp_all; done) | (simp_all; omega)) | (dsimp only; first | omega | (with_reducible assumption) | (simp_all; done) | (simp_all; omega))), (by first | (have := with1_len out ⟨max 0 (l[k]!.a - before), min 20000000 (l[k]!.b + after)⟩; omega) | (dsimp only; have := with1_len out ⟨max 0 (l[k]!.a - before), min 20000000 (l[k]!.b + after)⟩; omega)), (by first | (rw [hv, growFrom_eq, if_pos hk2]) | (dsimp only; rw [hv, growFrom_eq, if_pos hk2])), trivial⟩, (by show (_ : Nat) < _; first | omega | simp_all; omega), ?_, ?_, ?_, Nat.le_refl _, rfl, rfl⟩
      · try simp only [go_sem, getD_sp hk2]
        all_goals (first | done | (simp; done) | (simp; omega) | ((repeat' (with_reducible apply And.intro)) <;> first | (left; simp; done) | (right; simp [go_sem]; done)))
      · try simp only [go_sem, getD_sp hk2]
        all_goals (first | done | (simp; done) | (simp; omega) | ((repeat' (with_reducible apply And.intro)) <;> first | (left; simp; done) | (right; simp [go_sem]; done)))
      · try simp only [go_sem, getD_sp hk2]
        all_goals (first | done | (simp; done) | (simp; omega) | ((repeat' (with_reducible apply And.intro)) <;> first | (left; simp; done) | (right; simp [go_sem]; done)))
    · skip
      try simp only [decide_eq_true_eq, decide_eq_false_iff_not, Bool.or_eq_true, Bool.and_eq_true, Bool.or_eq_false_iff, Bool.not_eq_true', Bool.not_eq_false'] at c2
      refine dw_exit ?_
      show DW _ _ _ _ _
      refine dw_step (C := Cn) (by simp only [go_sem]; exact rfl) (fun h => by cases h) ?_ ?_
      · try simp only [go_sem]
        all_goals (first | done | (repeat' (with_reducible apply And.intro)) <;> first | omega | (with_reducible assumption) | (intros; omega) | (intros; simp only [decide_eq_true_eq, decide_eq_false_iff_not, Bool.or_eq_true, Bool.and_eq_true, Bool.or_eq_false_iff, Bool.not_eq_true', Bool.not_eq_false'] at *; omega) | (simp_all; done) | (simp_all; omega))
      refine dw_ret ?_
      refine ⟨.inr rfl, ?_, ?_⟩
      · simp only [go_sem]
      refine ⟨1, ?_, ?_⟩
      · try simp only [go_sem]
        all_goals (simp)
      · try simp only [go_sem]
        all_goals (rw [hv1]; simp only [Bool.false_eq_true, if_false]; rw [hv, growFrom_eq, if_neg (by omega)])
end Go.Proofs.Ytfcdbijmoiegiaa
