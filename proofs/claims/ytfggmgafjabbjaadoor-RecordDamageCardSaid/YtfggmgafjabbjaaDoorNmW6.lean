import Derived.Test.YtfggmgafjabbjaaDoorNmW5
namespace Go.Proofs.YtfggmgafjabbjaaDoor
open Go.DL Go.Str Go.RowKit
set_option maxRecDepth 10000
set_option linter.unusedSimpArgs false
set_option linter.unusedVariables false
theorem bo95 : hasBody Tryd.prog 95 = true := by kernel_rfl
theorem rorder_ct (a : Str) (b : Str) (ha : a.length ≤ 1000) (hb : b.length ≤ 1000) : PureCt Tryd.prog 95 [.v (.string (bs a)), .v (.string (bs b))] (.i (nmOrd a b)) := by
  rw [nmOrd_ix]
  refine pure_of_dw Tryd.func95 rfl bo95 (by simp [go_sem, D.nr, nrs, nrr]) (by simp [Tryd.f95]) ?_
  unfold Tryd.f95
  simp only [init_eq]
  have hl := (partsOf_len a).2
  have hm := (partsOf_len b).2
  refine dw_step (C := Cn) (by simp only [go_sem]; exact rfl) (fun h => by cases h) ?_ ?_
  · try simp only [go_sem]
    all_goals (first | done | (repeat' (with_reducible apply And.intro)) <;> first | omega | (with_reducible assumption) | (intros; omega) | (intros; simp only [decide_eq_true_eq, decide_eq_false_iff_not, Bool.or_eq_true, Bool.and_eq_true, Bool.or_eq_false_iff, Bool.not_eq_true', Bool.not_eq_false'] at *; omega) | (simp_all; done) | (simp_all; omega))
  refine dw_step (C := Cn) (by simp only [go_sem]; exact rfl) (fun h => by cases h) ?_ ?_
  · try simp only [go_sem]
    all_goals (exact rparts1_ct _ ha)
  refine dw_step (C := Cn) (by simp only [go_sem]; exact rfl) (fun h => by cases h) ?_ ?_
  · try simp only [go_sem]
    all_goals (exact rparts1_ct _ hb)
  refine dw_seq ?_
  refine dw_step (C := Cn) (by simp only [go_sem]; exact rfl) (fun h => by cases h) ?_ ?_
  · try simp only [go_sem]
    all_goals (first | done | (repeat' (with_reducible apply And.intro)) <;> first | omega | (with_reducible assumption) | (intros; omega) | (intros; simp only [decide_eq_true_eq, decide_eq_false_iff_not, Bool.or_eq_true, Bool.and_eq_true, Bool.or_eq_false_iff, Bool.not_eq_true', Bool.not_eq_false'] at *; omega) | (simp_all; done) | (simp_all; omega))
  refine dw_block ?_
  refine dw_loop_fix (α := (Nat) × Nat) [5, 6] (fun ⟨k, nx⟩ => (1 ≤ k) ∧ (k ≤ (partsOf a).length + 1) ∧ (ordIx (partsOf a) (partsOf b) 1 = ordIx (partsOf a) (partsOf b) k) ∧ True) (fun ⟨k, nx⟩ => (partsOf a).length + 1 - k) (fun ⟨k, nx⟩ => [(7, .i k)]) (fun ⟨k, nx⟩ => []) (fun ⟨k, nx⟩ => nx) (1, _) (by simp only [List.map_cons, List.map_nil, go_sem]; exact rfl) ⟨(by first | (first | omega | (with_reducible assumption) | (simp_all; done) | (simp_all; omega)) | (dsimp only; first | omega | (with_reducible assumption) | (simp_all; done) | (simp_all; omega))), (by first | (first | omega | (with_reducible assumption) | (simp_all; done) | (simp_all; omega)) | (dsimp only; first | omega | (with_reducible assumption) | (simp_all; done) | (simp_all; omega))), (by first | (rfl) | (dsimp only; rfl)), trivial⟩ (by first | (simp only [go_sem]; done) | (simp [go_sem]; done) | (simp only [go_sem]; (repeat' (with_reducible apply And.intro)) <;> first | (left; simp; done) | (right; simp [go_sem]; done))) (by first | (simp only [go_sem]; done) | simp [go_sem]) (Nat.le_refl _) ?_
  rintro ⟨k, nx⟩ ⟨hk, hk1, hv, -⟩
  show DW _ _ _ _ { n := _, t := tab _, h := _, nx := _, e := _ }
  simp only [List.cons_append, List.nil_append]
  refine dw_seq ?_
  refine dw_step (C := Cn) (by simp only [go_sem]; exact rfl) (fun h => by cases h) ?_ ?_
  · try simp only [go_sem]
    all_goals (first | done | (repeat' (with_reducible apply And.intro)) <;> first | omega | (with_reducible assumption) | (intros; omega) | (intros; simp only [decide_eq_true_eq, decide_eq_false_iff_not, Bool.or_eq_true, Bool.and_eq_true, Bool.or_eq_false_iff, Bool.not_eq_true', Bool.not_eq_false'] at *; omega) | (simp_all; done) | (simp_all; omega))
  refine dw_cond (by simp only [go_sem]; exact rfl) (fun c1 => ?_) (fun c1 => ?_)
  · skip
    have hk2 : k ≤ (partsOf a).length ∧ k ≤ (partsOf b).length := by simp only [Bool.and_eq_true, decide_eq_true_eq] at c1; omega
    have e1 : (((partsOf a).length : Int) - k).toNat = (partsOf a).length - k := by omega
    have e2 : (((partsOf b).length : Int) - k).toNat = (partsOf b).length - k := by omega
    have g1 : (partsOf a).length - k < (partsOf a).length := by omega
    have g2 : (partsOf b).length - k < (partsOf b).length := by omega
    refine dw_skip ?_
    show DW _ _ _ _ _
    refine dw_seq ?_
    refine dw_block ?_
    refine dw_step (C := Cn) (by simp only [go_sem, e1, e2, getD_sR g1, getD_sR g2]; exact rfl) (fun h => by cases h) ?_ ?_
    · try simp only [go_sem, e1, e2, getD_sR g1, getD_sR g2]
      all_goals (first | done | (repeat' (with_reducible apply And.intro)) <;> first | omega | (with_reducible assumption) | (intros; omega) | (intros; simp only [decide_eq_true_eq, decide_eq_false_iff_not, Bool.or_eq_true, Bool.and_eq_true, Bool.or_eq_false_iff, Bool.not_eq_true', Bool.not_eq_false'] at *; omega) | (simp_all; done) | (simp_all; omega))
    refine dw_step (C := Cn) (by simp only [go_sem, e1, e2, getD_sR g1, getD_sR g2]; exact rfl) (fun h => by cases h) ?_ ?_
    · try simp only [go_sem, e1, e2, getD_sR g1, getD_sR g2]
      all_goals (first | done | (repeat' (with_reducible apply And.intro)) <;> first | omega | (with_reducible assumption) | (intros; omega) | (intros; simp only [decide_eq_true_eq, decide_eq_false_iff_not, Bool.or_eq_true, Bool.and_eq_true, Bool.or_eq_false_iff, Bool.not_eq_true', Bool.not_eq_false'] at *; omega) | (simp_all; done) | (simp_all; omega))
    refine dw_seq ?_
    refine dw_step (C := Cn) (by simp only [go_sem, e1, e2, getD_sR g1, getD_sR g2]; exact rfl) (fun h => by cases h) ?_ ?_
    · try simp only [go_sem, e1, e2, getD_sR g1, getD_sR g2]
      all_goals (first | done | (repeat' (with_reducible apply And.intro)) <;> first | omega | (with_reducible assumption) | (intros; omega) | (intros; simp only [decide_eq_true_eq, decide_eq_false_iff_not, Bool.or_eq_true, Bool.and_eq_true, Bool.or_eq_false_iff, Bool.not_eq_true', Bool.not_eq_false'] at *; omega) | (simp_all; done) | (simp_all; omega))
    refine dw_cond (by simp only [go_sem, e1, e2, getD_sR g1, getD_sR g2]; exact rfl) (fun c2 => ?_) (fun c2 => ?_)
    · skip
      refine dw_step (C := Cn) (by simp only [go_sem, e1, e2, getD_sR g1, getD_sR g2]; exact rfl) (fun h => by cases h) ?_ ?_
      · try simp only [go_sem, e1, e2, getD_sR g1, getD_sR g2]
        all_goals (first | done | (repeat' (with_reducible apply And.intro)) <;> first | omega | (with_reducible assumption) | (intros; omega) | (intros; simp only [decide_eq_true_eq, decide_eq_false_iff_not, Bool.or_eq_true, Bool.and_eq_true, Bool.or_eq_false_iff, Bool.not_eq_true', Bool.not_eq_false'] at *; omega) | (simp_all; done) | (simp_all; omega))
      refine dw_ret ?_
      refine ⟨(by first | exact .inr rfl | trivial | simp), ?_, ?_⟩
      · simp only [go_sem, e1, e2, getD_sR g1, getD_sR g2]
      refine ⟨0, ?_, ?_⟩
      · try simp only [go_sem, e1, e2, getD_sR g1, getD_sR g2]
        all_goals (simp)
      · try simp only [go_sem, e1, e2, getD_sR g1, getD_sR g2]
        all_goals (rw [hv, ordIx_eq, if_pos hk2, if_pos c2])
    · skip
      refine dw_skip ?_
      show DW _ _ _ _ _
      refine dw_step (C := Cn) (by simp only [go_sem, e1, e2, getD_sR g1, getD_sR g2]; exact rfl) (fun h => by cases h) ?_ ?_
      · try simp only [go_sem, e1, e2, getD_sR g1, getD_sR g2]
        all_goals (first | done | (repeat' (with_reducible apply And.intro)) <;> first | omega | (with_reducible assumption) | (intros; omega) | (intros; simp only [decide_eq_true_eq, decide_eq_false_iff_not, Bool.or_eq_true, Bool.and_eq_true, Bool.or_eq_false_iff, Bool.not_eq_true', Bool.not_eq_false'] at *; omega) | (simp_all; done) | (simp_all; omega))
      refine dw_cond (by simp only [go_sem, e1, e2, getD_sR g1, getD_sR g2]; exact rfl) (fun c3 => ?_) (fun c3 => ?_)
      · skip
        refine dw_step (C := Cn) (by simp only [go_sem, e1, e2, getD_sR g1, getD_sR g2]; exact rfl) (fun h => by cases h) ?_ ?_
        · try simp only [go_sem, e1, e2, getD_sR g1, getD_sR g2]
          all_goals (first | done | (repeat' (with_reducible apply And.intro)) <;> first | omega | (with_reducible assumption) | (intros; omega) | (intros; simp only [decide_eq_true_eq, decide_eq_false_iff_not, Bool.or_eq_true, Bool.and_eq_true, Bool.or_eq_false_iff, Bool.not_eq_true', Bool.not_eq_false'] at *; omega) | (simp_all; done) | (simp_all; omega))
        refine dw_ret ?_
        refine ⟨(by first | exact .inr rfl | trivial | simp), ?_, ?_⟩
        · simp only [go_sem, e1, e2, getD_sR g1, getD_sR g2]
        refine ⟨0, ?_, ?_⟩
        · try simp only [go_sem, e1, e2, getD_sR g1, getD_sR g2]
          all_goals (simp)
        · try simp only [go_sem, e1, e2, getD_sR g1, getD_sR g2]
          all_goals (rw [hv, ordIx_eq, if_pos hk2, if_neg (by rw [c2]; simp), if_pos c3])
      · skip
        refine dw_skip ?_
        show DW _ _ _ _ _
        refine dw_reg (C := Cn) (by simp only [go_sem, e1, e2, getD_sR g1, getD_sR g2]; exact rfl) (fun h => by cases h) ?_ ?_
        · try simp only [go_sem, e1, e2, getD_sR g1, getD_sR g2]
          all_goals (first | done | (repeat' (with_reducible apply And.intro)) <;> first | omega | (with_reducible assumption) | (intros; omega) | (intros; simp only [decide_eq_true_eq, decide_eq_false_iff_not, Bool.or_eq_true, Bool.and_eq_true, Bool.or_eq_false_iff, Bool.not_eq_true', Bool.not_eq_false'] at *; omega) | (simp_all; done) | (simp_all; omega))
        show ∃ _, _
        refine ⟨(k + 1, _), ⟨(by first | (first | omega | (with_reducible assumption) | (simp_all; done) | (simp_all; omega)) | (dsimp only; first | omega | (with_reducible assumption) | (simp_all; done) | (simp_all; omega))), (by first | (first | omega | (with_reducible assumption) | (simp_all; done) | (simp_all; omega)) | (dsimp only; first | omega | (with_reducible assumption) | (simp_all; done) | (simp_all; omega))), (by first | (rw [hv, ordIx_eq, if_pos hk2, if_neg (by rw [c2]; simp), if_neg (by rw [c3]; simp)]) | (dsimp only; rw [hv, ordIx_eq, if_pos hk2, if_neg (by rw [c2]; simp), if_neg (by rw [c3]; simp)])), trivial⟩, (by show (_ : Nat) < _; first | omega | simp_all; omega), ?_, ?_, ?_, Nat.le_refl _, rfl, rfl⟩
        · try simp only [go_sem, e1, e2, getD_sR g1, getD_sR g2]
          all_goals (first | done | (simp; done) | (simp; omega) | ((repeat' (with_reducible apply And.intro)) <;> first | (left; simp; done) | (right; simp [go_sem]; done)))
        · try simp only [go_sem, e1, e2, getD_sR g1, getD_sR g2]
          all_goals (first | done | (simp; done) | (simp; omega) | ((repeat' (with_reducible apply And.intro)) <;> first | (left; simp; done) | (right; simp [go_sem]; done)))
        · try simp only [go_sem, e1, e2, getD_sR g1, getD_sR g2]
          all_goals (first | done | (simp; done) | (simp; omega) | ((repeat' (with_reducible apply And.intro)) <;> first | (left; simp; done) | (right; simp [go_sem]; done)))
  · skip
    have hk2 : ¬ (k ≤ (partsOf a).length ∧ k ≤ (partsOf b).length) := by simp only [Bool.and_eq_false_iff, decide_eq_false_iff_not] at c1; omega
    refine dw_exit ?_
    show DW _ _ _ _ _
    refine dw_seq ?_
    refine dw_step (C := Cn) (by simp only [go_sem]; exact rfl) (fun h => by cases h) ?_ ?_
    · try simp only [go_sem]
      all_goals (first | done | (repeat' (with_reducible apply And.intro)) <;> first | omega | (with_reducible assumption) | (intros; omega) | (intros; simp only [decide_eq_true_eq, decide_eq_false_iff_not, Bool.or_eq_true, Bool.and_eq_true, Bool.or_eq_false_iff, Bool.not_eq_true', Bool.not_eq_false'] at *; omega) | (simp_all; done) | (simp_all; omega))
    refine dw_cond (by simp only [go_sem]; exact rfl) (fun c4 => ?_) (fun c4 => ?_)
    · skip
      try simp only [decide_eq_true_eq, decide_eq_false_iff_not, Bool.or_eq_true, Bool.and_eq_true, Bool.or_eq_false_iff, Bool.not_eq_true', Bool.not_eq_false', Bool.and_eq_false_iff, beq_iff_eq, beq_eq_false_iff_ne, bne_iff_ne, bne_eq_false_iff_eq, ne_eq] at c4
      refine dw_step (C := Cn) (by simp only [go_sem]; exact rfl) (fun h => by cases h) ?_ ?_
      · try simp only [go_sem]
        all_goals (first | done | (repeat' (with_reducible apply And.intro)) <;> first | omega | (with_reducible assumption) | (intros; omega) | (intros; simp only [decide_eq_true_eq, decide_eq_false_iff_not, Bool.or_eq_true, Bool.and_eq_true, Bool.or_eq_false_iff, Bool.not_eq_true', Bool.not_eq_false'] at *; omega) | (simp_all; done) | (simp_all; omega))
      refine dw_ret ?_
      refine ⟨(by first | exact .inr rfl | trivial | simp), ?_, ?_⟩
      · simp only [go_sem]
      refine ⟨0, ?_, ?_⟩
      · try simp only [go_sem]
        all_goals (simp)
      · try simp only [go_sem]
        all_goals (rw [hv, ordIx_eq, if_neg hk2, if_pos (by omega)])
    · skip
      try simp only [decide_eq_true_eq, decide_eq_false_iff_not, Bool.or_eq_true, Bool.and_eq_true, Bool.or_eq_false_iff, Bool.not_eq_true', Bool.not_eq_false', Bool.and_eq_false_iff, beq_iff_eq, beq_eq_false_iff_ne, bne_iff_ne, bne_eq_false_iff_eq, ne_eq] at c4
      refine dw_skip ?_
      show DW _ _ _ _ _
      refine dw_seq ?_
      refine dw_step (C := Cn) (by simp only [go_sem]; exact rfl) (fun h => by cases h) ?_ ?_
      · try simp only [go_sem]
        all_goals (first | done | (repeat' (with_reducible apply And.intro)) <;> first | omega | (with_reducible assumption) | (intros; omega) | (intros; simp only [decide_eq_true_eq, decide_eq_false_iff_not, Bool.or_eq_true, Bool.and_eq_true, Bool.or_eq_false_iff, Bool.not_eq_true', Bool.not_eq_false'] at *; omega) | (simp_all; done) | (simp_all; omega))
      refine dw_cond (by simp only [go_sem]; exact rfl) (fun c5 => ?_) (fun c5 => ?_)
      · skip
        try simp only [decide_eq_true_eq, decide_eq_false_iff_not, Bool.or_eq_true, Bool.and_eq_true, Bool.or_eq_false_iff, Bool.not_eq_true', Bool.not_eq_false', Bool.and_eq_false_iff, beq_iff_eq, beq_eq_false_iff_ne, bne_iff_ne, bne_eq_false_iff_eq, ne_eq] at c5
        refine dw_step (C := Cn) (by simp only [go_sem]; exact rfl) (fun h => by cases h) ?_ ?_
        · try simp only [go_sem]
          all_goals (first | done | (repeat' (with_reducible apply And.intro)) <;> first | omega | (with_reducible assumption) | (intros; omega) | (intros; simp only [decide_eq_true_eq, decide_eq_false_iff_not, Bool.or_eq_true, Bool.and_eq_true, Bool.or_eq_false_iff, Bool.not_eq_true', Bool.not_eq_false'] at *; omega) | (simp_all; done) | (simp_all; omega))
        refine dw_ret ?_
        refine ⟨(by first | exact .inr rfl | trivial | simp), ?_, ?_⟩
        · simp only [go_sem]
        refine ⟨0, ?_, ?_⟩
        · try simp only [go_sem]
          all_goals (simp)
        · try simp only [go_sem]
          all_goals (rw [hv, ordIx_eq, if_neg hk2, if_neg (by omega), if_pos (by omega)])
      · skip
        try simp only [decide_eq_true_eq, decide_eq_false_iff_not, Bool.or_eq_true, Bool.and_eq_true, Bool.or_eq_false_iff, Bool.not_eq_true', Bool.not_eq_false', Bool.and_eq_false_iff, beq_iff_eq, beq_eq_false_iff_ne, bne_iff_ne, bne_eq_false_iff_eq, ne_eq] at c5
        refine dw_skip ?_
        show DW _ _ _ _ _
        refine dw_step (C := Cn) (by simp only [go_sem]; exact rfl) (fun h => by cases h) ?_ ?_
        · try simp only [go_sem]
          all_goals (first | done | (repeat' (with_reducible apply And.intro)) <;> first | omega | (with_reducible assumption) | (intros; omega) | (intros; simp only [decide_eq_true_eq, decide_eq_false_iff_not, Bool.or_eq_true, Bool.and_eq_true, Bool.or_eq_false_iff, Bool.not_eq_true', Bool.not_eq_false'] at *; omega) | (simp_all; done) | (simp_all; omega))
        refine dw_ret ?_
        refine ⟨(by first | exact .inr rfl | trivial | simp), ?_, ?_⟩
        · simp only [go_sem]
        refine ⟨0, ?_, ?_⟩
        · try simp only [go_sem]
          all_goals (simp)
        · try simp only [go_sem]
          all_goals (rw [hv, ordIx_eq, if_neg hk2, if_neg (by omega), if_neg (by omega)])
theorem bo62 : hasBody Tryd.prog 62 = true := by kernel_rfl
theorem rncompare_ct (a : Str) (b : Str) : PureCt Tryd.prog 62 [.v (.string (bs a)), .v (.string (bs b))] (.tuple [.i (if nameOk a && nameOk b then nmCmp a b else 0), .i (if nameOk a && nameOk b then 0 else 11)]) := by
  refine pure_of_dw Tryd.func62 rfl bo62 (by simp [go_sem, D.nr, nrs, nrr]) (by simp [Tryd.f62]) ?_
  unfold Tryd.f62
  simp only [init_eq]
  refine dw_step (C := Cn) (by simp only [go_sem]; exact rfl) (fun h => by cases h) ?_ ?_
  · try simp only [go_sem]
    all_goals (first | done | (repeat' (with_reducible apply And.intro)) <;> first | omega | (with_reducible assumption) | (intros; omega) | (intros; simp only [decide_eq_true_eq, decide_eq_false_iff_not, Bool.or_eq_true, Bool.and_eq_true, Bool.or_eq_false_iff, Bool.not_eq_true', Bool.not_eq_false'] at *; omega) | (simp_all; done) | (simp_all; omega))
  refine dw_step (C := Cn) (by simp only [go_sem]; exact rfl) (fun h => by cases h) ?_ ?_
  · try simp only [go_sem]
    all_goals (exact rnvalid_ct _)
  refine dw_step (C := Cn) (by simp only [go_sem]; exact rfl) (fun h => by cases h) ?_ ?_
  · try simp only [go_sem]
    all_goals (exact rnvalid_ct _)
  refine dw_seq ?_
  refine dw_step (C := Cn) (by simp only [go_sem]; exact rfl) (fun h => by cases h) ?_ ?_
  · try simp only [go_sem]
    all_goals (first | done | (repeat' (with_reducible apply And.intro)) <;> first | omega | (with_reducible assumption) | (intros; omega) | (intros; simp only [decide_eq_true_eq, decide_eq_false_iff_not, Bool.or_eq_true, Bool.and_eq_true, Bool.or_eq_false_iff, Bool.not_eq_true', Bool.not_eq_false'] at *; omega) | (simp_all; done) | (simp_all; omega))
  refine dw_cond (by simp only [go_sem]; exact rfl) (fun c1 => ?_) (fun c1 => ?_)
  · skip
    have e : (nameOk a && nameOk b) = false := by revert c1; cases nameOk a <;> cases nameOk b <;> simp
    refine dw_step (C := Cn) (by simp only [go_sem]; exact rfl) (fun h => by cases h) ?_ ?_
    · try simp only [go_sem]
      all_goals (first | done | (repeat' (with_reducible apply And.intro)) <;> first | omega | (with_reducible assumption) | (intros; omega) | (intros; simp only [decide_eq_true_eq, decide_eq_false_iff_not, Bool.or_eq_true, Bool.and_eq_true, Bool.or_eq_false_iff, Bool.not_eq_true', Bool.not_eq_false'] at *; omega) | (simp_all; done) | (simp_all; omega))
    refine dw_ret ?_
    refine ⟨(by first | exact .inr rfl | trivial | simp), ?_, ?_⟩
    · simp only [go_sem]
    refine ⟨1, ?_, ?_⟩
    · try simp only [go_sem]
      all_goals (simp)
    · try simp only [go_sem]
      all_goals (rw [e]; rfl)
  · skip
    try simp only [decide_eq_true_eq, decide_eq_false_iff_not, Bool.or_eq_true, Bool.and_eq_true, Bool.or_eq_false_iff, Bool.not_eq_true', Bool.not_eq_false', Bool.and_eq_false_iff, beq_iff_eq, beq_eq_false_iff_ne, bne_iff_ne, bne_eq_false_iff_eq, ne_eq] at c1
    have e : (nameOk a && nameOk b) = true := by rw [c1.1, c1.2]; rfl
    have la := nameOk_len c1.1
    have lb := nameOk_len c1.2
    refine dw_skip ?_
    show DW _ _ _ _ _
    refine dw_step (C := Cn) (by simp only [go_sem]; exact rfl) (fun h => by cases h) ?_ ?_
    · try simp only [go_sem]
      all_goals (exact rorder_ct _ _ (by omega) (by omega))
    refine dw_ret ?_
    refine ⟨(by first | exact .inr rfl | trivial | simp), ?_, ?_⟩
    · simp only [go_sem]
    refine ⟨1, ?_, ?_⟩
    · try simp only [go_sem]
      all_goals (simp)
    · try simp only [go_sem]
      all_goals (rw [e, nmCmp_ord]; rfl)

end Go.Proofs.YtfggmgafjabbjaaDoor
