import Derived.Test.YtfggmgafjabbjaaDoorNmW3
namespace Go.Proofs.YtfggmgafjabbjaaDoor
open Go.DL Go.Str Go.RowKit
set_option maxRecDepth 10000
set_option linter.unusedSimpArgs false
set_option linter.unusedVariables false
theorem bo91 : hasBody Tryd.prog 91 = true := by kernel_rfl
theorem puller_ct (s : Str) (h : H) (n : Nat) : RCt Tryd.prog 91 [.v (.string (bs s))] h n (fun d h' n' => d = .fn (.func 114) [] [.mptr (n + 5) 0 0, .mptr (n + 4) 0 0] ∧ h' = upd (upd h (n + 4) (some ⟨9, [[.v (.string (bs s))]]⟩)) (n + 5) (some ⟨4, [[.b (s != [46])]]⟩) ∧ n' = n + 10) := by
  refine rct_of_dw Tryd.func91 rfl bo91 (by simp [Tryd.f91]) (fun hnone => ?_)
  unfold Tryd.f91
  have e45 : (n + 4 = n + 5) = False := eq_false (by omega)
  have e54 : (n + 5 = n + 4) = False := eq_false (by omega)
  refine dw_step (C := Cn) (by simp only [go_sem, e45, e54]; exact rfl) (fun h => by cases h) ?_ ?_
  · try simp only [go_sem, e45, e54]
    all_goals (first | done | (repeat' (with_reducible apply And.intro)) <;> first | omega | (with_reducible assumption) | (intros; omega) | (intros; simp only [decide_eq_true_eq, decide_eq_false_iff_not, Bool.or_eq_true, Bool.and_eq_true, Bool.or_eq_false_iff, Bool.not_eq_true', Bool.not_eq_false'] at *; omega) | (simp_all; done) | (simp_all; omega))
  refine dw_step (C := Cn) (by simp only [go_sem, e45, e54]; exact rfl) (fun h => by cases h) ?_ ?_
  · try simp only [go_sem, e45, e54]
    all_goals (first | done | (repeat' (with_reducible apply And.intro)) <;> first | omega | (with_reducible assumption) | (intros; omega) | (intros; simp only [decide_eq_true_eq, decide_eq_false_iff_not, Bool.or_eq_true, Bool.and_eq_true, Bool.or_eq_false_iff, Bool.not_eq_true', Bool.not_eq_false'] at *; omega) | (simp_all; done) | (simp_all; omega))
  refine dw_step (C := Cn) (by simp only [go_sem, e45, e54]; exact rfl) (fun h => by cases h) ?_ ?_
  · try simp only [go_sem, e45, e54]
    all_goals (first | done | (repeat' (with_reducible apply And.intro)) <;> first | omega | (with_reducible assumption) | (intros; omega) | (intros; simp only [decide_eq_true_eq, decide_eq_false_iff_not, Bool.or_eq_true, Bool.and_eq_true, Bool.or_eq_false_iff, Bool.not_eq_true', Bool.not_eq_false'] at *; omega) | (simp_all; done) | (simp_all; omega))
  refine dw_ret ?_
  refine ⟨(by first | exact .inr rfl | trivial | simp), ?_, ?_⟩
  · simp only [go_sem, e45, e54]
  refine ⟨upd (upd h (n + 4) (some ⟨9, [[.v (.string (bs s))]]⟩)) (n + 5) (some ⟨4, [[.b (s != [46])]]⟩), _, ?_, Nat.le_refl _, ?_⟩
  · intro q; left; by_cases e1 : q = n + 5 <;> by_cases e2 : q = n + 4 <;> simp [upd, e1, e2]
  · try simp only [go_sem, e45, e54]
    all_goals (exact ⟨rfl, rfl, rfl⟩)
theorem bo114 : hasBody Tryd.prog 114 = true := by kernel_rfl
theorem pull_ct (more : Bool) (rest : Str) (m r : Nat) (h : H) (n : Nat) (hm : h m = some ⟨4, [[.b more]]⟩) (hr : h r = some ⟨9, [[.v (.string (bs rest))]]⟩) (hmr : m ≠ r) (hl : rest.length ≤ 1000) : RCt Tryd.prog 114 [.mptr m 0 0, .mptr r 0 0] h n (fun d h' n' => d = .tuple [.v (.string (bs (plGive more rest))), .b more] ∧ h' = upd (upd h m (some ⟨4, [[.b (plMore more rest)]]⟩)) r (some ⟨9, [[.v (.string (bs (plRest more rest)))]]⟩) ∧ n ≤ n') := by
  refine rct_of_dw Tryd.func114 rfl bo114 (by simp [Tryd.f114]) (fun hnone => ?_)
  unfold Tryd.f114
  have hrm : r ≠ m := fun e => hmr e.symm
  have hL := lastIx_lt rest 46
  refine dw_step (C := Cn) (by simp only [go_sem, hm, hr, hmr, hrm]; exact rfl) (fun h => by cases h) ?_ ?_
  · try simp only [go_sem, hm, hr, hmr, hrm]
    all_goals (first | done | (repeat' (with_reducible apply And.intro)) <;> first | omega | (with_reducible assumption) | (intros; omega) | (intros; simp only [decide_eq_true_eq, decide_eq_false_iff_not, Bool.or_eq_true, Bool.and_eq_true, Bool.or_eq_false_iff, Bool.not_eq_true', Bool.not_eq_false'] at *; omega) | (simp_all; done) | (simp_all; omega))
  refine dw_seq ?_
  refine dw_step (C := Cn) (by simp only [go_sem, hm, hr, hmr, hrm]; exact rfl) (fun h => by cases h) ?_ ?_
  · try simp only [go_sem, hm, hr, hmr, hrm]
    all_goals (first | done | (repeat' (with_reducible apply And.intro)) <;> first | omega | (with_reducible assumption) | (intros; omega) | (intros; simp only [decide_eq_true_eq, decide_eq_false_iff_not, Bool.or_eq_true, Bool.and_eq_true, Bool.or_eq_false_iff, Bool.not_eq_true', Bool.not_eq_false'] at *; omega) | (simp_all; done) | (simp_all; omega))
  refine dw_cond (by simp only [go_sem, hm, hr, hmr, hrm]; exact rfl) (fun c1 => ?_) (fun c1 => ?_)
  · skip
    try simp only [decide_eq_true_eq, decide_eq_false_iff_not, Bool.or_eq_true, Bool.and_eq_true, Bool.or_eq_false_iff, Bool.not_eq_true', Bool.not_eq_false', Bool.and_eq_false_iff, beq_iff_eq, beq_eq_false_iff_ne, bne_iff_ne, bne_eq_false_iff_eq, ne_eq] at c1
    refine dw_step (C := Cn) (by simp only [go_sem, hm, hr, hmr, hrm]; exact rfl) (fun h => by cases h) ?_ ?_
    · try simp only [go_sem, hm, hr, hmr, hrm]
      all_goals (first | done | (repeat' (with_reducible apply And.intro)) <;> first | omega | (with_reducible assumption) | (intros; omega) | (intros; simp only [decide_eq_true_eq, decide_eq_false_iff_not, Bool.or_eq_true, Bool.and_eq_true, Bool.or_eq_false_iff, Bool.not_eq_true', Bool.not_eq_false'] at *; omega) | (simp_all; done) | (simp_all; omega))
    refine dw_ret ?_
    refine ⟨(by first | exact .inr rfl | trivial | simp), ?_, ?_⟩
    · simp only [go_sem, hm, hr, hmr, hrm]
    refine ⟨upd (upd h m (some ⟨4, [[.b (plMore more rest)]]⟩)) r (some ⟨9, [[.v (.string (bs (plRest more rest)))]]⟩), _, ?_, Nat.le_refl _, ?_⟩
    · intro q; left; by_cases e1 : q = r <;> by_cases e2 : q = m <;> simp_all [upd, plMore, plRest] <;> (rw [if_neg (by omega)])
    · try simp only [go_sem, hm, hr, hmr, hrm]
      all_goals (first | exact Nat.le_add_right _ _ | (refine ⟨?_, Nat.le_add_right _ _⟩; simp_all [plGive]))
  · skip
    try simp only [decide_eq_true_eq, decide_eq_false_iff_not, Bool.or_eq_true, Bool.and_eq_true, Bool.or_eq_false_iff, Bool.not_eq_true', Bool.not_eq_false', Bool.and_eq_false_iff, beq_iff_eq, beq_eq_false_iff_ne, bne_iff_ne, bne_eq_false_iff_eq, ne_eq] at c1
    refine dw_skip ?_
    show DW _ _ _ _ _
    refine dw_step (C := Cn) (by simp only [go_sem, hm, hr, hmr, hrm]; exact rfl) (fun h => by cases h) ?_ ?_
    · try simp only [go_sem, hm, hr, hmr, hrm]
      all_goals (first | done | exact lastbyte_ct _ _ (by omega))
    refine dw_step (C := Cn) (by simp only [go_sem, hm, hr, hmr, hrm, List.take_length]; exact rfl) (fun h => by cases h) ?_ ?_
    · try simp only [go_sem, hm, hr, hmr, hrm, List.take_length]
      all_goals (first | done | (repeat' (with_reducible apply And.intro)) <;> first | omega | (with_reducible assumption) | (intros; omega) | (intros; simp only [decide_eq_true_eq, decide_eq_false_iff_not, Bool.or_eq_true, Bool.and_eq_true, Bool.or_eq_false_iff, Bool.not_eq_true', Bool.not_eq_false'] at *; omega) | (simp_all; done) | (simp_all; omega))
    refine dw_seq ?_
    refine dw_step (C := Cn) (by simp only [go_sem, hm, hr, hmr, hrm]; exact rfl) (fun h => by cases h) ?_ ?_
    · try simp only [go_sem, hm, hr, hmr, hrm]
      all_goals (first | done | (repeat' (with_reducible apply And.intro)) <;> first | omega | (with_reducible assumption) | (intros; omega) | (intros; simp only [decide_eq_true_eq, decide_eq_false_iff_not, Bool.or_eq_true, Bool.and_eq_true, Bool.or_eq_false_iff, Bool.not_eq_true', Bool.not_eq_false'] at *; omega) | (simp_all; done) | (simp_all; omega))
    refine dw_cond (by simp only [go_sem, hm, hr, hmr, hrm]; exact rfl) (fun c2 => ?_) (fun c2 => ?_)
    · skip
      try simp only [decide_eq_true_eq, decide_eq_false_iff_not, Bool.or_eq_true, Bool.and_eq_true, Bool.or_eq_false_iff, Bool.not_eq_true', Bool.not_eq_false', Bool.and_eq_false_iff, beq_iff_eq, beq_eq_false_iff_ne, bne_iff_ne, bne_eq_false_iff_eq, ne_eq] at c2
      refine dw_reg (C := Cn) (by simp only [go_sem, hm, hr, hmr, hrm]; exact rfl) (fun h => by cases h) ?_ ?_
      · try simp only [go_sem, hm, hr, hmr, hrm]
        all_goals (first | done | (repeat' (with_reducible apply And.intro)) <;> first | omega | (with_reducible assumption) | (intros; omega) | (intros; simp only [decide_eq_true_eq, decide_eq_false_iff_not, Bool.or_eq_true, Bool.and_eq_true, Bool.or_eq_false_iff, Bool.not_eq_true', Bool.not_eq_false'] at *; omega) | (simp_all; done) | (simp_all; omega))
      show DW _ _ _ _ _
      refine dw_step (C := Cn) (by simp only [go_sem, hm, hr, hmr, hrm]; exact rfl) (fun h => by cases h) ?_ ?_
      · try simp only [go_sem, hm, hr, hmr, hrm]
        all_goals (first | done | (repeat' (with_reducible apply And.intro)) <;> first | omega | (with_reducible assumption) | (intros; omega) | (intros; simp only [decide_eq_true_eq, decide_eq_false_iff_not, Bool.or_eq_true, Bool.and_eq_true, Bool.or_eq_false_iff, Bool.not_eq_true', Bool.not_eq_false'] at *; omega) | (simp_all; done) | (simp_all; omega))
      refine dw_ret ?_
      refine ⟨(by first | exact .inr rfl | trivial | simp), ?_, ?_⟩
      · simp only [go_sem, hm, hr, hmr, hrm]
      refine ⟨upd (upd h m (some ⟨4, [[.b (plMore more rest)]]⟩)) r (some ⟨9, [[.v (.string (bs (plRest more rest)))]]⟩), _, ?_, Nat.le_refl _, ?_⟩
      · intro q; left; by_cases e1 : q = r <;> by_cases e2 : q = m <;> simp_all [upd, plMore, plRest] <;> (rw [if_neg (by omega)])
      · try simp only [go_sem, hm, hr, hmr, hrm]
        all_goals (first | exact Nat.le_add_right _ _ | (refine ⟨?_, Nat.le_add_right _ _⟩; simp_all [plGive]))
    · skip
      try simp only [decide_eq_true_eq, decide_eq_false_iff_not, Bool.or_eq_true, Bool.and_eq_true, Bool.or_eq_false_iff, Bool.not_eq_true', Bool.not_eq_false', Bool.and_eq_false_iff, beq_iff_eq, beq_eq_false_iff_ne, bne_iff_ne, bne_eq_false_iff_eq, ne_eq] at c2
      refine dw_reg (C := Cn) (by simp only [go_sem, hm, hr, hmr, hrm]; exact rfl) (fun h => by cases h) ?_ ?_
      · try simp only [go_sem, hm, hr, hmr, hrm]
        all_goals (first | done | (repeat' (with_reducible apply And.intro)) <;> first | omega | (with_reducible assumption) | (intros; omega) | (intros; simp only [decide_eq_true_eq, decide_eq_false_iff_not, Bool.or_eq_true, Bool.and_eq_true, Bool.or_eq_false_iff, Bool.not_eq_true', Bool.not_eq_false'] at *; omega) | (simp_all; done) | (simp_all; omega))
      show DW _ _ _ _ _
      refine dw_step (C := Cn) (by simp only [go_sem, hm, hr, hmr, hrm]; exact rfl) (fun h => by cases h) ?_ ?_
      · try simp only [go_sem, hm, hr, hmr, hrm]
        all_goals (first | done | (repeat' (with_reducible apply And.intro)) <;> first | omega | (with_reducible assumption) | (intros; omega) | (intros; simp only [decide_eq_true_eq, decide_eq_false_iff_not, Bool.or_eq_true, Bool.and_eq_true, Bool.or_eq_false_iff, Bool.not_eq_true', Bool.not_eq_false'] at *; omega) | (simp_all; done) | (simp_all; omega))
      refine dw_ret ?_
      refine ⟨(by first | exact .inr rfl | trivial | simp), ?_, ?_⟩
      · simp only [go_sem, hm, hr, hmr, hrm]
      refine ⟨upd (upd h m (some ⟨4, [[.b (plMore more rest)]]⟩)) r (some ⟨9, [[.v (.string (bs (plRest more rest)))]]⟩), _, ?_, Nat.le_refl _, ?_⟩
      · intro q; left; by_cases e1 : q = r <;> by_cases e2 : q = m <;> simp_all [upd, plMore, plRest] <;> (rw [if_neg (by omega)])
      · try simp only [go_sem, hm, hr, hmr, hrm]
        all_goals (first | exact Nat.le_add_right _ _ | (refine ⟨?_, Nat.le_add_right _ _⟩; simp_all [plGive]))

end Go.Proofs.YtfggmgafjabbjaaDoor
