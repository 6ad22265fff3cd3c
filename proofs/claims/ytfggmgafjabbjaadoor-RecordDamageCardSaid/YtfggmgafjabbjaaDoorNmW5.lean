import Derived.Test.YtfggmgafjabbjaaDoorNmW4
namespace Go.Proofs.YtfggmgafjabbjaaDoor
open Go.DL Go.Str Go.RowKit
set_option maxRecDepth 10000
set_option linter.unusedSimpArgs false
set_option linter.unusedVariables false
theorem bo60 : hasBody Tryd.prog 60 = true := by kernel_rfl
theorem ncompare_ct (a : Str) (b : Str) : PureCt Tryd.prog 60 [.v (.string (bs a)), .v (.string (bs b))] (.tuple [.i (if nameOk a && nameOk b then nmCmp a b else 0), .i (if nameOk a && nameOk b then 0 else 11)]) := by
  refine pure_of_dw Tryd.func60 rfl bo60 (by simp [go_sem, D.nr, nrs, nrr]) (by simp [Tryd.f60]) ?_
  unfold Tryd.f60
  simp only [init_eq]
  refine dw_step (C := Cn) (by simp only [go_sem]; exact rfl) (fun h => by cases h) ?_ ?_
  · try simp only [go_sem]
    all_goals (first | done | (repeat' (with_reducible apply And.intro)) <;> first | omega | (with_reducible assumption) | (intros; omega) | (intros; simp only [decide_eq_true_eq, decide_eq_false_iff_not, Bool.or_eq_true, Bool.and_eq_true, Bool.or_eq_false_iff, Bool.not_eq_true', Bool.not_eq_false'] at *; omega) | (simp_all; done) | (simp_all; omega))
  refine dw_step (C := Cn) (by simp only [go_sem]; exact rfl) (fun h => by cases h) ?_ ?_
  · try simp only [go_sem]
    all_goals (first | done | (repeat' (with_reducible apply And.intro)) <;> first | omega | (with_reducible assumption) | (intros; omega) | (intros; simp only [decide_eq_true_eq, decide_eq_false_iff_not, Bool.or_eq_true, Bool.and_eq_true, Bool.or_eq_false_iff, Bool.not_eq_true', Bool.not_eq_false'] at *; omega) | (simp_all; done) | (simp_all; omega))
  refine dw_seq ?_
  refine dw_step (C := Cn) (by simp only [go_sem]; exact rfl) (fun h => by cases h) ?_ ?_
  · try simp only [go_sem]
    all_goals (first | done | (simp only [tvalid_ct, and_true, implies_true]; done) | ((repeat' (with_reducible apply And.intro)) <;> first | exact tvalid_ct _ | (intros; exact tvalid_ct _)))
  refine dw_cond (by simp only [go_sem]; exact rfl) (fun c1 => ?_) (fun c1 => ?_)
  · skip
    refine dw_step (C := Cn) (by simp only [go_sem]; exact rfl) (fun h => by cases h) ?_ ?_
    · try simp only [go_sem]
      all_goals (first | done | (repeat' (with_reducible apply And.intro)) <;> first | omega | (with_reducible assumption) | (intros; omega) | (intros; simp only [decide_eq_true_eq, decide_eq_false_iff_not, Bool.or_eq_true, Bool.and_eq_true, Bool.or_eq_false_iff, Bool.not_eq_true', Bool.not_eq_false'] at *; omega) | (simp_all; done) | (simp_all; omega))
    refine dw_ret ?_
    refine ⟨(by first | exact .inr rfl | trivial | simp), ?_, ?_⟩
    · simp only [go_sem]
    refine ⟨1, ?_, ?_⟩
    · try simp only [go_sem]
      all_goals (simp)
    · try simp only [go_sem]
      all_goals ((have e : (nameOk a && nameOk b) = false := by revert c1; cases nameOk a <;> cases nameOk b <;> simp); rw [e]; rfl)
  · skip
    try simp only [decide_eq_true_eq, decide_eq_false_iff_not, Bool.or_eq_true, Bool.and_eq_true, Bool.or_eq_false_iff, Bool.not_eq_true', Bool.not_eq_false', Bool.and_eq_false_iff, beq_iff_eq, beq_eq_false_iff_ne, bne_iff_ne, bne_eq_false_iff_eq, ne_eq] at c1
    refine dw_skip ?_
    show DW _ _ _ _ _
    refine dw_seq ?_
    refine dw_step (C := Cn) (by simp only [go_sem]; exact rfl) (fun h => by cases h) ?_ ?_
    · try simp only [go_sem]
      all_goals (first | done | (repeat' (with_reducible apply And.intro)) <;> first | omega | (with_reducible assumption) | (intros; omega) | (intros; simp only [decide_eq_true_eq, decide_eq_false_iff_not, Bool.or_eq_true, Bool.and_eq_true, Bool.or_eq_false_iff, Bool.not_eq_true', Bool.not_eq_false'] at *; omega) | (simp_all; done) | (simp_all; omega))
    refine dw_cond (by simp only [go_sem]; exact rfl) (fun c2 => ?_) (fun c2 => ?_)
    · skip
      try simp only [decide_eq_true_eq, decide_eq_false_iff_not, Bool.or_eq_true, Bool.and_eq_true, Bool.or_eq_false_iff, Bool.not_eq_true', Bool.not_eq_false', Bool.and_eq_false_iff, beq_iff_eq, beq_eq_false_iff_ne, bne_iff_ne, bne_eq_false_iff_eq, ne_eq] at c2
      refine dw_step (C := Cn) (by simp only [go_sem]; exact rfl) (fun h => by cases h) ?_ ?_
      · try simp only [go_sem]
        all_goals (first | done | (repeat' (with_reducible apply And.intro)) <;> first | omega | (with_reducible assumption) | (intros; omega) | (intros; simp only [decide_eq_true_eq, decide_eq_false_iff_not, Bool.or_eq_true, Bool.and_eq_true, Bool.or_eq_false_iff, Bool.not_eq_true', Bool.not_eq_false'] at *; omega) | (simp_all; done) | (simp_all; omega))
      refine dw_ret ?_
      refine ⟨(by first | exact .inr rfl | trivial | simp), ?_, ?_⟩
      · simp only [go_sem]
      refine ⟨1, ?_, ?_⟩
      · try simp only [go_sem]
        all_goals (simp)
      · try simp only [go_sem]
        all_goals (rw [c1.1, c1.2, nmCmp, if_pos c2]; rfl)
    · skip
      try simp only [decide_eq_true_eq, decide_eq_false_iff_not, Bool.or_eq_true, Bool.and_eq_true, Bool.or_eq_false_iff, Bool.not_eq_true', Bool.not_eq_false', Bool.and_eq_false_iff, beq_iff_eq, beq_eq_false_iff_ne, bne_iff_ne, bne_eq_false_iff_eq, ne_eq] at c2
      refine dw_skip ?_
      show DW _ _ _ _ _
      refine dw_seq (dw_call (C := Cn) 1 (R := _) (arr_at rfl) rfl rfl (by simp only [List.take_succ_cons, List.take_zero, go_sem]; exact rfl) ?_ ?_ (by simp only [go_sem]; exact rfl) (by simp only [go_sem]) (by simp only [go_sem]; exact rfl) (by exact puller_ct b _ _) ?_)
      · try simp only [go_sem]
        all_goals (first | done | (repeat' (with_reducible apply And.intro)) <;> first | omega | (with_reducible assumption) | (intros; omega) | (intros; simp only [decide_eq_true_eq, decide_eq_false_iff_not, Bool.or_eq_true, Bool.and_eq_true, Bool.or_eq_false_iff, Bool.not_eq_true', Bool.not_eq_false'] at *; omega) | (simp_all; done) | (simp_all; omega))
      · try simp only [go_sem]
        all_goals (first | done | rfl | decide | simp)
      rintro res h2 n2 ⟨rfl, rfl, rfl⟩
      refine ⟨⟨_, _, _, _, _, _⟩, by simp only [List.drop_succ_cons, List.drop_zero, S.put, go_sem]; exact rfl, ?_, ?_⟩
      · try simp only [go_sem]
        all_goals (first | done | (repeat' (with_reducible apply And.intro)) <;> first | omega | (with_reducible assumption) | (intros; omega) | (intros; simp only [decide_eq_true_eq, decide_eq_false_iff_not, Bool.or_eq_true, Bool.and_eq_true, Bool.or_eq_false_iff, Bool.not_eq_true', Bool.not_eq_false'] at *; omega) | (simp_all; done) | (simp_all; omega))
      try simp only [clear_eq]
      show DW _ _ _ _ _
      refine dw_step (C := Cn) (by simp only [go_sem]; exact rfl) (fun h => by cases h) ?_ ?_
      · try simp only [go_sem]
        all_goals (first | done | (repeat' (with_reducible apply And.intro)) <;> first | omega | (with_reducible assumption) | (intros; omega) | (intros; simp only [decide_eq_true_eq, decide_eq_false_iff_not, Bool.or_eq_true, Bool.and_eq_true, Bool.or_eq_false_iff, Bool.not_eq_true', Bool.not_eq_false'] at *; omega) | (simp_all; done) | (simp_all; omega))
      refine dw_seq ?_
      refine dw_step (C := Cn) (by simp only [go_sem]; exact rfl) (fun h => by cases h) ?_ ?_
      · try simp only [go_sem]
        all_goals (first | done | (repeat' (with_reducible apply And.intro)) <;> first | omega | (with_reducible assumption) | (intros; omega) | (intros; simp only [decide_eq_true_eq, decide_eq_false_iff_not, Bool.or_eq_true, Bool.and_eq_true, Bool.or_eq_false_iff, Bool.not_eq_true', Bool.not_eq_false'] at *; omega) | (simp_all; done) | (simp_all; omega))
      refine dw_block ?_
      refine dw_rangeFunc (by simp only [go_sem]) (by simp only [go_sem]; exact rfl) Tryd.func92 rfl bo92 (by simp [Tryd.f92]) rfl (fun l rL hp ha hb hn => ?_)
      unfold Tryd.f92
      refine dw_seq ?_
      refine dw_step (C := Cn) (by simp only [go_sem]; exact rfl) (fun h => by cases h) ?_ ?_
      · try simp only [go_sem]
        all_goals (first | done | (repeat' (with_reducible apply And.intro)) <;> first | omega | (with_reducible assumption) | (intros; omega) | (intros; simp only [decide_eq_true_eq, decide_eq_false_iff_not, Bool.or_eq_true, Bool.and_eq_true, Bool.or_eq_false_iff, Bool.not_eq_true', Bool.not_eq_false'] at *; omega) | (simp_all; done) | (simp_all; omega))
      refine dw_cond (by simp only [go_sem]; exact rfl) (fun d0 => ?_) (fun d0 => ?_)
      · skip
        try simp only [decide_eq_true_eq, decide_eq_false_iff_not, Bool.or_eq_true, Bool.and_eq_true, Bool.or_eq_false_iff, Bool.not_eq_true', Bool.not_eq_false', Bool.and_eq_false_iff, beq_iff_eq, beq_eq_false_iff_ne, bne_iff_ne, bne_eq_false_iff_eq, ne_eq] at d0
        refine dw_ret ?_
        refine ⟨.inr rfl, none, rfl, ?_⟩
        show DW _ _ _ _ _
        refine dw_step (C := Cn) (by simp only [go_sem]; exact rfl) (fun h => by cases h) ?_ ?_
        · try simp only [go_sem]
          all_goals (first | done | (repeat' (with_reducible apply And.intro)) <;> first | omega | (with_reducible assumption) | (intros; omega) | (intros; simp only [decide_eq_true_eq, decide_eq_false_iff_not, Bool.or_eq_true, Bool.and_eq_true, Bool.or_eq_false_iff, Bool.not_eq_true', Bool.not_eq_false'] at *; omega) | (simp_all; done) | (simp_all; omega))
        refine dw_ret ?_
        refine ⟨(by first | exact .inr rfl | trivial | simp), ?_, ?_⟩
        · simp only [go_sem]
        refine ⟨1, ?_, ?_⟩
        · try simp only [go_sem]
          all_goals (simp)
        · try simp only [go_sem]
          all_goals (first | (rw [c1.1, c1.2, nmCmp, if_neg c2, hv, cmp_3 c11 c14, if_pos d3]; rfl) | (rw [c1.1, c1.2, nmCmp, if_neg c2, d0]; rfl))
      · skip
        try simp only [decide_eq_true_eq, decide_eq_false_iff_not, Bool.or_eq_true, Bool.and_eq_true, Bool.or_eq_false_iff, Bool.not_eq_true', Bool.not_eq_false', Bool.and_eq_false_iff, beq_iff_eq, beq_eq_false_iff_ne, bne_iff_ne, bne_eq_false_iff_eq, ne_eq] at d0
        refine dw_skip ?_
        show DW _ _ _ _ _
        refine dw_step (C := Cn) (by simp only [go_sem]; exact rfl) (fun h => by cases h) ?_ ?_
        · try simp only [go_sem]
          all_goals (first | done | (repeat' (with_reducible apply And.intro)) <;> first | omega | (with_reducible assumption) | (intros; omega) | (intros; simp only [decide_eq_true_eq, decide_eq_false_iff_not, Bool.or_eq_true, Bool.and_eq_true, Bool.or_eq_false_iff, Bool.not_eq_true', Bool.not_eq_false'] at *; omega) | (simp_all; done) | (simp_all; omega))
        refine dw_block ?_
        refine dw_loop_fix (α := (Str) × (Bool) × (Str) × Nat) [1] (fun ⟨rest, more, rest2, nx⟩ => (rest.length ≤ 60) ∧ (rest2.length ≤ 60) ∧ (30 < nx) ∧ (cmpLp (rlabs a) (rlabs b) = cmpLp (rparts rest) (pl more rest2)) ∧ True) (fun ⟨rest, more, rest2, nx⟩ => rest.length) (fun ⟨rest, more, rest2, nx⟩ => [(4, .v (.string (bs rest)))]) (fun ⟨rest, more, rest2, nx⟩ => [(0, ⟨3, [[.i 0]]⟩), (1, ⟨29, [[.i 0]]⟩), (22, ⟨9, [[.v (.string (bs rest2))]]⟩), (23, ⟨4, [[.b more]]⟩), (30, ⟨134, [[.fn (.func 114) [] [.mptr 23 0 0, .mptr 22 0 0]]]⟩)]) (fun ⟨rest, more, rest2, nx⟩ => nx) (a, (b != [46]), b, _) (by simp only [List.map_cons, List.map_nil, go_sem]; exact rfl) ⟨(by first | (exact nameOk_len c1.1) | (dsimp only; exact nameOk_len c1.1)), (by first | (exact nameOk_len c1.2) | (dsimp only; exact nameOk_len c1.2)), (by first | (first | omega | (with_reducible assumption) | (simp_all; done) | (simp_all; omega)) | (dsimp only; first | omega | (with_reducible assumption) | (simp_all; done) | (simp_all; omega))), (by first | (rw [rlabs_pl b, rlabs, if_neg d0]) | (dsimp only; rw [rlabs_pl b, rlabs, if_neg d0])), trivial⟩ (by first | (simp only [go_sem]; done) | (simp [go_sem]; done) | (simp only [go_sem]; (repeat' (with_reducible apply And.intro)) <;> first | (left; simp; done) | (right; simp [go_sem]; done))) (by first | (simp only [go_sem]; done) | simp [go_sem]) (Nat.le_refl _) ?_
        rintro ⟨rest, more, rest2, nx⟩ ⟨hl, hl2, hx, hv, -⟩
        show DW _ _ _ _ { n := _, t := tab _, h := _, nx := _, e := _ }
        simp only [List.cons_append, List.nil_append]
        have hL := lastIx_lt rest 46
        have n0 : 0 < nx := by omega
        have n1 : 1 < nx := by omega
        have n22 : 22 < nx := by omega
        have n23 : 23 < nx := by omega
        refine dw_block ?_
        refine dw_step (C := Cn) (by simp only [go_sem]; exact rfl) (fun h => by cases h) ?_ ?_
        · try simp only [go_sem]
          all_goals (first | done | exact lastbyte_ct _ _ (by omega))
        refine dw_seq ?_
        refine dw_seq ?_
        refine dw_yield (C := Cn) (r := rL) 5 (arr_at rfl) rfl rfl rfl (by simp only [List.take_succ_cons, List.take_zero, go_sem, List.take_length]; exact rfl) ?_ (by simp only [go_sem, List.take_length]; exact rfl) (by first | (simp only [go_sem, List.take_length]; done) | (simp only [go_sem, List.take_length]; exact rfl)) (by simp only [go_sem, List.take_length]) (by simp only [go_sem, List.take_length]; exact rfl) (by rw [hp]; rfl) (by rw [hp, hn]; show ∀ p ∈ [32], p < 46; decide) ?_
        · try simp only [go_sem, List.take_length]
          all_goals (first | done | (repeat' (with_reducible apply And.intro)) <;> first | omega | (with_reducible assumption) | (intros; omega) | (intros; simp only [decide_eq_true_eq, decide_eq_false_iff_not, Bool.or_eq_true, Bool.and_eq_true, Bool.or_eq_false_iff, Bool.not_eq_true', Bool.not_eq_false'] at *; omega) | (simp_all; done) | (simp_all; omega))
        rw [ha, hb, hp, hn]
        show DW _ _ _ _ { n := _, t := setPs _ [32] _, h := _, nx := _ }
        simp only [setPs_cons, setPs_nil]
        refine dw_reg (C := Cn) (by simp only [go_sem]; exact rfl) (fun h => by cases h) ?_ ?_
        · try simp only [go_sem]
          all_goals (first | done | (repeat' (with_reducible apply And.intro)) <;> first | omega | (with_reducible assumption) | (intros; omega) | (intros; simp only [decide_eq_true_eq, decide_eq_false_iff_not, Bool.or_eq_true, Bool.and_eq_true, Bool.or_eq_false_iff, Bool.not_eq_true', Bool.not_eq_false'] at *; omega) | (simp_all; done) | (simp_all; omega))
        refine ⟨rfl, ?_⟩
        refine dw_block ?_
        refine dw_seq (dw_call (C := Cn) 1 (R := _) (arr_at rfl) rfl rfl (by simp only [List.take_succ_cons, List.take_zero, go_sem]; exact rfl) ?_ ?_ (by simp only [go_sem]; exact rfl) (by simp only [go_sem]) (by simp only [go_sem]; exact rfl) (by exact pull_ct more rest2 23 22 _ _ rfl rfl (by decide) (by omega)) ?_)
        · try simp only [go_sem]
          all_goals (first | done | (repeat' (with_reducible apply And.intro)) <;> first | omega | (with_reducible assumption) | (intros; omega) | (intros; simp only [decide_eq_true_eq, decide_eq_false_iff_not, Bool.or_eq_true, Bool.and_eq_true, Bool.or_eq_false_iff, Bool.not_eq_true', Bool.not_eq_false'] at *; omega) | (simp_all; done) | (simp_all; omega))
        · try simp only [go_sem]
          all_goals (first | done | rfl | decide | simp)
        rintro res h2 n2 ⟨rfl, rfl, hn2⟩
        refine ⟨⟨_, _, _, _, _, _⟩, by simp only [List.drop_succ_cons, List.drop_zero, S.put, go_sem]; exact rfl, ?_, ?_⟩
        · try simp only [go_sem]
          all_goals (first | done | (repeat' (with_reducible apply And.intro)) <;> first | omega | (with_reducible assumption) | (intros; omega) | (intros; simp only [decide_eq_true_eq, decide_eq_false_iff_not, Bool.or_eq_true, Bool.and_eq_true, Bool.or_eq_false_iff, Bool.not_eq_true', Bool.not_eq_false'] at *; omega) | (simp_all; done) | (simp_all; omega))
        try simp only [clear_eq]
        show DW _ _ _ _ _
        refine dw_seq ?_
        refine dw_step (C := Cn) (by simp only [go_sem]; exact rfl) (fun h => by cases h) ?_ ?_
        · try simp only [go_sem]
          all_goals (first | done | (repeat' (with_reducible apply And.intro)) <;> first | omega | (with_reducible assumption) | (intros; omega) | (intros; simp only [decide_eq_true_eq, decide_eq_false_iff_not, Bool.or_eq_true, Bool.and_eq_true, Bool.or_eq_false_iff, Bool.not_eq_true', Bool.not_eq_false'] at *; omega) | (simp_all; done) | (simp_all; omega))
        refine dw_cond (by simp only [go_sem]; exact rfl) (fun c11 => ?_) (fun c11 => ?_)
        · skip
          refine dw_step (C := Cn) (by simp only [go_sem]; exact rfl) (fun h => by cases h) ?_ ?_
          · try simp only [go_sem]
            all_goals (first | done | (repeat' (with_reducible apply And.intro)) <;> first | omega | (with_reducible assumption) | (intros; omega) | (intros; simp only [decide_eq_true_eq, decide_eq_false_iff_not, Bool.or_eq_true, Bool.and_eq_true, Bool.or_eq_false_iff, Bool.not_eq_true', Bool.not_eq_false'] at *; omega) | (simp_all; done) | (simp_all; omega))
          refine dw_ret ?_
          refine ⟨rfl, false, some .ret, ⟨rfl, rfl⟩, ⟨_, _, _, _, _, _⟩, by simp only [List.drop_succ_cons, List.drop_zero, S.put, go_sem, List.take_length]; exact rfl, ?_, ?_⟩
          · try simp only [go_sem, List.take_length]
            all_goals (first | done | (repeat' (with_reducible apply And.intro)) <;> first | omega | (with_reducible assumption) | (intros; omega) | (intros; simp only [decide_eq_true_eq, decide_eq_false_iff_not, Bool.or_eq_true, Bool.and_eq_true, Bool.or_eq_false_iff, Bool.not_eq_true', Bool.not_eq_false'] at *; omega) | (simp_all; done) | (simp_all; omega))
          try simp only [clear_eq]
          show DW _ _ _ _ _
          refine dw_cond (by simp only [go_sem, List.take_length]; exact rfl) (fun d3 => ?_) (fun d3 => ?_)
          · skip
            refine dw_ret ?_
            refine ⟨.inr rfl, some .ret, rfl, ?_⟩
            refine ⟨(by first | exact .inr rfl | trivial | simp), ?_, ?_⟩
            · simp only [go_sem]
            refine ⟨1, ?_, ?_⟩
            · try simp only [go_sem]
              all_goals (simp)
            · try simp only [go_sem]
              all_goals (first | (rw [c1.1, c1.2, nmCmp, if_neg c2, hv, cmp_1 c11]; done) | (rw [c1.1, c1.2, nmCmp, if_neg c2, hv, cmp_1 c11]; rfl) | (rw [c1.1, c1.2, nmCmp, if_neg c2, hv, cmp_2 c11 c14]; rfl))
          · skip
            simp at d3
        · skip
          refine dw_skip ?_
          show DW _ _ _ _ _
          refine dw_step (C := Cn) (by simp only [go_sem]; exact rfl) (fun h => by cases h) ?_ ?_
          · try simp only [go_sem]
            all_goals (exact cmpS1_ct _ _)
          refine dw_step (C := Cn) (by simp only [go_sem]; exact rfl) (fun h => by cases h) ?_ ?_
          · try simp only [go_sem]
            all_goals (first | done | (repeat' (with_reducible apply And.intro)) <;> first | omega | (with_reducible assumption) | (intros; omega) | (intros; simp only [decide_eq_true_eq, decide_eq_false_iff_not, Bool.or_eq_true, Bool.and_eq_true, Bool.or_eq_false_iff, Bool.not_eq_true', Bool.not_eq_false'] at *; omega) | (simp_all; done) | (simp_all; omega))
          refine dw_cond (by simp only [go_sem]; exact rfl) (fun c14 => ?_) (fun c14 => ?_)
          · skip
            refine dw_step (C := Cn) (by simp only [go_sem]; exact rfl) (fun h => by cases h) ?_ ?_
            · try simp only [go_sem]
              all_goals (first | done | (repeat' (with_reducible apply And.intro)) <;> first | omega | (with_reducible assumption) | (intros; omega) | (intros; simp only [decide_eq_true_eq, decide_eq_false_iff_not, Bool.or_eq_true, Bool.and_eq_true, Bool.or_eq_false_iff, Bool.not_eq_true', Bool.not_eq_false'] at *; omega) | (simp_all; done) | (simp_all; omega))
            refine dw_ret ?_
            refine ⟨rfl, false, some .ret, ⟨rfl, rfl⟩, ⟨_, _, _, _, _, _⟩, by simp only [List.drop_succ_cons, List.drop_zero, S.put, go_sem, List.take_length]; exact rfl, ?_, ?_⟩
            · try simp only [go_sem, List.take_length]
              all_goals (first | done | (repeat' (with_reducible apply And.intro)) <;> first | omega | (with_reducible assumption) | (intros; omega) | (intros; simp only [decide_eq_true_eq, decide_eq_false_iff_not, Bool.or_eq_true, Bool.and_eq_true, Bool.or_eq_false_iff, Bool.not_eq_true', Bool.not_eq_false'] at *; omega) | (simp_all; done) | (simp_all; omega))
            try simp only [clear_eq]
            show DW _ _ _ _ _
            refine dw_cond (by simp only [go_sem, List.take_length]; exact rfl) (fun d3 => ?_) (fun d3 => ?_)
            · skip
              refine dw_ret ?_
              refine ⟨.inr rfl, some .ret, rfl, ?_⟩
              refine ⟨(by first | exact .inr rfl | trivial | simp), ?_, ?_⟩
              · simp only [go_sem]
              refine ⟨1, ?_, ?_⟩
              · try simp only [go_sem]
                all_goals (simp)
              · try simp only [go_sem]
                all_goals (first | (rw [c1.1, c1.2, nmCmp, if_neg c2, hv, cmp_1 c11]; done) | (rw [c1.1, c1.2, nmCmp, if_neg c2, hv, cmp_1 c11]; rfl) | (rw [c1.1, c1.2, nmCmp, if_neg c2, hv, cmp_2 c11 c14]; rfl))
            · skip
              simp at d3
          · skip
            refine dw_skip ?_
            refine ⟨rfl, true, none, ⟨rfl, rfl⟩, ⟨_, _, _, _, _, _⟩, by simp only [List.drop_succ_cons, List.drop_zero, S.put, go_sem, List.take_length]; exact rfl, ?_, ?_⟩
            · try simp only [go_sem, List.take_length]
              all_goals (first | done | (repeat' (with_reducible apply And.intro)) <;> first | omega | (with_reducible assumption) | (intros; omega) | (intros; simp only [decide_eq_true_eq, decide_eq_false_iff_not, Bool.or_eq_true, Bool.and_eq_true, Bool.or_eq_false_iff, Bool.not_eq_true', Bool.not_eq_false'] at *; omega) | (simp_all; done) | (simp_all; omega))
            try simp only [clear_eq]
            show DW _ _ _ _ _
            refine dw_cond (by simp only [go_sem, List.take_length]; exact rfl) (fun d3 => ?_) (fun d3 => ?_)
            · skip
              try simp only [decide_eq_true_eq, decide_eq_false_iff_not, Bool.or_eq_true, Bool.and_eq_true, Bool.or_eq_false_iff, Bool.not_eq_true', Bool.not_eq_false', Bool.and_eq_false_iff, beq_iff_eq, beq_eq_false_iff_ne, bne_iff_ne, bne_eq_false_iff_eq, ne_eq] at d3
              refine dw_ret ?_
              refine ⟨.inr rfl, none, rfl, ?_⟩
              show DW _ _ _ _ _
              refine dw_step (C := Cn) (by simp only [go_sem]; exact rfl) (fun h => by cases h) ?_ ?_
              · try simp only [go_sem]
                all_goals (first | done | (repeat' (with_reducible apply And.intro)) <;> first | omega | (with_reducible assumption) | (intros; omega) | (intros; simp only [decide_eq_true_eq, decide_eq_false_iff_not, Bool.or_eq_true, Bool.and_eq_true, Bool.or_eq_false_iff, Bool.not_eq_true', Bool.not_eq_false'] at *; omega) | (simp_all; done) | (simp_all; omega))
              refine dw_ret ?_
              refine ⟨(by first | exact .inr rfl | trivial | simp), ?_, ?_⟩
              · simp only [go_sem]
              refine ⟨1, ?_, ?_⟩
              · try simp only [go_sem]
                all_goals (simp)
              · try simp only [go_sem]
                all_goals (first | (rw [c1.1, c1.2, nmCmp, if_neg c2, hv, cmp_3 c11 c14, if_pos d3]; rfl) | (rw [c1.1, c1.2, nmCmp, if_neg c2, d0]; rfl))
            · skip
              try simp only [decide_eq_true_eq, decide_eq_false_iff_not, Bool.or_eq_true, Bool.and_eq_true, Bool.or_eq_false_iff, Bool.not_eq_true', Bool.not_eq_false', Bool.and_eq_false_iff, beq_iff_eq, beq_eq_false_iff_ne, bne_iff_ne, bne_eq_false_iff_eq, ne_eq] at d3
              refine dw_skip ?_
              show DW _ _ _ _ _
              refine dw_reg (C := Cn) (by simp only [go_sem]; exact rfl) (fun h => by cases h) ?_ ?_
              · try simp only [go_sem]
                all_goals (first | done | (repeat' (with_reducible apply And.intro)) <;> first | omega | (with_reducible assumption) | (intros; omega) | (intros; simp only [decide_eq_true_eq, decide_eq_false_iff_not, Bool.or_eq_true, Bool.and_eq_true, Bool.or_eq_false_iff, Bool.not_eq_true', Bool.not_eq_false'] at *; omega) | (simp_all; done) | (simp_all; omega))
              show ∃ _, _
              refine ⟨(rest.take (lastIx rest 46).toNat, plMore more rest2, plRest more rest2, _), ⟨(by first | (first | omega | (simp; omega)) | (dsimp only; first | omega | (simp; omega))), (by first | (first | omega | (have := plRest_len more rest2; omega)) | (dsimp only; first | omega | (have := plRest_len more rest2; omega))), (by first | (first | omega | (with_reducible assumption) | (simp_all; done) | (simp_all; omega)) | (dsimp only; first | omega | (with_reducible assumption) | (simp_all; done) | (simp_all; omega))), (by first | (rw [hv, cmp_3 c11 c14, if_neg d3]) | (dsimp only; rw [hv, cmp_3 c11 c14, if_neg d3])), trivial⟩, (by show (_ : Nat) < _; (simp; omega)), ?_, ?_, ?_, Nat.le_refl _, rfl, rfl⟩
              · try simp only [go_sem]
                all_goals (first | done | (simp; done) | (simp; omega) | ((repeat' (with_reducible apply And.intro)) <;> first | (left; simp; done) | (right; simp [go_sem]; done)))
              · try simp only [go_sem]
                all_goals (first | done | (simp; done) | (simp; omega) | ((repeat' (with_reducible apply And.intro)) <;> first | (left; simp; done) | (right; simp [go_sem]; done)))
              · try simp only [go_sem]
                all_goals (first | done | (simp; done) | (simp; omega) | ((repeat' (with_reducible apply And.intro)) <;> first | (left; simp; done) | (right; simp [go_sem]; done)))

end Go.Proofs.YtfggmgafjabbjaaDoor
