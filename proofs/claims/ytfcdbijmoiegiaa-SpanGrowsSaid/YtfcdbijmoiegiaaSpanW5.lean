import Derived.Test.YtfcdbijmoiegiaaSpanW4
namespace Go.Proofs.Ytfcdbijmoiegiaa
open Go.DL Go.Span
set_option maxRecDepth 10000
set_option linter.unusedSimpArgs false
set_option linter.unusedVariables false
theorem bo60 : hasBody Try.prog 60 = true := by kernel_rfl
theorem bo34 : hasBody Try.prog 34 = true := by kernel_rfl
theorem sweep35_ct (a b : List Sp) : PureCt Try.prog 34 [.list false (a.map Sp.d), .list false (b.map Sp.d), .fn (.func 35) [] []] (.tuple [.list false ((swept 35 a b).1.map Sp.d), .i (swept 35 a b).2]) := by
  refine pure_of_dw Try.func34 rfl bo34 (by simp [go_sem, D.nr, nrs]) (by simp [Try.f34]) ?_
  unfold Try.f34
  simp only [init_eq]
  refine dw_step (C := Cn) (by simp only [go_sem]; exact rfl) (fun h => by cases h) ?_ ?_
  · try simp only [go_sem]
    all_goals (first | done | (repeat' (with_reducible apply And.intro)) <;> first | omega | (with_reducible assumption) | (intros; omega) | (intros; simp only [decide_eq_true_eq, decide_eq_false_iff_not, Bool.or_eq_true, Bool.and_eq_true, Bool.or_eq_false_iff, Bool.not_eq_true', Bool.not_eq_false'] at *; omega) | (simp_all; done) | (simp_all; omega))
  refine dw_seq ?_
  refine dw_step (C := Cn) (by simp only [go_sem]; exact rfl) (fun h => by cases h) ?_ ?_
  · try simp only [go_sem]
    all_goals (first | done | (intros; exact valid_ct _) | ((repeat' (with_reducible apply And.intro)) <;> first | omega | exact valid_ct _ | (intros; exact valid_ct _)))
  refine dw_cond (by simp only [go_sem]; exact rfl) (fun c1 => ?_) (fun c1 => ?_)
  · skip
    have hv1 : (rvalid a && rvalid b) = false := by rw [← valid_eq a, ← valid_eq b]; revert c1; cases valid a <;> cases valid b <;> simp
    refine dw_step (C := Cn) (by simp only [go_sem]; exact rfl) (fun h => by cases h) ?_ ?_
    · try simp only [go_sem]
      all_goals (first | done | (repeat' (with_reducible apply And.intro)) <;> first | omega | (with_reducible assumption) | (intros; omega) | (intros; simp only [decide_eq_true_eq, decide_eq_false_iff_not, Bool.or_eq_true, Bool.and_eq_true, Bool.or_eq_false_iff, Bool.not_eq_true', Bool.not_eq_false'] at *; omega) | (simp_all; done) | (simp_all; omega))
    refine dw_ret ?_
    refine ⟨.inr rfl, ?_, ?_⟩
    · simp only [go_sem]
    refine ⟨2, ?_, ?_⟩
    · try simp only [go_sem]
      all_goals (simp)
    · try simp only [go_sem]
      all_goals (rw [swept_bad hv1]; rfl)
  · skip
    have hv0 : valid a = true ∧ valid b = true := by simpa using c1
    have hv1 : rvalid a = true ∧ rvalid b = true := by rw [← valid_eq a, ← valid_eq b]; exact hv0
    have hl1 := rvalid_len hv1.1
    have hl2 := rvalid_len hv1.2
    have hva := vd_of hv1.1
    have hvb := vd_of hv1.2
    refine dw_skip ?_
    show DW _ _ _ _ _
    refine dw_step (C := Cn) (by simp only [go_sem]; exact rfl) (fun h => by cases h) ?_ ?_
    · try simp only [go_sem]
      all_goals (first | done | (repeat' (with_reducible apply And.intro)) <;> first | omega | (with_reducible assumption) | (intros; omega) | (intros; simp only [decide_eq_true_eq, decide_eq_false_iff_not, Bool.or_eq_true, Bool.and_eq_true, Bool.or_eq_false_iff, Bool.not_eq_true', Bool.not_eq_false'] at *; omega) | (simp_all; done) | (simp_all; omega))
    refine dw_step (C := Cn) (by simp only [go_sem]; exact rfl) (fun h => by cases h) ?_ ?_
    · try simp only [go_sem]
      all_goals (first | done | (repeat' (with_reducible apply And.intro)) <;> first | omega | (with_reducible assumption) | (intros; omega) | (intros; simp only [decide_eq_true_eq, decide_eq_false_iff_not, Bool.or_eq_true, Bool.and_eq_true, Bool.or_eq_false_iff, Bool.not_eq_true', Bool.not_eq_false'] at *; omega) | (simp_all; done) | (simp_all; omega))
    refine dw_seq ?_
    refine dw_step (C := Cn) (by simp only [go_sem]; exact rfl) (fun h => by cases h) ?_ ?_
    · try simp only [go_sem]
      all_goals (first | done | exact ends_ct _ _)
    refine dw_block ?_
    refine dw_rangeFunc (by simp only [go_sem]) (by simp only [go_sem]; exact rfl) Try.func60 rfl bo60 (by simp [Try.f60]) rfl (fun l rL hp ha hb hn => ?_)
    unfold Try.f60
    refine dw_step (C := Cn) (by simp only [go_sem]; exact rfl) (fun _ => ⟨mix, by kernel_rfl, by kernel_rfl⟩) ?_ ?_
    · try simp only [go_sem]
      all_goals (first | done | ((repeat' (with_reducible apply And.intro)) <;> first | omega | (refine flat_ct _ ?_; omega)))
    refine dw_step (C := Cn) (by simp only [go_sem]; exact rfl) (fun h => by cases h) ?_ ?_
    · try simp only [go_sem]
      all_goals (first | done | (repeat' (with_reducible apply And.intro)) <;> first | omega | (with_reducible assumption) | (intros; omega) | (intros; simp only [decide_eq_true_eq, decide_eq_false_iff_not, Bool.or_eq_true, Bool.and_eq_true, Bool.or_eq_false_iff, Bool.not_eq_true', Bool.not_eq_false'] at *; omega) | (simp_all; done) | (simp_all; omega))
    refine dw_block ?_
    refine dw_ownc 11 22 34 (by simp only [go_sem]) (by simp only [go_sem]) ?_
    refine dw_loop_fix (α := (Sw) × (Nat) × Nat) [0, 4, 5] (fun ⟨s, r, nx⟩ => (Inv 35 a b s) ∧ (r < nx) ∧ (12 < r) ∧ True) (fun ⟨s, r, nx⟩ => (flatL a).length - s.i + ((flatL b).length - s.j)) (fun ⟨s, r, nx⟩ => [(6, .i s.i), (7, .i s.j)]) (fun ⟨s, r, nx⟩ => [(0, ⟨49, [[.fn (.func 35) [] []]]⟩), (11, ⟨22, [[.mrow r 0 s.out.length]]⟩), (12, ⟨3, [[.i s.fr]]⟩), (r, ⟨34, s.out.map Sp.d⟩)]) (fun ⟨s, r, nx⟩ => nx) (⟨0, 0, -1, []⟩, 25, _) (by simp only [List.map_cons, List.map_nil, go_sem]; exact rfl) ⟨(by first | (exact inv_init (by decide) hva hvb) | (dsimp only; exact inv_init (by decide) hva hvb)), (by first | (first | omega | (with_reducible assumption) | (simp_all; done) | (simp_all; omega)) | (dsimp only; first | omega | (with_reducible assumption) | (simp_all; done) | (simp_all; omega))), (by first | (first | omega | (with_reducible assumption) | (simp_all; done) | (simp_all; omega)) | (dsimp only; first | omega | (with_reducible assumption) | (simp_all; done) | (simp_all; omega))), trivial⟩ (by first | (simp only [go_sem]; done) | (simp [go_sem]; done) | (simp only [go_sem]; (repeat' (with_reducible apply And.intro)) <;> first | (left; simp; done) | (right; simp [go_sem]; done))) (by first | (simp only [go_sem]; done) | simp [go_sem]) (Nat.le_refl _) ?_
    rintro ⟨s, r, nx⟩ ⟨hI, hr, hr0, -⟩
    show DW _ _ _ _ { n := _, t := tab _, h := _, nx := _, e := _ }
    simp only [List.cons_append, List.nil_append]
    have q0 : r ≠ 0 := by omega
    have q11 : r ≠ 11 := by omega
    have q12 : r ≠ 12 := by omega
    have p0 : 0 ≠ r := by omega
    have p11 : 11 ≠ r := by omega
    have p12 : 12 ≠ r := by omega
    have n0 : 0 < nx := by omega
    have n11 : 11 < nx := by omega
    have n12 : 12 < nx := by omega
    have hIi := hI.i
    have hIj := hI.j
    have hIl := hI.len
    rw [flat_len] at hIi hIj
    have hfl := flat_len a
    have hfm := flat_len b
    refine dw_seq ?_
    refine dw_step (C := Cn) (by simp only [go_sem, hr, q0, q11, q12, p0, p11, p12, n0, n11, n12]; exact rfl) (fun h => by cases h) ?_ ?_
    · try simp only [go_sem, hr, q0, q11, q12, p0, p11, p12, n0, n11, n12]
      all_goals (first | done | (repeat' (with_reducible apply And.intro)) <;> first | omega | (with_reducible assumption) | (intros; omega) | (intros; simp only [decide_eq_true_eq, decide_eq_false_iff_not, Bool.or_eq_true, Bool.and_eq_true, Bool.or_eq_false_iff, Bool.not_eq_true', Bool.not_eq_false'] at *; omega) | (simp_all; done) | (simp_all; omega))
    refine dw_cond (by simp only [go_sem, hr, q0, q11, q12, p0, p11, p12, n0, n11, n12]; exact rfl) (fun c2 => ?_) (fun c2 => ?_)
    · skip
      have hlt : s.i < (flatL a).length ∨ s.j < (flatL b).length := by simpa using c2
      refine dw_skip ?_
      show DW _ _ _ _ _
      refine dw_block ?_
      refine dw_step (C := Cn) (by simp only [go_sem, hr, q0, q11, q12, p0, p11, p12, n0, n11, n12]; exact rfl) (fun h => by cases h) ?_ ?_
      · try simp only [go_sem, hr, q0, q11, q12, p0, p11, p12, n0, n11, n12]
        all_goals (first | done | (repeat' (with_reducible apply And.intro)) <;> first | omega | (with_reducible assumption) | (intros; omega) | (intros; simp only [decide_eq_true_eq, decide_eq_false_iff_not, Bool.or_eq_true, Bool.and_eq_true, Bool.or_eq_false_iff, Bool.not_eq_true', Bool.not_eq_false'] at *; omega) | (simp_all; done) | (simp_all; omega))
      refine dw_join (α := (Int) × Nat) [0, 4, 5, 6, 7] (fun ⟨t1, nx⟩ => (t1 = if s.i < (flatL a).length then min 20000000 (flatL a)[s.i]! else 20000000) ∧ (r < nx) ∧ True) (fun ⟨t1, nx⟩ => [(8, .i t1)]) (fun ⟨t1, nx⟩ => [(0, ⟨49, [[.fn (.func 35) [] []]]⟩), (11, ⟨22, [[.mrow r 0 s.out.length]]⟩), (12, ⟨3, [[.i s.fr]]⟩), (r, ⟨34, s.out.map Sp.d⟩)]) (fun ⟨t1, nx⟩ => nx) (by simp only [List.map_cons, List.map_nil, go_sem, hr, q0, q11, q12, p0, p11, p12, n0, n11, n12]; exact rfl) ?_ ?_
      · skip
        refine dw_step (C := Cn) (by simp only [go_sem, hr, q0, q11, q12, p0, p11, p12, n0, n11, n12]; exact rfl) (fun h => by cases h) ?_ ?_
        · try simp only [go_sem, hr, q0, q11, q12, p0, p11, p12, n0, n11, n12]
          all_goals (first | done | (repeat' (with_reducible apply And.intro)) <;> first | omega | (with_reducible assumption) | (intros; omega) | (intros; simp only [decide_eq_true_eq, decide_eq_false_iff_not, Bool.or_eq_true, Bool.and_eq_true, Bool.or_eq_false_iff, Bool.not_eq_true', Bool.not_eq_false'] at *; omega) | (simp_all; done) | (simp_all; omega))
        refine dw_cond (by simp only [go_sem, hr, q0, q11, q12, p0, p11, p12, n0, n11, n12]; exact rfl) (fun c4 => ?_) (fun c4 => ?_)
        · skip
          have hx : s.i < (flatL a).length := by simpa using c4
          refine dw_reg (C := Cn) (by simp only [go_sem, hr, q0, q11, q12, p0, p11, p12, n0, n11, n12, getD_i hx]; exact rfl) (fun h => by cases h) ?_ ?_
          · try simp only [go_sem, hr, q0, q11, q12, p0, p11, p12, n0, n11, n12, getD_i hx]
            all_goals (first | done | (repeat' (with_reducible apply And.intro)) <;> first | omega | (with_reducible assumption) | (intros; omega) | (intros; simp only [decide_eq_true_eq, decide_eq_false_iff_not, Bool.or_eq_true, Bool.and_eq_true, Bool.or_eq_false_iff, Bool.not_eq_true', Bool.not_eq_false'] at *; omega) | (simp_all; done) | (simp_all; omega))
          show ∃ _, _
          refine ⟨(min 20000000 (flatL a)[s.i]!, _), ⟨(by first | (rw [if_pos hx]) | (dsimp only; rw [if_pos hx])), (by first | (first | omega | (with_reducible assumption) | (simp_all; done) | (simp_all; omega)) | (dsimp only; first | omega | (with_reducible assumption) | (simp_all; done) | (simp_all; omega))), trivial⟩, ?_, ?_, ?_, Nat.le_refl _, rfl, rfl⟩
          · try simp only [go_sem, hr, q0, q11, q12, p0, p11, p12, n0, n11, n12, getD_i hx]
            all_goals (first | done | (simp [Sp.d]; done) | (simp [Sp.d]; omega))
          · try simp only [go_sem, hr, q0, q11, q12, p0, p11, p12, n0, n11, n12, getD_i hx]
            all_goals (first | done | (simp [Sp.d]; done) | (simp [Sp.d]; omega))
          · try simp only [go_sem, hr, q0, q11, q12, p0, p11, p12, n0, n11, n12, getD_i hx]
            all_goals (first | done | (simp [Sp.d]; done) | (simp [Sp.d]; omega))
        · skip
          have hx : ¬ s.i < (flatL a).length := by simpa using c4
          refine dw_skip ?_
          show ∃ _, _
          refine ⟨(20000000, _), ⟨(by first | (rw [if_neg hx]) | (dsimp only; rw [if_neg hx])), (by first | (first | omega | (with_reducible assumption) | (simp_all; done) | (simp_all; omega)) | (dsimp only; first | omega | (with_reducible assumption) | (simp_all; done) | (simp_all; omega))), trivial⟩, ?_, ?_, ?_, Nat.le_refl _, rfl, rfl⟩
          · try simp only [go_sem, hr, q0, q11, q12, p0, p11, p12, n0, n11, n12]
            all_goals (first | done | (simp [Sp.d]; done) | (simp [Sp.d]; omega))
          · try simp only [go_sem, hr, q0, q11, q12, p0, p11, p12, n0, n11, n12]
            all_goals (first | done | (simp [Sp.d]; done) | (simp [Sp.d]; omega))
          · try simp only [go_sem, hr, q0, q11, q12, p0, p11, p12, n0, n11, n12]
            all_goals (first | done | (simp [Sp.d]; done) | (simp [Sp.d]; omega))
      rintro ⟨t1, nx⟩ ⟨ht1, hr, -⟩
      show DW _ _ _ _ { n := _, t := tab _, h := _, nx := _, e := _ }
      simp only [List.cons_append, List.nil_append]
      have n0 : 0 < nx := by omega
      have n11 : 11 < nx := by omega
      have n12 : 12 < nx := by omega
      refine dw_join (α := (Int) × Nat) [0, 4, 5, 6, 7] (fun ⟨t2, nx⟩ => (t2 = evT (flatL a) (flatL b) s.i s.j) ∧ (r < nx) ∧ True) (fun ⟨t2, nx⟩ => [(8, .i t2)]) (fun ⟨t2, nx⟩ => [(0, ⟨49, [[.fn (.func 35) [] []]]⟩), (11, ⟨22, [[.mrow r 0 s.out.length]]⟩), (12, ⟨3, [[.i s.fr]]⟩), (r, ⟨34, s.out.map Sp.d⟩)]) (fun ⟨t2, nx⟩ => nx) (by simp only [List.map_cons, List.map_nil, go_sem, hr, q0, q11, q12, p0, p11, p12, n0, n11, n12]; exact rfl) ?_ ?_
      · skip
        refine dw_step (C := Cn) (by simp only [go_sem, hr, q0, q11, q12, p0, p11, p12, n0, n11, n12]; exact rfl) (fun h => by cases h) ?_ ?_
        · try simp only [go_sem, hr, q0, q11, q12, p0, p11, p12, n0, n11, n12]
          all_goals (first | done | (repeat' (with_reducible apply And.intro)) <;> first | omega | (with_reducible assumption) | (intros; omega) | (intros; simp only [decide_eq_true_eq, decide_eq_false_iff_not, Bool.or_eq_true, Bool.and_eq_true, Bool.or_eq_false_iff, Bool.not_eq_true', Bool.not_eq_false'] at *; omega) | (simp_all; done) | (simp_all; omega))
        refine dw_cond (by simp only [go_sem, hr, q0, q11, q12, p0, p11, p12, n0, n11, n12]; exact rfl) (fun c6 => ?_) (fun c6 => ?_)
        · skip
          have hy : s.j < (flatL b).length := by simpa using c6
          refine dw_reg (C := Cn) (by simp only [go_sem, hr, q0, q11, q12, p0, p11, p12, n0, n11, n12, getD_i hy]; exact rfl) (fun h => by cases h) ?_ ?_
          · try simp only [go_sem, hr, q0, q11, q12, p0, p11, p12, n0, n11, n12, getD_i hy]
            all_goals (first | done | (repeat' (with_reducible apply And.intro)) <;> first | omega | (with_reducible assumption) | (intros; omega) | (intros; simp only [decide_eq_true_eq, decide_eq_false_iff_not, Bool.or_eq_true, Bool.and_eq_true, Bool.or_eq_false_iff, Bool.not_eq_true', Bool.not_eq_false'] at *; omega) | (simp_all; done) | (simp_all; omega))
          show ∃ _, _
          refine ⟨(min t1 (flatL b)[s.j]!, _), ⟨(by first | (rw [evT, if_pos hy, ← ht1]) | (dsimp only; rw [evT, if_pos hy, ← ht1])), (by first | (first | omega | (with_reducible assumption) | (simp_all; done) | (simp_all; omega)) | (dsimp only; first | omega | (with_reducible assumption) | (simp_all; done) | (simp_all; omega))), trivial⟩, ?_, ?_, ?_, Nat.le_refl _, rfl, rfl⟩
          · try simp only [go_sem, hr, q0, q11, q12, p0, p11, p12, n0, n11, n12, getD_i hy]
            all_goals (first | done | (simp [Sp.d]; done) | (simp [Sp.d]; omega))
          · try simp only [go_sem, hr, q0, q11, q12, p0, p11, p12, n0, n11, n12, getD_i hy]
            all_goals (first | done | (simp [Sp.d]; done) | (simp [Sp.d]; omega))
          · try simp only [go_sem, hr, q0, q11, q12, p0, p11, p12, n0, n11, n12, getD_i hy]
            all_goals (first | done | (simp [Sp.d]; done) | (simp [Sp.d]; omega))
        · skip
          have hy : ¬ s.j < (flatL b).length := by simpa using c6
          refine dw_skip ?_
          show ∃ _, _
          refine ⟨(t1, _), ⟨(by first | (rw [evT, if_neg hy, ← ht1]) | (dsimp only; rw [evT, if_neg hy, ← ht1])), (by first | (first | omega | (with_reducible assumption) | (simp_all; done) | (simp_all; omega)) | (dsimp only; first | omega | (with_reducible assumption) | (simp_all; done) | (simp_all; omega))), trivial⟩, ?_, ?_, ?_, Nat.le_refl _, rfl, rfl⟩
          · try simp only [go_sem, hr, q0, q11, q12, p0, p11, p12, n0, n11, n12]
            all_goals (first | done | (simp [Sp.d]; done) | (simp [Sp.d]; omega))
          · try simp only [go_sem, hr, q0, q11, q12, p0, p11, p12, n0, n11, n12]
            all_goals (first | done | (simp [Sp.d]; done) | (simp [Sp.d]; omega))
          · try simp only [go_sem, hr, q0, q11, q12, p0, p11, p12, n0, n11, n12]
            all_goals (first | done | (simp [Sp.d]; done) | (simp [Sp.d]; omega))
      rintro ⟨t2, nx⟩ ⟨ht2, hr, -⟩
      show DW _ _ _ _ { n := _, t := tab _, h := _, nx := _, e := _ }
      simp only [List.cons_append, List.nil_append]
      have n0 : 0 < nx := by omega
      have n11 : 11 < nx := by omega
      have n12 : 12 < nx := by omega
      refine dw_join (α := (Nat) × Nat) [0, 4, 5, 7, 8] (fun ⟨i2, nx⟩ => (i2 = nxt (flatL a) s.i t2) ∧ (r < nx) ∧ True) (fun ⟨i2, nx⟩ => [(6, .i i2)]) (fun ⟨i2, nx⟩ => [(0, ⟨49, [[.fn (.func 35) [] []]]⟩), (11, ⟨22, [[.mrow r 0 s.out.length]]⟩), (12, ⟨3, [[.i s.fr]]⟩), (r, ⟨34, s.out.map Sp.d⟩)]) (fun ⟨i2, nx⟩ => nx) (by simp only [List.map_cons, List.map_nil, go_sem, hr, q0, q11, q12, p0, p11, p12, n0, n11, n12]; exact rfl) ?_ ?_
      · skip
        by_cases hx : s.i < (flatL a).length
        · skip
          have e0 : decide ((s.i : Int) < ((flatL a).length : Int)) = true := by simpa using hx
          refine dw_step (C := Cn) (by simp only [go_sem, hr, q0, q11, q12, p0, p11, p12, n0, n11, n12, e0, getD_i hx]; exact rfl) (fun h => by cases h) ?_ ?_
          · try simp only [go_sem, hr, q0, q11, q12, p0, p11, p12, n0, n11, n12, e0, getD_i hx]
            all_goals (first | done | (repeat' (with_reducible apply And.intro)) <;> first | omega | (with_reducible assumption) | (intros; omega) | (intros; simp only [decide_eq_true_eq, decide_eq_false_iff_not, Bool.or_eq_true, Bool.and_eq_true, Bool.or_eq_false_iff, Bool.not_eq_true', Bool.not_eq_false'] at *; omega) | (simp_all; done) | (simp_all; omega))
          refine dw_cond (by simp only [go_sem, hr, q0, q11, q12, p0, p11, p12, n0, n11, n12, e0, getD_i hx]; exact rfl) (fun c8 => ?_) (fun c8 => ?_)
          · skip
            refine dw_reg (C := Cn) (by simp only [go_sem, hr, q0, q11, q12, p0, p11, p12, n0, n11, n12, e0, getD_i hx]; exact rfl) (fun h => by cases h) ?_ ?_
            · try simp only [go_sem, hr, q0, q11, q12, p0, p11, p12, n0, n11, n12, e0, getD_i hx]
              all_goals (first | done | (repeat' (with_reducible apply And.intro)) <;> first | omega | (with_reducible assumption) | (intros; omega) | (intros; simp only [decide_eq_true_eq, decide_eq_false_iff_not, Bool.or_eq_true, Bool.and_eq_true, Bool.or_eq_false_iff, Bool.not_eq_true', Bool.not_eq_false'] at *; omega) | (simp_all; done) | (simp_all; omega))
            show ∃ _, _
            refine ⟨(s.i + 1, _), ⟨(by first | (rw [nxt, decide_eq_true hx, c8]; rfl) | (dsimp only; rw [nxt, decide_eq_true hx, c8]; rfl)), (by first | (first | omega | (with_reducible assumption) | (simp_all; done) | (simp_all; omega)) | (dsimp only; first | omega | (with_reducible assumption) | (simp_all; done) | (simp_all; omega))), trivial⟩, ?_, ?_, ?_, Nat.le_refl _, rfl, rfl⟩
            · try simp only [go_sem, hr, q0, q11, q12, p0, p11, p12, n0, n11, n12, e0, getD_i hx]
              all_goals (first | done | (simp [Sp.d]; done) | (simp [Sp.d]; omega))
            · try simp only [go_sem, hr, q0, q11, q12, p0, p11, p12, n0, n11, n12, e0, getD_i hx]
              all_goals (first | done | (simp [Sp.d]; done) | (simp [Sp.d]; omega))
            · try simp only [go_sem, hr, q0, q11, q12, p0, p11, p12, n0, n11, n12, e0, getD_i hx]
              all_goals (first | done | (simp [Sp.d]; done) | (simp [Sp.d]; omega))
          · skip
            refine dw_skip ?_
            show ∃ _, _
            refine ⟨(s.i, _), ⟨(by first | (first | (rw [nxt, decide_eq_true hx, c8]; rfl) | (rw [nxt, decide_eq_false hx]; rfl)) | (dsimp only; first | (rw [nxt, decide_eq_true hx, c8]; rfl) | (rw [nxt, decide_eq_false hx]; rfl))), (by first | (first | omega | (with_reducible assumption) | (simp_all; done) | (simp_all; omega)) | (dsimp only; first | omega | (with_reducible assumption) | (simp_all; done) | (simp_all; omega))), trivial⟩, ?_, ?_, ?_, Nat.le_refl _, rfl, rfl⟩
            · try simp only [go_sem, hr, q0, q11, q12, p0, p11, p12, n0, n11, n12, e0, getD_i hx]
              all_goals (first | done | (simp [Sp.d]; done) | (simp [Sp.d]; omega))
            · try simp only [go_sem, hr, q0, q11, q12, p0, p11, p12, n0, n11, n12, e0, getD_i hx]
              all_goals (first | done | (simp [Sp.d]; done) | (simp [Sp.d]; omega))
            · try simp only [go_sem, hr, q0, q11, q12, p0, p11, p12, n0, n11, n12, e0, getD_i hx]
              all_goals (first | done | (simp [Sp.d]; done) | (simp [Sp.d]; omega))
        · skip
          have e0 : decide ((s.i : Int) < ((flatL a).length : Int)) = false := by simpa using hx
          refine dw_step (C := Cn) (by simp only [go_sem, hr, q0, q11, q12, p0, p11, p12, n0, n11, n12, e0]; exact rfl) (fun h => by cases h) ?_ ?_
          · try simp only [go_sem, hr, q0, q11, q12, p0, p11, p12, n0, n11, n12, e0]
            all_goals (first | done | (repeat' (with_reducible apply And.intro)) <;> first | omega | (with_reducible assumption) | (intros; omega) | (intros; simp only [decide_eq_true_eq, decide_eq_false_iff_not, Bool.or_eq_true, Bool.and_eq_true, Bool.or_eq_false_iff, Bool.not_eq_true', Bool.not_eq_false'] at *; omega) | (simp_all; done) | (simp_all; omega))
          refine dw_cond (by simp only [go_sem, hr, q0, q11, q12, p0, p11, p12, n0, n11, n12, e0]; exact rfl) (fun c8 => ?_) (fun c8 => ?_)
          · skip
            simp at c8
          · skip
            refine dw_skip ?_
            show ∃ _, _
            refine ⟨(s.i, _), ⟨(by first | (first | (rw [nxt, decide_eq_true hx, c8]; rfl) | (rw [nxt, decide_eq_false hx]; rfl)) | (dsimp only; first | (rw [nxt, decide_eq_true hx, c8]; rfl) | (rw [nxt, decide_eq_false hx]; rfl))), (by first | (first | omega | (with_reducible assumption) | (simp_all; done) | (simp_all; omega)) | (dsimp only; first | omega | (with_reducible assumption) | (simp_all; done) | (simp_all; omega))), trivial⟩, ?_, ?_, ?_, Nat.le_refl _, rfl, rfl⟩
            · try simp only [go_sem, hr, q0, q11, q12, p0, p11, p12, n0, n11, n12, e0]
              all_goals (first | done | (simp [Sp.d]; done) | (simp [Sp.d]; omega))
            · try simp only [go_sem, hr, q0, q11, q12, p0, p11, p12, n0, n11, n12, e0]
              all_goals (first | done | (simp [Sp.d]; done) | (simp [Sp.d]; omega))
            · try simp only [go_sem, hr, q0, q11, q12, p0, p11, p12, n0, n11, n12, e0]
              all_goals (first | done | (simp [Sp.d]; done) | (simp [Sp.d]; omega))
      rintro ⟨i2, nx⟩ ⟨hi2, hr, -⟩
      show DW _ _ _ _ { n := _, t := tab _, h := _, nx := _, e := _ }
      simp only [List.cons_append, List.nil_append]
      have n0 : 0 < nx := by omega
      have n11 : 11 < nx := by omega
      have n12 : 12 < nx := by omega
      refine dw_join (α := (Nat) × Nat) [0, 4, 5, 6, 8] (fun ⟨j2, nx⟩ => (j2 = nxt (flatL b) s.j t2) ∧ (r < nx) ∧ True) (fun ⟨j2, nx⟩ => [(7, .i j2)]) (fun ⟨j2, nx⟩ => [(0, ⟨49, [[.fn (.func 35) [] []]]⟩), (11, ⟨22, [[.mrow r 0 s.out.length]]⟩), (12, ⟨3, [[.i s.fr]]⟩), (r, ⟨34, s.out.map Sp.d⟩)]) (fun ⟨j2, nx⟩ => nx) (by simp only [List.map_cons, List.map_nil, go_sem, hr, q0, q11, q12, p0, p11, p12, n0, n11, n12]; exact rfl) ?_ ?_
      · skip
        by_cases hy : s.j < (flatL b).length
        · skip
          have e0 : decide ((s.j : Int) < ((flatL b).length : Int)) = true := by simpa using hy
          refine dw_step (C := Cn) (by simp only [go_sem, hr, q0, q11, q12, p0, p11, p12, n0, n11, n12, e0, getD_i hy]; exact rfl) (fun h => by cases h) ?_ ?_
          · try simp only [go_sem, hr, q0, q11, q12, p0, p11, p12, n0, n11, n12, e0, getD_i hy]
            all_goals (first | done | (repeat' (with_reducible apply And.intro)) <;> first | omega | (with_reducible assumption) | (intros; omega) | (intros; simp only [decide_eq_true_eq, decide_eq_false_iff_not, Bool.or_eq_true, Bool.and_eq_true, Bool.or_eq_false_iff, Bool.not_eq_true', Bool.not_eq_false'] at *; omega) | (simp_all; done) | (simp_all; omega))
          refine dw_cond (by simp only [go_sem, hr, q0, q11, q12, p0, p11, p12, n0, n11, n12, e0, getD_i hy]; exact rfl) (fun c10 => ?_) (fun c10 => ?_)
          · skip
            refine dw_reg (C := Cn) (by simp only [go_sem, hr, q0, q11, q12, p0, p11, p12, n0, n11, n12, e0, getD_i hy]; exact rfl) (fun h => by cases h) ?_ ?_
            · try simp only [go_sem, hr, q0, q11, q12, p0, p11, p12, n0, n11, n12, e0, getD_i hy]
              all_goals (first | done | (repeat' (with_reducible apply And.intro)) <;> first | omega | (with_reducible assumption) | (intros; omega) | (intros; simp only [decide_eq_true_eq, decide_eq_false_iff_not, Bool.or_eq_true, Bool.and_eq_true, Bool.or_eq_false_iff, Bool.not_eq_true', Bool.not_eq_false'] at *; omega) | (simp_all; done) | (simp_all; omega))
            show ∃ _, _
            refine ⟨(s.j + 1, _), ⟨(by first | (rw [nxt, decide_eq_true hy, c10]; rfl) | (dsimp only; rw [nxt, decide_eq_true hy, c10]; rfl)), (by first | (first | omega | (with_reducible assumption) | (simp_all; done) | (simp_all; omega)) | (dsimp only; first | omega | (with_reducible assumption) | (simp_all; done) | (simp_all; omega))), trivial⟩, ?_, ?_, ?_, Nat.le_refl _, rfl, rfl⟩
            · try simp only [go_sem, hr, q0, q11, q12, p0, p11, p12, n0, n11, n12, e0, getD_i hy]
              all_goals (first | done | (simp [Sp.d]; done) | (simp [Sp.d]; omega))
            · try simp only [go_sem, hr, q0, q11, q12, p0, p11, p12, n0, n11, n12, e0, getD_i hy]
              all_goals (first | done | (simp [Sp.d]; done) | (simp [Sp.d]; omega))
            · try simp only [go_sem, hr, q0, q11, q12, p0, p11, p12, n0, n11, n12, e0, getD_i hy]
              all_goals (first | done | (simp [Sp.d]; done) | (simp [Sp.d]; omega))
          · skip
            refine dw_skip ?_
            show ∃ _, _
            refine ⟨(s.j, _), ⟨(by first | (first | (rw [nxt, decide_eq_true hy, c10]; rfl) | (rw [nxt, decide_eq_false hy]; rfl)) | (dsimp only; first | (rw [nxt, decide_eq_true hy, c10]; rfl) | (rw [nxt, decide_eq_false hy]; rfl))), (by first | (first | omega | (with_reducible assumption) | (simp_all; done) | (simp_all; omega)) | (dsimp only; first | omega | (with_reducible assumption) | (simp_all; done) | (simp_all; omega))), trivial⟩, ?_, ?_, ?_, Nat.le_refl _, rfl, rfl⟩
            · try simp only [go_sem, hr, q0, q11, q12, p0, p11, p12, n0, n11, n12, e0, getD_i hy]
              all_goals (first | done | (simp [Sp.d]; done) | (simp [Sp.d]; omega))
            · try simp only [go_sem, hr, q0, q11, q12, p0, p11, p12, n0, n11, n12, e0, getD_i hy]
              all_goals (first | done | (simp [Sp.d]; done) | (simp [Sp.d]; omega))
            · try simp only [go_sem, hr, q0, q11, q12, p0, p11, p12, n0, n11, n12, e0, getD_i hy]
              all_goals (first | done | (simp [Sp.d]; done) | (simp [Sp.d]; omega))
        · skip
          have e0 : decide ((s.j : Int) < ((flatL b).length : Int)) = false := by simpa using hy
          refine dw_step (C := Cn) (by simp only [go_sem, hr, q0, q11, q12, p0, p11, p12, n0, n11, n12, e0]; exact rfl) (fun h => by cases h) ?_ ?_
          · try simp only [go_sem, hr, q0, q11, q12, p0, p11, p12, n0, n11, n12, e0]
            all_goals (first | done | (repeat' (with_reducible apply And.intro)) <;> first | omega | (with_reducible assumption) | (intros; omega) | (intros; simp only [decide_eq_true_eq, decide_eq_false_iff_not, Bool.or_eq_true, Bool.and_eq_true, Bool.or_eq_false_iff, Bool.not_eq_true', Bool.not_eq_false'] at *; omega) | (simp_all; done) | (simp_all; omega))
          refine dw_cond (by simp only [go_sem, hr, q0, q11, q12, p0, p11, p12, n0, n11, n12, e0]; exact rfl) (fun c10 => ?_) (fun c10 => ?_)
          · skip
            simp at c10
          · skip
            refine dw_skip ?_
            show ∃ _, _
            refine ⟨(s.j, _), ⟨(by first | (first | (rw [nxt, decide_eq_true hy, c10]; rfl) | (rw [nxt, decide_eq_false hy]; rfl)) | (dsimp only; first | (rw [nxt, decide_eq_true hy, c10]; rfl) | (rw [nxt, decide_eq_false hy]; rfl))), (by first | (first | omega | (with_reducible assumption) | (simp_all; done) | (simp_all; omega)) | (dsimp only; first | omega | (with_reducible assumption) | (simp_all; done) | (simp_all; omega))), trivial⟩, ?_, ?_, ?_, Nat.le_refl _, rfl, rfl⟩
            · try simp only [go_sem, hr, q0, q11, q12, p0, p11, p12, n0, n11, n12, e0]
              all_goals (first | done | (simp [Sp.d]; done) | (simp [Sp.d]; omega))
            · try simp only [go_sem, hr, q0, q11, q12, p0, p11, p12, n0, n11, n12, e0]
              all_goals (first | done | (simp [Sp.d]; done) | (simp [Sp.d]; omega))
            · try simp only [go_sem, hr, q0, q11, q12, p0, p11, p12, n0, n11, n12, e0]
              all_goals (first | done | (simp [Sp.d]; done) | (simp [Sp.d]; omega))
      rintro ⟨j2, nx⟩ ⟨hj2, hr, -⟩
      show DW _ _ _ _ { n := _, t := tab _, h := _, nx := _, e := _ }
      simp only [List.cons_append, List.nil_append]
      have n0 : 0 < nx := by omega
      have n11 : 11 < nx := by omega
      have n12 : 12 < nx := by omega
      refine dw_seq ?_
      refine dw_yield (C := Cn) (r := rL) 9 (arr_at rfl) rfl rfl rfl (by simp only [List.take_succ_cons, List.take_zero, go_sem, hr, q0, q11, q12, p0, p11, p12, n0, n11, n12, odd_cast]; exact rfl) ?_ (by simp only [go_sem, hr, q0, q11, q12, p0, p11, p12, n0, n11, n12, odd_cast]; exact rfl) (by first | (simp only [go_sem, hr, q0, q11, q12, p0, p11, p12, n0, n11, n12, odd_cast]; done) | (simp only [go_sem, hr, q0, q11, q12, p0, p11, p12, n0, n11, n12, odd_cast]; exact rfl)) (by simp only [go_sem, hr, q0, q11, q12, p0, p11, p12, n0, n11, n12, odd_cast]) (by simp only [go_sem, hr, q0, q11, q12, p0, p11, p12, n0, n11, n12, odd_cast]; exact rfl) (by rw [hp]; rfl) (by rw [hp, hn]; show ∀ p ∈ [24, 25], p < 54; decide) ?_
      · try simp only [go_sem, hr, q0, q11, q12, p0, p11, p12, n0, n11, n12, odd_cast]
        all_goals (first | done | (repeat' (with_reducible apply And.intro)) <;> first | omega | (with_reducible assumption) | (intros; omega) | (intros; simp only [decide_eq_true_eq, decide_eq_false_iff_not, Bool.or_eq_true, Bool.and_eq_true, Bool.or_eq_false_iff, Bool.not_eq_true', Bool.not_eq_false'] at *; omega) | (simp_all; done) | (simp_all; omega))
      rw [ha, hb, hp, hn]
      show DW _ _ _ _ { n := _, t := setPs _ [24, 25] _, h := _, nx := _ }
      simp only [setPs_cons, setPs_nil]
      refine dw_step (C := Cn) (by simp only [go_sem, hr, q0, q11, q12, p0, p11, p12, n0, n11, n12]; exact rfl) (fun h => by cases h) ?_ ?_
      · try simp only [go_sem, hr, q0, q11, q12, p0, p11, p12, n0, n11, n12]
        all_goals (first | done | (repeat' (with_reducible apply And.intro)) <;> first | omega | (with_reducible assumption) | (intros; omega) | (intros; simp only [decide_eq_true_eq, decide_eq_false_iff_not, Bool.or_eq_true, Bool.and_eq_true, Bool.or_eq_false_iff, Bool.not_eq_true', Bool.not_eq_false'] at *; omega) | (simp_all; done) | (simp_all; omega))
      refine dw_reg (C := Cn) (by simp only [go_sem, hr, q0, q11, q12, p0, p11, p12, n0, n11, n12]; exact rfl) (fun h => by cases h) ?_ ?_
      · try simp only [go_sem, hr, q0, q11, q12, p0, p11, p12, n0, n11, n12]
        all_goals (first | done | (repeat' (with_reducible apply And.intro)) <;> first | omega | (with_reducible assumption) | (intros; omega) | (intros; simp only [decide_eq_true_eq, decide_eq_false_iff_not, Bool.or_eq_true, Bool.and_eq_true, Bool.or_eq_false_iff, Bool.not_eq_true', Bool.not_eq_false'] at *; omega) | (simp_all; done) | (simp_all; omega))
      refine ⟨rfl, ?_⟩
      refine dw_block ?_
      refine dw_step (C := Cn) (by simp only [go_sem, hr, q0, q11, q12, p0, p11, p12, n0, n11, n12]; exact rfl) (fun h => by cases h) ?_ ?_
      · try simp only [go_sem, hr, q0, q11, q12, p0, p11, p12, n0, n11, n12]
        all_goals (first | done | ((repeat' (with_reducible apply And.intro)) <;> first | omega | exact union1_ct _ _))
      refine dw_join (α := (Int) × Nat) [8, 9, 10, 12] (fun ⟨fr1, nx⟩ => (fr1 = if cnt 35 (odd i2) (odd j2) && decide (s.fr < 0) then t2 else s.fr) ∧ (r < nx) ∧ True) (fun ⟨fr1, nx⟩ => []) (fun ⟨fr1, nx⟩ => [(0, ⟨49, [[.fn (.func 35) [] []]]⟩), (11, ⟨22, [[.mrow r 0 s.out.length]]⟩), (12, ⟨3, [[.i fr1]]⟩), (r, ⟨34, s.out.map Sp.d⟩)]) (fun ⟨fr1, nx⟩ => nx) (by simp only [List.map_cons, List.map_nil, go_sem, hr, q0, q11, q12, p0, p11, p12, n0, n11, n12]; exact rfl) ?_ ?_
      · skip
        refine dw_step (C := Cn) (by simp only [go_sem, hr, q0, q11, q12, p0, p11, p12, n0, n11, n12]; exact rfl) (fun h => by cases h) ?_ ?_
        · try simp only [go_sem, hr, q0, q11, q12, p0, p11, p12, n0, n11, n12]
          all_goals (first | done | (repeat' (with_reducible apply And.intro)) <;> first | omega | (with_reducible assumption) | (intros; omega) | (intros; simp only [decide_eq_true_eq, decide_eq_false_iff_not, Bool.or_eq_true, Bool.and_eq_true, Bool.or_eq_false_iff, Bool.not_eq_true', Bool.not_eq_false'] at *; omega) | (simp_all; done) | (simp_all; omega))
        refine dw_cond (by simp only [go_sem, hr, q0, q11, q12, p0, p11, p12, n0, n11, n12]; exact rfl) (fun c9 => ?_) (fun c9 => ?_)
        · skip
          refine dw_reg (C := Cn) (by simp only [go_sem, hr, q0, q11, q12, p0, p11, p12, n0, n11, n12]; exact rfl) (fun h => by cases h) ?_ ?_
          · try simp only [go_sem, hr, q0, q11, q12, p0, p11, p12, n0, n11, n12]
            all_goals (first | done | (repeat' (with_reducible apply And.intro)) <;> first | omega | (with_reducible assumption) | (intros; omega) | (intros; simp only [decide_eq_true_eq, decide_eq_false_iff_not, Bool.or_eq_true, Bool.and_eq_true, Bool.or_eq_false_iff, Bool.not_eq_true', Bool.not_eq_false'] at *; omega) | (simp_all; done) | (simp_all; omega))
          show ∃ _, _
          refine ⟨(t2, _), ⟨(by first | (rw [if_pos c9]) | (dsimp only; rw [if_pos c9])), (by first | (first | omega | (with_reducible assumption) | (simp_all; done) | (simp_all; omega)) | (dsimp only; first | omega | (with_reducible assumption) | (simp_all; done) | (simp_all; omega))), trivial⟩, ?_, ?_, ?_, Nat.le_refl _, rfl, rfl⟩
          · try simp only [go_sem, hr, q0, q11, q12, p0, p11, p12, n0, n11, n12]
            all_goals (first | done | (simp [Sp.d]; done) | (simp [Sp.d]; omega))
          · try simp only [go_sem, hr, q0, q11, q12, p0, p11, p12, n0, n11, n12]
            all_goals (first | done | (simp [Sp.d]; done) | (simp [Sp.d]; omega))
          · try simp only [go_sem, hr, q0, q11, q12, p0, p11, p12, n0, n11, n12]
            all_goals (first | done | (simp [Sp.d]; done) | (simp [Sp.d]; omega))
        · skip
          refine dw_skip ?_
          show ∃ _, _
          refine ⟨(s.fr, _), ⟨(by first | (rw [if_neg (by rw [c9]; simp)]) | (dsimp only; rw [if_neg (by rw [c9]; simp)])), (by first | (first | omega | (with_reducible assumption) | (simp_all; done) | (simp_all; omega)) | (dsimp only; first | omega | (with_reducible assumption) | (simp_all; done) | (simp_all; omega))), trivial⟩, ?_, ?_, ?_, Nat.le_refl _, rfl, rfl⟩
          · try simp only [go_sem, hr, q0, q11, q12, p0, p11, p12, n0, n11, n12]
            all_goals (first | done | (simp [Sp.d]; done) | (simp [Sp.d]; omega))
          · try simp only [go_sem, hr, q0, q11, q12, p0, p11, p12, n0, n11, n12]
            all_goals (first | done | (simp [Sp.d]; done) | (simp [Sp.d]; omega))
          · try simp only [go_sem, hr, q0, q11, q12, p0, p11, p12, n0, n11, n12]
            all_goals (first | done | (simp [Sp.d]; done) | (simp [Sp.d]; omega))
      rintro ⟨fr1, nx⟩ ⟨hf, hr, -⟩
      show DW _ _ _ _ { n := _, t := tab _, h := _, nx := _, e := _ }
      simp only [List.cons_append, List.nil_append]
      have n0 : 0 < nx := by omega
      have n11 : 11 < nx := by omega
      have n12 : 12 < nx := by omega
      refine dw_step (C := Cn) (by simp only [go_sem, hr, q0, q11, q12, p0, p11, p12, n0, n11, n12]; exact rfl) (fun h => by cases h) ?_ ?_
      · try simp only [go_sem, hr, q0, q11, q12, p0, p11, p12, n0, n11, n12]
        all_goals (first | done | (repeat' (with_reducible apply And.intro)) <;> first | omega | (with_reducible assumption) | (intros; omega) | (intros; simp only [decide_eq_true_eq, decide_eq_false_iff_not, Bool.or_eq_true, Bool.and_eq_true, Bool.or_eq_false_iff, Bool.not_eq_true', Bool.not_eq_false'] at *; omega) | (simp_all; done) | (simp_all; omega))
      refine dw_cond (by simp only [go_sem, hr, q0, q11, q12, p0, p11, p12, n0, n11, n12]; exact rfl) (fun c11 => ?_) (fun c11 => ?_)
      · skip
        refine dw_step (C := Cn) (by simp only [go_sem, hr, q0, q11, q12, p0, p11, p12, n0, n11, n12]; exact rfl) (fun h => by cases h) ?_ ?_
        · try simp only [go_sem, hr, q0, q11, q12, p0, p11, p12, n0, n11, n12]
          all_goals (first | done | (repeat' (with_reducible apply And.intro)) <;> first | omega | (with_reducible assumption) | (intros; omega) | (intros; simp only [decide_eq_true_eq, decide_eq_false_iff_not, Bool.or_eq_true, Bool.and_eq_true, Bool.or_eq_false_iff, Bool.not_eq_true', Bool.not_eq_false'] at *; omega) | (simp_all; done) | (simp_all; omega))
        refine dw_reg (C := Cn) (by simp only [go_sem, hr, q0, q11, q12, p0, p11, p12, n0, n11, n12]; exact rfl) (fun h => by cases h) ?_ ?_
        · try simp only [go_sem, hr, q0, q11, q12, p0, p11, p12, n0, n11, n12]
          all_goals (first | done | (repeat' (with_reducible apply And.intro)) <;> first | omega | (with_reducible assumption) | (intros; omega) | (intros; simp only [decide_eq_true_eq, decide_eq_false_iff_not, Bool.or_eq_true, Bool.and_eq_true, Bool.or_eq_false_iff, Bool.not_eq_true', Bool.not_eq_false'] at *; omega) | (simp_all; done) | (simp_all; omega))
        refine ⟨rfl, true, none, ⟨rfl, rfl⟩, ⟨_, _, _, _, _, _⟩, by simp only [List.drop_succ_cons, List.drop_zero, S.put, go_sem, hr, q0, q11, q12, p0, p11, p12, n0, n11, n12, odd_cast]; exact rfl, ?_, ?_⟩
        · try simp only [go_sem, hr, q0, q11, q12, p0, p11, p12, n0, n11, n12, odd_cast]
          all_goals (first | done | (repeat' (with_reducible apply And.intro)) <;> first | omega | (with_reducible assumption) | (intros; omega) | (intros; simp only [decide_eq_true_eq, decide_eq_false_iff_not, Bool.or_eq_true, Bool.and_eq_true, Bool.or_eq_false_iff, Bool.not_eq_true', Bool.not_eq_false'] at *; omega) | (simp_all; done) | (simp_all; omega))
        try simp only [clear_eq]
        show DW _ _ _ _ _
        refine dw_cond (by simp only [go_sem, hr, q0, q11, q12, p0, p11, p12, n0, n11, n12, odd_cast]; exact rfl) (fun c28 => ?_) (fun c28 => ?_)
        · skip
          simp at *
        · skip
          try simp only [decide_eq_true_eq, decide_eq_false_iff_not, Bool.or_eq_true, Bool.and_eq_true, Bool.or_eq_false_iff, Bool.not_eq_true', Bool.not_eq_false'] at c28
          refine dw_skip ?_
          show ∃ _, _
          have hst := inv_step hva hvb hI hlt
          rw [stepSw_close ht2 hi2 hj2 hf c11] at hst
          refine ⟨(⟨i2, j2, -1, s.out ++ [⟨fr1, t2⟩]⟩, (nx + 11), _), ⟨(by first | (exact hst.1) | (dsimp only; exact hst.1)), (by first | (first | omega | (with_reducible assumption) | (simp_all; done) | (simp_all; omega)) | (dsimp only; first | omega | (with_reducible assumption) | (simp_all; done) | (simp_all; omega))), (by first | (first | omega | (with_reducible assumption) | (simp_all; done) | (simp_all; omega)) | (dsimp only; first | omega | (with_reducible assumption) | (simp_all; done) | (simp_all; omega))), trivial⟩, (by show (_ : Nat) < _; exact hst.2), ?_, ?_, ?_, Nat.le_refl _, rfl, rfl⟩
          · try simp only [go_sem, hr, q0, q11, q12, p0, p11, p12, n0, n11, n12]
            all_goals (first | done | (simp [Sp.d]; done) | (simp [Sp.d]; omega))
          · try simp only [go_sem, hr, q0, q11, q12, p0, p11, p12, n0, n11, n12]
            all_goals (first | done | (simp [Sp.d]; done) | (simp [Sp.d]; omega))
          · try simp only [go_sem, hr, q0, q11, q12, p0, p11, p12, n0, n11, n12]
            all_goals (first | done | (simp [Sp.d]; done) | (simp [Sp.d]; omega))
      · skip
        refine dw_skip ?_
        refine ⟨rfl, true, none, ⟨rfl, rfl⟩, ⟨_, _, _, _, _, _⟩, by simp only [List.drop_succ_cons, List.drop_zero, S.put, go_sem, hr, q0, q11, q12, p0, p11, p12, n0, n11, n12, odd_cast]; exact rfl, ?_, ?_⟩
        · try simp only [go_sem, hr, q0, q11, q12, p0, p11, p12, n0, n11, n12, odd_cast]
          all_goals (first | done | (repeat' (with_reducible apply And.intro)) <;> first | omega | (with_reducible assumption) | (intros; omega) | (intros; simp only [decide_eq_true_eq, decide_eq_false_iff_not, Bool.or_eq_true, Bool.and_eq_true, Bool.or_eq_false_iff, Bool.not_eq_true', Bool.not_eq_false'] at *; omega) | (simp_all; done) | (simp_all; omega))
        try simp only [clear_eq]
        show DW _ _ _ _ _
        refine dw_cond (by simp only [go_sem, hr, q0, q11, q12, p0, p11, p12, n0, n11, n12, odd_cast]; exact rfl) (fun c29 => ?_) (fun c29 => ?_)
        · skip
          simp at *
        · skip
          try simp only [decide_eq_true_eq, decide_eq_false_iff_not, Bool.or_eq_true, Bool.and_eq_true, Bool.or_eq_false_iff, Bool.not_eq_true', Bool.not_eq_false'] at c29
          refine dw_skip ?_
          show ∃ _, _
          have hst := inv_step hva hvb hI hlt
          rw [stepSw_keep ht2 hi2 hj2 hf c11] at hst
          refine ⟨(⟨i2, j2, fr1, s.out⟩, r, _), ⟨(by first | (exact hst.1) | (dsimp only; exact hst.1)), (by first | (first | omega | (with_reducible assumption) | (simp_all; done) | (simp_all; omega)) | (dsimp only; first | omega | (with_reducible assumption) | (simp_all; done) | (simp_all; omega))), (by first | (first | omega | (with_reducible assumption) | (simp_all; done) | (simp_all; omega)) | (dsimp only; first | omega | (with_reducible assumption) | (simp_all; done) | (simp_all; omega))), trivial⟩, (by show (_ : Nat) < _; exact hst.2), ?_, ?_, ?_, Nat.le_refl _, rfl, rfl⟩
          · try simp only [go_sem, hr, q0, q11, q12, p0, p11, p12, n0, n11, n12]
            all_goals (first | done | (simp [Sp.d]; done) | (simp [Sp.d]; omega))
          · try simp only [go_sem, hr, q0, q11, q12, p0, p11, p12, n0, n11, n12]
            all_goals (first | done | (simp [Sp.d]; done) | (simp [Sp.d]; omega))
          · try simp only [go_sem, hr, q0, q11, q12, p0, p11, p12, n0, n11, n12]
            all_goals (first | done | (simp [Sp.d]; done) | (simp [Sp.d]; omega))
    · skip
      have hend : ¬ (s.i < (flatL a).length ∨ s.j < (flatL b).length) := by simpa using c2
      refine dw_exit ?_
      refine ⟨.inl rfl, none, rfl, ?_⟩
      show DW _ _ _ _ _
      refine dw_seq ?_
      refine dw_step (C := Cn) (by simp only [go_sem, hr, q0, q11, q12, p0, p11, p12, n0, n11, n12]; exact rfl) (fun h => by cases h) ?_ ?_
      · try simp only [go_sem, hr, q0, q11, q12, p0, p11, p12, n0, n11, n12]
        all_goals (first | done | (repeat' (with_reducible apply And.intro)) <;> first | omega | (with_reducible assumption) | (intros; omega) | (intros; simp only [decide_eq_true_eq, decide_eq_false_iff_not, Bool.or_eq_true, Bool.and_eq_true, Bool.or_eq_false_iff, Bool.not_eq_true', Bool.not_eq_false'] at *; omega) | (simp_all; done) | (simp_all; omega))
      refine dw_cond (by simp only [go_sem, hr, q0, q11, q12, p0, p11, p12, n0, n11, n12]; exact rfl) (fun c14 => ?_) (fun c14 => ?_)
      · skip
        try simp only [decide_eq_true_eq, decide_eq_false_iff_not, Bool.or_eq_true, Bool.and_eq_true, Bool.or_eq_false_iff, Bool.not_eq_true', Bool.not_eq_false'] at c14
        refine dw_step (C := Cn) (by simp only [go_sem, hr, q0, q11, q12, p0, p11, p12, n0, n11, n12]; exact rfl) (fun h => by cases h) ?_ ?_
        · try simp only [go_sem, hr, q0, q11, q12, p0, p11, p12, n0, n11, n12]
          all_goals (first | done | (repeat' (with_reducible apply And.intro)) <;> first | omega | (with_reducible assumption) | (intros; omega) | (intros; simp only [decide_eq_true_eq, decide_eq_false_iff_not, Bool.or_eq_true, Bool.and_eq_true, Bool.or_eq_false_iff, Bool.not_eq_true', Bool.not_eq_false'] at *; omega) | (simp_all; done) | (simp_all; omega))
        refine dw_ret ?_
        refine ⟨.inr rfl, ?_, ?_⟩
        · simp only [go_sem, hr, q0, q11, q12, p0, p11, p12, n0, n11, n12]
        refine ⟨2, ?_, ?_⟩
        · try simp only [go_sem, hr, q0, q11, q12, p0, p11, p12, n0, n11, n12]
          all_goals (simp)
        · try simp only [go_sem, hr, q0, q11, q12, p0, p11, p12, n0, n11, n12]
          all_goals (rw [sweep_out (by decide) hv1.1 hv1.2 hI hend, rlimited, if_pos c14]; rfl)
      · skip
        try simp only [decide_eq_true_eq, decide_eq_false_iff_not, Bool.or_eq_true, Bool.and_eq_true, Bool.or_eq_false_iff, Bool.not_eq_true', Bool.not_eq_false'] at c14
        refine dw_skip ?_
        show DW _ _ _ _ _
        refine dw_step (C := Cn) (by simp only [go_sem, hr, q0, q11, q12, p0, p11, p12, n0, n11, n12]; exact rfl) (fun h => by cases h) ?_ ?_
        · try simp only [go_sem, hr, q0, q11, q12, p0, p11, p12, n0, n11, n12]
          all_goals (first | done | (repeat' (with_reducible apply And.intro)) <;> first | omega | (with_reducible assumption) | (intros; omega) | (intros; simp only [decide_eq_true_eq, decide_eq_false_iff_not, Bool.or_eq_true, Bool.and_eq_true, Bool.or_eq_false_iff, Bool.not_eq_true', Bool.not_eq_false'] at *; omega) | (simp_all; done) | (simp_all; omega))
        refine dw_ret ?_
        refine ⟨.inr rfl, ?_, ?_⟩
        · simp only [go_sem, hr, q0, q11, q12, p0, p11, p12, n0, n11, n12]
        refine ⟨2, ?_, ?_⟩
        · try simp only [go_sem, hr, q0, q11, q12, p0, p11, p12, n0, n11, n12]
          all_goals (simp)
        · try simp only [go_sem, hr, q0, q11, q12, p0, p11, p12, n0, n11, n12]
          all_goals (rw [sweep_out (by decide) hv1.1 hv1.2 hI hend, rlimited, if_neg c14])
theorem sweep38_ct (a b : List Sp) : PureCt Try.prog 34 [.list false (a.map Sp.d), .list false (b.map Sp.d), .fn (.func 38) [] []] (.tuple [.list false ((swept 38 a b).1.map Sp.d), .i (swept 38 a b).2]) := by
  refine pure_of_dw Try.func34 rfl bo34 (by simp [go_sem, D.nr, nrs]) (by simp [Try.f34]) ?_
  unfold Try.f34
  simp only [init_eq]
  refine dw_step (C := Cn) (by simp only [go_sem]; exact rfl) (fun h => by cases h) ?_ ?_
  · try simp only [go_sem]
    all_goals (first | done | (repeat' (with_reducible apply And.intro)) <;> first | omega | (with_reducible assumption) | (intros; omega) | (intros; simp only [decide_eq_true_eq, decide_eq_false_iff_not, Bool.or_eq_true, Bool.and_eq_true, Bool.or_eq_false_iff, Bool.not_eq_true', Bool.not_eq_false'] at *; omega) | (simp_all; done) | (simp_all; omega))
  refine dw_seq ?_
  refine dw_step (C := Cn) (by simp only [go_sem]; exact rfl) (fun h => by cases h) ?_ ?_
  · try simp only [go_sem]
    all_goals (first | done | (intros; exact valid_ct _) | ((repeat' (with_reducible apply And.intro)) <;> first | omega | exact valid_ct _ | (intros; exact valid_ct _)))
  refine dw_cond (by simp only [go_sem]; exact rfl) (fun c1 => ?_) (fun c1 => ?_)
  · skip
    have hv1 : (rvalid a && rvalid b) = false := by rw [← valid_eq a, ← valid_eq b]; revert c1; cases valid a <;> cases valid b <;> simp
    refine dw_step (C := Cn) (by simp only [go_sem]; exact rfl) (fun h => by cases h) ?_ ?_
    · try simp only [go_sem]
      all_goals (first | done | (repeat' (with_reducible apply And.intro)) <;> first | omega | (with_reducible assumption) | (intros; omega) | (intros; simp only [decide_eq_true_eq, decide_eq_false_iff_not, Bool.or_eq_true, Bool.and_eq_true, Bool.or_eq_false_iff, Bool.not_eq_true', Bool.not_eq_false'] at *; omega) | (simp_all; done) | (simp_all; omega))
    refine dw_ret ?_
    refine ⟨.inr rfl, ?_, ?_⟩
    · simp only [go_sem]
    refine ⟨2, ?_, ?_⟩
    · try simp only [go_sem]
      all_goals (simp)
    · try simp only [go_sem]
      all_goals (rw [swept_bad hv1]; rfl)
  · skip
    have hv0 : valid a = true ∧ valid b = true := by simpa using c1
    have hv1 : rvalid a = true ∧ rvalid b = true := by rw [← valid_eq a, ← valid_eq b]; exact hv0
    have hl1 := rvalid_len hv1.1
    have hl2 := rvalid_len hv1.2
    have hva := vd_of hv1.1
    have hvb := vd_of hv1.2
    refine dw_skip ?_
    show DW _ _ _ _ _
    refine dw_step (C := Cn) (by simp only [go_sem]; exact rfl) (fun h => by cases h) ?_ ?_
    · try simp only [go_sem]
      all_goals (first | done | (repeat' (with_reducible apply And.intro)) <;> first | omega | (with_reducible assumption) | (intros; omega) | (intros; simp only [decide_eq_true_eq, decide_eq_false_iff_not, Bool.or_eq_true, Bool.and_eq_true, Bool.or_eq_false_iff, Bool.not_eq_true', Bool.not_eq_false'] at *; omega) | (simp_all; done) | (simp_all; omega))
    refine dw_step (C := Cn) (by simp only [go_sem]; exact rfl) (fun h => by cases h) ?_ ?_
    · try simp only [go_sem]
      all_goals (first | done | (repeat' (with_reducible apply And.intro)) <;> first | omega | (with_reducible assumption) | (intros; omega) | (intros; simp only [decide_eq_true_eq, decide_eq_false_iff_not, Bool.or_eq_true, Bool.and_eq_true, Bool.or_eq_false_iff, Bool.not_eq_true', Bool.not_eq_false'] at *; omega) | (simp_all; done) | (simp_all; omega))
    refine dw_seq ?_
    refine dw_step (C := Cn) (by simp only [go_sem]; exact rfl) (fun h => by cases h) ?_ ?_
    · try simp only [go_sem]
      all_goals (first | done | exact ends_ct _ _)
    refine dw_block ?_
    refine dw_rangeFunc (by simp only [go_sem]) (by simp only [go_sem]; exact rfl) Try.func60 rfl bo60 (by simp [Try.f60]) rfl (fun l rL hp ha hb hn => ?_)
    unfold Try.f60
    refine dw_step (C := Cn) (by simp only [go_sem]; exact rfl) (fun _ => ⟨mix, by kernel_rfl, by kernel_rfl⟩) ?_ ?_
    · try simp only [go_sem]
      all_goals (first | done | ((repeat' (with_reducible apply And.intro)) <;> first | omega | (refine flat_ct _ ?_; omega)))
    refine dw_step (C := Cn) (by simp only [go_sem]; exact rfl) (fun h => by cases h) ?_ ?_
    · try simp only [go_sem]
      all_goals (first | done | (repeat' (with_reducible apply And.intro)) <;> first | omega | (with_reducible assumption) | (intros; omega) | (intros; simp only [decide_eq_true_eq, decide_eq_false_iff_not, Bool.or_eq_true, Bool.and_eq_true, Bool.or_eq_false_iff, Bool.not_eq_true', Bool.not_eq_false'] at *; omega) | (simp_all; done) | (simp_all; omega))
    refine dw_block ?_
    refine dw_ownc 11 22 34 (by simp only [go_sem]) (by simp only [go_sem]) ?_
    refine dw_loop_fix (α := (Sw) × (Nat) × Nat) [0, 4, 5] (fun ⟨s, r, nx⟩ => (Inv 38 a b s) ∧ (r < nx) ∧ (12 < r) ∧ True) (fun ⟨s, r, nx⟩ => (flatL a).length - s.i + ((flatL b).length - s.j)) (fun ⟨s, r, nx⟩ => [(6, .i s.i), (7, .i s.j)]) (fun ⟨s, r, nx⟩ => [(0, ⟨49, [[.fn (.func 38) [] []]]⟩), (11, ⟨22, [[.mrow r 0 s.out.length]]⟩), (12, ⟨3, [[.i s.fr]]⟩), (r, ⟨34, s.out.map Sp.d⟩)]) (fun ⟨s, r, nx⟩ => nx) (⟨0, 0, -1, []⟩, 25, _) (by simp only [List.map_cons, List.map_nil, go_sem]; exact rfl) ⟨(by first | (exact inv_init (by decide) hva hvb) | (dsimp only; exact inv_init (by decide) hva hvb)), (by first | (first | omega | (with_reducible assumption) | (simp_all; done) | (simp_all; omega)) | (dsimp only; first | omega | (with_reducible assumption) | (simp_all; done) | (simp_all; omega))), (by first | (first | omega | (with_reducible assumption) | (simp_all; done) | (simp_all; omega)) | (dsimp only; first | omega | (with_reducible assumption) | (simp_all; done) | (simp_all; omega))), trivial⟩ (by first | (simp only [go_sem]; done) | (simp [go_sem]; done) | (simp only [go_sem]; (repeat' (with_reducible apply And.intro)) <;> first | (left; simp; done) | (right; simp [go_sem]; done))) (by first | (simp only [go_sem]; done) | simp [go_sem]) (Nat.le_refl _) ?_
    rintro ⟨s, r, nx⟩ ⟨hI, hr, hr0, -⟩
    show DW _ _ _ _ { n := _, t := tab _, h := _, nx := _, e := _ }
    simp only [List.cons_append, List.nil_append]
    have q0 : r ≠ 0 := by omega
    have q11 : r ≠ 11 := by omega
    have q12 : r ≠ 12 := by omega
    have p0 : 0 ≠ r := by omega
    have p11 : 11 ≠ r := by omega
    have p12 : 12 ≠ r := by omega
    have n0 : 0 < nx := by omega
    have n11 : 11 < nx := by omega
    have n12 : 12 < nx := by omega
    have hIi := hI.i
    have hIj := hI.j
    have hIl := hI.len
    rw [flat_len] at hIi hIj
    have hfl := flat_len a
    have hfm := flat_len b
    refine dw_seq ?_
    refine dw_step (C := Cn) (by simp only [go_sem, hr, q0, q11, q12, p0, p11, p12, n0, n11, n12]; exact rfl) (fun h => by cases h) ?_ ?_
    · try simp only [go_sem, hr, q0, q11, q12, p0, p11, p12, n0, n11, n12]
      all_goals (first | done | (repeat' (with_reducible apply And.intro)) <;> first | omega | (with_reducible assumption) | (intros; omega) | (intros; simp only [decide_eq_true_eq, decide_eq_false_iff_not, Bool.or_eq_true, Bool.and_eq_true, Bool.or_eq_false_iff, Bool.not_eq_true', Bool.not_eq_false'] at *; omega) | (simp_all; done) | (simp_all; omega))
    refine dw_cond (by simp only [go_sem, hr, q0, q11, q12, p0, p11, p12, n0, n11, n12]; exact rfl) (fun c2 => ?_) (fun c2 => ?_)
    · skip
      have hlt : s.i < (flatL a).length ∨ s.j < (flatL b).length := by simpa using c2
      refine dw_skip ?_
      show DW _ _ _ _ _
      refine dw_block ?_
      refine dw_step (C := Cn) (by simp only [go_sem, hr, q0, q11, q12, p0, p11, p12, n0, n11, n12]; exact rfl) (fun h => by cases h) ?_ ?_
      · try simp only [go_sem, hr, q0, q11, q12, p0, p11, p12, n0, n11, n12]
        all_goals (first | done | (repeat' (with_reducible apply And.intro)) <;> first | omega | (with_reducible assumption) | (intros; omega) | (intros; simp only [decide_eq_true_eq, decide_eq_false_iff_not, Bool.or_eq_true, Bool.and_eq_true, Bool.or_eq_false_iff, Bool.not_eq_true', Bool.not_eq_false'] at *; omega) | (simp_all; done) | (simp_all; omega))
      refine dw_join (α := (Int) × Nat) [0, 4, 5, 6, 7] (fun ⟨t1, nx⟩ => (t1 = if s.i < (flatL a).length then min 20000000 (flatL a)[s.i]! else 20000000) ∧ (r < nx) ∧ True) (fun ⟨t1, nx⟩ => [(8, .i t1)]) (fun ⟨t1, nx⟩ => [(0, ⟨49, [[.fn (.func 38) [] []]]⟩), (11, ⟨22, [[.mrow r 0 s.out.length]]⟩), (12, ⟨3, [[.i s.fr]]⟩), (r, ⟨34, s.out.map Sp.d⟩)]) (fun ⟨t1, nx⟩ => nx) (by simp only [List.map_cons, List.map_nil, go_sem, hr, q0, q11, q12, p0, p11, p12, n0, n11, n12]; exact rfl) ?_ ?_
      · skip
        refine dw_step (C := Cn) (by simp only [go_sem, hr, q0, q11, q12, p0, p11, p12, n0, n11, n12]; exact rfl) (fun h => by cases h) ?_ ?_
        · try simp only [go_sem, hr, q0, q11, q12, p0, p11, p12, n0, n11, n12]
          all_goals (first | done | (repeat' (with_reducible apply And.intro)) <;> first | omega | (with_reducible assumption) | (intros; omega) | (intros; simp only [decide_eq_true_eq, decide_eq_false_iff_not, Bool.or_eq_true, Bool.and_eq_true, Bool.or_eq_false_iff, Bool.not_eq_true', Bool.not_eq_false'] at *; omega) | (simp_all; done) | (simp_all; omega))
        refine dw_cond (by simp only [go_sem, hr, q0, q11, q12, p0, p11, p12, n0, n11, n12]; exact rfl) (fun c4 => ?_) (fun c4 => ?_)
        · skip
          have hx : s.i < (flatL a).length := by simpa using c4
          refine dw_reg (C := Cn) (by simp only [go_sem, hr, q0, q11, q12, p0, p11, p12, n0, n11, n12, getD_i hx]; exact rfl) (fun h => by cases h) ?_ ?_
          · try simp only [go_sem, hr, q0, q11, q12, p0, p11, p12, n0, n11, n12, getD_i hx]
            all_goals (first | done | (repeat' (with_reducible apply And.intro)) <;> first | omega | (with_reducible assumption) | (intros; omega) | (intros; simp only [decide_eq_true_eq, decide_eq_false_iff_not, Bool.or_eq_true, Bool.and_eq_true, Bool.or_eq_false_iff, Bool.not_eq_true', Bool.not_eq_false'] at *; omega) | (simp_all; done) | (simp_all; omega))
          show ∃ _, _
          refine ⟨(min 20000000 (flatL a)[s.i]!, _), ⟨(by first | (rw [if_pos hx]) | (dsimp only; rw [if_pos hx])), (by first | (first | omega | (with_reducible assumption) | (simp_all; done) | (simp_all; omega)) | (dsimp only; first | omega | (with_reducible assumption) | (simp_all; done) | (simp_all; omega))), trivial⟩, ?_, ?_, ?_, Nat.le_refl _, rfl, rfl⟩
          · try simp only [go_sem, hr, q0, q11, q12, p0, p11, p12, n0, n11, n12, getD_i hx]
            all_goals (first | done | (simp [Sp.d]; done) | (simp [Sp.d]; omega))
          · try simp only [go_sem, hr, q0, q11, q12, p0, p11, p12, n0, n11, n12, getD_i hx]
            all_goals (first | done | (simp [Sp.d]; done) | (simp [Sp.d]; omega))
          · try simp only [go_sem, hr, q0, q11, q12, p0, p11, p12, n0, n11, n12, getD_i hx]
            all_goals (first | done | (simp [Sp.d]; done) | (simp [Sp.d]; omega))
        · skip
          have hx : ¬ s.i < (flatL a).length := by simpa using c4
          refine dw_skip ?_
          show ∃ _, _
          refine ⟨(20000000, _), ⟨(by first | (rw [if_neg hx]) | (dsimp only; rw [if_neg hx])), (by first | (first | omega | (with_reducible assumption) | (simp_all; done) | (simp_all; omega)) | (dsimp only; first | omega | (with_reducible assumption) | (simp_all; done) | (simp_all; omega))), trivial⟩, ?_, ?_, ?_, Nat.le_refl _, rfl, rfl⟩
          · try simp only [go_sem, hr, q0, q11, q12, p0, p11, p12, n0, n11, n12]
            all_goals (first | done | (simp [Sp.d]; done) | (simp [Sp.d]; omega))
          · try simp only [go_sem, hr, q0, q11, q12, p0, p11, p12, n0, n11, n12]
            all_goals (first | done | (simp [Sp.d]; done) | (simp [Sp.d]; omega))
          · try simp only [go_sem, hr, q0, q11, q12, p0, p11, p12, n0, n11, n12]
            all_goals (first | done | (simp [Sp.d]; done) | (simp [Sp.d]; omega))
      rintro ⟨t1, nx⟩ ⟨ht1, hr, -⟩
      show DW _ _ _ _ { n := _, t := tab _, h := _, nx := _, e := _ }
      simp only [List.cons_append, List.nil_append]
      have n0 : 0 < nx := by omega
      have n11 : 11 < nx := by omega
      have n12 : 12 < nx := by omega
      refine dw_join (α := (Int) × Nat) [0, 4, 5, 6, 7] (fun ⟨t2, nx⟩ => (t2 = evT (flatL a) (flatL b) s.i s.j) ∧ (r < nx) ∧ True) (fun ⟨t2, nx⟩ => [(8, .i t2)]) (fun ⟨t2, nx⟩ => [(0, ⟨49, [[.fn (.func 38) [] []]]⟩), (11, ⟨22, [[.mrow r 0 s.out.length]]⟩), (12, ⟨3, [[.i s.fr]]⟩), (r, ⟨34, s.out.map Sp.d⟩)]) (fun ⟨t2, nx⟩ => nx) (by simp only [List.map_cons, List.map_nil, go_sem, hr, q0, q11, q12, p0, p11, p12, n0, n11, n12]; exact rfl) ?_ ?_
      · skip
        refine dw_step (C := Cn) (by simp only [go_sem, hr, q0, q11, q12, p0, p11, p12, n0, n11, n12]; exact rfl) (fun h => by cases h) ?_ ?_
        · try simp only [go_sem, hr, q0, q11, q12, p0, p11, p12, n0, n11, n12]
          all_goals (first | done | (repeat' (with_reducible apply And.intro)) <;> first | omega | (with_reducible assumption) | (intros; omega) | (intros; simp only [decide_eq_true_eq, decide_eq_false_iff_not, Bool.or_eq_true, Bool.and_eq_true, Bool.or_eq_false_iff, Bool.not_eq_true', Bool.not_eq_false'] at *; omega) | (simp_all; done) | (simp_all; omega))
        refine dw_cond (by simp only [go_sem, hr, q0, q11, q12, p0, p11, p12, n0, n11, n12]; exact rfl) (fun c6 => ?_) (fun c6 => ?_)
        · skip
          have hy : s.j < (flatL b).length := by simpa using c6
          refine dw_reg (C := Cn) (by simp only [go_sem, hr, q0, q11, q12, p0, p11, p12, n0, n11, n12, getD_i hy]; exact rfl) (fun h => by cases h) ?_ ?_
          · try simp only [go_sem, hr, q0, q11, q12, p0, p11, p12, n0, n11, n12, getD_i hy]
            all_goals (first | done | (repeat' (with_reducible apply And.intro)) <;> first | omega | (with_reducible assumption) | (intros; omega) | (intros; simp only [decide_eq_true_eq, decide_eq_false_iff_not, Bool.or_eq_true, Bool.and_eq_true, Bool.or_eq_false_iff, Bool.not_eq_true', Bool.not_eq_false'] at *; omega) | (simp_all; done) | (simp_all; omega))
          show ∃ _, _
          refine ⟨(min t1 (flatL b)[s.j]!, _), ⟨(by first | (rw [evT, if_pos hy, ← ht1]) | (dsimp only; rw [evT, if_pos hy, ← ht1])), (by first | (first | omega | (with_reducible assumption) | (simp_all; done) | (simp_all; omega)) | (dsimp only; first | omega | (with_reducible assumption) | (simp_all; done) | (simp_all; omega))), trivial⟩, ?_, ?_, ?_, Nat.le_refl _, rfl, rfl⟩
          · try simp only [go_sem, hr, q0, q11, q12, p0, p11, p12, n0, n11, n12, getD_i hy]
            all_goals (first | done | (simp [Sp.d]; done) | (simp [Sp.d]; omega))
          · try simp only [go_sem, hr, q0, q11, q12, p0, p11, p12, n0, n11, n12, getD_i hy]
            all_goals (first | done | (simp [Sp.d]; done) | (simp [Sp.d]; omega))
          · try simp only [go_sem, hr, q0, q11, q12, p0, p11, p12, n0, n11, n12, getD_i hy]
            all_goals (first | done | (simp [Sp.d]; done) | (simp [Sp.d]; omega))
        · skip
          have hy : ¬ s.j < (flatL b).length := by simpa using c6
          refine dw_skip ?_
          show ∃ _, _
          refine ⟨(t1, _), ⟨(by first | (rw [evT, if_neg hy, ← ht1]) | (dsimp only; rw [evT, if_neg hy, ← ht1])), (by first | (first | omega | (with_reducible assumption) | (simp_all; done) | (simp_all; omega)) | (dsimp only; first | omega | (with_reducible assumption) | (simp_all; done) | (simp_all; omega))), trivial⟩, ?_, ?_, ?_, Nat.le_refl _, rfl, rfl⟩
          · try simp only [go_sem, hr, q0, q11, q12, p0, p11, p12, n0, n11, n12]
            all_goals (first | done | (simp [Sp.d]; done) | (simp [Sp.d]; omega))
          · try simp only [go_sem, hr, q0, q11, q12, p0, p11, p12, n0, n11, n12]
            all_goals (first | done | (simp [Sp.d]; done) | (simp [Sp.d]; omega))
          · try simp only [go_sem, hr, q0, q11, q12, p0, p11, p12, n0, n11, n12]
            all_goals (first | done | (simp [Sp.d]; done) | (simp [Sp.d]; omega))
      rintro ⟨t2, nx⟩ ⟨ht2, hr, -⟩
      show DW _ _ _ _ { n := _, t := tab _, h := _, nx := _, e := _ }
      simp only [List.cons_append, List.nil_append]
      have n0 : 0 < nx := by omega
      have n11 : 11 < nx := by omega
      have n12 : 12 < nx := by omega
      refine dw_join (α := (Nat) × Nat) [0, 4, 5, 7, 8] (fun ⟨i2, nx⟩ => (i2 = nxt (flatL a) s.i t2) ∧ (r < nx) ∧ True) (fun ⟨i2, nx⟩ => [(6, .i i2)]) (fun ⟨i2, nx⟩ => [(0, ⟨49, [[.fn (.func 38) [] []]]⟩), (11, ⟨22, [[.mrow r 0 s.out.length]]⟩), (12, ⟨3, [[.i s.fr]]⟩), (r, ⟨34, s.out.map Sp.d⟩)]) (fun ⟨i2, nx⟩ => nx) (by simp only [List.map_cons, List.map_nil, go_sem, hr, q0, q11, q12, p0, p11, p12, n0, n11, n12]; exact rfl) ?_ ?_
      · skip
        by_cases hx : s.i < (flatL a).length
        · skip
          have e0 : decide ((s.i : Int) < ((flatL a).length : Int)) = true := by simpa using hx
          refine dw_step (C := Cn) (by simp only [go_sem, hr, q0, q11, q12, p0, p11, p12, n0, n11, n12, e0, getD_i hx]; exact rfl) (fun h => by cases h) ?_ ?_
          · try simp only [go_sem, hr, q0, q11, q12, p0, p11, p12, n0, n11, n12, e0, getD_i hx]
            all_goals (first | done | (repeat' (with_reducible apply And.intro)) <;> first | omega | (with_reducible assumption) | (intros; omega) | (intros; simp only [decide_eq_true_eq, decide_eq_false_iff_not, Bool.or_eq_true, Bool.and_eq_true, Bool.or_eq_false_iff, Bool.not_eq_true', Bool.not_eq_false'] at *; omega) | (simp_all; done) | (simp_all; omega))
          refine dw_cond (by simp only [go_sem, hr, q0, q11, q12, p0, p11, p12, n0, n11, n12, e0, getD_i hx]; exact rfl) (fun c8 => ?_) (fun c8 => ?_)
          · skip
            refine dw_reg (C := Cn) (by simp only [go_sem, hr, q0, q11, q12, p0, p11, p12, n0, n11, n12, e0, getD_i hx]; exact rfl) (fun h => by cases h) ?_ ?_
            · try simp only [go_sem, hr, q0, q11, q12, p0, p11, p12, n0, n11, n12, e0, getD_i hx]
              all_goals (first | done | (repeat' (with_reducible apply And.intro)) <;> first | omega | (with_reducible assumption) | (intros; omega) | (intros; simp only [decide_eq_true_eq, decide_eq_false_iff_not, Bool.or_eq_true, Bool.and_eq_true, Bool.or_eq_false_iff, Bool.not_eq_true', Bool.not_eq_false'] at *; omega) | (simp_all; done) | (simp_all; omega))
            show ∃ _, _
            refine ⟨(s.i + 1, _), ⟨(by first | (rw [nxt, decide_eq_true hx, c8]; rfl) | (dsimp only; rw [nxt, decide_eq_true hx, c8]; rfl)), (by first | (first | omega | (with_reducible assumption) | (simp_all; done) | (simp_all; omega)) | (dsimp only; first | omega | (with_reducible assumption) | (simp_all; done) | (simp_all; omega))), trivial⟩, ?_, ?_, ?_, Nat.le_refl _, rfl, rfl⟩
            · try simp only [go_sem, hr, q0, q11, q12, p0, p11, p12, n0, n11, n12, e0, getD_i hx]
              all_goals (first | done | (simp [Sp.d]; done) | (simp [Sp.d]; omega))
            · try simp only [go_sem, hr, q0, q11, q12, p0, p11, p12, n0, n11, n12, e0, getD_i hx]
              all_goals (first | done | (simp [Sp.d]; done) | (simp [Sp.d]; omega))
            · try simp only [go_sem, hr, q0, q11, q12, p0, p11, p12, n0, n11, n12, e0, getD_i hx]
              all_goals (first | done | (simp [Sp.d]; done) | (simp [Sp.d]; omega))
          · skip
            refine dw_skip ?_
            show ∃ _, _
            refine ⟨(s.i, _), ⟨(by first | (first | (rw [nxt, decide_eq_true hx, c8]; rfl) | (rw [nxt, decide_eq_false hx]; rfl)) | (dsimp only; first | (rw [nxt, decide_eq_true hx, c8]; rfl) | (rw [nxt, decide_eq_false hx]; rfl))), (by first | (first | omega | (with_reducible assumption) | (simp_all; done) | (simp_all; omega)) | (dsimp only; first | omega | (with_reducible assumption) | (simp_all; done) | (simp_all; omega))), trivial⟩, ?_, ?_, ?_, Nat.le_refl _, rfl, rfl⟩
            · try simp only [go_sem, hr, q0, q11, q12, p0, p11, p12, n0, n11, n12, e0, getD_i hx]
              all_goals (first | done | (simp [Sp.d]; done) | (simp [Sp.d]; omega))
            · try simp only [go_sem, hr, q0, q11, q12, p0, p11, p12, n0, n11, n12, e0, getD_i hx]
              all_goals (first | done | (simp [Sp.d]; done) | (simp [Sp.d]; omega))
            · try simp only [go_sem, hr, q0, q11, q12, p0, p11, p12, n0, n11, n12, e0, getD_i hx]
              all_goals (first | done | (simp [Sp.d]; done) | (simp [Sp.d]; omega))
        · skip
          have e0 : decide ((s.i : Int) < ((flatL a).length : Int)) = false := by simpa using hx
          refine dw_step (C := Cn) (by simp only [go_sem, hr, q0, q11, q12, p0, p11, p12, n0, n11, n12, e0]; exact rfl) (fun h => by cases h) ?_ ?_
          · try simp only [go_sem, hr, q0, q11, q12, p0, p11, p12, n0, n11, n12, e0]
            all_goals (first | done | (repeat' (with_reducible apply And.intro)) <;> first | omega | (with_reducible assumption) | (intros; omega) | (intros; simp only [decide_eq_true_eq, decide_eq_false_iff_not, Bool.or_eq_true, Bool.and_eq_true, Bool.or_eq_false_iff, Bool.not_eq_true', Bool.not_eq_false'] at *; omega) | (simp_all; done) | (simp_all; omega))
          refine dw_cond (by simp only [go_sem, hr, q0, q11, q12, p0, p11, p12, n0, n11, n12, e0]; exact rfl) (fun c8 => ?_) (fun c8 => ?_)
          · skip
            simp at c8
          · skip
            refine dw_skip ?_
            show ∃ _, _
            refine ⟨(s.i, _), ⟨(by first | (first | (rw [nxt, decide_eq_true hx, c8]; rfl) | (rw [nxt, decide_eq_false hx]; rfl)) | (dsimp only; first | (rw [nxt, decide_eq_true hx, c8]; rfl) | (rw [nxt, decide_eq_false hx]; rfl))), (by first | (first | omega | (with_reducible assumption) | (simp_all; done) | (simp_all; omega)) | (dsimp only; first | omega | (with_reducible assumption) | (simp_all; done) | (simp_all; omega))), trivial⟩, ?_, ?_, ?_, Nat.le_refl _, rfl, rfl⟩
            · try simp only [go_sem, hr, q0, q11, q12, p0, p11, p12, n0, n11, n12, e0]
              all_goals (first | done | (simp [Sp.d]; done) | (simp [Sp.d]; omega))
            · try simp only [go_sem, hr, q0, q11, q12, p0, p11, p12, n0, n11, n12, e0]
              all_goals (first | done | (simp [Sp.d]; done) | (simp [Sp.d]; omega))
            · try simp only [go_sem, hr, q0, q11, q12, p0, p11, p12, n0, n11, n12, e0]
              all_goals (first | done | (simp [Sp.d]; done) | (simp [Sp.d]; omega))
      rintro ⟨i2, nx⟩ ⟨hi2, hr, -⟩
      show DW _ _ _ _ { n := _, t := tab _, h := _, nx := _, e := _ }
      simp only [List.cons_append, List.nil_append]
      have n0 : 0 < nx := by omega
      have n11 : 11 < nx := by omega
      have n12 : 12 < nx := by omega
      refine dw_join (α := (Nat) × Nat) [0, 4, 5, 6, 8] (fun ⟨j2, nx⟩ => (j2 = nxt (flatL b) s.j t2) ∧ (r < nx) ∧ True) (fun ⟨j2, nx⟩ => [(7, .i j2)]) (fun ⟨j2, nx⟩ => [(0, ⟨49, [[.fn (.func 38) [] []]]⟩), (11, ⟨22, [[.mrow r 0 s.out.length]]⟩), (12, ⟨3, [[.i s.fr]]⟩), (r, ⟨34, s.out.map Sp.d⟩)]) (fun ⟨j2, nx⟩ => nx) (by simp only [List.map_cons, List.map_nil, go_sem, hr, q0, q11, q12, p0, p11, p12, n0, n11, n12]; exact rfl) ?_ ?_
      · skip
        by_cases hy : s.j < (flatL b).length
        · skip
          have e0 : decide ((s.j : Int) < ((flatL b).length : Int)) = true := by simpa using hy
          refine dw_step (C := Cn) (by simp only [go_sem, hr, q0, q11, q12, p0, p11, p12, n0, n11, n12, e0, getD_i hy]; exact rfl) (fun h => by cases h) ?_ ?_
          · try simp only [go_sem, hr, q0, q11, q12, p0, p11, p12, n0, n11, n12, e0, getD_i hy]
            all_goals (first | done | (repeat' (with_reducible apply And.intro)) <;> first | omega | (with_reducible assumption) | (intros; omega) | (intros; simp only [decide_eq_true_eq, decide_eq_false_iff_not, Bool.or_eq_true, Bool.and_eq_true, Bool.or_eq_false_iff, Bool.not_eq_true', Bool.not_eq_false'] at *; omega) | (simp_all; done) | (simp_all; omega))
          refine dw_cond (by simp only [go_sem, hr, q0, q11, q12, p0, p11, p12, n0, n11, n12, e0, getD_i hy]; exact rfl) (fun c10 => ?_) (fun c10 => ?_)
          · skip
            refine dw_reg (C := Cn) (by simp only [go_sem, hr, q0, q11, q12, p0, p11, p12, n0, n11, n12, e0, getD_i hy]; exact rfl) (fun h => by cases h) ?_ ?_
            · try simp only [go_sem, hr, q0, q11, q12, p0, p11, p12, n0, n11, n12, e0, getD_i hy]
              all_goals (first | done | (repeat' (with_reducible apply And.intro)) <;> first | omega | (with_reducible assumption) | (intros; omega) | (intros; simp only [decide_eq_true_eq, decide_eq_false_iff_not, Bool.or_eq_true, Bool.and_eq_true, Bool.or_eq_false_iff, Bool.not_eq_true', Bool.not_eq_false'] at *; omega) | (simp_all; done) | (simp_all; omega))
            show ∃ _, _
            refine ⟨(s.j + 1, _), ⟨(by first | (rw [nxt, decide_eq_true hy, c10]; rfl) | (dsimp only; rw [nxt, decide_eq_true hy, c10]; rfl)), (by first | (first | omega | (with_reducible assumption) | (simp_all; done) | (simp_all; omega)) | (dsimp only; first | omega | (with_reducible assumption) | (simp_all; done) | (simp_all; omega))), trivial⟩, ?_, ?_, ?_, Nat.le_refl _, rfl, rfl⟩
            · try simp only [go_sem, hr, q0, q11, q12, p0, p11, p12, n0, n11, n12, e0, getD_i hy]
              all_goals (first | done | (simp [Sp.d]; done) | (simp [Sp.d]; omega))
            · try simp only [go_sem, hr, q0, q11, q12, p0, p11, p12, n0, n11, n12, e0, getD_i hy]
              all_goals (first | done | (simp [Sp.d]; done) | (simp [Sp.d]; omega))
            · try simp only [go_sem, hr, q0, q11, q12, p0, p11, p12, n0, n11, n12, e0, getD_i hy]
              all_goals (first | done | (simp [Sp.d]; done) | (simp [Sp.d]; omega))
          · skip
            refine dw_skip ?_
            show ∃ _, _
            refine ⟨(s.j, _), ⟨(by first | (first | (rw [nxt, decide_eq_true hy, c10]; rfl) | (rw [nxt, decide_eq_false hy]; rfl)) | (dsimp only; first | (rw [nxt, decide_eq_true hy, c10]; rfl) | (rw [nxt, decide_eq_false hy]; rfl))), (by first | (first | omega | (with_reducible assumption) | (simp_all; done) | (simp_all; omega)) | (dsimp only; first | omega | (with_reducible assumption) | (simp_all; done) | (simp_all; omega))), trivial⟩, ?_, ?_, ?_, Nat.le_refl _, rfl, rfl⟩
            · try simp only [go_sem, hr, q0, q11, q12, p0, p11, p12, n0, n11, n12, e0, getD_i hy]
              all_goals (first | done | (simp [Sp.d]; done) | (simp [Sp.d]; omega))
            · try simp only [go_sem, hr, q0, q11, q12, p0, p11, p12, n0, n11, n12, e0, getD_i hy]
              all_goals (first | done | (simp [Sp.d]; done) | (simp [Sp.d]; omega))
            · try simp only [go_sem, hr, q0, q11, q12, p0, p11, p12, n0, n11, n12, e0, getD_i hy]
              all_goals (first | done | (simp [Sp.d]; done) | (simp [Sp.d]; omega))
        · skip
          have e0 : decide ((s.j : Int) < ((flatL b).length : Int)) = false := by simpa using hy
          refine dw_step (C := Cn) (by simp only [go_sem, hr, q0, q11, q12, p0, p11, p12, n0, n11, n12, e0]; exact rfl) (fun h => by cases h) ?_ ?_
          · try simp only [go_sem, hr, q0, q11, q12, p0, p11, p12, n0, n11, n12, e0]
            all_goals (first | done | (repeat' (with_reducible apply And.intro)) <;> first | omega | (with_reducible assumption) | (intros; omega) | (intros; simp only [decide_eq_true_eq, decide_eq_false_iff_not, Bool.or_eq_true, Bool.and_eq_true, Bool.or_eq_false_iff, Bool.not_eq_true', Bool.not_eq_false'] at *; omega) | (simp_all; done) | (simp_all; omega))
          refine dw_cond (by simp only [go_sem, hr, q0, q11, q12, p0, p11, p12, n0, n11, n12, e0]; exact rfl) (fun c10 => ?_) (fun c10 => ?_)
          · skip
            simp at c10
          · skip
            refine dw_skip ?_
            show ∃ _, _
            refine ⟨(s.j, _), ⟨(by first | (first | (rw [nxt, decide_eq_true hy, c10]; rfl) | (rw [nxt, decide_eq_false hy]; rfl)) | (dsimp only; first | (rw [nxt, decide_eq_true hy, c10]; rfl) | (rw [nxt, decide_eq_false hy]; rfl))), (by first | (first | omega | (with_reducible assumption) | (simp_all; done) | (simp_all; omega)) | (dsimp only; first | omega | (with_reducible assumption) | (simp_all; done) | (simp_all; omega))), trivial⟩, ?_, ?_, ?_, Nat.le_refl _, rfl, rfl⟩
            · try simp only [go_sem, hr, q0, q11, q12, p0, p11, p12, n0, n11, n12, e0]
              all_goals (first | done | (simp [Sp.d]; done) | (simp [Sp.d]; omega))
            · try simp only [go_sem, hr, q0, q11, q12, p0, p11, p12, n0, n11, n12, e0]
              all_goals (first | done | (simp [Sp.d]; done) | (simp [Sp.d]; omega))
            · try simp only [go_sem, hr, q0, q11, q12, p0, p11, p12, n0, n11, n12, e0]
              all_goals (first | done | (simp [Sp.d]; done) | (simp [Sp.d]; omega))
      rintro ⟨j2, nx⟩ ⟨hj2, hr, -⟩
      show DW _ _ _ _ { n := _, t := tab _, h := _, nx := _, e := _ }
      simp only [List.cons_append, List.nil_append]
      have n0 : 0 < nx := by omega
      have n11 : 11 < nx := by omega
      have n12 : 12 < nx := by omega
      refine dw_seq ?_
      refine dw_yield (C := Cn) (r := rL) 9 (arr_at rfl) rfl rfl rfl (by simp only [List.take_succ_cons, List.take_zero, go_sem, hr, q0, q11, q12, p0, p11, p12, n0, n11, n12, odd_cast]; exact rfl) ?_ (by simp only [go_sem, hr, q0, q11, q12, p0, p11, p12, n0, n11, n12, odd_cast]; exact rfl) (by first | (simp only [go_sem, hr, q0, q11, q12, p0, p11, p12, n0, n11, n12, odd_cast]; done) | (simp only [go_sem, hr, q0, q11, q12, p0, p11, p12, n0, n11, n12, odd_cast]; exact rfl)) (by simp only [go_sem, hr, q0, q11, q12, p0, p11, p12, n0, n11, n12, odd_cast]) (by simp only [go_sem, hr, q0, q11, q12, p0, p11, p12, n0, n11, n12, odd_cast]; exact rfl) (by rw [hp]; rfl) (by rw [hp, hn]; show ∀ p ∈ [24, 25], p < 54; decide) ?_
      · try simp only [go_sem, hr, q0, q11, q12, p0, p11, p12, n0, n11, n12, odd_cast]
        all_goals (first | done | (repeat' (with_reducible apply And.intro)) <;> first | omega | (with_reducible assumption) | (intros; omega) | (intros; simp only [decide_eq_true_eq, decide_eq_false_iff_not, Bool.or_eq_true, Bool.and_eq_true, Bool.or_eq_false_iff, Bool.not_eq_true', Bool.not_eq_false'] at *; omega) | (simp_all; done) | (simp_all; omega))
      rw [ha, hb, hp, hn]
      show DW _ _ _ _ { n := _, t := setPs _ [24, 25] _, h := _, nx := _ }
      simp only [setPs_cons, setPs_nil]
      refine dw_step (C := Cn) (by simp only [go_sem, hr, q0, q11, q12, p0, p11, p12, n0, n11, n12]; exact rfl) (fun h => by cases h) ?_ ?_
      · try simp only [go_sem, hr, q0, q11, q12, p0, p11, p12, n0, n11, n12]
        all_goals (first | done | (repeat' (with_reducible apply And.intro)) <;> first | omega | (with_reducible assumption) | (intros; omega) | (intros; simp only [decide_eq_true_eq, decide_eq_false_iff_not, Bool.or_eq_true, Bool.and_eq_true, Bool.or_eq_false_iff, Bool.not_eq_true', Bool.not_eq_false'] at *; omega) | (simp_all; done) | (simp_all; omega))
      refine dw_reg (C := Cn) (by simp only [go_sem, hr, q0, q11, q12, p0, p11, p12, n0, n11, n12]; exact rfl) (fun h => by cases h) ?_ ?_
      · try simp only [go_sem, hr, q0, q11, q12, p0, p11, p12, n0, n11, n12]
        all_goals (first | done | (repeat' (with_reducible apply And.intro)) <;> first | omega | (with_reducible assumption) | (intros; omega) | (intros; simp only [decide_eq_true_eq, decide_eq_false_iff_not, Bool.or_eq_true, Bool.and_eq_true, Bool.or_eq_false_iff, Bool.not_eq_true', Bool.not_eq_false'] at *; omega) | (simp_all; done) | (simp_all; omega))
      refine ⟨rfl, ?_⟩
      refine dw_block ?_
      refine dw_step (C := Cn) (by simp only [go_sem, hr, q0, q11, q12, p0, p11, p12, n0, n11, n12]; exact rfl) (fun h => by cases h) ?_ ?_
      · try simp only [go_sem, hr, q0, q11, q12, p0, p11, p12, n0, n11, n12]
        all_goals (first | done | ((repeat' (with_reducible apply And.intro)) <;> first | omega | exact cross1_ct _ _))
      refine dw_join (α := (Int) × Nat) [8, 9, 10, 12] (fun ⟨fr1, nx⟩ => (fr1 = if cnt 38 (odd i2) (odd j2) && decide (s.fr < 0) then t2 else s.fr) ∧ (r < nx) ∧ True) (fun ⟨fr1, nx⟩ => []) (fun ⟨fr1, nx⟩ => [(0, ⟨49, [[.fn (.func 38) [] []]]⟩), (11, ⟨22, [[.mrow r 0 s.out.length]]⟩), (12, ⟨3, [[.i fr1]]⟩), (r, ⟨34, s.out.map Sp.d⟩)]) (fun ⟨fr1, nx⟩ => nx) (by simp only [List.map_cons, List.map_nil, go_sem, hr, q0, q11, q12, p0, p11, p12, n0, n11, n12]; exact rfl) ?_ ?_
      · skip
        refine dw_step (C := Cn) (by simp only [go_sem, hr, q0, q11, q12, p0, p11, p12, n0, n11, n12]; exact rfl) (fun h => by cases h) ?_ ?_
        · try simp only [go_sem, hr, q0, q11, q12, p0, p11, p12, n0, n11, n12]
          all_goals (first | done | (repeat' (with_reducible apply And.intro)) <;> first | omega | (with_reducible assumption) | (intros; omega) | (intros; simp only [decide_eq_true_eq, decide_eq_false_iff_not, Bool.or_eq_true, Bool.and_eq_true, Bool.or_eq_false_iff, Bool.not_eq_true', Bool.not_eq_false'] at *; omega) | (simp_all; done) | (simp_all; omega))
        refine dw_cond (by simp only [go_sem, hr, q0, q11, q12, p0, p11, p12, n0, n11, n12]; exact rfl) (fun c9 => ?_) (fun c9 => ?_)
        · skip
          refine dw_reg (C := Cn) (by simp only [go_sem, hr, q0, q11, q12, p0, p11, p12, n0, n11, n12]; exact rfl) (fun h => by cases h) ?_ ?_
          · try simp only [go_sem, hr, q0, q11, q12, p0, p11, p12, n0, n11, n12]
            all_goals (first | done | (repeat' (with_reducible apply And.intro)) <;> first | omega | (with_reducible assumption) | (intros; omega) | (intros; simp only [decide_eq_true_eq, decide_eq_false_iff_not, Bool.or_eq_true, Bool.and_eq_true, Bool.or_eq_false_iff, Bool.not_eq_true', Bool.not_eq_false'] at *; omega) | (simp_all; done) | (simp_all; omega))
          show ∃ _, _
          refine ⟨(t2, _), ⟨(by first | (rw [if_pos c9]) | (dsimp only; rw [if_pos c9])), (by first | (first | omega | (with_reducible assumption) | (simp_all; done) | (simp_all; omega)) | (dsimp only; first | omega | (with_reducible assumption) | (simp_all; done) | (simp_all; omega))), trivial⟩, ?_, ?_, ?_, Nat.le_refl _, rfl, rfl⟩
          · try simp only [go_sem, hr, q0, q11, q12, p0, p11, p12, n0, n11, n12]
            all_goals (first | done | (simp [Sp.d]; done) | (simp [Sp.d]; omega))
          · try simp only [go_sem, hr, q0, q11, q12, p0, p11, p12, n0, n11, n12]
            all_goals (first | done | (simp [Sp.d]; done) | (simp [Sp.d]; omega))
          · try simp only [go_sem, hr, q0, q11, q12, p0, p11, p12, n0, n11, n12]
            all_goals (first | done | (simp [Sp.d]; done) | (simp [Sp.d]; omega))
        · skip
          refine dw_skip ?_
          show ∃ _, _
          refine ⟨(s.fr, _), ⟨(by first | (rw [if_neg (by rw [c9]; simp)]) | (dsimp only; rw [if_neg (by rw [c9]; simp)])), (by first | (first | omega | (with_reducible assumption) | (simp_all; done) | (simp_all; omega)) | (dsimp only; first | omega | (with_reducible assumption) | (simp_all; done) | (simp_all; omega))), trivial⟩, ?_, ?_, ?_, Nat.le_refl _, rfl, rfl⟩
          · try simp only [go_sem, hr, q0, q11, q12, p0, p11, p12, n0, n11, n12]
            all_goals (first | done | (simp [Sp.d]; done) | (simp [Sp.d]; omega))
          · try simp only [go_sem, hr, q0, q11, q12, p0, p11, p12, n0, n11, n12]
            all_goals (first | done | (simp [Sp.d]; done) | (simp [Sp.d]; omega))
          · try simp only [go_sem, hr, q0, q11, q12, p0, p11, p12, n0, n11, n12]
            all_goals (first | done | (simp [Sp.d]; done) | (simp [Sp.d]; omega))
      rintro ⟨fr1, nx⟩ ⟨hf, hr, -⟩
      show DW _ _ _ _ { n := _, t := tab _, h := _, nx := _, e := _ }
      simp only [List.cons_append, List.nil_append]
      have n0 : 0 < nx := by omega
      have n11 : 11 < nx := by omega
      have n12 : 12 < nx := by omega
      refine dw_step (C := Cn) (by simp only [go_sem, hr, q0, q11, q12, p0, p11, p12, n0, n11, n12]; exact rfl) (fun h => by cases h) ?_ ?_
      · try simp only [go_sem, hr, q0, q11, q12, p0, p11, p12, n0, n11, n12]
        all_goals (first | done | (repeat' (with_reducible apply And.intro)) <;> first | omega | (with_reducible assumption) | (intros; omega) | (intros; simp only [decide_eq_true_eq, decide_eq_false_iff_not, Bool.or_eq_true, Bool.and_eq_true, Bool.or_eq_false_iff, Bool.not_eq_true', Bool.not_eq_false'] at *; omega) | (simp_all; done) | (simp_all; omega))
      refine dw_cond (by simp only [go_sem, hr, q0, q11, q12, p0, p11, p12, n0, n11, n12]; exact rfl) (fun c11 => ?_) (fun c11 => ?_)
      · skip
        refine dw_step (C := Cn) (by simp only [go_sem, hr, q0, q11, q12, p0, p11, p12, n0, n11, n12]; exact rfl) (fun h => by cases h) ?_ ?_
        · try simp only [go_sem, hr, q0, q11, q12, p0, p11, p12, n0, n11, n12]
          all_goals (first | done | (repeat' (with_reducible apply And.intro)) <;> first | omega | (with_reducible assumption) | (intros; omega) | (intros; simp only [decide_eq_true_eq, decide_eq_false_iff_not, Bool.or_eq_true, Bool.and_eq_true, Bool.or_eq_false_iff, Bool.not_eq_true', Bool.not_eq_false'] at *; omega) | (simp_all; done) | (simp_all; omega))
        refine dw_reg (C := Cn) (by simp only [go_sem, hr, q0, q11, q12, p0, p11, p12, n0, n11, n12]; exact rfl) (fun h => by cases h) ?_ ?_
        · try simp only [go_sem, hr, q0, q11, q12, p0, p11, p12, n0, n11, n12]
          all_goals (first | done | (repeat' (with_reducible apply And.intro)) <;> first | omega | (with_reducible assumption) | (intros; omega) | (intros; simp only [decide_eq_true_eq, decide_eq_false_iff_not, Bool.or_eq_true, Bool.and_eq_true, Bool.or_eq_false_iff, Bool.not_eq_true', Bool.not_eq_false'] at *; omega) | (simp_all; done) | (simp_all; omega))
        refine ⟨rfl, true, none, ⟨rfl, rfl⟩, ⟨_, _, _, _, _, _⟩, by simp only [List.drop_succ_cons, List.drop_zero, S.put, go_sem, hr, q0, q11, q12, p0, p11, p12, n0, n11, n12, odd_cast]; exact rfl, ?_, ?_⟩
        · try simp only [go_sem, hr, q0, q11, q12, p0, p11, p12, n0, n11, n12, odd_cast]
          all_goals (first | done | (repeat' (with_reducible apply And.intro)) <;> first | omega | (with_reducible assumption) | (intros; omega) | (intros; simp only [decide_eq_true_eq, decide_eq_false_iff_not, Bool.or_eq_true, Bool.and_eq_true, Bool.or_eq_false_iff, Bool.not_eq_true', Bool.not_eq_false'] at *; omega) | (simp_all; done) | (simp_all; omega))
        try simp only [clear_eq]
        show DW _ _ _ _ _
        refine dw_cond (by simp only [go_sem, hr, q0, q11, q12, p0, p11, p12, n0, n11, n12, odd_cast]; exact rfl) (fun c28 => ?_) (fun c28 => ?_)
        · skip
          simp at *
        · skip
          try simp only [decide_eq_true_eq, decide_eq_false_iff_not, Bool.or_eq_true, Bool.and_eq_true, Bool.or_eq_false_iff, Bool.not_eq_true', Bool.not_eq_false'] at c28
          refine dw_skip ?_
          show ∃ _, _
          have hst := inv_step hva hvb hI hlt
          rw [stepSw_close ht2 hi2 hj2 hf c11] at hst
          refine ⟨(⟨i2, j2, -1, s.out ++ [⟨fr1, t2⟩]⟩, (nx + 11), _), ⟨(by first | (exact hst.1) | (dsimp only; exact hst.1)), (by first | (first | omega | (with_reducible assumption) | (simp_all; done) | (simp_all; omega)) | (dsimp only; first | omega | (with_reducible assumption) | (simp_all; done) | (simp_all; omega))), (by first | (first | omega | (with_reducible assumption) | (simp_all; done) | (simp_all; omega)) | (dsimp only; first | omega | (with_reducible assumption) | (simp_all; done) | (simp_all; omega))), trivial⟩, (by show (_ : Nat) < _; exact hst.2), ?_, ?_, ?_, Nat.le_refl _, rfl, rfl⟩
          · try simp only [go_sem, hr, q0, q11, q12, p0, p11, p12, n0, n11, n12]
            all_goals (first | done | (simp [Sp.d]; done) | (simp [Sp.d]; omega))
          · try simp only [go_sem, hr, q0, q11, q12, p0, p11, p12, n0, n11, n12]
            all_goals (first | done | (simp [Sp.d]; done) | (simp [Sp.d]; omega))
          · try simp only [go_sem, hr, q0, q11, q12, p0, p11, p12, n0, n11, n12]
            all_goals (first | done | (simp [Sp.d]; done) | (simp [Sp.d]; omega))
      · skip
        refine dw_skip ?_
        refine ⟨rfl, true, none, ⟨rfl, rfl⟩, ⟨_, _, _, _, _, _⟩, by simp only [List.drop_succ_cons, List.drop_zero, S.put, go_sem, hr, q0, q11, q12, p0, p11, p12, n0, n11, n12, odd_cast]; exact rfl, ?_, ?_⟩
        · try simp only [go_sem, hr, q0, q11, q12, p0, p11, p12, n0, n11, n12, odd_cast]
          all_goals (first | done | (repeat' (with_reducible apply And.intro)) <;> first | omega | (with_reducible assumption) | (intros; omega) | (intros; simp only [decide_eq_true_eq, decide_eq_false_iff_not, Bool.or_eq_true, Bool.and_eq_true, Bool.or_eq_false_iff, Bool.not_eq_true', Bool.not_eq_false'] at *; omega) | (simp_all; done) | (simp_all; omega))
        try simp only [clear_eq]
        show DW _ _ _ _ _
        refine dw_cond (by simp only [go_sem, hr, q0, q11, q12, p0, p11, p12, n0, n11, n12, odd_cast]; exact rfl) (fun c29 => ?_) (fun c29 => ?_)
        · skip
          simp at *
        · skip
          try simp only [decide_eq_true_eq, decide_eq_false_iff_not, Bool.or_eq_true, Bool.and_eq_true, Bool.or_eq_false_iff, Bool.not_eq_true', Bool.not_eq_false'] at c29
          refine dw_skip ?_
          show ∃ _, _
          have hst := inv_step hva hvb hI hlt
          rw [stepSw_keep ht2 hi2 hj2 hf c11] at hst
          refine ⟨(⟨i2, j2, fr1, s.out⟩, r, _), ⟨(by first | (exact hst.1) | (dsimp only; exact hst.1)), (by first | (first | omega | (with_reducible assumption) | (simp_all; done) | (simp_all; omega)) | (dsimp only; first | omega | (with_reducible assumption) | (simp_all; done) | (simp_all; omega))), (by first | (first | omega | (with_reducible assumption) | (simp_all; done) | (simp_all; omega)) | (dsimp only; first | omega | (with_reducible assumption) | (simp_all; done) | (simp_all; omega))), trivial⟩, (by show (_ : Nat) < _; exact hst.2), ?_, ?_, ?_, Nat.le_refl _, rfl, rfl⟩
          · try simp only [go_sem, hr, q0, q11, q12, p0, p11, p12, n0, n11, n12]
            all_goals (first | done | (simp [Sp.d]; done) | (simp [Sp.d]; omega))
          · try simp only [go_sem, hr, q0, q11, q12, p0, p11, p12, n0, n11, n12]
            all_goals (first | done | (simp [Sp.d]; done) | (simp [Sp.d]; omega))
          · try simp only [go_sem, hr, q0, q11, q12, p0, p11, p12, n0, n11, n12]
            all_goals (first | done | (simp [Sp.d]; done) | (simp [Sp.d]; omega))
    · skip
      have hend : ¬ (s.i < (flatL a).length ∨ s.j < (flatL b).length) := by simpa using c2
      refine dw_exit ?_
      refine ⟨.inl rfl, none, rfl, ?_⟩
      show DW _ _ _ _ _
      refine dw_seq ?_
      refine dw_step (C := Cn) (by simp only [go_sem, hr, q0, q11, q12, p0, p11, p12, n0, n11, n12]; exact rfl) (fun h => by cases h) ?_ ?_
      · try simp only [go_sem, hr, q0, q11, q12, p0, p11, p12, n0, n11, n12]
        all_goals (first | done | (repeat' (with_reducible apply And.intro)) <;> first | omega | (with_reducible assumption) | (intros; omega) | (intros; simp only [decide_eq_true_eq, decide_eq_false_iff_not, Bool.or_eq_true, Bool.and_eq_true, Bool.or_eq_false_iff, Bool.not_eq_true', Bool.not_eq_false'] at *; omega) | (simp_all; done) | (simp_all; omega))
      refine dw_cond (by simp only [go_sem, hr, q0, q11, q12, p0, p11, p12, n0, n11, n12]; exact rfl) (fun c14 => ?_) (fun c14 => ?_)
      · skip
        try simp only [decide_eq_true_eq, decide_eq_false_iff_not, Bool.or_eq_true, Bool.and_eq_true, Bool.or_eq_false_iff, Bool.not_eq_true', Bool.not_eq_false'] at c14
        refine dw_step (C := Cn) (by simp only [go_sem, hr, q0, q11, q12, p0, p11, p12, n0, n11, n12]; exact rfl) (fun h => by cases h) ?_ ?_
        · try simp only [go_sem, hr, q0, q11, q12, p0, p11, p12, n0, n11, n12]
          all_goals (first | done | (repeat' (with_reducible apply And.intro)) <;> first | omega | (with_reducible assumption) | (intros; omega) | (intros; simp only [decide_eq_true_eq, decide_eq_false_iff_not, Bool.or_eq_true, Bool.and_eq_true, Bool.or_eq_false_iff, Bool.not_eq_true', Bool.not_eq_false'] at *; omega) | (simp_all; done) | (simp_all; omega))
        refine dw_ret ?_
        refine ⟨.inr rfl, ?_, ?_⟩
        · simp only [go_sem, hr, q0, q11, q12, p0, p11, p12, n0, n11, n12]
        refine ⟨2, ?_, ?_⟩
        · try simp only [go_sem, hr, q0, q11, q12, p0, p11, p12, n0, n11, n12]
          all_goals (simp)
        · try simp only [go_sem, hr, q0, q11, q12, p0, p11, p12, n0, n11, n12]
          all_goals (rw [sweep_out (by decide) hv1.1 hv1.2 hI hend, rlimited, if_pos c14]; rfl)
      · skip
        try simp only [decide_eq_true_eq, decide_eq_false_iff_not, Bool.or_eq_true, Bool.and_eq_true, Bool.or_eq_false_iff, Bool.not_eq_true', Bool.not_eq_false'] at c14
        refine dw_skip ?_
        show DW _ _ _ _ _
        refine dw_step (C := Cn) (by simp only [go_sem, hr, q0, q11, q12, p0, p11, p12, n0, n11, n12]; exact rfl) (fun h => by cases h) ?_ ?_
        · try simp only [go_sem, hr, q0, q11, q12, p0, p11, p12, n0, n11, n12]
          all_goals (first | done | (repeat' (with_reducible apply And.intro)) <;> first | omega | (with_reducible assumption) | (intros; omega) | (intros; simp only [decide_eq_true_eq, decide_eq_false_iff_not, Bool.or_eq_true, Bool.and_eq_true, Bool.or_eq_false_iff, Bool.not_eq_true', Bool.not_eq_false'] at *; omega) | (simp_all; done) | (simp_all; omega))
        refine dw_ret ?_
        refine ⟨.inr rfl, ?_, ?_⟩
        · simp only [go_sem, hr, q0, q11, q12, p0, p11, p12, n0, n11, n12]
        refine ⟨2, ?_, ?_⟩
        · try simp only [go_sem, hr, q0, q11, q12, p0, p11, p12, n0, n11, n12]
          all_goals (simp)
        · try simp only [go_sem, hr, q0, q11, q12, p0, p11, p12, n0, n11, n12]
          all_goals (rw [sweep_out (by decide) hv1.1 hv1.2 hI hend, rlimited, if_neg c14])
theorem sweep40_ct (a b : List Sp) : PureCt Try.prog 34 [.list false (a.map Sp.d), .list false (b.map Sp.d), .fn (.func 40) [] []] (.tuple [.list false ((swept 40 a b).1.map Sp.d), .i (swept 40 a b).2]) := by
  refine pure_of_dw Try.func34 rfl bo34 (by simp [go_sem, D.nr, nrs]) (by simp [Try.f34]) ?_
  unfold Try.f34
  simp only [init_eq]
  refine dw_step (C := Cn) (by simp only [go_sem]; exact rfl) (fun h => by cases h) ?_ ?_
  · try simp only [go_sem]
    all_goals (first | done | (repeat' (with_reducible apply And.intro)) <;> first | omega | (with_reducible assumption) | (intros; omega) | (intros; simp only [decide_eq_true_eq, decide_eq_false_iff_not, Bool.or_eq_true, Bool.and_eq_true, Bool.or_eq_false_iff, Bool.not_eq_true', Bool.not_eq_false'] at *; omega) | (simp_all; done) | (simp_all; omega))
  refine dw_seq ?_
  refine dw_step (C := Cn) (by simp only [go_sem]; exact rfl) (fun h => by cases h) ?_ ?_
  · try simp only [go_sem]
    all_goals (first | done | (intros; exact valid_ct _) | ((repeat' (with_reducible apply And.intro)) <;> first | omega | exact valid_ct _ | (intros; exact valid_ct _)))
  refine dw_cond (by simp only [go_sem]; exact rfl) (fun c1 => ?_) (fun c1 => ?_)
  · skip
    have hv1 : (rvalid a && rvalid b) = false := by rw [← valid_eq a, ← valid_eq b]; revert c1; cases valid a <;> cases valid b <;> simp
    refine dw_step (C := Cn) (by simp only [go_sem]; exact rfl) (fun h => by cases h) ?_ ?_
    · try simp only [go_sem]
      all_goals (first | done | (repeat' (with_reducible apply And.intro)) <;> first | omega | (with_reducible assumption) | (intros; omega) | (intros; simp only [decide_eq_true_eq, decide_eq_false_iff_not, Bool.or_eq_true, Bool.and_eq_true, Bool.or_eq_false_iff, Bool.not_eq_true', Bool.not_eq_false'] at *; omega) | (simp_all; done) | (simp_all; omega))
    refine dw_ret ?_
    refine ⟨.inr rfl, ?_, ?_⟩
    · simp only [go_sem]
    refine ⟨2, ?_, ?_⟩
    · try simp only [go_sem]
      all_goals (simp)
    · try simp only [go_sem]
      all_goals (rw [swept_bad hv1]; rfl)
  · skip
    have hv0 : valid a = true ∧ valid b = true := by simpa using c1
    have hv1 : rvalid a = true ∧ rvalid b = true := by rw [← valid_eq a, ← valid_eq b]; exact hv0
    have hl1 := rvalid_len hv1.1
    have hl2 := rvalid_len hv1.2
    have hva := vd_of hv1.1
    have hvb := vd_of hv1.2
    refine dw_skip ?_
    show DW _ _ _ _ _
    refine dw_step (C := Cn) (by simp only [go_sem]; exact rfl) (fun h => by cases h) ?_ ?_
    · try simp only [go_sem]
      all_goals (first | done | (repeat' (with_reducible apply And.intro)) <;> first | omega | (with_reducible assumption) | (intros; omega) | (intros; simp only [decide_eq_true_eq, decide_eq_false_iff_not, Bool.or_eq_true, Bool.and_eq_true, Bool.or_eq_false_iff, Bool.not_eq_true', Bool.not_eq_false'] at *; omega) | (simp_all; done) | (simp_all; omega))
    refine dw_step (C := Cn) (by simp only [go_sem]; exact rfl) (fun h => by cases h) ?_ ?_
    · try simp only [go_sem]
      all_goals (first | done | (repeat' (with_reducible apply And.intro)) <;> first | omega | (with_reducible assumption) | (intros; omega) | (intros; simp only [decide_eq_true_eq, decide_eq_false_iff_not, Bool.or_eq_true, Bool.and_eq_true, Bool.or_eq_false_iff, Bool.not_eq_true', Bool.not_eq_false'] at *; omega) | (simp_all; done) | (simp_all; omega))
    refine dw_seq ?_
    refine dw_step (C := Cn) (by simp only [go_sem]; exact rfl) (fun h => by cases h) ?_ ?_
    · try simp only [go_sem]
      all_goals (first | done | exact ends_ct _ _)
    refine dw_block ?_
    refine dw_rangeFunc (by simp only [go_sem]) (by simp only [go_sem]; exact rfl) Try.func60 rfl bo60 (by simp [Try.f60]) rfl (fun l rL hp ha hb hn => ?_)
    unfold Try.f60
    refine dw_step (C := Cn) (by simp only [go_sem]; exact rfl) (fun _ => ⟨mix, by kernel_rfl, by kernel_rfl⟩) ?_ ?_
    · try simp only [go_sem]
      all_goals (first | done | ((repeat' (with_reducible apply And.intro)) <;> first | omega | (refine flat_ct _ ?_; omega)))
    refine dw_step (C := Cn) (by simp only [go_sem]; exact rfl) (fun h => by cases h) ?_ ?_
    · try simp only [go_sem]
      all_goals (first | done | (repeat' (with_reducible apply And.intro)) <;> first | omega | (with_reducible assumption) | (intros; omega) | (intros; simp only [decide_eq_true_eq, decide_eq_false_iff_not, Bool.or_eq_true, Bool.and_eq_true, Bool.or_eq_false_iff, Bool.not_eq_true', Bool.not_eq_false'] at *; omega) | (simp_all; done) | (simp_all; omega))
    refine dw_block ?_
    refine dw_ownc 11 22 34 (by simp only [go_sem]) (by simp only [go_sem]) ?_
    refine dw_loop_fix (α := (Sw) × (Nat) × Nat) [0, 4, 5] (fun ⟨s, r, nx⟩ => (Inv 40 a b s) ∧ (r < nx) ∧ (12 < r) ∧ True) (fun ⟨s, r, nx⟩ => (flatL a).length - s.i + ((flatL b).length - s.j)) (fun ⟨s, r, nx⟩ => [(6, .i s.i), (7, .i s.j)]) (fun ⟨s, r, nx⟩ => [(0, ⟨49, [[.fn (.func 40) [] []]]⟩), (11, ⟨22, [[.mrow r 0 s.out.length]]⟩), (12, ⟨3, [[.i s.fr]]⟩), (r, ⟨34, s.out.map Sp.d⟩)]) (fun ⟨s, r, nx⟩ => nx) (⟨0, 0, -1, []⟩, 25, _) (by simp only [List.map_cons, List.map_nil, go_sem]; exact rfl) ⟨(by first | (exact inv_init (by decide) hva hvb) | (dsimp only; exact inv_init (by decide) hva hvb)), (by first | (first | omega | (with_reducible assumption) | (simp_all; done) | (simp_all; omega)) | (dsimp only; first | omega | (with_reducible assumption) | (simp_all; done) | (simp_all; omega))), (by first | (first | omega | (with_reducible assumption) | (simp_all; done) | (simp_all; omega)) | (dsimp only; first | omega | (with_reducible assumption) | (simp_all; done) | (simp_all; omega))), trivial⟩ (by first | (simp only [go_sem]; done) | (simp [go_sem]; done) | (simp only [go_sem]; (repeat' (with_reducible apply And.intro)) <;> first | (left; simp; done) | (right; simp [go_sem]; done))) (by first | (simp only [go_sem]; done) | simp [go_sem]) (Nat.le_refl _) ?_
    rintro ⟨s, r, nx⟩ ⟨hI, hr, hr0, -⟩
    show DW _ _ _ _ { n := _, t := tab _, h := _, nx := _, e := _ }
    simp only [List.cons_append, List.nil_append]
    have q0 : r ≠ 0 := by omega
    have q11 : r ≠ 11 := by omega
    have q12 : r ≠ 12 := by omega
    have p0 : 0 ≠ r := by omega
    have p11 : 11 ≠ r := by omega
    have p12 : 12 ≠ r := by omega
    have n0 : 0 < nx := by omega
    have n11 : 11 < nx := by omega
    have n12 : 12 < nx := by omega
    have hIi := hI.i
    have hIj := hI.j
    have hIl := hI.len
    rw [flat_len] at hIi hIj
    have hfl := flat_len a
    have hfm := flat_len b
    refine dw_seq ?_
    refine dw_step (C := Cn) (by simp only [go_sem, hr, q0, q11, q12, p0, p11, p12, n0, n11, n12]; exact rfl) (fun h => by cases h) ?_ ?_
    · try simp only [go_sem, hr, q0, q11, q12, p0, p11, p12, n0, n11, n12]
      all_goals (first | done | (repeat' (with_reducible apply And.intro)) <;> first | omega | (with_reducible assumption) | (intros; omega) | (intros; simp only [decide_eq_true_eq, decide_eq_false_iff_not, Bool.or_eq_true, Bool.and_eq_true, Bool.or_eq_false_iff, Bool.not_eq_true', Bool.not_eq_false'] at *; omega) | (simp_all; done) | (simp_all; omega))
    refine dw_cond (by simp only [go_sem, hr, q0, q11, q12, p0, p11, p12, n0, n11, n12]; exact rfl) (fun c2 => ?_) (fun c2 => ?_)
    · skip
      have hlt : s.i < (flatL a).length ∨ s.j < (flatL b).length := by simpa using c2
      refine dw_skip ?_
      show DW _ _ _ _ _
      refine dw_block ?_
      refine dw_step (C := Cn) (by simp only [go_sem, hr, q0, q11, q12, p0, p11, p12, n0, n11, n12]; exact rfl) (fun h => by cases h) ?_ ?_
      · try simp only [go_sem, hr, q0, q11, q12, p0, p11, p12, n0, n11, n12]
        all_goals (first | done | (repeat' (with_reducible apply And.intro)) <;> first | omega | (with_reducible assumption) | (intros; omega) | (intros; simp only [decide_eq_true_eq, decide_eq_false_iff_not, Bool.or_eq_true, Bool.and_eq_true, Bool.or_eq_false_iff, Bool.not_eq_true', Bool.not_eq_false'] at *; omega) | (simp_all; done) | (simp_all; omega))
      refine dw_join (α := (Int) × Nat) [0, 4, 5, 6, 7] (fun ⟨t1, nx⟩ => (t1 = if s.i < (flatL a).length then min 20000000 (flatL a)[s.i]! else 20000000) ∧ (r < nx) ∧ True) (fun ⟨t1, nx⟩ => [(8, .i t1)]) (fun ⟨t1, nx⟩ => [(0, ⟨49, [[.fn (.func 40) [] []]]⟩), (11, ⟨22, [[.mrow r 0 s.out.length]]⟩), (12, ⟨3, [[.i s.fr]]⟩), (r, ⟨34, s.out.map Sp.d⟩)]) (fun ⟨t1, nx⟩ => nx) (by simp only [List.map_cons, List.map_nil, go_sem, hr, q0, q11, q12, p0, p11, p12, n0, n11, n12]; exact rfl) ?_ ?_
      · skip
        refine dw_step (C := Cn) (by simp only [go_sem, hr, q0, q11, q12, p0, p11, p12, n0, n11, n12]; exact rfl) (fun h => by cases h) ?_ ?_
        · try simp only [go_sem, hr, q0, q11, q12, p0, p11, p12, n0, n11, n12]
          all_goals (first | done | (repeat' (with_reducible apply And.intro)) <;> first | omega | (with_reducible assumption) | (intros; omega) | (intros; simp only [decide_eq_true_eq, decide_eq_false_iff_not, Bool.or_eq_true, Bool.and_eq_true, Bool.or_eq_false_iff, Bool.not_eq_true', Bool.not_eq_false'] at *; omega) | (simp_all; done) | (simp_all; omega))
        refine dw_cond (by simp only [go_sem, hr, q0, q11, q12, p0, p11, p12, n0, n11, n12]; exact rfl) (fun c4 => ?_) (fun c4 => ?_)
        · skip
          have hx : s.i < (flatL a).length := by simpa using c4
          refine dw_reg (C := Cn) (by simp only [go_sem, hr, q0, q11, q12, p0, p11, p12, n0, n11, n12, getD_i hx]; exact rfl) (fun h => by cases h) ?_ ?_
          · try simp only [go_sem, hr, q0, q11, q12, p0, p11, p12, n0, n11, n12, getD_i hx]
            all_goals (first | done | (repeat' (with_reducible apply And.intro)) <;> first | omega | (with_reducible assumption) | (intros; omega) | (intros; simp only [decide_eq_true_eq, decide_eq_false_iff_not, Bool.or_eq_true, Bool.and_eq_true, Bool.or_eq_false_iff, Bool.not_eq_true', Bool.not_eq_false'] at *; omega) | (simp_all; done) | (simp_all; omega))
          show ∃ _, _
          refine ⟨(min 20000000 (flatL a)[s.i]!, _), ⟨(by first | (rw [if_pos hx]) | (dsimp only; rw [if_pos hx])), (by first | (first | omega | (with_reducible assumption) | (simp_all; done) | (simp_all; omega)) | (dsimp only; first | omega | (with_reducible assumption) | (simp_all; done) | (simp_all; omega))), trivial⟩, ?_, ?_, ?_, Nat.le_refl _, rfl, rfl⟩
          · try simp only [go_sem, hr, q0, q11, q12, p0, p11, p12, n0, n11, n12, getD_i hx]
            all_goals (first | done | (simp [Sp.d]; done) | (simp [Sp.d]; omega))
          · try simp only [go_sem, hr, q0, q11, q12, p0, p11, p12, n0, n11, n12, getD_i hx]
            all_goals (first | done | (simp [Sp.d]; done) | (simp [Sp.d]; omega))
          · try simp only [go_sem, hr, q0, q11, q12, p0, p11, p12, n0, n11, n12, getD_i hx]
            all_goals (first | done | (simp [Sp.d]; done) | (simp [Sp.d]; omega))
        · skip
          have hx : ¬ s.i < (flatL a).length := by simpa using c4
          refine dw_skip ?_
          show ∃ _, _
          refine ⟨(20000000, _), ⟨(by first | (rw [if_neg hx]) | (dsimp only; rw [if_neg hx])), (by first | (first | omega | (with_reducible assumption) | (simp_all; done) | (simp_all; omega)) | (dsimp only; first | omega | (with_reducible assumption) | (simp_all; done) | (simp_all; omega))), trivial⟩, ?_, ?_, ?_, Nat.le_refl _, rfl, rfl⟩
          · try simp only [go_sem, hr, q0, q11, q12, p0, p11, p12, n0, n11, n12]
            all_goals (first | done | (simp [Sp.d]; done) | (simp [Sp.d]; omega))
          · try simp only [go_sem, hr, q0, q11, q12, p0, p11, p12, n0, n11, n12]
            all_goals (first | done | (simp [Sp.d]; done) | (simp [Sp.d]; omega))
          · try simp only [go_sem, hr, q0, q11, q12, p0, p11, p12, n0, n11, n12]
            all_goals (first | done | (simp [Sp.d]; done) | (simp [Sp.d]; omega))
      rintro ⟨t1, nx⟩ ⟨ht1, hr, -⟩
      show DW _ _ _ _ { n := _, t := tab _, h := _, nx := _, e := _ }
      simp only [List.cons_append, List.nil_append]
      have n0 : 0 < nx := by omega
      have n11 : 11 < nx := by omega
      have n12 : 12 < nx := by omega
      refine dw_join (α := (Int) × Nat) [0, 4, 5, 6, 7] (fun ⟨t2, nx⟩ => (t2 = evT (flatL a) (flatL b) s.i s.j) ∧ (r < nx) ∧ True) (fun ⟨t2, nx⟩ => [(8, .i t2)]) (fun ⟨t2, nx⟩ => [(0, ⟨49, [[.fn (.func 40) [] []]]⟩), (11, ⟨22, [[.mrow r 0 s.out.length]]⟩), (12, ⟨3, [[.i s.fr]]⟩), (r, ⟨34, s.out.map Sp.d⟩)]) (fun ⟨t2, nx⟩ => nx) (by simp only [List.map_cons, List.map_nil, go_sem, hr, q0, q11, q12, p0, p11, p12, n0, n11, n12]; exact rfl) ?_ ?_
      · skip
        refine dw_step (C := Cn) (by simp only [go_sem, hr, q0, q11, q12, p0, p11, p12, n0, n11, n12]; exact rfl) (fun h => by cases h) ?_ ?_
        · try simp only [go_sem, hr, q0, q11, q12, p0, p11, p12, n0, n11, n12]
          all_goals (first | done | (repeat' (with_reducible apply And.intro)) <;> first | omega | (with_reducible assumption) | (intros; omega) | (intros; simp only [decide_eq_true_eq, decide_eq_false_iff_not, Bool.or_eq_true, Bool.and_eq_true, Bool.or_eq_false_iff, Bool.not_eq_true', Bool.not_eq_false'] at *; omega) | (simp_all; done) | (simp_all; omega))
        refine dw_cond (by simp only [go_sem, hr, q0, q11, q12, p0, p11, p12, n0, n11, n12]; exact rfl) (fun c6 => ?_) (fun c6 => ?_)
        · skip
          have hy : s.j < (flatL b).length := by simpa using c6
          refine dw_reg (C := Cn) (by simp only [go_sem, hr, q0, q11, q12, p0, p11, p12, n0, n11, n12, getD_i hy]; exact rfl) (fun h => by cases h) ?_ ?_
          · try simp only [go_sem, hr, q0, q11, q12, p0, p11, p12, n0, n11, n12, getD_i hy]
            all_goals (first | done | (repeat' (with_reducible apply And.intro)) <;> first | omega | (with_reducible assumption) | (intros; omega) | (intros; simp only [decide_eq_true_eq, decide_eq_false_iff_not, Bool.or_eq_true, Bool.and_eq_true, Bool.or_eq_false_iff, Bool.not_eq_true', Bool.not_eq_false'] at *; omega) | (simp_all; done) | (simp_all; omega))
          show ∃ _, _
          refine ⟨(min t1 (flatL b)[s.j]!, _), ⟨(by first | (rw [evT, if_pos hy, ← ht1]) | (dsimp only; rw [evT, if_pos hy, ← ht1])), (by first | (first | omega | (with_reducible assumption) | (simp_all; done) | (simp_all; omega)) | (dsimp only; first | omega | (with_reducible assumption) | (simp_all; done) | (simp_all; omega))), trivial⟩, ?_, ?_, ?_, Nat.le_refl _, rfl, rfl⟩
          · try simp only [go_sem, hr, q0, q11, q12, p0, p11, p12, n0, n11, n12, getD_i hy]
            all_goals (first | done | (simp [Sp.d]; done) | (simp [Sp.d]; omega))
          · try simp only [go_sem, hr, q0, q11, q12, p0, p11, p12, n0, n11, n12, getD_i hy]
            all_goals (first | done | (simp [Sp.d]; done) | (simp [Sp.d]; omega))
          · try simp only [go_sem, hr, q0, q11, q12, p0, p11, p12, n0, n11, n12, getD_i hy]
            all_goals (first | done | (simp [Sp.d]; done) | (simp [Sp.d]; omega))
        · skip
          have hy : ¬ s.j < (flatL b).length := by simpa using c6
          refine dw_skip ?_
          show ∃ _, _
          refine ⟨(t1, _), ⟨(by first | (rw [evT, if_neg hy, ← ht1]) | (dsimp only; rw [evT, if_neg hy, ← ht1])), (by first | (first | omega | (with_reducible assumption) | (simp_all; done) | (simp_all; omega)) | (dsimp only; first | omega | (with_reducible assumption) | (simp_all; done) | (simp_all; omega))), trivial⟩, ?_, ?_, ?_, Nat.le_refl _, rfl, rfl⟩
          · try simp only [go_sem, hr, q0, q11, q12, p0, p11, p12, n0, n11, n12]
            all_goals (first | done | (simp [Sp.d]; done) | (simp [Sp.d]; omega))
          · try simp only [go_sem, hr, q0, q11, q12, p0, p11, p12, n0, n11, n12]
            all_goals (first | done | (simp [Sp.d]; done) | (simp [Sp.d]; omega))
          · try simp only [go_sem, hr, q0, q11, q12, p0, p11, p12, n0, n11, n12]
            all_goals (first | done | (simp [Sp.d]; done) | (simp [Sp.d]; omega))
      rintro ⟨t2, nx⟩ ⟨ht2, hr, -⟩
      show DW _ _ _ _ { n := _, t := tab _, h := _, nx := _, e := _ }
      simp only [List.cons_append, List.nil_append]
      have n0 : 0 < nx := by omega
      have n11 : 11 < nx := by omega
      have n12 : 12 < nx := by omega
      refine dw_join (α := (Nat) × Nat) [0, 4, 5, 7, 8] (fun ⟨i2, nx⟩ => (i2 = nxt (flatL a) s.i t2) ∧ (r < nx) ∧ True) (fun ⟨i2, nx⟩ => [(6, .i i2)]) (fun ⟨i2, nx⟩ => [(0, ⟨49, [[.fn (.func 40) [] []]]⟩), (11, ⟨22, [[.mrow r 0 s.out.length]]⟩), (12, ⟨3, [[.i s.fr]]⟩), (r, ⟨34, s.out.map Sp.d⟩)]) (fun ⟨i2, nx⟩ => nx) (by simp only [List.map_cons, List.map_nil, go_sem, hr, q0, q11, q12, p0, p11, p12, n0, n11, n12]; exact rfl) ?_ ?_
      · skip
        by_cases hx : s.i < (flatL a).length
        · skip
          have e0 : decide ((s.i : Int) < ((flatL a).length : Int)) = true := by simpa using hx
          refine dw_step (C := Cn) (by simp only [go_sem, hr, q0, q11, q12, p0, p11, p12, n0, n11, n12, e0, getD_i hx]; exact rfl) (fun h => by cases h) ?_ ?_
          · try simp only [go_sem, hr, q0, q11, q12, p0, p11, p12, n0, n11, n12, e0, getD_i hx]
            all_goals (first | done | (repeat' (with_reducible apply And.intro)) <;> first | omega | (with_reducible assumption) | (intros; omega) | (intros; simp only [decide_eq_true_eq, decide_eq_false_iff_not, Bool.or_eq_true, Bool.and_eq_true, Bool.or_eq_false_iff, Bool.not_eq_true', Bool.not_eq_false'] at *; omega) | (simp_all; done) | (simp_all; omega))
          refine dw_cond (by simp only [go_sem, hr, q0, q11, q12, p0, p11, p12, n0, n11, n12, e0, getD_i hx]; exact rfl) (fun c8 => ?_) (fun c8 => ?_)
          · skip
            refine dw_reg (C := Cn) (by simp only [go_sem, hr, q0, q11, q12, p0, p11, p12, n0, n11, n12, e0, getD_i hx]; exact rfl) (fun h => by cases h) ?_ ?_
            · try simp only [go_sem, hr, q0, q11, q12, p0, p11, p12, n0, n11, n12, e0, getD_i hx]
              all_goals (first | done | (repeat' (with_reducible apply And.intro)) <;> first | omega | (with_reducible assumption) | (intros; omega) | (intros; simp only [decide_eq_true_eq, decide_eq_false_iff_not, Bool.or_eq_true, Bool.and_eq_true, Bool.or_eq_false_iff, Bool.not_eq_true', Bool.not_eq_false'] at *; omega) | (simp_all; done) | (simp_all; omega))
            show ∃ _, _
            refine ⟨(s.i + 1, _), ⟨(by first | (rw [nxt, decide_eq_true hx, c8]; rfl) | (dsimp only; rw [nxt, decide_eq_true hx, c8]; rfl)), (by first | (first | omega | (with_reducible assumption) | (simp_all; done) | (simp_all; omega)) | (dsimp only; first | omega | (with_reducible assumption) | (simp_all; done) | (simp_all; omega))), trivial⟩, ?_, ?_, ?_, Nat.le_refl _, rfl, rfl⟩
            · try simp only [go_sem, hr, q0, q11, q12, p0, p11, p12, n0, n11, n12, e0, getD_i hx]
              all_goals (first | done | (simp [Sp.d]; done) | (simp [Sp.d]; omega))
            · try simp only [go_sem, hr, q0, q11, q12, p0, p11, p12, n0, n11, n12, e0, getD_i hx]
              all_goals (first | done | (simp [Sp.d]; done) | (simp [Sp.d]; omega))
            · try simp only [go_sem, hr, q0, q11, q12, p0, p11, p12, n0, n11, n12, e0, getD_i hx]
              all_goals (first | done | (simp [Sp.d]; done) | (simp [Sp.d]; omega))
          · skip
            refine dw_skip ?_
            show ∃ _, _
            refine ⟨(s.i, _), ⟨(by first | (first | (rw [nxt, decide_eq_true hx, c8]; rfl) | (rw [nxt, decide_eq_false hx]; rfl)) | (dsimp only; first | (rw [nxt, decide_eq_true hx, c8]; rfl) | (rw [nxt, decide_eq_false hx]; rfl))), (by first | (first | omega | (with_reducible assumption) | (simp_all; done) | (simp_all; omega)) | (dsimp only; first | omega | (with_reducible assumption) | (simp_all; done) | (simp_all; omega))), trivial⟩, ?_, ?_, ?_, Nat.le_refl _, rfl, rfl⟩
            · try simp only [go_sem, hr, q0, q11, q12, p0, p11, p12, n0, n11, n12, e0, getD_i hx]
              all_goals (first | done | (simp [Sp.d]; done) | (simp [Sp.d]; omega))
            · try simp only [go_sem, hr, q0, q11, q12, p0, p11, p12, n0, n11, n12, e0, getD_i hx]
              all_goals (first | done | (simp [Sp.d]; done) | (simp [Sp.d]; omega))
            · try simp only [go_sem, hr, q0, q11, q12, p0, p11, p12, n0, n11, n12, e0, getD_i hx]
              all_goals (first | done | (simp [Sp.d]; done) | (simp [Sp.d]; omega))
        · skip
          have e0 : decide ((s.i : Int) < ((flatL a).length : Int)) = false := by simpa using hx
          refine dw_step (C := Cn) (by simp only [go_sem, hr, q0, q11, q12, p0, p11, p12, n0, n11, n12, e0]; exact rfl) (fun h => by cases h) ?_ ?_
          · try simp only [go_sem, hr, q0, q11, q12, p0, p11, p12, n0, n11, n12, e0]
            all_goals (first | done | (repeat' (with_reducible apply And.intro)) <;> first | omega | (with_reducible assumption) | (intros; omega) | (intros; simp only [decide_eq_true_eq, decide_eq_false_iff_not, Bool.or_eq_true, Bool.and_eq_true, Bool.or_eq_false_iff, Bool.not_eq_true', Bool.not_eq_false'] at *; omega) | (simp_all; done) | (simp_all; omega))
          refine dw_cond (by simp only [go_sem, hr, q0, q11, q12, p0, p11, p12, n0, n11, n12, e0]; exact rfl) (fun c8 => ?_) (fun c8 => ?_)
          · skip
            simp at c8
          · skip
            refine dw_skip ?_
            show ∃ _, _
            refine ⟨(s.i, _), ⟨(by first | (first | (rw [nxt, decide_eq_true hx, c8]; rfl) | (rw [nxt, decide_eq_false hx]; rfl)) | (dsimp only; first | (rw [nxt, decide_eq_true hx, c8]; rfl) | (rw [nxt, decide_eq_false hx]; rfl))), (by first | (first | omega | (with_reducible assumption) | (simp_all; done) | (simp_all; omega)) | (dsimp only; first | omega | (with_reducible assumption) | (simp_all; done) | (simp_all; omega))), trivial⟩, ?_, ?_, ?_, Nat.le_refl _, rfl, rfl⟩
            · try simp only [go_sem, hr, q0, q11, q12, p0, p11, p12, n0, n11, n12, e0]
              all_goals (first | done | (simp [Sp.d]; done) | (simp [Sp.d]; omega))
            · try simp only [go_sem, hr, q0, q11, q12, p0, p11, p12, n0, n11, n12, e0]
              all_goals (first | done | (simp [Sp.d]; done) | (simp [Sp.d]; omega))
            · try simp only [go_sem, hr, q0, q11, q12, p0, p11, p12, n0, n11, n12, e0]
              all_goals (first | done | (simp [Sp.d]; done) | (simp [Sp.d]; omega))
      rintro ⟨i2, nx⟩ ⟨hi2, hr, -⟩
      show DW _ _ _ _ { n := _, t := tab _, h := _, nx := _, e := _ }
      simp only [List.cons_append, List.nil_append]
      have n0 : 0 < nx := by omega
      have n11 : 11 < nx := by omega
      have n12 : 12 < nx := by omega
      refine dw_join (α := (Nat) × Nat) [0, 4, 5, 6, 8] (fun ⟨j2, nx⟩ => (j2 = nxt (flatL b) s.j t2) ∧ (r < nx) ∧ True) (fun ⟨j2, nx⟩ => [(7, .i j2)]) (fun ⟨j2, nx⟩ => [(0, ⟨49, [[.fn (.func 40) [] []]]⟩), (11, ⟨22, [[.mrow r 0 s.out.length]]⟩), (12, ⟨3, [[.i s.fr]]⟩), (r, ⟨34, s.out.map Sp.d⟩)]) (fun ⟨j2, nx⟩ => nx) (by simp only [List.map_cons, List.map_nil, go_sem, hr, q0, q11, q12, p0, p11, p12, n0, n11, n12]; exact rfl) ?_ ?_
      · skip
        by_cases hy : s.j < (flatL b).length
        · skip
          have e0 : decide ((s.j : Int) < ((flatL b).length : Int)) = true := by simpa using hy
          refine dw_step (C := Cn) (by simp only [go_sem, hr, q0, q11, q12, p0, p11, p12, n0, n11, n12, e0, getD_i hy]; exact rfl) (fun h => by cases h) ?_ ?_
          · try simp only [go_sem, hr, q0, q11, q12, p0, p11, p12, n0, n11, n12, e0, getD_i hy]
            all_goals (first | done | (repeat' (with_reducible apply And.intro)) <;> first | omega | (with_reducible assumption) | (intros; omega) | (intros; simp only [decide_eq_true_eq, decide_eq_false_iff_not, Bool.or_eq_true, Bool.and_eq_true, Bool.or_eq_false_iff, Bool.not_eq_true', Bool.not_eq_false'] at *; omega) | (simp_all; done) | (simp_all; omega))
          refine dw_cond (by simp only [go_sem, hr, q0, q11, q12, p0, p11, p12, n0, n11, n12, e0, getD_i hy]; exact rfl) (fun c10 => ?_) (fun c10 => ?_)
          · skip
            refine dw_reg (C := Cn) (by simp only [go_sem, hr, q0, q11, q12, p0, p11, p12, n0, n11, n12, e0, getD_i hy]; exact rfl) (fun h => by cases h) ?_ ?_
            · try simp only [go_sem, hr, q0, q11, q12, p0, p11, p12, n0, n11, n12, e0, getD_i hy]
              all_goals (first | done | (repeat' (with_reducible apply And.intro)) <;> first | omega | (with_reducible assumption) | (intros; omega) | (intros; simp only [decide_eq_true_eq, decide_eq_false_iff_not, Bool.or_eq_true, Bool.and_eq_true, Bool.or_eq_false_iff, Bool.not_eq_true', Bool.not_eq_false'] at *; omega) | (simp_all; done) | (simp_all; omega))
            show ∃ _, _
            refine ⟨(s.j + 1, _), ⟨(by first | (rw [nxt, decide_eq_true hy, c10]; rfl) | (dsimp only; rw [nxt, decide_eq_true hy, c10]; rfl)), (by first | (first | omega | (with_reducible assumption) | (simp_all; done) | (simp_all; omega)) | (dsimp only; first | omega | (with_reducible assumption) | (simp_all; done) | (simp_all; omega))), trivial⟩, ?_, ?_, ?_, Nat.le_refl _, rfl, rfl⟩
            · try simp only [go_sem, hr, q0, q11, q12, p0, p11, p12, n0, n11, n12, e0, getD_i hy]
              all_goals (first | done | (simp [Sp.d]; done) | (simp [Sp.d]; omega))
            · try simp only [go_sem, hr, q0, q11, q12, p0, p11, p12, n0, n11, n12, e0, getD_i hy]
              all_goals (first | done | (simp [Sp.d]; done) | (simp [Sp.d]; omega))
            · try simp only [go_sem, hr, q0, q11, q12, p0, p11, p12, n0, n11, n12, e0, getD_i hy]
              all_goals (first | done | (simp [Sp.d]; done) | (simp [Sp.d]; omega))
          · skip
            refine dw_skip ?_
            show ∃ _, _
            refine ⟨(s.j, _), ⟨(by first | (first | (rw [nxt, decide_eq_true hy, c10]; rfl) | (rw [nxt, decide_eq_false hy]; rfl)) | (dsimp only; first | (rw [nxt, decide_eq_true hy, c10]; rfl) | (rw [nxt, decide_eq_false hy]; rfl))), (by first | (first | omega | (with_reducible assumption) | (simp_all; done) | (simp_all; omega)) | (dsimp only; first | omega | (with_reducible assumption) | (simp_all; done) | (simp_all; omega))), trivial⟩, ?_, ?_, ?_, Nat.le_refl _, rfl, rfl⟩
            · try simp only [go_sem, hr, q0, q11, q12, p0, p11, p12, n0, n11, n12, e0, getD_i hy]
              all_goals (first | done | (simp [Sp.d]; done) | (simp [Sp.d]; omega))
            · try simp only [go_sem, hr, q0, q11, q12, p0, p11, p12, n0, n11, n12, e0, getD_i hy]
              all_goals (first | done | (simp [Sp.d]; done) | (simp [Sp.d]; omega))
            · try simp only [go_sem, hr, q0, q11, q12, p0, p11, p12, n0, n11, n12, e0, getD_i hy]
              all_goals (first | done | (simp [Sp.d]; done) | (simp [Sp.d]; omega))
        · skip
          have e0 : decide ((s.j : Int) < ((flatL b).length : Int)) = false := by simpa using hy
          refine dw_step (C := Cn) (by simp only [go_sem, hr, q0, q11, q12, p0, p11, p12, n0, n11, n12, e0]; exact rfl) (fun h => by cases h) ?_ ?_
          · try simp only [go_sem, hr, q0, q11, q12, p0, p11, p12, n0, n11, n12, e0]
            all_goals (first | done | (repeat' (with_reducible apply And.intro)) <;> first | omega | (with_reducible assumption) | (intros; omega) | (intros; simp only [decide_eq_true_eq, decide_eq_false_iff_not, Bool.or_eq_true, Bool.and_eq_true, Bool.or_eq_false_iff, Bool.not_eq_true', Bool.not_eq_false'] at *; omega) | (simp_all; done) | (simp_all; omega))
          refine dw_cond (by simp only [go_sem, hr, q0, q11, q12, p0, p11, p12, n0, n11, n12, e0]; exact rfl) (fun c10 => ?_) (fun c10 => ?_)
          · skip
            simp at c10
          · skip
            refine dw_skip ?_
            show ∃ _, _
            refine ⟨(s.j, _), ⟨(by first | (first | (rw [nxt, decide_eq_true hy, c10]; rfl) | (rw [nxt, decide_eq_false hy]; rfl)) | (dsimp only; first | (rw [nxt, decide_eq_true hy, c10]; rfl) | (rw [nxt, decide_eq_false hy]; rfl))), (by first | (first | omega | (with_reducible assumption) | (simp_all; done) | (simp_all; omega)) | (dsimp only; first | omega | (with_reducible assumption) | (simp_all; done) | (simp_all; omega))), trivial⟩, ?_, ?_, ?_, Nat.le_refl _, rfl, rfl⟩
            · try simp only [go_sem, hr, q0, q11, q12, p0, p11, p12, n0, n11, n12, e0]
              all_goals (first | done | (simp [Sp.d]; done) | (simp [Sp.d]; omega))
            · try simp only [go_sem, hr, q0, q11, q12, p0, p11, p12, n0, n11, n12, e0]
              all_goals (first | done | (simp [Sp.d]; done) | (simp [Sp.d]; omega))
            · try simp only [go_sem, hr, q0, q11, q12, p0, p11, p12, n0, n11, n12, e0]
              all_goals (first | done | (simp [Sp.d]; done) | (simp [Sp.d]; omega))
      rintro ⟨j2, nx⟩ ⟨hj2, hr, -⟩
      show DW _ _ _ _ { n := _, t := tab _, h := _, nx := _, e := _ }
      simp only [List.cons_append, List.nil_append]
      have n0 : 0 < nx := by omega
      have n11 : 11 < nx := by omega
      have n12 : 12 < nx := by omega
      refine dw_seq ?_
      refine dw_yield (C := Cn) (r := rL) 9 (arr_at rfl) rfl rfl rfl (by simp only [List.take_succ_cons, List.take_zero, go_sem, hr, q0, q11, q12, p0, p11, p12, n0, n11, n12, odd_cast]; exact rfl) ?_ (by simp only [go_sem, hr, q0, q11, q12, p0, p11, p12, n0, n11, n12, odd_cast]; exact rfl) (by first | (simp only [go_sem, hr, q0, q11, q12, p0, p11, p12, n0, n11, n12, odd_cast]; done) | (simp only [go_sem, hr, q0, q11, q12, p0, p11, p12, n0, n11, n12, odd_cast]; exact rfl)) (by simp only [go_sem, hr, q0, q11, q12, p0, p11, p12, n0, n11, n12, odd_cast]) (by simp only [go_sem, hr, q0, q11, q12, p0, p11, p12, n0, n11, n12, odd_cast]; exact rfl) (by rw [hp]; rfl) (by rw [hp, hn]; show ∀ p ∈ [24, 25], p < 54; decide) ?_
      · try simp only [go_sem, hr, q0, q11, q12, p0, p11, p12, n0, n11, n12, odd_cast]
        all_goals (first | done | (repeat' (with_reducible apply And.intro)) <;> first | omega | (with_reducible assumption) | (intros; omega) | (intros; simp only [decide_eq_true_eq, decide_eq_false_iff_not, Bool.or_eq_true, Bool.and_eq_true, Bool.or_eq_false_iff, Bool.not_eq_true', Bool.not_eq_false'] at *; omega) | (simp_all; done) | (simp_all; omega))
      rw [ha, hb, hp, hn]
      show DW _ _ _ _ { n := _, t := setPs _ [24, 25] _, h := _, nx := _ }
      simp only [setPs_cons, setPs_nil]
      refine dw_step (C := Cn) (by simp only [go_sem, hr, q0, q11, q12, p0, p11, p12, n0, n11, n12]; exact rfl) (fun h => by cases h) ?_ ?_
      · try simp only [go_sem, hr, q0, q11, q12, p0, p11, p12, n0, n11, n12]
        all_goals (first | done | (repeat' (with_reducible apply And.intro)) <;> first | omega | (with_reducible assumption) | (intros; omega) | (intros; simp only [decide_eq_true_eq, decide_eq_false_iff_not, Bool.or_eq_true, Bool.and_eq_true, Bool.or_eq_false_iff, Bool.not_eq_true', Bool.not_eq_false'] at *; omega) | (simp_all; done) | (simp_all; omega))
      refine dw_reg (C := Cn) (by simp only [go_sem, hr, q0, q11, q12, p0, p11, p12, n0, n11, n12]; exact rfl) (fun h => by cases h) ?_ ?_
      · try simp only [go_sem, hr, q0, q11, q12, p0, p11, p12, n0, n11, n12]
        all_goals (first | done | (repeat' (with_reducible apply And.intro)) <;> first | omega | (with_reducible assumption) | (intros; omega) | (intros; simp only [decide_eq_true_eq, decide_eq_false_iff_not, Bool.or_eq_true, Bool.and_eq_true, Bool.or_eq_false_iff, Bool.not_eq_true', Bool.not_eq_false'] at *; omega) | (simp_all; done) | (simp_all; omega))
      refine ⟨rfl, ?_⟩
      refine dw_block ?_
      refine dw_step (C := Cn) (by simp only [go_sem, hr, q0, q11, q12, p0, p11, p12, n0, n11, n12]; exact rfl) (fun h => by cases h) ?_ ?_
      · try simp only [go_sem, hr, q0, q11, q12, p0, p11, p12, n0, n11, n12]
        all_goals (first | done | ((repeat' (with_reducible apply And.intro)) <;> first | omega | exact minus1_ct _ _))
      refine dw_join (α := (Int) × Nat) [8, 9, 10, 12] (fun ⟨fr1, nx⟩ => (fr1 = if cnt 40 (odd i2) (odd j2) && decide (s.fr < 0) then t2 else s.fr) ∧ (r < nx) ∧ True) (fun ⟨fr1, nx⟩ => []) (fun ⟨fr1, nx⟩ => [(0, ⟨49, [[.fn (.func 40) [] []]]⟩), (11, ⟨22, [[.mrow r 0 s.out.length]]⟩), (12, ⟨3, [[.i fr1]]⟩), (r, ⟨34, s.out.map Sp.d⟩)]) (fun ⟨fr1, nx⟩ => nx) (by simp only [List.map_cons, List.map_nil, go_sem, hr, q0, q11, q12, p0, p11, p12, n0, n11, n12]; exact rfl) ?_ ?_
      · skip
        refine dw_step (C := Cn) (by simp only [go_sem, hr, q0, q11, q12, p0, p11, p12, n0, n11, n12]; exact rfl) (fun h => by cases h) ?_ ?_
        · try simp only [go_sem, hr, q0, q11, q12, p0, p11, p12, n0, n11, n12]
          all_goals (first | done | (repeat' (with_reducible apply And.intro)) <;> first | omega | (with_reducible assumption) | (intros; omega) | (intros; simp only [decide_eq_true_eq, decide_eq_false_iff_not, Bool.or_eq_true, Bool.and_eq_true, Bool.or_eq_false_iff, Bool.not_eq_true', Bool.not_eq_false'] at *; omega) | (simp_all; done) | (simp_all; omega))
        refine dw_cond (by simp only [go_sem, hr, q0, q11, q12, p0, p11, p12, n0, n11, n12]; exact rfl) (fun c9 => ?_) (fun c9 => ?_)
        · skip
          refine dw_reg (C := Cn) (by simp only [go_sem, hr, q0, q11, q12, p0, p11, p12, n0, n11, n12]; exact rfl) (fun h => by cases h) ?_ ?_
          · try simp only [go_sem, hr, q0, q11, q12, p0, p11, p12, n0, n11, n12]
            all_goals (first | done | (repeat' (with_reducible apply And.intro)) <;> first | omega | (with_reducible assumption) | (intros; omega) | (intros; simp only [decide_eq_true_eq, decide_eq_false_iff_not, Bool.or_eq_true, Bool.and_eq_true, Bool.or_eq_false_iff, Bool.not_eq_true', Bool.not_eq_false'] at *; omega) | (simp_all; done) | (simp_all; omega))
          show ∃ _, _
          refine ⟨(t2, _), ⟨(by first | (rw [if_pos c9]) | (dsimp only; rw [if_pos c9])), (by first | (first | omega | (with_reducible assumption) | (simp_all; done) | (simp_all; omega)) | (dsimp only; first | omega | (with_reducible assumption) | (simp_all; done) | (simp_all; omega))), trivial⟩, ?_, ?_, ?_, Nat.le_refl _, rfl, rfl⟩
          · try simp only [go_sem, hr, q0, q11, q12, p0, p11, p12, n0, n11, n12]
            all_goals (first | done | (simp [Sp.d]; done) | (simp [Sp.d]; omega))
          · try simp only [go_sem, hr, q0, q11, q12, p0, p11, p12, n0, n11, n12]
            all_goals (first | done | (simp [Sp.d]; done) | (simp [Sp.d]; omega))
          · try simp only [go_sem, hr, q0, q11, q12, p0, p11, p12, n0, n11, n12]
            all_goals (first | done | (simp [Sp.d]; done) | (simp [Sp.d]; omega))
        · skip
          refine dw_skip ?_
          show ∃ _, _
          refine ⟨(s.fr, _), ⟨(by first | (rw [if_neg (by rw [c9]; simp)]) | (dsimp only; rw [if_neg (by rw [c9]; simp)])), (by first | (first | omega | (with_reducible assumption) | (simp_all; done) | (simp_all; omega)) | (dsimp only; first | omega | (with_reducible assumption) | (simp_all; done) | (simp_all; omega))), trivial⟩, ?_, ?_, ?_, Nat.le_refl _, rfl, rfl⟩
          · try simp only [go_sem, hr, q0, q11, q12, p0, p11, p12, n0, n11, n12]
            all_goals (first | done | (simp [Sp.d]; done) | (simp [Sp.d]; omega))
          · try simp only [go_sem, hr, q0, q11, q12, p0, p11, p12, n0, n11, n12]
            all_goals (first | done | (simp [Sp.d]; done) | (simp [Sp.d]; omega))
          · try simp only [go_sem, hr, q0, q11, q12, p0, p11, p12, n0, n11, n12]
            all_goals (first | done | (simp [Sp.d]; done) | (simp [Sp.d]; omega))
      rintro ⟨fr1, nx⟩ ⟨hf, hr, -⟩
      show DW _ _ _ _ { n := _, t := tab _, h := _, nx := _, e := _ }
      simp only [List.cons_append, List.nil_append]
      have n0 : 0 < nx := by omega
      have n11 : 11 < nx := by omega
      have n12 : 12 < nx := by omega
      refine dw_step (C := Cn) (by simp only [go_sem, hr, q0, q11, q12, p0, p11, p12, n0, n11, n12]; exact rfl) (fun h => by cases h) ?_ ?_
      · try simp only [go_sem, hr, q0, q11, q12, p0, p11, p12, n0, n11, n12]
        all_goals (first | done | (repeat' (with_reducible apply And.intro)) <;> first | omega | (with_reducible assumption) | (intros; omega) | (intros; simp only [decide_eq_true_eq, decide_eq_false_iff_not, Bool.or_eq_true, Bool.and_eq_true, Bool.or_eq_false_iff, Bool.not_eq_true', Bool.not_eq_false'] at *; omega) | (simp_all; done) | (simp_all; omega))
      refine dw_cond (by simp only [go_sem, hr, q0, q11, q12, p0, p11, p12, n0, n11, n12]; exact rfl) (fun c11 => ?_) (fun c11 => ?_)
      · skip
        refine dw_step (C := Cn) (by simp only [go_sem, hr, q0, q11, q12, p0, p11, p12, n0, n11, n12]; exact rfl) (fun h => by cases h) ?_ ?_
        · try simp only [go_sem, hr, q0, q11, q12, p0, p11, p12, n0, n11, n12]
          all_goals (first | done | (repeat' (with_reducible apply And.intro)) <;> first | omega | (with_reducible assumption) | (intros; omega) | (intros; simp only [decide_eq_true_eq, decide_eq_false_iff_not, Bool.or_eq_true, Bool.and_eq_true, Bool.or_eq_false_iff, Bool.not_eq_true', Bool.not_eq_false'] at *; omega) | (simp_all; done) | (simp_all; omega))
        refine dw_reg (C := Cn) (by simp only [go_sem, hr, q0, q11, q12, p0, p11, p12, n0, n11, n12]; exact rfl) (fun h => by cases h) ?_ ?_
        · try simp only [go_sem, hr, q0, q11, q12, p0, p11, p12, n0, n11, n12]
          all_goals (first | done | (repeat' (with_reducible apply And.intro)) <;> first | omega | (with_reducible assumption) | (intros; omega) | (intros; simp only [decide_eq_true_eq, decide_eq_false_iff_not, Bool.or_eq_true, Bool.and_eq_true, Bool.or_eq_false_iff, Bool.not_eq_true', Bool.not_eq_false'] at *; omega) | (simp_all; done) | (simp_all; omega))
        refine ⟨rfl, true, none, ⟨rfl, rfl⟩, ⟨_, _, _, _, _, _⟩, by simp only [List.drop_succ_cons, List.drop_zero, S.put, go_sem, hr, q0, q11, q12, p0, p11, p12, n0, n11, n12, odd_cast]; exact rfl, ?_, ?_⟩
        · try simp only [go_sem, hr, q0, q11, q12, p0, p11, p12, n0, n11, n12, odd_cast]
          all_goals (first | done | (repeat' (with_reducible apply And.intro)) <;> first | omega | (with_reducible assumption) | (intros; omega) | (intros; simp only [decide_eq_true_eq, decide_eq_false_iff_not, Bool.or_eq_true, Bool.and_eq_true, Bool.or_eq_false_iff, Bool.not_eq_true', Bool.not_eq_false'] at *; omega) | (simp_all; done) | (simp_all; omega))
        try simp only [clear_eq]
        show DW _ _ _ _ _
        refine dw_cond (by simp only [go_sem, hr, q0, q11, q12, p0, p11, p12, n0, n11, n12, odd_cast]; exact rfl) (fun c28 => ?_) (fun c28 => ?_)
        · skip
          simp at *
        · skip
          try simp only [decide_eq_true_eq, decide_eq_false_iff_not, Bool.or_eq_true, Bool.and_eq_true, Bool.or_eq_false_iff, Bool.not_eq_true', Bool.not_eq_false'] at c28
          refine dw_skip ?_
          show ∃ _, _
          have hst := inv_step hva hvb hI hlt
          rw [stepSw_close ht2 hi2 hj2 hf c11] at hst
          refine ⟨(⟨i2, j2, -1, s.out ++ [⟨fr1, t2⟩]⟩, (nx + 11), _), ⟨(by first | (exact hst.1) | (dsimp only; exact hst.1)), (by first | (first | omega | (with_reducible assumption) | (simp_all; done) | (simp_all; omega)) | (dsimp only; first | omega | (with_reducible assumption) | (simp_all; done) | (simp_all; omega))), (by first | (first | omega | (with_reducible assumption) | (simp_all; done) | (simp_all; omega)) | (dsimp only; first | omega | (with_reducible assumption) | (simp_all; done) | (simp_all; omega))), trivial⟩, (by show (_ : Nat) < _; exact hst.2), ?_, ?_, ?_, Nat.le_refl _, rfl, rfl⟩
          · try simp only [go_sem, hr, q0, q11, q12, p0, p11, p12, n0, n11, n12]
            all_goals (first | done | (simp [Sp.d]; done) | (simp [Sp.d]; omega))
          · try simp only [go_sem, hr, q0, q11, q12, p0, p11, p12, n0, n11, n12]
            all_goals (first | done | (simp [Sp.d]; done) | (simp [Sp.d]; omega))
          · try simp only [go_sem, hr, q0, q11, q12, p0, p11, p12, n0, n11, n12]
            all_goals (first | done | (simp [Sp.d]; done) | (simp [Sp.d]; omega))
      · skip
        refine dw_skip ?_
        refine ⟨rfl, true, none, ⟨rfl, rfl⟩, ⟨_, _, _, _, _, _⟩, by simp only [List.drop_succ_cons, List.drop_zero, S.put, go_sem, hr, q0, q11, q12, p0, p11, p12, n0, n11, n12, odd_cast]; exact rfl, ?_, ?_⟩
        · try simp only [go_sem, hr, q0, q11, q12, p0, p11, p12, n0, n11, n12, odd_cast]
          all_goals (first | done | (repeat' (with_reducible apply And.intro)) <;> first | omega | (with_reducible assumption) | (intros; omega) | (intros; simp only [decide_eq_true_eq, decide_eq_false_iff_not, Bool.or_eq_true, Bool.and_eq_true, Bool.or_eq_false_iff, Bool.not_eq_true', Bool.not_eq_false'] at *; omega) | (simp_all; done) | (simp_all; omega))
        try simp only [clear_eq]
        show DW _ _ _ _ _
        refine dw_cond (by simp only [go_sem, hr, q0, q11, q12, p0, p11, p12, n0, n11, n12, odd_cast]; exact rfl) (fun c29 => ?_) (fun c29 => ?_)
        · skip
          simp at *
        · skip
          try simp only [decide_eq_true_eq, decide_eq_false_iff_not, Bool.or_eq_true, Bool.and_eq_true, Bool.or_eq_false_iff, Bool.not_eq_true', Bool.not_eq_false'] at c29
          refine dw_skip ?_
          show ∃ _, _
          have hst := inv_step hva hvb hI hlt
          rw [stepSw_keep ht2 hi2 hj2 hf c11] at hst
          refine ⟨(⟨i2, j2, fr1, s.out⟩, r, _), ⟨(by first | (exact hst.1) | (dsimp only; exact hst.1)), (by first | (first | omega | (with_reducible assumption) | (simp_all; done) | (simp_all; omega)) | (dsimp only; first | omega | (with_reducible assumption) | (simp_all; done) | (simp_all; omega))), (by first | (first | omega | (with_reducible assumption) | (simp_all; done) | (simp_all; omega)) | (dsimp only; first | omega | (with_reducible assumption) | (simp_all; done) | (simp_all; omega))), trivial⟩, (by show (_ : Nat) < _; exact hst.2), ?_, ?_, ?_, Nat.le_refl _, rfl, rfl⟩
          · try simp only [go_sem, hr, q0, q11, q12, p0, p11, p12, n0, n11, n12]
            all_goals (first | done | (simp [Sp.d]; done) | (simp [Sp.d]; omega))
          · try simp only [go_sem, hr, q0, q11, q12, p0, p11, p12, n0, n11, n12]
            all_goals (first | done | (simp [Sp.d]; done) | (simp [Sp.d]; omega))
          · try simp only [go_sem, hr, q0, q11, q12, p0, p11, p12, n0, n11, n12]
            all_goals (first | done | (simp [Sp.d]; done) | (simp [Sp.d]; omega))
    · skip
      have hend : ¬ (s.i < (flatL a).length ∨ s.j < (flatL b).length) := by simpa using c2
      refine dw_exit ?_
      refine ⟨.inl rfl, none, rfl, ?_⟩
      show DW _ _ _ _ _
      refine dw_seq ?_
      refine dw_step (C := Cn) (by simp only [go_sem, hr, q0, q11, q12, p0, p11, p12, n0, n11, n12]; exact rfl) (fun h => by cases h) ?_ ?_
      · try simp only [go_sem, hr, q0, q11, q12, p0, p11, p12, n0, n11, n12]
        all_goals (first | done | (repeat' (with_reducible apply And.intro)) <;> first | omega | (with_reducible assumption) | (intros; omega) | (intros; simp only [decide_eq_true_eq, decide_eq_false_iff_not, Bool.or_eq_true, Bool.and_eq_true, Bool.or_eq_false_iff, Bool.not_eq_true', Bool.not_eq_false'] at *; omega) | (simp_all; done) | (simp_all; omega))
      refine dw_cond (by simp only [go_sem, hr, q0, q11, q12, p0, p11, p12, n0, n11, n12]; exact rfl) (fun c14 => ?_) (fun c14 => ?_)
      · skip
        try simp only [decide_eq_true_eq, decide_eq_false_iff_not, Bool.or_eq_true, Bool.and_eq_true, Bool.or_eq_false_iff, Bool.not_eq_true', Bool.not_eq_false'] at c14
        refine dw_step (C := Cn) (by simp only [go_sem, hr, q0, q11, q12, p0, p11, p12, n0, n11, n12]; exact rfl) (fun h => by cases h) ?_ ?_
        · try simp only [go_sem, hr, q0, q11, q12, p0, p11, p12, n0, n11, n12]
          all_goals (first | done | (repeat' (with_reducible apply And.intro)) <;> first | omega | (with_reducible assumption) | (intros; omega) | (intros; simp only [decide_eq_true_eq, decide_eq_false_iff_not, Bool.or_eq_true, Bool.and_eq_true, Bool.or_eq_false_iff, Bool.not_eq_true', Bool.not_eq_false'] at *; omega) | (simp_all; done) | (simp_all; omega))
        refine dw_ret ?_
        refine ⟨.inr rfl, ?_, ?_⟩
        · simp only [go_sem, hr, q0, q11, q12, p0, p11, p12, n0, n11, n12]
        refine ⟨2, ?_, ?_⟩
        · try simp only [go_sem, hr, q0, q11, q12, p0, p11, p12, n0, n11, n12]
          all_goals (simp)
        · try simp only [go_sem, hr, q0, q11, q12, p0, p11, p12, n0, n11, n12]
          all_goals (rw [sweep_out (by decide) hv1.1 hv1.2 hI hend, rlimited, if_pos c14]; rfl)
      · skip
        try simp only [decide_eq_true_eq, decide_eq_false_iff_not, Bool.or_eq_true, Bool.and_eq_true, Bool.or_eq_false_iff, Bool.not_eq_true', Bool.not_eq_false'] at c14
        refine dw_skip ?_
        show DW _ _ _ _ _
        refine dw_step (C := Cn) (by simp only [go_sem, hr, q0, q11, q12, p0, p11, p12, n0, n11, n12]; exact rfl) (fun h => by cases h) ?_ ?_
        · try simp only [go_sem, hr, q0, q11, q12, p0, p11, p12, n0, n11, n12]
          all_goals (first | done | (repeat' (with_reducible apply And.intro)) <;> first | omega | (with_reducible assumption) | (intros; omega) | (intros; simp only [decide_eq_true_eq, decide_eq_false_iff_not, Bool.or_eq_true, Bool.and_eq_true, Bool.or_eq_false_iff, Bool.not_eq_true', Bool.not_eq_false'] at *; omega) | (simp_all; done) | (simp_all; omega))
        refine dw_ret ?_
        refine ⟨.inr rfl, ?_, ?_⟩
        · simp only [go_sem, hr, q0, q11, q12, p0, p11, p12, n0, n11, n12]
        refine ⟨2, ?_, ?_⟩
        · try simp only [go_sem, hr, q0, q11, q12, p0, p11, p12, n0, n11, n12]
          all_goals (simp)
        · try simp only [go_sem, hr, q0, q11, q12, p0, p11, p12, n0, n11, n12]
          all_goals (rw [sweep_out (by decide) hv1.1 hv1.2 hI hend, rlimited, if_neg c14])
theorem bo14 : hasBody Try.prog 14 = true := by kernel_rfl
theorem union_ct (a : List Sp) (b : List Sp) : PureCt Try.prog 14 [.list false (a.map Sp.d), .list false (b.map Sp.d)] (.tuple [.list false ((runion a b).1.map Sp.d), .i (runion a b).2]) := by
  refine pure_of_dw Try.func14 rfl bo14 (by simp [go_sem, D.nr, nrs, Sp.d]) (by simp [Try.f14]) ?_
  unfold Try.f14
  simp only [init_eq]
  refine dw_step (C := Cn) (by simp only [go_sem]; exact rfl) (fun h => by cases h) ?_ ?_
  · try simp only [go_sem]
    all_goals (first | done | (repeat' (with_reducible apply And.intro)) <;> first | omega | (with_reducible assumption) | (intros; omega) | (intros; simp only [decide_eq_true_eq, decide_eq_false_iff_not, Bool.or_eq_true, Bool.and_eq_true, Bool.or_eq_false_iff, Bool.not_eq_true', Bool.not_eq_false'] at *; omega) | (simp_all; done) | (simp_all; omega))
  refine dw_step (C := Cn) (by simp only [go_sem]; exact rfl) (fun h => by cases h) ?_ ?_
  · try simp only [go_sem]
    all_goals (first | done | exact ⟨sweep35_ct _ _, by simp⟩ | exact sweep35_ct _ _)
  refine dw_ret ?_
  refine ⟨.inr rfl, ?_, ?_⟩
  · simp only [go_sem]
  refine ⟨1, ?_, ?_⟩
  · try simp only [go_sem]
    all_goals (simp)
  · try simp only [go_sem]
    all_goals (rfl)
theorem bo16 : hasBody Try.prog 16 = true := by kernel_rfl
theorem cross_ct (a : List Sp) (b : List Sp) : PureCt Try.prog 16 [.list false (a.map Sp.d), .list false (b.map Sp.d)] (.tuple [.list false ((rcross a b).1.map Sp.d), .i (rcross a b).2]) := by
  refine pure_of_dw Try.func16 rfl bo16 (by simp [go_sem, D.nr, nrs, Sp.d]) (by simp [Try.f16]) ?_
  unfold Try.f16
  simp only [init_eq]
  refine dw_step (C := Cn) (by simp only [go_sem]; exact rfl) (fun h => by cases h) ?_ ?_
  · try simp only [go_sem]
    all_goals (first | done | (repeat' (with_reducible apply And.intro)) <;> first | omega | (with_reducible assumption) | (intros; omega) | (intros; simp only [decide_eq_true_eq, decide_eq_false_iff_not, Bool.or_eq_true, Bool.and_eq_true, Bool.or_eq_false_iff, Bool.not_eq_true', Bool.not_eq_false'] at *; omega) | (simp_all; done) | (simp_all; omega))
  refine dw_step (C := Cn) (by simp only [go_sem]; exact rfl) (fun h => by cases h) ?_ ?_
  · try simp only [go_sem]
    all_goals (first | done | exact ⟨sweep38_ct _ _, by simp⟩ | exact sweep38_ct _ _)
  refine dw_ret ?_
  refine ⟨.inr rfl, ?_, ?_⟩
  · simp only [go_sem]
  refine ⟨1, ?_, ?_⟩
  · try simp only [go_sem]
    all_goals (simp)
  · try simp only [go_sem]
    all_goals (rfl)
theorem bo18 : hasBody Try.prog 18 = true := by kernel_rfl
theorem minus_ct (a : List Sp) (b : List Sp) : PureCt Try.prog 18 [.list false (a.map Sp.d), .list false (b.map Sp.d)] (.tuple [.list false ((rminus a b).1.map Sp.d), .i (rminus a b).2]) := by
  refine pure_of_dw Try.func18 rfl bo18 (by simp [go_sem, D.nr, nrs, Sp.d]) (by simp [Try.f18]) ?_
  unfold Try.f18
  simp only [init_eq]
  refine dw_step (C := Cn) (by simp only [go_sem]; exact rfl) (fun h => by cases h) ?_ ?_
  · try simp only [go_sem]
    all_goals (first | done | (repeat' (with_reducible apply And.intro)) <;> first | omega | (with_reducible assumption) | (intros; omega) | (intros; simp only [decide_eq_true_eq, decide_eq_false_iff_not, Bool.or_eq_true, Bool.and_eq_true, Bool.or_eq_false_iff, Bool.not_eq_true', Bool.not_eq_false'] at *; omega) | (simp_all; done) | (simp_all; omega))
  refine dw_step (C := Cn) (by simp only [go_sem]; exact rfl) (fun h => by cases h) ?_ ?_
  · try simp only [go_sem]
    all_goals (first | done | exact ⟨sweep40_ct _ _, by simp⟩ | exact sweep40_ct _ _)
  refine dw_ret ?_
  refine ⟨.inr rfl, ?_, ?_⟩
  · simp only [go_sem]
  refine ⟨1, ?_, ?_⟩
  · try simp only [go_sem]
    all_goals (simp)
  · try simp only [go_sem]
    all_goals (rfl)
end Go.Proofs.Ytfcdbijmoiegiaa
