import Derived.Test.YtfcdbijmoiegiaaSpanW5
namespace Go.Proofs.Ytfcdbijmoiegiaa
open Go.DL Go.Span
set_option maxRecDepth 10000
set_option linter.unusedSimpArgs false
set_option linter.unusedVariables false

theorem _root_.Go.DL.PureCt.as {P : Program} {f : FuncId} {args : List D} {r r' : D} (h : PureCt P f args r) (e : r = r') : PureCt P f args r' := e ▸ h
theorem spansL_ct (rows : List (List D)) (h : (rows.map iOf).map iD = rows) (hl : (rows.map iOf).length ≤ 1000) : PureCt Try.prog 26 [.list false rows] (.list false ((spans (rows.map iOf)).map Sp.d)) := by
  have := spans_ct (rows.map iOf) hl
  rwa [h] at this
theorem rsame_self_ct (a : List Sp) : PureCt Try.prog 13 [.list false (a.map Sp.d), .list false (a.map Sp.d)] (.b true) := by
  have := rsame_ct a a
  rwa [rsame_self] at this
theorem validr_ct (a : List Sp) : PureCt Try.prog 22 [.list false (a.map Sp.d)] (.b (rvalid a)) := by
  have := valid_ct a
  rwa [valid_eq] at this
theorem bo9 : hasBody Try.prog 9 = true := by kernel_rfl
theorem head_ct  : PureCt Try.prog 9 [] (.b true) := by
  refine pure_of_dw Try.func9 rfl bo9 (by simp [go_sem, D.nr, nrs, Sp.d]) (by simp [Try.f9]) ?_
  unfold Try.f9
  simp only [init_eq]
  refine dw_step (C := Cn) (by simp only [go_sem]; exact rfl) (fun h => by cases h) ?_ ?_
  · try simp only [go_sem]
    all_goals (first | done | ((repeat' (with_reducible apply And.intro)) <;> (intros; first | done | omega | rfl | exact spansL_ct _ rfl (by first | omega | exact of_decide_eq_true (by kernel_rfl)) | exact normal_ct _ (by first | omega | exact of_decide_eq_true (by kernel_rfl)) | exact rnormal_ct _ (by first | omega | exact of_decide_eq_true (by kernel_rfl)) | exact cross_ct _ _ | exact minus_ct _ _ | exact grow_ct _ _ _ | exact union_ct _ [] | exact union_ct _ _ | exact rsame_ct _ _ | exact rsame_self_ct _ | exact validr_ct _ | exact valid_ct _ | exact has_ct _ _ | exact rvalid_ct _ | exact rhas_ct _ _ | exact rfew_ct _ | exact runion_ct _ _ | exact rcross_ct _ _ | exact rminus_ct _ _ | exact rgrow_ct _ _ _ | exact head_ct)))
  refine dw_step (C := Cn) (by simp only [go_sem]; exact rfl) (fun h => by cases h) ?_ ?_
  · try simp only [go_sem]
    all_goals (first | done | ((repeat' (with_reducible apply And.intro)) <;> (intros; first | done | omega | rfl | exact spansL_ct _ rfl (by first | omega | exact of_decide_eq_true (by kernel_rfl)) | exact normal_ct _ (by first | omega | exact of_decide_eq_true (by kernel_rfl)) | exact rnormal_ct _ (by first | omega | exact of_decide_eq_true (by kernel_rfl)) | exact cross_ct _ _ | exact minus_ct _ _ | exact grow_ct _ _ _ | exact union_ct _ [] | exact union_ct _ _ | exact rsame_ct _ _ | exact rsame_self_ct _ | exact validr_ct _ | exact valid_ct _ | exact has_ct _ _ | exact rvalid_ct _ | exact rhas_ct _ _ | exact rfew_ct _ | exact runion_ct _ _ | exact rcross_ct _ _ | exact rminus_ct _ _ | exact rgrow_ct _ _ _ | exact head_ct)))
  refine dw_step (C := Cn) (by simp only [go_sem]; exact rfl) (fun h => by cases h) ?_ ?_
  · try simp only [go_sem]
    all_goals (first | done | ((repeat' (with_reducible apply And.intro)) <;> (intros; first | done | omega | rfl | exact spansL_ct _ rfl (by first | omega | exact of_decide_eq_true (by kernel_rfl)) | exact normal_ct _ (by first | omega | exact of_decide_eq_true (by kernel_rfl)) | exact rnormal_ct _ (by first | omega | exact of_decide_eq_true (by kernel_rfl)) | exact cross_ct _ _ | exact minus_ct _ _ | exact grow_ct _ _ _ | exact union_ct _ [] | exact union_ct _ _ | exact rsame_ct _ _ | exact rsame_self_ct _ | exact validr_ct _ | exact valid_ct _ | exact has_ct _ _ | exact rvalid_ct _ | exact rhas_ct _ _ | exact rfew_ct _ | exact runion_ct _ _ | exact rcross_ct _ _ | exact rminus_ct _ _ | exact rgrow_ct _ _ _ | exact head_ct)))
  refine dw_step (C := Cn) (by simp only [go_sem]; exact rfl) (fun h => by cases h) ?_ ?_
  · try simp only [go_sem]
    all_goals (first | done | ((repeat' (with_reducible apply And.intro)) <;> (intros; first | done | omega | rfl | exact spansL_ct _ rfl (by first | omega | exact of_decide_eq_true (by kernel_rfl)) | exact normal_ct _ (by first | omega | exact of_decide_eq_true (by kernel_rfl)) | exact rnormal_ct _ (by first | omega | exact of_decide_eq_true (by kernel_rfl)) | exact cross_ct _ _ | exact minus_ct _ _ | exact grow_ct _ _ _ | exact union_ct _ [] | exact union_ct _ _ | exact rsame_ct _ _ | exact rsame_self_ct _ | exact validr_ct _ | exact valid_ct _ | exact has_ct _ _ | exact rvalid_ct _ | exact rhas_ct _ _ | exact rfew_ct _ | exact runion_ct _ _ | exact rcross_ct _ _ | exact rminus_ct _ _ | exact rgrow_ct _ _ _ | exact head_ct)))
  refine dw_step (C := Cn) (by simp only [go_sem]; exact rfl) (fun h => by cases h) ?_ ?_
  · try simp only [go_sem]
    all_goals (first | done | ((repeat' (with_reducible apply And.intro)) <;> (intros; first | done | omega | rfl | exact spansL_ct _ rfl (by first | omega | exact of_decide_eq_true (by kernel_rfl)) | exact normal_ct _ (by first | omega | exact of_decide_eq_true (by kernel_rfl)) | exact rnormal_ct _ (by first | omega | exact of_decide_eq_true (by kernel_rfl)) | exact cross_ct _ _ | exact minus_ct _ _ | exact grow_ct _ _ _ | exact union_ct _ [] | exact union_ct _ _ | exact rsame_ct _ _ | exact rsame_self_ct _ | exact validr_ct _ | exact valid_ct _ | exact has_ct _ _ | exact rvalid_ct _ | exact rhas_ct _ _ | exact rfew_ct _ | exact runion_ct _ _ | exact rcross_ct _ _ | exact rminus_ct _ _ | exact rgrow_ct _ _ _ | exact head_ct)))
  refine dw_step (C := Cn) (by simp only [go_sem]; exact rfl) (fun h => by cases h) ?_ ?_
  · try simp only [go_sem]
    all_goals (first | done | ((repeat' (with_reducible apply And.intro)) <;> (intros; first | done | omega | rfl | exact spansL_ct _ rfl (by first | omega | exact of_decide_eq_true (by kernel_rfl)) | exact normal_ct _ (by first | omega | exact of_decide_eq_true (by kernel_rfl)) | exact rnormal_ct _ (by first | omega | exact of_decide_eq_true (by kernel_rfl)) | exact cross_ct _ _ | exact minus_ct _ _ | exact grow_ct _ _ _ | exact union_ct _ [] | exact union_ct _ _ | exact rsame_ct _ _ | exact rsame_self_ct _ | exact validr_ct _ | exact valid_ct _ | exact has_ct _ _ | exact rvalid_ct _ | exact rhas_ct _ _ | exact rfew_ct _ | exact runion_ct _ _ | exact rcross_ct _ _ | exact rminus_ct _ _ | exact rgrow_ct _ _ _ | exact head_ct)))
  refine dw_step (C := Cn) (by simp only [go_sem]; exact rfl) (fun h => by cases h) ?_ ?_
  · try simp only [go_sem]
    all_goals (first | done | ((repeat' (with_reducible apply And.intro)) <;> (intros; first | done | omega | rfl | exact spansL_ct _ rfl (by first | omega | exact of_decide_eq_true (by kernel_rfl)) | exact normal_ct _ (by first | omega | exact of_decide_eq_true (by kernel_rfl)) | exact rnormal_ct _ (by first | omega | exact of_decide_eq_true (by kernel_rfl)) | exact cross_ct _ _ | exact minus_ct _ _ | exact grow_ct _ _ _ | exact union_ct _ [] | exact union_ct _ _ | exact rsame_ct _ _ | exact rsame_self_ct _ | exact validr_ct _ | exact valid_ct _ | exact has_ct _ _ | exact rvalid_ct _ | exact rhas_ct _ _ | exact rfew_ct _ | exact runion_ct _ _ | exact rcross_ct _ _ | exact rminus_ct _ _ | exact rgrow_ct _ _ _ | exact head_ct)))
  refine dw_step (C := Cn) (by simp only [go_sem]; exact rfl) (fun h => by cases h) ?_ ?_
  · try simp only [go_sem]
    all_goals (first | done | ((repeat' (with_reducible apply And.intro)) <;> (intros; first | done | omega | rfl | exact spansL_ct _ rfl (by first | omega | exact of_decide_eq_true (by kernel_rfl)) | exact normal_ct _ (by first | omega | exact of_decide_eq_true (by kernel_rfl)) | exact rnormal_ct _ (by first | omega | exact of_decide_eq_true (by kernel_rfl)) | exact cross_ct _ _ | exact minus_ct _ _ | exact grow_ct _ _ _ | exact union_ct _ [] | exact union_ct _ _ | exact rsame_ct _ _ | exact rsame_self_ct _ | exact validr_ct _ | exact valid_ct _ | exact has_ct _ _ | exact rvalid_ct _ | exact rhas_ct _ _ | exact rfew_ct _ | exact runion_ct _ _ | exact rcross_ct _ _ | exact rminus_ct _ _ | exact rgrow_ct _ _ _ | exact head_ct)))
  refine dw_step (C := Cn) (by simp only [go_sem]; exact rfl) (fun h => by cases h) ?_ ?_
  · try simp only [go_sem]
    all_goals (first | done | ((repeat' (with_reducible apply And.intro)) <;> (intros; first | done | omega | rfl | exact spansL_ct _ rfl (by first | omega | exact of_decide_eq_true (by kernel_rfl)) | exact normal_ct _ (by first | omega | exact of_decide_eq_true (by kernel_rfl)) | exact rnormal_ct _ (by first | omega | exact of_decide_eq_true (by kernel_rfl)) | exact cross_ct _ _ | exact minus_ct _ _ | exact grow_ct _ _ _ | exact union_ct _ [] | exact union_ct _ _ | exact rsame_ct _ _ | exact rsame_self_ct _ | exact validr_ct _ | exact valid_ct _ | exact has_ct _ _ | exact rvalid_ct _ | exact rhas_ct _ _ | exact rfew_ct _ | exact runion_ct _ _ | exact rcross_ct _ _ | exact rminus_ct _ _ | exact rgrow_ct _ _ _ | exact head_ct)))
  refine dw_step (C := Cn) (by simp only [go_sem]; exact rfl) (fun h => by cases h) ?_ ?_
  · try simp only [go_sem]
    all_goals (first | done | ((repeat' (with_reducible apply And.intro)) <;> (intros; first | done | omega | rfl | exact spansL_ct _ rfl (by first | omega | exact of_decide_eq_true (by kernel_rfl)) | exact normal_ct _ (by first | omega | exact of_decide_eq_true (by kernel_rfl)) | exact rnormal_ct _ (by first | omega | exact of_decide_eq_true (by kernel_rfl)) | exact cross_ct _ _ | exact minus_ct _ _ | exact grow_ct _ _ _ | exact union_ct _ [] | exact union_ct _ _ | exact rsame_ct _ _ | exact rsame_self_ct _ | exact validr_ct _ | exact valid_ct _ | exact has_ct _ _ | exact rvalid_ct _ | exact rhas_ct _ _ | exact rfew_ct _ | exact runion_ct _ _ | exact rcross_ct _ _ | exact rminus_ct _ _ | exact rgrow_ct _ _ _ | exact head_ct)))
  refine dw_step (C := Cn) (by simp only [go_sem]; exact rfl) (fun h => by cases h) ?_ ?_
  · try simp only [go_sem]
    all_goals (first | done | ((repeat' (with_reducible apply And.intro)) <;> (intros; first | done | omega | rfl | exact spansL_ct _ rfl (by first | omega | exact of_decide_eq_true (by kernel_rfl)) | exact normal_ct _ (by first | omega | exact of_decide_eq_true (by kernel_rfl)) | exact rnormal_ct _ (by first | omega | exact of_decide_eq_true (by kernel_rfl)) | exact cross_ct _ _ | exact minus_ct _ _ | exact grow_ct _ _ _ | exact union_ct _ [] | exact union_ct _ _ | exact rsame_ct _ _ | exact rsame_self_ct _ | exact validr_ct _ | exact valid_ct _ | exact has_ct _ _ | exact rvalid_ct _ | exact rhas_ct _ _ | exact rfew_ct _ | exact runion_ct _ _ | exact rcross_ct _ _ | exact rminus_ct _ _ | exact rgrow_ct _ _ _ | exact head_ct)))
  refine dw_ret ?_
  refine ⟨.inr rfl, ?_, ?_⟩
  · simp only [go_sem]
  refine ⟨0, ?_, ?_⟩
  · try simp only [go_sem]
    all_goals (simp)
  · try simp only [go_sem]
    all_goals (kernel_rfl)
theorem bo3 : hasBody Try.prog 3 = true := by kernel_rfl
theorem lawRef_ct (a : List Sp) (b : List Sp) (before : Int) (after : Int) (t : Int) : PureCt Try.prog 3 [.list false (a.map Sp.d), .list false (b.map Sp.d), .i before, .i after, .i t] (.b true) := by
  refine pure_of_dw Try.func3 rfl bo3 (by simp [go_sem, D.nr, nrs, Sp.d]) (by simp [Try.f3]) ?_
  unfold Try.f3
  simp only [init_eq]
  refine dw_step (C := Cn) (by simp only [go_sem, rsame_self, beq_self_eq_true, valid_eq]; exact rfl) (fun h => by cases h) ?_ ?_
  · try simp only [go_sem, rsame_self, beq_self_eq_true, valid_eq]
    all_goals (first | done | ((repeat' (with_reducible apply And.intro)) <;> (intros; first | done | omega | rfl | exact spansL_ct _ rfl (by first | omega | exact of_decide_eq_true (by kernel_rfl)) | exact normal_ct _ (by first | omega | exact of_decide_eq_true (by kernel_rfl)) | exact rnormal_ct _ (by first | omega | exact of_decide_eq_true (by kernel_rfl)) | exact cross_ct _ _ | exact minus_ct _ _ | exact grow_ct _ _ _ | exact union_ct _ [] | exact union_ct _ _ | exact rsame_ct _ _ | exact rsame_self_ct _ | exact validr_ct _ | exact valid_ct _ | exact has_ct _ _ | exact rvalid_ct _ | exact rhas_ct _ _ | exact rfew_ct _ | exact runion_ct _ _ | exact rcross_ct _ _ | exact rminus_ct _ _ | exact rgrow_ct _ _ _ | exact head_ct)))
  refine dw_step (C := Cn) (by simp only [go_sem, rsame_self, beq_self_eq_true, valid_eq]; exact rfl) (fun h => by cases h) ?_ ?_
  · try simp only [go_sem, rsame_self, beq_self_eq_true, valid_eq]
    all_goals (first | done | ((repeat' (with_reducible apply And.intro)) <;> (intros; first | done | omega | rfl | exact spansL_ct _ rfl (by first | omega | exact of_decide_eq_true (by kernel_rfl)) | exact normal_ct _ (by first | omega | exact of_decide_eq_true (by kernel_rfl)) | exact rnormal_ct _ (by first | omega | exact of_decide_eq_true (by kernel_rfl)) | exact cross_ct _ _ | exact minus_ct _ _ | exact grow_ct _ _ _ | exact union_ct _ [] | exact union_ct _ _ | exact rsame_ct _ _ | exact rsame_self_ct _ | exact validr_ct _ | exact valid_ct _ | exact has_ct _ _ | exact rvalid_ct _ | exact rhas_ct _ _ | exact rfew_ct _ | exact runion_ct _ _ | exact rcross_ct _ _ | exact rminus_ct _ _ | exact rgrow_ct _ _ _ | exact head_ct)))
  refine dw_seq ?_
  refine dw_step (C := Cn) (by simp only [go_sem, rsame_self, beq_self_eq_true, valid_eq]; exact rfl) (fun h => by cases h) ?_ ?_
  · try simp only [go_sem, rsame_self, beq_self_eq_true, valid_eq]
    all_goals (first | done | ((repeat' (with_reducible apply And.intro)) <;> (intros; first | done | omega | rfl | exact spansL_ct _ rfl (by first | omega | exact of_decide_eq_true (by kernel_rfl)) | exact normal_ct _ (by first | omega | exact of_decide_eq_true (by kernel_rfl)) | exact rnormal_ct _ (by first | omega | exact of_decide_eq_true (by kernel_rfl)) | exact cross_ct _ _ | exact minus_ct _ _ | exact grow_ct _ _ _ | exact union_ct _ [] | exact union_ct _ _ | exact rsame_ct _ _ | exact rsame_self_ct _ | exact validr_ct _ | exact valid_ct _ | exact has_ct _ _ | exact rvalid_ct _ | exact rhas_ct _ _ | exact rfew_ct _ | exact runion_ct _ _ | exact rcross_ct _ _ | exact rminus_ct _ _ | exact rgrow_ct _ _ _ | exact head_ct)))
  refine dw_cond (by simp only [go_sem, rsame_self, beq_self_eq_true, valid_eq]; exact rfl) (fun c1 => ?_) (fun c1 => ?_)
  · skip
    skip
    refine dw_step (C := Cn) (by simp only [go_sem, rsame_self, beq_self_eq_true, valid_eq]; exact rfl) (fun h => by cases h) ?_ ?_
    · try simp only [go_sem, rsame_self, beq_self_eq_true, valid_eq]
      all_goals (first | done | ((repeat' (with_reducible apply And.intro)) <;> (intros; first | done | omega | rfl | exact spansL_ct _ rfl (by first | omega | exact of_decide_eq_true (by kernel_rfl)) | exact normal_ct _ (by first | omega | exact of_decide_eq_true (by kernel_rfl)) | exact rnormal_ct _ (by first | omega | exact of_decide_eq_true (by kernel_rfl)) | exact cross_ct _ _ | exact minus_ct _ _ | exact grow_ct _ _ _ | exact union_ct _ [] | exact union_ct _ _ | exact rsame_ct _ _ | exact rsame_self_ct _ | exact validr_ct _ | exact valid_ct _ | exact has_ct _ _ | exact rvalid_ct _ | exact rhas_ct _ _ | exact rfew_ct _ | exact runion_ct _ _ | exact rcross_ct _ _ | exact rminus_ct _ _ | exact rgrow_ct _ _ _ | exact head_ct)))
    refine dw_ret ?_
    refine ⟨.inr rfl, ?_, ?_⟩
    · simp only [go_sem, rsame_self, beq_self_eq_true, valid_eq]
    refine ⟨0, ?_, ?_⟩
    · try simp only [go_sem, rsame_self, beq_self_eq_true, valid_eq]
      all_goals (simp)
    · try simp only [go_sem, rsame_self, beq_self_eq_true, valid_eq]
      all_goals (rfl)
  · skip
    have hfew : rfew a = true ∧ rfew b = true := by simpa using c1
    have hla : a.length ≤ 60 := by have := hfew.1; simp [Go.Span.rfew] at this; omega
    have hlb : b.length ≤ 60 := by have := hfew.2; simp [Go.Span.rfew] at this; omega
    refine dw_skip ?_
    show DW _ _ _ _ _
    refine dw_step (C := Cn) (by simp only [go_sem, rsame_self, beq_self_eq_true, valid_eq]; exact rfl) (fun h => by cases h) ?_ ?_
    · try simp only [go_sem, rsame_self, beq_self_eq_true, valid_eq]
      all_goals (first | done | ((repeat' (with_reducible apply And.intro)) <;> (intros; first | done | omega | rfl | exact spansL_ct _ rfl (by first | omega | exact of_decide_eq_true (by kernel_rfl)) | exact normal_ct _ (by first | omega | exact of_decide_eq_true (by kernel_rfl)) | exact rnormal_ct _ (by first | omega | exact of_decide_eq_true (by kernel_rfl)) | exact cross_ct _ _ | exact minus_ct _ _ | exact grow_ct _ _ _ | exact union_ct _ [] | exact union_ct _ _ | exact rsame_ct _ _ | exact rsame_self_ct _ | exact validr_ct _ | exact valid_ct _ | exact has_ct _ _ | exact rvalid_ct _ | exact rhas_ct _ _ | exact rfew_ct _ | exact runion_ct _ _ | exact rcross_ct _ _ | exact rminus_ct _ _ | exact rgrow_ct _ _ _ | exact head_ct)))
    refine dw_step (C := Cn) (by simp only [go_sem, rsame_self, beq_self_eq_true, valid_eq]; exact rfl) (fun h => by cases h) ?_ ?_
    · try simp only [go_sem, rsame_self, beq_self_eq_true, valid_eq]
      all_goals (first | done | ((repeat' (with_reducible apply And.intro)) <;> (intros; first | done | omega | rfl | exact spansL_ct _ rfl (by first | omega | exact of_decide_eq_true (by kernel_rfl)) | exact normal_ct _ (by first | omega | exact of_decide_eq_true (by kernel_rfl)) | exact rnormal_ct _ (by first | omega | exact of_decide_eq_true (by kernel_rfl)) | exact cross_ct _ _ | exact minus_ct _ _ | exact grow_ct _ _ _ | exact union_ct _ [] | exact union_ct _ _ | exact rsame_ct _ _ | exact rsame_self_ct _ | exact validr_ct _ | exact valid_ct _ | exact has_ct _ _ | exact rvalid_ct _ | exact rhas_ct _ _ | exact rfew_ct _ | exact runion_ct _ _ | exact rcross_ct _ _ | exact rminus_ct _ _ | exact rgrow_ct _ _ _ | exact head_ct)))
    refine dw_step (C := Cn) (by simp only [go_sem, rsame_self, beq_self_eq_true, valid_eq]; exact rfl) (fun h => by cases h) ?_ ?_
    · try simp only [go_sem, rsame_self, beq_self_eq_true, valid_eq]
      all_goals (first | done | ((repeat' (with_reducible apply And.intro)) <;> (intros; first | done | omega | rfl | exact spansL_ct _ rfl (by first | omega | exact of_decide_eq_true (by kernel_rfl)) | exact normal_ct _ (by first | omega | exact of_decide_eq_true (by kernel_rfl)) | exact rnormal_ct _ (by first | omega | exact of_decide_eq_true (by kernel_rfl)) | exact cross_ct _ _ | exact minus_ct _ _ | exact grow_ct _ _ _ | exact union_ct _ [] | exact union_ct _ _ | exact rsame_ct _ _ | exact rsame_self_ct _ | exact validr_ct _ | exact valid_ct _ | exact has_ct _ _ | exact rvalid_ct _ | exact rhas_ct _ _ | exact rfew_ct _ | exact runion_ct _ _ | exact rcross_ct _ _ | exact rminus_ct _ _ | exact rgrow_ct _ _ _ | exact head_ct)))
    refine dw_step (C := Cn) (by simp only [go_sem, rsame_self, beq_self_eq_true, valid_eq]; exact rfl) (fun h => by cases h) ?_ ?_
    · try simp only [go_sem, rsame_self, beq_self_eq_true, valid_eq]
      all_goals (first | done | ((repeat' (with_reducible apply And.intro)) <;> (intros; first | done | omega | rfl | exact spansL_ct _ rfl (by first | omega | exact of_decide_eq_true (by kernel_rfl)) | exact normal_ct _ (by first | omega | exact of_decide_eq_true (by kernel_rfl)) | exact rnormal_ct _ (by first | omega | exact of_decide_eq_true (by kernel_rfl)) | exact cross_ct _ _ | exact minus_ct _ _ | exact grow_ct _ _ _ | exact union_ct _ [] | exact union_ct _ _ | exact rsame_ct _ _ | exact rsame_self_ct _ | exact validr_ct _ | exact valid_ct _ | exact has_ct _ _ | exact rvalid_ct _ | exact rhas_ct _ _ | exact rfew_ct _ | exact runion_ct _ _ | exact rcross_ct _ _ | exact rminus_ct _ _ | exact rgrow_ct _ _ _ | exact head_ct)))
    refine dw_step (C := Cn) (by simp only [go_sem, rsame_self, beq_self_eq_true, valid_eq]; exact rfl) (fun h => by cases h) ?_ ?_
    · try simp only [go_sem, rsame_self, beq_self_eq_true, valid_eq]
      all_goals (first | done | ((repeat' (with_reducible apply And.intro)) <;> (intros; first | done | omega | rfl | exact spansL_ct _ rfl (by first | omega | exact of_decide_eq_true (by kernel_rfl)) | exact normal_ct _ (by first | omega | exact of_decide_eq_true (by kernel_rfl)) | exact rnormal_ct _ (by first | omega | exact of_decide_eq_true (by kernel_rfl)) | exact cross_ct _ _ | exact minus_ct _ _ | exact grow_ct _ _ _ | exact union_ct _ [] | exact union_ct _ _ | exact rsame_ct _ _ | exact rsame_self_ct _ | exact validr_ct _ | exact valid_ct _ | exact has_ct _ _ | exact rvalid_ct _ | exact rhas_ct _ _ | exact rfew_ct _ | exact runion_ct _ _ | exact rcross_ct _ _ | exact rminus_ct _ _ | exact rgrow_ct _ _ _ | exact head_ct)))
    refine dw_step (C := Cn) (by simp only [go_sem, rsame_self, beq_self_eq_true, valid_eq]; exact rfl) (fun h => by cases h) ?_ ?_
    · try simp only [go_sem, rsame_self, beq_self_eq_true, valid_eq]
      all_goals (first | done | ((repeat' (with_reducible apply And.intro)) <;> (intros; first | done | omega | rfl | exact spansL_ct _ rfl (by first | omega | exact of_decide_eq_true (by kernel_rfl)) | exact normal_ct _ (by first | omega | exact of_decide_eq_true (by kernel_rfl)) | exact rnormal_ct _ (by first | omega | exact of_decide_eq_true (by kernel_rfl)) | exact cross_ct _ _ | exact minus_ct _ _ | exact grow_ct _ _ _ | exact union_ct _ [] | exact union_ct _ _ | exact rsame_ct _ _ | exact rsame_self_ct _ | exact validr_ct _ | exact valid_ct _ | exact has_ct _ _ | exact rvalid_ct _ | exact rhas_ct _ _ | exact rfew_ct _ | exact runion_ct _ _ | exact rcross_ct _ _ | exact rminus_ct _ _ | exact rgrow_ct _ _ _ | exact head_ct)))
    refine dw_step (C := Cn) (by simp only [go_sem, rsame_self, beq_self_eq_true, valid_eq]; exact rfl) (fun h => by cases h) ?_ ?_
    · try simp only [go_sem, rsame_self, beq_self_eq_true, valid_eq]
      all_goals (first | done | ((repeat' (with_reducible apply And.intro)) <;> (intros; first | done | omega | rfl | exact spansL_ct _ rfl (by first | omega | exact of_decide_eq_true (by kernel_rfl)) | exact normal_ct _ (by first | omega | exact of_decide_eq_true (by kernel_rfl)) | exact rnormal_ct _ (by first | omega | exact of_decide_eq_true (by kernel_rfl)) | exact cross_ct _ _ | exact minus_ct _ _ | exact grow_ct _ _ _ | exact union_ct _ [] | exact union_ct _ _ | exact rsame_ct _ _ | exact rsame_self_ct _ | exact validr_ct _ | exact valid_ct _ | exact has_ct _ _ | exact rvalid_ct _ | exact rhas_ct _ _ | exact rfew_ct _ | exact runion_ct _ _ | exact rcross_ct _ _ | exact rminus_ct _ _ | exact rgrow_ct _ _ _ | exact head_ct)))
    refine dw_step (C := Cn) (by simp only [go_sem, rsame_self, beq_self_eq_true, valid_eq]; exact rfl) (fun h => by cases h) ?_ ?_
    · try simp only [go_sem, rsame_self, beq_self_eq_true, valid_eq]
      all_goals (first | done | ((repeat' (with_reducible apply And.intro)) <;> (intros; first | done | omega | rfl | exact spansL_ct _ rfl (by first | omega | exact of_decide_eq_true (by kernel_rfl)) | exact normal_ct _ (by first | omega | exact of_decide_eq_true (by kernel_rfl)) | exact rnormal_ct _ (by first | omega | exact of_decide_eq_true (by kernel_rfl)) | exact cross_ct _ _ | exact minus_ct _ _ | exact grow_ct _ _ _ | exact union_ct _ [] | exact union_ct _ _ | exact rsame_ct _ _ | exact rsame_self_ct _ | exact validr_ct _ | exact valid_ct _ | exact has_ct _ _ | exact rvalid_ct _ | exact rhas_ct _ _ | exact rfew_ct _ | exact runion_ct _ _ | exact rcross_ct _ _ | exact rminus_ct _ _ | exact rgrow_ct _ _ _ | exact head_ct)))
    refine dw_step (C := Cn) (by simp only [go_sem, rsame_self, beq_self_eq_true, valid_eq]; exact rfl) (fun h => by cases h) ?_ ?_
    · try simp only [go_sem, rsame_self, beq_self_eq_true, valid_eq]
      all_goals (first | done | ((repeat' (with_reducible apply And.intro)) <;> (intros; first | done | omega | rfl | exact spansL_ct _ rfl (by first | omega | exact of_decide_eq_true (by kernel_rfl)) | exact normal_ct _ (by first | omega | exact of_decide_eq_true (by kernel_rfl)) | exact rnormal_ct _ (by first | omega | exact of_decide_eq_true (by kernel_rfl)) | exact cross_ct _ _ | exact minus_ct _ _ | exact grow_ct _ _ _ | exact union_ct _ [] | exact union_ct _ _ | exact rsame_ct _ _ | exact rsame_self_ct _ | exact validr_ct _ | exact valid_ct _ | exact has_ct _ _ | exact rvalid_ct _ | exact rhas_ct _ _ | exact rfew_ct _ | exact runion_ct _ _ | exact rcross_ct _ _ | exact rminus_ct _ _ | exact rgrow_ct _ _ _ | exact head_ct)))
    refine dw_step (C := Cn) (by simp only [go_sem, rsame_self, beq_self_eq_true, valid_eq]; exact rfl) (fun h => by cases h) ?_ ?_
    · try simp only [go_sem, rsame_self, beq_self_eq_true, valid_eq]
      all_goals (first | done | ((repeat' (with_reducible apply And.intro)) <;> (intros; first | done | omega | rfl | exact spansL_ct _ rfl (by first | omega | exact of_decide_eq_true (by kernel_rfl)) | exact normal_ct _ (by first | omega | exact of_decide_eq_true (by kernel_rfl)) | exact rnormal_ct _ (by first | omega | exact of_decide_eq_true (by kernel_rfl)) | exact cross_ct _ _ | exact minus_ct _ _ | exact grow_ct _ _ _ | exact union_ct _ [] | exact union_ct _ _ | exact rsame_ct _ _ | exact rsame_self_ct _ | exact validr_ct _ | exact valid_ct _ | exact has_ct _ _ | exact rvalid_ct _ | exact rhas_ct _ _ | exact rfew_ct _ | exact runion_ct _ _ | exact rcross_ct _ _ | exact rminus_ct _ _ | exact rgrow_ct _ _ _ | exact head_ct)))
    refine dw_step (C := Cn) (by simp only [go_sem, rsame_self, beq_self_eq_true, valid_eq]; exact rfl) (fun h => by cases h) ?_ ?_
    · try simp only [go_sem, rsame_self, beq_self_eq_true, valid_eq]
      all_goals (first | done | ((repeat' (with_reducible apply And.intro)) <;> (intros; first | done | omega | rfl | exact spansL_ct _ rfl (by first | omega | exact of_decide_eq_true (by kernel_rfl)) | exact normal_ct _ (by first | omega | exact of_decide_eq_true (by kernel_rfl)) | exact rnormal_ct _ (by first | omega | exact of_decide_eq_true (by kernel_rfl)) | exact cross_ct _ _ | exact minus_ct _ _ | exact grow_ct _ _ _ | exact union_ct _ [] | exact union_ct _ _ | exact rsame_ct _ _ | exact rsame_self_ct _ | exact validr_ct _ | exact valid_ct _ | exact has_ct _ _ | exact rvalid_ct _ | exact rhas_ct _ _ | exact rfew_ct _ | exact runion_ct _ _ | exact rcross_ct _ _ | exact rminus_ct _ _ | exact rgrow_ct _ _ _ | exact head_ct)))
    refine dw_step (C := Cn) (by simp only [go_sem, rsame_self, beq_self_eq_true, valid_eq]; exact rfl) (fun h => by cases h) ?_ ?_
    · try simp only [go_sem, rsame_self, beq_self_eq_true, valid_eq]
      all_goals (first | done | ((repeat' (with_reducible apply And.intro)) <;> (intros; first | done | omega | rfl | exact spansL_ct _ rfl (by first | omega | exact of_decide_eq_true (by kernel_rfl)) | exact normal_ct _ (by first | omega | exact of_decide_eq_true (by kernel_rfl)) | exact rnormal_ct _ (by first | omega | exact of_decide_eq_true (by kernel_rfl)) | exact cross_ct _ _ | exact minus_ct _ _ | exact grow_ct _ _ _ | exact union_ct _ [] | exact union_ct _ _ | exact rsame_ct _ _ | exact rsame_self_ct _ | exact validr_ct _ | exact valid_ct _ | exact has_ct _ _ | exact rvalid_ct _ | exact rhas_ct _ _ | exact rfew_ct _ | exact runion_ct _ _ | exact rcross_ct _ _ | exact rminus_ct _ _ | exact rgrow_ct _ _ _ | exact head_ct)))
    refine dw_step (C := Cn) (by simp only [go_sem, rsame_self, beq_self_eq_true, valid_eq]; exact rfl) (fun h => by cases h) ?_ ?_
    · try simp only [go_sem, rsame_self, beq_self_eq_true, valid_eq]
      all_goals (first | done | ((repeat' (with_reducible apply And.intro)) <;> (intros; first | done | omega | rfl | exact spansL_ct _ rfl (by first | omega | exact of_decide_eq_true (by kernel_rfl)) | exact normal_ct _ (by first | omega | exact of_decide_eq_true (by kernel_rfl)) | exact rnormal_ct _ (by first | omega | exact of_decide_eq_true (by kernel_rfl)) | exact cross_ct _ _ | exact minus_ct _ _ | exact grow_ct _ _ _ | exact union_ct _ [] | exact union_ct _ _ | exact rsame_ct _ _ | exact rsame_self_ct _ | exact validr_ct _ | exact valid_ct _ | exact has_ct _ _ | exact rvalid_ct _ | exact rhas_ct _ _ | exact rfew_ct _ | exact runion_ct _ _ | exact rcross_ct _ _ | exact rminus_ct _ _ | exact rgrow_ct _ _ _ | exact head_ct)))
    refine dw_step (C := Cn) (by simp only [go_sem, rsame_self, beq_self_eq_true, valid_eq]; exact rfl) (fun h => by cases h) ?_ ?_
    · try simp only [go_sem, rsame_self, beq_self_eq_true, valid_eq]
      all_goals (first | done | ((repeat' (with_reducible apply And.intro)) <;> (intros; first | done | omega | rfl | exact spansL_ct _ rfl (by first | omega | exact of_decide_eq_true (by kernel_rfl)) | exact normal_ct _ (by first | omega | exact of_decide_eq_true (by kernel_rfl)) | exact rnormal_ct _ (by first | omega | exact of_decide_eq_true (by kernel_rfl)) | exact cross_ct _ _ | exact minus_ct _ _ | exact grow_ct _ _ _ | exact union_ct _ [] | exact union_ct _ _ | exact rsame_ct _ _ | exact rsame_self_ct _ | exact validr_ct _ | exact valid_ct _ | exact has_ct _ _ | exact rvalid_ct _ | exact rhas_ct _ _ | exact rfew_ct _ | exact runion_ct _ _ | exact rcross_ct _ _ | exact rminus_ct _ _ | exact rgrow_ct _ _ _ | exact head_ct)))
    refine dw_step (C := Cn) (by simp only [go_sem, rsame_self, beq_self_eq_true, valid_eq]; exact rfl) (fun h => by cases h) ?_ ?_
    · try simp only [go_sem, rsame_self, beq_self_eq_true, valid_eq]
      all_goals (first | done | ((repeat' (with_reducible apply And.intro)) <;> (intros; first | done | omega | rfl | exact spansL_ct _ rfl (by first | omega | exact of_decide_eq_true (by kernel_rfl)) | exact normal_ct _ (by first | omega | exact of_decide_eq_true (by kernel_rfl)) | exact rnormal_ct _ (by first | omega | exact of_decide_eq_true (by kernel_rfl)) | exact cross_ct _ _ | exact minus_ct _ _ | exact grow_ct _ _ _ | exact union_ct _ [] | exact union_ct _ _ | exact rsame_ct _ _ | exact rsame_self_ct _ | exact validr_ct _ | exact valid_ct _ | exact has_ct _ _ | exact rvalid_ct _ | exact rhas_ct _ _ | exact rfew_ct _ | exact runion_ct _ _ | exact rcross_ct _ _ | exact rminus_ct _ _ | exact rgrow_ct _ _ _ | exact head_ct)))
    refine dw_ret ?_
    refine ⟨.inr rfl, ?_, ?_⟩
    · simp only [go_sem, rsame_self, beq_self_eq_true, valid_eq]
    refine ⟨0, ?_, ?_⟩
    · try simp only [go_sem, rsame_self, beq_self_eq_true, valid_eq]
      all_goals (simp)
    · try simp only [go_sem, rsame_self, beq_self_eq_true, valid_eq]
      all_goals (rfl)
end Go.Proofs.Ytfcdbijmoiegiaa
