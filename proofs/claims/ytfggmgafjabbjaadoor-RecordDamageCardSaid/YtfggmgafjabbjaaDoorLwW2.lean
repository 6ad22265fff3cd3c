import Derived.Test.YtfggmgafjabbjaaDoorLawCon
namespace Go.Proofs.YtfggmgafjabbjaaDoor
open Go.DL Go.Str Go.Rec Go.Cmp Go.RowKit
set_option maxRecDepth 10000
set_option linter.unusedSimpArgs false
set_option linter.unusedVariables false
theorem few_yes {l : List RSet} {k : Nat} (h : ¬ (20 : Int) < l[k]!.data.length ∧ ¬ (200 : Int) < l[k]!.name.length) : fewAt l k = true := by
  unfold fewAt
  rw [decide_eq_true (by omega), decide_eq_true (by omega)]; rfl
theorem few_bad {l : List RSet} {k : Nat} (h : (20 : Int) < l[k]!.data.length ∨ (200 : Int) < l[k]!.name.length) : fewAt l k = false := by
  unfold fewAt
  rcases h with h | h
  · rw [decide_eq_false (by omega)]; rfl
  · rw [Bool.and_eq_false_iff]; right; exact decide_eq_false (by omega)
theorem few_no {l : List RSet} (h : allN l.length (fewAt l) 0 = false) : fewB l = false := by
  unfold fewB; rw [h, Bool.and_false]
theorem few_end {l : List RSet} {k : Nat} (h : allN l.length (fewAt l) 0 = allN l.length (fewAt l) k) (h50 : k ≤ 50) (he : l.length ≤ k ∨ 50 ≤ k) : fewB l = decide ((l.length : Int) ≤ 50) := by
  unfold fewB
  by_cases q : l.length ≤ 50
  · rw [h, allN_eq, if_neg (by omega), decide_eq_true q, decide_eq_true (by omega)]; rfl
  · rw [decide_eq_false q, decide_eq_false (by omega)]; rfl
theorem bo26 : hasBody Tryd.prog 26 = true := by kernel_rfl
theorem addr_ct (life : Int) (l : List Int) (hl : l.length ≤ 100) : PureCt Tryd.prog 26 [.i life, .list false (l.map iR)] (.agg (addrF life l).d) := by
  refine pure_of_dw Tryd.func26 rfl bo26 (by simp [go_sem, D.nr, nrs, nrr]) (by simp [Tryd.f26]) ?_
  unfold Tryd.f26
  simp only [init_eq]
  refine dw_step (C := Ln) (by simp only [go_sem]; exact rfl) (fun h => by cases h) ?_ ?_
  · try simp only [go_sem]
    all_goals (first | done | (repeat' (with_reducible apply And.intro)) <;> first | omega | (with_reducible assumption) | (intros; omega) | (intros; simp only [decide_eq_true_eq, decide_eq_false_iff_not, Bool.or_eq_true, Bool.and_eq_true, Bool.or_eq_false_iff, Bool.not_eq_true', Bool.not_eq_false'] at *; omega) | (simp_all; done) | (simp_all; omega))
  refine dw_step (C := Ln) (by simp only [go_sem]; exact rfl) (fun h => by cases h) ?_ ?_
  · try simp only [go_sem]
    all_goals (first | done | (repeat' (with_reducible apply And.intro)) <;> first | omega | (with_reducible assumption) | (intros; omega) | (intros; simp only [decide_eq_true_eq, decide_eq_false_iff_not, Bool.or_eq_true, Bool.and_eq_true, Bool.or_eq_false_iff, Bool.not_eq_true', Bool.not_eq_false'] at *; omega) | (simp_all; done) | (simp_all; omega))
  refine dw_seq ?_
  refine dw_ownj 3 3 24 48 (by simp only [go_sem]; exact rfl) (by rfl) (by simp only [go_sem]) ?_
  simp only [List.set_cons_succ, List.set_cons_zero]
  refine dw_step (C := Ln) (by simp only [go_sem]; exact rfl) (fun h => by cases h) ?_ ?_
  · try simp only [go_sem]
    all_goals (first | done | (repeat' (with_reducible apply And.intro)) <;> first | omega | (with_reducible assumption) | (intros; omega) | (intros; simp only [decide_eq_true_eq, decide_eq_false_iff_not, Bool.or_eq_true, Bool.and_eq_true, Bool.or_eq_false_iff, Bool.not_eq_true', Bool.not_eq_false'] at *; omega) | (simp_all; done) | (simp_all; omega))
  refine dw_block ?_
  refine dw_loop_fix (α := (Nat) × (List Dat) × (Nat) × Nat) [4, 5, 10, 11] (fun ⟨k, out, r, nx⟩ => (k ≤ l.length) ∧ (r < nx) ∧ (r ≠ 0 ∧ r ≠ 3) ∧ (3 < nx) ∧ (out = (l.take k).map fun n => ⟨[], n, 0⟩) ∧ True) (fun ⟨k, out, r, nx⟩ => l.length - k) (fun ⟨k, out, r, nx⟩ => [(12, .i k)]) (fun ⟨k, out, r, nx⟩ => [(0, ⟨24, [[.v (.string (bs [])), .i 0, .i 0, .list true []]]⟩), (3, ⟨24, [[.v (.string (bs ([120]))), .i (1), .i (life), .mrow r 0 out.length]]⟩), (r, ⟨48, (out).map Dat.d⟩)]) (fun ⟨k, out, r, nx⟩ => nx) (0, [], 5, _) (by simp only [List.map_cons, List.map_nil, go_sem]; exact rfl) ⟨(by first | (first | omega | (with_reducible assumption) | (simp_all; done) | (simp_all; omega)) | (dsimp only; first | omega | (with_reducible assumption) | (simp_all; done) | (simp_all; omega))), (by first | (first | omega | (with_reducible assumption) | (simp_all; done) | (simp_all; omega)) | (dsimp only; first | omega | (with_reducible assumption) | (simp_all; done) | (simp_all; omega))), (by first | (first | omega | (with_reducible assumption) | (simp_all; done) | (simp_all; omega)) | (dsimp only; first | omega | (with_reducible assumption) | (simp_all; done) | (simp_all; omega))), (by first | (first | omega | (with_reducible assumption) | (simp_all; done) | (simp_all; omega)) | (dsimp only; first | omega | (with_reducible assumption) | (simp_all; done) | (simp_all; omega))), (by first | (rfl) | (dsimp only; rfl)), trivial⟩ (by first | (simp only [go_sem]; done) | (simp [go_sem]; done) | (simp only [go_sem]; (repeat' (with_reducible apply And.intro)) <;> first | (left; simp; done) | (right; simp [go_sem]; done))) (by first | (simp only [go_sem]; done) | simp [go_sem]) (Nat.le_refl _) ?_
  rintro ⟨k, out, r, nx⟩ ⟨hk, hr, hrn, hx, hout, -⟩
  show DW _ _ _ _ { n := _, t := tab _, h := _, nx := _, e := _ }
  simp only [List.cons_append, List.nil_append]
  have n0 : 0 < nx := by omega
  have ho : out.length ≤ 100 := by rw [hout]; simp; omega
  have z0_r : (0 = r) = False := eq_false (by omega)
  have yr_0 : (r = 0) = False := eq_false (by omega)
  have z3_r : (3 = r) = False := eq_false (by omega)
  have yr_3 : (r = 3) = False := eq_false (by omega)
  refine dw_step (C := Ln) (by simp only [go_sem, hr, hx, n0, z0_r, yr_0, z3_r, yr_3]; exact rfl) (fun h => by cases h) ?_ ?_
  · try simp only [go_sem, hr, hx, n0, z0_r, yr_0, z3_r, yr_3]
    all_goals (first | done | (repeat' (with_reducible apply And.intro)) <;> first | omega | (with_reducible assumption) | (intros; omega) | (intros; simp only [decide_eq_true_eq, decide_eq_false_iff_not, Bool.or_eq_true, Bool.and_eq_true, Bool.or_eq_false_iff, Bool.not_eq_true', Bool.not_eq_false'] at *; omega) | (simp_all; done) | (simp_all; omega))
  refine dw_seq ?_
  refine dw_cond (by simp only [go_sem, hr, hx, n0, z0_r, yr_0, z3_r, yr_3]; exact rfl) (fun c1 => ?_) (fun c1 => ?_)
  · skip
    have hk2 : k < l.length := by simpa using c1
    refine dw_skip ?_
    show DW _ _ _ _ _
    refine dw_seq ?_
    refine dw_block ?_
    refine dw_step (C := Ln) (by simp only [go_sem, hr, hx, n0, z0_r, yr_0, z3_r, yr_3, getD_iR hk2]; exact rfl) (fun h => by cases h) ?_ ?_
    · try simp only [go_sem, hr, hx, n0, z0_r, yr_0, z3_r, yr_3, getD_iR hk2]
      all_goals (first | done | (repeat' (with_reducible apply And.intro)) <;> first | omega | (with_reducible assumption) | (intros; omega) | (intros; simp only [decide_eq_true_eq, decide_eq_false_iff_not, Bool.or_eq_true, Bool.and_eq_true, Bool.or_eq_false_iff, Bool.not_eq_true', Bool.not_eq_false'] at *; omega) | (simp_all; done) | (simp_all; omega))
    refine dw_reg (C := Ln) (by simp only [go_sem, hr, hx, n0, z0_r, yr_0, z3_r, yr_3, getD_iR hk2]; exact rfl) (fun h => by cases h) ?_ ?_
    · try simp only [go_sem, hr, hx, n0, z0_r, yr_0, z3_r, yr_3, getD_iR hk2]
      all_goals (first | done | (repeat' (with_reducible apply And.intro)) <;> first | omega | (with_reducible assumption) | (intros; omega) | (intros; simp only [decide_eq_true_eq, decide_eq_false_iff_not, Bool.or_eq_true, Bool.and_eq_true, Bool.or_eq_false_iff, Bool.not_eq_true', Bool.not_eq_false'] at *; omega) | (simp_all; done) | (simp_all; omega))
    show DW _ _ _ _ _
    refine dw_reg (C := Ln) (by simp only [go_sem, hr, hx, n0, z0_r, yr_0, z3_r, yr_3, getD_iR hk2]; exact rfl) (fun h => by cases h) ?_ ?_
    · try simp only [go_sem, hr, hx, n0, z0_r, yr_0, z3_r, yr_3, getD_iR hk2]
      all_goals (first | done | (repeat' (with_reducible apply And.intro)) <;> first | omega | (with_reducible assumption) | (intros; omega) | (intros; simp only [decide_eq_true_eq, decide_eq_false_iff_not, Bool.or_eq_true, Bool.and_eq_true, Bool.or_eq_false_iff, Bool.not_eq_true', Bool.not_eq_false'] at *; omega) | (simp_all; done) | (simp_all; omega))
    show ∃ _, _
    refine ⟨(k + 1, out ++ [⟨[], l[k]!, 0⟩], (nx + 9), _), ⟨(by first | (first | omega | (with_reducible assumption) | (simp_all; done) | (simp_all; omega)) | (dsimp only; first | omega | (with_reducible assumption) | (simp_all; done) | (simp_all; omega))), (by first | (first | omega | (with_reducible assumption) | (simp_all; done) | (simp_all; omega)) | (dsimp only; first | omega | (with_reducible assumption) | (simp_all; done) | (simp_all; omega))), (by first | (first | omega | (with_reducible assumption) | (simp_all; done) | (simp_all; omega)) | (dsimp only; first | omega | (with_reducible assumption) | (simp_all; done) | (simp_all; omega))), (by first | (first | omega | (with_reducible assumption) | (simp_all; done) | (simp_all; omega)) | (dsimp only; first | omega | (with_reducible assumption) | (simp_all; done) | (simp_all; omega))), (by first | (rw [hout, take_one hk2, List.map_append]; rfl) | (dsimp only; rw [hout, take_one hk2, List.map_append]; rfl)), trivial⟩, (by show (_ : Nat) < _; first | omega | simp_all; omega), ?_, ?_, ?_, Nat.le_refl _, rfl, rfl⟩
    · try simp only [go_sem, hr, hx, n0, z0_r, yr_0, z3_r, yr_3, getD_iR hk2]
      all_goals (first | done | (simp; done) | (simp [Dat.d]; done) | ((repeat' (with_reducible apply And.intro)) <;> first | rfl | (left; simp; done) | (simp [Dat.d]; done)))
    · try simp only [go_sem, hr, hx, n0, z0_r, yr_0, z3_r, yr_3, getD_iR hk2]
      all_goals (first | done | (simp; done) | (simp [Dat.d]; done) | ((repeat' (with_reducible apply And.intro)) <;> first | rfl | (left; simp; done) | (simp [Dat.d]; done)))
    · try simp only [go_sem, hr, hx, n0, z0_r, yr_0, z3_r, yr_3, getD_iR hk2]
      all_goals (first | done | (simp; done) | (simp [Dat.d]; done) | ((repeat' (with_reducible apply And.intro)) <;> first | rfl | (left; simp; done) | (simp [Dat.d]; done)))
  · skip
    have hk3 : k = l.length := by have : ¬ k < l.length := (by simpa using c1); omega
    refine dw_exit ?_
    show DW _ _ _ _ _
    refine dw_freezec 3 3 r (rows := out.map Dat.d) (off := 0) (len := out.length) (by simp only [go_sem, hr, hx, n0, z0_r, yr_0, z3_r, yr_3]; exact rfl) (by rfl) (by simp only [go_sem, hr, hx, n0, z0_r, yr_0, z3_r, yr_3]; exact rfl) (by omega) (by simp) nrr_dat ?_
    simp only [List.drop_zero, take_map_len, List.set_cons_succ, List.set_cons_zero]
    refine dw_step (C := Ln) (by simp only [go_sem, hr, hx, n0, z0_r, yr_0, z3_r, yr_3]; exact rfl) (fun h => by cases h) ?_ ?_
    · try simp only [go_sem, hr, hx, n0, z0_r, yr_0, z3_r, yr_3]
      all_goals (first | done | (repeat' (with_reducible apply And.intro)) <;> first | omega | (with_reducible assumption) | (intros; omega) | (intros; simp only [decide_eq_true_eq, decide_eq_false_iff_not, Bool.or_eq_true, Bool.and_eq_true, Bool.or_eq_false_iff, Bool.not_eq_true', Bool.not_eq_false'] at *; omega) | (simp_all; done) | (simp_all; omega))
    refine dw_ret ?_
    refine ⟨(by first | exact .inr rfl | trivial | simp), ?_, ?_⟩
    · simp only [go_sem, hr, hx, n0, z0_r, yr_0, z3_r, yr_3]
    refine ⟨2, ?_, ?_⟩
    · try simp only [go_sem, hr, hx, n0, z0_r, yr_0, z3_r, yr_3]
      all_goals (simp)
    · try simp only [go_sem, hr, hx, n0, z0_r, yr_0, z3_r, yr_3]
      all_goals (rw [addrF, hout, hk3, List.take_length])
theorem bo16 : hasBody Tryd.prog 16 = true := by kernel_rfl
theorem rsames02_ct (a : List RSet) (b : List RSet) (hab : a.length ≤ 1000) (had : ∀ x ∈ a, x.data.length ≤ 100000) : PureCt Tryd.prog 16 [.list false (a.map RSet.d), .list false (b.map RSet.d)] (.b (sameSetsB a b)) := by
  refine pure_of_dw Tryd.func16 rfl bo16 (by simp [go_sem, D.nr, nrs, nrr]) (by simp [Tryd.f16]) ?_
  unfold Tryd.f16
  simp only [init_eq]
  refine dw_step (C := Ln) (by simp only [go_sem]; exact rfl) (fun h => by cases h) ?_ ?_
  · try simp only [go_sem]
    all_goals (first | done | (repeat' (with_reducible apply And.intro)) <;> first | omega | (with_reducible assumption) | (intros; omega) | (intros; simp only [decide_eq_true_eq, decide_eq_false_iff_not, Bool.or_eq_true, Bool.and_eq_true, Bool.or_eq_false_iff, Bool.not_eq_true', Bool.not_eq_false'] at *; omega) | (simp_all; done) | (simp_all; omega))
  refine dw_seq ?_
  refine dw_step (C := Ln) (by simp only [go_sem]; exact rfl) (fun h => by cases h) ?_ ?_
  · try simp only [go_sem]
    all_goals (first | done | (repeat' (with_reducible apply And.intro)) <;> first | omega | (with_reducible assumption) | (intros; omega) | (intros; simp only [decide_eq_true_eq, decide_eq_false_iff_not, Bool.or_eq_true, Bool.and_eq_true, Bool.or_eq_false_iff, Bool.not_eq_true', Bool.not_eq_false'] at *; omega) | (simp_all; done) | (simp_all; omega))
  refine dw_cond (by simp only [go_sem]; exact rfl) (fun c1 => ?_) (fun c1 => ?_)
  · skip
    try simp only [decide_eq_true_eq, decide_eq_false_iff_not, Bool.or_eq_true, Bool.and_eq_true, Bool.or_eq_false_iff, Bool.not_eq_true', Bool.not_eq_false', Bool.and_eq_false_iff, beq_iff_eq, beq_eq_false_iff_ne, bne_iff_ne, bne_eq_false_iff_eq, ne_eq] at c1
    refine dw_step (C := Ln) (by simp only [go_sem]; exact rfl) (fun h => by cases h) ?_ ?_
    · try simp only [go_sem]
      all_goals (first | done | (repeat' (with_reducible apply And.intro)) <;> first | omega | (with_reducible assumption) | (intros; omega) | (intros; simp only [decide_eq_true_eq, decide_eq_false_iff_not, Bool.or_eq_true, Bool.and_eq_true, Bool.or_eq_false_iff, Bool.not_eq_true', Bool.not_eq_false'] at *; omega) | (simp_all; done) | (simp_all; omega))
    refine dw_ret ?_
    refine ⟨(by first | exact .inr rfl | trivial | simp), ?_, ?_⟩
    · simp only [go_sem]
    refine ⟨0, ?_, ?_⟩
    · try simp only [go_sem]
      all_goals (simp)
    · try simp only [go_sem]
      all_goals (rw [sameSets_no c1])
  · skip
    try simp only [decide_eq_true_eq, decide_eq_false_iff_not, Bool.or_eq_true, Bool.and_eq_true, Bool.or_eq_false_iff, Bool.not_eq_true', Bool.not_eq_false', Bool.and_eq_false_iff, beq_iff_eq, beq_eq_false_iff_ne, bne_iff_ne, bne_eq_false_iff_eq, ne_eq] at c1
    refine dw_skip ?_
    show DW _ _ _ _ _
    refine dw_seq ?_
    refine dw_step (C := Ln) (by simp only [go_sem]; exact rfl) (fun h => by cases h) ?_ ?_
    · try simp only [go_sem]
      all_goals (first | done | (repeat' (with_reducible apply And.intro)) <;> first | omega | (with_reducible assumption) | (intros; omega) | (intros; simp only [decide_eq_true_eq, decide_eq_false_iff_not, Bool.or_eq_true, Bool.and_eq_true, Bool.or_eq_false_iff, Bool.not_eq_true', Bool.not_eq_false'] at *; omega) | (simp_all; done) | (simp_all; omega))
    refine dw_block ?_
    refine dw_loop_fix (α := (Nat) × Nat) [0, 1] (fun ⟨k, nx⟩ => (k ≤ a.length) ∧ (∀ i, i < k → a[i]! = b[i]!) ∧ True) (fun ⟨k, nx⟩ => a.length - k) (fun ⟨k, nx⟩ => [(5, .i k)]) (fun ⟨k, nx⟩ => []) (fun ⟨k, nx⟩ => nx) (0, _) (by simp only [List.map_cons, List.map_nil, go_sem]; exact rfl) ⟨(by first | (first | omega | (with_reducible assumption) | (simp_all; done) | (simp_all; omega)) | (dsimp only; first | omega | (with_reducible assumption) | (simp_all; done) | (simp_all; omega))), (by first | (intro i hi; omega) | (dsimp only; intro i hi; omega)), trivial⟩ (by first | (simp only [go_sem]; done) | (simp [go_sem]; done) | (simp only [go_sem]; (repeat' (with_reducible apply And.intro)) <;> first | (left; simp; done) | (right; simp [go_sem]; done))) (by first | (simp only [go_sem]; done) | simp [go_sem]) (Nat.le_refl _) ?_
    rintro ⟨k, nx⟩ ⟨hk, hv, -⟩
    show DW _ _ _ _ { n := _, t := tab _, h := _, nx := _, e := _ }
    simp only [List.cons_append, List.nil_append]
    refine dw_seq ?_
    refine dw_step (C := Ln) (by simp only [go_sem]; exact rfl) (fun h => by cases h) ?_ ?_
    · try simp only [go_sem]
      all_goals (first | done | (repeat' (with_reducible apply And.intro)) <;> first | omega | (with_reducible assumption) | (intros; omega) | (intros; simp only [decide_eq_true_eq, decide_eq_false_iff_not, Bool.or_eq_true, Bool.and_eq_true, Bool.or_eq_false_iff, Bool.not_eq_true', Bool.not_eq_false'] at *; omega) | (simp_all; done) | (simp_all; omega))
    refine dw_cond (by simp only [go_sem]; exact rfl) (fun c2 => ?_) (fun c2 => ?_)
    · skip
      have hk2 : k < a.length := by simpa using c2
      have hk3 : k < b.length := by omega
      refine dw_skip ?_
      show DW _ _ _ _ _
      refine dw_seq ?_
      refine dw_block ?_
      refine dw_step (C := Ln) (by simp only [go_sem, getD_set hk2, getD_set hk3]; exact rfl) (fun _ => ⟨mix, by kernel_rfl, by kernel_rfl⟩) ?_ ?_
      · try simp only [go_sem, getD_set hk2, getD_set hk3]
        all_goals (first | done | ((repeat' (with_reducible apply And.intro)) <;> first | omega | exact rsame02_ct _ _ (had _ (by rw [getElem!_pos a k hk2]; exact List.getElem_mem hk2))))
      refine dw_cond (by simp only [go_sem, getD_set hk2, getD_set hk3]; exact rfl) (fun c3 => ?_) (fun c3 => ?_)
      · skip
        try simp only [decide_eq_true_eq, decide_eq_false_iff_not, Bool.or_eq_true, Bool.and_eq_true, Bool.or_eq_false_iff, Bool.not_eq_true', Bool.not_eq_false', Bool.and_eq_false_iff, beq_iff_eq, beq_eq_false_iff_ne, bne_iff_ne, bne_eq_false_iff_eq, ne_eq] at c3
        refine dw_step (C := Ln) (by simp only [go_sem, getD_set hk2, getD_set hk3]; exact rfl) (fun h => by cases h) ?_ ?_
        · try simp only [go_sem, getD_set hk2, getD_set hk3]
          all_goals (first | done | (repeat' (with_reducible apply And.intro)) <;> first | omega | (with_reducible assumption) | (intros; omega) | (intros; simp only [decide_eq_true_eq, decide_eq_false_iff_not, Bool.or_eq_true, Bool.and_eq_true, Bool.or_eq_false_iff, Bool.not_eq_true', Bool.not_eq_false'] at *; omega) | (simp_all; done) | (simp_all; omega))
        refine dw_ret ?_
        refine ⟨(by first | exact .inr rfl | trivial | simp), ?_, ?_⟩
        · simp only [go_sem, getD_set hk2, getD_set hk3]
        refine ⟨0, ?_, ?_⟩
        · try simp only [go_sem, getD_set hk2, getD_set hk3]
          all_goals (simp)
        · try simp only [go_sem, getD_set hk2, getD_set hk3]
          all_goals (rw [sameSets_at c3])
      · skip
        try simp only [decide_eq_true_eq, decide_eq_false_iff_not, Bool.or_eq_true, Bool.and_eq_true, Bool.or_eq_false_iff, Bool.not_eq_true', Bool.not_eq_false', Bool.and_eq_false_iff, beq_iff_eq, beq_eq_false_iff_ne, bne_iff_ne, bne_eq_false_iff_eq, ne_eq] at c3
        refine dw_skip ?_
        show DW _ _ _ _ _
        refine dw_reg (C := Ln) (by simp only [go_sem, getD_set hk2, getD_set hk3]; exact rfl) (fun h => by cases h) ?_ ?_
        · try simp only [go_sem, getD_set hk2, getD_set hk3]
          all_goals (first | done | (repeat' (with_reducible apply And.intro)) <;> first | omega | (with_reducible assumption) | (intros; omega) | (intros; simp only [decide_eq_true_eq, decide_eq_false_iff_not, Bool.or_eq_true, Bool.and_eq_true, Bool.or_eq_false_iff, Bool.not_eq_true', Bool.not_eq_false'] at *; omega) | (simp_all; done) | (simp_all; omega))
        show ∃ _, _
        refine ⟨(k + 1, _), ⟨(by first | (first | omega | (with_reducible assumption) | (simp_all; done) | (simp_all; omega)) | (dsimp only; first | omega | (with_reducible assumption) | (simp_all; done) | (simp_all; omega))), (by first | (intro i hi; by_cases e : i = k; subst e; exact sameB_iff.1 c3; exact hv i (by omega)) | (dsimp only; intro i hi; by_cases e : i = k; subst e; exact sameB_iff.1 c3; exact hv i (by omega))), trivial⟩, (by show (_ : Nat) < _; first | omega | simp_all; omega), ?_, ?_, ?_, Nat.le_refl _, rfl, rfl⟩
        · try simp only [go_sem, getD_set hk2, getD_set hk3]
          all_goals (first | done | (simp; done) | (simp; omega) | ((repeat' (with_reducible apply And.intro)) <;> first | (left; simp; done) | (right; simp [go_sem]; done)))
        · try simp only [go_sem, getD_set hk2, getD_set hk3]
          all_goals (first | done | (simp; done) | (simp; omega) | ((repeat' (with_reducible apply And.intro)) <;> first | (left; simp; done) | (right; simp [go_sem]; done)))
        · try simp only [go_sem, getD_set hk2, getD_set hk3]
          all_goals (first | done | (simp; done) | (simp; omega) | ((repeat' (with_reducible apply And.intro)) <;> first | (left; simp; done) | (right; simp [go_sem]; done)))
    · skip
      try simp only [decide_eq_true_eq, decide_eq_false_iff_not, Bool.or_eq_true, Bool.and_eq_true, Bool.or_eq_false_iff, Bool.not_eq_true', Bool.not_eq_false', Bool.and_eq_false_iff, beq_iff_eq, beq_eq_false_iff_ne, bne_iff_ne, bne_eq_false_iff_eq, ne_eq] at c2
      refine dw_exit ?_
      show DW _ _ _ _ _
      refine dw_step (C := Ln) (by simp only [go_sem]; exact rfl) (fun h => by cases h) ?_ ?_
      · try simp only [go_sem]
        all_goals (first | done | (repeat' (with_reducible apply And.intro)) <;> first | omega | (with_reducible assumption) | (intros; omega) | (intros; simp only [decide_eq_true_eq, decide_eq_false_iff_not, Bool.or_eq_true, Bool.and_eq_true, Bool.or_eq_false_iff, Bool.not_eq_true', Bool.not_eq_false'] at *; omega) | (simp_all; done) | (simp_all; omega))
      refine dw_ret ?_
      refine ⟨(by first | exact .inr rfl | trivial | simp), ?_, ?_⟩
      · simp only [go_sem]
      refine ⟨0, ?_, ?_⟩
      · try simp only [go_sem]
        all_goals (simp)
      · try simp only [go_sem]
        all_goals (rw [sameSets_yes c1 fun i hi => hv i (by omega)])
theorem bo9 : hasBody Tryd.prog 9 = true := by kernel_rfl
theorem rfew02_ct (l : List RSet) : PureCt Tryd.prog 9 [.list false (l.map RSet.d)] (.b (fewB l)) := by
  refine pure_of_dw Tryd.func9 rfl bo9 (by simp [go_sem, D.nr, nrs, nrr]) (by simp [Tryd.f9]) ?_
  unfold Tryd.f9
  simp only [init_eq]
  refine dw_step (C := Ln) (by simp only [go_sem]; exact rfl) (fun h => by cases h) ?_ ?_
  · try simp only [go_sem]
    all_goals (first | done | (repeat' (with_reducible apply And.intro)) <;> first | omega | (with_reducible assumption) | (intros; omega) | (intros; simp only [decide_eq_true_eq, decide_eq_false_iff_not, Bool.or_eq_true, Bool.and_eq_true, Bool.or_eq_false_iff, Bool.not_eq_true', Bool.not_eq_false'] at *; omega) | (simp_all; done) | (simp_all; omega))
  refine dw_seq ?_
  refine dw_step (C := Ln) (by simp only [go_sem]; exact rfl) (fun h => by cases h) ?_ ?_
  · try simp only [go_sem]
    all_goals (first | done | (repeat' (with_reducible apply And.intro)) <;> first | omega | (with_reducible assumption) | (intros; omega) | (intros; simp only [decide_eq_true_eq, decide_eq_false_iff_not, Bool.or_eq_true, Bool.and_eq_true, Bool.or_eq_false_iff, Bool.not_eq_true', Bool.not_eq_false'] at *; omega) | (simp_all; done) | (simp_all; omega))
  refine dw_block ?_
  refine dw_loop_fix (α := (Nat) × Nat) [0] (fun ⟨k, nx⟩ => (k ≤ l.length ∧ k ≤ 50) ∧ (allN l.length (fewAt l) 0 = allN l.length (fewAt l) k) ∧ True) (fun ⟨k, nx⟩ => l.length - k) (fun ⟨k, nx⟩ => [(3, .i k)]) (fun ⟨k, nx⟩ => []) (fun ⟨k, nx⟩ => nx) (0, _) (by simp only [List.map_cons, List.map_nil, go_sem]; exact rfl) ⟨(by first | (first | omega | (with_reducible assumption) | (simp_all; done) | (simp_all; omega)) | (dsimp only; first | omega | (with_reducible assumption) | (simp_all; done) | (simp_all; omega))), (by first | (rfl) | (dsimp only; rfl)), trivial⟩ (by first | (simp only [go_sem]; done) | (simp [go_sem]; done) | (simp only [go_sem]; (repeat' (with_reducible apply And.intro)) <;> first | (left; simp; done) | (right; simp [go_sem]; done))) (by first | (simp only [go_sem]; done) | simp [go_sem]) (Nat.le_refl _) ?_
  rintro ⟨k, nx⟩ ⟨hk, hv, -⟩
  show DW _ _ _ _ { n := _, t := tab _, h := _, nx := _, e := _ }
  simp only [List.cons_append, List.nil_append]
  refine dw_seq ?_
  refine dw_step (C := Ln) (by simp only [go_sem]; exact rfl) (fun h => by cases h) ?_ ?_
  · try simp only [go_sem]
    all_goals (first | done | (repeat' (with_reducible apply And.intro)) <;> first | omega | (with_reducible assumption) | (intros; omega) | (intros; simp only [decide_eq_true_eq, decide_eq_false_iff_not, Bool.or_eq_true, Bool.and_eq_true, Bool.or_eq_false_iff, Bool.not_eq_true', Bool.not_eq_false'] at *; omega) | (simp_all; done) | (simp_all; omega))
  refine dw_cond (by simp only [go_sem]; exact rfl) (fun c1 => ?_) (fun c1 => ?_)
  · skip
    try simp only [decide_eq_true_eq, decide_eq_false_iff_not, Bool.or_eq_true, Bool.and_eq_true, Bool.or_eq_false_iff, Bool.not_eq_true', Bool.not_eq_false', Bool.and_eq_false_iff, beq_iff_eq, beq_eq_false_iff_ne, bne_iff_ne, bne_eq_false_iff_eq, ne_eq] at c1
    have hk2 : k < l.length ∧ k < 50 := by omega
    refine dw_skip ?_
    show DW _ _ _ _ _
    refine dw_seq ?_
    refine dw_block ?_
    refine dw_step (C := Ln) (by simp only [go_sem, getD_set hk2.1]; exact rfl) (fun h => by cases h) ?_ ?_
    · try simp only [go_sem, getD_set hk2.1]
      all_goals (first | done | (repeat' (with_reducible apply And.intro)) <;> first | omega | (with_reducible assumption) | (intros; omega) | (intros; simp only [decide_eq_true_eq, decide_eq_false_iff_not, Bool.or_eq_true, Bool.and_eq_true, Bool.or_eq_false_iff, Bool.not_eq_true', Bool.not_eq_false'] at *; omega) | (simp_all; done) | (simp_all; omega))
    refine dw_cond (by simp only [go_sem, getD_set hk2.1]; exact rfl) (fun c2 => ?_) (fun c2 => ?_)
    · skip
      try simp only [decide_eq_true_eq, decide_eq_false_iff_not, Bool.or_eq_true, Bool.and_eq_true, Bool.or_eq_false_iff, Bool.not_eq_true', Bool.not_eq_false', Bool.and_eq_false_iff, beq_iff_eq, beq_eq_false_iff_ne, bne_iff_ne, bne_eq_false_iff_eq, ne_eq] at c2
      refine dw_step (C := Ln) (by simp only [go_sem, getD_set hk2.1]; exact rfl) (fun h => by cases h) ?_ ?_
      · try simp only [go_sem, getD_set hk2.1]
        all_goals (first | done | (repeat' (with_reducible apply And.intro)) <;> first | omega | (with_reducible assumption) | (intros; omega) | (intros; simp only [decide_eq_true_eq, decide_eq_false_iff_not, Bool.or_eq_true, Bool.and_eq_true, Bool.or_eq_false_iff, Bool.not_eq_true', Bool.not_eq_false'] at *; omega) | (simp_all; done) | (simp_all; omega))
      refine dw_ret ?_
      refine ⟨(by first | exact .inr rfl | trivial | simp), ?_, ?_⟩
      · simp only [go_sem, getD_set hk2.1]
      refine ⟨0, ?_, ?_⟩
      · try simp only [go_sem, getD_set hk2.1]
        all_goals (simp)
      · try simp only [go_sem, getD_set hk2.1]
        all_goals (rw [few_no (by rw [hv, allN_eq, if_pos hk2.1, few_bad c2]; rfl)])
    · skip
      try simp only [decide_eq_true_eq, decide_eq_false_iff_not, Bool.or_eq_true, Bool.and_eq_true, Bool.or_eq_false_iff, Bool.not_eq_true', Bool.not_eq_false', Bool.and_eq_false_iff, beq_iff_eq, beq_eq_false_iff_ne, bne_iff_ne, bne_eq_false_iff_eq, ne_eq] at c2
      refine dw_skip ?_
      show DW _ _ _ _ _
      refine dw_reg (C := Ln) (by simp only [go_sem, getD_set hk2.1]; exact rfl) (fun h => by cases h) ?_ ?_
      · try simp only [go_sem, getD_set hk2.1]
        all_goals (first | done | (repeat' (with_reducible apply And.intro)) <;> first | omega | (with_reducible assumption) | (intros; omega) | (intros; simp only [decide_eq_true_eq, decide_eq_false_iff_not, Bool.or_eq_true, Bool.and_eq_true, Bool.or_eq_false_iff, Bool.not_eq_true', Bool.not_eq_false'] at *; omega) | (simp_all; done) | (simp_all; omega))
      show ∃ _, _
      refine ⟨(k + 1, _), ⟨(by first | (first | omega | (with_reducible assumption) | (simp_all; done) | (simp_all; omega)) | (dsimp only; first | omega | (with_reducible assumption) | (simp_all; done) | (simp_all; omega))), (by first | (rw [hv, allN_eq, if_pos hk2.1, few_yes c2]; rfl) | (dsimp only; rw [hv, allN_eq, if_pos hk2.1, few_yes c2]; rfl)), trivial⟩, (by show (_ : Nat) < _; first | omega | simp_all; omega), ?_, ?_, ?_, Nat.le_refl _, rfl, rfl⟩
      · try simp only [go_sem, getD_set hk2.1]
        all_goals (first | done | (simp; done) | (simp; omega) | ((repeat' (with_reducible apply And.intro)) <;> first | (left; simp; done) | (right; simp [go_sem]; done)))
      · try simp only [go_sem, getD_set hk2.1]
        all_goals (first | done | (simp; done) | (simp; omega) | ((repeat' (with_reducible apply And.intro)) <;> first | (left; simp; done) | (right; simp [go_sem]; done)))
      · try simp only [go_sem, getD_set hk2.1]
        all_goals (first | done | (simp; done) | (simp; omega) | ((repeat' (with_reducible apply And.intro)) <;> first | (left; simp; done) | (right; simp [go_sem]; done)))
  · skip
    try simp only [decide_eq_true_eq, decide_eq_false_iff_not, Bool.or_eq_true, Bool.and_eq_true, Bool.or_eq_false_iff, Bool.not_eq_true', Bool.not_eq_false', Bool.and_eq_false_iff, beq_iff_eq, beq_eq_false_iff_ne, bne_iff_ne, bne_eq_false_iff_eq, ne_eq] at c1
    have hk3 : l.length ≤ k ∨ 50 ≤ k := by omega
    refine dw_exit ?_
    show DW _ _ _ _ _
    refine dw_step (C := Ln) (by simp only [go_sem]; exact rfl) (fun h => by cases h) ?_ ?_
    · try simp only [go_sem]
      all_goals (first | done | (repeat' (with_reducible apply And.intro)) <;> first | omega | (with_reducible assumption) | (intros; omega) | (intros; simp only [decide_eq_true_eq, decide_eq_false_iff_not, Bool.or_eq_true, Bool.and_eq_true, Bool.or_eq_false_iff, Bool.not_eq_true', Bool.not_eq_false'] at *; omega) | (simp_all; done) | (simp_all; omega))
    refine dw_ret ?_
    refine ⟨(by first | exact .inr rfl | trivial | simp), ?_, ?_⟩
    · simp only [go_sem]
    refine ⟨0, ?_, ?_⟩
    · try simp only [go_sem]
      all_goals (simp)
    · try simp only [go_sem]
      all_goals (rw [few_end hv hk.2 hk3])
theorem bo21 : hasBody Tryd.prog 21 = true := by kernel_rfl
theorem rbytes2_ct (a : Str) (b : Str) : PureCt Tryd.prog 21 [.list false (a.map bD), .list false (b.map bD)] (.b (sameStr a b)) := by
  refine pure_of_dw Tryd.func21 rfl bo21 (by simp [go_sem, D.nr, nrs, nrr]) (by simp [Tryd.f21]) ?_
  unfold Tryd.f21
  simp only [init_eq]
  refine dw_step (C := Ln) (by simp only [go_sem]; exact rfl) (fun h => by cases h) ?_ ?_
  · try simp only [go_sem]
    all_goals (first | done | (repeat' (with_reducible apply And.intro)) <;> first | omega | (with_reducible assumption) | (intros; omega) | (intros; simp only [decide_eq_true_eq, decide_eq_false_iff_not, Bool.or_eq_true, Bool.and_eq_true, Bool.or_eq_false_iff, Bool.not_eq_true', Bool.not_eq_false'] at *; omega) | (simp_all; done) | (simp_all; omega))
  refine dw_step (C := Ln) (by simp only [go_sem]; exact rfl) (fun h => by cases h) ?_ ?_
  · try simp only [go_sem]
    all_goals (first | done | (repeat' (with_reducible apply And.intro)) <;> first | omega | (with_reducible assumption) | (intros; omega) | (intros; simp only [decide_eq_true_eq, decide_eq_false_iff_not, Bool.or_eq_true, Bool.and_eq_true, Bool.or_eq_false_iff, Bool.not_eq_true', Bool.not_eq_false'] at *; omega) | (simp_all; done) | (simp_all; omega))
  refine dw_ret ?_
  refine ⟨(by first | exact .inr rfl | trivial | simp), ?_, ?_⟩
  · simp only [go_sem]
  refine ⟨0, ?_, ?_⟩
  · try simp only [go_sem]
    all_goals (simp)
  · try simp only [go_sem]
    all_goals (rw [sameStr]; congr 2; by_cases h : a = b <;> simp [h])
theorem _root_.Go.DL.PureCt.as {P : Program} [Glob P] {f : FuncId} {args args' : List D} {r r' : D} (h : PureCt P f args r) (ea : args = args') (e : r = r') : PureCt P f args' r' := ea ▸ e ▸ h
def headB : Str := setB ⟨[120], 1, 5, [⟨[], 7, 0⟩]⟩
theorem hB : bytesF ⟨[120], 1, 5, [⟨[], 7, 0⟩]⟩ = (headB, 0) := by kernel_rfl
theorem hBl : headB.length = 36 := by kernel_rfl
theorem hB0 : (headB.map bD).getD 0 [] = [.v (.int .u8 1)] := by rfl
theorem hB1 : (headB.map bD).getD 1 [] = [.v (.int .u8 120)] := by rfl
theorem hR : readF headB = (⟨[120], 1, 5, [⟨[], 7, 0⟩]⟩, 0) := by kernel_rfl
theorem hR0 : readF [] = (⟨[], 0, 0, []⟩, 10) := by kernel_rfl
theorem hC : cmpF ⟨[120], 1, 5, [⟨[], 7, 0⟩]⟩ ⟨[120], 5, 0, [⟨[97, 32, 98], 0, 0⟩]⟩ = (-1, 0) := by kernel_rfl
theorem hI (n : Int) : ints1 (.list false [[.v (.int .i64 n)]]) = [n] := rfl
theorem hI2 (n m : Int) : ints1 (.list false [[.v (.int .i64 n)], [.v (.int .i64 m)]]) = [n, m] := rfl
theorem hD1 (s : Str) (n m : Int) : dats1 (.list false [[.v (.string (bs s)), .v (.int .i64 n), .v (.int .i64 m)]]) = [⟨s, n, m⟩] := dats1_map (l := [⟨s, n, m⟩])
theorem hD2 (s s' : Str) (n m n' m' : Int) : dats1 (.list false [[.v (.string (bs s)), .v (.int .i64 n), .v (.int .i64 m)], [.v (.string (bs s')), .v (.int .i64 n'), .v (.int .i64 m')]]) = [⟨s, n, m⟩, ⟨s', n', m'⟩] := dats1_map (l := [⟨s, n, m⟩, ⟨s', n', m'⟩])
theorem hS1 (s : Str) (a b : Int) (s1 s2 : Str) (n m n' m' : Int) : sets1 (.list false [[.v (.string (bs s)), .v (.int .i64 a), .v (.int .i64 b), .list false [[.v (.string (bs s1)), .v (.int .i64 n), .v (.int .i64 m)], [.v (.string (bs s2)), .v (.int .i64 n'), .v (.int .i64 m')]]]]) = [⟨s, a, b, [⟨s1, n, m⟩, ⟨s2, n', m'⟩]⟩] := sets1_map (l := [⟨s, a, b, [⟨s1, n, m⟩, ⟨s2, n', m'⟩]⟩])
theorem hI0 : ints1 (.list false []) = [] := rfl
def hm1 : List RSet := [⟨[120], 1, 5, [⟨[], 7, 0⟩]⟩, ⟨[120], 1, 4, [⟨[], 3, 0⟩]⟩]
def hm2 : List RSet := [⟨[120], 3, 0, [⟨[97], 0, 0⟩]⟩, ⟨[120], 3, 0, [⟨[98], 0, 0⟩]⟩]
theorem hM1 : mergeP (sets1 (.list false [[.v (.string (bs [120])), .v (.int .i64 1), .v (.int .i64 5), .list false [[.v (.string (bs [])), .v (.int .i64 7), .v (.int .i64 0)]]], [.v (.string (bs [120])), .v (.int .i64 1), .v (.int .i64 4), .list false [[.v (.string (bs [])), .v (.int .i64 3), .v (.int .i64 0)]]]])) = ([⟨[120], 1, 4, [⟨[], 3, 0⟩, ⟨[], 7, 0⟩]⟩], 0) := by kernel_rfl
theorem hM2 : mergeP (sets1 (.list false [[.v (.string (bs [120])), .v (.int .i64 3), .v (.int .i64 0), .list false [[.v (.string (bs [97])), .v (.int .i64 0), .v (.int .i64 0)]]], [.v (.string (bs [120])), .v (.int .i64 3), .v (.int .i64 0), .list false [[.v (.string (bs [98])), .v (.int .i64 0), .v (.int .i64 0)]]]])) = ([], 35) := by kernel_rfl
theorem hd_bytes : PureCt Tryd.prog 17 [.agg [.v (.string (bs [120])), .v (.int .i64 1), .v (.int .i64 5), .list false [[.v (.string (bs [])), .v (.int .i64 7), .v (.int .i64 0)]]]] (.tuple [.list false (headB.map bD), .v (.int .i64 0)]) := by
  have := rbytes_ct ⟨[120], 1, 5, [⟨[], 7, 0⟩]⟩
  rw [hB] at this
  exact this
theorem hd_read : PureCt Tryd.prog 19 [.list false (headB.map bD)] (.tuple [.agg [.v (.string (bs [120])), .v (.int .i64 1), .v (.int .i64 5), .list false [[.v (.string (bs [])), .v (.int .i64 7), .v (.int .i64 0)]]], .v (.int .i64 0)]) := by
  have := rread_ct headB
  rw [hR] at this
  exact this
theorem hd_read0 : PureCt Tryd.prog 19 [.list false []] (.tuple [.agg [.v (.string (bs [])), .v (.int .i64 0), .v (.int .i64 0), .list false []], .v (.int .i64 10)]) := by
  have := rread_ct []
  rw [hR0] at this
  exact this
theorem hd_m1 : PureCt Tryd.prog 12 [.list false (hm1.map RSet.d)] (.tuple [.list false [[.v (.string (bs [120])), .v (.int .i64 1), .v (.int .i64 4), .list false [[.v (.string (bs [])), .v (.int .i64 3), .v (.int .i64 0)], [.v (.string (bs [])), .v (.int .i64 7), .v (.int .i64 0)]]]], .v (.int .i64 0)]) := by
  have := rmerge_ct hm1 (by decide) (by decide) (by decide)
  rw [show mergeP hm1 = ([⟨[120], 1, 4, [⟨[], 3, 0⟩, ⟨[], 7, 0⟩]⟩], 0) by kernel_rfl] at this
  exact this
theorem hd_m2 : PureCt Tryd.prog 12 [.list false (hm2.map RSet.d)] (.tuple [.list false [], .v (.int .i64 35)]) := by
  have := rmerge_ct hm2 (by decide) (by decide) (by decide)
  rw [show mergeP hm2 = ([], 35) by kernel_rfl] at this
  exact this
theorem hd_cmp : PureCt Tryd.prog 10 [.agg [.v (.string (bs [120])), .v (.int .i64 1), .v (.int .i64 5), .list false [[.v (.string (bs [])), .v (.int .i64 7), .v (.int .i64 0)]]], .agg [.v (.string (bs [120])), .v (.int .i64 5), .v (.int .i64 0), .list false [[.v (.string (bs [97, 32, 98])), .v (.int .i64 0), .v (.int .i64 0)]]]] (.tuple [.v (.int .i64 (-1)), .v (.int .i64 0)]) := by
  have := rccmp_ct ⟨[120], 1, 5, [⟨[], 7, 0⟩]⟩ ⟨[120], 5, 0, [⟨[97, 32, 98], 0, 0⟩]⟩
  rw [hC] at this
  exact this
theorem bo8 : hasBody Tryd.prog 8 = true := by kernel_rfl
theorem head02_ct  : PureCt Tryd.prog 8 [] (.b true) := by
  refine pure_of_dw Tryd.func8 rfl bo8 (by simp [go_sem, D.nr, nrs, nrr]) (by simp [Tryd.f8]) ?_
  unfold Tryd.f8
  simp only [init_eq]
  refine dw_step (C := Ln) (by simp only [go_sem, hI, hI2, hI0, hD1, hD2, hS1, addrF, hB, hBl, hB0, hB1, hR, hR0, hC, hM1, hM2]; exact rfl) (fun h => by cases h) ?_ ?_
  · try simp only [go_sem, hI, hI2, hI0, hD1, hD2, hS1, addrF, hB, hBl, hB0, hB1, hR, hR0, hC, hM1, hM2]
    all_goals (first | done | ((repeat' (with_reducible apply And.intro)) <;> (intros; first | done | omega | exact hd_bytes | exact hd_read | exact hd_read0 | exact hd_m1 | exact hd_m2 | exact hd_cmp | exact (addr_ct _ [7] (by decide)).as rfl rfl | exact (addr_ct _ [3] (by decide)).as rfl rfl | exact (addr_ct _ [1] (by decide)).as rfl rfl | exact (addr_ct _ [3, 7] (by decide)).as rfl rfl | exact (addr_ct _ [7, 3] (by decide)).as rfl rfl | exact (addr_ct _ [1000001] (by decide)).as rfl rfl | exact (addr_ct _ [] (by decide)).as rfl rfl |  (simp_all; done) | skip)))
  refine dw_step (C := Ln) (by simp only [go_sem, hI, hI2, hI0, hD1, hD2, hS1, addrF, hB, hBl, hB0, hB1, hR, hR0, hC, hM1, hM2]; exact rfl) (fun h => by cases h) ?_ ?_
  · try simp only [go_sem, hI, hI2, hI0, hD1, hD2, hS1, addrF, hB, hBl, hB0, hB1, hR, hR0, hC, hM1, hM2]
    all_goals (first | done | ((repeat' (with_reducible apply And.intro)) <;> (intros; first | done | omega | exact hd_bytes | exact hd_read | exact hd_read0 | exact hd_m1 | exact hd_m2 | exact hd_cmp | exact (addr_ct _ [7] (by decide)).as rfl rfl | exact (addr_ct _ [3] (by decide)).as rfl rfl | exact (addr_ct _ [1] (by decide)).as rfl rfl | exact (addr_ct _ [3, 7] (by decide)).as rfl rfl | exact (addr_ct _ [7, 3] (by decide)).as rfl rfl | exact (addr_ct _ [1000001] (by decide)).as rfl rfl | exact (addr_ct _ [] (by decide)).as rfl rfl |  (simp_all; done) | skip)))
  refine dw_step (C := Ln) (by simp only [go_sem, hI, hI2, hI0, hD1, hD2, hS1, addrF, hB, hBl, hB0, hB1, hR, hR0, hC, hM1, hM2]; exact rfl) (fun h => by cases h) ?_ ?_
  · try simp only [go_sem, hI, hI2, hI0, hD1, hD2, hS1, addrF, hB, hBl, hB0, hB1, hR, hR0, hC, hM1, hM2]
    all_goals (first | done | ((repeat' (with_reducible apply And.intro)) <;> (intros; first | done | omega | exact hd_bytes | exact hd_read | exact hd_read0 | exact hd_m1 | exact hd_m2 | exact hd_cmp | exact (addr_ct _ [7] (by decide)).as rfl rfl | exact (addr_ct _ [3] (by decide)).as rfl rfl | exact (addr_ct _ [1] (by decide)).as rfl rfl | exact (addr_ct _ [3, 7] (by decide)).as rfl rfl | exact (addr_ct _ [7, 3] (by decide)).as rfl rfl | exact (addr_ct _ [1000001] (by decide)).as rfl rfl | exact (addr_ct _ [] (by decide)).as rfl rfl |  (simp_all; done) | skip)))
  refine dw_step (C := Ln) (by simp only [go_sem, hI, hI2, hI0, hD1, hD2, hS1, addrF, hB, hBl, hB0, hB1, hR, hR0, hC, hM1, hM2]; exact rfl) (fun h => by cases h) ?_ ?_
  · try simp only [go_sem, hI, hI2, hI0, hD1, hD2, hS1, addrF, hB, hBl, hB0, hB1, hR, hR0, hC, hM1, hM2]
    all_goals (first | done | ((repeat' (with_reducible apply And.intro)) <;> (intros; first | done | omega | exact hd_bytes | exact hd_read | exact hd_read0 | exact hd_m1 | exact hd_m2 | exact hd_cmp | exact (addr_ct _ [7] (by decide)).as rfl rfl | exact (addr_ct _ [3] (by decide)).as rfl rfl | exact (addr_ct _ [1] (by decide)).as rfl rfl | exact (addr_ct _ [3, 7] (by decide)).as rfl rfl | exact (addr_ct _ [7, 3] (by decide)).as rfl rfl | exact (addr_ct _ [1000001] (by decide)).as rfl rfl | exact (addr_ct _ [] (by decide)).as rfl rfl |  (simp_all; done) | skip)))
  refine dw_step (C := Ln) (by simp only [go_sem, hI, hI2, hI0, hD1, hD2, hS1, addrF, hB, hBl, hB0, hB1, hR, hR0, hC, hM1, hM2]; exact rfl) (fun h => by cases h) ?_ ?_
  · try simp only [go_sem, hI, hI2, hI0, hD1, hD2, hS1, addrF, hB, hBl, hB0, hB1, hR, hR0, hC, hM1, hM2]
    all_goals (first | done | ((repeat' (with_reducible apply And.intro)) <;> (intros; first | done | omega | exact hd_bytes | exact hd_read | exact hd_read0 | exact hd_m1 | exact hd_m2 | exact hd_cmp | exact (addr_ct _ [7] (by decide)).as rfl rfl | exact (addr_ct _ [3] (by decide)).as rfl rfl | exact (addr_ct _ [1] (by decide)).as rfl rfl | exact (addr_ct _ [3, 7] (by decide)).as rfl rfl | exact (addr_ct _ [7, 3] (by decide)).as rfl rfl | exact (addr_ct _ [1000001] (by decide)).as rfl rfl | exact (addr_ct _ [] (by decide)).as rfl rfl |  (simp_all; done) | skip)))
  refine dw_step (C := Ln) (by simp only [go_sem, hI, hI2, hI0, hD1, hD2, hS1, addrF, hB, hBl, hB0, hB1, hR, hR0, hC, hM1, hM2]; exact rfl) (fun h => by cases h) ?_ ?_
  · try simp only [go_sem, hI, hI2, hI0, hD1, hD2, hS1, addrF, hB, hBl, hB0, hB1, hR, hR0, hC, hM1, hM2]
    all_goals (first | done | ((repeat' (with_reducible apply And.intro)) <;> (intros; first | done | omega | exact hd_bytes | exact hd_read | exact hd_read0 | exact hd_m1 | exact hd_m2 | exact hd_cmp | exact (addr_ct _ [7] (by decide)).as rfl rfl | exact (addr_ct _ [3] (by decide)).as rfl rfl | exact (addr_ct _ [1] (by decide)).as rfl rfl | exact (addr_ct _ [3, 7] (by decide)).as rfl rfl | exact (addr_ct _ [7, 3] (by decide)).as rfl rfl | exact (addr_ct _ [1000001] (by decide)).as rfl rfl | exact (addr_ct _ [] (by decide)).as rfl rfl |  (simp_all; done) | skip)))
  refine dw_step (C := Ln) (by simp only [go_sem, hI, hI2, hI0, hD1, hD2, hS1, addrF, hB, hBl, hB0, hB1, hR, hR0, hC, hM1, hM2]; exact rfl) (fun h => by cases h) ?_ ?_
  · try simp only [go_sem, hI, hI2, hI0, hD1, hD2, hS1, addrF, hB, hBl, hB0, hB1, hR, hR0, hC, hM1, hM2]
    all_goals (first | done | ((repeat' (with_reducible apply And.intro)) <;> (intros; first | done | omega | exact hd_bytes | exact hd_read | exact hd_read0 | exact hd_m1 | exact hd_m2 | exact hd_cmp | exact (addr_ct _ [7] (by decide)).as rfl rfl | exact (addr_ct _ [3] (by decide)).as rfl rfl | exact (addr_ct _ [1] (by decide)).as rfl rfl | exact (addr_ct _ [3, 7] (by decide)).as rfl rfl | exact (addr_ct _ [7, 3] (by decide)).as rfl rfl | exact (addr_ct _ [1000001] (by decide)).as rfl rfl | exact (addr_ct _ [] (by decide)).as rfl rfl |  (simp_all; done) | skip)))
  refine dw_step (C := Ln) (by simp only [go_sem, hI, hI2, hI0, hD1, hD2, hS1, addrF, hB, hBl, hB0, hB1, hR, hR0, hC, hM1, hM2]; exact rfl) (fun h => by cases h) ?_ ?_
  · try simp only [go_sem, hI, hI2, hI0, hD1, hD2, hS1, addrF, hB, hBl, hB0, hB1, hR, hR0, hC, hM1, hM2]
    all_goals (first | done | ((repeat' (with_reducible apply And.intro)) <;> (intros; first | done | omega | exact hd_bytes | exact hd_read | exact hd_read0 | exact hd_m1 | exact hd_m2 | exact hd_cmp | exact (addr_ct _ [7] (by decide)).as rfl rfl | exact (addr_ct _ [3] (by decide)).as rfl rfl | exact (addr_ct _ [1] (by decide)).as rfl rfl | exact (addr_ct _ [3, 7] (by decide)).as rfl rfl | exact (addr_ct _ [7, 3] (by decide)).as rfl rfl | exact (addr_ct _ [1000001] (by decide)).as rfl rfl | exact (addr_ct _ [] (by decide)).as rfl rfl |  (simp_all; done) | skip)))
  refine dw_step (C := Ln) (by simp only [go_sem, hI, hI2, hI0, hD1, hD2, hS1, addrF, hB, hBl, hB0, hB1, hR, hR0, hC, hM1, hM2]; exact rfl) (fun _ => ⟨mix, by kernel_rfl, by kernel_rfl⟩) ?_ ?_
  · try simp only [go_sem, hI, hI2, hI0, hD1, hD2, hS1, addrF, hB, hBl, hB0, hB1, hR, hR0, hC, hM1, hM2]
    all_goals (first | done | ((repeat' (with_reducible apply And.intro)) <;> (intros; first | done | omega | exact hd_bytes | exact hd_read | exact hd_read0 | exact hd_m1 | exact hd_m2 | exact hd_cmp | exact (addr_ct _ [7] (by decide)).as rfl rfl | exact (addr_ct _ [3] (by decide)).as rfl rfl | exact (addr_ct _ [1] (by decide)).as rfl rfl | exact (addr_ct _ [3, 7] (by decide)).as rfl rfl | exact (addr_ct _ [7, 3] (by decide)).as rfl rfl | exact (addr_ct _ [1000001] (by decide)).as rfl rfl | exact (addr_ct _ [] (by decide)).as rfl rfl | exact rsame02_ct (addrF 5 [7]) (addrF 5 [7]) (by decide) | exact rsames02_ct [addrF 4 [3, 7]] [addrF 4 [3, 7]] (by decide) (by decide) | (simp_all; done) | skip)))
  refine dw_step (C := Ln) (by simp only [go_sem, hI, hI2, hI0, hD1, hD2, hS1, addrF, hB, hBl, hB0, hB1, hR, hR0, hC, hM1, hM2]; exact rfl) (fun h => by cases h) ?_ ?_
  · try simp only [go_sem, hI, hI2, hI0, hD1, hD2, hS1, addrF, hB, hBl, hB0, hB1, hR, hR0, hC, hM1, hM2]
    all_goals (first | done | ((repeat' (with_reducible apply And.intro)) <;> (intros; first | done | omega | exact hd_bytes | exact hd_read | exact hd_read0 | exact hd_m1 | exact hd_m2 | exact hd_cmp | exact (addr_ct _ [7] (by decide)).as rfl rfl | exact (addr_ct _ [3] (by decide)).as rfl rfl | exact (addr_ct _ [1] (by decide)).as rfl rfl | exact (addr_ct _ [3, 7] (by decide)).as rfl rfl | exact (addr_ct _ [7, 3] (by decide)).as rfl rfl | exact (addr_ct _ [1000001] (by decide)).as rfl rfl | exact (addr_ct _ [] (by decide)).as rfl rfl | exact rvalid_ct (addrF 0 [1]) | exact rvalid_ct (addrF 5 []) | exact rvalid_ct (addrF 5 [7, 3]) | exact rvalid_ct (addrF 100001 [7]) | exact rvalid_ct (addrF 5 [1000001]) | (simp_all; done) | skip)))
  refine dw_ret ?_
  refine ⟨(by first | exact .inr rfl | trivial | simp), ?_, ?_⟩
  · simp only [go_sem, hI, hI2, hI0, hD1, hD2, hS1, addrF, hB, hBl, hB0, hB1, hR, hR0, hC, hM1, hM2]
  refine ⟨0, ?_, ?_⟩
  · try simp only [go_sem, hI, hI2, hI0, hD1, hD2, hS1, addrF, hB, hBl, hB0, hB1, hR, hR0, hC, hM1, hM2]
    all_goals (simp)
  · try simp only [go_sem, hI, hI2, hI0, hD1, hD2, hS1, addrF, hB, hBl, hB0, hB1, hR, hR0, hC, hM1, hM2]
    all_goals (kernel_rfl)
end Go.Proofs.YtfggmgafjabbjaaDoor
