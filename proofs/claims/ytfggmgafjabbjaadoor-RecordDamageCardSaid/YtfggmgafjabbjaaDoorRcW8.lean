import Derived.Test.YtfggmgafjabbjaaDoorRcW7
namespace Go.Proofs.YtfggmgafjabbjaaDoor
open Go.DL Go.Str Go.Rec Go.Cmp
set_option maxRecDepth 10000
set_option linter.unusedSimpArgs false
set_option linter.unusedVariables false
theorem bo19 : hasBody Tryd.prog 19 = true := by kernel_rfl
theorem rread_ct (x : Str) : PureCt Tryd.prog 19 [.list false (x.map bD)] (.tuple [.agg (readF x).1.d, .i (readF x).2]) := by
  refine pure_of_dw Tryd.func19 rfl bo19 (by simp [go_sem, D.nr, nrs, nrr]) (by simp [Tryd.f19]) ?_
  unfold Tryd.f19
  simp only [init_eq]
  refine dw_step (C := Rn) (by simp only [go_sem]; exact rfl) (fun h => by cases h) ?_ ?_
  · try simp only [go_sem]
    all_goals (first | done | (repeat' (with_reducible apply And.intro)) <;> first | omega | (with_reducible assumption) | (intros; omega) | (intros; simp only [decide_eq_true_eq, decide_eq_false_iff_not, Bool.or_eq_true, Bool.and_eq_true, Bool.or_eq_false_iff, Bool.not_eq_true', Bool.not_eq_false'] at *; omega) | (simp_all; done) | (simp_all; omega))
  refine dw_step (C := Rn) (by simp only [go_sem]; exact rfl) (fun h => by cases h) ?_ ?_
  · try simp only [go_sem]
    all_goals (first | done | (repeat' (with_reducible apply And.intro)) <;> first | omega | (with_reducible assumption) | (intros; omega) | (intros; simp only [decide_eq_true_eq, decide_eq_false_iff_not, Bool.or_eq_true, Bool.and_eq_true, Bool.or_eq_false_iff, Bool.not_eq_true', Bool.not_eq_false'] at *; omega) | (simp_all; done) | (simp_all; omega))
  refine dw_step (C := Rn) (by simp only [go_sem]; exact rfl) (fun h => by cases h) ?_ ?_
  · try simp only [go_sem]
    all_goals (first | done | (repeat' (with_reducible apply And.intro)) <;> first | omega | (with_reducible assumption) | (intros; omega) | (intros; simp only [decide_eq_true_eq, decide_eq_false_iff_not, Bool.or_eq_true, Bool.and_eq_true, Bool.or_eq_false_iff, Bool.not_eq_true', Bool.not_eq_false'] at *; omega) | (simp_all; done) | (simp_all; omega))
  refine dw_seq (dw_call (C := Rn) 1 (R := _) (arr_at rfl) rfl rfl (by simp only [List.take_succ_cons, List.take_zero, go_sem]; exact rfl) ?_ ?_ (by simp only [go_sem]; exact rfl) (by simp only [go_sem]) (by simp only [go_sem]; exact rfl) (by exact text_ct (x, false) 4 _ _ rfl) ?_)
  · try simp only [go_sem]
    all_goals (first | done | (repeat' (with_reducible apply And.intro)) <;> first | omega | (with_reducible assumption) | (intros; omega) | (intros; simp only [decide_eq_true_eq, decide_eq_false_iff_not, Bool.or_eq_true, Bool.and_eq_true, Bool.or_eq_false_iff, Bool.not_eq_true', Bool.not_eq_false'] at *; omega) | (simp_all; done) | (simp_all; omega))
  · try simp only [go_sem]
    all_goals (first | done | rfl | decide | simp)
  rintro res h2 n2 ⟨rfl, rfl, a1⟩
  try dsimp only at a1
  have p4 : 4 < n2 := by omega
  have p0 : 0 < n2 := by omega
  refine ⟨⟨_, _, _, _, _, _⟩, by simp only [List.drop_succ_cons, List.drop_zero, S.put, go_sem, p4, p0]; exact rfl, ?_, ?_⟩
  · try simp only [go_sem, p4, p0]
    all_goals (first | done | (repeat' (with_reducible apply And.intro)) <;> first | omega | (with_reducible assumption) | (intros; omega) | (intros; simp only [decide_eq_true_eq, decide_eq_false_iff_not, Bool.or_eq_true, Bool.and_eq_true, Bool.or_eq_false_iff, Bool.not_eq_true', Bool.not_eq_false'] at *; omega) | (simp_all; done) | (simp_all; omega))
  try simp only [clear_eq]
  show DW _ _ _ _ _
  obtain ⟨q, hq⟩ : ∃ q, q = n2 + 3 := ⟨_, rfl⟩
  rw [← hq]
  refine dw_ownj q 3 24 48 (by simp only [go_sem, p4, p0]; exact rfl) (by rfl) (by simp only [go_sem, p4, p0]) ?_
  simp only [List.set_cons_succ, List.set_cons_zero]
  obtain ⟨r0, hr0⟩ : ∃ r0, r0 = (n2 + 5) := ⟨_, rfl⟩
  rw [← hr0]
  have z4_q : (4 = q) = False := eq_false (by omega)
  have yq_4 : (q = 4) = False := eq_false (by omega)
  have z4_r0 : (4 = r0) = False := eq_false (by omega)
  have yr0_4 : (r0 = 4) = False := eq_false (by omega)
  have zq_r0 : (q = r0) = False := eq_false (by omega)
  have yr0_q : (r0 = q) = False := eq_false (by omega)
  have z0_q : (0 = q) = False := eq_false (by omega)
  have yq_0 : (q = 0) = False := eq_false (by omega)
  have z0_r0 : (0 = r0) = False := eq_false (by omega)
  have yr0_0 : (r0 = 0) = False := eq_false (by omega)
  refine dw_cut [2, 4, 5, 6, 7] [(0, ⟨24, [[.v (.string (bs [])), .i 0, .i 0, .list true []]]⟩), (4, ⟨74, [[.list false (((pText (x, false)).2).1.map bD), .b ((pText (x, false)).2).2]]⟩), (q, ⟨24, [[.v (.string (bs ((pText (x, false)).1))), .i (0), .i (0), .mrow r0 0 0]]⟩), (r0, ⟨48, []⟩)] (by simp only [List.map_cons, List.map_nil, go_sem, p4, p0, z4_q, yq_4, z4_r0, yr0_4, zq_r0, yr0_q, z0_q, yq_0, z0_r0, yr0_0]; exact rfl) (by first | (simp only [go_sem, p4, p0, z4_q, yq_4, z4_r0, yr0_4, zq_r0, yr0_q, z0_q, yq_0, z0_r0, yr0_0]; done) | (simp [go_sem, p4, p0, z4_q, yq_4, z4_r0, yr0_4, zq_r0, yr0_q, z0_q, yq_0, z0_r0, yr0_0]; done)) ?_
  show DW _ _ _ _ { n := _, t := tab _, h := _, nx := _, e := _ }
  refine dw_seq (dw_call (C := Rn) 1 (R := _) (arr_at rfl) rfl rfl (by simp only [List.take_succ_cons, List.take_zero, go_sem, p4, p0, z4_q, yq_4, z4_r0, yr0_4, zq_r0, yr0_q, z0_q, yq_0, z0_r0, yr0_0]; exact rfl) ?_ ?_ (by simp only [go_sem, p4, p0, z4_q, yq_4, z4_r0, yr0_4, zq_r0, yr0_q, z0_q, yq_0, z0_r0, yr0_0]; exact rfl) (by simp only [go_sem, p4, p0, z4_q, yq_4, z4_r0, yr0_4, zq_r0, yr0_q, z0_q, yq_0, z0_r0, yr0_0]) (by simp only [go_sem, p4, p0, z4_q, yq_4, z4_r0, yr0_4, zq_r0, yr0_q, z0_q, yq_0, z0_r0, yr0_0]; exact rfl) (by exact number_ct (pText (x, false)).2 4 _ _ (by simp only [go_sem])) ?_)
  · try simp only [go_sem, p4, p0, z4_q, yq_4, z4_r0, yr0_4, zq_r0, yr0_q, z0_q, yq_0, z0_r0, yr0_0]
    all_goals (first | done | (repeat' (with_reducible apply And.intro)) <;> first | omega | (with_reducible assumption) | (intros; omega) | (intros; simp only [decide_eq_true_eq, decide_eq_false_iff_not, Bool.or_eq_true, Bool.and_eq_true, Bool.or_eq_false_iff, Bool.not_eq_true', Bool.not_eq_false'] at *; omega) | (simp_all; done) | (simp_all; omega))
  · try simp only [go_sem, p4, p0, z4_q, yq_4, z4_r0, yr0_4, zq_r0, yr0_q, z0_q, yq_0, z0_r0, yr0_0]
    all_goals (first | done | rfl | decide | simp)
  rintro res h2 n2 ⟨rfl, rfl, a2⟩
  try dsimp only at a2
  have p4 : 4 < n2 := by omega
  have p0 : 0 < n2 := by omega
  have pq : q < n2 := by omega
  have pr : r0 < n2 := by omega
  refine ⟨⟨_, _, _, _, _, _⟩, by simp only [List.drop_succ_cons, List.drop_zero, S.put, go_sem, p4, p0, z4_q, yq_4, z4_r0, yr0_4, zq_r0, yr0_q, z0_q, yq_0, z0_r0, yr0_0, pq, pr]; exact rfl, ?_, ?_⟩
  · try simp only [go_sem, p4, p0, z4_q, yq_4, z4_r0, yr0_4, zq_r0, yr0_q, z0_q, yq_0, z0_r0, yr0_0, pq, pr]
    all_goals (first | done | (repeat' (with_reducible apply And.intro)) <;> first | omega | (with_reducible assumption) | (intros; omega) | (intros; simp only [decide_eq_true_eq, decide_eq_false_iff_not, Bool.or_eq_true, Bool.and_eq_true, Bool.or_eq_false_iff, Bool.not_eq_true', Bool.not_eq_false'] at *; omega) | (simp_all; done) | (simp_all; omega))
  try simp only [clear_eq]
  show DW _ _ _ _ _
  refine dw_seq (dw_call (C := Rn) 1 (R := _) (arr_at rfl) rfl rfl (by simp only [List.take_succ_cons, List.take_zero, go_sem, p4, p0, z4_q, yq_4, z4_r0, yr0_4, zq_r0, yr0_q, z0_q, yq_0, z0_r0, yr0_0, pq, pr]; exact rfl) ?_ ?_ (by simp only [go_sem, p4, p0, z4_q, yq_4, z4_r0, yr0_4, zq_r0, yr0_q, z0_q, yq_0, z0_r0, yr0_0, pq, pr]; exact rfl) (by simp only [go_sem, p4, p0, z4_q, yq_4, z4_r0, yr0_4, zq_r0, yr0_q, z0_q, yq_0, z0_r0, yr0_0, pq, pr]) (by simp only [go_sem, p4, p0, z4_q, yq_4, z4_r0, yr0_4, zq_r0, yr0_q, z0_q, yq_0, z0_r0, yr0_0, pq, pr]; exact rfl) (by exact number_ct (pNum (pText (x, false)).2).2 4 _ _ (by simp only [go_sem, z4_q, yq_4] )) ?_)
  · try simp only [go_sem, p4, p0, z4_q, yq_4, z4_r0, yr0_4, zq_r0, yr0_q, z0_q, yq_0, z0_r0, yr0_0, pq, pr]
    all_goals (first | done | (repeat' (with_reducible apply And.intro)) <;> first | omega | (with_reducible assumption) | (intros; omega) | (intros; simp only [decide_eq_true_eq, decide_eq_false_iff_not, Bool.or_eq_true, Bool.and_eq_true, Bool.or_eq_false_iff, Bool.not_eq_true', Bool.not_eq_false'] at *; omega) | (simp_all; done) | (simp_all; omega))
  · try simp only [go_sem, p4, p0, z4_q, yq_4, z4_r0, yr0_4, zq_r0, yr0_q, z0_q, yq_0, z0_r0, yr0_0, pq, pr]
    all_goals (first | done | rfl | decide | simp)
  rintro res h2 n2 ⟨rfl, rfl, a3⟩
  try dsimp only at a3
  have p4 : 4 < n2 := by omega
  have p0 : 0 < n2 := by omega
  have pq : q < n2 := by omega
  have pr : r0 < n2 := by omega
  refine ⟨⟨_, _, _, _, _, _⟩, by simp only [List.drop_succ_cons, List.drop_zero, S.put, go_sem, p4, p0, z4_q, yq_4, z4_r0, yr0_4, zq_r0, yr0_q, z0_q, yq_0, z0_r0, yr0_0, pq, pr]; exact rfl, ?_, ?_⟩
  · try simp only [go_sem, p4, p0, z4_q, yq_4, z4_r0, yr0_4, zq_r0, yr0_q, z0_q, yq_0, z0_r0, yr0_0, pq, pr]
    all_goals (first | done | (repeat' (with_reducible apply And.intro)) <;> first | omega | (with_reducible assumption) | (intros; omega) | (intros; simp only [decide_eq_true_eq, decide_eq_false_iff_not, Bool.or_eq_true, Bool.and_eq_true, Bool.or_eq_false_iff, Bool.not_eq_true', Bool.not_eq_false'] at *; omega) | (simp_all; done) | (simp_all; omega))
  try simp only [clear_eq]
  show DW _ _ _ _ _
  refine dw_seq ?_
  refine dw_seq (dw_call (C := Rn) 0 (R := _) (arr_at rfl) rfl rfl (by simp only [List.take_succ_cons, List.take_zero, go_sem, p4, p0, z4_q, yq_4, z4_r0, yr0_4, zq_r0, yr0_q, z0_q, yq_0, z0_r0, yr0_0, pq, pr]; exact rfl) ?_ ?_ (by simp only [go_sem, p4, p0, z4_q, yq_4, z4_r0, yr0_4, zq_r0, yr0_q, z0_q, yq_0, z0_r0, yr0_0, pq, pr]; exact rfl) (by simp only [go_sem, p4, p0, z4_q, yq_4, z4_r0, yr0_4, zq_r0, yr0_q, z0_q, yq_0, z0_r0, yr0_0, pq, pr]) (by simp only [go_sem, p4, p0, z4_q, yq_4, z4_r0, yr0_4, zq_r0, yr0_q, z0_q, yq_0, z0_r0, yr0_0, pq, pr]; exact rfl) (by exact count_ct (pNum (pNum (pText (x, false)).2).2).2 4 _ _ (by simp only [go_sem, z4_q, yq_4])) ?_)
  · try simp only [go_sem, p4, p0, z4_q, yq_4, z4_r0, yr0_4, zq_r0, yr0_q, z0_q, yq_0, z0_r0, yr0_0, pq, pr]
    all_goals (first | done | (repeat' (with_reducible apply And.intro)) <;> first | omega | (with_reducible assumption) | (intros; omega) | (intros; simp only [decide_eq_true_eq, decide_eq_false_iff_not, Bool.or_eq_true, Bool.and_eq_true, Bool.or_eq_false_iff, Bool.not_eq_true', Bool.not_eq_false'] at *; omega) | (simp_all; done) | (simp_all; omega))
  · try simp only [go_sem, p4, p0, z4_q, yq_4, z4_r0, yr0_4, zq_r0, yr0_q, z0_q, yq_0, z0_r0, yr0_0, pq, pr]
    all_goals (first | done | rfl | decide | simp)
  rintro res h2 n2 ⟨rfl, rfl, a4⟩
  try dsimp only at a4
  have p4 : 4 < n2 := by omega
  have p0 : 0 < n2 := by omega
  have pq : q < n2 := by omega
  have pr : r0 < n2 := by omega
  refine ⟨⟨_, _, _, _, _, _⟩, by simp only [List.drop_succ_cons, List.drop_zero, S.put, go_sem, p4, p0, z4_q, yq_4, z4_r0, yr0_4, zq_r0, yr0_q, z0_q, yq_0, z0_r0, yr0_0, pq, pr]; exact rfl, ?_, ?_⟩
  · try simp only [go_sem, p4, p0, z4_q, yq_4, z4_r0, yr0_4, zq_r0, yr0_q, z0_q, yq_0, z0_r0, yr0_0, pq, pr]
    all_goals (first | done | (repeat' (with_reducible apply And.intro)) <;> first | omega | (with_reducible assumption) | (intros; omega) | (intros; simp only [decide_eq_true_eq, decide_eq_false_iff_not, Bool.or_eq_true, Bool.and_eq_true, Bool.or_eq_false_iff, Bool.not_eq_true', Bool.not_eq_false'] at *; omega) | (simp_all; done) | (simp_all; omega))
  try simp only [clear_eq]
  show DW _ _ _ _ _
  refine dw_block ?_
  refine dw_loop_fix (α := (Nat) × (List Dat) × (Nat) × (RS) × Nat) [2, 4, 5, 6, 7, 22] (fun ⟨k, out, r, st, nx⟩ => (k ≤ (pCount (pNum (pNum (pText (x, false)).2).2).2).1) ∧ (r < nx) ∧ (r ≠ 0 ∧ r ≠ 4 ∧ r ≠ q) ∧ (q < nx) ∧ (out.length ≤ k) ∧ (pDats ((pCount (pNum (pNum (pText (x, false)).2).2).2).1 - k) out st = pDats (pCount (pNum (pNum (pText (x, false)).2).2).2).1 [] (pCount (pNum (pNum (pText (x, false)).2).2).2).2) ∧ True) (fun ⟨k, out, r, st, nx⟩ => (pCount (pNum (pNum (pText (x, false)).2).2).2).1 - k) (fun ⟨k, out, r, st, nx⟩ => [(23, .i k)]) (fun ⟨k, out, r, st, nx⟩ => [(0, ⟨24, [[.v (.string (bs [])), .i 0, .i 0, .list true []]]⟩), (4, ⟨74, [[.list false ((st).1.map bD), .b (st).2]]⟩), (q, ⟨24, [[.v (.string (bs ((pText (x, false)).1))), .i ((pNum (pText (x, false)).2).1), .i ((pNum (pNum (pText (x, false)).2).2).1), .mrow r 0 out.length]]⟩), (r, ⟨48, out.map Dat.d⟩)]) (fun ⟨k, out, r, st, nx⟩ => nx) (0, [], r0, (pCount (pNum (pNum (pText (x, false)).2).2).2).2, _) (by simp only [List.map_cons, List.map_nil, go_sem, p4, p0, z4_q, yq_4, z4_r0, yr0_4, zq_r0, yr0_q, z0_q, yq_0, z0_r0, yr0_0, pq, pr]; exact rfl) ⟨(by first | (first | omega | (with_reducible assumption) | (simp_all; done) | (simp_all; omega)) | (dsimp only; first | omega | (with_reducible assumption) | (simp_all; done) | (simp_all; omega))), (by first | (first | omega | (with_reducible assumption) | (simp_all; done) | (simp_all; omega)) | (dsimp only; first | omega | (with_reducible assumption) | (simp_all; done) | (simp_all; omega))), (by first | (first | omega | (with_reducible assumption) | (simp_all; done) | (simp_all; omega)) | (dsimp only; first | omega | (with_reducible assumption) | (simp_all; done) | (simp_all; omega))), (by first | (first | omega | (with_reducible assumption) | (simp_all; done) | (simp_all; omega)) | (dsimp only; first | omega | (with_reducible assumption) | (simp_all; done) | (simp_all; omega))), (by first | (simp) | (dsimp only; simp)), (by first | (simp) | (dsimp only; simp)), trivial⟩ (by first | (simp only [go_sem, p4, p0, z4_q, yq_4, z4_r0, yr0_4, zq_r0, yr0_q, z0_q, yq_0, z0_r0, yr0_0, pq, pr]; done) | (simp [go_sem, p4, p0, z4_q, yq_4, z4_r0, yr0_4, zq_r0, yr0_q, z0_q, yq_0, z0_r0, yr0_0, pq, pr]; done) | (simp only [go_sem, p4, p0, z4_q, yq_4, z4_r0, yr0_4, zq_r0, yr0_q, z0_q, yq_0, z0_r0, yr0_0, pq, pr]; (repeat' (with_reducible apply And.intro)) <;> first | (left; simp; done) | (right; simp [go_sem]; done))) (by first | (simp only [go_sem, p4, p0, z4_q, yq_4, z4_r0, yr0_4, zq_r0, yr0_q, z0_q, yq_0, z0_r0, yr0_0, pq, pr]; done) | simp [go_sem, p4, p0, z4_q, yq_4, z4_r0, yr0_4, zq_r0, yr0_q, z0_q, yq_0, z0_r0, yr0_0, pq, pr]) (Nat.le_refl _) ?_
  rintro ⟨k, out, r, st, nx⟩ ⟨hk, hr, hrn, hqn, ho, hv, -⟩
  show DW _ _ _ _ { n := _, t := tab _, h := _, nx := _, e := _ }
  simp only [List.cons_append, List.nil_append]
  have p4 : 4 < nx := by omega
  have p0 : 0 < nx := by omega
  have z0_r : (0 = r) = False := eq_false (by omega)
  have yr_0 : (r = 0) = False := eq_false (by omega)
  have z4_r : (4 = r) = False := eq_false (by omega)
  have yr_4 : (r = 4) = False := eq_false (by omega)
  have zq_r : (q = r) = False := eq_false (by omega)
  have yr_q : (r = q) = False := eq_false (by omega)
  refine dw_step (C := Rn) (by simp only [go_sem, p4, p0, z4_q, yq_4, z4_r0, yr0_4, zq_r0, yr0_q, z0_q, yq_0, z0_r0, yr0_0, pq, pr, hr, hqn, p4, p0, z0_r, yr_0, z4_r, yr_4, zq_r, yr_q]; exact rfl) (fun h => by cases h) ?_ ?_
  · try simp only [go_sem, p4, p0, z4_q, yq_4, z4_r0, yr0_4, zq_r0, yr0_q, z0_q, yq_0, z0_r0, yr0_0, pq, pr, hr, hqn, p4, p0, z0_r, yr_0, z4_r, yr_4, zq_r, yr_q]
    all_goals (first | done | (repeat' (with_reducible apply And.intro)) <;> first | omega | (with_reducible assumption) | (intros; omega) | (intros; simp only [decide_eq_true_eq, decide_eq_false_iff_not, Bool.or_eq_true, Bool.and_eq_true, Bool.or_eq_false_iff, Bool.not_eq_true', Bool.not_eq_false'] at *; omega) | (simp_all; done) | (simp_all; omega))
  refine dw_seq ?_
  refine dw_cond (by simp only [go_sem, p4, p0, z4_q, yq_4, z4_r0, yr0_4, zq_r0, yr0_q, z0_q, yq_0, z0_r0, yr0_0, pq, pr, hr, hqn, p4, p0, z0_r, yr_0, z4_r, yr_4, zq_r, yr_q]; exact rfl) (fun c1 => ?_) (fun c1 => ?_)
  · skip
    have hk2 : k < (pCount (pNum (pNum (pText (x, false)).2).2).2).1 := by simpa using c1
    have hc8 := count_le (pNum (pNum (pText (x, false)).2).2).2
    refine dw_skip ?_
    show DW _ _ _ _ _
    refine dw_seq ?_
    refine dw_block ?_
    refine dw_step (C := Rn) (by simp only [go_sem, p4, p0, z4_q, yq_4, z4_r0, yr0_4, zq_r0, yr0_q, z0_q, yq_0, z0_r0, yr0_0, pq, pr, hr, hqn, p4, p0, z0_r, yr_0, z4_r, yr_4, zq_r, yr_q]; exact rfl) (fun h => by cases h) ?_ ?_
    · try simp only [go_sem, p4, p0, z4_q, yq_4, z4_r0, yr0_4, zq_r0, yr0_q, z0_q, yq_0, z0_r0, yr0_0, pq, pr, hr, hqn, p4, p0, z0_r, yr_0, z4_r, yr_4, zq_r, yr_q]
      all_goals (first | done | (repeat' (with_reducible apply And.intro)) <;> first | omega | (with_reducible assumption) | (intros; omega) | (intros; simp only [decide_eq_true_eq, decide_eq_false_iff_not, Bool.or_eq_true, Bool.and_eq_true, Bool.or_eq_false_iff, Bool.not_eq_true', Bool.not_eq_false'] at *; omega) | (simp_all; done) | (simp_all; omega))
    refine dw_seq (dw_call (C := Rn) 1 (R := _) (arr_at rfl) rfl rfl (by simp only [List.take_succ_cons, List.take_zero, go_sem, p4, p0, z4_q, yq_4, z4_r0, yr0_4, zq_r0, yr0_q, z0_q, yq_0, z0_r0, yr0_0, pq, pr, hr, hqn, p4, p0, z0_r, yr_0, z4_r, yr_4, zq_r, yr_q]; exact rfl) ?_ ?_ (by simp only [go_sem, p4, p0, z4_q, yq_4, z4_r0, yr0_4, zq_r0, yr0_q, z0_q, yq_0, z0_r0, yr0_0, pq, pr, hr, hqn, p4, p0, z0_r, yr_0, z4_r, yr_4, zq_r, yr_q]; exact rfl) (by simp only [go_sem, p4, p0, z4_q, yq_4, z4_r0, yr0_4, zq_r0, yr0_q, z0_q, yq_0, z0_r0, yr0_0, pq, pr, hr, hqn, p4, p0, z0_r, yr_0, z4_r, yr_4, zq_r, yr_q]) (by simp only [go_sem, p4, p0, z4_q, yq_4, z4_r0, yr0_4, zq_r0, yr0_q, z0_q, yq_0, z0_r0, yr0_0, pq, pr, hr, hqn, p4, p0, z0_r, yr_0, z4_r, yr_4, zq_r, yr_q]; exact rfl) (by exact text_ct st 4 _ _ (by simp only [go_sem, p4])) ?_)
    · try simp only [go_sem, p4, p0, z4_q, yq_4, z4_r0, yr0_4, zq_r0, yr0_q, z0_q, yq_0, z0_r0, yr0_0, pq, pr, hr, hqn, p4, p0, z0_r, yr_0, z4_r, yr_4, zq_r, yr_q]
      all_goals (first | done | (repeat' (with_reducible apply And.intro)) <;> first | omega | (with_reducible assumption) | (intros; omega) | (intros; simp only [decide_eq_true_eq, decide_eq_false_iff_not, Bool.or_eq_true, Bool.and_eq_true, Bool.or_eq_false_iff, Bool.not_eq_true', Bool.not_eq_false'] at *; omega) | (simp_all; done) | (simp_all; omega))
    · try simp only [go_sem, p4, p0, z4_q, yq_4, z4_r0, yr0_4, zq_r0, yr0_q, z0_q, yq_0, z0_r0, yr0_0, pq, pr, hr, hqn, p4, p0, z0_r, yr_0, z4_r, yr_4, zq_r, yr_q]
      all_goals (first | done | rfl | decide | simp)
    rintro res h2 n2 ⟨rfl, rfl, a5⟩
    try dsimp only at a5
    refine ⟨⟨_, _, _, _, _, _⟩, by simp only [List.drop_succ_cons, List.drop_zero, S.put, go_sem, p4, p0, z4_q, yq_4, z4_r0, yr0_4, zq_r0, yr0_q, z0_q, yq_0, z0_r0, yr0_0, pq, pr, hr, hqn, p4, p0, z0_r, yr_0, z4_r, yr_4, zq_r, yr_q]; exact rfl, ?_, ?_⟩
    · try simp only [go_sem, p4, p0, z4_q, yq_4, z4_r0, yr0_4, zq_r0, yr0_q, z0_q, yq_0, z0_r0, yr0_0, pq, pr, hr, hqn, p4, p0, z0_r, yr_0, z4_r, yr_4, zq_r, yr_q]
      all_goals (first | done | (repeat' (with_reducible apply And.intro)) <;> first | omega | (with_reducible assumption) | (intros; omega) | (intros; simp only [decide_eq_true_eq, decide_eq_false_iff_not, Bool.or_eq_true, Bool.and_eq_true, Bool.or_eq_false_iff, Bool.not_eq_true', Bool.not_eq_false'] at *; omega) | (simp_all; done) | (simp_all; omega))
    try simp only [clear_eq]
    show DW _ _ _ _ _
    refine dw_seq (dw_call (C := Rn) 1 (R := _) (arr_at rfl) rfl rfl (by simp only [List.take_succ_cons, List.take_zero, go_sem, p4, p0, z4_q, yq_4, z4_r0, yr0_4, zq_r0, yr0_q, z0_q, yq_0, z0_r0, yr0_0, pq, pr, hr, hqn, p4, p0, z0_r, yr_0, z4_r, yr_4, zq_r, yr_q]; exact rfl) ?_ ?_ (by simp only [go_sem, p4, p0, z4_q, yq_4, z4_r0, yr0_4, zq_r0, yr0_q, z0_q, yq_0, z0_r0, yr0_0, pq, pr, hr, hqn, p4, p0, z0_r, yr_0, z4_r, yr_4, zq_r, yr_q]; exact rfl) (by simp only [go_sem, p4, p0, z4_q, yq_4, z4_r0, yr0_4, zq_r0, yr0_q, z0_q, yq_0, z0_r0, yr0_0, pq, pr, hr, hqn, p4, p0, z0_r, yr_0, z4_r, yr_4, zq_r, yr_q]) (by simp only [go_sem, p4, p0, z4_q, yq_4, z4_r0, yr0_4, zq_r0, yr0_q, z0_q, yq_0, z0_r0, yr0_0, pq, pr, hr, hqn, p4, p0, z0_r, yr_0, z4_r, yr_4, zq_r, yr_q]; exact rfl) (by exact number_ct (pText st).2 4 _ _ (by simp only [go_sem, p4])) ?_)
    · try simp only [go_sem, p4, p0, z4_q, yq_4, z4_r0, yr0_4, zq_r0, yr0_q, z0_q, yq_0, z0_r0, yr0_0, pq, pr, hr, hqn, p4, p0, z0_r, yr_0, z4_r, yr_4, zq_r, yr_q]
      all_goals (first | done | (repeat' (with_reducible apply And.intro)) <;> first | omega | (with_reducible assumption) | (intros; omega) | (intros; simp only [decide_eq_true_eq, decide_eq_false_iff_not, Bool.or_eq_true, Bool.and_eq_true, Bool.or_eq_false_iff, Bool.not_eq_true', Bool.not_eq_false'] at *; omega) | (simp_all; done) | (simp_all; omega))
    · try simp only [go_sem, p4, p0, z4_q, yq_4, z4_r0, yr0_4, zq_r0, yr0_q, z0_q, yq_0, z0_r0, yr0_0, pq, pr, hr, hqn, p4, p0, z0_r, yr_0, z4_r, yr_4, zq_r, yr_q]
      all_goals (first | done | rfl | decide | simp)
    rintro res h2 n2 ⟨rfl, rfl, a6⟩
    try dsimp only at a6
    refine ⟨⟨_, _, _, _, _, _⟩, by simp only [List.drop_succ_cons, List.drop_zero, S.put, go_sem, p4, p0, z4_q, yq_4, z4_r0, yr0_4, zq_r0, yr0_q, z0_q, yq_0, z0_r0, yr0_0, pq, pr, hr, hqn, p4, p0, z0_r, yr_0, z4_r, yr_4, zq_r, yr_q]; exact rfl, ?_, ?_⟩
    · try simp only [go_sem, p4, p0, z4_q, yq_4, z4_r0, yr0_4, zq_r0, yr0_q, z0_q, yq_0, z0_r0, yr0_0, pq, pr, hr, hqn, p4, p0, z0_r, yr_0, z4_r, yr_4, zq_r, yr_q]
      all_goals (first | done | (repeat' (with_reducible apply And.intro)) <;> first | omega | (with_reducible assumption) | (intros; omega) | (intros; simp only [decide_eq_true_eq, decide_eq_false_iff_not, Bool.or_eq_true, Bool.and_eq_true, Bool.or_eq_false_iff, Bool.not_eq_true', Bool.not_eq_false'] at *; omega) | (simp_all; done) | (simp_all; omega))
    try simp only [clear_eq]
    show DW _ _ _ _ _
    refine dw_seq (dw_call (C := Rn) 1 (R := _) (arr_at rfl) rfl rfl (by simp only [List.take_succ_cons, List.take_zero, go_sem, p4, p0, z4_q, yq_4, z4_r0, yr0_4, zq_r0, yr0_q, z0_q, yq_0, z0_r0, yr0_0, pq, pr, hr, hqn, p4, p0, z0_r, yr_0, z4_r, yr_4, zq_r, yr_q]; exact rfl) ?_ ?_ (by simp only [go_sem, p4, p0, z4_q, yq_4, z4_r0, yr0_4, zq_r0, yr0_q, z0_q, yq_0, z0_r0, yr0_0, pq, pr, hr, hqn, p4, p0, z0_r, yr_0, z4_r, yr_4, zq_r, yr_q]; exact rfl) (by simp only [go_sem, p4, p0, z4_q, yq_4, z4_r0, yr0_4, zq_r0, yr0_q, z0_q, yq_0, z0_r0, yr0_0, pq, pr, hr, hqn, p4, p0, z0_r, yr_0, z4_r, yr_4, zq_r, yr_q]) (by simp only [go_sem, p4, p0, z4_q, yq_4, z4_r0, yr0_4, zq_r0, yr0_q, z0_q, yq_0, z0_r0, yr0_0, pq, pr, hr, hqn, p4, p0, z0_r, yr_0, z4_r, yr_4, zq_r, yr_q]; exact rfl) (by exact number_ct (pNum (pText st).2).2 4 _ _ (by simp only [go_sem, p4])) ?_)
    · try simp only [go_sem, p4, p0, z4_q, yq_4, z4_r0, yr0_4, zq_r0, yr0_q, z0_q, yq_0, z0_r0, yr0_0, pq, pr, hr, hqn, p4, p0, z0_r, yr_0, z4_r, yr_4, zq_r, yr_q]
      all_goals (first | done | (repeat' (with_reducible apply And.intro)) <;> first | omega | (with_reducible assumption) | (intros; omega) | (intros; simp only [decide_eq_true_eq, decide_eq_false_iff_not, Bool.or_eq_true, Bool.and_eq_true, Bool.or_eq_false_iff, Bool.not_eq_true', Bool.not_eq_false'] at *; omega) | (simp_all; done) | (simp_all; omega))
    · try simp only [go_sem, p4, p0, z4_q, yq_4, z4_r0, yr0_4, zq_r0, yr0_q, z0_q, yq_0, z0_r0, yr0_0, pq, pr, hr, hqn, p4, p0, z0_r, yr_0, z4_r, yr_4, zq_r, yr_q]
      all_goals (first | done | rfl | decide | simp)
    rintro res h2 n2 ⟨rfl, rfl, a7⟩
    try dsimp only at a7
    have ww : nx + 1 < n2 := by omega
    have w4 : 4 < n2 := by omega
    have w0 : 0 < n2 := by omega
    have wq : q < n2 := by omega
    have wr : r < n2 := by omega
    refine ⟨⟨_, _, _, _, _, _⟩, by simp only [List.drop_succ_cons, List.drop_zero, S.put, go_sem, p4, p0, z4_q, yq_4, z4_r0, yr0_4, zq_r0, yr0_q, z0_q, yq_0, z0_r0, yr0_0, pq, pr, hr, hqn, p4, p0, z0_r, yr_0, z4_r, yr_4, zq_r, yr_q, ww, w4, w0, wq, wr]; exact rfl, ?_, ?_⟩
    · try simp only [go_sem, p4, p0, z4_q, yq_4, z4_r0, yr0_4, zq_r0, yr0_q, z0_q, yq_0, z0_r0, yr0_0, pq, pr, hr, hqn, p4, p0, z0_r, yr_0, z4_r, yr_4, zq_r, yr_q, ww, w4, w0, wq, wr]
      all_goals (first | done | (repeat' (with_reducible apply And.intro)) <;> first | omega | (with_reducible assumption) | (intros; omega) | (intros; simp only [decide_eq_true_eq, decide_eq_false_iff_not, Bool.or_eq_true, Bool.and_eq_true, Bool.or_eq_false_iff, Bool.not_eq_true', Bool.not_eq_false'] at *; omega) | (simp_all; done) | (simp_all; omega))
    try simp only [clear_eq]
    show DW _ _ _ _ _
    refine dw_seq ?_
    refine dw_step (C := Rn) (by simp only [go_sem, p4, p0, z4_q, yq_4, z4_r0, yr0_4, zq_r0, yr0_q, z0_q, yq_0, z0_r0, yr0_0, pq, pr, hr, hqn, p4, p0, z0_r, yr_0, z4_r, yr_4, zq_r, yr_q, ww, w4, w0, wq, wr]; exact rfl) (fun h => by cases h) ?_ ?_
    · try simp only [go_sem, p4, p0, z4_q, yq_4, z4_r0, yr0_4, zq_r0, yr0_q, z0_q, yq_0, z0_r0, yr0_0, pq, pr, hr, hqn, p4, p0, z0_r, yr_0, z4_r, yr_4, zq_r, yr_q, ww, w4, w0, wq, wr]
      all_goals (first | done | (repeat' (with_reducible apply And.intro)) <;> first | omega | (with_reducible assumption) | (intros; omega) | (intros; simp only [decide_eq_true_eq, decide_eq_false_iff_not, Bool.or_eq_true, Bool.and_eq_true, Bool.or_eq_false_iff, Bool.not_eq_true', Bool.not_eq_false'] at *; omega) | (simp_all; done) | (simp_all; omega))
    refine dw_cond (by simp only [go_sem, p4, p0, z4_q, yq_4, z4_r0, yr0_4, zq_r0, yr0_q, z0_q, yq_0, z0_r0, yr0_0, pq, pr, hr, hqn, p4, p0, z0_r, yr_0, z4_r, yr_4, zq_r, yr_q, ww, w4, w0, wq, wr]; exact rfl) (fun c2 => ?_) (fun c2 => ?_)
    · skip
      have hv2 := hv
      rw [dats_stop hk2 c2] at hv2
      refine dw_exit ?_
      show DW _ _ _ _ _
      refine dw_seq ?_
      refine dw_freezec q 3 r (rows := out.map Dat.d) (off := 0) (len := out.length) (by simp only [go_sem, p4, p0, z4_q, yq_4, z4_r0, yr0_4, zq_r0, yr0_q, z0_q, yq_0, z0_r0, yr0_0, pq, pr, hr, hqn, p4, p0, z0_r, yr_0, z4_r, yr_4, zq_r, yr_q, ww, w4, w0, wq, wr]; exact rfl) (by rfl) (by simp only [go_sem, p4, p0, z4_q, yq_4, z4_r0, yr0_4, zq_r0, yr0_q, z0_q, yq_0, z0_r0, yr0_0, pq, pr, hr, hqn, p4, p0, z0_r, yr_0, z4_r, yr_4, zq_r, yr_q, ww, w4, w0, wq, wr]; exact rfl) (by omega) (by simp) nrr_dat ?_
      simp only [List.drop_zero, take_map_len, List.set_cons_succ, List.set_cons_zero]
      refine dw_step (C := Rn) (by simp only [go_sem, p4, p0, z4_q, yq_4, z4_r0, yr0_4, zq_r0, yr0_q, z0_q, yq_0, z0_r0, yr0_0, pq, pr, hr, hqn, p4, p0, z0_r, yr_0, z4_r, yr_4, zq_r, yr_q, ww, w4, w0, wq, wr]; exact rfl) (fun h => by cases h) ?_ ?_
      · try simp only [go_sem, p4, p0, z4_q, yq_4, z4_r0, yr0_4, zq_r0, yr0_q, z0_q, yq_0, z0_r0, yr0_0, pq, pr, hr, hqn, p4, p0, z0_r, yr_0, z4_r, yr_4, zq_r, yr_q, ww, w4, w0, wq, wr]
        all_goals (first | done | ((repeat' (with_reducible apply And.intro)) <;> first | exact rvalid_ct ⟨_, _, _, out⟩ | (intros; exact rvalid_ct ⟨_, _, _, out⟩)))
      refine dw_cond (by simp only [go_sem, p4, p0, z4_q, yq_4, z4_r0, yr0_4, zq_r0, yr0_q, z0_q, yq_0, z0_r0, yr0_0, pq, pr, hr, hqn, p4, p0, z0_r, yr_0, z4_r, yr_4, zq_r, yr_q, ww, w4, w0, wq, wr]; exact rfl) (fun c9 => ?_) (fun c9 => ?_)
      · skip
        refine dw_step (C := Rn) (by simp only [go_sem, p4, p0, z4_q, yq_4, z4_r0, yr0_4, zq_r0, yr0_q, z0_q, yq_0, z0_r0, yr0_0, pq, pr, hr, hqn, p4, p0, z0_r, yr_0, z4_r, yr_4, zq_r, yr_q, ww, w4, w0, wq, wr]; exact rfl) (fun h => by cases h) ?_ ?_
        · try simp only [go_sem, p4, p0, z4_q, yq_4, z4_r0, yr0_4, zq_r0, yr0_q, z0_q, yq_0, z0_r0, yr0_0, pq, pr, hr, hqn, p4, p0, z0_r, yr_0, z4_r, yr_4, zq_r, yr_q, ww, w4, w0, wq, wr]
          all_goals (first | done | (repeat' (with_reducible apply And.intro)) <;> first | omega | (with_reducible assumption) | (intros; omega) | (intros; simp only [decide_eq_true_eq, decide_eq_false_iff_not, Bool.or_eq_true, Bool.and_eq_true, Bool.or_eq_false_iff, Bool.not_eq_true', Bool.not_eq_false'] at *; omega) | (simp_all; done) | (simp_all; omega))
        refine dw_ret ?_
        refine ⟨(by first | exact .inr rfl | trivial | simp), ?_, ?_⟩
        · simp only [go_sem, p4, p0, z4_q, yq_4, z4_r0, yr0_4, zq_r0, yr0_q, z0_q, yq_0, z0_r0, yr0_0, pq, pr, hr, hqn, p4, p0, z0_r, yr_0, z4_r, yr_4, zq_r, yr_q, ww, w4, w0, wq, wr]
        refine ⟨2, ?_, ?_⟩
        · try simp only [go_sem, p4, p0, z4_q, yq_4, z4_r0, yr0_4, zq_r0, yr0_q, z0_q, yq_0, z0_r0, yr0_0, pq, pr, hr, hqn, p4, p0, z0_r, yr_0, z4_r, yr_4, zq_r, yr_q, ww, w4, w0, wq, wr]
          all_goals (simp)
        · try simp only [go_sem, p4, p0, z4_q, yq_4, z4_r0, yr0_4, zq_r0, yr0_q, z0_q, yq_0, z0_r0, yr0_0, pq, pr, hr, hqn, p4, p0, z0_r, yr_0, z4_r, yr_4, zq_r, yr_q, ww, w4, w0, wq, wr]
          all_goals (rw [read_no hv2 c9]; try rfl)
      · skip
        refine dw_skip ?_
        show DW _ _ _ _ _
        refine dw_step (C := Rn) (by simp only [go_sem, p4, p0, z4_q, yq_4, z4_r0, yr0_4, zq_r0, yr0_q, z0_q, yq_0, z0_r0, yr0_0, pq, pr, hr, hqn, p4, p0, z0_r, yr_0, z4_r, yr_4, zq_r, yr_q, ww, w4, w0, wq, wr]; exact rfl) (fun h => by cases h) ?_ ?_
        · try simp only [go_sem, p4, p0, z4_q, yq_4, z4_r0, yr0_4, zq_r0, yr0_q, z0_q, yq_0, z0_r0, yr0_0, pq, pr, hr, hqn, p4, p0, z0_r, yr_0, z4_r, yr_4, zq_r, yr_q, ww, w4, w0, wq, wr]
          all_goals (first | done | (repeat' (with_reducible apply And.intro)) <;> first | omega | (with_reducible assumption) | (intros; omega) | (intros; simp only [decide_eq_true_eq, decide_eq_false_iff_not, Bool.or_eq_true, Bool.and_eq_true, Bool.or_eq_false_iff, Bool.not_eq_true', Bool.not_eq_false'] at *; omega) | (simp_all; done) | (simp_all; omega))
        refine dw_ret ?_
        refine ⟨(by first | exact .inr rfl | trivial | simp), ?_, ?_⟩
        · simp only [go_sem, p4, p0, z4_q, yq_4, z4_r0, yr0_4, zq_r0, yr0_q, z0_q, yq_0, z0_r0, yr0_0, pq, pr, hr, hqn, p4, p0, z0_r, yr_0, z4_r, yr_4, zq_r, yr_q, ww, w4, w0, wq, wr]
        refine ⟨2, ?_, ?_⟩
        · try simp only [go_sem, p4, p0, z4_q, yq_4, z4_r0, yr0_4, zq_r0, yr0_q, z0_q, yq_0, z0_r0, yr0_0, pq, pr, hr, hqn, p4, p0, z0_r, yr_0, z4_r, yr_4, zq_r, yr_q, ww, w4, w0, wq, wr]
          all_goals (simp)
        · try simp only [go_sem, p4, p0, z4_q, yq_4, z4_r0, yr0_4, zq_r0, yr0_q, z0_q, yq_0, z0_r0, yr0_0, pq, pr, hr, hqn, p4, p0, z0_r, yr_0, z4_r, yr_4, zq_r, yr_q, ww, w4, w0, wq, wr]
          all_goals (rw [read_yes hv2 c9]; try rfl)
    · skip
      refine dw_skip ?_
      show DW _ _ _ _ _
      refine dw_reg (C := Rn) (by simp only [go_sem, p4, p0, z4_q, yq_4, z4_r0, yr0_4, zq_r0, yr0_q, z0_q, yq_0, z0_r0, yr0_0, pq, pr, hr, hqn, p4, p0, z0_r, yr_0, z4_r, yr_4, zq_r, yr_q, ww, w4, w0, wq, wr]; exact rfl) (fun h => by cases h) ?_ ?_
      · try simp only [go_sem, p4, p0, z4_q, yq_4, z4_r0, yr0_4, zq_r0, yr0_q, z0_q, yq_0, z0_r0, yr0_0, pq, pr, hr, hqn, p4, p0, z0_r, yr_0, z4_r, yr_4, zq_r, yr_q, ww, w4, w0, wq, wr]
        all_goals (first | done | (repeat' (with_reducible apply And.intro)) <;> first | omega | (with_reducible assumption) | (intros; omega) | (intros; simp only [decide_eq_true_eq, decide_eq_false_iff_not, Bool.or_eq_true, Bool.and_eq_true, Bool.or_eq_false_iff, Bool.not_eq_true', Bool.not_eq_false'] at *; omega) | (simp_all; done) | (simp_all; omega))
      show DW _ _ _ _ _
      refine dw_reg (C := Rn) (by simp only [go_sem, p4, p0, z4_q, yq_4, z4_r0, yr0_4, zq_r0, yr0_q, z0_q, yq_0, z0_r0, yr0_0, pq, pr, hr, hqn, p4, p0, z0_r, yr_0, z4_r, yr_4, zq_r, yr_q, ww, w4, w0, wq, wr]; exact rfl) (fun h => by cases h) ?_ ?_
      · try simp only [go_sem, p4, p0, z4_q, yq_4, z4_r0, yr0_4, zq_r0, yr0_q, z0_q, yq_0, z0_r0, yr0_0, pq, pr, hr, hqn, p4, p0, z0_r, yr_0, z4_r, yr_4, zq_r, yr_q, ww, w4, w0, wq, wr]
        all_goals (first | done | (repeat' (with_reducible apply And.intro)) <;> first | omega | (with_reducible assumption) | (intros; omega) | (intros; simp only [decide_eq_true_eq, decide_eq_false_iff_not, Bool.or_eq_true, Bool.and_eq_true, Bool.or_eq_false_iff, Bool.not_eq_true', Bool.not_eq_false'] at *; omega) | (simp_all; done) | (simp_all; omega))
      show ∃ _, _
      refine ⟨(k + 1, out ++ [(pDat st).1], (n2 + 10), (pDat st).2, _), ⟨(by first | (first | omega | (with_reducible assumption) | (simp_all; done) | (simp_all; omega)) | (dsimp only; first | omega | (with_reducible assumption) | (simp_all; done) | (simp_all; omega))), (by first | (first | omega | (with_reducible assumption) | (simp_all; done) | (simp_all; omega)) | (dsimp only; first | omega | (with_reducible assumption) | (simp_all; done) | (simp_all; omega))), (by first | (first | omega | (with_reducible assumption) | (simp_all; done) | (simp_all; omega)) | (dsimp only; first | omega | (with_reducible assumption) | (simp_all; done) | (simp_all; omega))), (by first | (first | omega | (with_reducible assumption) | (simp_all; done) | (simp_all; omega)) | (dsimp only; first | omega | (with_reducible assumption) | (simp_all; done) | (simp_all; omega))), (by first | (simp; omega) | (dsimp only; simp; omega)), (by first | (rw [← hv, dats_step hk2 c2]) | (dsimp only; rw [← hv, dats_step hk2 c2])), trivial⟩, (by show (_ : Nat) < _; first | omega | simp_all; omega), ?_, ?_, ?_, Nat.le_refl _, rfl, rfl⟩
      · try simp only [go_sem, p4, p0, z4_q, yq_4, z4_r0, yr0_4, zq_r0, yr0_q, z0_q, yq_0, z0_r0, yr0_0, pq, pr, hr, hqn, p4, p0, z0_r, yr_0, z4_r, yr_4, zq_r, yr_q, ww, w4, w0, wq, wr]
        all_goals (first | done | (simp; done) | (simp [Dat.d, pDat]; done) | ((repeat' (with_reducible apply And.intro)) <;> first | rfl | (left; simp; done) | (simp [Dat.d, pDat]; done)))
      · try simp only [go_sem, p4, p0, z4_q, yq_4, z4_r0, yr0_4, zq_r0, yr0_q, z0_q, yq_0, z0_r0, yr0_0, pq, pr, hr, hqn, p4, p0, z0_r, yr_0, z4_r, yr_4, zq_r, yr_q, ww, w4, w0, wq, wr]
        all_goals (first | done | (simp; done) | (simp [Dat.d, pDat]; done) | ((repeat' (with_reducible apply And.intro)) <;> first | rfl | (left; simp; done) | (simp [Dat.d, pDat]; done)))
      · try simp only [go_sem, p4, p0, z4_q, yq_4, z4_r0, yr0_4, zq_r0, yr0_q, z0_q, yq_0, z0_r0, yr0_0, pq, pr, hr, hqn, p4, p0, z0_r, yr_0, z4_r, yr_4, zq_r, yr_q, ww, w4, w0, wq, wr]
        all_goals (first | done | (simp; done) | (simp [Dat.d, pDat]; done) | ((repeat' (with_reducible apply And.intro)) <;> first | rfl | (left; simp; done) | (simp [Dat.d, pDat]; done)))
  · skip
    have hk2 : ¬ k < (pCount (pNum (pNum (pText (x, false)).2).2).2).1 := by simpa using c1
    have hv2 := hv
    rw [dats_none hk2] at hv2
    refine dw_exit ?_
    show DW _ _ _ _ _
    refine dw_seq ?_
    refine dw_freezec q 3 r (rows := out.map Dat.d) (off := 0) (len := out.length) (by simp only [go_sem, p4, p0, z4_q, yq_4, z4_r0, yr0_4, zq_r0, yr0_q, z0_q, yq_0, z0_r0, yr0_0, pq, pr, hr, hqn, p4, p0, z0_r, yr_0, z4_r, yr_4, zq_r, yr_q]; exact rfl) (by rfl) (by simp only [go_sem, p4, p0, z4_q, yq_4, z4_r0, yr0_4, zq_r0, yr0_q, z0_q, yq_0, z0_r0, yr0_0, pq, pr, hr, hqn, p4, p0, z0_r, yr_0, z4_r, yr_4, zq_r, yr_q]; exact rfl) (by omega) (by simp) nrr_dat ?_
    simp only [List.drop_zero, take_map_len, List.set_cons_succ, List.set_cons_zero]
    refine dw_step (C := Rn) (by simp only [go_sem, p4, p0, z4_q, yq_4, z4_r0, yr0_4, zq_r0, yr0_q, z0_q, yq_0, z0_r0, yr0_0, pq, pr, hr, hqn, p4, p0, z0_r, yr_0, z4_r, yr_4, zq_r, yr_q]; exact rfl) (fun h => by cases h) ?_ ?_
    · try simp only [go_sem, p4, p0, z4_q, yq_4, z4_r0, yr0_4, zq_r0, yr0_q, z0_q, yq_0, z0_r0, yr0_0, pq, pr, hr, hqn, p4, p0, z0_r, yr_0, z4_r, yr_4, zq_r, yr_q]
      all_goals (first | done | ((repeat' (with_reducible apply And.intro)) <;> first | exact rvalid_ct ⟨_, _, _, out⟩ | (intros; exact rvalid_ct ⟨_, _, _, out⟩)))
    refine dw_cond (by simp only [go_sem, p4, p0, z4_q, yq_4, z4_r0, yr0_4, zq_r0, yr0_q, z0_q, yq_0, z0_r0, yr0_0, pq, pr, hr, hqn, p4, p0, z0_r, yr_0, z4_r, yr_4, zq_r, yr_q]; exact rfl) (fun c9 => ?_) (fun c9 => ?_)
    · skip
      refine dw_step (C := Rn) (by simp only [go_sem, p4, p0, z4_q, yq_4, z4_r0, yr0_4, zq_r0, yr0_q, z0_q, yq_0, z0_r0, yr0_0, pq, pr, hr, hqn, p4, p0, z0_r, yr_0, z4_r, yr_4, zq_r, yr_q]; exact rfl) (fun h => by cases h) ?_ ?_
      · try simp only [go_sem, p4, p0, z4_q, yq_4, z4_r0, yr0_4, zq_r0, yr0_q, z0_q, yq_0, z0_r0, yr0_0, pq, pr, hr, hqn, p4, p0, z0_r, yr_0, z4_r, yr_4, zq_r, yr_q]
        all_goals (first | done | (repeat' (with_reducible apply And.intro)) <;> first | omega | (with_reducible assumption) | (intros; omega) | (intros; simp only [decide_eq_true_eq, decide_eq_false_iff_not, Bool.or_eq_true, Bool.and_eq_true, Bool.or_eq_false_iff, Bool.not_eq_true', Bool.not_eq_false'] at *; omega) | (simp_all; done) | (simp_all; omega))
      refine dw_ret ?_
      refine ⟨(by first | exact .inr rfl | trivial | simp), ?_, ?_⟩
      · simp only [go_sem, p4, p0, z4_q, yq_4, z4_r0, yr0_4, zq_r0, yr0_q, z0_q, yq_0, z0_r0, yr0_0, pq, pr, hr, hqn, p4, p0, z0_r, yr_0, z4_r, yr_4, zq_r, yr_q]
      refine ⟨2, ?_, ?_⟩
      · try simp only [go_sem, p4, p0, z4_q, yq_4, z4_r0, yr0_4, zq_r0, yr0_q, z0_q, yq_0, z0_r0, yr0_0, pq, pr, hr, hqn, p4, p0, z0_r, yr_0, z4_r, yr_4, zq_r, yr_q]
        all_goals (simp)
      · try simp only [go_sem, p4, p0, z4_q, yq_4, z4_r0, yr0_4, zq_r0, yr0_q, z0_q, yq_0, z0_r0, yr0_0, pq, pr, hr, hqn, p4, p0, z0_r, yr_0, z4_r, yr_4, zq_r, yr_q]
        all_goals (rw [read_no hv2 c9]; try rfl)
    · skip
      refine dw_skip ?_
      show DW _ _ _ _ _
      refine dw_step (C := Rn) (by simp only [go_sem, p4, p0, z4_q, yq_4, z4_r0, yr0_4, zq_r0, yr0_q, z0_q, yq_0, z0_r0, yr0_0, pq, pr, hr, hqn, p4, p0, z0_r, yr_0, z4_r, yr_4, zq_r, yr_q]; exact rfl) (fun h => by cases h) ?_ ?_
      · try simp only [go_sem, p4, p0, z4_q, yq_4, z4_r0, yr0_4, zq_r0, yr0_q, z0_q, yq_0, z0_r0, yr0_0, pq, pr, hr, hqn, p4, p0, z0_r, yr_0, z4_r, yr_4, zq_r, yr_q]
        all_goals (first | done | (repeat' (with_reducible apply And.intro)) <;> first | omega | (with_reducible assumption) | (intros; omega) | (intros; simp only [decide_eq_true_eq, decide_eq_false_iff_not, Bool.or_eq_true, Bool.and_eq_true, Bool.or_eq_false_iff, Bool.not_eq_true', Bool.not_eq_false'] at *; omega) | (simp_all; done) | (simp_all; omega))
      refine dw_ret ?_
      refine ⟨(by first | exact .inr rfl | trivial | simp), ?_, ?_⟩
      · simp only [go_sem, p4, p0, z4_q, yq_4, z4_r0, yr0_4, zq_r0, yr0_q, z0_q, yq_0, z0_r0, yr0_0, pq, pr, hr, hqn, p4, p0, z0_r, yr_0, z4_r, yr_4, zq_r, yr_q]
      refine ⟨2, ?_, ?_⟩
      · try simp only [go_sem, p4, p0, z4_q, yq_4, z4_r0, yr0_4, zq_r0, yr0_q, z0_q, yq_0, z0_r0, yr0_0, pq, pr, hr, hqn, p4, p0, z0_r, yr_0, z4_r, yr_4, zq_r, yr_q]
        all_goals (simp)
      · try simp only [go_sem, p4, p0, z4_q, yq_4, z4_r0, yr0_4, zq_r0, yr0_q, z0_q, yq_0, z0_r0, yr0_0, pq, pr, hr, hqn, p4, p0, z0_r, yr_0, z4_r, yr_4, zq_r, yr_q]
        all_goals (rw [read_yes hv2 c9]; try rfl)

end Go.Proofs.YtfggmgafjabbjaaDoor
