import Derived.Test.YtfcdbijmoiegiaaSpanW3
import Derived.Test.YtfcdbijmoiegiaaSpanLaw
import Derived.Test.YtfcdbijmoiegiaaDSort
namespace Go.Proofs.Ytfcdbijmoiegiaa
open Go.DL Go.Span
set_option maxRecDepth 10000
set_option linter.unusedSimpArgs false
set_option linter.unusedVariables false
def srt29_ren : Go.Shelf.Ren := { f := fun x => match x with | 6 => 29 | 15 => 46 | 14 => 45 | 28 => 58 | 29 => 59 | 20 => 50 | 21 => 51 | 22 => 52 | 23 => 53 | 24 => 54 | 25 => 55 | 26 => 56 | 27 => 57 | 46 => 62 | 47 => 63 | 48 => 64 | 49 => 65 | 50 => 66 | 57 => 67 | n => n, t := fun x => match x with | 22 => 22 | 24 => 34 | 25 => 46 | 3 => 3 | 39 => 55 | 0 => 0 | 53 => 37 | 55 => 73 | 4 => 4 | 46 => 65 | 45 => 64 | 50 => 69 | 5 => 5 | 9 => 9 | 66 => 76 | 70 => 80 | 76 => 82 | 77 => 83 | n => n, g := fun n => n }
theorem srt29 : Go.Proofs.SlLaysF0.n6 Try.prog srt29_ren := {
  mixed := by kernel_rfl
  f6 := ⟨Try.f29.name, by decide, Try.func29.trans (by kernel_rfl)⟩
  f14 := ⟨Try.f45.name, by decide, Try.func45.trans (by kernel_rfl)⟩
  f15 := Try.func46.trans (by kernel_rfl)
  f20 := ⟨Try.f50.name, by decide, Try.func50.trans (by kernel_rfl)⟩
  f21 := ⟨Try.f51.name, by decide, Try.func51.trans (by kernel_rfl)⟩
  f22 := ⟨Try.f52.name, by decide, Try.func52.trans (by kernel_rfl)⟩
  f23 := ⟨Try.f53.name, by decide, Try.func53.trans (by kernel_rfl)⟩
  f24 := ⟨Try.f54.name, by decide, Try.func54.trans (by kernel_rfl)⟩
  f25 := ⟨Try.f55.name, by decide, Try.func55.trans (by kernel_rfl)⟩
  f26 := ⟨Try.f56.name, by decide, Try.func56.trans (by kernel_rfl)⟩
  f27 := ⟨Try.f57.name, by decide, Try.func57.trans (by kernel_rfl)⟩
  f28 := Try.func58.trans (by kernel_rfl)
  f29 := Try.func59.trans (by kernel_rfl)
  f46 := ⟨Try.f62.name, by decide, Try.func62.trans (by kernel_rfl)⟩
  f47 := Try.func63.trans (by kernel_rfl)
  f48 := Try.func64.trans (by kernel_rfl)
  f49 := ⟨Try.f65.name, by decide, Try.func65.trans (by kernel_rfl)⟩
  f50 := ⟨Try.f66.name, by decide, Try.func66.trans (by kernel_rfl)⟩
  f57 := ⟨Try.f67.name, by decide, Try.func67.trans (by kernel_rfl)⟩
  t0 := Try.underlying0
  a0 := Try.isAgg0
  z0 := Try.sizeOf0
  v0 := Try.zeroValue0
  t3 := Try.underlying3
  a3 := Try.isAgg3
  z3 := Try.sizeOf3
  v3 := Try.zeroValue3
  t4 := Try.underlying4
  a4 := Try.isAgg4
  z4 := Try.sizeOf4
  v4 := Try.zeroValue4
  t5 := Try.underlying5
  a5 := Try.isAgg5
  z5 := Try.sizeOf5
  v5 := Try.zeroValue5
  t9 := Try.underlying9
  a9 := Try.isAgg9
  z9 := Try.sizeOf9
  v9 := Try.zeroValue9
  t22 := Try.underlying22
  a22 := Try.isAgg22
  z22 := Try.sizeOf22
  v22 := Try.zeroValue22
  t25 := Try.underlying46
  a25 := Try.isAgg46
  z25 := Try.sizeOf46
  v25 := Try.zeroValue46
  t39 := Try.underlying55
  a39 := Try.isAgg55
  z39 := Try.sizeOf55
  v39 := Try.zeroValue55
  t45 := Try.underlying64
  a45 := Try.isAgg64
  z45 := Try.sizeOf64
  v45 := Try.zeroValue64
  t46 := Try.underlying65
  a46 := Try.isAgg65
  z46 := Try.sizeOf65
  v46 := Try.zeroValue65
  t50 := Try.underlying69
  a50 := Try.isAgg69
  z50 := Try.sizeOf69
  v50 := Try.zeroValue69
  t53 := Try.underlying37
  a53 := Try.isAgg37
  z53 := Try.sizeOf37
  v53 := Try.zeroValue37
  t55 := Try.underlying73
  a55 := Try.isAgg73
  z55 := Try.sizeOf73
  v55 := Try.zeroValue73
  t66 := Try.underlying76
  a66 := Try.isAgg76
  z66 := Try.sizeOf76
  v66 := Try.zeroValue76
  t70 := Try.underlying80
  a70 := Try.isAgg80
  z70 := Try.sizeOf80
  v70 := Try.zeroValue80
  t76 := Try.underlying82
  a76 := Try.isAgg82
  z76 := Try.sizeOf82
  v76 := Try.zeroValue82
  t77 := Try.underlying83
  a77 := Try.isAgg83
  z77 := Try.sizeOf83
  v77 := Try.zeroValue83 }

theorem sp_of_d {x : List D} {rows : List Sp} (h : x ∈ rows.map Sp.d) : Sp.d (Sp.of x) = x := by
  obtain ⟨s, _, rfl⟩ := List.mem_map.1 h
  rfl
theorem sort29 (rows : List Sp) (h : H) (n r : Nat) (hl : rows.length ≤ 100000) (hr : h r = some ⟨34, rows.map Sp.d⟩) :
    RCt Try.prog 29 [.mrow r 0 rows.length, .fn (.func 30) [] []] h n (fun d h' n' => d = .tuple [] ∧ n' = n ∧ ∃ rows' : List Sp, rows'.Perm rows ∧ rows'.Pairwise (fun x y => x.a ≤ y.a) ∧ h' = upd h r (some ⟨34, rows'.map Sp.d⟩)) := by
  have e : rows.length = (rows.map Sp.d).length := by simp
  rw [e]
  refine (sort_rct (ty := 34) srt29 rfl rfl Try.isAgg34 Try.sizeOf34 (fun x y => cmpI (Sp.of x).a (Sp.of y).a) (by kernel_rfl) hr nrr_sp rfl (by simp; omega) (fun x hx y hy => ?_) ⟨fun x _ => ?_, fun x _ y _ z _ => ?_, fun x _ y _ z _ => ?_⟩).mono ?_
  · have := normal2_ct (Sp.of x) (Sp.of y)
    rw [sp_of_d hx, sp_of_d hy] at this
    exact this
  · simp [cmpI]
  · simp only [cmpI]; split <;> split <;> split <;> omega
  · simp only [cmpI]; split <;> (try split) <;> (try split) <;> (try split) <;> (try split) <;> (try split) <;> omega
  · rintro d h' n' ⟨rfl, rfl, rows', hp, hs, rfl⟩
    have hback : (rows'.map Sp.of).map Sp.d = rows' := by
      rw [List.map_map]
      conv => rhs; rw [← List.map_id rows']
      exact List.map_congr_left fun x hx => sp_of_d (hp.mem_iff.1 hx)
    refine ⟨rfl, rfl, rows'.map Sp.of, ?_, ?_, by rw [hback]⟩
    · have := hp.map Sp.of
      rwa [of_map] at this
    · rw [List.pairwise_map]
      refine hs.imp fun {x y} h => ?_
      simp only [cmpI] at h
      split at h
      · omega
      · omega
theorem bo27 : hasBody Try.prog 27 = true := by kernel_rfl
theorem sift_ct (l : List Sp) (h : H) (n : Nat) (hl : l.length ≤ 100000) : RCt Try.prog 27 [.list false (l.map Sp.d), .fn (.func 28) [] []] h n (fun d h' n' => ∃ r, d = .mrow r 0 (sift l).length ∧ h' = htab [(r, ⟨34, (sift l).map Sp.d⟩)] ∧ r < n') := by
  refine rct_of_dw Try.func27 rfl bo27 (by simp [Try.f27]) (fun hnone => ?_)
  unfold Try.f27
  refine dw_step (C := Cn) (by simp only [go_sem]; exact rfl) (fun h => by cases h) ?_ ?_
  · try simp only [go_sem]
    all_goals (first | done | (repeat' (with_reducible apply And.intro)) <;> first | omega | (with_reducible assumption) | (intros; omega) | (intros; simp only [decide_eq_true_eq, decide_eq_false_iff_not, Bool.or_eq_true, Bool.and_eq_true, Bool.or_eq_false_iff, Bool.not_eq_true', Bool.not_eq_false'] at *; omega) | (simp_all; done) | (simp_all; omega))
  refine dw_step (C := Cn) (by simp only [go_sem]; exact rfl) (fun h => by cases h) ?_ ?_
  · try simp only [go_sem]
    all_goals (first | done | (repeat' (with_reducible apply And.intro)) <;> first | omega | (with_reducible assumption) | (intros; omega) | (intros; simp only [decide_eq_true_eq, decide_eq_false_iff_not, Bool.or_eq_true, Bool.and_eq_true, Bool.or_eq_false_iff, Bool.not_eq_true', Bool.not_eq_false'] at *; omega) | (simp_all; done) | (simp_all; omega))
  refine dw_seq ?_
  refine dw_step (C := Cn) (by simp only [go_sem]; exact rfl) (fun h => by cases h) ?_ ?_
  · try simp only [go_sem]
    all_goals (first | done | (repeat' (with_reducible apply And.intro)) <;> first | omega | (with_reducible assumption) | (intros; omega) | (intros; simp only [decide_eq_true_eq, decide_eq_false_iff_not, Bool.or_eq_true, Bool.and_eq_true, Bool.or_eq_false_iff, Bool.not_eq_true', Bool.not_eq_false'] at *; omega) | (simp_all; done) | (simp_all; omega))
  refine dw_block ?_
  refine dw_own 5 34 (by simp only [go_sem]) (by simp only [go_sem]) ?_
  refine dw_loop_fix (α := (Nat) × (List Sp) × (Nat) × Nat) [1, 8, 9] (fun ⟨k, out, r, nx⟩ => (k ≤ l.length) ∧ (out.length ≤ k) ∧ (siftFrom l 0 [] = siftFrom l k out) ∧ (r < nx) ∧ True) (fun ⟨k, out, r, nx⟩ => l.length - k) (fun ⟨k, out, r, nx⟩ => [(5, .mrow r 0 out.length), (10, .i k)]) (fun ⟨k, out, r, nx⟩ => [(r, ⟨34, out.map Sp.d⟩)]) (fun ⟨k, out, r, nx⟩ => nx) (0, [], (n + 5), _) (by simp only [List.map_cons, List.map_nil, go_sem]; exact rfl) ⟨(by first | (first | omega | (with_reducible assumption) | (simp_all; done) | (simp_all; omega)) | (dsimp only; first | omega | (with_reducible assumption) | (simp_all; done) | (simp_all; omega))), (by first | (simp) | (dsimp only; simp)), (by first | (rfl) | (dsimp only; rfl)), (by first | (first | omega | (with_reducible assumption) | (simp_all; done) | (simp_all; omega)) | (dsimp only; first | omega | (with_reducible assumption) | (simp_all; done) | (simp_all; omega))), trivial⟩ (by first | (simp only [go_sem]; done) | (simp [go_sem]; done) | (simp only [go_sem]; (repeat' (with_reducible apply And.intro)) <;> first | (left; simp; done) | (right; simp [go_sem]; done))) (by first | (simp only [go_sem]; done) | simp [go_sem]) (Nat.le_refl _) ?_
  rintro ⟨k, out, r, nx⟩ ⟨hk, ho, hv, hr, -⟩
  show DW _ _ _ _ { n := _, t := tab _, h := _, nx := _, e := _ }
  simp only [List.cons_append, List.nil_append]
  refine dw_step (C := Cn) (by simp only [go_sem, hr]; exact rfl) (fun h => by cases h) ?_ ?_
  · try simp only [go_sem, hr]
    all_goals (first | done | (repeat' (with_reducible apply And.intro)) <;> first | omega | (with_reducible assumption) | (intros; omega) | (intros; simp only [decide_eq_true_eq, decide_eq_false_iff_not, Bool.or_eq_true, Bool.and_eq_true, Bool.or_eq_false_iff, Bool.not_eq_true', Bool.not_eq_false'] at *; omega) | (simp_all; done) | (simp_all; omega))
  refine dw_seq ?_
  refine dw_cond (by simp only [go_sem, hr]; exact rfl) (fun c1 => ?_) (fun c1 => ?_)
  · skip
    have hk2 : k < l.length := by simpa using c1
    refine dw_skip ?_
    show DW _ _ _ _ _
    refine dw_seq ?_
    refine dw_block ?_
    refine dw_step (C := Cn) (by simp only [go_sem, hr, getD_sp hk2]; exact rfl) (fun h => by cases h) ?_ ?_
    · try simp only [go_sem, hr, getD_sp hk2]
      all_goals (first | done | (repeat' (with_reducible apply And.intro)) <;> first | omega | (with_reducible assumption) | (intros; omega) | (intros; simp only [decide_eq_true_eq, decide_eq_false_iff_not, Bool.or_eq_true, Bool.and_eq_true, Bool.or_eq_false_iff, Bool.not_eq_true', Bool.not_eq_false'] at *; omega) | (simp_all; done) | (simp_all; omega))
    refine dw_step (C := Cn) (by simp only [go_sem, hr, getD_sp hk2]; exact rfl) (fun h => by cases h) ?_ ?_
    · try simp only [go_sem, hr, getD_sp hk2]
      all_goals (first | done | ((repeat' (with_reducible apply And.intro)) <;> first | omega | exact normal1_ct ⟨_, _⟩ | exact normal1_ct _))
    refine dw_cond (by simp only [go_sem, hr, getD_sp hk2]; exact rfl) (fun c2 => ?_) (fun c2 => ?_)
    · skip
      rw [lt1_t] at c2
      refine dw_reg (C := Cn) (by simp only [go_sem, hr, getD_sp hk2]; exact rfl) (fun h => by cases h) ?_ ?_
      · try simp only [go_sem, hr, getD_sp hk2]
        all_goals (first | done | (repeat' (with_reducible apply And.intro)) <;> first | omega | (with_reducible assumption) | (intros; omega) | (intros; simp only [decide_eq_true_eq, decide_eq_false_iff_not, Bool.or_eq_true, Bool.and_eq_true, Bool.or_eq_false_iff, Bool.not_eq_true', Bool.not_eq_false'] at *; omega) | (simp_all; done) | (simp_all; omega))
      show DW _ _ _ _ _
      refine dw_reg (C := Cn) (by simp only [go_sem, hr, getD_sp hk2]; exact rfl) (fun h => by cases h) ?_ ?_
      · try simp only [go_sem, hr, getD_sp hk2]
        all_goals (first | done | (repeat' (with_reducible apply And.intro)) <;> first | omega | (with_reducible assumption) | (intros; omega) | (intros; simp only [decide_eq_true_eq, decide_eq_false_iff_not, Bool.or_eq_true, Bool.and_eq_true, Bool.or_eq_false_iff, Bool.not_eq_true', Bool.not_eq_false'] at *; omega) | (simp_all; done) | (simp_all; omega))
      show ∃ _, _
      refine ⟨(k + 1, out ++ [l[k]!], (nx + 11), _), ⟨(by first | (first | omega | (with_reducible assumption) | (simp_all; done) | (simp_all; omega)) | (dsimp only; first | omega | (with_reducible assumption) | (simp_all; done) | (simp_all; omega))), (by first | (simp; omega) | (dsimp only; simp; omega)), (by first | (rw [hv, siftFrom_eq, if_pos hk2, if_pos c2]) | (dsimp only; rw [hv, siftFrom_eq, if_pos hk2, if_pos c2])), (by first | (first | omega | (with_reducible assumption) | (simp_all; done) | (simp_all; omega)) | (dsimp only; first | omega | (with_reducible assumption) | (simp_all; done) | (simp_all; omega))), trivial⟩, (by show (_ : Nat) < _; first | omega | simp_all; omega), ?_, ?_, ?_, Nat.le_refl _, rfl, rfl⟩
      · try simp only [go_sem, hr, getD_sp hk2]
        all_goals (first | done | (simp [Sp.d]; done) | (simp [Sp.d]; omega))
      · try simp only [go_sem, hr, getD_sp hk2]
        all_goals (first | done | (simp [Sp.d]; done) | (simp [Sp.d]; omega))
      · try simp only [go_sem, hr, getD_sp hk2]
        all_goals (first | done | (simp [Sp.d]; done) | (simp [Sp.d]; omega))
    · skip
      rw [lt1_f] at c2
      refine dw_skip ?_
      show DW _ _ _ _ _
      refine dw_reg (C := Cn) (by simp only [go_sem, hr, getD_sp hk2]; exact rfl) (fun h => by cases h) ?_ ?_
      · try simp only [go_sem, hr, getD_sp hk2]
        all_goals (first | done | (repeat' (with_reducible apply And.intro)) <;> first | omega | (with_reducible assumption) | (intros; omega) | (intros; simp only [decide_eq_true_eq, decide_eq_false_iff_not, Bool.or_eq_true, Bool.and_eq_true, Bool.or_eq_false_iff, Bool.not_eq_true', Bool.not_eq_false'] at *; omega) | (simp_all; done) | (simp_all; omega))
      show ∃ _, _
      refine ⟨(k + 1, out, r, _), ⟨(by first | (first | omega | (with_reducible assumption) | (simp_all; done) | (simp_all; omega)) | (dsimp only; first | omega | (with_reducible assumption) | (simp_all; done) | (simp_all; omega))), (by first | (omega) | (dsimp only; omega)), (by first | (rw [hv, siftFrom_eq, if_pos hk2, if_neg c2]) | (dsimp only; rw [hv, siftFrom_eq, if_pos hk2, if_neg c2])), (by first | (first | omega | (with_reducible assumption) | (simp_all; done) | (simp_all; omega)) | (dsimp only; first | omega | (with_reducible assumption) | (simp_all; done) | (simp_all; omega))), trivial⟩, (by show (_ : Nat) < _; first | omega | simp_all; omega), ?_, ?_, ?_, Nat.le_refl _, rfl, rfl⟩
      · try simp only [go_sem, hr, getD_sp hk2]
        all_goals (first | done | (simp [Sp.d]; done) | (simp [Sp.d]; omega))
      · try simp only [go_sem, hr, getD_sp hk2]
        all_goals (first | done | (simp [Sp.d]; done) | (simp [Sp.d]; omega))
      · try simp only [go_sem, hr, getD_sp hk2]
        all_goals (first | done | (simp [Sp.d]; done) | (simp [Sp.d]; omega))
  · skip
    try simp only [decide_eq_true_eq, decide_eq_false_iff_not, Bool.or_eq_true, Bool.and_eq_true, Bool.or_eq_false_iff, Bool.not_eq_true', Bool.not_eq_false'] at c1
    refine dw_exit ?_
    show DW _ _ _ _ _
    refine dw_step (C := Cn) (by simp only [go_sem, hr]; exact rfl) (fun h => by cases h) ?_ ?_
    · try simp only [go_sem, hr]
      all_goals (first | done | (repeat' (with_reducible apply And.intro)) <;> first | omega | (with_reducible assumption) | (intros; omega) | (intros; simp only [decide_eq_true_eq, decide_eq_false_iff_not, Bool.or_eq_true, Bool.and_eq_true, Bool.or_eq_false_iff, Bool.not_eq_true', Bool.not_eq_false'] at *; omega) | (simp_all; done) | (simp_all; omega))
    refine dw_ret ?_
    refine ⟨.inr rfl, ?_, ?_⟩
    · simp only [go_sem, hr]
    refine ⟨htab [(r, ⟨34, out.map Sp.d⟩)], _, ?_, Nat.le_refl _, ?_⟩
    · exact fun _ => .inl rfl
    · try simp only [go_sem, hr]
      all_goals ((have hv2 : sift l = out := by rw [sift, hv, siftFrom_eq, if_neg (by omega)]); rw [hv2]; exact ⟨r, rfl, rfl, by omega⟩)
theorem bo11 : hasBody Try.prog 11 = true := by kernel_rfl
theorem normal_ct (l : List Sp) (hl : l.length ≤ 1000) : PureCt Try.prog 11 [.list false (l.map Sp.d)] (.tuple [.list false ((rnormal l).1.map Sp.d), .i (rnormal l).2]) := by
  rw [rnormal]
  refine pure_of_dw Try.func11 rfl bo11 (by simp [go_sem, D.nr, nrs, Sp.d]) (by simp [Try.f11]) ?_
  unfold Try.f11
  simp only [init_eq]
  refine dw_step (C := Cn) (by simp only [go_sem]; exact rfl) (fun h => by cases h) ?_ ?_
  · try simp only [go_sem]
    all_goals (first | done | (repeat' (with_reducible apply And.intro)) <;> first | omega | (with_reducible assumption) | (intros; omega) | (intros; simp only [decide_eq_true_eq, decide_eq_false_iff_not, Bool.or_eq_true, Bool.and_eq_true, Bool.or_eq_false_iff, Bool.not_eq_true', Bool.not_eq_false'] at *; omega) | (simp_all; done) | (simp_all; omega))
  refine dw_seq ?_
  refine dw_step (C := Cn) (by simp only [go_sem]; exact rfl) (fun h => by cases h) ?_ ?_
  · try simp only [go_sem]
    all_goals (first | done | (repeat' (with_reducible apply And.intro)) <;> first | omega | (with_reducible assumption) | (intros; omega) | (intros; simp only [decide_eq_true_eq, decide_eq_false_iff_not, Bool.or_eq_true, Bool.and_eq_true, Bool.or_eq_false_iff, Bool.not_eq_true', Bool.not_eq_false'] at *; omega) | (simp_all; done) | (simp_all; omega))
  refine dw_cond (by simp only [go_sem]; exact rfl) (fun c1 => ?_) (fun c1 => ?_)
  · skip
    simp at c1; omega
  · skip
    try simp only [decide_eq_true_eq, decide_eq_false_iff_not, Bool.or_eq_true, Bool.and_eq_true, Bool.or_eq_false_iff, Bool.not_eq_true', Bool.not_eq_false'] at c1
    refine dw_skip ?_
    show DW _ _ _ _ _
    refine dw_seq ?_
    refine dw_step (C := Cn) (by simp only [go_sem]; exact rfl) (fun h => by cases h) ?_ ?_
    · try simp only [go_sem]
      all_goals (first | done | (repeat' (with_reducible apply And.intro)) <;> first | omega | (with_reducible assumption) | (intros; omega) | (intros; simp only [decide_eq_true_eq, decide_eq_false_iff_not, Bool.or_eq_true, Bool.and_eq_true, Bool.or_eq_false_iff, Bool.not_eq_true', Bool.not_eq_false'] at *; omega) | (simp_all; done) | (simp_all; omega))
    refine dw_block ?_
    refine dw_loop_fix (α := (Nat) × Nat) [0, 10, 11] (fun ⟨k, nx⟩ => (k ≤ l.length) ∧ (nNoBad l 0 = nNoBad l k) ∧ True) (fun ⟨k, nx⟩ => l.length - k) (fun ⟨k, nx⟩ => [(12, .i k)]) (fun ⟨k, nx⟩ => []) (fun ⟨k, nx⟩ => nx) (0, _) (by simp only [List.map_cons, List.map_nil, go_sem]; exact rfl) ⟨(by first | (first | omega | (with_reducible assumption) | (simp_all; done) | (simp_all; omega)) | (dsimp only; first | omega | (with_reducible assumption) | (simp_all; done) | (simp_all; omega))), (by first | (rfl) | (dsimp only; rfl)), trivial⟩ (by first | (simp only [go_sem]; done) | (simp [go_sem]; done) | (simp only [go_sem]; (repeat' (with_reducible apply And.intro)) <;> first | (left; simp; done) | (right; simp [go_sem]; done))) (by first | (simp only [go_sem]; done) | simp [go_sem]) (Nat.le_refl _) ?_
    rintro ⟨k, nx⟩ ⟨hk, hv, -⟩
    show DW _ _ _ _ { n := _, t := tab _, h := _, nx := _, e := _ }
    simp only [List.cons_append, List.nil_append]
    refine dw_step (C := Cn) (by simp only [go_sem]; exact rfl) (fun h => by cases h) ?_ ?_
    · try simp only [go_sem]
      all_goals (first | done | (repeat' (with_reducible apply And.intro)) <;> first | omega | (with_reducible assumption) | (intros; omega) | (intros; simp only [decide_eq_true_eq, decide_eq_false_iff_not, Bool.or_eq_true, Bool.and_eq_true, Bool.or_eq_false_iff, Bool.not_eq_true', Bool.not_eq_false'] at *; omega) | (simp_all; done) | (simp_all; omega))
    refine dw_seq ?_
    refine dw_cond (by simp only [go_sem]; exact rfl) (fun c2 => ?_) (fun c2 => ?_)
    · skip
      have hk2 : k < l.length := by simpa using c2
      refine dw_skip ?_
      show DW _ _ _ _ _
      refine dw_seq ?_
      refine dw_block ?_
      refine dw_step (C := Cn) (by simp only [go_sem, getD_sp hk2]; exact rfl) (fun h => by cases h) ?_ ?_
      · try simp only [go_sem, getD_sp hk2]
        all_goals (first | done | (repeat' (with_reducible apply And.intro)) <;> first | omega | (with_reducible assumption) | (intros; omega) | (intros; simp only [decide_eq_true_eq, decide_eq_false_iff_not, Bool.or_eq_true, Bool.and_eq_true, Bool.or_eq_false_iff, Bool.not_eq_true', Bool.not_eq_false'] at *; omega) | (simp_all; done) | (simp_all; omega))
      refine dw_step (C := Cn) (by simp only [go_sem, getD_sp hk2]; exact rfl) (fun h => by cases h) ?_ ?_
      · try simp only [go_sem, getD_sp hk2]
        all_goals (first | done | (repeat' (with_reducible apply And.intro)) <;> first | omega | (with_reducible assumption) | (intros; omega) | (intros; simp only [decide_eq_true_eq, decide_eq_false_iff_not, Bool.or_eq_true, Bool.and_eq_true, Bool.or_eq_false_iff, Bool.not_eq_true', Bool.not_eq_false'] at *; omega) | (simp_all; done) | (simp_all; omega))
      refine dw_cond (by simp only [go_sem, getD_sp hk2]; exact rfl) (fun c3 => ?_) (fun c3 => ?_)
      · skip
        refine dw_step (C := Cn) (by simp only [go_sem, getD_sp hk2]; exact rfl) (fun h => by cases h) ?_ ?_
        · try simp only [go_sem, getD_sp hk2]
          all_goals (first | done | (repeat' (with_reducible apply And.intro)) <;> first | omega | (with_reducible assumption) | (intros; omega) | (intros; simp only [decide_eq_true_eq, decide_eq_false_iff_not, Bool.or_eq_true, Bool.and_eq_true, Bool.or_eq_false_iff, Bool.not_eq_true', Bool.not_eq_false'] at *; omega) | (simp_all; done) | (simp_all; omega))
        refine dw_ret ?_
        refine ⟨.inr rfl, ?_, ?_⟩
        · simp only [go_sem, getD_sp hk2]
        refine ⟨1, ?_, ?_⟩
        · try simp only [go_sem, getD_sp hk2]
          all_goals (simp)
        · try simp only [go_sem, getD_sp hk2]
          all_goals (rw [if_neg]; rfl; rw [hv, nNoBad_eq, if_pos hk2, nbad, c3]; simp)
      · skip
        refine dw_skip ?_
        show DW _ _ _ _ _
        refine dw_reg (C := Cn) (by simp only [go_sem, getD_sp hk2]; exact rfl) (fun h => by cases h) ?_ ?_
        · try simp only [go_sem, getD_sp hk2]
          all_goals (first | done | (repeat' (with_reducible apply And.intro)) <;> first | omega | (with_reducible assumption) | (intros; omega) | (intros; simp only [decide_eq_true_eq, decide_eq_false_iff_not, Bool.or_eq_true, Bool.and_eq_true, Bool.or_eq_false_iff, Bool.not_eq_true', Bool.not_eq_false'] at *; omega) | (simp_all; done) | (simp_all; omega))
        show ∃ _, _
        refine ⟨(k + 1, _), ⟨(by first | (first | omega | (with_reducible assumption) | (simp_all; done) | (simp_all; omega)) | (dsimp only; first | omega | (with_reducible assumption) | (simp_all; done) | (simp_all; omega))), (by first | (rw [hv, nNoBad_eq, if_pos hk2, nbad, c3]; rfl) | (dsimp only; rw [hv, nNoBad_eq, if_pos hk2, nbad, c3]; rfl)), trivial⟩, (by show (_ : Nat) < _; first | omega | simp_all; omega), ?_, ?_, ?_, Nat.le_refl _, rfl, rfl⟩
        · try simp only [go_sem, getD_sp hk2]
          all_goals (first | done | (simp; done) | (simp; omega) | ((repeat' (with_reducible apply And.intro)) <;> first | (left; simp; done) | (right; simp [go_sem]; done)))
        · try simp only [go_sem, getD_sp hk2]
          all_goals (first | done | (simp; done) | (simp; omega) | ((repeat' (with_reducible apply And.intro)) <;> first | (left; simp; done) | (right; simp [go_sem]; done)))
        · try simp only [go_sem, getD_sp hk2]
          all_goals (first | done | (simp; done) | (simp; omega) | ((repeat' (with_reducible apply And.intro)) <;> first | (left; simp; done) | (right; simp [go_sem]; done)))
    · skip
      have hk2 : nNoBad l 0 = true := by rw [hv, nNoBad_eq, if_neg (by simpa using c2)]
      have hsl := sift_len l
      refine dw_exit ?_
      show DW _ _ _ _ _
      refine dw_seq (dw_call (C := Cn) 1 (R := _) (arr_at rfl) rfl rfl (by simp only [List.take_succ_cons, List.take_zero, go_sem]; exact rfl) ?_ ?_ (by simp only [go_sem]; exact rfl) (by simp only [go_sem]) (by simp only [go_sem]; exact rfl) (sift_ct l _ _ (by omega)) ?_)
      · try simp only [go_sem]
        all_goals (first | done | (repeat' (with_reducible apply And.intro)) <;> first | omega | (with_reducible assumption) | (intros; omega) | (intros; simp only [decide_eq_true_eq, decide_eq_false_iff_not, Bool.or_eq_true, Bool.and_eq_true, Bool.or_eq_false_iff, Bool.not_eq_true', Bool.not_eq_false'] at *; omega) | (simp_all; done) | (simp_all; omega))
      · try simp only [go_sem]
        all_goals (first | done | rfl | decide | simp)
      rintro res h2 n2 ⟨r1, rfl, rfl, hr1⟩
      refine ⟨⟨_, _, _, _, _, _⟩, by simp only [List.drop_succ_cons, List.drop_zero, S.put, go_sem, hr1]; exact rfl, ?_, ?_⟩
      · try simp only [go_sem, hr1]
        all_goals (first | done | (repeat' (with_reducible apply And.intro)) <;> first | omega | (with_reducible assumption) | (intros; omega) | (intros; simp only [decide_eq_true_eq, decide_eq_false_iff_not, Bool.or_eq_true, Bool.and_eq_true, Bool.or_eq_false_iff, Bool.not_eq_true', Bool.not_eq_false'] at *; omega) | (simp_all; done) | (simp_all; omega))
      skip
      show DW _ _ _ _ _
      refine dw_seq (dw_call (C := Cn) 1 (R := _) (arr_at rfl) rfl rfl (by simp only [List.take_succ_cons, List.take_zero, go_sem, hr1]; exact rfl) ?_ ?_ (by simp only [go_sem, hr1]; exact rfl) (by simp only [go_sem, hr1]) (by simp only [go_sem, hr1]; exact rfl) (sort29 (sift l) (htab [(r1, ⟨34, (sift l).map Sp.d⟩)]) _ r1 (by omega) (by exact upd_same _ _ _)) ?_)
      · try simp only [go_sem, hr1]
        all_goals (first | done | (repeat' (with_reducible apply And.intro)) <;> first | omega | (with_reducible assumption) | (intros; omega) | (intros; simp only [decide_eq_true_eq, decide_eq_false_iff_not, Bool.or_eq_true, Bool.and_eq_true, Bool.or_eq_false_iff, Bool.not_eq_true', Bool.not_eq_false'] at *; omega) | (simp_all; done) | (simp_all; omega))
      · try simp only [go_sem, hr1]
        all_goals (first | done | rfl | decide | simp)
      rintro res h2 n2 ⟨rfl, rfl, rows, hperm, hsort, rfl⟩
      have hrl := hperm.length_eq
      refine ⟨⟨_, _, _, _, _, _⟩, by simp only [List.drop_succ_cons, List.drop_zero, S.put, go_sem, hr1]; exact rfl, ?_, ?_⟩
      · try simp only [go_sem, hr1]
        all_goals (first | done | (repeat' (with_reducible apply And.intro)) <;> first | omega | (with_reducible assumption) | (intros; omega) | (intros; simp only [decide_eq_true_eq, decide_eq_false_iff_not, Bool.or_eq_true, Bool.and_eq_true, Bool.or_eq_false_iff, Bool.not_eq_true', Bool.not_eq_false'] at *; omega) | (simp_all; done) | (simp_all; omega))
      skip
      show DW _ _ _ _ _
      refine dw_freeze 6 r1 (by simp only [go_sem]; exact rfl) (by simp only [go_sem]; exact rfl) (by simp [hrl]) nrr_sp ?_
      refine dw_step (C := Cn) (by simp only [go_sem, hr1]; exact rfl) (fun h => by cases h) ?_ ?_
      · try simp only [go_sem, hr1]
        all_goals (first | done | exact united_ct _ (by omega))
      refine dw_ret ?_
      refine ⟨.inr rfl, ?_, ?_⟩
      · simp only [go_sem, hr1]
      refine ⟨1, ?_, ?_⟩
      · try simp only [go_sem, hr1]
        all_goals (simp)
      · try simp only [go_sem, hr1]
        all_goals (have hlaw := normal_law hk2 hperm hsort; have h20 : ¬ 20000 < (l.length : Int) := (by omega); rw [if_pos hk2, if_neg h20, hlaw])
theorem bo20 : hasBody Try.prog 20 = true := by kernel_rfl
theorem grow_ct (l : List Sp) (before : Int) (after : Int) : PureCt Try.prog 20 [.list false (l.map Sp.d), .i before, .i after] (.tuple [.list false ((rgrow l before after).1.map Sp.d), .i (rgrow l before after).2]) := by
  rw [← grow_law, Go.Span.grow]
  refine pure_of_dw Try.func20 rfl bo20 (by simp [go_sem, D.nr, nrs, Sp.d]) (by simp [Try.f20]) ?_
  unfold Try.f20
  simp only [init_eq]
  refine dw_step (C := Cn) (by simp only [go_sem]; exact rfl) (fun h => by cases h) ?_ ?_
  · try simp only [go_sem]
    all_goals (first | done | (repeat' (with_reducible apply And.intro)) <;> first | omega | (with_reducible assumption) | (intros; omega) | (intros; simp only [decide_eq_true_eq, decide_eq_false_iff_not, Bool.or_eq_true, Bool.and_eq_true, Bool.or_eq_false_iff, Bool.not_eq_true', Bool.not_eq_false'] at *; omega) | (simp_all; done) | (simp_all; omega))
  refine dw_seq ?_
  refine dw_step (C := Cn) (by simp only [go_sem]; exact rfl) (fun h => by cases h) ?_ ?_
  · try simp only [go_sem]
    all_goals (first | done | (repeat' (with_reducible apply And.intro)) <;> first | omega | (with_reducible assumption) | (intros; omega) | (intros; simp only [decide_eq_true_eq, decide_eq_false_iff_not, Bool.or_eq_true, Bool.and_eq_true, Bool.or_eq_false_iff, Bool.not_eq_true', Bool.not_eq_false'] at *; omega) | (simp_all; done) | (simp_all; omega) | (apply valid_ct <;> omega) | (intros; apply valid_ct <;> omega))
  refine dw_cond (by simp only [go_sem]; exact rfl) (fun c1 => ?_) (fun c1 => ?_)
  · skip
    have hv1 : (!valid l || badGrow before after) = true := by simpa [badGrow, or_assoc] using c1
    refine dw_step (C := Cn) (by simp only [go_sem]; exact rfl) (fun h => by cases h) ?_ ?_
    · try simp only [go_sem]
      all_goals (first | done | (repeat' (with_reducible apply And.intro)) <;> first | omega | (with_reducible assumption) | (intros; omega) | (intros; simp only [decide_eq_true_eq, decide_eq_false_iff_not, Bool.or_eq_true, Bool.and_eq_true, Bool.or_eq_false_iff, Bool.not_eq_true', Bool.not_eq_false'] at *; omega) | (simp_all; done) | (simp_all; omega))
    refine dw_ret ?_
    refine ⟨.inr rfl, ?_, ?_⟩
    · simp only [go_sem]
    refine ⟨1, ?_, ?_⟩
    · try simp only [go_sem]
      all_goals (simp)
    · try simp only [go_sem]
      all_goals (rw [hv1]; rfl)
  · skip
    have hv1 : (!valid l || badGrow before after) = false := by simpa [badGrow, and_assoc] using c1
    have hv2 : valid l = true ∧ badGrow before after = false := by simpa using hv1
    have hb1 : 0 ≤ before ∧ before ≤ 20000000 ∧ 0 ≤ after ∧ after ≤ 20000000 := by have := hv2.2; simp [badGrow] at this; omega
    have hl1 := valid_len hv2.1
    refine dw_skip ?_
    show DW _ _ _ _ _
    refine dw_step (C := Cn) (by simp only [go_sem]; exact rfl) (fun h => by cases h) ?_ ?_
    · try simp only [go_sem]
      all_goals (first | done | (repeat' (with_reducible apply And.intro)) <;> first | omega | (with_reducible assumption) | (intros; omega) | (intros; simp only [decide_eq_true_eq, decide_eq_false_iff_not, Bool.or_eq_true, Bool.and_eq_true, Bool.or_eq_false_iff, Bool.not_eq_true', Bool.not_eq_false'] at *; omega) | (simp_all; done) | (simp_all; omega))
    refine dw_seq ?_
    refine dw_step (C := Cn) (by simp only [go_sem]; exact rfl) (fun h => by cases h) ?_ ?_
    · try simp only [go_sem]
      all_goals (first | done | (repeat' (with_reducible apply And.intro)) <;> first | omega | (with_reducible assumption) | (intros; omega) | (intros; simp only [decide_eq_true_eq, decide_eq_false_iff_not, Bool.or_eq_true, Bool.and_eq_true, Bool.or_eq_false_iff, Bool.not_eq_true', Bool.not_eq_false'] at *; omega) | (simp_all; done) | (simp_all; omega))
    refine dw_block ?_
    refine dw_own 8 34 (by simp only [go_sem]) (by simp only [go_sem]) ?_
    refine dw_loop_fix (α := (Nat) × (List Sp) × (Nat) × Nat) [1, 2, 30, 31] (fun ⟨k, out, r, nx⟩ => (k ≤ l.length) ∧ (out.length ≤ k) ∧ (growSFrom l before after 0 [] = growSFrom l before after k out) ∧ (r < nx) ∧ True) (fun ⟨k, out, r, nx⟩ => l.length - k) (fun ⟨k, out, r, nx⟩ => [(8, .mrow r 0 out.length), (32, .i k)]) (fun ⟨k, out, r, nx⟩ => [(r, ⟨34, out.map Sp.d⟩)]) (fun ⟨k, out, r, nx⟩ => nx) (0, [], 25, _) (by simp only [List.map_cons, List.map_nil, go_sem]; exact rfl) ⟨(by first | (first | omega | (with_reducible assumption) | (simp_all; done) | (simp_all; omega)) | (dsimp only; first | omega | (with_reducible assumption) | (simp_all; done) | (simp_all; omega))), (by first | (simp) | (dsimp only; simp)), (by first | (rfl) | (dsimp only; rfl)), (by first | (first | omega | (with_reducible assumption) | (simp_all; done) | (simp_all; omega)) | (dsimp only; first | omega | (with_reducible assumption) | (simp_all; done) | (simp_all; omega))), trivial⟩ (by first | (simp only [go_sem]; done) | (simp [go_sem]; done) | (simp only [go_sem]; (repeat' (with_reducible apply And.intro)) <;> first | (left; simp; done) | (right; simp [go_sem]; done))) (by first | (simp only [go_sem]; done) | simp [go_sem]) (Nat.le_refl _) ?_
    rintro ⟨k, out, r, nx⟩ ⟨hk, ho, hv, hr, -⟩
    show DW _ _ _ _ { n := _, t := tab _, h := _, nx := _, e := _ }
    simp only [List.cons_append, List.nil_append]
    refine dw_step (C := Cn) (by simp only [go_sem, hr]; exact rfl) (fun h => by cases h) ?_ ?_
    · try simp only [go_sem, hr]
      all_goals (first | done | (repeat' (with_reducible apply And.intro)) <;> first | omega | (with_reducible assumption) | (intros; omega) | (intros; simp only [decide_eq_true_eq, decide_eq_false_iff_not, Bool.or_eq_true, Bool.and_eq_true, Bool.or_eq_false_iff, Bool.not_eq_true', Bool.not_eq_false'] at *; omega) | (simp_all; done) | (simp_all; omega))
    refine dw_seq ?_
    refine dw_cond (by simp only [go_sem, hr]; exact rfl) (fun c2 => ?_) (fun c2 => ?_)
    · skip
      have hk2 : k < l.length := by simpa using c2
      have hb2 := valid_at' hv2.1 hk2
      refine dw_skip ?_
      show DW _ _ _ _ _
      refine dw_seq ?_
      refine dw_block ?_
      refine dw_step (C := Cn) (by simp only [go_sem, hr, getD_sp hk2]; exact rfl) (fun h => by cases h) ?_ ?_
      · try simp only [go_sem, hr, getD_sp hk2]
        all_goals (first | done | (repeat' (with_reducible apply And.intro)) <;> first | omega | (with_reducible assumption) | (intros; omega) | (intros; simp only [decide_eq_true_eq, decide_eq_false_iff_not, Bool.or_eq_true, Bool.and_eq_true, Bool.or_eq_false_iff, Bool.not_eq_true', Bool.not_eq_false'] at *; omega) | (simp_all; done) | (simp_all; omega))
      refine dw_reg (C := Cn) (by simp only [go_sem, hr, getD_sp hk2]; exact rfl) (fun h => by cases h) ?_ ?_
      · try simp only [go_sem, hr, getD_sp hk2]
        all_goals (first | done | (repeat' (with_reducible apply And.intro)) <;> first | omega | (with_reducible assumption) | (intros; omega) | (intros; simp only [decide_eq_true_eq, decide_eq_false_iff_not, Bool.or_eq_true, Bool.and_eq_true, Bool.or_eq_false_iff, Bool.not_eq_true', Bool.not_eq_false'] at *; omega) | (simp_all; done) | (simp_all; omega))
      show DW _ _ _ _ _
      refine dw_reg (C := Cn) (by simp only [go_sem, hr, getD_sp hk2]; exact rfl) (fun h => by cases h) ?_ ?_
      · try simp only [go_sem, hr, getD_sp hk2]
        all_goals (first | done | (repeat' (with_reducible apply And.intro)) <;> first | omega | (with_reducible assumption) | (intros; omega) | (intros; simp only [decide_eq_true_eq, decide_eq_false_iff_not, Bool.or_eq_true, Bool.and_eq_true, Bool.or_eq_false_iff, Bool.not_eq_true', Bool.not_eq_false'] at *; omega) | (simp_all; done) | (simp_all; omega))
      show ∃ _, _
      refine ⟨(k + 1, out ++ [⟨max 0 (l[k]!.a - before), min 20000000 (l[k]!.b + after)⟩], (nx + 18), _), ⟨(by first | (first | omega | (with_reducible assumption) | (simp_all; done) | (simp_all; omega)) | (dsimp only; first | omega | (with_reducible assumption) | (simp_all; done) | (simp_all; omega))), (by first | (simp; omega) | (dsimp only; simp; omega)), (by first | (rw [hv, growSFrom_eq, if_pos hk2]) | (dsimp only; rw [hv, growSFrom_eq, if_pos hk2])), (by first | (first | omega | (with_reducible assumption) | (simp_all; done) | (simp_all; omega)) | (dsimp only; first | omega | (with_reducible assumption) | (simp_all; done) | (simp_all; omega))), trivial⟩, (by show (_ : Nat) < _; first | omega | simp_all; omega), ?_, ?_, ?_, Nat.le_refl _, rfl, rfl⟩
      · try simp only [go_sem, hr, getD_sp hk2]
        all_goals (first | done | (simp [Sp.d]; done) | (simp [Sp.d]; omega))
      · try simp only [go_sem, hr, getD_sp hk2]
        all_goals (first | done | (simp [Sp.d]; done) | (simp [Sp.d]; omega))
      · try simp only [go_sem, hr, getD_sp hk2]
        all_goals (first | done | (simp [Sp.d]; done) | (simp [Sp.d]; omega))
    · skip
      try simp only [decide_eq_true_eq, decide_eq_false_iff_not, Bool.or_eq_true, Bool.and_eq_true, Bool.or_eq_false_iff, Bool.not_eq_true', Bool.not_eq_false'] at c2
      refine dw_exit ?_
      show DW _ _ _ _ _
      refine dw_freeze 8 r (by simp only [go_sem]; exact rfl) (by simp only [go_sem]; exact rfl) (by simp) nrr_sp ?_
      refine dw_step (C := Cn) (by simp only [go_sem, hr]; exact rfl) (fun h => by cases h) ?_ ?_
      · try simp only [go_sem, hr]
        all_goals (first | done | exact united_ct _ (by omega))
      refine dw_ret ?_
      refine ⟨.inr rfl, ?_, ?_⟩
      · simp only [go_sem, hr]
      refine ⟨1, ?_, ?_⟩
      · try simp only [go_sem, hr]
        all_goals (simp)
      · try simp only [go_sem, hr]
        all_goals (rw [hv1]; simp only [Bool.false_eq_true, if_false]; rw [hv, growSFrom_eq, if_neg (by omega)])
end Go.Proofs.Ytfcdbijmoiegiaa
