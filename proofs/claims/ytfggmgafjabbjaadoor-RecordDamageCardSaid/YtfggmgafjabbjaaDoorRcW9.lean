import Derived.Test.YtfggmgafjabbjaaDoorRcW8
namespace Go.Proofs.YtfggmgafjabbjaaDoor
open Go.DL Go.Str Go.Rec Go.Cmp
set_option maxRecDepth 10000
set_option linter.unusedSimpArgs false
set_option linter.unusedVariables false
theorem upd_upd {α : Type} {f : Nat → α} {i : Nat} {x y : α} : upd (upd f i x) i y = upd f i y := by
  funext j
  by_cases e : j = i <;> simp [upd, e]
theorem row_at {s : List RSet} {i : Nat} (h : i < s.length) : (s.map RSet.d).getD i [] = [.v (.string (bs s[i]!.name)), .i s[i]!.ty, .i s[i]!.life, .list false (s[i]!.data.map Dat.d)] := getD_set h
theorem row_set {s : List RSet} {i j : Nat} {x : List D} (hj : j < s.length) (hij : i ≠ j) : ((s.map RSet.d).set i x).getD j [] = [.v (.string (bs s[j]!.name)), .i s[j]!.ty, .i s[j]!.life, .list false (s[j]!.data.map Dat.d)] := by
  rw [← row_at hj]
  simp [List.getD, List.getElem?_set_ne hij]
theorem rows_sw {s : List RSet} {i j : Nat} : ((s.map RSet.d).set i [.v (.string (bs s[j]!.name)), .i s[j]!.ty, .i s[j]!.life, .list false (s[j]!.data.map Dat.d)]).set j [.v (.string (bs s[i]!.name)), .i s[i]!.ty, .i s[i]!.life, .list false (s[i]!.data.map Dat.d)] = (sw s i j).map RSet.d := by
  have e : ∀ x : RSet, [.v (.string (bs x.name)), .i x.ty, .i x.life, .list false (x.data.map Dat.d)] = x.d := fun x => rfl
  rw [e, e, ← List.map_set, ← List.map_set]; rfl
theorem plC_m {s : List RSet} (h : ∀ x ∈ s, nameOk x.name = true) {i j : Nat} (hi : i < s.length) (hj : j < s.length) : plC s[i]! s[j]! = plc s[i]! s[j]! :=
  plC_c (h _ (by rw [getElem!_pos s i hi]; exact List.getElem_mem hi)) (h _ (by rw [getElem!_pos s j hj]; exact List.getElem_mem hj))
theorem bo96 : hasBody Tryd.prog 96 = true := by kernel_rfl
theorem insort_ct (s : List RSet) (a b : Nat) (r : Nat) (h : H) (n : Nat) (hab : a ≤ b) (hb : b ≤ s.length) (hl : s.length ≤ 100000) (hr : h r = some ⟨24, (s).map RSet.d⟩) : RCt Tryd.prog 96 [.mrow r 0 s.length, .i a, .i b, .fn (.func 27) [] []] h n (fun d h' n' => d = .tuple [] ∧ h' = upd h r (some ⟨24, (isort plC s a b).map RSet.d⟩) ∧ n ≤ n') := by
  refine rct_of_dw Tryd.func96 rfl bo96 (by simp [Tryd.f96]) (fun hnone => ?_)
  unfold Tryd.f96
  refine dw_step (C := Rn) (by simp only [go_sem, hr]; exact rfl) (fun h => by cases h) ?_ ?_
  · try simp only [go_sem, hr]
    all_goals (first | done | (repeat' (with_reducible apply And.intro)) <;> first | omega | (with_reducible assumption) | (intros; omega) | (intros; simp only [decide_eq_true_eq, decide_eq_false_iff_not, Bool.or_eq_true, Bool.and_eq_true, Bool.or_eq_false_iff, Bool.not_eq_true', Bool.not_eq_false'] at *; omega) | (simp_all; done) | (simp_all; omega))
  refine dw_block ?_
  refine dw_loop_h (α := (Nat) × (List RSet) × Nat) [0, 1, 2, 3] (fun ⟨i, s1, nx⟩ => (s1.length = s.length) ∧ (a < i) ∧ (n ≤ nx) ∧ (insOut plC s a b (a + 1) = insOut plC s1 a b i) ∧ True) (fun ⟨i, s1, nx⟩ => b - i) (fun ⟨i, s1, nx⟩ => [(8, .i i)]) (fun ⟨i, s1, nx⟩ => upd h r (some ⟨24, (s1).map RSet.d⟩)) (fun ⟨i, s1, nx⟩ => nx) (a + 1, s, _) (by simp only [List.map_cons, List.map_nil, go_sem, hr]; exact rfl) ⟨(by first | (rfl) | (dsimp only; rfl)), (by first | (first | omega | (with_reducible assumption) | (simp_all; done) | (simp_all; omega)) | (dsimp only; first | omega | (with_reducible assumption) | (simp_all; done) | (simp_all; omega))), (by first | (first | omega | (with_reducible assumption) | (simp_all; done) | (simp_all; omega)) | (dsimp only; first | omega | (with_reducible assumption) | (simp_all; done) | (simp_all; omega))), (by first | (rfl) | (dsimp only; rfl)), trivial⟩ (by first | (simp only [go_sem, hr]; done) | (simp [go_sem, hr]; done) | (simp only [go_sem, hr]; (repeat' (with_reducible apply And.intro)) <;> first | (left; simp; done) | (right; simp [go_sem]; done))) (by exact fun q => .inl (by by_cases e : q = r <;> simp [upd, e, hr])) (Nat.le_refl _) ?_
  rintro ⟨i, s1, nx⟩ ⟨hlen, hi, hn, hv, -⟩
  show DW _ _ _ _ { n := _, t := tab _, h := _, nx := _, e := _ }
  simp only [List.cons_append, List.nil_append]
  refine dw_seq ?_
  refine dw_step (C := Rn) (by simp only [go_sem, hr]; exact rfl) (fun h => by cases h) ?_ ?_
  · try simp only [go_sem, hr]
    all_goals (first | done | (repeat' (with_reducible apply And.intro)) <;> first | omega | (with_reducible assumption) | (intros; omega) | (intros; simp only [decide_eq_true_eq, decide_eq_false_iff_not, Bool.or_eq_true, Bool.and_eq_true, Bool.or_eq_false_iff, Bool.not_eq_true', Bool.not_eq_false'] at *; omega) | (simp_all; done) | (simp_all; omega))
  refine dw_cond (by simp only [go_sem, hr]; exact rfl) (fun c1 => ?_) (fun c1 => ?_)
  · skip
    have hk2 : i < b := by simpa using c1
    refine dw_skip ?_
    show DW _ _ _ _ _
    refine dw_seq ?_
    refine dw_block ?_
    refine dw_step (C := Rn) (by simp only [go_sem, hr]; exact rfl) (fun h => by cases h) ?_ ?_
    · try simp only [go_sem, hr]
      all_goals (first | done | (repeat' (with_reducible apply And.intro)) <;> first | omega | (with_reducible assumption) | (intros; omega) | (intros; simp only [decide_eq_true_eq, decide_eq_false_iff_not, Bool.or_eq_true, Bool.and_eq_true, Bool.or_eq_false_iff, Bool.not_eq_true', Bool.not_eq_false'] at *; omega) | (simp_all; done) | (simp_all; omega))
    refine dw_block ?_
    refine dw_loop_h (α := (Nat) × (List RSet) × Nat) [0, 1, 2, 3, 8] (fun ⟨j, s2, nx⟩ => (s2.length = s.length) ∧ (a ≤ j ∧ j ≤ i) ∧ (n ≤ nx) ∧ (insIn plC s1 a i = insIn plC s2 a j) ∧ True) (fun ⟨j, s2, nx⟩ => j) (fun ⟨j, s2, nx⟩ => [(9, .i j)]) (fun ⟨j, s2, nx⟩ => upd h r (some ⟨24, (s2).map RSet.d⟩)) (fun ⟨j, s2, nx⟩ => nx) (i, s1, _) (by simp only [List.map_cons, List.map_nil, go_sem, hr]; exact rfl) ⟨(by first | (exact hlen) | (dsimp only; exact hlen)), (by first | (first | omega | (with_reducible assumption) | (simp_all; done) | (simp_all; omega)) | (dsimp only; first | omega | (with_reducible assumption) | (simp_all; done) | (simp_all; omega))), (by first | (first | omega | (with_reducible assumption) | (simp_all; done) | (simp_all; omega)) | (dsimp only; first | omega | (with_reducible assumption) | (simp_all; done) | (simp_all; omega))), (by first | (rfl) | (dsimp only; rfl)), trivial⟩ (by first | (simp only [go_sem, hr]; done) | (simp [go_sem, hr]; done) | (simp only [go_sem, hr]; (repeat' (with_reducible apply And.intro)) <;> first | (left; simp; done) | (right; simp [go_sem]; done))) (by exact less_refl _) (Nat.le_refl _) ?_
    rintro ⟨j, s2, nx⟩ ⟨hlen2, hj, hn2, hw, -⟩
    show DW _ _ _ _ { n := _, t := tab _, h := _, nx := _, e := _ }
    simp only [List.cons_append, List.nil_append]
    have g1 : j < s2.length := by omega
    have g2 : j - 1 < s2.length := by omega
    have e0 : ((j : Int) - 1).toNat = j - 1 := by omega
    refine dw_seq ?_
    refine dw_step (C := Rn) (by simp only [go_sem, hr, e0, row_at g1, row_at g2]; exact rfl) (fun _ => ⟨mix, by kernel_rfl, by kernel_rfl⟩) ?_ ?_
    · try simp only [go_sem, hr, e0, row_at g1, row_at g2]
      all_goals (first | done | ((repeat' (with_reducible apply And.intro)) <;> first | exact cmppl_ct _ _ | (intros; exact cmppl_ct s2[j]! s2[j - 1]!) | (intro g; have g := of_decide_eq_true g; omega) | (intros; simp_all; done)))
    refine dw_cond (by simp only [go_sem, hr, e0, row_at g1, row_at g2]; exact rfl) (fun c2 => ?_) (fun c2 => ?_)
    · skip
      simp only [Bool.and_eq_true, decide_eq_true_eq] at c2
      have c2 : a < j ∧ plC s2[j]! s2[j - 1]! < 0 := ⟨by omega, c2.2⟩
      have g3 : j ≠ j - 1 := by omega
      refine dw_skip ?_
      show DW _ _ _ _ _
      refine dw_seq ?_
      refine dw_block ?_
      refine dw_reg (C := Rn) (by simp only [go_sem, hr, e0, row_at g1, row_at g2, row_set g2 g3]; exact rfl) (fun _ => ⟨mix, by kernel_rfl, by kernel_rfl⟩) ?_ ?_
      · try simp only [go_sem, hr, e0, row_at g1, row_at g2, row_set g2 g3]
        all_goals (first | done | (repeat' (with_reducible apply And.intro)) <;> first | omega | (with_reducible assumption) | (intros; omega) | (intros; simp only [decide_eq_true_eq, decide_eq_false_iff_not, Bool.or_eq_true, Bool.and_eq_true, Bool.or_eq_false_iff, Bool.not_eq_true', Bool.not_eq_false'] at *; omega) | (simp_all; done) | (simp_all; omega))
      show DW _ _ _ _ _
      refine dw_reg (C := Rn) (by simp only [go_sem, hr, e0, row_at g1, row_at g2, row_set g2 g3]; exact rfl) (fun h => by cases h) ?_ ?_
      · try simp only [go_sem, hr, e0, row_at g1, row_at g2, row_set g2 g3]
        all_goals (first | done | (repeat' (with_reducible apply And.intro)) <;> first | omega | (with_reducible assumption) | (intros; omega) | (intros; simp only [decide_eq_true_eq, decide_eq_false_iff_not, Bool.or_eq_true, Bool.and_eq_true, Bool.or_eq_false_iff, Bool.not_eq_true', Bool.not_eq_false'] at *; omega) | (simp_all; done) | (simp_all; omega))
      show ∃ _, _
      refine ⟨(j - 1, sw s2 j (j - 1), _), ⟨(by first | (rw [sw_len]; exact hlen2) | (dsimp only; rw [sw_len]; exact hlen2)), (by first | (first | omega | (with_reducible assumption) | (simp_all; done) | (simp_all; omega)) | (dsimp only; first | omega | (with_reducible assumption) | (simp_all; done) | (simp_all; omega))), (by first | (first | omega | (with_reducible assumption) | (simp_all; done) | (simp_all; omega)) | (dsimp only; first | omega | (with_reducible assumption) | (simp_all; done) | (simp_all; omega))), (by first | (rw [hw, insIn_eq, if_pos c2]) | (dsimp only; rw [hw, insIn_eq, if_pos c2])), trivial⟩, (by show (_ : Nat) < _; first | omega | simp_all; omega), ?_, ?_, ?_, Nat.le_refl _, rfl, rfl⟩
      · try simp only [go_sem, hr, e0, row_at g1, row_at g2, row_set g2 g3]
        all_goals (first | done | (simp; done) | (simp; omega) | ((repeat' (with_reducible apply And.intro)) <;> first | (left; simp; done) | (right; simp [go_sem]; done)))
      · try simp only [go_sem, hr, e0, row_at g1, row_at g2, row_set g2 g3]
        all_goals (first | done | (simp; done) | (simp; omega) | ((repeat' (with_reducible apply And.intro)) <;> first | (left; simp; done) | (right; simp [go_sem]; done)))
      · skip
        intro q; left
        rw [upd_upd, upd_upd, rows_sw]
    · skip
      have c2 : ¬ (a < j ∧ plC s2[j]! s2[j - 1]! < 0) := by intro q; rw [Bool.and_eq_false_iff, decide_eq_false_iff_not, decide_eq_false_iff_not] at c2; exact c2.elim (fun k => k (by omega)) fun k => k q.2
      refine dw_exit ?_
      show DW _ _ _ _ _
      refine dw_reg (C := Rn) (by simp only [go_sem, hr, e0, row_at g1, row_at g2]; exact rfl) (fun h => by cases h) ?_ ?_
      · try simp only [go_sem, hr, e0, row_at g1, row_at g2]
        all_goals (first | done | (repeat' (with_reducible apply And.intro)) <;> first | omega | (with_reducible assumption) | (intros; omega) | (intros; simp only [decide_eq_true_eq, decide_eq_false_iff_not, Bool.or_eq_true, Bool.and_eq_true, Bool.or_eq_false_iff, Bool.not_eq_true', Bool.not_eq_false'] at *; omega) | (simp_all; done) | (simp_all; omega))
      show ∃ _, _
      refine ⟨(i + 1, insIn plC s1 a i, _), ⟨(by first | (rw [insIn_len]; exact hlen) | (dsimp only; rw [insIn_len]; exact hlen)), (by first | (first | omega | (with_reducible assumption) | (simp_all; done) | (simp_all; omega)) | (dsimp only; first | omega | (with_reducible assumption) | (simp_all; done) | (simp_all; omega))), (by first | (first | omega | (with_reducible assumption) | (simp_all; done) | (simp_all; omega)) | (dsimp only; first | omega | (with_reducible assumption) | (simp_all; done) | (simp_all; omega))), (by first | (rw [hv, insOut_eq, if_pos hk2]) | (dsimp only; rw [hv, insOut_eq, if_pos hk2])), trivial⟩, (by show (_ : Nat) < _; first | omega | simp_all; omega), ?_, ?_, ?_, Nat.le_refl _, rfl, rfl⟩
      · try simp only [go_sem, hr, e0, row_at g1, row_at g2]
        all_goals (first | done | (simp; done) | (simp; omega) | ((repeat' (with_reducible apply And.intro)) <;> first | (left; simp; done) | (right; simp [go_sem]; done)))
      · try simp only [go_sem, hr, e0, row_at g1, row_at g2]
        all_goals (first | done | (simp; done) | (simp; omega) | ((repeat' (with_reducible apply And.intro)) <;> first | (left; simp; done) | (right; simp [go_sem]; done)))
      · skip
        rw [hw, insIn_eq, if_neg c2]; exact less_refl _
  · skip
    try simp only [decide_eq_true_eq, decide_eq_false_iff_not, Bool.or_eq_true, Bool.and_eq_true, Bool.or_eq_false_iff, Bool.not_eq_true', Bool.not_eq_false', Bool.and_eq_false_iff, beq_iff_eq, beq_eq_false_iff_ne, bne_iff_ne, bne_eq_false_iff_eq, ne_eq] at c1
    refine dw_exit ?_
    refine ⟨(by first | exact .inl rfl | trivial | simp), ?_, ?_⟩
    · simp only [go_sem, hr]
    refine ⟨upd h r (some ⟨24, (s1).map RSet.d⟩), _, ?_, Nat.le_refl _, ?_⟩
    · exact fun _ => .inl rfl
    · try simp only [go_sem, hr]
      all_goals (first | exact ⟨rfl, by rw [isort, hv, insOut_eq, if_neg (by omega)], by omega⟩ | exact ⟨by rw [isort, hv, insOut_eq, if_neg (by omega)], by omega⟩)
theorem bo63 : hasBody Tryd.prog 63 = true := by kernel_rfl
theorem stable_ct (s : List RSet) (r : Nat) (h : H) (n : Nat) (hl : s.length < 20) (hr : h r = some ⟨24, (s).map RSet.d⟩) : RCt Tryd.prog 63 [.mrow r 0 s.length, .i s.length, .fn (.func 27) [] []] h n (fun d h' n' => d = .tuple [] ∧ h' = upd h r (some ⟨24, (isort plC s 0 s.length).map RSet.d⟩) ∧ n ≤ n') := by
  refine rct_of_dw Tryd.func63 rfl bo63 (by simp [Tryd.f63]) (fun hnone => ?_)
  unfold Tryd.f63
  refine dw_step (C := Rn) (by simp only [go_sem, hr]; exact rfl) (fun h => by cases h) ?_ ?_
  · try simp only [go_sem, hr]
    all_goals (first | done | (repeat' (with_reducible apply And.intro)) <;> first | omega | (with_reducible assumption) | (intros; omega) | (intros; simp only [decide_eq_true_eq, decide_eq_false_iff_not, Bool.or_eq_true, Bool.and_eq_true, Bool.or_eq_false_iff, Bool.not_eq_true', Bool.not_eq_false'] at *; omega) | (simp_all; done) | (simp_all; omega))
  refine dw_step (C := Rn) (by simp only [go_sem, hr]; exact rfl) (fun h => by cases h) ?_ ?_
  · try simp only [go_sem, hr]
    all_goals (first | done | (repeat' (with_reducible apply And.intro)) <;> first | omega | (with_reducible assumption) | (intros; omega) | (intros; simp only [decide_eq_true_eq, decide_eq_false_iff_not, Bool.or_eq_true, Bool.and_eq_true, Bool.or_eq_false_iff, Bool.not_eq_true', Bool.not_eq_false'] at *; omega) | (simp_all; done) | (simp_all; omega))
  refine dw_seq ?_
  refine dw_block ?_
  refine dw_loop_h (α := Nat) [0, 1, 2, 6] (fun nx => (n ≤ nx) ∧ True) (fun nx => 0) (fun nx => [(7, .i 0), (8, .i 20)]) (fun nx => h) (fun nx => nx) _ (by simp only [List.map_cons, List.map_nil, go_sem, hr]; exact rfl) ⟨(by first | (first | omega | (with_reducible assumption) | (simp_all; done) | (simp_all; omega)) | (dsimp only; first | omega | (with_reducible assumption) | (simp_all; done) | (simp_all; omega))), trivial⟩ (by first | (simp only [go_sem, hr]; done) | (simp [go_sem, hr]; done) | (simp only [go_sem, hr]; (repeat' (with_reducible apply And.intro)) <;> first | (left; simp; done) | (right; simp [go_sem]; done))) (by exact less_refl _) (Nat.le_refl _) ?_
  rintro nx ⟨hn, -⟩
  show DW _ _ _ _ { n := _, t := tab _, h := _, nx := _, e := _ }
  simp only [List.cons_append, List.nil_append]
  refine dw_seq ?_
  refine dw_step (C := Rn) (by simp only [go_sem, hr]; exact rfl) (fun h => by cases h) ?_ ?_
  · try simp only [go_sem, hr]
    all_goals (first | done | (repeat' (with_reducible apply And.intro)) <;> first | omega | (with_reducible assumption) | (intros; omega) | (intros; simp only [decide_eq_true_eq, decide_eq_false_iff_not, Bool.or_eq_true, Bool.and_eq_true, Bool.or_eq_false_iff, Bool.not_eq_true', Bool.not_eq_false'] at *; omega) | (simp_all; done) | (simp_all; omega))
  refine dw_cond (by simp only [go_sem, hr]; exact rfl) (fun c1 => ?_) (fun c1 => ?_)
  · skip
    try simp only [decide_eq_true_eq, decide_eq_false_iff_not, Bool.or_eq_true, Bool.and_eq_true, Bool.or_eq_false_iff, Bool.not_eq_true', Bool.not_eq_false', Bool.and_eq_false_iff, beq_iff_eq, beq_eq_false_iff_ne, bne_iff_ne, bne_eq_false_iff_eq, ne_eq] at c1
    exfalso; omega
  · skip
    try simp only [decide_eq_true_eq, decide_eq_false_iff_not, Bool.or_eq_true, Bool.and_eq_true, Bool.or_eq_false_iff, Bool.not_eq_true', Bool.not_eq_false', Bool.and_eq_false_iff, beq_iff_eq, beq_eq_false_iff_ne, bne_iff_ne, bne_eq_false_iff_eq, ne_eq] at c1
    refine dw_exit ?_
    show DW _ _ _ _ _
    refine dw_seq (dw_call (C := Rn) 4 (R := _) (arr_at rfl) rfl rfl (by simp only [List.take_succ_cons, List.take_zero, go_sem, hr]; exact rfl) ?_ ?_ (by simp only [go_sem, hr]; exact rfl) (by simp only [go_sem, hr]) (by simp only [go_sem, hr]; exact rfl) (by exact insort_ct s 0 s.length r _ _ (by omega) (by omega) (by omega) hr) ?_)
    · try simp only [go_sem, hr]
      all_goals (first | done | (repeat' (with_reducible apply And.intro)) <;> first | omega | (with_reducible assumption) | (intros; omega) | (intros; simp only [decide_eq_true_eq, decide_eq_false_iff_not, Bool.or_eq_true, Bool.and_eq_true, Bool.or_eq_false_iff, Bool.not_eq_true', Bool.not_eq_false'] at *; omega) | (simp_all; done) | (simp_all; omega))
    · try simp only [go_sem, hr]
      all_goals (first | done | rfl | decide | simp)
    rintro res h2 n2 ⟨rfl, rfl, a1⟩
    try dsimp only at a1
    refine ⟨⟨_, _, _, _, _, _⟩, by simp only [List.drop_succ_cons, List.drop_zero, S.put, go_sem, hr]; exact rfl, ?_, ?_⟩
    · try simp only [go_sem, hr]
      all_goals (first | done | (repeat' (with_reducible apply And.intro)) <;> first | omega | (with_reducible assumption) | (intros; omega) | (intros; simp only [decide_eq_true_eq, decide_eq_false_iff_not, Bool.or_eq_true, Bool.and_eq_true, Bool.or_eq_false_iff, Bool.not_eq_true', Bool.not_eq_false'] at *; omega) | (simp_all; done) | (simp_all; omega))
    try simp only [clear_eq]
    show DW _ _ _ _ _
    refine dw_block ?_
    refine dw_loop_h (α := Nat) [0, 1, 2] (fun nx => (n ≤ nx) ∧ True) (fun nx => 0) (fun nx => [(6, .i 20), (7, .i 0), (8, .i 20)]) (fun nx => upd h r (some ⟨24, (isort plC s 0 s.length).map RSet.d⟩)) (fun nx => nx) _ (by simp only [List.map_cons, List.map_nil, go_sem, hr]; exact rfl) ⟨(by first | (first | omega | (with_reducible assumption) | (simp_all; done) | (simp_all; omega)) | (dsimp only; first | omega | (with_reducible assumption) | (simp_all; done) | (simp_all; omega))), trivial⟩ (by first | (simp only [go_sem, hr]; done) | (simp [go_sem, hr]; done) | (simp only [go_sem, hr]; (repeat' (with_reducible apply And.intro)) <;> first | (left; simp; done) | (right; simp [go_sem]; done))) (by exact less_refl _) (Nat.le_refl _) ?_
    rintro nx ⟨hn3, -⟩
    show DW _ _ _ _ { n := _, t := tab _, h := _, nx := _, e := _ }
    simp only [List.cons_append, List.nil_append]
    refine dw_seq ?_
    refine dw_step (C := Rn) (by simp only [go_sem, hr]; exact rfl) (fun h => by cases h) ?_ ?_
    · try simp only [go_sem, hr]
      all_goals (first | done | (repeat' (with_reducible apply And.intro)) <;> first | omega | (with_reducible assumption) | (intros; omega) | (intros; simp only [decide_eq_true_eq, decide_eq_false_iff_not, Bool.or_eq_true, Bool.and_eq_true, Bool.or_eq_false_iff, Bool.not_eq_true', Bool.not_eq_false'] at *; omega) | (simp_all; done) | (simp_all; omega))
    refine dw_cond (by simp only [go_sem, hr]; exact rfl) (fun c2 => ?_) (fun c2 => ?_)
    · skip
      try simp only [decide_eq_true_eq, decide_eq_false_iff_not, Bool.or_eq_true, Bool.and_eq_true, Bool.or_eq_false_iff, Bool.not_eq_true', Bool.not_eq_false', Bool.and_eq_false_iff, beq_iff_eq, beq_eq_false_iff_ne, bne_iff_ne, bne_eq_false_iff_eq, ne_eq] at c2
      exfalso; omega
    · skip
      try simp only [decide_eq_true_eq, decide_eq_false_iff_not, Bool.or_eq_true, Bool.and_eq_true, Bool.or_eq_false_iff, Bool.not_eq_true', Bool.not_eq_false', Bool.and_eq_false_iff, beq_iff_eq, beq_eq_false_iff_ne, bne_iff_ne, bne_eq_false_iff_eq, ne_eq] at c2
      refine dw_exit ?_
      refine ⟨(by first | exact .inl rfl | trivial | simp), ?_, ?_⟩
      · simp only [go_sem, hr]
      refine ⟨upd h r (some ⟨24, (isort plC s 0 s.length).map RSet.d⟩), _, ?_, Nat.le_refl _, ?_⟩
      · exact fun _ => .inl rfl
      · try simp only [go_sem, hr]
        all_goals (first | omega | (simp; omega))
theorem bo30 : hasBody Tryd.prog 30 = true := by kernel_rfl
theorem sortst_ct (s : List RSet) (r : Nat) (h : H) (n : Nat) (hl : s.length < 20) (hr : h r = some ⟨24, (s).map RSet.d⟩) : RCt Tryd.prog 30 [.mrow r 0 s.length, .fn (.func 27) [] []] h n (fun d h' n' => d = .tuple [] ∧ h' = upd h r (some ⟨24, (isort plC s 0 s.length).map RSet.d⟩) ∧ n ≤ n') := by
  refine rct_of_dw Tryd.func30 rfl bo30 (by simp [Tryd.f30]) (fun hnone => ?_)
  unfold Tryd.f30
  refine dw_call (C := Rn) 4 (R := _) (arr_at rfl) rfl rfl (by simp only [List.take_succ_cons, List.take_zero, go_sem, hr]; exact rfl) ?_ ?_ (by simp only [go_sem, hr]; exact rfl) (by simp only [go_sem, hr]) (by simp only [go_sem, hr]; exact rfl) (by exact stable_ct s r _ _ hl hr) ?_
  · try simp only [go_sem, hr]
    all_goals (first | done | (repeat' (with_reducible apply And.intro)) <;> first | omega | (with_reducible assumption) | (intros; omega) | (intros; simp only [decide_eq_true_eq, decide_eq_false_iff_not, Bool.or_eq_true, Bool.and_eq_true, Bool.or_eq_false_iff, Bool.not_eq_true', Bool.not_eq_false'] at *; omega) | (simp_all; done) | (simp_all; omega))
  · try simp only [go_sem, hr]
    all_goals (first | done | rfl | decide | simp)
  rintro res h2 n2 ⟨rfl, rfl, a1⟩
  try dsimp only at a1
  refine ⟨⟨_, _, _, _, _, _⟩, by simp only [List.drop_succ_cons, List.drop_zero, S.put, go_sem, hr]; exact rfl, ?_, ?_⟩
  · try simp only [go_sem, hr]
    all_goals (first | done | (repeat' (with_reducible apply And.intro)) <;> first | omega | (with_reducible assumption) | (intros; omega) | (intros; simp only [decide_eq_true_eq, decide_eq_false_iff_not, Bool.or_eq_true, Bool.and_eq_true, Bool.or_eq_false_iff, Bool.not_eq_true', Bool.not_eq_false'] at *; omega) | (simp_all; done) | (simp_all; omega))
  try simp only [clear_eq]
  refine ⟨(by first | exact .inl rfl | trivial | simp), ?_, ?_⟩
  · simp only [go_sem, hr]
  refine ⟨upd h r (some ⟨24, (isort plC s 0 s.length).map RSet.d⟩), _, ?_, Nat.le_refl _, ?_⟩
  · exact fun _ => .inl rfl
  · try simp only [go_sem, hr]
    all_goals (first | omega | (simp; omega))

end Go.Proofs.YtfggmgafjabbjaaDoor
