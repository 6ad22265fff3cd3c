import Derived.Test.YtfggmgafjabbjaaDoorRcW10
namespace Go.Proofs.YtfggmgafjabbjaaDoor
open Go.DL Go.Str Go.Rec Go.Cmp Go.RowKit
set_option maxRecDepth 10000
set_option linter.unusedSimpArgs false
set_option linter.unusedVariables false
theorem rule_ldc6 {k : Nat} (h1 : 1 ≤ k) (h8 : k ≤ 8) : ∃ rest : List D, ∀ hh, ldc Tryd.prog (.v (.pointer (some ⟨0, k * 8 + 6, none⟩))) hh = .b (ruleAt k).single :: rest := by
  refine ⟨(rulesTab.drop (k * 8 + 7)).map D.v, fun hh => ?_⟩
  have : k = 1 ∨ k = 2 ∨ k = 3 ∨ k = 4 ∨ k = 5 ∨ k = 6 ∨ k = 7 ∨ k = 8 := by omega
  rcases this with e | e | e | e | e | e | e | e <;> subst e <;> rfl
theorem sw_perm {α : Type} [Inhabited α] {s : List α} {j : Nat} (h1 : 0 < j) (hj : j < s.length) : (sw s j (j - 1)).Perm s := by
  obtain ⟨i, rfl⟩ : ∃ i, j = i + 1 := ⟨j - 1, by omega⟩
  have e : s = s.take i ++ s[i]! :: ([] ++ s[i + 1]! :: s.drop (i + 2)) := by
    rw [getElem!_pos s i (by omega), getElem!_pos s (i + 1) hj, List.nil_append, ← List.drop_eq_getElem_cons, ← List.drop_eq_getElem_cons, List.take_append_drop]
  have hl : (s.take i).length = i := by simp; omega
  have := sw_app' (A := s.take i) (M := []) (B := s.drop (i + 2)) (x := s[i]!) (y := s[i + 1]!) (i := i) (j := i + 1) hl.symm (by simp; omega)
  rw [← e] at this
  rw [Nat.add_sub_cancel, this]
  conv => rhs; rw [e]
  exact List.Perm.append_left _ (List.Perm.swap _ _ _)
theorem insIn_perm {α : Type} [Inhabited α] (c : α → α → Int) (s : List α) (a j : Nat) (hj : j < s.length) : (insIn c s a j).Perm s := by
  rw [insIn_eq]
  split
  · rename_i q
    exact (insIn_perm c _ a (j - 1) (by rw [sw_len]; omega)).trans (sw_perm (by omega) hj)
  · exact .refl _
termination_by j
decreasing_by omega
theorem insOut_perm {α : Type} [Inhabited α] (c : α → α → Int) (s : List α) (a b i : Nat) (hb : b ≤ s.length) : (insOut c s a b i).Perm s := by
  rw [insOut_eq]
  split
  · rename_i q
    exact (insOut_perm c _ a b (i + 1) (by rw [insIn_len]; exact hb)).trans (insIn_perm c s a i (by omega))
  · exact .refl _
termination_by b - i
theorem all_ok {l : List RSet} (h : ∀ i, i < l.length → setOk l[i]! = true) : l.all setOk = true := by
  rw [List.all_eq_true]
  intro x hx
  obtain ⟨i, hi, rfl⟩ := List.getElem_of_mem hx
  have := h i hi
  rwa [getElem!_pos l i hi] at this
theorem not_ok {l : List RSet} {k : Nat} (hk : k < l.length) (h : setOk l[k]! = false) : l.all setOk = false := by
  rw [List.all_eq_false]
  exact ⟨l[k], List.getElem_mem hk, by rw [getElem!_pos l k hk] at h; rw [h]; simp⟩
theorem all_of {l : List RSet} (h : l.all setOk = true) : ∀ x ∈ l, SetOk x := fun x hx => (setOk_iff x).1 (List.all_eq_true.1 h x hx)
theorem nodup_take {l : List RSet} {k : Nat} (h : (l.flatMap RSet.data).Nodup) : ((l.take k).flatMap RSet.data).Nodup ∧ ((l.drop k).flatMap RSet.data).Nodup := by
  conv at h => rw [← List.take_append_drop k l, List.flatMap_append]
  exact ⟨(List.nodup_append.1 h).1, (List.nodup_append.1 h).2.1⟩
theorem perm_data {l m : List RSet} (p : l.Perm m) : (l.flatMap RSet.data).Perm (m.flatMap RSet.data) := p.flatMap_right _
theorem ctp_stop {s : List RSet} {c : Nat} (h : (decide ((c : Int) < s.length) && (s[c]!.ty == s[0]!.ty) && (s[c]!.name == s[0]!.name)) = false) : cntP s c = c := by
  rw [cntP_eq, if_neg]
  rintro ⟨h1, h2, h3⟩
  rw [h2, h3, decide_eq_true (by omega)] at h
  simp at h
theorem ctp_go {s : List RSet} {c : Nat} (h : (decide ((c : Int) < s.length) && (s[c]!.ty == s[0]!.ty) && (s[c]!.name == s[0]!.name)) = true) : c < s.length ∧ cntP s c = cntP s (c + 1) := by
  simp only [Bool.and_eq_true, decide_eq_true_eq, beq_iff_eq] at h
  have hc : c < s.length := by omega
  refine ⟨hc, ?_⟩
  conv => lhs; rw [cntP_eq]
  rw [if_pos ⟨hc, h.1.2, h.2⟩]
theorem bo31 : hasBody Tryd.prog 31 = true := by kernel_rfl
theorem runite_ct (l : List RSet) (h0 : 0 < l.length) (hl : l.length ≤ 100) (hd : ∀ x ∈ l, x.data.length ≤ 100) (hnd : (l.flatMap RSet.data).Nodup) : PureCt Tryd.prog 31 [.list false (l.map RSet.d)] (.agg (uniteF l).d) := by
  refine pure_of_dw Tryd.func31 rfl bo31 (by simp [go_sem, D.nr, nrs, nrr]) (by simp [Tryd.f31]) ?_
  unfold Tryd.f31
  simp only [init_eq]
  have hdk : ∀ k, k < l.length → l[k]!.data.length ≤ 100 := fun k hk => hd _ (by rw [getElem!_pos l k hk]; exact List.getElem_mem hk)
  refine dw_step (C := Rn) (by simp only [go_sem]; exact rfl) (fun h => by cases h) ?_ ?_
  · try simp only [go_sem]
    all_goals (first | done | (repeat' (with_reducible apply And.intro)) <;> first | omega | (with_reducible assumption) | (intros; omega) | (intros; simp only [decide_eq_true_eq, decide_eq_false_iff_not, Bool.or_eq_true, Bool.and_eq_true, Bool.or_eq_false_iff, Bool.not_eq_true', Bool.not_eq_false'] at *; omega) | (simp_all; done) | (simp_all; omega))
  refine dw_step (C := Rn) (by simp only [go_sem, getD_set h0]; exact rfl) (fun h => by cases h) ?_ ?_
  · try simp only [go_sem, getD_set h0]
    all_goals (first | done | (repeat' (with_reducible apply And.intro)) <;> first | omega | (with_reducible assumption) | (intros; omega) | (intros; simp only [decide_eq_true_eq, decide_eq_false_iff_not, Bool.or_eq_true, Bool.and_eq_true, Bool.or_eq_false_iff, Bool.not_eq_true', Bool.not_eq_false'] at *; omega) | (simp_all; done) | (simp_all; omega))
  refine dw_step (C := Rn) (by simp only [go_sem]; exact rfl) (fun h => by cases h) ?_ ?_
  · try simp only [go_sem]
    all_goals (first | done | (repeat' (with_reducible apply And.intro)) <;> first | omega | (with_reducible assumption) | (intros; omega) | (intros; simp only [decide_eq_true_eq, decide_eq_false_iff_not, Bool.or_eq_true, Bool.and_eq_true, Bool.or_eq_false_iff, Bool.not_eq_true', Bool.not_eq_false'] at *; omega) | (simp_all; done) | (simp_all; omega))
  refine dw_seq ?_
  refine dw_ownj 4 3 24 48 (by simp only [go_sem]; exact rfl) (by rfl) (by simp only [go_sem]) ?_
  simp only [List.set_cons_succ, List.set_cons_zero]
  refine dw_step (C := Rn) (by simp only [go_sem]; exact rfl) (fun h => by cases h) ?_ ?_
  · try simp only [go_sem]
    all_goals (first | done | (repeat' (with_reducible apply And.intro)) <;> first | omega | (with_reducible assumption) | (intros; omega) | (intros; simp only [decide_eq_true_eq, decide_eq_false_iff_not, Bool.or_eq_true, Bool.and_eq_true, Bool.or_eq_false_iff, Bool.not_eq_true', Bool.not_eq_false'] at *; omega) | (simp_all; done) | (simp_all; omega))
  refine dw_block ?_
  refine dw_loop_fix (α := (Nat) × (Int) × (List Dat) × (Nat) × Nat) [2, 3, 10, 11] (fun ⟨k, life, out, r, nx⟩ => (k ≤ l.length) ∧ (r < nx) ∧ (r ≠ 0 ∧ r ≠ 4) ∧ (4 < nx) ∧ (out.length ≤ k * 100) ∧ (life = lifeOf (l.take k) l[0]!.life) ∧ (out = (l.take k).flatMap RSet.data) ∧ True) (fun ⟨k, life, out, r, nx⟩ => l.length - k) (fun ⟨k, life, out, r, nx⟩ => [(12, .i k)]) (fun ⟨k, life, out, r, nx⟩ => [(0, ⟨24, [[.v (.string (bs [])), .i 0, .i 0, .list true []]]⟩), (4, ⟨24, [[.v (.string (bs (l[0]!.name))), .i (l[0]!.ty), .i (life), .mrow r 0 out.length]]⟩), (r, ⟨48, (out).map Dat.d⟩)]) (fun ⟨k, life, out, r, nx⟩ => nx) (0, l[0]!.life, [], 8, _) (by simp only [List.map_cons, List.map_nil, go_sem]; exact rfl) ⟨(by first | (first | omega | (with_reducible assumption) | (simp_all; done) | (simp_all; omega)) | (dsimp only; first | omega | (with_reducible assumption) | (simp_all; done) | (simp_all; omega))), (by first | (first | omega | (with_reducible assumption) | (simp_all; done) | (simp_all; omega)) | (dsimp only; first | omega | (with_reducible assumption) | (simp_all; done) | (simp_all; omega))), (by first | (first | omega | (with_reducible assumption) | (simp_all; done) | (simp_all; omega)) | (dsimp only; first | omega | (with_reducible assumption) | (simp_all; done) | (simp_all; omega))), (by first | (first | omega | (with_reducible assumption) | (simp_all; done) | (simp_all; omega)) | (dsimp only; first | omega | (with_reducible assumption) | (simp_all; done) | (simp_all; omega))), (by first | (simp) | (dsimp only; simp)), (by first | (rfl) | (dsimp only; rfl)), (by first | (rfl) | (dsimp only; rfl)), trivial⟩ (by first | (simp only [go_sem]; done) | (simp [go_sem]; done) | (simp only [go_sem]; (repeat' (with_reducible apply And.intro)) <;> first | (left; simp; done) | (right; simp [go_sem]; done))) (by first | (simp only [go_sem]; done) | simp [go_sem]) (Nat.le_refl _) ?_
  rintro ⟨k, life, out, r, nx⟩ ⟨hk, hr, hrn, hx, ho, hlf, hout, -⟩
  show DW _ _ _ _ { n := _, t := tab _, h := _, nx := _, e := _ }
  simp only [List.cons_append, List.nil_append]
  have n0 : 0 < nx := by omega
  have z0_r : (0 = r) = False := eq_false (by omega)
  have yr_0 : (r = 0) = False := eq_false (by omega)
  have z4_r : (4 = r) = False := eq_false (by omega)
  have yr_4 : (r = 4) = False := eq_false (by omega)
  refine dw_step (C := Rn) (by simp only [go_sem, hr, hx, n0, z0_r, yr_0, z4_r, yr_4]; exact rfl) (fun h => by cases h) ?_ ?_
  · try simp only [go_sem, hr, hx, n0, z0_r, yr_0, z4_r, yr_4]
    all_goals (first | done | (repeat' (with_reducible apply And.intro)) <;> first | omega | (with_reducible assumption) | (intros; omega) | (intros; simp only [decide_eq_true_eq, decide_eq_false_iff_not, Bool.or_eq_true, Bool.and_eq_true, Bool.or_eq_false_iff, Bool.not_eq_true', Bool.not_eq_false'] at *; omega) | (simp_all; done) | (simp_all; omega))
  refine dw_seq ?_
  refine dw_cond (by simp only [go_sem, hr, hx, n0, z0_r, yr_0, z4_r, yr_4]; exact rfl) (fun c1 => ?_) (fun c1 => ?_)
  · skip
    have hk2 : k < l.length := by simpa using c1
    have hdk2 := hdk k hk2
    refine dw_skip ?_
    show DW _ _ _ _ _
    refine dw_seq ?_
    refine dw_block ?_
    refine dw_step (C := Rn) (by simp only [go_sem, hr, hx, n0, z0_r, yr_0, z4_r, yr_4, getD_set hk2]; exact rfl) (fun h => by cases h) ?_ ?_
    · try simp only [go_sem, hr, hx, n0, z0_r, yr_0, z4_r, yr_4, getD_set hk2]
      all_goals (first | done | (repeat' (with_reducible apply And.intro)) <;> first | omega | (with_reducible assumption) | (intros; omega) | (intros; simp only [decide_eq_true_eq, decide_eq_false_iff_not, Bool.or_eq_true, Bool.and_eq_true, Bool.or_eq_false_iff, Bool.not_eq_true', Bool.not_eq_false'] at *; omega) | (simp_all; done) | (simp_all; omega))
    refine dw_step (C := Rn) (by simp only [go_sem, hr, hx, n0, z0_r, yr_0, z4_r, yr_4, getD_set hk2]; exact rfl) (fun h => by cases h) ?_ ?_
    · try simp only [go_sem, hr, hx, n0, z0_r, yr_0, z4_r, yr_4, getD_set hk2]
      all_goals (first | done | (repeat' (with_reducible apply And.intro)) <;> first | omega | (with_reducible assumption) | (intros; omega) | (intros; simp only [decide_eq_true_eq, decide_eq_false_iff_not, Bool.or_eq_true, Bool.and_eq_true, Bool.or_eq_false_iff, Bool.not_eq_true', Bool.not_eq_false'] at *; omega) | (simp_all; done) | (simp_all; omega))
    refine dw_reg (C := Rn) (by simp only [go_sem, hr, hx, n0, z0_r, yr_0, z4_r, yr_4, getD_set hk2]; exact rfl) (fun h => by cases h) ?_ ?_
    · try simp only [go_sem, hr, hx, n0, z0_r, yr_0, z4_r, yr_4, getD_set hk2]
      all_goals (first | done | (repeat' (with_reducible apply And.intro)) <;> first | omega | (with_reducible assumption) | (intros; omega) | (intros; simp only [decide_eq_true_eq, decide_eq_false_iff_not, Bool.or_eq_true, Bool.and_eq_true, Bool.or_eq_false_iff, Bool.not_eq_true', Bool.not_eq_false'] at *; omega) | (simp_all; done) | (simp_all; omega))
    show DW _ _ _ _ _
    refine dw_reg (C := Rn) (by simp only [go_sem, hr, hx, n0, z0_r, yr_0, z4_r, yr_4, getD_set hk2]; exact rfl) (fun h => by cases h) ?_ ?_
    · try simp only [go_sem, hr, hx, n0, z0_r, yr_0, z4_r, yr_4, getD_set hk2]
      all_goals (first | done | (repeat' (with_reducible apply And.intro)) <;> first | omega | (with_reducible assumption) | (intros; omega) | (intros; simp only [decide_eq_true_eq, decide_eq_false_iff_not, Bool.or_eq_true, Bool.and_eq_true, Bool.or_eq_false_iff, Bool.not_eq_true', Bool.not_eq_false'] at *; omega) | (simp_all; done) | (simp_all; omega))
    show ∃ _, _
    refine ⟨(k + 1, min life l[k]!.life, out ++ l[k]!.data, (nx + 16), _), ⟨(by first | (first | omega | (with_reducible assumption) | (simp_all; done) | (simp_all; omega)) | (dsimp only; first | omega | (with_reducible assumption) | (simp_all; done) | (simp_all; omega))), (by first | (first | omega | (with_reducible assumption) | (simp_all; done) | (simp_all; omega)) | (dsimp only; first | omega | (with_reducible assumption) | (simp_all; done) | (simp_all; omega))), (by first | (first | omega | (with_reducible assumption) | (simp_all; done) | (simp_all; omega)) | (dsimp only; first | omega | (with_reducible assumption) | (simp_all; done) | (simp_all; omega))), (by first | (first | omega | (with_reducible assumption) | (simp_all; done) | (simp_all; omega)) | (dsimp only; first | omega | (with_reducible assumption) | (simp_all; done) | (simp_all; omega))), (by first | (have := hdk k hk2; rw [List.length_append]; omega) | (dsimp only; have := hdk k hk2; rw [List.length_append]; omega)), (by first | (rw [take_life hk2, ← hlf]) | (dsimp only; rw [take_life hk2, ← hlf])), (by first | (rw [take_data hk2, ← hout]) | (dsimp only; rw [take_data hk2, ← hout])), trivial⟩, (by show (_ : Nat) < _; first | omega | simp_all; omega), ?_, ?_, ?_, Nat.le_refl _, rfl, rfl⟩
    · try simp only [go_sem, hr, hx, n0, z0_r, yr_0, z4_r, yr_4, getD_set hk2]
      all_goals (first | done | (simp; done) | (simp; omega) | ((repeat' (with_reducible apply And.intro)) <;> first | (left; simp; done) | (right; simp [go_sem]; done)))
    · try simp only [go_sem, hr, hx, n0, z0_r, yr_0, z4_r, yr_4, getD_set hk2]
      all_goals (first | done | (simp; done) | (simp; omega) | ((repeat' (with_reducible apply And.intro)) <;> first | (left; simp; done) | (right; simp [go_sem]; done)))
    · try simp only [go_sem, hr, hx, n0, z0_r, yr_0, z4_r, yr_4, getD_set hk2]
      all_goals (first | done | (simp; done) | (simp; omega) | ((repeat' (with_reducible apply And.intro)) <;> first | (left; simp; done) | (right; simp [go_sem]; done)))
  · skip
    have hk3 : k = l.length := by have : ¬ k < l.length := (by simpa using c1); omega
    refine dw_exit ?_
    show DW _ _ _ _ _
    refine dw_seq (dw_call (C := Rn) 2 (R := _) (arr_at rfl) rfl rfl (by simp only [List.take_succ_cons, List.take_zero, go_sem, hr, hx, n0, z0_r, yr_0, z4_r, yr_4]; exact rfl) ?_ ?_ (by simp only [go_sem, hr, hx, n0, z0_r, yr_0, z4_r, yr_4]; exact rfl) (by simp only [go_sem, hr, hx, n0, z0_r, yr_0, z4_r, yr_4]) (by simp only [go_sem, hr, hx, n0, z0_r, yr_0, z4_r, yr_4]; exact rfl) (by exact sortD out _ _ r (by omega) (by simp only [go_sem, z0_r, yr_0, z4_r, yr_4])) ?_)
    · try simp only [go_sem, hr, hx, n0, z0_r, yr_0, z4_r, yr_4]
      all_goals (first | done | (repeat' (with_reducible apply And.intro)) <;> first | omega | (with_reducible assumption) | (intros; omega) | (intros; simp only [decide_eq_true_eq, decide_eq_false_iff_not, Bool.or_eq_true, Bool.and_eq_true, Bool.or_eq_false_iff, Bool.not_eq_true', Bool.not_eq_false'] at *; omega) | (simp_all; done) | (simp_all; omega))
    · try simp only [go_sem, hr, hx, n0, z0_r, yr_0, z4_r, yr_4]
      all_goals (first | done | rfl | decide | simp)
    rintro res h2 n2 ⟨rfl, rfl, s', hp, hso, rfl⟩
    have hls := hp.length_eq
    have hst := strict_of hso (hp.nodup_iff.2 (by rw [hout, hk3, List.take_length]; exact hnd))
    refine ⟨⟨_, _, _, _, _, _⟩, by simp only [List.drop_succ_cons, List.drop_zero, S.put, go_sem, hr, hx, n0, z0_r, yr_0, z4_r, yr_4]; exact rfl, ?_, ?_⟩
    · try simp only [go_sem, hr, hx, n0, z0_r, yr_0, z4_r, yr_4]
      all_goals (first | done | (repeat' (with_reducible apply And.intro)) <;> first | omega | (with_reducible assumption) | (intros; omega) | (intros; simp only [decide_eq_true_eq, decide_eq_false_iff_not, Bool.or_eq_true, Bool.and_eq_true, Bool.or_eq_false_iff, Bool.not_eq_true', Bool.not_eq_false'] at *; omega) | (simp_all; done) | (simp_all; omega))
    try simp only [clear_eq]
    show DW _ _ _ _ _
    refine dw_seq (dw_call (C := Rn) 2 (R := _) (arr_at rfl) rfl rfl (by simp only [List.take_succ_cons, List.take_zero, go_sem, hr, hx, n0, z0_r, yr_0, z4_r, yr_4]; exact rfl) ?_ ?_ (by simp only [go_sem, hr, hx, n0, z0_r, yr_0, z4_r, yr_4]; exact rfl) (by simp only [go_sem, hr, hx, n0, z0_r, yr_0, z4_r, yr_4]) (by simp only [go_sem, hr, hx, n0, z0_r, yr_0, z4_r, yr_4]; exact rfl) (by exact compact_ct s' out.length r _ _ hls.symm (by omega) (by simp only [go_sem, z0_r, yr_0, z4_r, yr_4]) hst) ?_)
    · try simp only [go_sem, hr, hx, n0, z0_r, yr_0, z4_r, yr_4]
      all_goals (first | done | (repeat' (with_reducible apply And.intro)) <;> first | omega | (with_reducible assumption) | (intros; omega) | (intros; simp only [decide_eq_true_eq, decide_eq_false_iff_not, Bool.or_eq_true, Bool.and_eq_true, Bool.or_eq_false_iff, Bool.not_eq_true', Bool.not_eq_false'] at *; omega) | (simp_all; done) | (simp_all; omega))
    · try simp only [go_sem, hr, hx, n0, z0_r, yr_0, z4_r, yr_4]
      all_goals (first | done | rfl | decide | simp)
    rintro res h2 n2 ⟨rfl, rfl, a1⟩
    try dsimp only at a1
    refine ⟨⟨_, _, _, _, _, _⟩, by simp only [List.drop_succ_cons, List.drop_zero, S.put, go_sem, hr, hx, n0, z0_r, yr_0, z4_r, yr_4]; exact rfl, ?_, ?_⟩
    · try simp only [go_sem, hr, hx, n0, z0_r, yr_0, z4_r, yr_4]
      all_goals (first | done | (repeat' (with_reducible apply And.intro)) <;> first | omega | (with_reducible assumption) | (intros; omega) | (intros; simp only [decide_eq_true_eq, decide_eq_false_iff_not, Bool.or_eq_true, Bool.and_eq_true, Bool.or_eq_false_iff, Bool.not_eq_true', Bool.not_eq_false'] at *; omega) | (simp_all; done) | (simp_all; omega))
    try simp only [clear_eq]
    show DW _ _ _ _ _
    refine dw_freezec 4 3 r (rows := s'.map Dat.d) (off := 0) (len := out.length) (by simp only [go_sem, hr, hx, n0, z0_r, yr_0, z4_r, yr_4]; exact rfl) (by rfl) (by simp only [go_sem, hr, hx, n0, z0_r, yr_0, z4_r, yr_4]; exact rfl) (by omega) (by simp [hls]) nrr_dat ?_
    simp only [List.drop_zero, ← hls, take_map_len, List.set_cons_succ, List.set_cons_zero]
    refine dw_step (C := Rn) (by simp only [go_sem, hr, hx, n0, z0_r, yr_0, z4_r, yr_4]; exact rfl) (fun h => by cases h) ?_ ?_
    · try simp only [go_sem, hr, hx, n0, z0_r, yr_0, z4_r, yr_4]
      all_goals (first | done | (repeat' (with_reducible apply And.intro)) <;> first | omega | (with_reducible assumption) | (intros; omega) | (intros; simp only [decide_eq_true_eq, decide_eq_false_iff_not, Bool.or_eq_true, Bool.and_eq_true, Bool.or_eq_false_iff, Bool.not_eq_true', Bool.not_eq_false'] at *; omega) | (simp_all; done) | (simp_all; omega))
    refine dw_ret ?_
    refine ⟨(by first | exact .inr rfl | trivial | simp), ?_, ?_⟩
    · simp only [go_sem, hr, hx, n0, z0_r, yr_0, z4_r, yr_4]
    refine ⟨2, ?_, ?_⟩
    · try simp only [go_sem, hr, hx, n0, z0_r, yr_0, z4_r, yr_4]
      all_goals (simp)
    · try simp only [go_sem, hr, hx, n0, z0_r, yr_0, z4_r, yr_4]
      all_goals (rw [uniteF, hlf, hk3, List.take_length, canon_eq hst (by rw [hout, hk3, List.take_length] at hp; exact hp)])
theorem bo12 : hasBody Tryd.prog 12 = true := by kernel_rfl
theorem rmerge_ct (l : List RSet) (h0 : 0 < l.length) (hl : l.length < 20) (hnd : (l.flatMap RSet.data).Nodup) : PureCt Tryd.prog 12 [.list false (l.map RSet.d)] (.tuple [.list false ((mergeP l).1.map RSet.d), .i (mergeP l).2]) := by
  refine pure_of_dw Tryd.func12 rfl bo12 (by simp [go_sem, D.nr, nrs, nrr]) (by simp [Tryd.f12]) ?_
  unfold Tryd.f12
  simp only [init_eq]
  refine dw_step (C := Rn) (by simp only [go_sem]; exact rfl) (fun h => by cases h) ?_ ?_
  · try simp only [go_sem]
    all_goals (first | done | (repeat' (with_reducible apply And.intro)) <;> first | omega | (with_reducible assumption) | (intros; omega) | (intros; simp only [decide_eq_true_eq, decide_eq_false_iff_not, Bool.or_eq_true, Bool.and_eq_true, Bool.or_eq_false_iff, Bool.not_eq_true', Bool.not_eq_false'] at *; omega) | (simp_all; done) | (simp_all; omega))
  refine dw_seq ?_
  refine dw_step (C := Rn) (by simp only [go_sem]; exact rfl) (fun h => by cases h) ?_ ?_
  · try simp only [go_sem]
    all_goals (first | done | (repeat' (with_reducible apply And.intro)) <;> first | omega | (with_reducible assumption) | (intros; omega) | (intros; simp only [decide_eq_true_eq, decide_eq_false_iff_not, Bool.or_eq_true, Bool.and_eq_true, Bool.or_eq_false_iff, Bool.not_eq_true', Bool.not_eq_false'] at *; omega) | (simp_all; done) | (simp_all; omega))
  refine dw_block ?_
  refine dw_loop_fix (α := (Nat) × Nat) [0, 11, 12] (fun ⟨k, nx⟩ => (k ≤ l.length) ∧ (∀ i, i < k → setOk l[i]! = true) ∧ True) (fun ⟨k, nx⟩ => l.length - k) (fun ⟨k, nx⟩ => [(13, .i k)]) (fun ⟨k, nx⟩ => []) (fun ⟨k, nx⟩ => nx) (0, _) (by simp only [List.map_cons, List.map_nil, go_sem]; exact rfl) ⟨(by first | (first | omega | (with_reducible assumption) | (simp_all; done) | (simp_all; omega)) | (dsimp only; first | omega | (with_reducible assumption) | (simp_all; done) | (simp_all; omega))), (by first | (intro i hi; omega) | (dsimp only; intro i hi; omega)), trivial⟩ (by first | (simp only [go_sem]; done) | (simp [go_sem]; done) | (simp only [go_sem]; (repeat' (with_reducible apply And.intro)) <;> first | (left; simp; done) | (right; simp [go_sem]; done))) (by first | (simp only [go_sem]; done) | simp [go_sem]) (Nat.le_refl _) ?_
  rintro ⟨k, nx⟩ ⟨hk, hv, -⟩
  show DW _ _ _ _ { n := _, t := tab _, h := _, nx := _, e := _ }
  simp only [List.cons_append, List.nil_append]
  refine dw_step (C := Rn) (by simp only [go_sem]; exact rfl) (fun h => by cases h) ?_ ?_
  · try simp only [go_sem]
    all_goals (first | done | (repeat' (with_reducible apply And.intro)) <;> first | omega | (with_reducible assumption) | (intros; omega) | (intros; simp only [decide_eq_true_eq, decide_eq_false_iff_not, Bool.or_eq_true, Bool.and_eq_true, Bool.or_eq_false_iff, Bool.not_eq_true', Bool.not_eq_false'] at *; omega) | (simp_all; done) | (simp_all; omega))
  refine dw_seq ?_
  refine dw_cond (by simp only [go_sem]; exact rfl) (fun c1 => ?_) (fun c1 => ?_)
  · skip
    have hk2 : k < l.length := by simpa using c1
    refine dw_skip ?_
    show DW _ _ _ _ _
    refine dw_seq ?_
    refine dw_block ?_
    refine dw_step (C := Rn) (by simp only [go_sem, getD_set hk2]; exact rfl) (fun h => by cases h) ?_ ?_
    · try simp only [go_sem, getD_set hk2]
      all_goals (first | done | (repeat' (with_reducible apply And.intro)) <;> first | omega | (with_reducible assumption) | (intros; omega) | (intros; simp only [decide_eq_true_eq, decide_eq_false_iff_not, Bool.or_eq_true, Bool.and_eq_true, Bool.or_eq_false_iff, Bool.not_eq_true', Bool.not_eq_false'] at *; omega) | (simp_all; done) | (simp_all; omega))
    refine dw_step (C := Rn) (by simp only [go_sem, getD_set hk2]; exact rfl) (fun h => by cases h) ?_ ?_
    · try simp only [go_sem, getD_set hk2]
      all_goals (exact rvalid_ct ⟨_, _, _, _⟩)
    refine dw_cond (by simp only [go_sem, getD_set hk2]; exact rfl) (fun c2 => ?_) (fun c2 => ?_)
    · skip
      have c2 : setOk l[k]! = false := by simpa using c2
      refine dw_step (C := Rn) (by simp only [go_sem, getD_set hk2]; exact rfl) (fun h => by cases h) ?_ ?_
      · try simp only [go_sem, getD_set hk2]
        all_goals (first | done | (repeat' (with_reducible apply And.intro)) <;> first | omega | (with_reducible assumption) | (intros; omega) | (intros; simp only [decide_eq_true_eq, decide_eq_false_iff_not, Bool.or_eq_true, Bool.and_eq_true, Bool.or_eq_false_iff, Bool.not_eq_true', Bool.not_eq_false'] at *; omega) | (simp_all; done) | (simp_all; omega))
      refine dw_ret ?_
      refine ⟨(by first | exact .inr rfl | trivial | simp), ?_, ?_⟩
      · simp only [go_sem, getD_set hk2]
      refine ⟨2, ?_, ?_⟩
      · try simp only [go_sem, getD_set hk2]
        all_goals (simp)
      · try simp only [go_sem, getD_set hk2]
        all_goals (rw [mergeP, not_ok hk2 c2]; rfl)
    · skip
      refine dw_skip ?_
      show DW _ _ _ _ _
      refine dw_reg (C := Rn) (by simp only [go_sem, getD_set hk2]; exact rfl) (fun h => by cases h) ?_ ?_
      · try simp only [go_sem, getD_set hk2]
        all_goals (first | done | (repeat' (with_reducible apply And.intro)) <;> first | omega | (with_reducible assumption) | (intros; omega) | (intros; simp only [decide_eq_true_eq, decide_eq_false_iff_not, Bool.or_eq_true, Bool.and_eq_true, Bool.or_eq_false_iff, Bool.not_eq_true', Bool.not_eq_false'] at *; omega) | (simp_all; done) | (simp_all; omega))
      show ∃ _, _
      refine ⟨(k + 1, _), ⟨(by first | (first | omega | (with_reducible assumption) | (simp_all; done) | (simp_all; omega)) | (dsimp only; first | omega | (with_reducible assumption) | (simp_all; done) | (simp_all; omega))), (by first | (intro i hi; by_cases e : i = k; subst e; simpa using c2; exact hv i (by omega)) | (dsimp only; intro i hi; by_cases e : i = k; subst e; simpa using c2; exact hv i (by omega))), trivial⟩, (by show (_ : Nat) < _; first | omega | simp_all; omega), ?_, ?_, ?_, Nat.le_refl _, rfl, rfl⟩
      · try simp only [go_sem, getD_set hk2]
        all_goals (first | done | (simp; done) | (simp; omega) | ((repeat' (with_reducible apply And.intro)) <;> first | (left; simp; done) | (right; simp [go_sem]; done)))
      · try simp only [go_sem, getD_set hk2]
        all_goals (first | done | (simp; done) | (simp; omega) | ((repeat' (with_reducible apply And.intro)) <;> first | (left; simp; done) | (right; simp [go_sem]; done)))
      · try simp only [go_sem, getD_set hk2]
        all_goals (first | done | (simp; done) | (simp; omega) | ((repeat' (with_reducible apply And.intro)) <;> first | (left; simp; done) | (right; simp [go_sem]; done)))
  · skip
    have hall := all_ok (l := l) fun i hi => hv i (by have : ¬ k < l.length := (by simpa using c1); omega)
    have hperm : (isort plC l 0 l.length).Perm l := insOut_perm plC l 0 l.length 1 (Nat.le_refl _)
    refine dw_exit ?_
    show DW _ _ _ _ _
    refine dw_seq (dw_call (C := Rn) 1 (R := _) (arr_at rfl) rfl rfl (by simp only [List.take_succ_cons, List.take_zero, go_sem]; exact rfl) ?_ ?_ (by simp only [go_sem]; exact rfl) (by simp only [go_sem]) (by simp only [go_sem]; exact rfl) (by exact clone_ct l _ _ h0 (by omega)) ?_)
    · try simp only [go_sem]
      all_goals (first | done | (repeat' (with_reducible apply And.intro)) <;> first | omega | (with_reducible assumption) | (intros; omega) | (intros; simp only [decide_eq_true_eq, decide_eq_false_iff_not, Bool.or_eq_true, Bool.and_eq_true, Bool.or_eq_false_iff, Bool.not_eq_true', Bool.not_eq_false'] at *; omega) | (simp_all; done) | (simp_all; omega))
    · try simp only [go_sem]
      all_goals (first | done | rfl | decide | simp)
    rintro res h2 n2 ⟨r1, rfl, rfl, a1, b1⟩
    try dsimp only at a1 b1
    refine ⟨⟨_, _, _, _, _, _⟩, by simp only [List.drop_succ_cons, List.drop_zero, S.put, go_sem, b1]; exact rfl, ?_, ?_⟩
    · try simp only [go_sem, b1]
      all_goals (first | done | (repeat' (with_reducible apply And.intro)) <;> first | omega | (with_reducible assumption) | (intros; omega) | (intros; simp only [decide_eq_true_eq, decide_eq_false_iff_not, Bool.or_eq_true, Bool.and_eq_true, Bool.or_eq_false_iff, Bool.not_eq_true', Bool.not_eq_false'] at *; omega) | (simp_all; done) | (simp_all; omega))
    try simp only [clear_eq]
    show DW _ _ _ _ _
    refine dw_seq (dw_call (C := Rn) 1 (R := _) (arr_at rfl) rfl rfl (by simp only [List.take_succ_cons, List.take_zero, go_sem, b1]; exact rfl) ?_ ?_ (by simp only [go_sem, b1]; exact rfl) (by simp only [go_sem, b1]) (by simp only [go_sem, b1]; exact rfl) (by exact sortst_ct l r1 _ _ hl (by simp only [go_sem])) ?_)
    · try simp only [go_sem, b1]
      all_goals (first | done | (repeat' (with_reducible apply And.intro)) <;> first | omega | (with_reducible assumption) | (intros; omega) | (intros; simp only [decide_eq_true_eq, decide_eq_false_iff_not, Bool.or_eq_true, Bool.and_eq_true, Bool.or_eq_false_iff, Bool.not_eq_true', Bool.not_eq_false'] at *; omega) | (simp_all; done) | (simp_all; omega))
    · try simp only [go_sem, b1]
      all_goals (first | done | rfl | decide | simp)
    rintro res h2 n2 ⟨rfl, rfl, a2⟩
    try dsimp only at a2
    refine ⟨⟨_, _, _, _, _, _⟩, by simp only [List.drop_succ_cons, List.drop_zero, S.put, go_sem, b1]; exact rfl, ?_, ?_⟩
    · try simp only [go_sem, b1]
      all_goals (first | done | (repeat' (with_reducible apply And.intro)) <;> first | omega | (with_reducible assumption) | (intros; omega) | (intros; simp only [decide_eq_true_eq, decide_eq_false_iff_not, Bool.or_eq_true, Bool.and_eq_true, Bool.or_eq_false_iff, Bool.not_eq_true', Bool.not_eq_false'] at *; omega) | (simp_all; done) | (simp_all; omega))
    try simp only [clear_eq]
    show DW _ _ _ _ _
    refine dw_freeze 6 r1 (by simp only [go_sem, b1]; exact rfl) (by simp only [go_sem, b1]; exact rfl) (by rw [List.length_map, hperm.length_eq]) nrr_set ?_
    refine dw_step (C := Rn) (by simp only [go_sem, b1]; exact rfl) (fun h => by cases h) ?_ ?_
    · try simp only [go_sem, b1]
      all_goals (first | done | (repeat' (with_reducible apply And.intro)) <;> first | omega | (with_reducible assumption) | (intros; omega) | (intros; simp only [decide_eq_true_eq, decide_eq_false_iff_not, Bool.or_eq_true, Bool.and_eq_true, Bool.or_eq_false_iff, Bool.not_eq_true', Bool.not_eq_false'] at *; omega) | (simp_all; done) | (simp_all; omega))
    refine dw_seq ?_
    refine dw_block ?_
    refine dw_own 7 24 (by simp only [go_sem, b1]) (by simp only [go_sem, b1]) ?_
    refine dw_loop_fix (α := (List RSet) × (List RSet) × (Nat) × Nat) [] (fun ⟨s, out, r, nx⟩ => (mloop (isort plC l 0 l.length) [] = mloop s out) ∧ (∀ x ∈ s, SetOk x) ∧ ((s.flatMap RSet.data).Nodup) ∧ (out.length + s.length ≤ 20) ∧ (r < nx) ∧ True) (fun ⟨s, out, r, nx⟩ => s.length) (fun ⟨s, out, r, nx⟩ => [(6, .list false (s.map RSet.d)), (7, .mrow r 0 out.length)]) (fun ⟨s, out, r, nx⟩ => [(r, ⟨24, (out).map RSet.d⟩)]) (fun ⟨s, out, r, nx⟩ => nx) (isort plC l 0 l.length, [], (n2 + 3), _) (by simp only [List.map_cons, List.map_nil, go_sem, b1]; exact rfl) ⟨(by first | (rfl) | (dsimp only; rfl)), (by first | (intro x hx; exact all_of hall x (hperm.mem_iff.1 hx)) | (dsimp only; intro x hx; exact all_of hall x (hperm.mem_iff.1 hx))), (by first | (exact (perm_data hperm).nodup_iff.2 hnd) | (dsimp only; exact (perm_data hperm).nodup_iff.2 hnd)), (by first | (simp [hperm.length_eq]; omega) | (dsimp only; simp [hperm.length_eq]; omega)), (by first | (first | omega | (dsimp only; omega) | (trace_state; exact absurd rfl rfl)) | (dsimp only; first | omega | (dsimp only; omega) | (trace_state; exact absurd rfl rfl))), trivial⟩ (by first | (simp only [go_sem, b1]; done) | (simp [go_sem, b1]; done) | (simp only [go_sem, b1]; (repeat' (with_reducible apply And.intro)) <;> first | (left; simp; done) | (right; simp [go_sem]; done))) (by first | (simp only [go_sem, b1]; done) | simp [go_sem, b1]) (Nat.le_refl _) ?_
    rintro ⟨s, out, r, nx⟩ ⟨hm, hsub, hns, ho, hr, -⟩
    show DW _ _ _ _ { n := _, t := tab _, h := _, nx := _, e := _ }
    simp only [List.cons_append, List.nil_append]
    refine dw_seq ?_
    refine dw_step (C := Rn) (by simp only [go_sem, b1, hr]; exact rfl) (fun h => by cases h) ?_ ?_
    · try simp only [go_sem, b1, hr]
      all_goals (first | done | (repeat' (with_reducible apply And.intro)) <;> first | omega | (with_reducible assumption) | (intros; omega) | (intros; simp only [decide_eq_true_eq, decide_eq_false_iff_not, Bool.or_eq_true, Bool.and_eq_true, Bool.or_eq_false_iff, Bool.not_eq_true', Bool.not_eq_false'] at *; omega) | (simp_all; done) | (simp_all; omega))
    refine dw_cond (by simp only [go_sem, b1, hr]; exact rfl) (fun c4 => ?_) (fun c4 => ?_)
    · skip
      have hs0 : 0 < s.length := by simpa using c4
      refine dw_skip ?_
      show DW _ _ _ _ _
      refine dw_block ?_
      refine dw_step (C := Rn) (by simp only [go_sem, b1, hr, getD_set hs0]; exact rfl) (fun h => by cases h) ?_ ?_
      · try simp only [go_sem, b1, hr, getD_set hs0]
        all_goals (first | done | (repeat' (with_reducible apply And.intro)) <;> first | omega | (with_reducible assumption) | (intros; omega) | (intros; simp only [decide_eq_true_eq, decide_eq_false_iff_not, Bool.or_eq_true, Bool.and_eq_true, Bool.or_eq_false_iff, Bool.not_eq_true', Bool.not_eq_false'] at *; omega) | (simp_all; done) | (simp_all; omega))
      refine dw_seq ?_
      refine dw_block ?_
      obtain ⟨w, hw⟩ : ∃ w, w = nx + 6 := ⟨_, rfl⟩
      rw [← hw]
      have zr_w : (r = w) = False := eq_false (by omega)
      have yw_r : (w = r) = False := eq_false (by omega)
      refine dw_loop_fix (α := (Nat) × Nat) [6, 7, 8] (fun ⟨c, nx⟩ => (1 ≤ c ∧ c ≤ s.length) ∧ (cntP s 1 = cntP s c) ∧ (w < nx) ∧ (r < nx) ∧ True) (fun ⟨c, nx⟩ => s.length - c) (fun ⟨c, nx⟩ => [(9, .i c)]) (fun ⟨c, nx⟩ => [(r, ⟨24, (out).map RSet.d⟩), (w, ⟨24, [s[0]!.d]⟩)]) (fun ⟨c, nx⟩ => nx) (1, _) (by simp only [List.map_cons, List.map_nil, go_sem, b1, hr, getD_set hs0]; exact rfl) ⟨(by first | (exact ⟨Nat.le_refl _, hs0⟩) | (dsimp only; exact ⟨Nat.le_refl _, hs0⟩)), (by first | (rfl) | (dsimp only; rfl)), (by first | (first | omega | (with_reducible assumption) | (simp_all; done) | (simp_all; omega)) | (dsimp only; first | omega | (with_reducible assumption) | (simp_all; done) | (simp_all; omega))), (by first | (first | omega | (with_reducible assumption) | (simp_all; done) | (simp_all; omega)) | (dsimp only; first | omega | (with_reducible assumption) | (simp_all; done) | (simp_all; omega))), trivial⟩ (by first | (simp only [go_sem, b1, hr, getD_set hs0, zr_w, yw_r]; done) | (simp [go_sem, b1, hr, getD_set hs0, zr_w, yw_r]; done) | (simp only [go_sem, b1, hr, getD_set hs0]; (repeat' (with_reducible apply And.intro)) <;> first | (left; simp; done) | (right; simp [go_sem]; done))) (by first | (simp only [go_sem, b1, hr, getD_set hs0, zr_w, yw_r]; done) | simp [go_sem, b1, hr, getD_set hs0, zr_w, yw_r]) (Nat.le_refl _) ?_
      rintro ⟨c, nx⟩ ⟨hc, hct, hwx, hrx, -⟩
      show DW _ _ _ _ { n := _, t := tab _, h := _, nx := _, e := _ }
      simp only [List.cons_append, List.nil_append]
      refine dw_seq ?_
      rcases Nat.lt_or_ge c s.length with gc | gc
      · skip
        refine dw_step (C := Rn) (by simp only [go_sem, b1, hr, getD_set hs0, hwx, hrx, zr_w, yw_r, getD_set gc]; exact rfl) (fun _ => ⟨mix, by kernel_rfl, by kernel_rfl⟩) ?_ ?_
        · try simp only [go_sem, b1, hr, getD_set hs0, hwx, hrx, zr_w, yw_r, getD_set gc]
          all_goals (first | done | (repeat' (with_reducible apply And.intro)) <;> first | omega | (with_reducible assumption) | (intros; omega) | (intros; simp only [decide_eq_true_eq, decide_eq_false_iff_not, Bool.or_eq_true, Bool.and_eq_true, Bool.or_eq_false_iff, Bool.not_eq_true', Bool.not_eq_false'] at *; omega) | (simp_all; done) | (simp_all; omega))
        refine dw_cond (by simp only [go_sem, b1, hr, getD_set hs0, hwx, hrx, zr_w, yw_r, getD_set gc]; exact rfl) (fun c5 => ?_) (fun c5 => ?_)
        · skip
          have hcl := (ctp_go c5).1
          refine dw_skip ?_
          show DW _ _ _ _ _
          refine dw_block ?_
          refine dw_reg (C := Rn) (by simp only [go_sem, b1, hr, getD_set hs0, hwx, hrx, zr_w, yw_r, getD_set gc]; exact rfl) (fun h => by cases h) ?_ ?_
          · try simp only [go_sem, b1, hr, getD_set hs0, hwx, hrx, zr_w, yw_r, getD_set gc]
            all_goals (first | done | (repeat' (with_reducible apply And.intro)) <;> first | omega | (with_reducible assumption) | (intros; omega) | (intros; simp only [decide_eq_true_eq, decide_eq_false_iff_not, Bool.or_eq_true, Bool.and_eq_true, Bool.or_eq_false_iff, Bool.not_eq_true', Bool.not_eq_false'] at *; omega) | (simp_all; done) | (simp_all; omega))
          show ∃ _, _
          refine ⟨(c + 1, _), ⟨(by first | (have := (ctp_go c5).1; omega) | (dsimp only; have := (ctp_go c5).1; omega)), (by first | (rw [hct, (ctp_go c5).2]) | (dsimp only; rw [hct, (ctp_go c5).2])), (by first | (first | omega | (with_reducible assumption) | (simp_all; done) | (simp_all; omega)) | (dsimp only; first | omega | (with_reducible assumption) | (simp_all; done) | (simp_all; omega))), (by first | (first | omega | (with_reducible assumption) | (simp_all; done) | (simp_all; omega)) | (dsimp only; first | omega | (with_reducible assumption) | (simp_all; done) | (simp_all; omega))), trivial⟩, (by show (_ : Nat) < _; first | omega | simp_all; omega), ?_, ?_, ?_, Nat.le_refl _, rfl, rfl⟩
          · try simp only [go_sem, b1, hr, getD_set hs0, hwx, hrx, zr_w, yw_r, getD_set gc]
            all_goals (first | done | (simp; done) | (simp; omega) | ((repeat' (with_reducible apply And.intro)) <;> first | (left; simp; done) | (right; simp [go_sem]; done)))
          · try simp only [go_sem, b1, hr, getD_set hs0, hwx, hrx, zr_w, yw_r, getD_set gc]
            all_goals (first | done | (simp; done) | (simp; omega) | ((repeat' (with_reducible apply And.intro)) <;> first | (left; simp; done) | (right; simp [go_sem]; done)))
          · try simp only [go_sem, b1, hr, getD_set hs0, hwx, hrx, zr_w, yw_r, getD_set gc]
            all_goals (first | done | (simp; done) | (simp; omega) | ((repeat' (with_reducible apply And.intro)) <;> first | (left; simp; done) | (right; simp [go_sem]; done)))
        · skip
          have hcnt : cntP s 1 = c := by rw [hct, ctp_stop c5]
          have hdt : ∀ x ∈ s.take c, x.data.length ≤ 100 := fun x hx => by have := (hsub x (List.mem_of_mem_take hx)).len; omega
          have hndt := (nodup_take (k := c) hns).1
          have hty : inR (uniteF (s.take c)).ty 1 8 = true := by have h1 : (s.take c)[0]! = s[0]! := by { rw [getElem!_pos (s.take c) 0 (by simp; omega), getElem!_pos s 0 hs0]; simp }; show inR (s.take c)[0]!.ty 1 8 = true; rw [h1, getElem!_pos s 0 hs0]; exact (hsub _ (List.getElem_mem hs0)).ty
          have hty2 := inR_iff.1 hty
          obtain ⟨rest, hld⟩ := rule_ldc6 (k := (uniteF (s.take c)).ty.toNat) (by omega) (by omega)
          refine dw_exit ?_
          show DW _ _ _ _ _
          refine dw_step (C := Rn) (by simp only [go_sem, b1, hr, getD_set hs0, hwx, hrx, zr_w, yw_r, getD_set gc, hld, ← List.map_take, ← List.map_drop, List.take_length]; exact rfl) (fun h => by cases h) ?_ ?_
          · try simp only [go_sem, b1, hr, getD_set hs0, hwx, hrx, zr_w, yw_r, getD_set gc, hld, ← List.map_take, ← List.map_drop, List.take_length]
            all_goals (first | done | ((repeat' (with_reducible apply And.intro)) <;> first | omega | exact runite_ct _ (by simp; omega) (by simp; omega) hdt hndt | (simp; omega)))
          refine dw_seq ?_
          refine dw_step (C := Rn) (by simp only [go_sem, b1, hr, getD_set hs0, hwx, hrx, zr_w, yw_r, getD_set gc, hld, ← List.map_take, ← List.map_drop, List.take_length]; exact rfl) (fun h => by cases h) ?_ ?_
          · try simp only [go_sem, b1, hr, getD_set hs0, hwx, hrx, zr_w, yw_r, getD_set gc, hld, ← List.map_take, ← List.map_drop, List.take_length]
            all_goals (first | done | (repeat' (with_reducible apply And.intro)) <;> first | omega | (with_reducible assumption) | (intros; omega) | (intros; simp only [decide_eq_true_eq, decide_eq_false_iff_not, Bool.or_eq_true, Bool.and_eq_true, Bool.or_eq_false_iff, Bool.not_eq_true', Bool.not_eq_false'] at *; omega) | (simp_all; done) | (simp_all; omega))
          refine dw_cond (by simp only [go_sem, b1, hr, getD_set hs0, hwx, hrx, zr_w, yw_r, getD_set gc, hld, ← List.map_take, ← List.map_drop, List.take_length]; exact rfl) (fun c6 => ?_) (fun c6 => ?_)
          · skip
            refine dw_step (C := Rn) (by simp only [go_sem, b1, hr, getD_set hs0, hwx, hrx, zr_w, yw_r, getD_set gc, hld, ← List.map_take, ← List.map_drop, List.take_length]; exact rfl) (fun h => by cases h) ?_ ?_
            · try simp only [go_sem, b1, hr, getD_set hs0, hwx, hrx, zr_w, yw_r, getD_set gc, hld, ← List.map_take, ← List.map_drop, List.take_length]
              all_goals (first | done | (repeat' (with_reducible apply And.intro)) <;> first | omega | (with_reducible assumption) | (intros; omega) | (intros; simp only [decide_eq_true_eq, decide_eq_false_iff_not, Bool.or_eq_true, Bool.and_eq_true, Bool.or_eq_false_iff, Bool.not_eq_true', Bool.not_eq_false'] at *; omega) | (simp_all; done) | (simp_all; omega))
            refine dw_ret ?_
            refine ⟨(by first | exact .inr rfl | trivial | simp), ?_, ?_⟩
            · simp only [go_sem, b1, hr, getD_set hs0, hwx, hrx, zr_w, yw_r, getD_set gc, hld, ← List.map_take, ← List.map_drop, List.take_length]
            refine ⟨2, ?_, ?_⟩
            · try simp only [go_sem, b1, hr, getD_set hs0, hwx, hrx, zr_w, yw_r, getD_set gc, hld, ← List.map_take, ← List.map_drop, List.take_length]
              all_goals (simp)
            · try simp only [go_sem, b1, hr, getD_set hs0, hwx, hrx, zr_w, yw_r, getD_set gc, hld, ← List.map_take, ← List.map_drop, List.take_length]
              all_goals (rw [mergeP, hall, hm]; simp only [if_true]; rw [mloop_eq, if_pos hs0, hcnt, if_pos (by rw [Bool.and_eq_true, decide_eq_true_eq] at c6; exact ⟨c6.1, by omega⟩)]; rfl)
          · skip
            refine dw_skip ?_
            show DW _ _ _ _ _
            refine dw_seq ?_
            refine dw_step (C := Rn) (by simp only [go_sem, b1, hr, getD_set hs0, hwx, hrx, zr_w, yw_r, getD_set gc, hld, ← List.map_take, ← List.map_drop, List.take_length]; exact rfl) (fun h => by cases h) ?_ ?_
            · try simp only [go_sem, b1, hr, getD_set hs0, hwx, hrx, zr_w, yw_r, getD_set gc, hld, ← List.map_take, ← List.map_drop, List.take_length]
              all_goals (first | done | (repeat' (with_reducible apply And.intro)) <;> first | omega | (with_reducible assumption) | (intros; omega) | (intros; simp only [decide_eq_true_eq, decide_eq_false_iff_not, Bool.or_eq_true, Bool.and_eq_true, Bool.or_eq_false_iff, Bool.not_eq_true', Bool.not_eq_false'] at *; omega) | (simp_all; done) | (simp_all; omega))
            refine dw_cond (by simp only [go_sem, b1, hr, getD_set hs0, hwx, hrx, zr_w, yw_r, getD_set gc, hld, ← List.map_take, ← List.map_drop, List.take_length]; exact rfl) (fun c7 => ?_) (fun c7 => ?_)
            · skip
              refine dw_step (C := Rn) (by simp only [go_sem, b1, hr, getD_set hs0, hwx, hrx, zr_w, yw_r, getD_set gc, hld, ← List.map_take, ← List.map_drop, List.take_length]; exact rfl) (fun h => by cases h) ?_ ?_
              · try simp only [go_sem, b1, hr, getD_set hs0, hwx, hrx, zr_w, yw_r, getD_set gc, hld, ← List.map_take, ← List.map_drop, List.take_length]
                all_goals (first | done | (repeat' (with_reducible apply And.intro)) <;> first | omega | (with_reducible assumption) | (intros; omega) | (intros; simp only [decide_eq_true_eq, decide_eq_false_iff_not, Bool.or_eq_true, Bool.and_eq_true, Bool.or_eq_false_iff, Bool.not_eq_true', Bool.not_eq_false'] at *; omega) | (simp_all; done) | (simp_all; omega))
              refine dw_ret ?_
              refine ⟨(by first | exact .inr rfl | trivial | simp), ?_, ?_⟩
              · simp only [go_sem, b1, hr, getD_set hs0, hwx, hrx, zr_w, yw_r, getD_set gc, hld, ← List.map_take, ← List.map_drop, List.take_length]
              refine ⟨2, ?_, ?_⟩
              · try simp only [go_sem, b1, hr, getD_set hs0, hwx, hrx, zr_w, yw_r, getD_set gc, hld, ← List.map_take, ← List.map_drop, List.take_length]
                all_goals (simp)
              · try simp only [go_sem, b1, hr, getD_set hs0, hwx, hrx, zr_w, yw_r, getD_set gc, hld, ← List.map_take, ← List.map_drop, List.take_length]
                all_goals (rw [mergeP, hall, hm]; simp only [if_true]; rw [mloop_eq, if_pos hs0, hcnt, if_neg (by rw [Bool.and_eq_false_iff, decide_eq_false_iff_not] at c6; intro q; rcases c6 with c6 | c6; rw [q.1] at c6; cases c6; exact c6 (by omega)), if_pos (by have := of_decide_eq_true c7; omega)]; rfl)
            · skip
              refine dw_skip ?_
              show DW _ _ _ _ _
              refine dw_step (C := Rn) (by simp only [go_sem, b1, hr, getD_set hs0, hwx, hrx, zr_w, yw_r, getD_set gc, hld, ← List.map_take, ← List.map_drop, List.take_length]; exact rfl) (fun h => by cases h) ?_ ?_
              · try simp only [go_sem, b1, hr, getD_set hs0, hwx, hrx, zr_w, yw_r, getD_set gc, hld, ← List.map_take, ← List.map_drop, List.take_length]
                all_goals (first | done | (repeat' (with_reducible apply And.intro)) <;> first | omega | (with_reducible assumption) | (intros; omega) | (intros; simp only [decide_eq_true_eq, decide_eq_false_iff_not, Bool.or_eq_true, Bool.and_eq_true, Bool.or_eq_false_iff, Bool.not_eq_true', Bool.not_eq_false'] at *; omega) | (simp_all; done) | (simp_all; omega))
              refine dw_reg (C := Rn) (by simp only [go_sem, b1, hr, getD_set hs0, hwx, hrx, zr_w, yw_r, getD_set gc, hld, ← List.map_take, ← List.map_drop, List.take_length]; exact rfl) (fun h => by cases h) ?_ ?_
              · try simp only [go_sem, b1, hr, getD_set hs0, hwx, hrx, zr_w, yw_r, getD_set gc, hld, ← List.map_take, ← List.map_drop, List.take_length]
                all_goals (first | done | (repeat' (with_reducible apply And.intro)) <;> first | omega | (with_reducible assumption) | (intros; omega) | (intros; simp only [decide_eq_true_eq, decide_eq_false_iff_not, Bool.or_eq_true, Bool.and_eq_true, Bool.or_eq_false_iff, Bool.not_eq_true', Bool.not_eq_false'] at *; omega) | (simp_all; done) | (simp_all; omega))
              show ∃ _, _
              refine ⟨(s.drop c, out ++ [uniteF (s.take c)], (nx + 48), _), ⟨(by first | (rw [hm, mloop_eq, if_pos hs0, hcnt, if_neg (by rw [Bool.and_eq_false_iff, decide_eq_false_iff_not] at c6; intro q; rcases c6 with c6 | c6; rw [q.1] at c6; cases c6; exact c6 (by omega)), if_neg (by have := of_decide_eq_false c7; omega)]) | (dsimp only; rw [hm, mloop_eq, if_pos hs0, hcnt, if_neg (by rw [Bool.and_eq_false_iff, decide_eq_false_iff_not] at c6; intro q; rcases c6 with c6 | c6; rw [q.1] at c6; cases c6; exact c6 (by omega)), if_neg (by have := of_decide_eq_false c7; omega)])), (by first | (intro x hx; exact hsub x (List.mem_of_mem_drop hx)) | (dsimp only; intro x hx; exact hsub x (List.mem_of_mem_drop hx))), (by first | (exact (nodup_take hns).2) | (dsimp only; exact (nodup_take hns).2)), (by first | (rw [List.length_append, List.length_drop]; simp only [List.length_cons, List.length_nil]; omega) | (dsimp only; rw [List.length_append, List.length_drop]; simp only [List.length_cons, List.length_nil]; omega)), (by first | (first | omega | (dsimp only; omega) | (trace_state; exact absurd rfl rfl)) | (dsimp only; first | omega | (dsimp only; omega) | (trace_state; exact absurd rfl rfl))), trivial⟩, (by show (_ : Nat) < _; (rw [List.length_drop]; omega)), ?_, ?_, ?_, Nat.le_refl _, rfl, rfl⟩
              · try simp only [go_sem, b1, hr, getD_set hs0, hwx, hrx, zr_w, yw_r, getD_set gc, hld, ← List.map_take, ← List.map_drop, List.take_length]
                all_goals (first | done | (simp; done) | (simp [RSet.d]; done) | ((repeat' (with_reducible apply And.intro)) <;> first | rfl | (left; simp; done) | (simp [RSet.d]; done)))
              · try simp only [go_sem, b1, hr, getD_set hs0, hwx, hrx, zr_w, yw_r, getD_set gc, hld, ← List.map_take, ← List.map_drop, List.take_length]
                all_goals (first | done | (simp; done) | (simp [RSet.d]; done) | ((repeat' (with_reducible apply And.intro)) <;> first | rfl | (left; simp; done) | (simp [RSet.d]; done)))
              · try simp only [go_sem, b1, hr, getD_set hs0, hwx, hrx, zr_w, yw_r, getD_set gc, hld, ← List.map_take, ← List.map_drop, List.take_length]
                all_goals (first | done | (simp; done) | (simp [RSet.d]; done) | ((repeat' (with_reducible apply And.intro)) <;> first | rfl | (left; simp; done) | (simp [RSet.d]; done)))
      · skip
        have gf : ((c : Int) < s.length) = False := eq_false (by omega)
        refine dw_step (C := Rn) (by simp only [go_sem, b1, hr, getD_set hs0, hwx, hrx, zr_w, yw_r, gf, decide_false]; exact rfl) (fun _ => ⟨mix, by kernel_rfl, by kernel_rfl⟩) ?_ ?_
        · try simp only [go_sem, b1, hr, getD_set hs0, hwx, hrx, zr_w, yw_r, gf, decide_false]
          all_goals (first | done | (repeat' (with_reducible apply And.intro)) <;> first | omega | (with_reducible assumption) | (intros; omega) | (intros; simp only [decide_eq_true_eq, decide_eq_false_iff_not, Bool.or_eq_true, Bool.and_eq_true, Bool.or_eq_false_iff, Bool.not_eq_true', Bool.not_eq_false'] at *; omega) | (simp_all; done) | (simp_all; omega))
        refine dw_cond (by simp only [go_sem, b1, hr, getD_set hs0, hwx, hrx, zr_w, yw_r, gf, decide_false]; exact rfl) (fun c5 => ?_) (fun c5 => ?_)
        · skip
          cases c5
        · skip
          have hcnt : cntP s 1 = c := by rw [hct, cntP_eq, if_neg (by omega)]
          have hdt : ∀ x ∈ s.take c, x.data.length ≤ 100 := fun x hx => by have := (hsub x (List.mem_of_mem_take hx)).len; omega
          have hndt := (nodup_take (k := c) hns).1
          have hty : inR (uniteF (s.take c)).ty 1 8 = true := by have h1 : (s.take c)[0]! = s[0]! := by { rw [getElem!_pos (s.take c) 0 (by simp; omega), getElem!_pos s 0 hs0]; simp }; show inR (s.take c)[0]!.ty 1 8 = true; rw [h1, getElem!_pos s 0 hs0]; exact (hsub _ (List.getElem_mem hs0)).ty
          have hty2 := inR_iff.1 hty
          obtain ⟨rest, hld⟩ := rule_ldc6 (k := (uniteF (s.take c)).ty.toNat) (by omega) (by omega)
          refine dw_exit ?_
          show DW _ _ _ _ _
          refine dw_step (C := Rn) (by simp only [go_sem, b1, hr, getD_set hs0, hwx, hrx, zr_w, yw_r, gf, decide_false, hld, ← List.map_take, ← List.map_drop, List.take_length]; exact rfl) (fun h => by cases h) ?_ ?_
          · try simp only [go_sem, b1, hr, getD_set hs0, hwx, hrx, zr_w, yw_r, gf, decide_false, hld, ← List.map_take, ← List.map_drop, List.take_length]
            all_goals (first | done | ((repeat' (with_reducible apply And.intro)) <;> first | omega | exact runite_ct _ (by simp; omega) (by simp; omega) hdt hndt | (simp; omega)))
          refine dw_seq ?_
          refine dw_step (C := Rn) (by simp only [go_sem, b1, hr, getD_set hs0, hwx, hrx, zr_w, yw_r, gf, decide_false, hld, ← List.map_take, ← List.map_drop, List.take_length]; exact rfl) (fun h => by cases h) ?_ ?_
          · try simp only [go_sem, b1, hr, getD_set hs0, hwx, hrx, zr_w, yw_r, gf, decide_false, hld, ← List.map_take, ← List.map_drop, List.take_length]
            all_goals (first | done | (repeat' (with_reducible apply And.intro)) <;> first | omega | (with_reducible assumption) | (intros; omega) | (intros; simp only [decide_eq_true_eq, decide_eq_false_iff_not, Bool.or_eq_true, Bool.and_eq_true, Bool.or_eq_false_iff, Bool.not_eq_true', Bool.not_eq_false'] at *; omega) | (simp_all; done) | (simp_all; omega))
          refine dw_cond (by simp only [go_sem, b1, hr, getD_set hs0, hwx, hrx, zr_w, yw_r, gf, decide_false, hld, ← List.map_take, ← List.map_drop, List.take_length]; exact rfl) (fun c6 => ?_) (fun c6 => ?_)
          · skip
            refine dw_step (C := Rn) (by simp only [go_sem, b1, hr, getD_set hs0, hwx, hrx, zr_w, yw_r, gf, decide_false, hld, ← List.map_take, ← List.map_drop, List.take_length]; exact rfl) (fun h => by cases h) ?_ ?_
            · try simp only [go_sem, b1, hr, getD_set hs0, hwx, hrx, zr_w, yw_r, gf, decide_false, hld, ← List.map_take, ← List.map_drop, List.take_length]
              all_goals (first | done | (repeat' (with_reducible apply And.intro)) <;> first | omega | (with_reducible assumption) | (intros; omega) | (intros; simp only [decide_eq_true_eq, decide_eq_false_iff_not, Bool.or_eq_true, Bool.and_eq_true, Bool.or_eq_false_iff, Bool.not_eq_true', Bool.not_eq_false'] at *; omega) | (simp_all; done) | (simp_all; omega))
            refine dw_ret ?_
            refine ⟨(by first | exact .inr rfl | trivial | simp), ?_, ?_⟩
            · simp only [go_sem, b1, hr, getD_set hs0, hwx, hrx, zr_w, yw_r, gf, decide_false, hld, ← List.map_take, ← List.map_drop, List.take_length]
            refine ⟨2, ?_, ?_⟩
            · try simp only [go_sem, b1, hr, getD_set hs0, hwx, hrx, zr_w, yw_r, gf, decide_false, hld, ← List.map_take, ← List.map_drop, List.take_length]
              all_goals (simp)
            · try simp only [go_sem, b1, hr, getD_set hs0, hwx, hrx, zr_w, yw_r, gf, decide_false, hld, ← List.map_take, ← List.map_drop, List.take_length]
              all_goals (rw [mergeP, hall, hm]; simp only [if_true]; rw [mloop_eq, if_pos hs0, hcnt, if_pos (by rw [Bool.and_eq_true, decide_eq_true_eq] at c6; exact ⟨c6.1, by omega⟩)]; rfl)
          · skip
            refine dw_skip ?_
            show DW _ _ _ _ _
            refine dw_seq ?_
            refine dw_step (C := Rn) (by simp only [go_sem, b1, hr, getD_set hs0, hwx, hrx, zr_w, yw_r, gf, decide_false, hld, ← List.map_take, ← List.map_drop, List.take_length]; exact rfl) (fun h => by cases h) ?_ ?_
            · try simp only [go_sem, b1, hr, getD_set hs0, hwx, hrx, zr_w, yw_r, gf, decide_false, hld, ← List.map_take, ← List.map_drop, List.take_length]
              all_goals (first | done | (repeat' (with_reducible apply And.intro)) <;> first | omega | (with_reducible assumption) | (intros; omega) | (intros; simp only [decide_eq_true_eq, decide_eq_false_iff_not, Bool.or_eq_true, Bool.and_eq_true, Bool.or_eq_false_iff, Bool.not_eq_true', Bool.not_eq_false'] at *; omega) | (simp_all; done) | (simp_all; omega))
            refine dw_cond (by simp only [go_sem, b1, hr, getD_set hs0, hwx, hrx, zr_w, yw_r, gf, decide_false, hld, ← List.map_take, ← List.map_drop, List.take_length]; exact rfl) (fun c7 => ?_) (fun c7 => ?_)
            · skip
              refine dw_step (C := Rn) (by simp only [go_sem, b1, hr, getD_set hs0, hwx, hrx, zr_w, yw_r, gf, decide_false, hld, ← List.map_take, ← List.map_drop, List.take_length]; exact rfl) (fun h => by cases h) ?_ ?_
              · try simp only [go_sem, b1, hr, getD_set hs0, hwx, hrx, zr_w, yw_r, gf, decide_false, hld, ← List.map_take, ← List.map_drop, List.take_length]
                all_goals (first | done | (repeat' (with_reducible apply And.intro)) <;> first | omega | (with_reducible assumption) | (intros; omega) | (intros; simp only [decide_eq_true_eq, decide_eq_false_iff_not, Bool.or_eq_true, Bool.and_eq_true, Bool.or_eq_false_iff, Bool.not_eq_true', Bool.not_eq_false'] at *; omega) | (simp_all; done) | (simp_all; omega))
              refine dw_ret ?_
              refine ⟨(by first | exact .inr rfl | trivial | simp), ?_, ?_⟩
              · simp only [go_sem, b1, hr, getD_set hs0, hwx, hrx, zr_w, yw_r, gf, decide_false, hld, ← List.map_take, ← List.map_drop, List.take_length]
              refine ⟨2, ?_, ?_⟩
              · try simp only [go_sem, b1, hr, getD_set hs0, hwx, hrx, zr_w, yw_r, gf, decide_false, hld, ← List.map_take, ← List.map_drop, List.take_length]
                all_goals (simp)
              · try simp only [go_sem, b1, hr, getD_set hs0, hwx, hrx, zr_w, yw_r, gf, decide_false, hld, ← List.map_take, ← List.map_drop, List.take_length]
                all_goals (rw [mergeP, hall, hm]; simp only [if_true]; rw [mloop_eq, if_pos hs0, hcnt, if_neg (by rw [Bool.and_eq_false_iff, decide_eq_false_iff_not] at c6; intro q; rcases c6 with c6 | c6; rw [q.1] at c6; cases c6; exact c6 (by omega)), if_pos (by have := of_decide_eq_true c7; omega)]; rfl)
            · skip
              refine dw_skip ?_
              show DW _ _ _ _ _
              refine dw_step (C := Rn) (by simp only [go_sem, b1, hr, getD_set hs0, hwx, hrx, zr_w, yw_r, gf, decide_false, hld, ← List.map_take, ← List.map_drop, List.take_length]; exact rfl) (fun h => by cases h) ?_ ?_
              · try simp only [go_sem, b1, hr, getD_set hs0, hwx, hrx, zr_w, yw_r, gf, decide_false, hld, ← List.map_take, ← List.map_drop, List.take_length]
                all_goals (first | done | (repeat' (with_reducible apply And.intro)) <;> first | omega | (with_reducible assumption) | (intros; omega) | (intros; simp only [decide_eq_true_eq, decide_eq_false_iff_not, Bool.or_eq_true, Bool.and_eq_true, Bool.or_eq_false_iff, Bool.not_eq_true', Bool.not_eq_false'] at *; omega) | (simp_all; done) | (simp_all; omega))
              refine dw_reg (C := Rn) (by simp only [go_sem, b1, hr, getD_set hs0, hwx, hrx, zr_w, yw_r, gf, decide_false, hld, ← List.map_take, ← List.map_drop, List.take_length]; exact rfl) (fun h => by cases h) ?_ ?_
              · try simp only [go_sem, b1, hr, getD_set hs0, hwx, hrx, zr_w, yw_r, gf, decide_false, hld, ← List.map_take, ← List.map_drop, List.take_length]
                all_goals (first | done | (repeat' (with_reducible apply And.intro)) <;> first | omega | (with_reducible assumption) | (intros; omega) | (intros; simp only [decide_eq_true_eq, decide_eq_false_iff_not, Bool.or_eq_true, Bool.and_eq_true, Bool.or_eq_false_iff, Bool.not_eq_true', Bool.not_eq_false'] at *; omega) | (simp_all; done) | (simp_all; omega))
              show ∃ _, _
              refine ⟨(s.drop c, out ++ [uniteF (s.take c)], (nx + 48), _), ⟨(by first | (rw [hm, mloop_eq, if_pos hs0, hcnt, if_neg (by rw [Bool.and_eq_false_iff, decide_eq_false_iff_not] at c6; intro q; rcases c6 with c6 | c6; rw [q.1] at c6; cases c6; exact c6 (by omega)), if_neg (by have := of_decide_eq_false c7; omega)]) | (dsimp only; rw [hm, mloop_eq, if_pos hs0, hcnt, if_neg (by rw [Bool.and_eq_false_iff, decide_eq_false_iff_not] at c6; intro q; rcases c6 with c6 | c6; rw [q.1] at c6; cases c6; exact c6 (by omega)), if_neg (by have := of_decide_eq_false c7; omega)])), (by first | (intro x hx; exact hsub x (List.mem_of_mem_drop hx)) | (dsimp only; intro x hx; exact hsub x (List.mem_of_mem_drop hx))), (by first | (exact (nodup_take hns).2) | (dsimp only; exact (nodup_take hns).2)), (by first | (rw [List.length_append, List.length_drop]; simp only [List.length_cons, List.length_nil]; omega) | (dsimp only; rw [List.length_append, List.length_drop]; simp only [List.length_cons, List.length_nil]; omega)), (by first | (first | omega | (dsimp only; omega) | (trace_state; exact absurd rfl rfl)) | (dsimp only; first | omega | (dsimp only; omega) | (trace_state; exact absurd rfl rfl))), trivial⟩, (by show (_ : Nat) < _; (rw [List.length_drop]; omega)), ?_, ?_, ?_, Nat.le_refl _, rfl, rfl⟩
              · try simp only [go_sem, b1, hr, getD_set hs0, hwx, hrx, zr_w, yw_r, gf, decide_false, hld, ← List.map_take, ← List.map_drop, List.take_length]
                all_goals (first | done | (simp; done) | (simp [RSet.d]; done) | ((repeat' (with_reducible apply And.intro)) <;> first | rfl | (left; simp; done) | (simp [RSet.d]; done)))
              · try simp only [go_sem, b1, hr, getD_set hs0, hwx, hrx, zr_w, yw_r, gf, decide_false, hld, ← List.map_take, ← List.map_drop, List.take_length]
                all_goals (first | done | (simp; done) | (simp [RSet.d]; done) | ((repeat' (with_reducible apply And.intro)) <;> first | rfl | (left; simp; done) | (simp [RSet.d]; done)))
              · try simp only [go_sem, b1, hr, getD_set hs0, hwx, hrx, zr_w, yw_r, gf, decide_false, hld, ← List.map_take, ← List.map_drop, List.take_length]
                all_goals (first | done | (simp; done) | (simp [RSet.d]; done) | ((repeat' (with_reducible apply And.intro)) <;> first | rfl | (left; simp; done) | (simp [RSet.d]; done)))
    · skip
      have hs0 : ¬ 0 < s.length := by simpa using c4
      refine dw_exit ?_
      show DW _ _ _ _ _
      refine dw_step (C := Rn) (by simp only [go_sem, b1, hr]; exact rfl) (fun h => by cases h) ?_ ?_
      · try simp only [go_sem, b1, hr]
        all_goals (first | done | (repeat' (with_reducible apply And.intro)) <;> first | omega | (with_reducible assumption) | (intros; omega) | (intros; simp only [decide_eq_true_eq, decide_eq_false_iff_not, Bool.or_eq_true, Bool.and_eq_true, Bool.or_eq_false_iff, Bool.not_eq_true', Bool.not_eq_false'] at *; omega) | (simp_all; done) | (simp_all; omega))
      refine dw_ret ?_
      refine ⟨(by first | exact .inr rfl | trivial | simp), ?_, ?_⟩
      · simp only [go_sem, b1, hr]
      refine ⟨2, ?_, ?_⟩
      · try simp only [go_sem, b1, hr]
        all_goals (simp)
      · try simp only [go_sem, b1, hr]
        all_goals (rw [mergeP, hall, hm]; simp only [if_true]; rw [mloop_eq, if_neg hs0])

end Go.Proofs.YtfggmgafjabbjaaDoor
