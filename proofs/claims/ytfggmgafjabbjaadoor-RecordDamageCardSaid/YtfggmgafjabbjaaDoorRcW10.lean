import Derived.Test.YtfggmgafjabbjaaDoorRcW9
import Derived.Test.YtfggmgafjabbjaaDoorDSort
namespace Go.Proofs.YtfggmgafjabbjaaDoor
open Go.DL Go.Str Go.Rec Go.Cmp Go.RowKit
set_option maxRecDepth 10000
set_option linter.unusedSimpArgs false
set_option linter.unusedVariables false
def srtD_ren : Go.Shelf.Ren := { f := fun x => match x with | 6 => 64 | 15 => 99 | 14 => 98 | 28 => 127 | 29 => 128 | 20 => 119 | 21 => 120 | 22 => 121 | 23 => 122 | 24 => 123 | 25 => 124 | 26 => 125 | 27 => 126 | 46 => 150 | 47 => 151 | 48 => 152 | 49 => 153 | 50 => 154 | 57 => 161 | n => n, t := fun x => match x with | 22 => 22 | 24 => 48 | 25 => 67 | 3 => 3 | 39 => 117 | 0 => 0 | 53 => 166 | 55 => 114 | 4 => 4 | 46 => 160 | 45 => 159 | 50 => 144 | 5 => 5 | 9 => 9 | 66 => 179 | 70 => 183 | 76 => 191 | 77 => 192 | n => n, g := fun n => n }
theorem srtD : Go.Proofs.SlLaysF0.n6 Tryd.prog srtD_ren := {
  mixed := by kernel_rfl
  f6 := ⟨Tryd.f64.name, by decide, Tryd.func64.trans (by kernel_rfl)⟩
  f14 := ⟨Tryd.f98.name, by decide, Tryd.func98.trans (by kernel_rfl)⟩
  f15 := Tryd.func99.trans (by kernel_rfl)
  f20 := ⟨Tryd.f119.name, by decide, Tryd.func119.trans (by kernel_rfl)⟩
  f21 := ⟨Tryd.f120.name, by decide, Tryd.func120.trans (by kernel_rfl)⟩
  f22 := ⟨Tryd.f121.name, by decide, Tryd.func121.trans (by kernel_rfl)⟩
  f23 := ⟨Tryd.f122.name, by decide, Tryd.func122.trans (by kernel_rfl)⟩
  f24 := ⟨Tryd.f123.name, by decide, Tryd.func123.trans (by kernel_rfl)⟩
  f25 := ⟨Tryd.f124.name, by decide, Tryd.func124.trans (by kernel_rfl)⟩
  f26 := ⟨Tryd.f125.name, by decide, Tryd.func125.trans (by kernel_rfl)⟩
  f27 := ⟨Tryd.f126.name, by decide, Tryd.func126.trans (by kernel_rfl)⟩
  f28 := Tryd.func127.trans (by kernel_rfl)
  f29 := Tryd.func128.trans (by kernel_rfl)
  f46 := ⟨Tryd.f150.name, by decide, Tryd.func150.trans (by kernel_rfl)⟩
  f47 := Tryd.func151.trans (by kernel_rfl)
  f48 := Tryd.func152.trans (by kernel_rfl)
  f49 := ⟨Tryd.f153.name, by decide, Tryd.func153.trans (by kernel_rfl)⟩
  f50 := ⟨Tryd.f154.name, by decide, Tryd.func154.trans (by kernel_rfl)⟩
  f57 := ⟨Tryd.f161.name, by decide, Tryd.func161.trans (by kernel_rfl)⟩
  t0 := Tryd.underlying0
  a0 := Tryd.isAgg0
  z0 := Tryd.sizeOf0
  v0 := Tryd.zeroValue0
  t3 := Tryd.underlying3
  a3 := Tryd.isAgg3
  z3 := Tryd.sizeOf3
  v3 := Tryd.zeroValue3
  t4 := Tryd.underlying4
  a4 := Tryd.isAgg4
  z4 := Tryd.sizeOf4
  v4 := Tryd.zeroValue4
  t5 := Tryd.underlying5
  a5 := Tryd.isAgg5
  z5 := Tryd.sizeOf5
  v5 := Tryd.zeroValue5
  t9 := Tryd.underlying9
  a9 := Tryd.isAgg9
  z9 := Tryd.sizeOf9
  v9 := Tryd.zeroValue9
  t22 := Tryd.underlying22
  a22 := Tryd.isAgg22
  z22 := Tryd.sizeOf22
  v22 := Tryd.zeroValue22
  t25 := Tryd.underlying67
  a25 := Tryd.isAgg67
  z25 := Tryd.sizeOf67
  v25 := Tryd.zeroValue67
  t39 := Tryd.underlying117
  a39 := Tryd.isAgg117
  z39 := Tryd.sizeOf117
  v39 := Tryd.zeroValue117
  t45 := Tryd.underlying159
  a45 := Tryd.isAgg159
  z45 := Tryd.sizeOf159
  v45 := Tryd.zeroValue159
  t46 := Tryd.underlying160
  a46 := Tryd.isAgg160
  z46 := Tryd.sizeOf160
  v46 := Tryd.zeroValue160
  t50 := Tryd.underlying144
  a50 := Tryd.isAgg144
  z50 := Tryd.sizeOf144
  v50 := Tryd.zeroValue144
  t53 := Tryd.underlying166
  a53 := Tryd.isAgg166
  z53 := Tryd.sizeOf166
  v53 := Tryd.zeroValue166
  t55 := Tryd.underlying114
  a55 := Tryd.isAgg114
  z55 := Tryd.sizeOf114
  v55 := Tryd.zeroValue114
  t66 := Tryd.underlying179
  a66 := Tryd.isAgg179
  z66 := Tryd.sizeOf179
  v66 := Tryd.zeroValue179
  t70 := Tryd.underlying183
  a70 := Tryd.isAgg183
  z70 := Tryd.sizeOf183
  v70 := Tryd.zeroValue183
  t76 := Tryd.underlying191
  a76 := Tryd.isAgg191
  z76 := Tryd.sizeOf191
  v76 := Tryd.zeroValue191
  t77 := Tryd.underlying192
  a77 := Tryd.isAgg192
  z77 := Tryd.sizeOf192
  v77 := Tryd.zeroValue192 }

theorem dat_of_d {x : List D} {l : List Dat} (h : x ∈ l.map Dat.d) : Dat.d (Dat.of x) = x := by
  obtain ⟨s, _, rfl⟩ := List.mem_map.1 h
  rw [of_dat]
theorem sortD (l : List Dat) (h : H) (n r : Nat) (hl : l.length ≤ 100000) (hr : h r = some ⟨48, l.map Dat.d⟩) :
    RCt Tryd.prog 64 [.mrow r 0 l.length, .fn (.func 38) [] []] h n (fun d h' n' => d = .tuple [] ∧ n' = n ∧ ∃ l' : List Dat, l'.Perm l ∧ Sorted datC l' ∧ h' = upd h r (some ⟨48, l'.map Dat.d⟩)) := by
  have e : l.length = (l.map Dat.d).length := by simp
  rw [e]
  refine (sort_rct (ty := 48) srtD rfl rfl Tryd.isAgg48 Tryd.sizeOf48 (fun x y => datC (Dat.of x) (Dat.of y)) (by kernel_rfl) hr nrr_dat rfl (by simp; omega) (fun x hx y hy => ?_) ⟨fun x _ => ?_, fun x _ y _ z _ => ?_, fun x _ y _ z _ => ?_⟩).mono ?_
  · have := cmpdata_ct (Dat.of x) (Dat.of y)
    rw [dat_of_d hx, dat_of_d hy] at this
    exact this
  · have := cm_dat.self (Dat.of x); omega
  · intro a b; exact cm_dat.lt_le a (by omega)
  · intro a b
    have h1 := cm_dat.anti (Dat.of x) (Dat.of y); have h2 := cm_dat.anti (Dat.of y) (Dat.of z); have h3 := cm_dat.anti (Dat.of x) (Dat.of z)
    have := cm_dat.tr (Dat.of z) (Dat.of y) (Dat.of x) (by omega) (by omega)
    omega
  · rintro d h' n' ⟨rfl, rfl, rows', hp, hs, rfl⟩
    have hback : (rows'.map Dat.of).map Dat.d = rows' := by
      rw [List.map_map]
      conv => rhs; rw [← List.map_id rows']
      exact List.map_congr_left fun x hx => dat_of_d (hp.mem_iff.1 hx)
    refine ⟨rfl, rfl, rows'.map Dat.of, ?_, ?_, by rw [hback]⟩
    · have := hp.map Dat.of
      rwa [map_id_of of_dat] at this
    · unfold Sorted
      rw [List.pairwise_map]
      refine hs.imp fun {x y} h => ?_
      have h : ¬ datC (Dat.of y) (Dat.of x) < 0 := h
      have := cm_dat.anti (Dat.of x) (Dat.of y)
      omega
@[go_sem] theorem all_set {l : List RSet} : (∀ r ∈ l.map RSet.d, r.length = 4) = True := by
  apply eq_true
  intro r hr
  obtain ⟨x, _, rfl⟩ := List.mem_map.1 hr
  rfl
@[go_sem] theorem all_dat {l : List Dat} : (∀ r ∈ l.map Dat.d, r.length = 3) = True := by
  apply eq_true
  intro r hr
  obtain ⟨x, _, rfl⟩ := List.mem_map.1 hr
  rfl
theorem dat_eq {x y : Dat} (h : (x.t == y.t && (x.n == y.n && x.m == y.m)) = true) : x = y := by
  obtain ⟨a, b, c⟩ := x
  obtain ⟨d, e, f⟩ := y
  simp at h
  simp [h]
theorem bo29 : hasBody Tryd.prog 29 = true := by kernel_rfl
theorem clone_ct (l : List RSet) (h : H) (n : Nat) (h0 : 0 < l.length) (hl : l.length ≤ 100000) : RCt Tryd.prog 29 [.list false (l.map RSet.d)] h n (fun d h' n' => ∃ r', d = .mrow r' 0 l.length ∧ h' = upd h r' (some ⟨24, (l).map RSet.d⟩) ∧ n ≤ r' ∧ r' < n') := by
  refine rct_of_dw Tryd.func29 rfl bo29 (by simp [Tryd.f29]) (fun hnone => ?_)
  unfold Tryd.f29
  refine dw_step (C := Rn) (by simp only [go_sem]; exact rfl) (fun h => by cases h) ?_ ?_
  · try simp only [go_sem]
    all_goals (first | done | (repeat' (with_reducible apply And.intro)) <;> first | omega | (with_reducible assumption) | (intros; omega) | (intros; simp only [decide_eq_true_eq, decide_eq_false_iff_not, Bool.or_eq_true, Bool.and_eq_true, Bool.or_eq_false_iff, Bool.not_eq_true', Bool.not_eq_false'] at *; omega) | (simp_all; done) | (simp_all; omega))
  refine dw_seq ?_
  refine dw_seq (dw_seg ?_)
  refine seg_eqnil (C := Rn) 1 (e := 24) (by omega) (arr_at rfl) rfl rfl (by kernel_rfl) (by simp only [List.drop_succ_cons, List.drop_zero, List.take_succ_cons, List.take_zero, S.put, Nat.sub_self, go_sem]; exact rfl) ?_ (by rfl) (by simp only [go_sem]; exact rfl) (fun y hy => ?_)
  · try simp only [go_sem]
    all_goals (first | done | (repeat' (with_reducible apply And.intro)) <;> first | omega | (with_reducible assumption) | (intros; omega) | (intros; simp only [decide_eq_true_eq, decide_eq_false_iff_not, Bool.or_eq_true, Bool.and_eq_true, Bool.or_eq_false_iff, Bool.not_eq_true', Bool.not_eq_false'] at *; omega) | (simp_all; done) | (simp_all; omega))
  refine seg_done (C := Rn) (by first | decide | simp) (by simp only [List.drop_succ_cons, List.drop_zero, List.take_succ_cons, List.take_zero, S.put, Nat.sub_self, go_sem]; exact rfl) ?_ rfl ?_
  · try simp only [go_sem]
    all_goals (first | done | (repeat' (with_reducible apply And.intro)) <;> first | omega | (with_reducible assumption) | (intros; omega) | (intros; simp only [decide_eq_true_eq, decide_eq_false_iff_not, Bool.or_eq_true, Bool.and_eq_true, Bool.or_eq_false_iff, Bool.not_eq_true', Bool.not_eq_false'] at *; omega) | (simp_all; done) | (simp_all; omega))
  try simp only [clear_eq]
  refine dw_cond (by simp only [go_sem]; exact rfl) (fun c1 => ?_) (fun c1 => ?_)
  · skip
    exact absurd (hy c1) (by cases l with | nil => simp at h0 | cons a b => simp)
  · skip
    refine dw_skip ?_
    show DW _ _ _ _ _
    refine dw_step (C := Rn) (by simp only [go_sem]; exact rfl) (fun h => by cases h) ?_ ?_
    · try simp only [go_sem]
      all_goals (first | done | (repeat' (with_reducible apply And.intro)) <;> first | omega | (with_reducible assumption) | (intros; omega) | (intros; simp only [decide_eq_true_eq, decide_eq_false_iff_not, Bool.or_eq_true, Bool.and_eq_true, Bool.or_eq_false_iff, Bool.not_eq_true', Bool.not_eq_false'] at *; omega) | (simp_all; done) | (simp_all; omega))
    refine dw_ret ?_
    refine ⟨(by first | exact .inr rfl | trivial | simp), ?_, ?_⟩
    · simp only [go_sem]
    refine ⟨upd h (n + 5) (some ⟨24, (l).map RSet.d⟩), _, ?_, Nat.le_refl _, ?_⟩
    · exact fun _ => .inl rfl
    · try simp only [go_sem]
      all_goals (exact ⟨n + 5, by simp, by simp, by omega, by omega⟩)
theorem bo65 : hasBody Tryd.prog 65 = true := by kernel_rfl
theorem compact_ct (l : List Dat) (m r : Nat) (h : H) (n : Nat) (hm : m = l.length) (hl : l.length ≤ 100000) (hr : h r = some ⟨48, (l).map Dat.d⟩) (hs : Strict datC l) : RCt Tryd.prog 65 [.mrow r 0 m] h n (fun d h' n' => d = .mrow r 0 m ∧ h' = h ∧ n ≤ n') := by
  refine rct_of_dw Tryd.func65 rfl bo65 (by simp [Tryd.f65]) (fun hnone => ?_)
  unfold Tryd.f65
  subst hm
  refine dw_step (C := Rn) (by simp only [go_sem, hr]; exact rfl) (fun h => by cases h) ?_ ?_
  · try simp only [go_sem, hr]
    all_goals (first | done | (repeat' (with_reducible apply And.intro)) <;> first | omega | (with_reducible assumption) | (intros; omega) | (intros; simp only [decide_eq_true_eq, decide_eq_false_iff_not, Bool.or_eq_true, Bool.and_eq_true, Bool.or_eq_false_iff, Bool.not_eq_true', Bool.not_eq_false'] at *; omega) | (simp_all; done) | (simp_all; omega))
  refine dw_seq ?_
  refine dw_step (C := Rn) (by simp only [go_sem, hr]; exact rfl) (fun h => by cases h) ?_ ?_
  · try simp only [go_sem, hr]
    all_goals (first | done | (repeat' (with_reducible apply And.intro)) <;> first | omega | (with_reducible assumption) | (intros; omega) | (intros; simp only [decide_eq_true_eq, decide_eq_false_iff_not, Bool.or_eq_true, Bool.and_eq_true, Bool.or_eq_false_iff, Bool.not_eq_true', Bool.not_eq_false'] at *; omega) | (simp_all; done) | (simp_all; omega))
  refine dw_cond (by simp only [go_sem, hr]; exact rfl) (fun c1 => ?_) (fun c1 => ?_)
  · skip
    try simp only [decide_eq_true_eq, decide_eq_false_iff_not, Bool.or_eq_true, Bool.and_eq_true, Bool.or_eq_false_iff, Bool.not_eq_true', Bool.not_eq_false', Bool.and_eq_false_iff, beq_iff_eq, beq_eq_false_iff_ne, bne_iff_ne, bne_eq_false_iff_eq, ne_eq] at c1
    refine dw_step (C := Rn) (by simp only [go_sem, hr]; exact rfl) (fun h => by cases h) ?_ ?_
    · try simp only [go_sem, hr]
      all_goals (first | done | (repeat' (with_reducible apply And.intro)) <;> first | omega | (with_reducible assumption) | (intros; omega) | (intros; simp only [decide_eq_true_eq, decide_eq_false_iff_not, Bool.or_eq_true, Bool.and_eq_true, Bool.or_eq_false_iff, Bool.not_eq_true', Bool.not_eq_false'] at *; omega) | (simp_all; done) | (simp_all; omega))
    refine dw_ret ?_
    refine ⟨(by first | exact .inr rfl | trivial | simp), ?_, ?_⟩
    · simp only [go_sem, hr]
    refine ⟨h, _, ?_, Nat.le_refl _, ?_⟩
    · exact fun _ => .inl rfl
    · try simp only [go_sem, hr]
      all_goals (first | exact ⟨rfl, rfl, by omega⟩ | (simp; omega) | omega)
  · skip
    try simp only [decide_eq_true_eq, decide_eq_false_iff_not, Bool.or_eq_true, Bool.and_eq_true, Bool.or_eq_false_iff, Bool.not_eq_true', Bool.not_eq_false', Bool.and_eq_false_iff, beq_iff_eq, beq_eq_false_iff_ne, bne_iff_ne, bne_eq_false_iff_eq, ne_eq] at c1
    refine dw_skip ?_
    show DW _ _ _ _ _
    refine dw_seq ?_
    refine dw_step (C := Rn) (by simp only [go_sem, hr]; exact rfl) (fun h => by cases h) ?_ ?_
    · try simp only [go_sem, hr]
      all_goals (first | done | (repeat' (with_reducible apply And.intro)) <;> first | omega | (with_reducible assumption) | (intros; omega) | (intros; simp only [decide_eq_true_eq, decide_eq_false_iff_not, Bool.or_eq_true, Bool.and_eq_true, Bool.or_eq_false_iff, Bool.not_eq_true', Bool.not_eq_false'] at *; omega) | (simp_all; done) | (simp_all; omega))
    refine dw_block ?_
    refine dw_loop_h (α := (Nat) × Nat) [0] (fun ⟨k, nx⟩ => (1 ≤ k) ∧ (n ≤ nx) ∧ True) (fun ⟨k, nx⟩ => l.length - k) (fun ⟨k, nx⟩ => [(3, .i k)]) (fun ⟨k, nx⟩ => h) (fun ⟨k, nx⟩ => nx) (1, _) (by simp only [List.map_cons, List.map_nil, go_sem, hr]; exact rfl) ⟨(by first | (first | omega | (with_reducible assumption) | (simp_all; done) | (simp_all; omega)) | (dsimp only; first | omega | (with_reducible assumption) | (simp_all; done) | (simp_all; omega))), (by first | (first | omega | (with_reducible assumption) | (simp_all; done) | (simp_all; omega)) | (dsimp only; first | omega | (with_reducible assumption) | (simp_all; done) | (simp_all; omega))), trivial⟩ (by first | (simp only [go_sem, hr]; done) | (simp [go_sem, hr]; done) | (simp only [go_sem, hr]; (repeat' (with_reducible apply And.intro)) <;> first | (left; simp; done) | (right; simp [go_sem]; done))) (by exact less_refl _) (Nat.le_refl _) ?_
    rintro ⟨k, nx⟩ ⟨hk, hn, -⟩
    show DW _ _ _ _ { n := _, t := tab _, h := _, nx := _, e := _ }
    simp only [List.cons_append, List.nil_append]
    refine dw_seq ?_
    refine dw_step (C := Rn) (by simp only [go_sem, hr]; exact rfl) (fun h => by cases h) ?_ ?_
    · try simp only [go_sem, hr]
      all_goals (first | done | (repeat' (with_reducible apply And.intro)) <;> first | omega | (with_reducible assumption) | (intros; omega) | (intros; simp only [decide_eq_true_eq, decide_eq_false_iff_not, Bool.or_eq_true, Bool.and_eq_true, Bool.or_eq_false_iff, Bool.not_eq_true', Bool.not_eq_false'] at *; omega) | (simp_all; done) | (simp_all; omega))
    refine dw_cond (by simp only [go_sem, hr]; exact rfl) (fun c2 => ?_) (fun c2 => ?_)
    · skip
      have hk2 : k < l.length := by simpa using c2
      have e1 : ((k:Int) - 1).toNat = k - 1 := by omega
      have hk1 : k - 1 < l.length := by omega
      refine dw_skip ?_
      show DW _ _ _ _ _
      refine dw_seq ?_
      refine dw_block ?_
      refine dw_step (C := Rn) (by simp only [go_sem, hr, e1, getD_dat hk2, getD_dat hk1]; exact rfl) (fun _ => ⟨mix, by kernel_rfl, by kernel_rfl⟩) ?_ ?_
      · try simp only [go_sem, hr, e1, getD_dat hk2, getD_dat hk1]
        all_goals (first | done | (repeat' (with_reducible apply And.intro)) <;> first | omega | (with_reducible assumption) | (intros; omega) | (intros; simp only [decide_eq_true_eq, decide_eq_false_iff_not, Bool.or_eq_true, Bool.and_eq_true, Bool.or_eq_false_iff, Bool.not_eq_true', Bool.not_eq_false'] at *; omega) | (simp_all; done) | (simp_all; omega))
      refine dw_cond (by simp only [go_sem, hr, e1, getD_dat hk2, getD_dat hk1]; exact rfl) (fun c3 => ?_) (fun c3 => ?_)
      · skip
        have q := at_of_strict hs (i := k - 1) (j := k) (by omega) hk2; rw [dat_eq c3, cm_dat.self] at q; omega
      · skip
        refine dw_skip ?_
        show DW _ _ _ _ _
        refine dw_reg (C := Rn) (by simp only [go_sem, hr, e1, getD_dat hk2, getD_dat hk1]; exact rfl) (fun h => by cases h) ?_ ?_
        · try simp only [go_sem, hr, e1, getD_dat hk2, getD_dat hk1]
          all_goals (first | done | (repeat' (with_reducible apply And.intro)) <;> first | omega | (with_reducible assumption) | (intros; omega) | (intros; simp only [decide_eq_true_eq, decide_eq_false_iff_not, Bool.or_eq_true, Bool.and_eq_true, Bool.or_eq_false_iff, Bool.not_eq_true', Bool.not_eq_false'] at *; omega) | (simp_all; done) | (simp_all; omega))
        show ∃ _, _
        refine ⟨(k + 1, _), ⟨(by first | (first | omega | (with_reducible assumption) | (simp_all; done) | (simp_all; omega)) | (dsimp only; first | omega | (with_reducible assumption) | (simp_all; done) | (simp_all; omega))), (by first | (first | omega | (with_reducible assumption) | (simp_all; done) | (simp_all; omega)) | (dsimp only; first | omega | (with_reducible assumption) | (simp_all; done) | (simp_all; omega))), trivial⟩, (by show (_ : Nat) < _; first | omega | simp_all; omega), ?_, ?_, ?_, Nat.le_refl _, rfl, rfl⟩
        · try simp only [go_sem, hr, e1, getD_dat hk2, getD_dat hk1]
          all_goals (first | done | (simp; done) | (simp; omega) | ((repeat' (with_reducible apply And.intro)) <;> first | (left; simp; done) | (right; simp [go_sem]; done)))
        · try simp only [go_sem, hr, e1, getD_dat hk2, getD_dat hk1]
          all_goals (first | done | (simp; done) | (simp; omega) | ((repeat' (with_reducible apply And.intro)) <;> first | (left; simp; done) | (right; simp [go_sem]; done)))
        · skip
          exact less_refl _
    · skip
      try simp only [decide_eq_true_eq, decide_eq_false_iff_not, Bool.or_eq_true, Bool.and_eq_true, Bool.or_eq_false_iff, Bool.not_eq_true', Bool.not_eq_false', Bool.and_eq_false_iff, beq_iff_eq, beq_eq_false_iff_ne, bne_iff_ne, bne_eq_false_iff_eq, ne_eq] at c2
      refine dw_exit ?_
      show DW _ _ _ _ _
      refine dw_step (C := Rn) (by simp only [go_sem, hr]; exact rfl) (fun h => by cases h) ?_ ?_
      · try simp only [go_sem, hr]
        all_goals (first | done | (repeat' (with_reducible apply And.intro)) <;> first | omega | (with_reducible assumption) | (intros; omega) | (intros; simp only [decide_eq_true_eq, decide_eq_false_iff_not, Bool.or_eq_true, Bool.and_eq_true, Bool.or_eq_false_iff, Bool.not_eq_true', Bool.not_eq_false'] at *; omega) | (simp_all; done) | (simp_all; omega))
      refine dw_ret ?_
      refine ⟨(by first | exact .inr rfl | trivial | simp), ?_, ?_⟩
      · simp only [go_sem, hr]
      refine ⟨h, _, ?_, Nat.le_refl _, ?_⟩
      · exact fun _ => .inl rfl
      · try simp only [go_sem, hr]
        all_goals (first | exact ⟨rfl, rfl, by omega⟩ | (simp; omega) | omega)

end Go.Proofs.YtfggmgafjabbjaaDoor
