import Derived.Test.YtfggmgafjabbjaaDoorRcW5
import Derived.Test.YtfggmgafjabbjaaDoorDFrame
namespace Go.Proofs.YtfggmgafjabbjaaDoor
open Go.DL Go.Str Go.Rec Go.Cmp
set_option maxRecDepth 10000
set_option linter.unusedSimpArgs false
set_option linter.unusedVariables false
@[go_sem] theorem all_bD {t : Str} : (∀ r ∈ t.map bD, r.length = 1) = True := by
  apply eq_true
  intro r hr
  obtain ⟨x, _, rfl⟩ := List.mem_map.1 hr
  rfl
theorem rows_text' (b t : Str) : (b.map bD ++ [[.v (.int .u8 ((lenB t.length).toNat : Int))]]) ++ t.map bD = (b ++ textB t).map bD := by
  simp [textB, bD]
theorem textB_len (t : Str) : (textB t).length = t.length + 1 := rfl
theorem drop_dat {l : List Dat} {k : Nat} (h : k < l.length) : l.drop k = l[k]! :: l.drop (k + 1) := by
  rw [List.drop_eq_getElem_cons h, getElem!_pos l k h]
theorem take8 (m : Int) {k : Nat} (h : k < 8) : (be8 m).take (k + 1) = (be8 m).take k ++ [byteAt (uN m) (56 - 8 * k)] := by
  have : k = 0 ∨ k = 1 ∨ k = 2 ∨ k = 3 ∨ k = 4 ∨ k = 5 ∨ k = 6 ∨ k = 7 := by omega
  rcases this with e | e | e | e | e | e | e | e <;> subst e <;> rfl
theorem num_wrap (m : Int) (s : Nat) (hs : s ≤ 56) : IntKind.u8.wrap ((IntKind.u64.wrap m).fdiv (2 ^ (min s 64))) = ((byteAt (uN m) s).toNat : Int) := by
  have e1 : IntKind.u64.wrap m = (uN m : Int) := by rw [IntKind.wrap_u64]; unfold uN; omega
  rw [e1, IntKind.wrap_u8, Nat.min_eq_left (by omega), byteAt_n]
  rw [Int.fdiv_eq_ediv_of_nonneg _ (by exact_mod_cast Nat.zero_le _)]
  norm_cast
theorem bo44 : hasBody Tryd.prog 44 = true := by kernel_rfl
theorem appText_ct (b t : Str) (r : Nat) (h : H) (n : Nat) (hr : h r = some ⟨5, b.map bD⟩) (hl : b.length ≤ 1000000) (ht : t.length ≤ 1000000) : RCt Tryd.prog 44 [.mrow r 0 b.length, .v (.string (bs t))] h n (fun d h' n' => ∃ r', d = .mrow r' 0 (b ++ textB t).length ∧ h' = upd (upd h r none) r' (some ⟨5, (b ++ textB t).map bD⟩) ∧ n ≤ r' ∧ r' < n') := by
  refine rct_of_dw Tryd.func44 rfl bo44 (by simp [Tryd.f44]) (fun hnone => ?_)
  unfold Tryd.f44
  have hrn : r < n := by rcases Nat.lt_or_ge r n with q | q; exact q; rw [hnone r q] at hr; cases hr
  refine dw_step (C := Rn) (by simp only [go_sem, hr, hrn]; exact rfl) (fun h => by cases h) ?_ ?_
  · try simp only [go_sem, hr, hrn]
    all_goals (first | done | (repeat' (with_reducible apply And.intro)) <;> first | omega | (with_reducible assumption) | (intros; omega) | (intros; simp only [decide_eq_true_eq, decide_eq_false_iff_not, Bool.or_eq_true, Bool.and_eq_true, Bool.or_eq_false_iff, Bool.not_eq_true', Bool.not_eq_false'] at *; omega) | (simp_all; done) | (simp_all; omega))
  refine dw_step (C := Rn) (by simp only [go_sem, hr, hrn]; exact rfl) (fun h => by cases h) ?_ ?_
  · try simp only [go_sem, hr, hrn]
    all_goals (first | done | (repeat' (with_reducible apply And.intro)) <;> first | omega | (with_reducible assumption) | (intros; omega) | (intros; simp only [decide_eq_true_eq, decide_eq_false_iff_not, Bool.or_eq_true, Bool.and_eq_true, Bool.or_eq_false_iff, Bool.not_eq_true', Bool.not_eq_false'] at *; omega) | (simp_all; done) | (simp_all; omega))
  refine dw_step (C := Rn) (by simp only [go_sem, hr, hrn]; exact rfl) (fun h => by cases h) ?_ ?_
  · try simp only [go_sem, hr, hrn]
    all_goals (first | done | (repeat' (with_reducible apply And.intro)) <;> first | omega | (with_reducible assumption) | (intros; omega) | (intros; simp only [decide_eq_true_eq, decide_eq_false_iff_not, Bool.or_eq_true, Bool.and_eq_true, Bool.or_eq_false_iff, Bool.not_eq_true', Bool.not_eq_false'] at *; omega) | (simp_all; done) | (simp_all; omega))
  refine dw_ret ?_
  refine ⟨(by first | exact .inr rfl | trivial | simp), ?_, ?_⟩
  · simp only [go_sem, hr, hrn]
  refine ⟨upd (upd h r none) (n + 10) (some ⟨5, (b ++ textB t).map bD⟩), _, ?_, Nat.le_refl _, ?_⟩
  · rw [← rows_text']; exact fr_step (r1 := n + 6) (.inr (hnone _ (by omega)))
  · try simp only [go_sem, hr, hrn]
    all_goals (exact ⟨n + 10, by simp [textB]; omega, rfl, by omega, by omega⟩)
theorem bo45 : hasBody Tryd.prog 45 = true := by kernel_rfl
theorem appNum_ct (b : Str) (m : Int) (r : Nat) (h : H) (n : Nat) (hr : h r = some ⟨5, b.map bD⟩) (hl : b.length ≤ 1000000) : RCt Tryd.prog 45 [.mrow r 0 b.length, .i m] h n (fun d h' n' => ∃ r', d = .mrow r' 0 (b ++ be8 m).length ∧ h' = upd (upd h r none) r' (some ⟨5, (b ++ be8 m).map bD⟩) ∧ n ≤ r' ∧ r' < n') := by
  refine rct_of_dw Tryd.func45 rfl bo45 (by simp [Tryd.f45]) (fun hnone => ?_)
  unfold Tryd.f45
  have hrn : r < n := by rcases Nat.lt_or_ge r n with q | q; exact q; rw [hnone r q] at hr; cases hr
  refine dw_step (C := Rn) (by simp only [go_sem, hr, hrn]; exact rfl) (fun h => by cases h) ?_ ?_
  · try simp only [go_sem, hr, hrn]
    all_goals (first | done | (repeat' (with_reducible apply And.intro)) <;> first | omega | (with_reducible assumption) | (intros; omega) | (intros; simp only [decide_eq_true_eq, decide_eq_false_iff_not, Bool.or_eq_true, Bool.and_eq_true, Bool.or_eq_false_iff, Bool.not_eq_true', Bool.not_eq_false'] at *; omega) | (simp_all; done) | (simp_all; omega))
  refine dw_seq ?_
  refine dw_step (C := Rn) (by simp only [go_sem, hr, hrn]; exact rfl) (fun h => by cases h) ?_ ?_
  · try simp only [go_sem, hr, hrn]
    all_goals (first | done | (repeat' (with_reducible apply And.intro)) <;> first | omega | (with_reducible assumption) | (intros; omega) | (intros; simp only [decide_eq_true_eq, decide_eq_false_iff_not, Bool.or_eq_true, Bool.and_eq_true, Bool.or_eq_false_iff, Bool.not_eq_true', Bool.not_eq_false'] at *; omega) | (simp_all; done) | (simp_all; omega))
  refine dw_block ?_
  refine dw_loop_h (α := (Nat) × (Nat) × Nat) [1] (fun ⟨k, r1, nx⟩ => (k ≤ 8) ∧ (r1 = r ∧ k = 0 ∨ n ≤ r1) ∧ (r1 < nx) ∧ (n ≤ nx) ∧ True) (fun ⟨k, r1, nx⟩ => 9 - k) (fun ⟨k, r1, nx⟩ => [(0, .mrow r1 0 (b.length + k)), (5, .i (56 - 8 * k))]) (fun ⟨k, r1, nx⟩ => upd (upd h r none) r1 (some ⟨5, (b ++ (be8 m).take k).map bD⟩)) (fun ⟨k, r1, nx⟩ => nx) (0, r, _) (by simp only [List.map_cons, List.map_nil, go_sem, hr, hrn]; exact rfl) ⟨(by first | (first | omega | (with_reducible assumption) | (simp_all; done) | (simp_all; omega)) | (dsimp only; first | omega | (with_reducible assumption) | (simp_all; done) | (simp_all; omega))), (by first | (first | omega | (with_reducible assumption) | (simp_all; done) | (simp_all; omega)) | (dsimp only; first | omega | (with_reducible assumption) | (simp_all; done) | (simp_all; omega))), (by first | (first | omega | (with_reducible assumption) | (simp_all; done) | (simp_all; omega)) | (dsimp only; first | omega | (with_reducible assumption) | (simp_all; done) | (simp_all; omega))), (by first | (first | omega | (with_reducible assumption) | (simp_all; done) | (simp_all; omega)) | (dsimp only; first | omega | (with_reducible assumption) | (simp_all; done) | (simp_all; omega))), trivial⟩ (by first | (simp only [go_sem, hr, hrn]; done) | (simp [go_sem, hr, hrn]; done) | (simp only [go_sem, hr, hrn]; (repeat' (with_reducible apply And.intro)) <;> first | (left; simp; done) | (right; simp [go_sem]; done))) (by simp only [List.take_zero, List.append_nil]; exact fr_init hr) (Nat.le_refl _) ?_
  rintro ⟨k, r1, nx⟩ ⟨hk, h1, hx, hn, -⟩
  show DW _ _ _ _ { n := _, t := tab _, h := _, nx := _, e := _ }
  simp only [List.cons_append, List.nil_append]
  refine dw_seq ?_
  refine dw_step (C := Rn) (by simp only [go_sem, hr, hrn, hx]; exact rfl) (fun h => by cases h) ?_ ?_
  · try simp only [go_sem, hr, hrn, hx]
    all_goals (first | done | (repeat' (with_reducible apply And.intro)) <;> first | omega | (with_reducible assumption) | (intros; omega) | (intros; simp only [decide_eq_true_eq, decide_eq_false_iff_not, Bool.or_eq_true, Bool.and_eq_true, Bool.or_eq_false_iff, Bool.not_eq_true', Bool.not_eq_false'] at *; omega) | (simp_all; done) | (simp_all; omega))
  refine dw_cond (by simp only [go_sem, hr, hrn, hx]; exact rfl) (fun c1 => ?_) (fun c1 => ?_)
  · skip
    have hk2 : k < 8 := by have : (0 : Int) ≤ 56 - 8 * (k:Int) := (by simpa using c1); omega
    have e1 : (56 - 8 * (k:Int)).toNat = 56 - 8 * k := by omega
    have e2 := num_wrap m (56 - 8 * k) (by omega)
    refine dw_skip ?_
    show DW _ _ _ _ _
    refine dw_seq ?_
    refine dw_block ?_
    refine dw_reg (C := Rn) (by simp only [go_sem, hr, hrn, hx, e1, e2]; exact rfl) (fun h => by cases h) ?_ ?_
    · try simp only [go_sem, hr, hrn, hx, e1, e2, be8_len, List.length_take, List.length_append]
      all_goals (first | done | (repeat' (with_reducible apply And.intro)) <;> first | omega | (with_reducible assumption) | (intros; omega) | (intros; simp only [decide_eq_true_eq, decide_eq_false_iff_not, Bool.or_eq_true, Bool.and_eq_true, Bool.or_eq_false_iff, Bool.not_eq_true', Bool.not_eq_false'] at *; omega) | (simp_all; done) | (simp_all; omega))
    show DW _ _ _ _ _
    refine dw_reg (C := Rn) (by simp only [go_sem, hr, hrn, hx, e1, e2]; exact rfl) (fun h => by cases h) ?_ ?_
    · try simp only [go_sem, hr, hrn, hx, e1, e2]
      all_goals (first | done | (repeat' (with_reducible apply And.intro)) <;> first | omega | (with_reducible assumption) | (intros; omega) | (intros; simp only [decide_eq_true_eq, decide_eq_false_iff_not, Bool.or_eq_true, Bool.and_eq_true, Bool.or_eq_false_iff, Bool.not_eq_true', Bool.not_eq_false'] at *; omega) | (simp_all; done) | (simp_all; omega))
    show ∃ _, _
    refine ⟨(k + 1, (nx + 9), _), ⟨(by first | (first | omega | (with_reducible assumption) | (simp_all; done) | (simp_all; omega)) | (dsimp only; first | omega | (with_reducible assumption) | (simp_all; done) | (simp_all; omega))), (by first | (first | omega | (with_reducible assumption) | (simp_all; done) | (simp_all; omega)) | (dsimp only; first | omega | (with_reducible assumption) | (simp_all; done) | (simp_all; omega))), (by first | (first | omega | (with_reducible assumption) | (simp_all; done) | (simp_all; omega)) | (dsimp only; first | omega | (with_reducible assumption) | (simp_all; done) | (simp_all; omega))), (by first | (first | omega | (with_reducible assumption) | (simp_all; done) | (simp_all; omega)) | (dsimp only; first | omega | (with_reducible assumption) | (simp_all; done) | (simp_all; omega))), trivial⟩, (by show (_ : Nat) < _; first | omega | simp_all; omega), ?_, ?_, ?_, Nat.le_refl _, rfl, rfl⟩
    · try simp only [go_sem, hr, hrn, hx, e1, e2]
      all_goals (first | done | (simp; done) | (simp; omega) | ((repeat' (with_reducible apply And.intro)) <;> first | (left; simp; done) | (right; simp [go_sem]; done)))
    · try simp only [go_sem, hr, hrn, hx, e1, e2]
      all_goals (first | done | (simp; done) | (simp; omega) | ((repeat' (with_reducible apply And.intro)) <;> first | (left; simp; done) | (right; simp [go_sem]; done)))
    · skip
      rw [take8 m hk2, ← List.append_assoc, List.map_append, List.map_append]
      exact fr_step (h1.imp (fun q => q.1) fun q => hnone _ q)
  · skip
    have hk3 : k = 8 := by have : ¬ (0 : Int) ≤ 56 - 8 * (k:Int) := (by simpa using c1); omega
    subst hk3
    refine dw_exit ?_
    show DW _ _ _ _ _
    refine dw_step (C := Rn) (by simp only [go_sem, hr, hrn, hx]; exact rfl) (fun h => by cases h) ?_ ?_
    · try simp only [go_sem, hr, hrn, hx]
      all_goals (first | done | (repeat' (with_reducible apply And.intro)) <;> first | omega | (with_reducible assumption) | (intros; omega) | (intros; simp only [decide_eq_true_eq, decide_eq_false_iff_not, Bool.or_eq_true, Bool.and_eq_true, Bool.or_eq_false_iff, Bool.not_eq_true', Bool.not_eq_false'] at *; omega) | (simp_all; done) | (simp_all; omega))
    refine dw_ret ?_
    refine ⟨(by first | exact .inr rfl | trivial | simp), ?_, ?_⟩
    · simp only [go_sem, hr, hrn, hx]
    refine ⟨upd (upd h r none) r1 (some ⟨5, (b ++ be8 m).map bD⟩), _, ?_, Nat.le_refl _, ?_⟩
    · exact fun _ => .inl rfl
    · try simp only [go_sem, hr, hrn, hx]
      all_goals (exact ⟨r1, by simp [be8_len], rfl, by omega, by omega⟩)
theorem bo17 : hasBody Tryd.prog 17 = true := by kernel_rfl
theorem rbytes_ct (s : RSet) : PureCt Tryd.prog 17 [.agg s.d] (.tuple [.list false ((bytesF s).1.map bD), .i (bytesF s).2]) := by
  refine pure_of_dw Tryd.func17 rfl bo17 (by simp [go_sem, D.nr, nrs, nrr]) (by simp [Tryd.f17]) ?_
  unfold Tryd.f17
  simp only [init_eq]
  refine dw_step (C := Rn) (by simp only [go_sem]; exact rfl) (fun h => by cases h) ?_ ?_
  · try simp only [go_sem]
    all_goals (first | done | (repeat' (with_reducible apply And.intro)) <;> first | omega | (with_reducible assumption) | (intros; omega) | (intros; simp only [decide_eq_true_eq, decide_eq_false_iff_not, Bool.or_eq_true, Bool.and_eq_true, Bool.or_eq_false_iff, Bool.not_eq_true', Bool.not_eq_false'] at *; omega) | (simp_all; done) | (simp_all; omega))
  refine dw_seq ?_
  refine dw_step (C := Rn) (by simp only [go_sem]; exact rfl) (fun h => by cases h) ?_ ?_
  · try simp only [go_sem]
    all_goals (exact rvalid_ct _)
  refine dw_cond (by simp only [go_sem]; exact rfl) (fun c1 => ?_) (fun c1 => ?_)
  · skip
    try simp only [decide_eq_true_eq, decide_eq_false_iff_not, Bool.or_eq_true, Bool.and_eq_true, Bool.or_eq_false_iff, Bool.not_eq_true', Bool.not_eq_false', Bool.and_eq_false_iff, beq_iff_eq, beq_eq_false_iff_ne, bne_iff_ne, bne_eq_false_iff_eq, ne_eq] at c1
    refine dw_step (C := Rn) (by simp only [go_sem]; exact rfl) (fun h => by cases h) ?_ ?_
    · try simp only [go_sem]
      all_goals (first | done | (repeat' (with_reducible apply And.intro)) <;> first | omega | (with_reducible assumption) | (intros; omega) | (intros; simp only [decide_eq_true_eq, decide_eq_false_iff_not, Bool.or_eq_true, Bool.and_eq_true, Bool.or_eq_false_iff, Bool.not_eq_true', Bool.not_eq_false'] at *; omega) | (simp_all; done) | (simp_all; omega))
    refine dw_ret ?_
    refine ⟨(by first | exact .inr rfl | trivial | simp), ?_, ?_⟩
    · simp only [go_sem]
    refine ⟨2, ?_, ?_⟩
    · try simp only [go_sem]
      all_goals (simp)
    · try simp only [go_sem]
      all_goals (simp [bytesF, c1])
  · skip
    try simp only [decide_eq_true_eq, decide_eq_false_iff_not, Bool.or_eq_true, Bool.and_eq_true, Bool.or_eq_false_iff, Bool.not_eq_true', Bool.not_eq_false', Bool.and_eq_false_iff, beq_iff_eq, beq_eq_false_iff_ne, bne_iff_ne, bne_eq_false_iff_eq, ne_eq] at c1
    have hs := (setOk_iff s).1 c1
    have hl8 := hs.len
    have hn60 := nameOk_len hs.name
    refine dw_skip ?_
    show DW _ _ _ _ _
    refine dw_step (C := Rn) (by simp only [go_sem]; exact rfl) (fun h => by cases h) ?_ ?_
    · try simp only [go_sem]
      all_goals (first | done | (repeat' (with_reducible apply And.intro)) <;> first | omega | (with_reducible assumption) | (intros; omega) | (intros; simp only [decide_eq_true_eq, decide_eq_false_iff_not, Bool.or_eq_true, Bool.and_eq_true, Bool.or_eq_false_iff, Bool.not_eq_true', Bool.not_eq_false'] at *; omega) | (simp_all; done) | (simp_all; omega))
    refine dw_own 4 5 (by simp only [go_sem]) (by simp only [go_sem]) ?_
    refine dw_seq (dw_call (C := Rn) 3 (R := _) (arr_at rfl) rfl rfl (by simp only [List.take_succ_cons, List.take_zero, go_sem]; exact rfl) ?_ ?_ (by simp only [go_sem]; exact rfl) (by simp only [go_sem]) (by simp only [go_sem]; exact rfl) (by exact appText_ct [] s.name 7 _ _ rfl (by simp) (by omega)) ?_)
    · try simp only [go_sem]
      all_goals (first | done | (repeat' (with_reducible apply And.intro)) <;> first | omega | (with_reducible assumption) | (intros; omega) | (intros; simp only [decide_eq_true_eq, decide_eq_false_iff_not, Bool.or_eq_true, Bool.and_eq_true, Bool.or_eq_false_iff, Bool.not_eq_true', Bool.not_eq_false'] at *; omega) | (simp_all; done) | (simp_all; omega))
    · try simp only [go_sem]
      all_goals (first | done | rfl | decide | simp)
    rintro res h2 n2 ⟨r1, rfl, rfl, ar1, br1⟩
    dsimp only at ar1 br1
    have z1r1 : (0 = r1) = False := eq_false (by omega)
    have z2r1 : (r1 = 0) = False := eq_false (by omega)
    have pr1 : 0 < n2 := by omega
    refine ⟨⟨_, _, _, _, _, _⟩, by simp only [List.drop_succ_cons, List.drop_zero, S.put, go_sem, z1r1, z2r1, br1, pr1]; exact rfl, ?_, ?_⟩
    · try simp only [go_sem, z1r1, z2r1, br1, pr1]
      all_goals (first | done | (repeat' (with_reducible apply And.intro)) <;> first | omega | (with_reducible assumption) | (intros; omega) | (intros; simp only [decide_eq_true_eq, decide_eq_false_iff_not, Bool.or_eq_true, Bool.and_eq_true, Bool.or_eq_false_iff, Bool.not_eq_true', Bool.not_eq_false'] at *; omega) | (simp_all; done) | (simp_all; omega))
    try simp only [clear_eq]
    show DW _ _ _ _ _
    refine dw_cut [1, 4] [(0, ⟨24, [s.d]⟩), (r1, ⟨5, (textB s.name).map bD⟩)] (by simp only [List.map_cons, List.map_nil, go_sem, z1r1, z2r1, br1, pr1]; exact rfl) (by first | (simp only [go_sem, z1r1, z2r1, br1, pr1]; done) | (simp [go_sem, z1r1, z2r1, br1, pr1]; done)) ?_
    show DW _ _ _ _ { n := _, t := tab _, h := _, nx := _, e := _ }
    refine dw_seq (dw_call (C := Rn) 3 (R := _) (arr_at rfl) rfl rfl (by simp only [List.take_succ_cons, List.take_zero, go_sem, z1r1, z2r1, br1, pr1]; exact rfl) ?_ ?_ (by simp only [go_sem, z1r1, z2r1, br1, pr1]; exact rfl) (by simp only [go_sem, z1r1, z2r1, br1, pr1]) (by simp only [go_sem, z1r1, z2r1, br1, pr1]; exact rfl) (by exact appNum_ct (textB s.name) s.ty r1 _ _ (by simp only [go_sem, z1r1, z2r1]) (by simp only [List.length_append, textB_len, be8_len]; omega)) ?_)
    · try simp only [go_sem, z1r1, z2r1, br1, pr1]
      all_goals (first | done | (repeat' (with_reducible apply And.intro)) <;> first | omega | (with_reducible assumption) | (intros; omega) | (intros; simp only [decide_eq_true_eq, decide_eq_false_iff_not, Bool.or_eq_true, Bool.and_eq_true, Bool.or_eq_false_iff, Bool.not_eq_true', Bool.not_eq_false'] at *; omega) | (simp_all; done) | (simp_all; omega))
    · try simp only [go_sem, z1r1, z2r1, br1, pr1]
      all_goals (first | done | rfl | decide | simp)
    rintro res h2 n2 ⟨r2, rfl, rfl, ar2, br2⟩
    dsimp only at ar2 br2
    have z1r2 : (0 = r2) = False := eq_false (by omega)
    have z2r2 : (r2 = 0) = False := eq_false (by omega)
    have pr2 : 0 < n2 := by omega
    refine ⟨⟨_, _, _, _, _, _⟩, by simp only [List.drop_succ_cons, List.drop_zero, S.put, go_sem, z1r1, z2r1, br1, pr1, z1r2, z2r2, br2, pr2]; exact rfl, ?_, ?_⟩
    · try simp only [go_sem, z1r1, z2r1, br1, pr1, z1r2, z2r2, br2, pr2]
      all_goals (first | done | (repeat' (with_reducible apply And.intro)) <;> first | omega | (with_reducible assumption) | (intros; omega) | (intros; simp only [decide_eq_true_eq, decide_eq_false_iff_not, Bool.or_eq_true, Bool.and_eq_true, Bool.or_eq_false_iff, Bool.not_eq_true', Bool.not_eq_false'] at *; omega) | (simp_all; done) | (simp_all; omega))
    try simp only [clear_eq]
    show DW _ _ _ _ _
    refine dw_cut [1, 4] [(0, ⟨24, [s.d]⟩), (r2, ⟨5, (textB s.name ++ be8 s.ty).map bD⟩)] (by simp only [List.map_cons, List.map_nil, go_sem, z1r1, z2r1, br1, pr1, z1r2, z2r2, br2, pr2]; exact rfl) (by first | (simp only [go_sem, z1r1, z2r1, br1, pr1, z1r2, z2r2, br2, pr2]; done) | (simp [go_sem, z1r1, z2r1, br1, pr1, z1r2, z2r2, br2, pr2]; done)) ?_
    show DW _ _ _ _ { n := _, t := tab _, h := _, nx := _, e := _ }
    refine dw_seq (dw_call (C := Rn) 3 (R := _) (arr_at rfl) rfl rfl (by simp only [List.take_succ_cons, List.take_zero, go_sem, z1r1, z2r1, br1, pr1, z1r2, z2r2, br2, pr2]; exact rfl) ?_ ?_ (by simp only [go_sem, z1r1, z2r1, br1, pr1, z1r2, z2r2, br2, pr2]; exact rfl) (by simp only [go_sem, z1r1, z2r1, br1, pr1, z1r2, z2r2, br2, pr2]) (by simp only [go_sem, z1r1, z2r1, br1, pr1, z1r2, z2r2, br2, pr2]; exact rfl) (by exact appNum_ct (textB s.name ++ be8 s.ty) s.life r2 _ _ (by simp only [go_sem, z1r2, z2r2]) (by simp only [List.length_append, textB_len, be8_len]; omega)) ?_)
    · try simp only [go_sem, z1r1, z2r1, br1, pr1, z1r2, z2r2, br2, pr2]
      all_goals (first | done | (repeat' (with_reducible apply And.intro)) <;> first | omega | (with_reducible assumption) | (intros; omega) | (intros; simp only [decide_eq_true_eq, decide_eq_false_iff_not, Bool.or_eq_true, Bool.and_eq_true, Bool.or_eq_false_iff, Bool.not_eq_true', Bool.not_eq_false'] at *; omega) | (simp_all; done) | (simp_all; omega))
    · try simp only [go_sem, z1r1, z2r1, br1, pr1, z1r2, z2r2, br2, pr2]
      all_goals (first | done | rfl | decide | simp)
    rintro res h2 n2 ⟨r3, rfl, rfl, ar3, br3⟩
    dsimp only at ar3 br3
    have z1r3 : (0 = r3) = False := eq_false (by omega)
    have z2r3 : (r3 = 0) = False := eq_false (by omega)
    have pr3 : 0 < n2 := by omega
    refine ⟨⟨_, _, _, _, _, _⟩, by simp only [List.drop_succ_cons, List.drop_zero, S.put, go_sem, z1r1, z2r1, br1, pr1, z1r2, z2r2, br2, pr2, z1r3, z2r3, br3, pr3]; exact rfl, ?_, ?_⟩
    · try simp only [go_sem, z1r1, z2r1, br1, pr1, z1r2, z2r2, br2, pr2, z1r3, z2r3, br3, pr3]
      all_goals (first | done | (repeat' (with_reducible apply And.intro)) <;> first | omega | (with_reducible assumption) | (intros; omega) | (intros; simp only [decide_eq_true_eq, decide_eq_false_iff_not, Bool.or_eq_true, Bool.and_eq_true, Bool.or_eq_false_iff, Bool.not_eq_true', Bool.not_eq_false'] at *; omega) | (simp_all; done) | (simp_all; omega))
    try simp only [clear_eq]
    show DW _ _ _ _ _
    refine dw_cut [1, 4] [(0, ⟨24, [s.d]⟩), (r3, ⟨5, (textB s.name ++ be8 s.ty ++ be8 s.life).map bD⟩)] (by simp only [List.map_cons, List.map_nil, go_sem, z1r1, z2r1, br1, pr1, z1r2, z2r2, br2, pr2, z1r3, z2r3, br3, pr3]; exact rfl) (by first | (simp only [go_sem, z1r1, z2r1, br1, pr1, z1r2, z2r2, br2, pr2, z1r3, z2r3, br3, pr3]; done) | (simp [go_sem, z1r1, z2r1, br1, pr1, z1r2, z2r2, br2, pr2, z1r3, z2r3, br3, pr3]; done)) ?_
    show DW _ _ _ _ { n := _, t := tab _, h := _, nx := _, e := _ }
    refine dw_step (C := Rn) (by simp only [go_sem, z1r1, z2r1, br1, pr1, z1r2, z2r2, br2, pr2, z1r3, z2r3, br3, pr3]; exact rfl) (fun h => by cases h) ?_ ?_
    · try simp only [go_sem, z1r1, z2r1, br1, pr1, z1r2, z2r2, br2, pr2, z1r3, z2r3, br3, pr3, textB_len, be8_len, List.length_append]
      all_goals (first | done | (repeat' (with_reducible apply And.intro)) <;> first | omega | (with_reducible assumption) | (intros; omega) | (intros; simp only [decide_eq_true_eq, decide_eq_false_iff_not, Bool.or_eq_true, Bool.and_eq_true, Bool.or_eq_false_iff, Bool.not_eq_true', Bool.not_eq_false'] at *; omega) | (simp_all; done) | (simp_all; omega))
    refine dw_seq ?_
    refine dw_step (C := Rn) (by simp only [go_sem, z1r1, z2r1, br1, pr1, z1r2, z2r2, br2, pr2, z1r3, z2r3, br3, pr3]; exact rfl) (fun h => by cases h) ?_ ?_
    · try simp only [go_sem, z1r1, z2r1, br1, pr1, z1r2, z2r2, br2, pr2, z1r3, z2r3, br3, pr3]
      all_goals (first | done | (repeat' (with_reducible apply And.intro)) <;> first | omega | (with_reducible assumption) | (intros; omega) | (intros; simp only [decide_eq_true_eq, decide_eq_false_iff_not, Bool.or_eq_true, Bool.and_eq_true, Bool.or_eq_false_iff, Bool.not_eq_true', Bool.not_eq_false'] at *; omega) | (simp_all; done) | (simp_all; omega))
    refine dw_block ?_
    refine dw_loop_fix (α := (Nat) × (Str) × (Nat) × Nat) [30, 31] (fun ⟨k, out, r, nx⟩ => (k ≤ s.data.length) ∧ (r < nx) ∧ (out.length ≤ 1000 + k * 300) ∧ (out ++ (s.data.drop k).flatMap datB = setB s) ∧ True) (fun ⟨k, out, r, nx⟩ => s.data.length - k) (fun ⟨k, out, r, nx⟩ => [(4, .mrow r 0 out.length), (32, .i k)]) (fun ⟨k, out, r, nx⟩ => [(r, ⟨5, (out).map bD⟩)]) (fun ⟨k, out, r, nx⟩ => nx) (0, textB s.name ++ be8 s.ty ++ be8 s.life ++ [lenB s.data.length], (n2 + 11), _) (by simp only [List.map_cons, List.map_nil, go_sem, z1r1, z2r1, br1, pr1, z1r2, z2r2, br2, pr2, z1r3, z2r3, br3, pr3]; exact rfl) ⟨(by first | (first | omega | (with_reducible assumption) | (simp_all; done) | (simp_all; omega)) | (dsimp only; first | omega | (with_reducible assumption) | (simp_all; done) | (simp_all; omega))), (by first | (first | omega | (with_reducible assumption) | (simp_all; done) | (simp_all; omega)) | (dsimp only; first | omega | (with_reducible assumption) | (simp_all; done) | (simp_all; omega))), (by first | (simp [textB, be8_len]; omega) | (dsimp only; simp [textB, be8_len]; omega)), (by first | (simp [setB]) | (dsimp only; simp [setB])), trivial⟩ (by first | (simp only [go_sem, z1r1, z2r1, br1, pr1, z1r2, z2r2, br2, pr2, z1r3, z2r3, br3, pr3]; done) | (simp [go_sem, z1r1, z2r1, br1, pr1, z1r2, z2r2, br2, pr2, z1r3, z2r3, br3, pr3]; done) | (simp only [go_sem, z1r1, z2r1, br1, pr1, z1r2, z2r2, br2, pr2, z1r3, z2r3, br3, pr3]; (repeat' (with_reducible apply And.intro)) <;> first | (left; simp; done) | (right; simp [go_sem]; done))) (by first | (simp only [go_sem, z1r1, z2r1, br1, pr1, z1r2, z2r2, br2, pr2, z1r3, z2r3, br3, pr3]; done) | simp [go_sem, z1r1, z2r1, br1, pr1, z1r2, z2r2, br2, pr2, z1r3, z2r3, br3, pr3]) (Nat.le_refl _) ?_
    rintro ⟨k, out, r, nx⟩ ⟨hk, hr, ho, hv, -⟩
    show DW _ _ _ _ { n := _, t := tab _, h := _, nx := _, e := _ }
    simp only [List.cons_append, List.nil_append]
    refine dw_step (C := Rn) (by simp only [go_sem, z1r1, z2r1, br1, pr1, z1r2, z2r2, br2, pr2, z1r3, z2r3, br3, pr3, hr]; exact rfl) (fun h => by cases h) ?_ ?_
    · try simp only [go_sem, z1r1, z2r1, br1, pr1, z1r2, z2r2, br2, pr2, z1r3, z2r3, br3, pr3, hr]
      all_goals (first | done | (repeat' (with_reducible apply And.intro)) <;> first | omega | (with_reducible assumption) | (intros; omega) | (intros; simp only [decide_eq_true_eq, decide_eq_false_iff_not, Bool.or_eq_true, Bool.and_eq_true, Bool.or_eq_false_iff, Bool.not_eq_true', Bool.not_eq_false'] at *; omega) | (simp_all; done) | (simp_all; omega))
    refine dw_seq ?_
    refine dw_cond (by simp only [go_sem, z1r1, z2r1, br1, pr1, z1r2, z2r2, br2, pr2, z1r3, z2r3, br3, pr3, hr]; exact rfl) (fun c2 => ?_) (fun c2 => ?_)
    · skip
      have hk2 : k < s.data.length := by simpa using c2
      have hd := (datOk_sz hs.ty (hs.dat _ (List.getElem_mem hk2))).2.1
      rw [← getElem!_pos s.data k hk2] at hd
      refine dw_skip ?_
      show DW _ _ _ _ _
      refine dw_seq ?_
      refine dw_block ?_
      refine dw_step (C := Rn) (by simp only [go_sem, z1r1, z2r1, br1, pr1, z1r2, z2r2, br2, pr2, z1r3, z2r3, br3, pr3, hr, getD_dat hk2]; exact rfl) (fun h => by cases h) ?_ ?_
      · try simp only [go_sem, z1r1, z2r1, br1, pr1, z1r2, z2r2, br2, pr2, z1r3, z2r3, br3, pr3, hr, getD_dat hk2]
        all_goals (first | done | (repeat' (with_reducible apply And.intro)) <;> first | omega | (with_reducible assumption) | (intros; omega) | (intros; simp only [decide_eq_true_eq, decide_eq_false_iff_not, Bool.or_eq_true, Bool.and_eq_true, Bool.or_eq_false_iff, Bool.not_eq_true', Bool.not_eq_false'] at *; omega) | (simp_all; done) | (simp_all; omega))
      refine dw_seq (dw_call (C := Rn) 3 (R := _) (arr_at rfl) rfl rfl (by simp only [List.take_succ_cons, List.take_zero, go_sem, z1r1, z2r1, br1, pr1, z1r2, z2r2, br2, pr2, z1r3, z2r3, br3, pr3, hr, getD_dat hk2]; exact rfl) ?_ ?_ (by simp only [go_sem, z1r1, z2r1, br1, pr1, z1r2, z2r2, br2, pr2, z1r3, z2r3, br3, pr3, hr, getD_dat hk2]; exact rfl) (by simp only [go_sem, z1r1, z2r1, br1, pr1, z1r2, z2r2, br2, pr2, z1r3, z2r3, br3, pr3, hr, getD_dat hk2]) (by simp only [go_sem, z1r1, z2r1, br1, pr1, z1r2, z2r2, br2, pr2, z1r3, z2r3, br3, pr3, hr, getD_dat hk2]; exact rfl) (by exact appText_ct out s.data[k]!.t r _ _ (by simp only [go_sem, hr]) (by omega) (by omega)) ?_)
      · try simp only [go_sem, z1r1, z2r1, br1, pr1, z1r2, z2r2, br2, pr2, z1r3, z2r3, br3, pr3, hr, getD_dat hk2]
        all_goals (first | done | (repeat' (with_reducible apply And.intro)) <;> first | omega | (with_reducible assumption) | (intros; omega) | (intros; simp only [decide_eq_true_eq, decide_eq_false_iff_not, Bool.or_eq_true, Bool.and_eq_true, Bool.or_eq_false_iff, Bool.not_eq_true', Bool.not_eq_false'] at *; omega) | (simp_all; done) | (simp_all; omega))
      · try simp only [go_sem, z1r1, z2r1, br1, pr1, z1r2, z2r2, br2, pr2, z1r3, z2r3, br3, pr3, hr, getD_dat hk2]
        all_goals (first | done | rfl | decide | simp)
      rintro res h2 n2 ⟨q1, rfl, rfl, aq1, bq1⟩
      dsimp only at aq1 bq1
      have z1q1 : (nx + 3 = q1) = False := eq_false (by omega)
      have z2q1 : (q1 = nx + 3) = False := eq_false (by omega)
      have pq1 : nx + 3 < n2 := by omega
      refine ⟨⟨_, _, _, _, _, _⟩, by simp only [List.drop_succ_cons, List.drop_zero, S.put, go_sem, z1r1, z2r1, br1, pr1, z1r2, z2r2, br2, pr2, z1r3, z2r3, br3, pr3, hr, getD_dat hk2, z1q1, z2q1, bq1, pq1]; exact rfl, ?_, ?_⟩
      · try simp only [go_sem, z1r1, z2r1, br1, pr1, z1r2, z2r2, br2, pr2, z1r3, z2r3, br3, pr3, hr, getD_dat hk2, z1q1, z2q1, bq1, pq1]
        all_goals (first | done | (repeat' (with_reducible apply And.intro)) <;> first | omega | (with_reducible assumption) | (intros; omega) | (intros; simp only [decide_eq_true_eq, decide_eq_false_iff_not, Bool.or_eq_true, Bool.and_eq_true, Bool.or_eq_false_iff, Bool.not_eq_true', Bool.not_eq_false'] at *; omega) | (simp_all; done) | (simp_all; omega))
      try simp only [clear_eq]
      show DW _ _ _ _ _
      refine dw_cut [4, 6, 30, 31, 32] [((nx + 3), ⟨48, [s.data[k]!.d]⟩), (q1, ⟨5, (out ++ textB s.data[k]!.t).map bD⟩)] (by simp only [List.map_cons, List.map_nil, go_sem, z1r1, z2r1, br1, pr1, z1r2, z2r2, br2, pr2, z1r3, z2r3, br3, pr3, hr, getD_dat hk2, z1q1, z2q1, bq1, pq1]; exact rfl) (by first | (simp only [go_sem, z1r1, z2r1, br1, pr1, z1r2, z2r2, br2, pr2, z1r3, z2r3, br3, pr3, hr, getD_dat hk2, z1q1, z2q1, bq1, pq1]; done) | (simp [go_sem, z1r1, z2r1, br1, pr1, z1r2, z2r2, br2, pr2, z1r3, z2r3, br3, pr3, hr, getD_dat hk2, z1q1, z2q1, bq1, pq1]; done)) ?_
      show DW _ _ _ _ { n := _, t := tab _, h := _, nx := _, e := _ }
      refine dw_seq (dw_call (C := Rn) 3 (R := _) (arr_at rfl) rfl rfl (by simp only [List.take_succ_cons, List.take_zero, go_sem, z1r1, z2r1, br1, pr1, z1r2, z2r2, br2, pr2, z1r3, z2r3, br3, pr3, hr, getD_dat hk2, z1q1, z2q1, bq1, pq1]; exact rfl) ?_ ?_ (by simp only [go_sem, z1r1, z2r1, br1, pr1, z1r2, z2r2, br2, pr2, z1r3, z2r3, br3, pr3, hr, getD_dat hk2, z1q1, z2q1, bq1, pq1]; exact rfl) (by simp only [go_sem, z1r1, z2r1, br1, pr1, z1r2, z2r2, br2, pr2, z1r3, z2r3, br3, pr3, hr, getD_dat hk2, z1q1, z2q1, bq1, pq1]) (by simp only [go_sem, z1r1, z2r1, br1, pr1, z1r2, z2r2, br2, pr2, z1r3, z2r3, br3, pr3, hr, getD_dat hk2, z1q1, z2q1, bq1, pq1]; exact rfl) (by exact appNum_ct (out ++ textB s.data[k]!.t) s.data[k]!.n q1 _ _ (by simp only [go_sem, z1q1, z2q1]) (by simp only [List.length_append, textB_len, be8_len]; omega)) ?_)
      · try simp only [go_sem, z1r1, z2r1, br1, pr1, z1r2, z2r2, br2, pr2, z1r3, z2r3, br3, pr3, hr, getD_dat hk2, z1q1, z2q1, bq1, pq1]
        all_goals (first | done | (repeat' (with_reducible apply And.intro)) <;> first | omega | (with_reducible assumption) | (intros; omega) | (intros; simp only [decide_eq_true_eq, decide_eq_false_iff_not, Bool.or_eq_true, Bool.and_eq_true, Bool.or_eq_false_iff, Bool.not_eq_true', Bool.not_eq_false'] at *; omega) | (simp_all; done) | (simp_all; omega))
      · try simp only [go_sem, z1r1, z2r1, br1, pr1, z1r2, z2r2, br2, pr2, z1r3, z2r3, br3, pr3, hr, getD_dat hk2, z1q1, z2q1, bq1, pq1]
        all_goals (first | done | rfl | decide | simp)
      rintro res h2 n2 ⟨q2, rfl, rfl, aq2, bq2⟩
      dsimp only at aq2 bq2
      have z1q2 : (nx + 3 = q2) = False := eq_false (by omega)
      have z2q2 : (q2 = nx + 3) = False := eq_false (by omega)
      have pq2 : nx + 3 < n2 := by omega
      refine ⟨⟨_, _, _, _, _, _⟩, by simp only [List.drop_succ_cons, List.drop_zero, S.put, go_sem, z1r1, z2r1, br1, pr1, z1r2, z2r2, br2, pr2, z1r3, z2r3, br3, pr3, hr, getD_dat hk2, z1q1, z2q1, bq1, pq1, z1q2, z2q2, bq2, pq2]; exact rfl, ?_, ?_⟩
      · try simp only [go_sem, z1r1, z2r1, br1, pr1, z1r2, z2r2, br2, pr2, z1r3, z2r3, br3, pr3, hr, getD_dat hk2, z1q1, z2q1, bq1, pq1, z1q2, z2q2, bq2, pq2]
        all_goals (first | done | (repeat' (with_reducible apply And.intro)) <;> first | omega | (with_reducible assumption) | (intros; omega) | (intros; simp only [decide_eq_true_eq, decide_eq_false_iff_not, Bool.or_eq_true, Bool.and_eq_true, Bool.or_eq_false_iff, Bool.not_eq_true', Bool.not_eq_false'] at *; omega) | (simp_all; done) | (simp_all; omega))
      try simp only [clear_eq]
      show DW _ _ _ _ _
      refine dw_cut [4, 6, 30, 31, 32] [((nx + 3), ⟨48, [s.data[k]!.d]⟩), (q2, ⟨5, (out ++ textB s.data[k]!.t ++ be8 s.data[k]!.n).map bD⟩)] (by simp only [List.map_cons, List.map_nil, go_sem, z1r1, z2r1, br1, pr1, z1r2, z2r2, br2, pr2, z1r3, z2r3, br3, pr3, hr, getD_dat hk2, z1q1, z2q1, bq1, pq1, z1q2, z2q2, bq2, pq2]; exact rfl) (by first | (simp only [go_sem, z1r1, z2r1, br1, pr1, z1r2, z2r2, br2, pr2, z1r3, z2r3, br3, pr3, hr, getD_dat hk2, z1q1, z2q1, bq1, pq1, z1q2, z2q2, bq2, pq2]; done) | (simp [go_sem, z1r1, z2r1, br1, pr1, z1r2, z2r2, br2, pr2, z1r3, z2r3, br3, pr3, hr, getD_dat hk2, z1q1, z2q1, bq1, pq1, z1q2, z2q2, bq2, pq2]; done)) ?_
      show DW _ _ _ _ { n := _, t := tab _, h := _, nx := _, e := _ }
      refine dw_call (C := Rn) 3 (R := _) (arr_at rfl) rfl rfl (by simp only [List.take_succ_cons, List.take_zero, go_sem, z1r1, z2r1, br1, pr1, z1r2, z2r2, br2, pr2, z1r3, z2r3, br3, pr3, hr, getD_dat hk2, z1q1, z2q1, bq1, pq1, z1q2, z2q2, bq2, pq2]; exact rfl) ?_ ?_ (by simp only [go_sem, z1r1, z2r1, br1, pr1, z1r2, z2r2, br2, pr2, z1r3, z2r3, br3, pr3, hr, getD_dat hk2, z1q1, z2q1, bq1, pq1, z1q2, z2q2, bq2, pq2]; exact rfl) (by simp only [go_sem, z1r1, z2r1, br1, pr1, z1r2, z2r2, br2, pr2, z1r3, z2r3, br3, pr3, hr, getD_dat hk2, z1q1, z2q1, bq1, pq1, z1q2, z2q2, bq2, pq2]) (by simp only [go_sem, z1r1, z2r1, br1, pr1, z1r2, z2r2, br2, pr2, z1r3, z2r3, br3, pr3, hr, getD_dat hk2, z1q1, z2q1, bq1, pq1, z1q2, z2q2, bq2, pq2]; exact rfl) (by exact appNum_ct (out ++ textB s.data[k]!.t ++ be8 s.data[k]!.n) s.data[k]!.m q2 _ _ (by simp only [go_sem, z1q2, z2q2]) (by simp only [List.length_append, textB_len, be8_len]; omega)) ?_
      · try simp only [go_sem, z1r1, z2r1, br1, pr1, z1r2, z2r2, br2, pr2, z1r3, z2r3, br3, pr3, hr, getD_dat hk2, z1q1, z2q1, bq1, pq1, z1q2, z2q2, bq2, pq2]
        all_goals (first | done | (repeat' (with_reducible apply And.intro)) <;> first | omega | (with_reducible assumption) | (intros; omega) | (intros; simp only [decide_eq_true_eq, decide_eq_false_iff_not, Bool.or_eq_true, Bool.and_eq_true, Bool.or_eq_false_iff, Bool.not_eq_true', Bool.not_eq_false'] at *; omega) | (simp_all; done) | (simp_all; omega))
      · try simp only [go_sem, z1r1, z2r1, br1, pr1, z1r2, z2r2, br2, pr2, z1r3, z2r3, br3, pr3, hr, getD_dat hk2, z1q1, z2q1, bq1, pq1, z1q2, z2q2, bq2, pq2]
        all_goals (first | done | rfl | decide | simp)
      rintro res h2 n2 ⟨q3, rfl, rfl, aq3, bq3⟩
      dsimp only at aq3 bq3
      have z1q3 : (nx + 3 = q3) = False := eq_false (by omega)
      have z2q3 : (q3 = nx + 3) = False := eq_false (by omega)
      have pq3 : nx + 3 < n2 := by omega
      refine ⟨⟨_, _, _, _, _, _⟩, by simp only [List.drop_succ_cons, List.drop_zero, S.put, go_sem, z1r1, z2r1, br1, pr1, z1r2, z2r2, br2, pr2, z1r3, z2r3, br3, pr3, hr, getD_dat hk2, z1q1, z2q1, bq1, pq1, z1q2, z2q2, bq2, pq2, z1q3, z2q3, bq3, pq3]; exact rfl, ?_, ?_⟩
      · try simp only [go_sem, z1r1, z2r1, br1, pr1, z1r2, z2r2, br2, pr2, z1r3, z2r3, br3, pr3, hr, getD_dat hk2, z1q1, z2q1, bq1, pq1, z1q2, z2q2, bq2, pq2, z1q3, z2q3, bq3, pq3]
        all_goals (first | done | (repeat' (with_reducible apply And.intro)) <;> first | omega | (with_reducible assumption) | (intros; omega) | (intros; simp only [decide_eq_true_eq, decide_eq_false_iff_not, Bool.or_eq_true, Bool.and_eq_true, Bool.or_eq_false_iff, Bool.not_eq_true', Bool.not_eq_false'] at *; omega) | (simp_all; done) | (simp_all; omega))
      try simp only [clear_eq]
      show DW _ _ _ _ _
      refine dw_cut [4, 30, 31, 32] [(q3, ⟨5, (out ++ textB s.data[k]!.t ++ be8 s.data[k]!.n ++ be8 s.data[k]!.m).map bD⟩)] (by simp only [List.map_cons, List.map_nil, go_sem, z1r1, z2r1, br1, pr1, z1r2, z2r2, br2, pr2, z1r3, z2r3, br3, pr3, hr, getD_dat hk2, z1q1, z2q1, bq1, pq1, z1q2, z2q2, bq2, pq2, z1q3, z2q3, bq3, pq3]; exact rfl) (by first | (simp only [go_sem, z1r1, z2r1, br1, pr1, z1r2, z2r2, br2, pr2, z1r3, z2r3, br3, pr3, hr, getD_dat hk2, z1q1, z2q1, bq1, pq1, z1q2, z2q2, bq2, pq2, z1q3, z2q3, bq3, pq3]; done) | (simp [go_sem, z1r1, z2r1, br1, pr1, z1r2, z2r2, br2, pr2, z1r3, z2r3, br3, pr3, hr, getD_dat hk2, z1q1, z2q1, bq1, pq1, z1q2, z2q2, bq2, pq2, z1q3, z2q3, bq3, pq3]; done)) ?_
      show DW _ _ _ _ { n := _, t := tab _, h := _, nx := _, e := _ }
      refine dw_reg (C := Rn) (by simp only [go_sem, z1r1, z2r1, br1, pr1, z1r2, z2r2, br2, pr2, z1r3, z2r3, br3, pr3, hr, getD_dat hk2, z1q1, z2q1, bq1, pq1, z1q2, z2q2, bq2, pq2, z1q3, z2q3, bq3, pq3]; exact rfl) (fun h => by cases h) ?_ ?_
      · try simp only [go_sem, z1r1, z2r1, br1, pr1, z1r2, z2r2, br2, pr2, z1r3, z2r3, br3, pr3, hr, getD_dat hk2, z1q1, z2q1, bq1, pq1, z1q2, z2q2, bq2, pq2, z1q3, z2q3, bq3, pq3]
        all_goals (first | done | (repeat' (with_reducible apply And.intro)) <;> first | omega | (with_reducible assumption) | (intros; omega) | (intros; simp only [decide_eq_true_eq, decide_eq_false_iff_not, Bool.or_eq_true, Bool.and_eq_true, Bool.or_eq_false_iff, Bool.not_eq_true', Bool.not_eq_false'] at *; omega) | (simp_all; done) | (simp_all; omega))
      show ∃ _, _
      refine ⟨(k + 1, out ++ textB s.data[k]!.t ++ be8 s.data[k]!.n ++ be8 s.data[k]!.m, q3, _), ⟨(by first | (first | omega | (with_reducible assumption) | (simp_all; done) | (simp_all; omega)) | (dsimp only; first | omega | (with_reducible assumption) | (simp_all; done) | (simp_all; omega))), (by first | (first | omega | (with_reducible assumption) | (simp_all; done) | (simp_all; omega)) | (dsimp only; first | omega | (with_reducible assumption) | (simp_all; done) | (simp_all; omega))), (by first | (simp only [List.length_append, textB_len, be8_len]; omega) | (dsimp only; simp only [List.length_append, textB_len, be8_len]; omega)), (by first | (rw [← hv, drop_dat hk2]; simp [datB]) | (dsimp only; rw [← hv, drop_dat hk2]; simp [datB])), trivial⟩, (by show (_ : Nat) < _; first | omega | simp_all; omega), ?_, ?_, ?_, Nat.le_refl _, rfl, rfl⟩
      · try simp only [go_sem, z1r1, z2r1, br1, pr1, z1r2, z2r2, br2, pr2, z1r3, z2r3, br3, pr3, hr, getD_dat hk2, z1q1, z2q1, bq1, pq1, z1q2, z2q2, bq2, pq2, z1q3, z2q3, bq3, pq3]
        all_goals (first | done | (simp; done) | (simp; omega) | ((repeat' (with_reducible apply And.intro)) <;> first | (left; simp; done) | (right; simp [go_sem]; done)))
      · try simp only [go_sem, z1r1, z2r1, br1, pr1, z1r2, z2r2, br2, pr2, z1r3, z2r3, br3, pr3, hr, getD_dat hk2, z1q1, z2q1, bq1, pq1, z1q2, z2q2, bq2, pq2, z1q3, z2q3, bq3, pq3]
        all_goals (first | done | (simp; done) | (simp; omega) | ((repeat' (with_reducible apply And.intro)) <;> first | (left; simp; done) | (right; simp [go_sem]; done)))
      · try simp only [go_sem, z1r1, z2r1, br1, pr1, z1r2, z2r2, br2, pr2, z1r3, z2r3, br3, pr3, hr, getD_dat hk2, z1q1, z2q1, bq1, pq1, z1q2, z2q2, bq2, pq2, z1q3, z2q3, bq3, pq3]
        all_goals (first | done | (simp; done) | (simp; omega) | ((repeat' (with_reducible apply And.intro)) <;> first | (left; simp; done) | (right; simp [go_sem]; done)))
    · skip
      try simp only [decide_eq_true_eq, decide_eq_false_iff_not, Bool.or_eq_true, Bool.and_eq_true, Bool.or_eq_false_iff, Bool.not_eq_true', Bool.not_eq_false', Bool.and_eq_false_iff, beq_iff_eq, beq_eq_false_iff_ne, bne_iff_ne, bne_eq_false_iff_eq, ne_eq] at c2
      refine dw_exit ?_
      show DW _ _ _ _ _
      refine dw_step (C := Rn) (by simp only [go_sem, z1r1, z2r1, br1, pr1, z1r2, z2r2, br2, pr2, z1r3, z2r3, br3, pr3, hr]; exact rfl) (fun h => by cases h) ?_ ?_
      · try simp only [go_sem, z1r1, z2r1, br1, pr1, z1r2, z2r2, br2, pr2, z1r3, z2r3, br3, pr3, hr]
        all_goals (first | done | (repeat' (with_reducible apply And.intro)) <;> first | omega | (with_reducible assumption) | (intros; omega) | (intros; simp only [decide_eq_true_eq, decide_eq_false_iff_not, Bool.or_eq_true, Bool.and_eq_true, Bool.or_eq_false_iff, Bool.not_eq_true', Bool.not_eq_false'] at *; omega) | (simp_all; done) | (simp_all; omega))
      refine dw_ret ?_
      refine ⟨(by first | exact .inr rfl | trivial | simp), ?_, ?_⟩
      · simp only [go_sem, z1r1, z2r1, br1, pr1, z1r2, z2r2, br2, pr2, z1r3, z2r3, br3, pr3, hr]
      refine ⟨2, ?_, ?_⟩
      · try simp only [go_sem, z1r1, z2r1, br1, pr1, z1r2, z2r2, br2, pr2, z1r3, z2r3, br3, pr3, hr]
        all_goals (simp)
      · try simp only [go_sem, z1r1, z2r1, br1, pr1, z1r2, z2r2, br2, pr2, z1r3, z2r3, br3, pr3, hr]
        all_goals (rw [List.drop_eq_nil_of_le (by omega)] at hv; simp at hv; simp [bytesF, c1, hv])

end Go.Proofs.YtfggmgafjabbjaaDoor
