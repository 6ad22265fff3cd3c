import Derived.Test.YtfggmgafjabbjaaDoorRcW6
namespace Go.Proofs.YtfggmgafjabbjaaDoor
open Go.DL Go.Str Go.Rec Go.Cmp
set_option maxRecDepth 10000
set_option linter.unusedSimpArgs false
set_option linter.unusedVariables false
theorem or_step {u : Nat} (hu : u < 18446744073709551616) (c : UInt8) : IntKind.u64.wrap ((BitVec.ofInt 64 (IntKind.u64.wrap ((u : Int) * 2 ^ (min 8 64))) ||| BitVec.ofInt 64 (IntKind.u64.wrap (c.toNat : Int))).toNat : Nat) = (stepN u c : Int) := by
  have hc := c.toNat_lt
  have e0 : ((2 : Int) ^ (min 8 64)) = 256 := rfl
  rw [e0]
  have e1 : IntKind.u64.wrap ((u : Int) * 256) = ((u * 256 % 18446744073709551616 : Nat) : Int) := by rw [IntKind.wrap_u64]; omega
  have e2 : IntKind.u64.wrap (c.toNat : Int) = (c.toNat : Int) := by rw [IntKind.wrap_u64]; omega
  rw [e1, e2, BitVec.ofInt_natCast, BitVec.ofInt_natCast, BitVec.toNat_or, BitVec.toNat_ofNat, BitVec.toNat_ofNat]
  have e3 : c.toNat % 2 ^ 64 = c.toNat := Nat.mod_eq_of_lt (by omega)
  have e4 : u * 256 % 18446744073709551616 % 2 ^ 64 = (u % 72057594037927936) <<< 8 := by rw [Nat.shiftLeft_eq]; omega
  rw [e3, e4, ← Nat.shiftLeft_add_eq_or_of_lt (by omega : c.toNat < 2 ^ 8), Nat.shiftLeft_eq, IntKind.wrap_u64]
  unfold stepN
  omega
theorem stepN_lt (u : Nat) (c : UInt8) : stepN u c < 18446744073709551616 := by unfold stepN; omega
theorem take_no' {m : Int} {st : RS} (h : (st.2 || decide ((st.1.length : Int) < m)) = true) : pTake m st = ([], (st.1, true)) := by
  unfold pTake; rw [if_pos h]
theorem take_ok' {m : Int} {st : RS} (h : (st.2 || decide ((st.1.length : Int) < m)) = false) : pTake m st = (st.1.take m.toNat, (st.1.drop m.toNat, st.2)) := by
  unfold pTake; rw [h, (Bool.or_eq_false_iff.1 h).1]; rfl
@[go_sem] theorem map_byteOf {l : Str} : (l.map bD).map Go.DL.byteOf = l := map_id_of (f := bD) (g := Go.DL.byteOf) (fun x => by simp [Go.DL.byteOf, bD]) l
@[go_sem] theorem all_isByte {l : Str} : (l.map bD).all isByte = true := by
  induction l with
  | nil => rfl
  | cons x l ih => simp only [List.map_cons, List.all_cons, ih]; rfl
theorem take_len (n : Nat) (st : RS) : (pTake n st).1.length ≤ n := by
  unfold pTake
  split
  · exact Nat.zero_le _
  · show (st.1.take _).length ≤ n
    simp; omega
theorem wrapc (c : UInt8) : IntKind.i64.wrap (c.toNat : Int) = (c.toNat : Int) := by
  have := c.toNat_lt
  rw [IntKind.wrap_i64]; omega
theorem drop_chr {l : Str} {k : Nat} (h : k < l.length) : l.drop k = l.getD k 0 :: l.drop (k + 1) := by
  rw [List.drop_eq_getElem_cons h]
  congr 1
  simp [List.getD, h]
theorem getD_bD {l : Str} {n : Nat} (h : n < l.length) : (l.map bD).getD n [] = [.v (.int .u8 ((l.getD n 0).toNat : Int))] := by
  simp [List.getD, h, bD]
theorem count_le (st : RS) : (pCount st).1 ≤ 255 := by
  unfold pCount
  split
  · have := ((pTake 1 st).1.getD 0 0).toNat_lt
    simp only
    omega
  · exact Nat.zero_le _
theorem dats_step {n k : Nat} {out : List Dat} {st : RS} (h : k < n) (c : (pNum (pNum (pText st).2).2).2.2 = false) : pDats (n - k) out st = pDats (n - (k + 1)) (out ++ [(pDat st).1]) (pDat st).2 := by
  rw [show n - k = (n - (k + 1)) + 1 by omega, pDats, if_neg (by rw [show (pDat st).2.2 = (pNum (pNum (pText st).2).2).2.2 from rfl, c]; simp)]
theorem dats_stop {n k : Nat} {out : List Dat} {st : RS} (h : k < n) (c : (pNum (pNum (pText st).2).2).2.2 = true) : pDats (n - k) out st = (out, (pDat st).2) := by
  rw [show n - k = (n - (k + 1)) + 1 by omega, pDats, if_pos (show (pDat st).2.2 = true from c)]
theorem dats_none {n k : Nat} {out : List Dat} {st : RS} (h : ¬ k < n) : pDats (n - k) out st = (out, st) := by
  rw [show n - k = 0 by omega]; rfl
theorem read_set {x : Str} {out : List Dat} {st : RS} (h : (out, st) = pDats (pCount (pNum (pNum (pText (x, false)).2).2).2).1 [] (pCount (pNum (pNum (pText (x, false)).2).2).2).2) : pSet (x, false) = (⟨(pText (x, false)).1, (pNum (pText (x, false)).2).1, (pNum (pNum (pText (x, false)).2).2).1, out⟩, st) := by
  unfold pSet
  simp only
  rw [← h]
theorem read_no {x : Str} {out : List Dat} {st : RS} (h : (out, st) = pDats (pCount (pNum (pNum (pText (x, false)).2).2).2).1 [] (pCount (pNum (pNum (pText (x, false)).2).2).2).2) (c : ((st.2 || decide ((0 : Int) < st.1.length)) || !setOk ⟨(pText (x, false)).1, (pNum (pText (x, false)).2).1, (pNum (pNum (pText (x, false)).2).2).1, out⟩) = true) : readF x = (noSet, 10) := by
  have e : decide ((0 : Int) < st.1.length) = decide (0 < st.1.length) := decide_eq_decide.2 (by omega)
  rw [e] at c
  unfold readF
  rw [read_set h]
  exact if_pos c
theorem read_yes {x : Str} {out : List Dat} {st : RS} (h : (out, st) = pDats (pCount (pNum (pNum (pText (x, false)).2).2).2).1 [] (pCount (pNum (pNum (pText (x, false)).2).2).2).2) (c : ((st.2 || decide ((0 : Int) < st.1.length)) || !setOk ⟨(pText (x, false)).1, (pNum (pText (x, false)).2).1, (pNum (pNum (pText (x, false)).2).2).1, out⟩) = false) : readF x = (⟨(pText (x, false)).1, (pNum (pText (x, false)).2).1, (pNum (pNum (pText (x, false)).2).2).1, out⟩, 0) := by
  have e : decide ((0 : Int) < st.1.length) = decide (0 < st.1.length) := decide_eq_decide.2 (by omega)
  rw [e] at c
  unfold readF
  rw [read_set h]
  exact if_neg (by rw [Bool.not_eq_true]; exact c)
@[go_sem] theorem bslU : byteSl Tryd.prog 26 = true := by kernel_rfl
theorem bo75 : hasBody Tryd.prog 75 = true := by kernel_rfl
theorem take_ct (m : Int) (hm : 0 ≤ m) (st : RS) (rb : Nat) (h : H) (n : Nat) (hb : h rb = some ⟨74, [[.list false ((st).1.map bD), .b (st).2]]⟩) : RCt Tryd.prog 75 [.mptr rb 0 0, .i m] h n (fun d h' n' => (∃ f, d = .list f ((pTake m st).1.map bD)) ∧ h' = upd h rb (some ⟨74, [[.list false (((pTake m st).2).1.map bD), .b ((pTake m st).2).2]]⟩) ∧ n ≤ n') := by
  refine rct_of_dw Tryd.func75 rfl bo75 (by simp [Tryd.f75]) (fun hnone => ?_)
  unfold Tryd.f75
  refine dw_step (C := Rn) (by simp only [go_sem, hb]; exact rfl) (fun h => by cases h) ?_ ?_
  · try simp only [go_sem, hb]
    all_goals (first | done | (repeat' (with_reducible apply And.intro)) <;> first | omega | (with_reducible assumption) | (intros; omega) | (intros; simp only [decide_eq_true_eq, decide_eq_false_iff_not, Bool.or_eq_true, Bool.and_eq_true, Bool.or_eq_false_iff, Bool.not_eq_true', Bool.not_eq_false'] at *; omega) | (simp_all; done) | (simp_all; omega))
  refine dw_seq ?_
  refine dw_step (C := Rn) (by simp only [go_sem, hb]; exact rfl) (fun h => by cases h) ?_ ?_
  · try simp only [go_sem, hb]
    all_goals (first | done | (repeat' (with_reducible apply And.intro)) <;> first | omega | (with_reducible assumption) | (intros; omega) | (intros; simp only [decide_eq_true_eq, decide_eq_false_iff_not, Bool.or_eq_true, Bool.and_eq_true, Bool.or_eq_false_iff, Bool.not_eq_true', Bool.not_eq_false'] at *; omega) | (simp_all; done) | (simp_all; omega))
  refine dw_cond (by simp only [go_sem, hb]; exact rfl) (fun c1 => ?_) (fun c1 => ?_)
  · skip
    refine dw_step (C := Rn) (by simp only [go_sem, hb]; exact rfl) (fun h => by cases h) ?_ ?_
    · try simp only [go_sem, hb]
      all_goals (first | done | (repeat' (with_reducible apply And.intro)) <;> first | omega | (with_reducible assumption) | (intros; omega) | (intros; simp only [decide_eq_true_eq, decide_eq_false_iff_not, Bool.or_eq_true, Bool.and_eq_true, Bool.or_eq_false_iff, Bool.not_eq_true', Bool.not_eq_false'] at *; omega) | (simp_all; done) | (simp_all; omega))
    refine dw_step (C := Rn) (by simp only [go_sem, hb]; exact rfl) (fun h => by cases h) ?_ ?_
    · try simp only [go_sem, hb]
      all_goals (first | done | (repeat' (with_reducible apply And.intro)) <;> first | omega | (with_reducible assumption) | (intros; omega) | (intros; simp only [decide_eq_true_eq, decide_eq_false_iff_not, Bool.or_eq_true, Bool.and_eq_true, Bool.or_eq_false_iff, Bool.not_eq_true', Bool.not_eq_false'] at *; omega) | (simp_all; done) | (simp_all; omega))
    refine dw_ret ?_
    refine ⟨(by first | exact .inr rfl | trivial | simp), ?_, ?_⟩
    · simp only [go_sem, hb]
    refine ⟨upd h rb (some ⟨74, [[.list false (st.1.map bD), .b true]]⟩), _, ?_, Nat.le_refl _, ?_⟩
    · intro q; left; by_cases e1 : q = rb <;> simp [upd, e1]
    · try simp only [go_sem, hb]
      all_goals (rw [take_no' c1]; exact ⟨⟨_, rfl⟩, rfl, by omega⟩)
  · skip
    have c1b := Bool.or_eq_false_iff.1 c1
    have c1c := of_decide_eq_false c1b.2
    refine dw_skip ?_
    show DW _ _ _ _ _
    refine dw_step (C := Rn) (by simp only [go_sem, hb]; exact rfl) (fun h => by cases h) ?_ ?_
    · try simp only [go_sem, hb]
      all_goals (first | done | (repeat' (with_reducible apply And.intro)) <;> first | omega | (with_reducible assumption) | (intros; omega) | (intros; simp only [decide_eq_true_eq, decide_eq_false_iff_not, Bool.or_eq_true, Bool.and_eq_true, Bool.or_eq_false_iff, Bool.not_eq_true', Bool.not_eq_false'] at *; omega) | (simp_all; done) | (simp_all; omega))
    refine dw_step (C := Rn) (by simp only [go_sem, hb]; exact rfl) (fun h => by cases h) ?_ ?_
    · try simp only [go_sem, hb]
      all_goals (first | done | (repeat' (with_reducible apply And.intro)) <;> first | omega | (with_reducible assumption) | (intros; omega) | (intros; simp only [decide_eq_true_eq, decide_eq_false_iff_not, Bool.or_eq_true, Bool.and_eq_true, Bool.or_eq_false_iff, Bool.not_eq_true', Bool.not_eq_false'] at *; omega) | (simp_all; done) | (simp_all; omega))
    refine dw_step (C := Rn) (by simp only [go_sem, hb]; exact rfl) (fun h => by cases h) ?_ ?_
    · try simp only [go_sem, hb]
      all_goals (first | done | (repeat' (with_reducible apply And.intro)) <;> first | omega | (with_reducible assumption) | (intros; omega) | (intros; simp only [decide_eq_true_eq, decide_eq_false_iff_not, Bool.or_eq_true, Bool.and_eq_true, Bool.or_eq_false_iff, Bool.not_eq_true', Bool.not_eq_false'] at *; omega) | (simp_all; done) | (simp_all; omega))
    refine dw_ret ?_
    refine ⟨(by first | exact .inr rfl | trivial | simp), ?_, ?_⟩
    · simp only [go_sem, hb]
    refine ⟨upd h rb (some ⟨74, [[.list false ((st.1.drop m.toNat).map bD), .b st.2]]⟩), _, ?_, Nat.le_refl _, ?_⟩
    · intro q; left; by_cases e1 : q = rb <;> simp [upd, e1]
    · try simp only [go_sem, hb]
      all_goals (rw [take_ok' c1]; exact ⟨⟨_, by rw [List.map_take]⟩, rfl, by omega⟩)
theorem bo49 : hasBody Tryd.prog 49 = true := by kernel_rfl
theorem count_ct (st : RS) (rb : Nat) (h : H) (n : Nat) (hb : h rb = some ⟨74, [[.list false ((st).1.map bD), .b (st).2]]⟩) : RCt Tryd.prog 49 [.mptr rb 0 0] h n (fun d h' n' => d = .i (pCount st).1 ∧ h' = upd h rb (some ⟨74, [[.list false (((pCount st).2).1.map bD), .b ((pCount st).2).2]]⟩) ∧ n ≤ n') := by
  refine rct_of_dw Tryd.func49 rfl bo49 (by simp [Tryd.f49]) (fun hnone => ?_)
  unfold Tryd.f49
  refine dw_step (C := Rn) (by simp only [go_sem, hb]; exact rfl) (fun h => by cases h) ?_ ?_
  · try simp only [go_sem, hb]
    all_goals (first | done | (repeat' (with_reducible apply And.intro)) <;> first | omega | (with_reducible assumption) | (intros; omega) | (intros; simp only [decide_eq_true_eq, decide_eq_false_iff_not, Bool.or_eq_true, Bool.and_eq_true, Bool.or_eq_false_iff, Bool.not_eq_true', Bool.not_eq_false'] at *; omega) | (simp_all; done) | (simp_all; omega))
  refine dw_seq ?_
  refine dw_seq (dw_call (C := Rn) 1 (R := _) (arr_at rfl) rfl rfl (by simp only [List.take_succ_cons, List.take_zero, go_sem, hb]; exact rfl) ?_ ?_ (by simp only [go_sem, hb]; exact rfl) (by simp only [go_sem, hb]) (by simp only [go_sem, hb]; exact rfl) (by exact take_ct 1 (by omega) st rb _ _ (by simp only [go_sem, hb])) ?_)
  · try simp only [go_sem, hb]
    all_goals (first | done | (repeat' (with_reducible apply And.intro)) <;> first | omega | (with_reducible assumption) | (intros; omega) | (intros; simp only [decide_eq_true_eq, decide_eq_false_iff_not, Bool.or_eq_true, Bool.and_eq_true, Bool.or_eq_false_iff, Bool.not_eq_true', Bool.not_eq_false'] at *; omega) | (simp_all; done) | (simp_all; omega))
  · try simp only [go_sem, hb]
    all_goals (first | done | rfl | decide | simp)
  rintro res h2 n2 ⟨⟨f, rfl⟩, rfl, a1⟩
  try dsimp only at a1
  refine ⟨⟨_, _, _, _, _, _⟩, by simp only [List.drop_succ_cons, List.drop_zero, S.put, go_sem, hb]; exact rfl, ?_, ?_⟩
  · try simp only [go_sem, hb]
    all_goals (first | done | (repeat' (with_reducible apply And.intro)) <;> first | omega | (with_reducible assumption) | (intros; omega) | (intros; simp only [decide_eq_true_eq, decide_eq_false_iff_not, Bool.or_eq_true, Bool.and_eq_true, Bool.or_eq_false_iff, Bool.not_eq_true', Bool.not_eq_false'] at *; omega) | (simp_all; done) | (simp_all; omega))
  try simp only [clear_eq]
  show DW _ _ _ _ _
  refine dw_step (C := Rn) (by simp only [go_sem, hb]; exact rfl) (fun h => by cases h) ?_ ?_
  · try simp only [go_sem, hb]
    all_goals (first | done | (repeat' (with_reducible apply And.intro)) <;> first | omega | (with_reducible assumption) | (intros; omega) | (intros; simp only [decide_eq_true_eq, decide_eq_false_iff_not, Bool.or_eq_true, Bool.and_eq_true, Bool.or_eq_false_iff, Bool.not_eq_true', Bool.not_eq_false'] at *; omega) | (simp_all; done) | (simp_all; omega))
  refine dw_cond (by simp only [go_sem, hb]; exact rfl) (fun c1 => ?_) (fun c1 => ?_)
  · skip
    try simp only [decide_eq_true_eq, decide_eq_false_iff_not, Bool.or_eq_true, Bool.and_eq_true, Bool.or_eq_false_iff, Bool.not_eq_true', Bool.not_eq_false', Bool.and_eq_false_iff, beq_iff_eq, beq_eq_false_iff_ne, bne_iff_ne, bne_eq_false_iff_eq, ne_eq] at c1
    have hk : 0 < (pTake 1 st).1.length := by omega
    refine dw_step (C := Rn) (by simp only [go_sem, hb, getD_bD hk, wrapc]; exact rfl) (fun h => by cases h) ?_ ?_
    · try simp only [go_sem, hb, getD_bD hk, wrapc]
      all_goals (first | done | (repeat' (with_reducible apply And.intro)) <;> first | omega | (with_reducible assumption) | (intros; omega) | (intros; simp only [decide_eq_true_eq, decide_eq_false_iff_not, Bool.or_eq_true, Bool.and_eq_true, Bool.or_eq_false_iff, Bool.not_eq_true', Bool.not_eq_false'] at *; omega) | (simp_all; done) | (simp_all; omega))
    refine dw_ret ?_
    refine ⟨(by first | exact .inr rfl | trivial | simp), ?_, ?_⟩
    · simp only [go_sem, hb, getD_bD hk, wrapc]
    refine ⟨upd h rb (some ⟨74, [[.list false (((pCount st).2).1.map bD), .b ((pCount st).2).2]]⟩), _, ?_, Nat.le_refl _, ?_⟩
    · exact fun _ => .inl rfl
    · try simp only [go_sem, hb, getD_bD hk, wrapc]
      all_goals (exact ⟨by unfold pCount; rw [if_pos (by omega)], by omega⟩)
  · skip
    try simp only [decide_eq_true_eq, decide_eq_false_iff_not, Bool.or_eq_true, Bool.and_eq_true, Bool.or_eq_false_iff, Bool.not_eq_true', Bool.not_eq_false', Bool.and_eq_false_iff, beq_iff_eq, beq_eq_false_iff_ne, bne_iff_ne, bne_eq_false_iff_eq, ne_eq] at c1
    refine dw_skip ?_
    show DW _ _ _ _ _
    refine dw_step (C := Rn) (by simp only [go_sem, hb]; exact rfl) (fun h => by cases h) ?_ ?_
    · try simp only [go_sem, hb]
      all_goals (first | done | (repeat' (with_reducible apply And.intro)) <;> first | omega | (with_reducible assumption) | (intros; omega) | (intros; simp only [decide_eq_true_eq, decide_eq_false_iff_not, Bool.or_eq_true, Bool.and_eq_true, Bool.or_eq_false_iff, Bool.not_eq_true', Bool.not_eq_false'] at *; omega) | (simp_all; done) | (simp_all; omega))
    refine dw_ret ?_
    refine ⟨(by first | exact .inr rfl | trivial | simp), ?_, ?_⟩
    · simp only [go_sem, hb]
    refine ⟨upd h rb (some ⟨74, [[.list false (((pCount st).2).1.map bD), .b ((pCount st).2).2]]⟩), _, ?_, Nat.le_refl _, ?_⟩
    · exact fun _ => .inl rfl
    · try simp only [go_sem, hb]
      all_goals (exact ⟨by unfold pCount; rw [if_neg (by omega)]; rfl, by omega⟩)
theorem bo47 : hasBody Tryd.prog 47 = true := by kernel_rfl
theorem text_ct (st : RS) (rb : Nat) (h : H) (n : Nat) (hb : h rb = some ⟨74, [[.list false ((st).1.map bD), .b (st).2]]⟩) : RCt Tryd.prog 47 [.mptr rb 0 0] h n (fun d h' n' => d = .v (.string (bs (pText st).1)) ∧ h' = upd h rb (some ⟨74, [[.list false (((pText st).2).1.map bD), .b ((pText st).2).2]]⟩) ∧ n ≤ n') := by
  refine rct_of_dw Tryd.func47 rfl bo47 (by simp [Tryd.f47]) (fun hnone => ?_)
  unfold Tryd.f47
  refine dw_step (C := Rn) (by simp only [go_sem, hb]; exact rfl) (fun h => by cases h) ?_ ?_
  · try simp only [go_sem, hb]
    all_goals (first | done | (repeat' (with_reducible apply And.intro)) <;> first | omega | (with_reducible assumption) | (intros; omega) | (intros; simp only [decide_eq_true_eq, decide_eq_false_iff_not, Bool.or_eq_true, Bool.and_eq_true, Bool.or_eq_false_iff, Bool.not_eq_true', Bool.not_eq_false'] at *; omega) | (simp_all; done) | (simp_all; omega))
  refine dw_seq (dw_seg ?_)
  refine seg_call (C := Rn) 2 (R := _) (by omega) (arr_at rfl) rfl rfl (by simp only [List.drop_succ_cons, List.drop_zero, List.take_succ_cons, List.take_zero, S.put, Nat.sub_self, go_sem, hb]; exact rfl) ?_ ?_ (by simp only [go_sem, hb]; exact rfl) (by simp only [go_sem, hb]) (by simp only [go_sem, hb]; exact rfl) (by exact count_ct st rb _ _ (by simp only [go_sem, hb])) ?_
  · try simp only [go_sem, hb]
    all_goals (first | done | (repeat' (with_reducible apply And.intro)) <;> first | omega | (with_reducible assumption) | (intros; omega) | (intros; simp only [decide_eq_true_eq, decide_eq_false_iff_not, Bool.or_eq_true, Bool.and_eq_true, Bool.or_eq_false_iff, Bool.not_eq_true', Bool.not_eq_false'] at *; omega) | (simp_all; done) | (simp_all; omega))
  · try simp only [go_sem, hb]
    all_goals (first | done | rfl | decide | simp)
  rintro res h2 n2 ⟨rfl, rfl, a1⟩
  try dsimp only at a1
  refine seg_call (C := Rn) 3 (R := _) (by omega) (arr_at rfl) rfl rfl (by simp only [List.drop_succ_cons, List.drop_zero, List.take_succ_cons, List.take_zero, S.put, Nat.sub_self, go_sem, hb]; exact rfl) ?_ ?_ (by simp only [go_sem, hb]; exact rfl) (by simp only [go_sem, hb]) (by simp only [go_sem, hb]; exact rfl) (by exact take_ct ((pCount st).1) (by omega) (pCount st).2 rb _ _ (by simp only [go_sem])) ?_
  · try simp only [go_sem, hb]
    all_goals (first | done | (repeat' (with_reducible apply And.intro)) <;> first | omega | (with_reducible assumption) | (intros; omega) | (intros; simp only [decide_eq_true_eq, decide_eq_false_iff_not, Bool.or_eq_true, Bool.and_eq_true, Bool.or_eq_false_iff, Bool.not_eq_true', Bool.not_eq_false'] at *; omega) | (simp_all; done) | (simp_all; omega))
  · try simp only [go_sem, hb]
    all_goals (first | done | rfl | decide | simp)
  rintro res h3 n3 ⟨⟨f, rfl⟩, rfl, a2⟩
  try dsimp only at a2
  refine seg_done (C := Rn) (by first | decide | simp) (by simp only [List.drop_succ_cons, List.drop_zero, List.take_succ_cons, List.take_zero, S.put, Nat.sub_self, go_sem, hb]; exact rfl) ?_ rfl ?_
  · try simp only [go_sem, hb]
    all_goals (first | done | (repeat' (with_reducible apply And.intro)) <;> first | omega | (with_reducible assumption) | (intros; omega) | (intros; simp only [decide_eq_true_eq, decide_eq_false_iff_not, Bool.or_eq_true, Bool.and_eq_true, Bool.or_eq_false_iff, Bool.not_eq_true', Bool.not_eq_false'] at *; omega) | (simp_all; done) | (simp_all; omega))
  try simp only [clear_eq]
  show DW _ _ _ _ _
  refine dw_ret ?_
  refine ⟨(by first | exact .inr rfl | trivial | simp), ?_, ?_⟩
  · simp only [go_sem, hb]
  refine ⟨upd h rb (some ⟨74, [[.list false (((pText st).2).1.map bD), .b ((pText st).2).2]]⟩), _, ?_, Nat.le_refl _, ?_⟩
  · intro q; left; by_cases e1 : q = rb <;> simp [upd, e1, pText]
  · try simp only [go_sem, hb]
    all_goals (exact ⟨by simp [pText], by omega⟩)
theorem bo48 : hasBody Tryd.prog 48 = true := by kernel_rfl
theorem number_ct (st : RS) (rb : Nat) (h : H) (n : Nat) (hb : h rb = some ⟨74, [[.list false ((st).1.map bD), .b (st).2]]⟩) : RCt Tryd.prog 48 [.mptr rb 0 0] h n (fun d h' n' => d = .i (pNum st).1 ∧ h' = upd h rb (some ⟨74, [[.list false (((pNum st).2).1.map bD), .b ((pNum st).2).2]]⟩) ∧ n ≤ n') := by
  refine rct_of_dw Tryd.func48 rfl bo48 (by simp [Tryd.f48]) (fun hnone => ?_)
  unfold Tryd.f48
  refine dw_step (C := Rn) (by simp only [go_sem, hb]; exact rfl) (fun h => by cases h) ?_ ?_
  · try simp only [go_sem, hb]
    all_goals (first | done | (repeat' (with_reducible apply And.intro)) <;> first | omega | (with_reducible assumption) | (intros; omega) | (intros; simp only [decide_eq_true_eq, decide_eq_false_iff_not, Bool.or_eq_true, Bool.and_eq_true, Bool.or_eq_false_iff, Bool.not_eq_true', Bool.not_eq_false'] at *; omega) | (simp_all; done) | (simp_all; omega))
  refine dw_step (C := Rn) (by simp only [go_sem, hb]; exact rfl) (fun h => by cases h) ?_ ?_
  · try simp only [go_sem, hb]
    all_goals (first | done | (repeat' (with_reducible apply And.intro)) <;> first | omega | (with_reducible assumption) | (intros; omega) | (intros; simp only [decide_eq_true_eq, decide_eq_false_iff_not, Bool.or_eq_true, Bool.and_eq_true, Bool.or_eq_false_iff, Bool.not_eq_true', Bool.not_eq_false'] at *; omega) | (simp_all; done) | (simp_all; omega))
  refine dw_seq ?_
  refine dw_seq (dw_call (C := Rn) 1 (R := _) (arr_at rfl) rfl rfl (by simp only [List.take_succ_cons, List.take_zero, go_sem, hb]; exact rfl) ?_ ?_ (by simp only [go_sem, hb]; exact rfl) (by simp only [go_sem, hb]) (by simp only [go_sem, hb]; exact rfl) (by exact take_ct 8 (by omega) st rb _ _ (by simp only [go_sem, hb])) ?_)
  · try simp only [go_sem, hb]
    all_goals (first | done | (repeat' (with_reducible apply And.intro)) <;> first | omega | (with_reducible assumption) | (intros; omega) | (intros; simp only [decide_eq_true_eq, decide_eq_false_iff_not, Bool.or_eq_true, Bool.and_eq_true, Bool.or_eq_false_iff, Bool.not_eq_true', Bool.not_eq_false'] at *; omega) | (simp_all; done) | (simp_all; omega))
  · try simp only [go_sem, hb]
    all_goals (first | done | rfl | decide | simp)
  rintro res h2 n2 ⟨⟨f, rfl⟩, rfl, a1⟩
  try dsimp only at a1
  refine ⟨⟨_, _, _, _, _, _⟩, by simp only [List.drop_succ_cons, List.drop_zero, S.put, go_sem, hb]; exact rfl, ?_, ?_⟩
  · try simp only [go_sem, hb]
    all_goals (first | done | (repeat' (with_reducible apply And.intro)) <;> first | omega | (with_reducible assumption) | (intros; omega) | (intros; simp only [decide_eq_true_eq, decide_eq_false_iff_not, Bool.or_eq_true, Bool.and_eq_true, Bool.or_eq_false_iff, Bool.not_eq_true', Bool.not_eq_false'] at *; omega) | (simp_all; done) | (simp_all; omega))
  try simp only [clear_eq]
  show DW _ _ _ _ _
  refine dw_block ?_
  refine dw_loop_h (α := (Nat) × (Nat) × Nat) [7, 8] (fun ⟨k, u, nx⟩ => (k ≤ (pTake 8 st).1.length) ∧ (u < 18446744073709551616) ∧ (n ≤ nx) ∧ (((pTake 8 st).1.drop k).foldl stepN u = numU (pTake 8 st).1) ∧ True) (fun ⟨k, u, nx⟩ => (pTake 8 st).1.length - k) (fun ⟨k, u, nx⟩ => [(3, .v (.int .u64 u)), (9, .i k)]) (fun ⟨k, u, nx⟩ => upd h rb (some ⟨74, [[.list false (((pTake 8 st).2).1.map bD), .b ((pTake 8 st).2).2]]⟩)) (fun ⟨k, u, nx⟩ => nx) (0, 0, _) (by simp only [List.map_cons, List.map_nil, go_sem, hb]; exact rfl) ⟨(by first | (first | omega | (with_reducible assumption) | (simp_all; done) | (simp_all; omega)) | (dsimp only; first | omega | (with_reducible assumption) | (simp_all; done) | (simp_all; omega))), (by first | (omega) | (dsimp only; omega)), (by first | (first | omega | (with_reducible assumption) | (simp_all; done) | (simp_all; omega)) | (dsimp only; first | omega | (with_reducible assumption) | (simp_all; done) | (simp_all; omega))), (by first | (rfl) | (dsimp only; rfl)), trivial⟩ (by first | (simp only [go_sem, hb]; done) | (simp [go_sem, hb]; done) | (simp only [go_sem, hb]; (repeat' (with_reducible apply And.intro)) <;> first | (left; simp; done) | (right; simp [go_sem]; done))) (by exact less_refl _) (Nat.le_refl _) ?_
  rintro ⟨k, u, nx⟩ ⟨hk, hu, hn, hv, -⟩
  show DW _ _ _ _ { n := _, t := tab _, h := _, nx := _, e := _ }
  simp only [List.cons_append, List.nil_append]
  refine dw_step (C := Rn) (by simp only [go_sem, hb]; exact rfl) (fun h => by cases h) ?_ ?_
  · try simp only [go_sem, hb]
    all_goals (first | done | (repeat' (with_reducible apply And.intro)) <;> first | omega | (with_reducible assumption) | (intros; omega) | (intros; simp only [decide_eq_true_eq, decide_eq_false_iff_not, Bool.or_eq_true, Bool.and_eq_true, Bool.or_eq_false_iff, Bool.not_eq_true', Bool.not_eq_false'] at *; omega) | (simp_all; done) | (simp_all; omega))
  refine dw_seq ?_
  refine dw_cond (by simp only [go_sem, hb]; exact rfl) (fun c1 => ?_) (fun c1 => ?_)
  · skip
    have hk2 : k < (pTake 8 st).1.length := by simpa using c1
    have h8 : (pTake 8 st).1.length ≤ 8 := take_len 8 st
    have hor := or_step hu ((pTake 8 st).1.getD k 0)
    refine dw_skip ?_
    show DW _ _ _ _ _
    refine dw_seq ?_
    refine dw_block ?_
    refine dw_step (C := Rn) (by simp only [go_sem, hb, getD_bD hk2, hor]; exact rfl) (fun h => by cases h) ?_ ?_
    · try simp only [go_sem, hb, getD_bD hk2, hor]
      all_goals (first | done | (repeat' (with_reducible apply And.intro)) <;> first | omega | (with_reducible assumption) | (intros; omega) | (intros; simp only [decide_eq_true_eq, decide_eq_false_iff_not, Bool.or_eq_true, Bool.and_eq_true, Bool.or_eq_false_iff, Bool.not_eq_true', Bool.not_eq_false'] at *; omega) | (simp_all; done) | (simp_all; omega))
    refine dw_reg (C := Rn) (by simp only [go_sem, hb, getD_bD hk2, hor]; exact rfl) (fun h => by cases h) ?_ ?_
    · try simp only [go_sem, hb, getD_bD hk2, hor]
      all_goals (first | done | (repeat' (with_reducible apply And.intro)) <;> first | omega | (with_reducible assumption) | (intros; omega) | (intros; simp only [decide_eq_true_eq, decide_eq_false_iff_not, Bool.or_eq_true, Bool.and_eq_true, Bool.or_eq_false_iff, Bool.not_eq_true', Bool.not_eq_false'] at *; omega) | (simp_all; done) | (simp_all; omega))
    show DW _ _ _ _ _
    refine dw_reg (C := Rn) (by simp only [go_sem, hb, getD_bD hk2, hor]; exact rfl) (fun h => by cases h) ?_ ?_
    · try simp only [go_sem, hb, getD_bD hk2, hor]
      all_goals (first | done | (repeat' (with_reducible apply And.intro)) <;> first | omega | (with_reducible assumption) | (intros; omega) | (intros; simp only [decide_eq_true_eq, decide_eq_false_iff_not, Bool.or_eq_true, Bool.and_eq_true, Bool.or_eq_false_iff, Bool.not_eq_true', Bool.not_eq_false'] at *; omega) | (simp_all; done) | (simp_all; omega))
    show ∃ _, _
    refine ⟨(k + 1, stepN u ((pTake 8 st).1.getD k 0), _), ⟨(by first | (first | omega | (with_reducible assumption) | (simp_all; done) | (simp_all; omega)) | (dsimp only; first | omega | (with_reducible assumption) | (simp_all; done) | (simp_all; omega))), (by first | (exact stepN_lt _ _) | (dsimp only; exact stepN_lt _ _)), (by first | (first | omega | (with_reducible assumption) | (simp_all; done) | (simp_all; omega)) | (dsimp only; first | omega | (with_reducible assumption) | (simp_all; done) | (simp_all; omega))), (by first | (rw [← hv, drop_chr hk2]; rfl) | (dsimp only; rw [← hv, drop_chr hk2]; rfl)), trivial⟩, (by show (_ : Nat) < _; first | omega | simp_all; omega), ?_, ?_, ?_, Nat.le_refl _, rfl, rfl⟩
    · try simp only [go_sem, hb, getD_bD hk2, hor]
      all_goals (first | done | (simp; done) | (refine ⟨.inl ?_, .inl (by simp)⟩; exact congrArg (fun x => D.v (Value.int IntKind.u64 x)) hor) | (simp; omega))
    · try simp only [go_sem, hb, getD_bD hk2, hor]
      all_goals (first | done | (simp; done) | (refine ⟨.inl ?_, .inl (by simp)⟩; exact congrArg (fun x => D.v (Value.int IntKind.u64 x)) hor) | (simp; omega))
    · skip
      exact less_refl _
  · skip
    try simp only [decide_eq_true_eq, decide_eq_false_iff_not, Bool.or_eq_true, Bool.and_eq_true, Bool.or_eq_false_iff, Bool.not_eq_true', Bool.not_eq_false', Bool.and_eq_false_iff, beq_iff_eq, beq_eq_false_iff_ne, bne_iff_ne, bne_eq_false_iff_eq, ne_eq] at c1
    refine dw_exit ?_
    show DW _ _ _ _ _
    refine dw_step (C := Rn) (by simp only [go_sem, hb]; exact rfl) (fun h => by cases h) ?_ ?_
    · try simp only [go_sem, hb]
      all_goals (first | done | (repeat' (with_reducible apply And.intro)) <;> first | omega | (with_reducible assumption) | (intros; omega) | (intros; simp only [decide_eq_true_eq, decide_eq_false_iff_not, Bool.or_eq_true, Bool.and_eq_true, Bool.or_eq_false_iff, Bool.not_eq_true', Bool.not_eq_false'] at *; omega) | (simp_all; done) | (simp_all; omega))
    refine dw_ret ?_
    refine ⟨(by first | exact .inr rfl | trivial | simp), ?_, ?_⟩
    · simp only [go_sem, hb]
    refine ⟨upd h rb (some ⟨74, [[.list false (((pTake 8 st).2).1.map bD), .b ((pTake 8 st).2).2]]⟩), _, ?_, Nat.le_refl _, ?_⟩
    · exact fun _ => .inl rfl
    · try simp only [go_sem, hb]
      all_goals (rw [List.drop_eq_nil_of_le (by omega)] at hv; exact ⟨by rw [show u = numU (pTake 8 st).1 from hv]; rfl, rfl, by omega⟩)

end Go.Proofs.YtfggmgafjabbjaaDoor
