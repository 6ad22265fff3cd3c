/-
  MANY TEXTS OF MINE IN ONE (a claim has a limit of files): RcW7, RcW8, RcW9, RcW10, RcW14, RcW15, RcW16, RcW11, RcW12, RcW19, RcW18, RcW20, LwW2, LwMatches. Conditions: none.
-/
import Derived.Test.YtjngdcldglkolaaDoorMR3
set_option linter.unusedVariables false
set_option linter.unusedSimpArgs false
set_option linter.unusedSectionVars false
namespace Go.Proofs.YtjngdcldglkolaaDoor
open Go.DL Go.Str Go.Rec Go.Cmp
set_option maxRecDepth 10000
theorem or_step {u : Nat} (hu : u < 18446744073709551616) (c : UInt8) : IntKind.u64.wrap ((BitVec.ofInt 64 (IntKind.u64.wrap ((u : Int) * 2 ^ (min 8 64))) ||| BitVec.ofInt 64 (IntKind.u64.wrap (c.toNat : Int))).toNat : Nat) = (Zmg u c : Int) := by
 have hc := c.toNat_lt
 have e0 : ((2 : Int) ^ (min 8 64)) = 256 := rfl
 rw [e0]
 have e1 : IntKind.u64.wrap ((u : Int) * 256) = ((u * 256 % 18446744073709551616 : Nat) : Int) := by rw [IntKind.wrap_u64]; omega
 have e2 : IntKind.u64.wrap (c.toNat : Int) = (c.toNat : Int) := by rw [IntKind.wrap_u64]; omega
 rw [e1, e2, BitVec.ofInt_natCast, BitVec.ofInt_natCast, BitVec.toNat_or, BitVec.toNat_ofNat, BitVec.toNat_ofNat]
 have e3 : c.toNat % 2 ^ 64 = c.toNat := Nat.mod_eq_of_lt (by omega)
 have e4 : u * 256 % 18446744073709551616 % 2 ^ 64 = (u % 72057594037927936) <<< 8 := by rw [Nat.shiftLeft_eq]; omega
 rw [e3, e4, ← Nat.shiftLeft_add_eq_or_of_lt (by omega : c.toNat < 2 ^ 8), Nat.shiftLeft_eq, IntKind.wrap_u64]
 unfold Zmg
 omega
theorem Zvl (u : Nat) (c : UInt8) : Zmg u c < 18446744073709551616 := by unfold Zmg; omega
theorem take_no' {m : Int} {st : RS} (h : (st.2 || decide ((st.1.length : Int) < m)) = true) : Zub m st = ([], (st.1, true)) := by
 unfold Zub; rw [if_pos h]
theorem take_ok' {m : Int} {st : RS} (h : (st.2 || decide ((st.1.length : Int) < m)) = false) : Zub m st = (st.1.take m.toNat, (st.1.drop m.toNat, st.2)) := by
 unfold Zub; rw [h, (Bool.or_eq_false_iff.1 h).1]; rfl
@[go_sem] theorem map_byteOf {l : Str} : (l.map bD).map Go.DL.byteOf = l := Zee (f := bD) (g := Go.DL.byteOf) (fun x => by simp [Go.DL.byteOf, bD]) l
@[go_sem] theorem all_isByte {l : Str} : (l.map bD).all isByte = true := by
 induction l with
 | nil => rfl
 | cons x l ih => simp only [List.map_cons, List.all_cons, ih]; rfl
theorem take_len (n : Nat) (st : RS) : (Zub n st).1.length ≤ n := by
 unfold Zub
 split
 ·
  exact Nat.zero_le _
 ·
  show (st.1.take _).length ≤ n
  simp; omega
theorem wrapc (c : UInt8) : IntKind.i64.wrap (c.toNat : Int) = (c.toNat : Int) := by
 have := c.toNat_lt
 rw [IntKind.wrap_i64]; omega
theorem Zqy {l : Str} {k : Nat} (h : k < l.length) : l.drop k = l.getD k 0 :: l.drop (k + 1) := by
 rw [List.drop_eq_getElem_cons h]
 congr 1
 simp [List.getD, h]
theorem Zfw {l : Str} {n : Nat} (h : n < l.length) : (l.map bD).getD n [] = [.v (.int .u8 ((l.getD n 0).toNat : Int))] := by
 simp [List.getD, h, bD]
theorem count_le (st : RS) : (Zla st).1 ≤ 255 := by
 unfold Zla
 split
 ·
  have := ((Zub 1 st).1.getD 0 0).toNat_lt
  simp only
  omega
 ·
  exact Nat.zero_le _
theorem Zmu {n k : Nat} {out : List Dat} {st : RS} (h : k < n) (c : (Zfb (Zfb (Zma st).2).2).2.2 = false) : Zvc (n - k) out st = Zvc (n - (k + 1)) (out ++ [(Zsg st).1]) (Zsg st).2 := by
 rw [show n - k = (n - (k + 1)) + 1 by omega, Zvc, if_neg (by rw [show (Zsg st).2.2 = (Zfb (Zfb (Zma st).2).2).2.2 from rfl, c]; simp)]
theorem Zo4 {n k : Nat} {out : List Dat} {st : RS} (h : k < n) (c : (Zfb (Zfb (Zma st).2).2).2.2 = true) : Zvc (n - k) out st = (out, (Zsg st).2) := by
 rw [show n - k = (n - (k + 1)) + 1 by omega, Zvc, if_pos (show (Zsg st).2.2 = true from c)]
theorem Zp4 {n k : Nat} {out : List Dat} {st : RS} (h : ¬ k < n) : Zvc (n - k) out st = (out, st) := by
 rw [show n - k = 0 by omega]; rfl
theorem Zrx {x : Str} {out : List Dat} {st : RS} (h : (out, st) = Zvc (Zla (Zfb (Zfb (Zma (x, false)).2).2).2).1 [] (Zla (Zfb (Zfb (Zma (x, false)).2).2).2).2) : Zcp (x, false) = (⟨(Zma (x, false)).1, (Zfb (Zma (x, false)).2).1, (Zfb (Zfb (Zma (x, false)).2).2).1, out⟩, st) := by
 unfold Zcp
 simp only
 rw [← h]
theorem Zm2 {x : Str} {out : List Dat} {st : RS} (h : (out, st) = Zvc (Zla (Zfb (Zfb (Zma (x, false)).2).2).2).1 [] (Zla (Zfb (Zfb (Zma (x, false)).2).2).2).2) (c : ((st.2 || decide ((0 : Int) < st.1.length)) || !setOk ⟨(Zma (x, false)).1, (Zfb (Zma (x, false)).2).1, (Zfb (Zfb (Zma (x, false)).2).2).1, out⟩) = true) : readF x = (noSet, 10) := by
 have e : decide ((0 : Int) < st.1.length) = decide (0 < st.1.length) := decide_eq_decide.2 (by omega)
 rw [e] at c
 unfold readF
 rw [Zrx h]
 exact if_pos c
theorem Zqx {x : Str} {out : List Dat} {st : RS} (h : (out, st) = Zvc (Zla (Zfb (Zfb (Zma (x, false)).2).2).2).1 [] (Zla (Zfb (Zfb (Zma (x, false)).2).2).2).2) (c : ((st.2 || decide ((0 : Int) < st.1.length)) || !setOk ⟨(Zma (x, false)).1, (Zfb (Zma (x, false)).2).1, (Zfb (Zfb (Zma (x, false)).2).2).1, out⟩) = false) : readF x = (⟨(Zma (x, false)).1, (Zfb (Zma (x, false)).2).1, (Zfb (Zfb (Zma (x, false)).2).2).1, out⟩, 0) := by
 have e : decide ((0 : Int) < st.1.length) = decide (0 < st.1.length) := decide_eq_decide.2 (by omega)
 rw [e] at c
 unfold readF
 rw [Zrx h]
 exact if_neg (by rw [Bool.not_eq_true]; exact c)
@[go_sem] theorem bslU : Zy4 Tryd.prog 26 = true := by kernel_rfl
theorem bo61 : Zea Tryd.prog 61 = true := by kernel_rfl
theorem Zyu (m : Int) (hm : 0 ≤ m) (st : RS) (rb : Nat) (h : H) (n : Nat) (hb : h rb = some ⟨65, [[.list false ((st).1.map bD), .b (st).2]]⟩) : RCt Tryd.prog 61 [.mptr rb 0 0, .i m] h n (fun d h' n' => (∃ f, d = .list f ((Zub m st).1.map bD)) ∧ h' = upd h rb (some ⟨65, [[.list false (((Zub m st).2).1.map bD), .b ((Zub m st).2).2]]⟩) ∧ n ≤ n') := by
 refine Zqa Tryd.func61 rfl bo61 (by simp [Tryd.f61]) (fun hnone => ?_)
 unfold Tryd.f61
 have ff := True.intro
 have ff := And.intro @hb ff
 refine stp Ln ?_
 refine Zaa ?_
 refine stp Ln ?_
 refine cd (fun c1 => ?_) (fun c1 => ?_) (hp := rfl) (hq := rfl)
 ·
  refine stp Ln ?_
  refine stp Ln ?_
  refine Zca ?_
  exact Zhi (upd h rb (some ⟨65, [[.list false (st.1.map bD), .b true]]⟩)) (hr := by (try simp only [go_sem, ff]); all_goals (rw [take_no' c1]; exact ⟨⟨_, rfl⟩, rfl, by omega⟩)) (hh := by intro q; left; by_cases e1 : q = rb <;> simp [upd, e1])
 ·
  have c1b := Bool.or_eq_false_iff.1 c1
  have c1c := of_decide_eq_false c1b.2
  refine dw_skip ?_
  show DW _ _ _ _ _
  refine stp Ln ?_
  refine stp Ln ?_
  refine stp Ln ?_
  refine Zca ?_
  exact Zhi (upd h rb (some ⟨65, [[.list false ((st.1.drop m.toNat).map bD), .b st.2]]⟩)) (hr := by (try simp only [go_sem, ff]); all_goals (rw [take_ok' c1]; exact ⟨⟨_, by rw [List.map_take]⟩, rfl, by omega⟩)) (hh := by intro q; left; by_cases e1 : q = rb <;> simp [upd, e1])
theorem bo42 : Zea Tryd.prog 42 = true := by kernel_rfl
theorem Zvy (st : RS) (rb : Nat) (h : H) (n : Nat) (hb : h rb = some ⟨65, [[.list false ((st).1.map bD), .b (st).2]]⟩) : RCt Tryd.prog 42 [.mptr rb 0 0] h n (fun d h' n' => d = .i (Zla st).1 ∧ h' = upd h rb (some ⟨65, [[.list false (((Zla st).2).1.map bD), .b ((Zla st).2).2]]⟩) ∧ n ≤ n') := by
 refine Zqa Tryd.func42 rfl bo42 (by simp [Tryd.f42]) (fun hnone => ?_)
 unfold Tryd.f42
 have ff := True.intro
 have ff := And.intro @hb ff
 refine stp Ln ?_
 refine Zaa ?_
 refine Zaa (Zcf Ln 1 (hct := by exact Zyu 1 (by omega) st rb _ _ (by simp only [go_sem, hb])) (hk := ?_))
 rintro res h2 n2 ⟨⟨f, rfl⟩, rfl, a1⟩
 try dsimp only at a1
 refine Zbf Ln ?_
 show DW _ _ _ _ _
 refine stp Ln ?_
 refine cd (fun c1 => ?_) (fun c1 => ?_)
 ·
  have hk : 0 < (Zub 1 st).1.length := by omega
  have ff := And.intro (Zfw hk) (And.intro @wrapc ff)
  refine stp Ln ?_
  refine Zca ?_
  exact Zhi (upd h rb (some ⟨65, [[.list false (((Zla st).2).1.map bD), .b ((Zla st).2).2]]⟩)) (hr := by (try simp only [go_sem, ff]); all_goals (exact ⟨by unfold Zla; rw [if_pos (by omega)], by omega⟩))
 ·
  refine dw_skip ?_
  show DW _ _ _ _ _
  refine stp Ln ?_
  refine Zca ?_
  exact Zhi (upd h rb (some ⟨65, [[.list false (((Zla st).2).1.map bD), .b ((Zla st).2).2]]⟩)) (hr := by (try simp only [go_sem, ff]); all_goals (exact ⟨by unfold Zla; rw [if_neg (by omega)]; rfl, by omega⟩))
theorem bo40 : Zea Tryd.prog 40 = true := by kernel_rfl
theorem Zy1 (st : RS) (rb : Nat) (h : H) (n : Nat) (hb : h rb = some ⟨65, [[.list false ((st).1.map bD), .b (st).2]]⟩) : RCt Tryd.prog 40 [.mptr rb 0 0] h n (fun d h' n' => d = .v (.string (bs (Zma st).1)) ∧ h' = upd h rb (some ⟨65, [[.list false (((Zma st).2).1.map bD), .b ((Zma st).2).2]]⟩) ∧ n ≤ n') := by
 refine Zqa Tryd.func40 rfl bo40 (by simp [Tryd.f40]) (fun hnone => ?_)
 unfold Tryd.f40
 have ff := True.intro
 have ff := And.intro @hb ff
 refine stp Ln ?_
 refine Zaa (Zf4 ?_)
 refine Zxl (C := Ln) 2 (R := _) (by omega) (Zdh rfl) rfl rfl (by simp only [List.drop_succ_cons, List.drop_zero, List.take_succ_cons, List.take_zero, S.put, Nat.sub_self, go_sem, ff]; exact rfl) ?_ ?_ (by simp only [go_sem, ff]; exact rfl) (by simp only [go_sem, ff]) (by simp only [go_sem, ff]; exact rfl) (by exact Zvy st rb _ _ (by simp only [go_sem, hb])) ?_
 ·
  try simp only [go_sem, ff]
  all_goals (first | done | (repeat' (with_reducible apply And.intro)) <;> first | omega | (with_reducible assumption) | (intros; omega) | (intros; simp only [decide_eq_true_eq, decide_eq_false_iff_not, Bool.or_eq_true, Bool.and_eq_true, Bool.or_eq_false_iff, Bool.not_eq_true', Bool.not_eq_false'] at *; omega) | (simp_all; done) | (simp_all; omega))
 ·
  try simp only [go_sem, ff]
  all_goals (first | done | rfl | decide | simp)
 rintro res h2 n2 ⟨rfl, rfl, a1⟩
 try dsimp only at a1
 refine Zxl (C := Ln) 3 (R := _) (by omega) (Zdh rfl) rfl rfl (by simp only [List.drop_succ_cons, List.drop_zero, List.take_succ_cons, List.take_zero, S.put, Nat.sub_self, go_sem, ff]; exact rfl) ?_ ?_ (by simp only [go_sem, ff]; exact rfl) (by simp only [go_sem, ff]) (by simp only [go_sem, ff]; exact rfl) (by exact Zyu ((Zla st).1) (by omega) (Zla st).2 rb _ _ (by simp only [go_sem])) ?_
 ·
  try simp only [go_sem, ff]
  all_goals (first | done | (repeat' (with_reducible apply And.intro)) <;> first | omega | (with_reducible assumption) | (intros; omega) | (intros; simp only [decide_eq_true_eq, decide_eq_false_iff_not, Bool.or_eq_true, Bool.and_eq_true, Bool.or_eq_false_iff, Bool.not_eq_true', Bool.not_eq_false'] at *; omega) | (simp_all; done) | (simp_all; omega))
 ·
  try simp only [go_sem, ff]
  all_goals (first | done | rfl | decide | simp)
 rintro res h3 n3 ⟨⟨f, rfl⟩, rfl, a2⟩
 try dsimp only at a2
 refine Zwl (C := Ln) (by first | decide | simp) (by simp only [List.drop_succ_cons, List.drop_zero, List.take_succ_cons, List.take_zero, S.put, Nat.sub_self, go_sem, ff]; exact rfl) ?_ rfl ?_
 ·
  try simp only [go_sem, ff]
  all_goals (first | done | (repeat' (with_reducible apply And.intro)) <;> first | omega | (with_reducible assumption) | (intros; omega) | (intros; simp only [decide_eq_true_eq, decide_eq_false_iff_not, Bool.or_eq_true, Bool.and_eq_true, Bool.or_eq_false_iff, Bool.not_eq_true', Bool.not_eq_false'] at *; omega) | (simp_all; done) | (simp_all; omega))
 try simp only [Zed]
 show DW _ _ _ _ _
 refine Zca ?_
 exact Zhi (upd h rb (some ⟨65, [[.list false (((Zma st).2).1.map bD), .b ((Zma st).2).2]]⟩)) (hr := by (try simp only [go_sem, ff]); all_goals (exact ⟨by simp [Zma], by omega⟩)) (hh := by intro q; left; by_cases e1 : q = rb <;> simp [upd, e1, Zma])
theorem bo41 : Zea Tryd.prog 41 = true := by kernel_rfl
theorem Zcj (st : RS) (rb : Nat) (h : H) (n : Nat) (hb : h rb = some ⟨65, [[.list false ((st).1.map bD), .b (st).2]]⟩) : RCt Tryd.prog 41 [.mptr rb 0 0] h n (fun d h' n' => d = .i (Zfb st).1 ∧ h' = upd h rb (some ⟨65, [[.list false (((Zfb st).2).1.map bD), .b ((Zfb st).2).2]]⟩) ∧ n ≤ n') := by
 refine Zqa Tryd.func41 rfl bo41 (by simp [Tryd.f41]) (fun hnone => ?_)
 unfold Tryd.f41
 have ff := True.intro
 have ff := And.intro @hb ff
 refine stp Ln ?_
 refine stp Ln ?_
 refine Zaa ?_
 refine Zaa (Zcf Ln 1 (hct := by exact Zyu 8 (by omega) st rb _ _ (by simp only [go_sem, hb])) (hk := ?_))
 rintro res h2 n2 ⟨⟨f, rfl⟩, rfl, a1⟩
 try dsimp only at a1
 refine Zbf Ln ?_
 show DW _ _ _ _ _
 refine Zba ?_
 refine lph (α := (Nat) × (Nat) × Nat) [7, 8] (fun ⟨k, u, nx⟩ => (k ≤ (Zub 8 st).1.length) ∧ (u < 18446744073709551616) ∧ (n ≤ nx) ∧ (((Zub 8 st).1.drop k).foldl Zmg u = numU (Zub 8 st).1) ∧ True) (fun ⟨k, u, nx⟩ => (Zub 8 st).1.length - k) (fun ⟨k, u, nx⟩ => [(3, .v (.int .u64 u)), (9, .i k)]) (fun ⟨k, u, nx⟩ => upd h rb (some ⟨65, [[.list false (((Zub 8 st).2).1.map bD), .b ((Zub 8 st).2).2]]⟩)) (fun ⟨k, u, nx⟩ => nx) (0, 0, _) (hA := ⟨iv, (by first | (omega) | (dsimp only; omega)), iv, rfl, trivial⟩) (round := ?_)
 rintro ⟨k, u, nx⟩ ⟨hk, hu, hn, hv, -⟩
 show DW _ _ _ _ { n := _, t := tab _, h := _, nx := _, e := _ }
 simp only [List.cons_append, List.nil_append]
 refine stp Ln ?_
 refine Zaa ?_
 refine cd (fun c1 => ?_) (fun c1 => ?_) (hp := rfl)
 ·
  have hk2 : k < (Zub 8 st).1.length := by simpa using c1
  have h8 : (Zub 8 st).1.length ≤ 8 := take_len 8 st
  have hor := or_step hu ((Zub 8 st).1.getD k 0)
  have ff := And.intro (Zfw hk2) (And.intro @hor ff)
  refine dw_skip ?_
  show DW _ _ _ _ _
  refine Zaa ?_
  refine Zba ?_
  refine stp Ln ?_
  refine rgn Ln ?_
  show DW _ _ _ _ _
  refine rgn Ln ?_
  show ∃ _, _
  exact rnd (k + 1, Zmg u ((Zub 8 st).1.getD k 0), _) (h1 := ⟨iv, (by first | (exact Zvl _ _) | (dsimp only; exact Zvl _ _)), iv, (by first | (rw [← hv, Zqy hk2]; rfl) | (dsimp only; rw [← hv, Zqy hk2]; rfl)), trivial⟩) (h3 := by (try simp only [go_sem, ff]); all_goals (first | done | (simp; done) | (refine ⟨.inl ?_, .inl (by simp)⟩; exact congrArg (fun x => D.v (Value.int IntKind.u64 x)) hor) | (simp; omega))) (h4 := by (try simp only [go_sem, ff]); all_goals (first | done | (simp; done) | (refine ⟨.inl ?_, .inl (by simp)⟩; exact congrArg (fun x => D.v (Value.int IntKind.u64 x)) hor) | (simp; omega)))
 ·
  refine Zja ?_
  show DW _ _ _ _ _
  refine stp Ln ?_
  refine Zca ?_
  exact Zhi (upd h rb (some ⟨65, [[.list false (((Zub 8 st).2).1.map bD), .b ((Zub 8 st).2).2]]⟩)) (hr := by (try simp only [go_sem, ff]); all_goals (rw [List.drop_eq_nil_of_le (by omega)] at hv; exact ⟨by rw [show u = numU (Zub 8 st).1 from hv]; rfl, rfl, by omega⟩))
set_option maxRecDepth 10000
theorem bo15 : Zea Tryd.prog 15 = true := by kernel_rfl
theorem Zvq (x : Str) : PureCt Tryd.prog 15 [.list false (x.map bD)] (.tuple [.agg (readF x).1.d, .i (readF x).2]) := by
 refine Zda Tryd.func15 rfl bo15 (by simp [go_sem, D.nr, nrs, nrr]) (by simp [Tryd.f15]) ?_
 unfold Tryd.f15
 simp only [Zia]
 have ff := True.intro
 refine stp Ln ?_
 refine stp Ln ?_
 refine stp Ln ?_
 refine Zaa (Zcf Ln 1 (hct := by exact Zy1 (x, false) 4 _ _ rfl) (hk := ?_))
 rintro res h2 n2 ⟨rfl, rfl, a1⟩
 try dsimp only at a1
 have p4 : 4 < n2 := by omega
 have p0 : 0 < n2 := by omega
 have ff := And.intro @p4 (And.intro @p0 ff)
 refine Zbf Ln ?_
 show DW _ _ _ _ _
 obtain ⟨q, hq⟩ : ∃ q, q = n2 + 3 := ⟨_, rfl⟩
 rw [← hq]
 refine Zwr q 3 24 45 (by simp only [go_sem, ff]; exact rfl) (by rfl) (by simp only [go_sem, ff]) ?_
 simp only [List.set_cons_succ, List.set_cons_zero]
 obtain ⟨r0, hr0⟩ : ∃ r0, r0 = (n2 + 5) := ⟨_, rfl⟩
 rw [← hr0]
 have z4_q : (4 = q) = False := eq_false (by omega)
 have yq_4 : (q = 4) = False := eq_false (by omega)
 have z4_r0 : (4 = r0) = False := eq_false (by omega)
 have yr0_4 : (r0 = 4) = False := eq_false (by omega)
 have zq_r0 : (q = r0) = False := eq_false (by omega)
 have yr0_q : (r0 = q) = False := eq_false (by omega)
 have z0_q : (0 = q) = False := eq_false (by omega)
 have yq_0 : (q = 0) = False := eq_false (by omega)
 have z0_r0 : (0 = r0) = False := eq_false (by omega)
 have yr0_0 : (r0 = 0) = False := eq_false (by omega)
 have ff := And.intro @z4_q (And.intro @yq_4 (And.intro @z4_r0 (And.intro @yr0_4 (And.intro @zq_r0 (And.intro @yr0_q (And.intro @z0_q (And.intro @yq_0 (And.intro @z0_r0 (And.intro @yr0_0 ff)))))))))
 refine Zfg [2, 4, 5, 6, 7] [(0, ⟨24, [[.v (.string (bs [])), .i 0, .i 0, .list true []]]⟩), (4, ⟨65, [[.list false (((Zma (x, false)).2).1.map bD), .b ((Zma (x, false)).2).2]]⟩), (q, ⟨24, [[.v (.string (bs ((Zma (x, false)).1))), .i (0), .i (0), .mrow r0 0 0]]⟩), (r0, ⟨45, []⟩)] (by simp only [List.map_cons, List.map_nil, go_sem, ff]; exact rfl) (by first | (simp only [go_sem, ff]; done) | (simp [go_sem, ff]; done)) ?_
 show DW _ _ _ _ { n := _, t := tab _, h := _, nx := _, e := _ }
 refine Zaa (Zcf Ln 1 (hct := by exact Zcj (Zma (x, false)).2 4 _ _ (by simp only [go_sem])) (hk := ?_))
 rintro res h2 n2 ⟨rfl, rfl, a2⟩
 try dsimp only at a2
 have p4 : 4 < n2 := by omega
 have p0 : 0 < n2 := by omega
 have pq : q < n2 := by omega
 have pr : r0 < n2 := by omega
 have ff := And.intro @pq (And.intro @pr ff)
 refine Zbf Ln ?_
 show DW _ _ _ _ _
 refine Zaa (Zcf Ln 1 (hct := by exact Zcj (Zfb (Zma (x, false)).2).2 4 _ _ (by simp only [go_sem, z4_q, yq_4] )) (hk := ?_))
 rintro res h2 n2 ⟨rfl, rfl, a3⟩
 try dsimp only at a3
 have p4 : 4 < n2 := by omega
 have p0 : 0 < n2 := by omega
 have pq : q < n2 := by omega
 have pr : r0 < n2 := by omega
 refine Zbf Ln ?_
 show DW _ _ _ _ _
 refine Zaa ?_
 refine Zaa (Zcf Ln 0 (hct := by exact Zvy (Zfb (Zfb (Zma (x, false)).2).2).2 4 _ _ (by simp only [go_sem, z4_q, yq_4])) (hk := ?_))
 rintro res h2 n2 ⟨rfl, rfl, a4⟩
 try dsimp only at a4
 have p4 : 4 < n2 := by omega
 have p0 : 0 < n2 := by omega
 have pq : q < n2 := by omega
 have pr : r0 < n2 := by omega
 refine Zbf Ln ?_
 show DW _ _ _ _ _
 refine Zba ?_
 refine lp (α := (Nat) × (List Dat) × (Nat) × (RS) × Nat) [2, 4, 5, 6, 7, 22] (fun ⟨k, out, r, st, nx⟩ => (k ≤ (Zla (Zfb (Zfb (Zma (x, false)).2).2).2).1) ∧ (r < nx) ∧ (r ≠ 0 ∧ r ≠ 4 ∧ r ≠ q) ∧ (q < nx) ∧ (out.length ≤ k) ∧ (Zvc ((Zla (Zfb (Zfb (Zma (x, false)).2).2).2).1 - k) out st = Zvc (Zla (Zfb (Zfb (Zma (x, false)).2).2).2).1 [] (Zla (Zfb (Zfb (Zma (x, false)).2).2).2).2) ∧ True) (fun ⟨k, out, r, st, nx⟩ => (Zla (Zfb (Zfb (Zma (x, false)).2).2).2).1 - k) (fun ⟨k, out, r, st, nx⟩ => [(23, .i k)]) (fun ⟨k, out, r, st, nx⟩ => [(0, ⟨24, [[.v (.string (bs [])), .i 0, .i 0, .list true []]]⟩), (4, ⟨65, [[.list false ((st).1.map bD), .b (st).2]]⟩), (q, ⟨24, [[.v (.string (bs ((Zma (x, false)).1))), .i ((Zfb (Zma (x, false)).2).1), .i ((Zfb (Zfb (Zma (x, false)).2).2).1), .mrow r 0 out.length]]⟩), (r, ⟨45, out.map Dat.d⟩)]) (fun ⟨k, out, r, st, nx⟩ => nx) (0, [], r0, (Zla (Zfb (Zfb (Zma (x, false)).2).2).2).2, _) (hA := ⟨iv, iv, iv, iv, (by first | (simp) | (dsimp only; simp)), (by first | (simp) | (dsimp only; simp)), trivial⟩) (round := ?_)
 rintro ⟨k, out, r, st, nx⟩ ⟨hk, hr, hrn, hqn, ho, hv, -⟩
 show DW _ _ _ _ { n := _, t := tab _, h := _, nx := _, e := _ }
 simp only [List.cons_append, List.nil_append]
 have p4 : 4 < nx := by omega
 have p0 : 0 < nx := by omega
 have z0_r : (0 = r) = False := eq_false (by omega)
 have yr_0 : (r = 0) = False := eq_false (by omega)
 have z4_r : (4 = r) = False := eq_false (by omega)
 have yr_4 : (r = 4) = False := eq_false (by omega)
 have zq_r : (q = r) = False := eq_false (by omega)
 have yr_q : (r = q) = False := eq_false (by omega)
 have ff := And.intro @hr (And.intro @hqn (And.intro @p4 (And.intro @p0 (And.intro @z0_r (And.intro @yr_0 (And.intro @z4_r (And.intro @yr_4 (And.intro @zq_r (And.intro @yr_q ff)))))))))
 refine stp Ln ?_
 refine Zaa ?_
 refine cd (fun c1 => ?_) (fun c1 => ?_) (hp := rfl) (hq := rfl)
 ·
  have hk2 : k < (Zla (Zfb (Zfb (Zma (x, false)).2).2).2).1 := by simpa using c1
  have hc8 := count_le (Zfb (Zfb (Zma (x, false)).2).2).2
  refine dw_skip ?_
  show DW _ _ _ _ _
  refine Zaa ?_
  refine Zba ?_
  refine stp Ln ?_
  refine Zaa (Zcf Ln 1 (hct := by exact Zy1 st 4 _ _ (by simp only [go_sem, p4])) (hk := ?_))
  rintro res h2 n2 ⟨rfl, rfl, a5⟩
  try dsimp only at a5
  refine Zbf Ln ?_
  show DW _ _ _ _ _
  refine Zaa (Zcf Ln 1 (hct := by exact Zcj (Zma st).2 4 _ _ (by simp only [go_sem, p4])) (hk := ?_))
  rintro res h2 n2 ⟨rfl, rfl, a6⟩
  try dsimp only at a6
  refine Zbf Ln ?_
  show DW _ _ _ _ _
  refine Zaa (Zcf Ln 1 (hct := by exact Zcj (Zfb (Zma st).2).2 4 _ _ (by simp only [go_sem, p4])) (hk := ?_))
  rintro res h2 n2 ⟨rfl, rfl, a7⟩
  try dsimp only at a7
  have ww : nx + 1 < n2 := by omega
  have w4 : 4 < n2 := by omega
  have w0 : 0 < n2 := by omega
  have wq : q < n2 := by omega
  have wr : r < n2 := by omega
  have ff := And.intro @ww (And.intro @w4 (And.intro @w0 (And.intro @wq (And.intro @wr ff))))
  refine Zbf Ln ?_
  show DW _ _ _ _ _
  refine Zaa ?_
  refine stp Ln ?_
  refine cd (fun c2 => ?_) (fun c2 => ?_) (hp := rfl) (hq := rfl)
  ·
   have hv2 := hv
   rw [Zo4 hk2 c2] at hv2
   refine Zja ?_
   show DW _ _ _ _ _
   refine Zaa ?_
   refine Zkf q 3 r (rows := out.map Dat.d) (off := 0) (len := out.length) (by simp only [go_sem, ff]; exact rfl) (by rfl) (by simp only [go_sem, ff]; exact rfl) (by omega) (by simp) Zyh ?_
   simp only [List.drop_zero, Zmd, List.set_cons_succ, List.set_cons_zero]
   refine stp Ln ?_ (hok := by (try simp only [go_sem, ff]); all_goals (first | done | ((repeat' (with_reducible apply And.intro)) <;> first | exact Znb ⟨_, _, _, out⟩ | (intros; exact Znb ⟨_, _, _, out⟩))))
   refine cd (fun c9 => ?_) (fun c9 => ?_) (hp := rfl) (hq := rfl)
   ·
    refine stp Ln ?_
    refine Zca ?_
    exact fin 2 (hr := by (try simp only [go_sem, ff]); all_goals (rw [Zm2 hv2 c9]; try rfl))
   ·
    refine dw_skip ?_
    show DW _ _ _ _ _
    refine stp Ln ?_
    refine Zca ?_
    exact fin 2 (hr := by (try simp only [go_sem, ff]); all_goals (rw [Zqx hv2 c9]; try rfl))
  ·
   refine dw_skip ?_
   show DW _ _ _ _ _
   refine rgn Ln ?_
   show DW _ _ _ _ _
   refine rgn Ln ?_
   show ∃ _, _
   exact rnd (k + 1, out ++ [(Zsg st).1], (n2 + 10), (Zsg st).2, _) (h1 := ⟨iv, iv, iv, iv, (by first | (simp; omega) | (dsimp only; simp; omega)), (by first | (rw [← hv, Zmu hk2 c2]) | (dsimp only; rw [← hv, Zmu hk2 c2])), trivial⟩) (h3 := by (try simp only [go_sem, ff]); all_goals (first | done | (simp; done) | (simp [Dat.d, Zsg]; done) | ((repeat' (with_reducible apply And.intro)) <;> first | rfl | (left; simp; done) | (simp [Dat.d, Zsg]; done)))) (h4 := by (try simp only [go_sem, ff]); all_goals (first | done | (simp; done) | (simp [Dat.d, Zsg]; done) | ((repeat' (with_reducible apply And.intro)) <;> first | rfl | (left; simp; done) | (simp [Dat.d, Zsg]; done)))) (h5 := by (try simp only [go_sem, ff]); all_goals (first | done | (simp; done) | (simp [Dat.d, Zsg]; done) | ((repeat' (with_reducible apply And.intro)) <;> first | rfl | (left; simp; done) | (simp [Dat.d, Zsg]; done))))
 ·
  have hk2 : ¬ k < (Zla (Zfb (Zfb (Zma (x, false)).2).2).2).1 := by simpa using c1
  have hv2 := hv
  rw [Zp4 hk2] at hv2
  refine Zja ?_
  show DW _ _ _ _ _
  refine Zaa ?_
  refine Zkf q 3 r (rows := out.map Dat.d) (off := 0) (len := out.length) (by simp only [go_sem, ff]; exact rfl) (by rfl) (by simp only [go_sem, ff]; exact rfl) (by omega) (by simp) Zyh ?_
  simp only [List.drop_zero, Zmd, List.set_cons_succ, List.set_cons_zero]
  refine stp Ln ?_ (hok := by (try simp only [go_sem, ff]); all_goals (first | done | ((repeat' (with_reducible apply And.intro)) <;> first | exact Znb ⟨_, _, _, out⟩ | (intros; exact Znb ⟨_, _, _, out⟩))))
  refine cd (fun c9 => ?_) (fun c9 => ?_) (hp := rfl) (hq := rfl)
  ·
   refine stp Ln ?_
   refine Zca ?_
   exact fin 2 (hr := by (try simp only [go_sem, ff]); all_goals (rw [Zm2 hv2 c9]; try rfl))
  ·
   refine dw_skip ?_
   show DW _ _ _ _ _
   refine stp Ln ?_
   refine Zca ?_
   exact fin 2 (hr := by (try simp only [go_sem, ff]); all_goals (rw [Zqx hv2 c9]; try rfl))
set_option maxRecDepth 10000
theorem Zua {α : Type} {f : Nat → α} {i : Nat} {x y : α} : upd (upd f i x) i y = upd f i y := by
 funext j
 by_cases e : j = i <;> simp [upd, e]
theorem Zkc {s : List RSet} {i : Nat} (h : i < s.length) : (s.map RSet.d).getD i [] = [.v (.string (bs s[i]!.name)), .i s[i]!.ty, .i s[i]!.life, .list false (s[i]!.data.map Dat.d)] := getD_set h
theorem Zxq {s : List RSet} {i j : Nat} {x : List D} (hj : j < s.length) (hij : i ≠ j) : ((s.map RSet.d).set i x).getD j [] = [.v (.string (bs s[j]!.name)), .i s[j]!.ty, .i s[j]!.life, .list false (s[j]!.data.map Dat.d)] := by
 rw [← Zkc hj]
 simp [List.getD, List.getElem?_set_ne hij]
theorem Zwq {s : List RSet} {i j : Nat} : ((s.map RSet.d).set i [.v (.string (bs s[j]!.name)), .i s[j]!.ty, .i s[j]!.life, .list false (s[j]!.data.map Dat.d)]).set j [.v (.string (bs s[i]!.name)), .i s[i]!.ty, .i s[i]!.life, .list false (s[i]!.data.map Dat.d)] = (sw s i j).map RSet.d := by
 have e : ∀ x : RSet, [.v (.string (bs x.name)), .i x.ty, .i x.life, .list false (x.data.map Dat.d)] = x.d := fun x => rfl
 rw [e, e, ← List.map_set, ← List.map_set]; rfl
theorem bo67 : Zea Tryd.prog 67 = true := by kernel_rfl
theorem Zp3 (s : List RSet) (a b : Nat) (r : Nat) (h : H) (n : Nat) (hab : a ≤ b) (hb : b ≤ s.length) (hl : s.length ≤ 100000) (hr : h r = some ⟨24, (s).map RSet.d⟩) : RCt Tryd.prog 67 [.mrow r 0 s.length, .i a, .i b, .fn (.func 20) [] []] h n (fun d h' n' => d = .tuple [] ∧ h' = upd h r (some ⟨24, (Zlh plC s a b).map RSet.d⟩) ∧ n ≤ n') := by
 refine Zqa Tryd.func67 rfl bo67 (by simp [Tryd.f67]) (fun hnone => ?_)
 unfold Tryd.f67
 have ff := True.intro
 have ff := And.intro @hr ff
 refine stp Ln ?_
 refine Zba ?_
 refine lph (α := (Nat) × (List RSet) × Nat) [0, 1, 2, 3] (fun ⟨i, s1, nx⟩ => (s1.length = s.length) ∧ (a < i) ∧ (n ≤ nx) ∧ (Zeg plC s a b (a + 1) = Zeg plC s1 a b i) ∧ True) (fun ⟨i, s1, nx⟩ => b - i) (fun ⟨i, s1, nx⟩ => [(8, .i i)]) (fun ⟨i, s1, nx⟩ => upd h r (some ⟨24, (s1).map RSet.d⟩)) (fun ⟨i, s1, nx⟩ => nx) (a + 1, s, _) (hA := ⟨rfl, iv, iv, rfl, trivial⟩) (round := ?_) (hhh := by exact fun q => .inl (by by_cases e : q = r <;> simp [upd, e, hr]))
 rintro ⟨i, s1, nx⟩ ⟨hlen, hi, hn, hv, -⟩
 show DW _ _ _ _ { n := _, t := tab _, h := _, nx := _, e := _ }
 simp only [List.cons_append, List.nil_append]
 refine Zaa ?_
 refine stp Ln ?_
 refine cd (fun c1 => ?_) (fun c1 => ?_) (hp := rfl)
 ·
  have hk2 : i < b := by simpa using c1
  refine dw_skip ?_
  show DW _ _ _ _ _
  refine Zaa ?_
  refine Zba ?_
  refine stp Ln ?_
  refine Zba ?_
  refine lph (α := (Nat) × (List RSet) × Nat) [0, 1, 2, 3, 8] (fun ⟨j, s2, nx⟩ => (s2.length = s.length) ∧ (a ≤ j ∧ j ≤ i) ∧ (n ≤ nx) ∧ (Zkj plC s1 a i = Zkj plC s2 a j) ∧ True) (fun ⟨j, s2, nx⟩ => j) (fun ⟨j, s2, nx⟩ => [(9, .i j)]) (fun ⟨j, s2, nx⟩ => upd h r (some ⟨24, (s2).map RSet.d⟩)) (fun ⟨j, s2, nx⟩ => nx) (i, s1, _) (hA := ⟨(by first | (exact hlen) | (dsimp only; exact hlen)), iv, iv, rfl, trivial⟩) (round := ?_)
  rintro ⟨j, s2, nx⟩ ⟨hlen2, hj, hn2, hw, -⟩
  show DW _ _ _ _ { n := _, t := tab _, h := _, nx := _, e := _ }
  simp only [List.cons_append, List.nil_append]
  have g1 : j < s2.length := by omega
  have g2 : j - 1 < s2.length := by omega
  have e0 : ((j : Int) - 1).toNat = j - 1 := by omega
  have ff := And.intro @e0 (And.intro (Zkc g1) (And.intro (Zkc g2) ff))
  refine Zaa ?_
  refine stp Ln ?_ (hok := by (try simp only [go_sem, ff]); all_goals (first | done | ((repeat' (with_reducible apply And.intro)) <;> first | exact Zxd _ _ | (intros; exact Zxd s2[j]! s2[j - 1]!) | (intro g; have g := of_decide_eq_true g; omega) | (intros; simp_all; done))))
  refine cd (fun c2 => ?_) (fun c2 => ?_) (hp := rfl) (hq := rfl)
  ·
   simp only [Bool.and_eq_true, decide_eq_true_eq] at c2
   have c2 : a < j ∧ plC s2[j]! s2[j - 1]! < 0 := ⟨by omega, c2.2⟩
   have g3 : j ≠ j - 1 := by omega
   have ff := And.intro (fun x => Zxq (x := x) g2 g3) ff
   refine dw_skip ?_
   show DW _ _ _ _ _
   refine Zaa ?_
   refine Zba ?_
   refine rgn Ln ?_
   show DW _ _ _ _ _
   refine rgn Ln ?_
   show ∃ _, _
   refine rnd (j - 1, sw s2 j (j - 1), _) (h1 := ⟨(by first | (rw [Znd]; exact hlen2) | (dsimp only; rw [Znd]; exact hlen2)), iv, iv, (by first | (rw [hw, Zxf, if_pos c2]) | (dsimp only; rw [hw, Zxf, if_pos c2])), trivial⟩) (h5 := ?_)
   intro q; left
   rw [Zua, Zua, Zwq]
  ·
   have c2 : ¬ (a < j ∧ plC s2[j]! s2[j - 1]! < 0) := by intro q; rw [Bool.and_eq_false_iff, decide_eq_false_iff_not, decide_eq_false_iff_not] at c2; exact c2.elim (fun k => k (by omega)) fun k => k q.2
   refine Zja ?_
   show DW _ _ _ _ _
   refine rgn Ln ?_
   show ∃ _, _
   refine rnd (i + 1, Zkj plC s1 a i, _) (h1 := ⟨(by first | (rw [Zxg]; exact hlen) | (dsimp only; rw [Zxg]; exact hlen)), iv, iv, (by (try dsimp only); rw [hv, Zbd, if_pos hk2]), trivial⟩) (h5 := ?_)
   rw [hw, Zxf, if_neg c2]; exact Zgb _
 ·
  refine Zja ?_
  exact Zhi (upd h r (some ⟨24, (s1).map RSet.d⟩)) (hr := by (try simp only [go_sem, ff]); all_goals (first | exact ⟨rfl, by rw [Zlh, hv, Zbd, if_neg (by omega)], by omega⟩ | exact ⟨by rw [Zlh, hv, Zbd, if_neg (by omega)], by omega⟩))
theorem bo49 : Zea Tryd.prog 49 = true := by kernel_rfl
theorem bo23 : Zea Tryd.prog 23 = true := by kernel_rfl
end Go.Proofs.YtjngdcldglkolaaDoor
namespace Go.Proofs.YtjngdcldglkolaaDoor
open Go.DL Go.Str Go.Rec Go.Cmp Go.RowKit
set_option maxRecDepth 10000
def srtD_ren : Go.Shelf.Ren := { f := fun x => match x with | 6 => 50 | 15 => 70 | 14 => 69 | 28 => 88 | 29 => 89 | 20 => 80 | 21 => 81 | 22 => 82 | 23 => 83 | 24 => 84 | 25 => 85 | 26 => 86 | 27 => 87 | 46 => 93 | 47 => 94 | 48 => 95 | 49 => 96 | 50 => 97 | 57 => 98 | n => n, t := fun x => match x with | 22 => 22 | 24 => 45 | 25 => 58 | 3 => 3 | 39 => 89 | 0 => 0 | 53 => 109 | 55 => 86 | 4 => 4 | 46 => 102 | 45 => 101 | 50 => 106 | 5 => 5 | 9 => 9 | 66 => 111 | 70 => 115 | 76 => 117 | 77 => 118 | n => n, g := fun n => n }
theorem srtD : Go.Proofs.SlLaysF0.n6 Tryd.prog srtD_ren := {
 mixed := by kernel_rfl
 f6 := ⟨Tryd.f50.name, by decide, Tryd.func50.trans (by kernel_rfl)⟩
 f14 := ⟨Tryd.f69.name, by decide, Tryd.func69.trans (by kernel_rfl)⟩
 f15 := Tryd.func70.trans (by kernel_rfl)
 f20 := ⟨Tryd.f80.name, by decide, Tryd.func80.trans (by kernel_rfl)⟩
 f21 := ⟨Tryd.f81.name, by decide, Tryd.func81.trans (by kernel_rfl)⟩
 f22 := ⟨Tryd.f82.name, by decide, Tryd.func82.trans (by kernel_rfl)⟩
 f23 := ⟨Tryd.f83.name, by decide, Tryd.func83.trans (by kernel_rfl)⟩
 f24 := ⟨Tryd.f84.name, by decide, Tryd.func84.trans (by kernel_rfl)⟩
 f25 := ⟨Tryd.f85.name, by decide, Tryd.func85.trans (by kernel_rfl)⟩
 f26 := ⟨Tryd.f86.name, by decide, Tryd.func86.trans (by kernel_rfl)⟩
 f27 := ⟨Tryd.f87.name, by decide, Tryd.func87.trans (by kernel_rfl)⟩
 f28 := Tryd.func88.trans (by kernel_rfl)
 f29 := Tryd.func89.trans (by kernel_rfl)
 f46 := ⟨Tryd.f93.name, by decide, Tryd.func93.trans (by kernel_rfl)⟩
 f47 := Tryd.func94.trans (by kernel_rfl)
 f48 := Tryd.func95.trans (by kernel_rfl)
 f49 := ⟨Tryd.f96.name, by decide, Tryd.func96.trans (by kernel_rfl)⟩
 f50 := ⟨Tryd.f97.name, by decide, Tryd.func97.trans (by kernel_rfl)⟩
 f57 := ⟨Tryd.f98.name, by decide, Tryd.func98.trans (by kernel_rfl)⟩
 t0 := Tryd.underlying0
 a0 := Tryd.isAgg0
 z0 := Tryd.sizeOf0
 v0 := Tryd.zeroValue0
 t3 := Tryd.underlying3
 a3 := Tryd.isAgg3
 z3 := Tryd.sizeOf3
 v3 := Tryd.zeroValue3
 t4 := Tryd.underlying4
 a4 := Tryd.isAgg4
 z4 := Tryd.sizeOf4
 v4 := Tryd.zeroValue4
 t5 := Tryd.underlying5
 a5 := Tryd.isAgg5
 z5 := Tryd.sizeOf5
 v5 := Tryd.zeroValue5
 t9 := Tryd.underlying9
 a9 := Tryd.isAgg9
 z9 := Tryd.sizeOf9
 v9 := Tryd.zeroValue9
 t22 := Tryd.underlying22
 a22 := Tryd.isAgg22
 z22 := Tryd.sizeOf22
 v22 := Tryd.zeroValue22
 t25 := Tryd.underlying58
 a25 := Tryd.isAgg58
 z25 := Tryd.sizeOf58
 v25 := Tryd.zeroValue58
 t39 := Tryd.underlying89
 a39 := Tryd.isAgg89
 z39 := Tryd.sizeOf89
 v39 := Tryd.zeroValue89
 t45 := Tryd.underlying101
 a45 := Tryd.isAgg101
 z45 := Tryd.sizeOf101
 v45 := Tryd.zeroValue101
 t46 := Tryd.underlying102
 a46 := Tryd.isAgg102
 z46 := Tryd.sizeOf102
 v46 := Tryd.zeroValue102
 t50 := Tryd.underlying106
 a50 := Tryd.isAgg106
 z50 := Tryd.sizeOf106
 v50 := Tryd.zeroValue106
 t53 := Tryd.underlying109
 a53 := Tryd.isAgg109
 z53 := Tryd.sizeOf109
 v53 := Tryd.zeroValue109
 t55 := Tryd.underlying86
 a55 := Tryd.isAgg86
 z55 := Tryd.sizeOf86
 v55 := Tryd.zeroValue86
 t66 := Tryd.underlying111
 a66 := Tryd.isAgg111
 z66 := Tryd.sizeOf111
 v66 := Tryd.zeroValue111
 t70 := Tryd.underlying115
 a70 := Tryd.isAgg115
 z70 := Tryd.sizeOf115
 v70 := Tryd.zeroValue115
 t76 := Tryd.underlying117
 a76 := Tryd.isAgg117
 z76 := Tryd.sizeOf117
 v76 := Tryd.zeroValue117
 t77 := Tryd.underlying118
 a77 := Tryd.isAgg118
 z77 := Tryd.sizeOf118
 v77 := Tryd.zeroValue118 }
theorem Zyr {x : List D} {l : List Dat} (h : x ∈ l.map Dat.d) : Dat.d (Dat.of x) = x := by
 obtain ⟨s, _, rfl⟩ := List.mem_map.1 h
 rw [Zxx]
theorem sortD (l : List Dat) (h : H) (n r : Nat) (hl : l.length ≤ 100000) (hr : h r = some ⟨45, l.map Dat.d⟩) :
  RCt Tryd.prog 50 [.mrow r 0 l.length, .fn (.func 31) [] []] h n (fun d h' n' => d = .tuple [] ∧ n' = n ∧ ∃ l' : List Dat, l'.Perm l ∧ Sorted datC l' ∧ h' = upd h r (some ⟨45, l'.map Dat.d⟩)) := by
 have e : l.length = (l.map Dat.d).length := by simp
 rw [e]
 refine (sort_rct (ty := 45) srtD rfl rfl Tryd.isAgg45 Tryd.sizeOf45 (fun x y => datC (Dat.of x) (Dat.of y)) (by kernel_rfl) hr Zyh rfl (by simp; omega) (fun x hx y hy => ?_) ⟨fun x _ => ?_, fun x _ y _ z _ => ?_, fun x _ y _ z _ => ?_⟩).mono ?_
 ·
  have := Zlk (Dat.of x) (Dat.of y)
  rw [Zyr hx, Zyr hy] at this
  exact this
 ·
  have := cm_dat.self (Dat.of x); omega
 ·
  intro a b; exact cm_dat.lt_le a (by omega)
 ·
  intro a b
  have h1 := cm_dat.anti (Dat.of x) (Dat.of y); have h2 := cm_dat.anti (Dat.of y) (Dat.of z); have h3 := cm_dat.anti (Dat.of x) (Dat.of z)
  have := cm_dat.tr (Dat.of z) (Dat.of y) (Dat.of x) (by omega) (by omega)
  omega
 ·
  rintro d h' n' ⟨rfl, rfl, rows', hp, hs, rfl⟩
  have hback : (rows'.map Dat.of).map Dat.d = rows' := by
   rw [List.map_map]
   conv => rhs; rw [← List.map_id rows']
   exact List.map_congr_left fun x hx => Zyr (hp.mem_iff.1 hx)
  refine ⟨rfl, rfl, rows'.map Dat.of, ?_, ?_, by rw [hback]⟩
  ·
   have := hp.map Dat.of
   rwa [Zee Zxx] at this
  ·
   unfold Sorted
   rw [List.pairwise_map]
   refine hs.imp fun {x y} h => ?_
   have h : ¬ datC (Dat.of y) (Dat.of x) < 0 := h
   have := cm_dat.anti (Dat.of x) (Dat.of y)
   omega
@[go_sem] theorem all_set {l : List RSet} : (∀ r ∈ l.map RSet.d, r.length = 4) = True := by
 apply eq_true
 intro r hr
 obtain ⟨x, _, rfl⟩ := List.mem_map.1 hr
 rfl
@[go_sem] theorem all_dat {l : List Dat} : (∀ r ∈ l.map Dat.d, r.length = 3) = True := by
 apply eq_true
 intro r hr
 obtain ⟨x, _, rfl⟩ := List.mem_map.1 hr
 rfl
theorem bo22 : Zea Tryd.prog 22 = true := by kernel_rfl
theorem bo51 : Zea Tryd.prog 51 = true := by kernel_rfl
end Go.Proofs.YtjngdcldglkolaaDoor
namespace Go.Proofs.YtjngdcldglkolaaDoor
open Go.DL Go.Str Go.Rec Go.Cmp
set_option maxRecDepth 10000
theorem Zhr {i j : Nat} (h : i + j < 9223372036854775808) : IntKind.i64.wrap ((IntKind.u64.wrap ((i : Int) + (j : Int))).fdiv (2 ^ (min 1 64))) = (((i + j) / 2 : Nat) : Int) := by
 have e1 : IntKind.u64.wrap ((i : Int) + (j : Int)) = ((i + j : Nat) : Int) := by rw [IntKind.wrap_u64]; omega
 have e2 : ((2 : Int) ^ (min 1 64)) = 2 := rfl
 rw [e1, e2, Int.fdiv_eq_ediv_of_nonneg _ (by decide), IntKind.wrap_i64]
 omega
theorem bo92 : Zea Tryd.prog 92 = true := by kernel_rfl
theorem Za2 (s : List RSet) (a b m L r : Nat) (h : H) (n : Nat) (hL : L = s.length) (hab : a < b) (hb : b + m ≤ s.length) (hl : s.length ≤ 100000) (hr : h r = some ⟨24, (s).map RSet.d⟩) : RCt Tryd.prog 92 [.mrow r 0 L, .i a, .i b, .i m, .fn (.func 20) [] []] h n (fun d h' n' => d = .tuple [] ∧ h' = upd h r (some ⟨24, (swR s a b m 0).map RSet.d⟩) ∧ n ≤ n') := by
 refine Zqa Tryd.func92 rfl bo92 (by simp [Tryd.f92]) (fun hnone => ?_)
 unfold Tryd.f92
 have ff := True.intro
 subst hL
 have ff := And.intro @hr ff
 refine stp Ln ?_
 refine Zba ?_
 refine lph (α := (Nat) × (List RSet) × Nat) [0, 1, 2, 3] (fun ⟨i, s1, nx⟩ => (s1.length = s.length) ∧ (i ≤ m) ∧ (n ≤ nx) ∧ (swR s a b m 0 = swR s1 a b m i) ∧ True) (fun ⟨i, s1, nx⟩ => m - i) (fun ⟨i, s1, nx⟩ => [(10, .i i)]) (fun ⟨i, s1, nx⟩ => upd h r (some ⟨24, (s1).map RSet.d⟩)) (fun ⟨i, s1, nx⟩ => nx) (0, s, _) (hA := ⟨rfl, iv, iv, rfl, trivial⟩) (round := ?_) (hhh := by exact fun q => .inl (by by_cases e : q = r <;> simp [upd, e, hr]))
 rintro ⟨i, s1, nx⟩ ⟨hlen, hi, hn, hv, -⟩
 show DW _ _ _ _ { n := _, t := tab _, h := _, nx := _, e := _ }
 simp only [List.cons_append, List.nil_append]
 refine Zaa ?_
 refine stp Ln ?_
 refine cd (fun c1 => ?_) (fun c1 => ?_) (hp := rfl) (hq := rfl)
 ·
  have hk2 : i < m := by simpa using c1
  have g1 : a + i < s1.length := by omega
  have g2 : b + i < s1.length := by omega
  have g3 : a + i ≠ b + i := by omega
  have e1 : ((a : Int) + (i : Int)).toNat = a + i := by omega
  have e2 : ((b : Int) + (i : Int)).toNat = b + i := by omega
  have ff := And.intro @e1 (And.intro @e2 (And.intro (Zkc g1) (And.intro (Zkc g2) (And.intro (fun x => Zxq (x := x) g2 g3) ff))))
  refine dw_skip ?_
  show DW _ _ _ _ _
  refine Zaa ?_
  refine Zba ?_
  refine rgn Ln ?_
  show DW _ _ _ _ _
  refine rgn Ln ?_
  show ∃ _, _
  refine rnd (i + 1, sw s1 (a + i) (b + i), _) (h1 := ⟨(by first | (rw [Znd]; exact hlen) | (dsimp only; rw [Znd]; exact hlen)), iv, iv, (by first | (rw [hv, Zuk, if_pos hk2]) | (dsimp only; rw [hv, Zuk, if_pos hk2])), trivial⟩) (h5 := ?_)
  intro q; left
  rw [Zua, Zua, Zwq]
 ·
  have hk2 : ¬ i < m := by simpa using c1
  refine Zja ?_
  exact Zhi (upd h r (some ⟨24, (s1).map RSet.d⟩)) (hr := by (try simp only [go_sem, ff]); all_goals (first | exact ⟨by rw [hv, Zuk, if_neg hk2], by omega⟩ | exact ⟨rfl, by rw [hv, Zuk, if_neg hk2], by omega⟩))
theorem bo79 : Zea Tryd.prog 79 = true := by kernel_rfl
theorem rot_ct (s : List RSet) (a m b L r : Nat) (h : H) (n : Nat) (hL : L = s.length) (ham : a < m) (hmb : m < b) (hb : b ≤ s.length) (hl : s.length ≤ 100000) (hr : h r = some ⟨24, (s).map RSet.d⟩) : RCt Tryd.prog 79 [.mrow r 0 L, .i a, .i m, .i b, .fn (.func 20) [] []] h n (fun d h' n' => d = .tuple [] ∧ h' = upd h r (some ⟨24, (Zxu s m (m - a) (b - m)).map RSet.d⟩) ∧ n ≤ n') := by
 refine Zqa Tryd.func79 rfl bo79 (by simp [Tryd.f79]) (fun hnone => ?_)
 unfold Tryd.f79
 have ff := True.intro
 have eA : (m : Int) - (a : Int) = ((m - a : Nat) : Int) := by omega
 have eB : (b : Int) - (m : Int) = ((b - m : Nat) : Int) := by omega
 have ff := And.intro @hr (And.intro @eA (And.intro @eB ff))
 refine stp Ln ?_
 refine stp Ln ?_
 refine Zaa ?_
 refine Zba ?_
 refine lph (α := (Nat) × (Nat) × (List RSet) × Nat) [0, 2, 4] (fun ⟨i, j, s1, nx⟩ => (s1.length = s.length) ∧ (0 < i ∧ i ≤ m) ∧ (0 < j ∧ m + j ≤ b) ∧ (n ≤ nx) ∧ (Zxu s m (m - a) (b - m) = Zxu s1 m i j) ∧ True) (fun ⟨i, j, s1, nx⟩ => i + j) (fun ⟨i, j, s1, nx⟩ => [(10, .i i), (11, .i j)]) (fun ⟨i, j, s1, nx⟩ => upd h r (some ⟨24, (s1).map RSet.d⟩)) (fun ⟨i, j, s1, nx⟩ => nx) (m - a, b - m, s, _) (hA := ⟨rfl, (by first | (omega) | (dsimp only; omega)), (by first | (omega) | (dsimp only; omega)), (by first | (omega) | (dsimp only; omega)), rfl, trivial⟩) (round := ?_) (hhh := by exact fun q => .inl (by by_cases e : q = r <;> simp [upd, e, hr]))
 rintro ⟨i, j, s1, nx⟩ ⟨hlen, hi, hj, hn, hv, -⟩
 show DW _ _ _ _ { n := _, t := tab _, h := _, nx := _, e := _ }
 simp only [List.cons_append, List.nil_append]
 have e1 : (m : Int) - (i : Int) = ((m - i : Nat) : Int) := by omega
 have ff := And.intro @e1 ff
 refine Zaa ?_
 refine stp Ln ?_
 refine cd (fun c1 => ?_) (fun c1 => ?_) (hp := rfl) (hq := rfl)
 ·
  have c1 : ¬ i = j := by intro e; subst e; simp at c1
  refine dw_skip ?_
  show DW _ _ _ _ _
  refine Zba ?_
  refine stp Ln ?_
  refine cd (fun c2 => ?_) (fun c2 => ?_) (hp := rfl) (hq := rfl)
  ·
   have c2 : j < i := by simpa using c2
   have e2 : (i : Int) - (j : Int) = ((i - j : Nat) : Int) := by omega
   have ff := And.intro @e2 ff
   refine Zaa (Zcf Ln 7 (hct := by exact Za2 s1 (m - i) m j L r _ _ (by omega) (by omega) (by omega) (by omega) (by simp only [go_sem])) (hk := ?_))
   rintro res h2 n2 ⟨rfl, rfl, a1⟩
   try dsimp only at a1
   refine Zbf Ln ?_
   show DW _ _ _ _ _
   refine rgn Ln ?_
   show ∃ _, _
   refine rnd (i - j, j, swR s1 (m - i) m j 0, _) (h1 := ⟨(by first | (rw [Zve]; exact hlen) | (dsimp only; rw [Zve]; exact hlen)), (by first | (omega) | (dsimp only; omega)), (by first | (omega) | (dsimp only; omega)), (by first | (omega) | (dsimp only; omega)), (by (try dsimp only); rw [hv, Zck _ _ _ _ hi.1 hj.1, if_neg c1, if_pos c2]), trivial⟩) (h2 := by show (_ : Nat) < _; dsimp only; omega) (h5 := ?_)
   first | (rw [Zua]; done) | (rw [Zua]; exact Zgb _)
  ·
   have c2 : ¬ j < i := by simpa using c2
   have e2 : (j : Int) - (i : Int) = ((j - i : Nat) : Int) := by omega
   have e3 : (m : Int) + (j : Int) - (i : Int) = ((m + j - i : Nat) : Int) := by omega
   have ff := And.intro @e2 (And.intro @e3 ff)
   refine Zaa (Zcf Ln 11 (hct := by exact Za2 s1 (m - i) (m + j - i) i L r _ _ (by omega) (by omega) (by omega) (by omega) (by simp only [go_sem])) (hk := ?_))
   rintro res h2 n2 ⟨rfl, rfl, a1⟩
   try dsimp only at a1
   refine Zbf Ln ?_
   show DW _ _ _ _ _
   refine rgn Ln ?_
   show ∃ _, _
   refine rnd (i, j - i, swR s1 (m - i) (m + j - i) i 0, _) (h1 := ⟨(by first | (rw [Zve]; exact hlen) | (dsimp only; rw [Zve]; exact hlen)), (by first | (omega) | (dsimp only; omega)), (by first | (omega) | (dsimp only; omega)), (by first | (omega) | (dsimp only; omega)), (by (try dsimp only); rw [hv, Zck _ _ _ _ hi.1 hj.1, if_neg c1, if_neg c2]), trivial⟩) (h2 := by show (_ : Nat) < _; dsimp only; omega) (h5 := ?_)
   first | (rw [Zua]; done) | (rw [Zua]; exact Zgb _)
 ·
  have c1 : i = j := by simp at c1; omega
  subst c1
  refine Zja ?_
  show DW _ _ _ _ _
  refine Zcf Ln 7 (hct := by exact Za2 s1 (m - i) m i L r _ _ (by omega) (by omega) (by omega) (by omega) (by simp only [go_sem])) (hk := ?_)
  rintro res h2 n2 ⟨rfl, rfl, a1⟩
  try dsimp only at a1
  refine Zbf Ln ?_
  exact Zhi (upd h r (some ⟨24, (swR s1 (m - i) m i 0).map RSet.d⟩)) (hr := by (try simp only [go_sem, ff]); all_goals (first | exact ⟨by rw [hv, Zck _ _ _ _ hi.1 hj.1, if_pos rfl], by omega⟩ | exact ⟨rfl, by rw [hv, Zck _ _ _ _ hi.1 hj.1, if_pos rfl], by omega⟩)) (hh := by first | (rw [Zua]; done) | (rw [Zua]; exact Zgb _))
set_option maxRecDepth 10000
theorem bo68 : Zea Tryd.prog 68 = true := by kernel_rfl
theorem symm1_ct (s : List RSet) (a m b L r : Nat) (h : H) (n : Nat) (hL : L = s.length) (ham : a < m) (hmb : m < b) (hb : b ≤ s.length) (hl : s.length ≤ 100000) (hnm : Zjg s) (hr : h r = some ⟨24, (s).map RSet.d⟩) (ih : ∀ (s2 : List RSet) (a2 m2 b2 : Nat) (h2 : H) (n2 : Nat), b2 - a2 < b - a → L = s2.length → a2 < m2 → m2 < b2 → b2 ≤ s2.length → Zjg s2 → h2 r = some ⟨24, (s2).map RSet.d⟩ → RCt Tryd.prog 68 [.mrow r 0 L, .i a2, .i m2, .i b2, .fn (.func 20) [] []] h2 n2 (fun d h3 n3 => d = .tuple [] ∧ h3 = upd h2 r (some ⟨24, (Zsj plc s2 a2 m2 b2).map RSet.d⟩) ∧ n2 ≤ n3)) : RCt Tryd.prog 68 [.mrow r 0 L, .i a, .i m, .i b, .fn (.func 20) [] []] h n (fun d h' n' => d = .tuple [] ∧ h' = upd h r (some ⟨24, (Zsj plc s a m b).map RSet.d⟩) ∧ n ≤ n') := by
 refine Zqa Tryd.func68 rfl bo68 (by simp [Tryd.f68]) (fun hnone => ?_)
 unfold Tryd.f68
 have ff := True.intro
 have ff := And.intro @hr ff
 refine Zaa ?_
 refine stp Ln ?_
 refine cd (fun c0 => ?_) (fun c0 => ?_)
 ·
  have q1 : m - a = 1 := by omega
  have ga : a < s.length := by omega
  refine stp Ln ?_
  refine stp Ln ?_
  refine Zaa ?_
  refine Zba ?_
  refine lph (α := (Nat) × (Nat) × Nat) [0, 1, 4] (fun ⟨i, j, nx⟩ => (m ≤ i ∧ i ≤ j ∧ j ≤ b) ∧ (n ≤ nx) ∧ (bsF (Zny plc s a) m b = bsF (Zny plc s a) i j) ∧ True) (fun ⟨i, j, nx⟩ => j - i) (fun ⟨i, j, nx⟩ => [(10, .i i), (11, .i j)]) (fun ⟨i, j, nx⟩ => h) (fun ⟨i, j, nx⟩ => nx) (m, b, _) (hA := ⟨(by first | (omega) | (dsimp only; omega)), (by first | (omega) | (dsimp only; omega)), rfl, trivial⟩) (round := ?_) (ht := by simp only [go_sem, ff]; (try exact ⟨.inl rfl, .inl rfl⟩))
  rintro ⟨i, j, nx⟩ ⟨hi, hn2, hv, -⟩
  show DW _ _ _ _ { n := _, t := tab _, h := _, nx := _, e := _ }
  simp only [List.cons_append, List.nil_append]
  refine Zaa ?_
  refine stp Ln ?_
  refine cd (fun c1 => ?_) (fun c1 => ?_)
  ·
   have hk2 : i < j := by omega
   have hm : (i + j) / 2 < s.length := by omega
   have eP : plC s[(i + j) / 2]! s[a]! = plc s[(i + j) / 2]! s[a]! := Zu2 (Zit hnm hm) (Zit hnm ga)
   have ff := And.intro (Zhr (i := i) (j := j) (by omega)) (And.intro (Zkc hm) (And.intro (Zkc ga) ff))
   refine dw_skip ?_
   show DW _ _ _ _ _
   refine Zba ?_
   refine stp Ln ?_
   refine stp Ln ?_ (hok := by (try simp only [go_sem, ff]); all_goals (first | done | ((repeat' (with_reducible apply And.intro)) <;> first | exact Zxd _ _ | (intros; exact Zxd s[(i + j) / 2]! s[a]!) | omega | (intros; omega) | skip)))
   refine cd (fun c2 => ?_) (fun c2 => ?_)
   ·
    have hst : Zny plc s a ((i + j) / 2) = true := by unfold Zny; rw [← eP, decide_eq_true_eq]; exact c2
    refine rgn Ln ?_
    show ∃ _, _
    exact rnd ((i + j) / 2 + 1, j, _) (h1 := ⟨(by first | (omega) | (dsimp only; omega)), (by first | (omega) | (dsimp only; omega)), (by (try dsimp only); rw [hv, Zrh, if_pos hk2, if_pos hst]), trivial⟩) (h2 := by show (_ : Nat) < _; dsimp only; omega)
   ·
    have hst : ¬ Zny plc s a ((i + j) / 2) = true := by unfold Zny; rw [← eP, decide_eq_true_eq]; exact c2
    refine rgn Ln ?_
    show ∃ _, _
    exact rnd (i, (i + j) / 2, _) (h1 := ⟨(by first | (omega) | (dsimp only; omega)), (by first | (omega) | (dsimp only; omega)), (by (try dsimp only); rw [hv, Zrh, if_pos hk2, if_neg hst]), trivial⟩) (h2 := by show (_ : Nat) < _; dsimp only; omega)
  ·
   have hS : bsF (Zny plc s a) m b = i := by rw [hv, Zrh, if_neg (by omega)]
   refine Zja ?_
   show DW _ _ _ _ _
   refine Zaa ?_
   refine stp Ln ?_
   refine Zba ?_
   refine lph (α := (Nat) × (List RSet) × Nat) [0, 10] (fun ⟨k, s1, nx⟩ => (s1.length = s.length) ∧ (a ≤ k ∧ k ≤ i - 1) ∧ (n ≤ nx) ∧ (Zz4 s a (i - 1) = Zz4 s1 k (i - 1)) ∧ True) (fun ⟨k, s1, nx⟩ => i - k) (fun ⟨k, s1, nx⟩ => [(13, .i k)]) (fun ⟨k, s1, nx⟩ => upd h r (some ⟨24, (s1).map RSet.d⟩)) (fun ⟨k, s1, nx⟩ => nx) (a, s, _) (hA := ⟨rfl, (by first | (omega) | (dsimp only; omega)), (by first | (omega) | (dsimp only; omega)), rfl, trivial⟩) (round := ?_) (hhh := by exact fun q => .inl (by by_cases e : q = r <;> simp [upd, e, hr])) (ht := by simp only [go_sem, ff])
   rintro ⟨k, s1, nx⟩ ⟨hlen, hk, hn3, hw, -⟩
   show DW _ _ _ _ { n := _, t := tab _, h := _, nx := _, e := _ }
   simp only [List.cons_append, List.nil_append]
   refine Zaa ?_
   refine stp Ln ?_
   refine cd (fun c3 => ?_) (fun c3 => ?_)
   ·
    have hk2 : k < i - 1 := by omega
    obtain ⟨k3, hk3⟩ : ∃ k3, k3 = k + 1 := ⟨_, rfl⟩
    have g1 : k < s1.length := by omega
    have g2 : k3 < s1.length := by omega
    have g3 : k ≠ k3 := by omega
    have e1 : (k : Int) + 1 = (k3 : Int) := by omega
    have ff := And.intro @e1 (And.intro (Zkc g1) (And.intro (Zkc g2) (And.intro (fun x => Zxq (x := x) g2 g3) ff)))
    refine dw_skip ?_
    show DW _ _ _ _ _
    refine Zaa ?_
    refine Zba ?_
    refine rgn Ln ?_ (hok := by (try simp only [go_sem, ff]); all_goals (first | done | ((repeat' (with_reducible apply And.intro)) <;> first | omega | (rw [List.length_set, List.length_map]; omega))))
    show DW _ _ _ _ _
    refine rgn Ln ?_
    show ∃ _, _
    refine rnd (k3, sw s1 k k3, _) (h1 := ⟨(by first | (rw [Znd]; exact hlen) | (dsimp only; rw [Znd]; exact hlen)), (by first | (omega) | (dsimp only; omega)), (by first | (omega) | (dsimp only; omega)), (by (try dsimp only); rw [hw, Zmk, if_pos hk2, ← hk3]), trivial⟩) (h2 := by show (_ : Nat) < _; dsimp only; omega) (h5 := ?_)
    intro q; left
    rw [Zua, Zua, Zwq]
   ·
    have hk2 : ¬ k < i - 1 := by omega
    refine Zja ?_
    show DW _ _ _ _ _
    refine Zca ?_
    refine Zhi (upd h r (some ⟨24, (s1).map RSet.d⟩)) (hr := ?_)
    try simp only [go_sem, ff]
    refine ⟨?_, by omega⟩
    rw [Zth plc s ham hmb, if_pos q1, hS, hw, Zmk, if_neg hk2]
 ·
  have q1 : ¬ m - a = 1 := by omega
  refine dw_skip ?_
  show DW _ _ _ _ _
  refine Zaa ?_
  refine stp Ln ?_
  refine cd (fun c4 => ?_) (fun c4 => ?_)
  ·
   have q2 : b - m = 1 := by omega
   have gm : m < s.length := by omega
   refine stp Ln ?_
   refine stp Ln ?_
   refine Zaa ?_
   refine Zba ?_
   refine lph (α := (Nat) × (Nat) × Nat) [0, 2, 4] (fun ⟨i, j, nx⟩ => (a ≤ i ∧ i ≤ j ∧ j ≤ m) ∧ (n ≤ nx) ∧ (bsF (Zjk plc s m) a m = bsF (Zjk plc s m) i j) ∧ True) (fun ⟨i, j, nx⟩ => j - i) (fun ⟨i, j, nx⟩ => [(14, .i i), (15, .i j)]) (fun ⟨i, j, nx⟩ => h) (fun ⟨i, j, nx⟩ => nx) (a, m, _) (hA := ⟨(by first | (omega) | (dsimp only; omega)), (by first | (omega) | (dsimp only; omega)), rfl, trivial⟩) (round := ?_) (ht := by simp only [go_sem, ff]; (try exact ⟨.inl rfl, .inl rfl⟩))
   rintro ⟨i, j, nx⟩ ⟨hi, hn2, hv, -⟩
   show DW _ _ _ _ { n := _, t := tab _, h := _, nx := _, e := _ }
   simp only [List.cons_append, List.nil_append]
   refine Zaa ?_
   refine stp Ln ?_
   refine cd (fun c5 => ?_) (fun c5 => ?_)
   ·
    have hk2 : i < j := by omega
    have hm : (i + j) / 2 < s.length := by omega
    have eP : plC s[m]! s[(i + j) / 2]! = plc s[m]! s[(i + j) / 2]! := Zu2 (Zit hnm gm) (Zit hnm hm)
    have ff := And.intro (Zhr (i := i) (j := j) (by omega)) (And.intro (Zkc hm) (And.intro (Zkc gm) ff))
    refine dw_skip ?_
    show DW _ _ _ _ _
    refine Zba ?_
    refine stp Ln ?_
    refine stp Ln ?_ (hok := by (try simp only [go_sem, ff]); all_goals (first | done | ((repeat' (with_reducible apply And.intro)) <;> first | exact Zxd _ _ | (intros; exact Zxd s[m]! s[(i + j) / 2]!) | omega | (intros; omega) | skip)))
    refine cd (fun c6 => ?_) (fun c6 => ?_)
    ·
     have hst : Zjk plc s m ((i + j) / 2) = true := by unfold Zjk; rw [← eP, Bool.not_eq_true', decide_eq_false_iff_not]; exact c6
     refine rgn Ln ?_
     show ∃ _, _
     exact rnd ((i + j) / 2 + 1, j, _) (h1 := ⟨(by first | (omega) | (dsimp only; omega)), (by first | (omega) | (dsimp only; omega)), (by (try dsimp only); rw [hv, Zrh, if_pos hk2, if_pos hst]), trivial⟩) (h2 := by show (_ : Nat) < _; dsimp only; omega)
    ·
     have hst : ¬ Zjk plc s m ((i + j) / 2) = true := by unfold Zjk; rw [← eP, Bool.not_eq_true', decide_eq_false_iff_not, Classical.not_not]; exact c6
     refine rgn Ln ?_
     show ∃ _, _
     exact rnd (i, (i + j) / 2, _) (h1 := ⟨(by first | (omega) | (dsimp only; omega)), (by first | (omega) | (dsimp only; omega)), (by (try dsimp only); rw [hv, Zrh, if_pos hk2, if_neg hst]), trivial⟩) (h2 := by show (_ : Nat) < _; dsimp only; omega)
   ·
    have hS : bsF (Zjk plc s m) a m = i := by rw [hv, Zrh, if_neg (by omega)]
    refine Zja ?_
    show DW _ _ _ _ _
    refine Zaa ?_
    refine stp Ln ?_
    refine Zba ?_
    refine lph (α := (Nat) × (List RSet) × Nat) [0, 14] (fun ⟨k, s1, nx⟩ => (s1.length = s.length) ∧ (i ≤ k ∧ k ≤ m) ∧ (n ≤ nx) ∧ (Za5 s m i = Za5 s1 k i) ∧ True) (fun ⟨k, s1, nx⟩ => k) (fun ⟨k, s1, nx⟩ => [(17, .i k)]) (fun ⟨k, s1, nx⟩ => upd h r (some ⟨24, (s1).map RSet.d⟩)) (fun ⟨k, s1, nx⟩ => nx) (m, s, _) (hA := ⟨rfl, (by first | (omega) | (dsimp only; omega)), (by first | (omega) | (dsimp only; omega)), rfl, trivial⟩) (round := ?_) (hhh := by exact fun q => .inl (by by_cases e : q = r <;> simp [upd, e, hr])) (ht := by simp only [go_sem, ff])
    rintro ⟨k, s1, nx⟩ ⟨hlen, hk, hn3, hw, -⟩
    show DW _ _ _ _ { n := _, t := tab _, h := _, nx := _, e := _ }
    simp only [List.cons_append, List.nil_append]
    refine Zaa ?_
    refine stp Ln ?_
    refine cd (fun c7 => ?_) (fun c7 => ?_)
    ·
     have hk2 : i < k := by omega
     obtain ⟨k3, hk3⟩ : ∃ k3, k3 = k - 1 := ⟨_, rfl⟩
     have g1 : k < s1.length := by omega
     have g2 : k3 < s1.length := by omega
     have g3 : k ≠ k3 := by omega
     have e1 : (k : Int) - 1 = (k3 : Int) := by omega
     have ff := And.intro @e1 (And.intro (Zkc g1) (And.intro (Zkc g2) (And.intro (fun x => Zxq (x := x) g2 g3) ff)))
     refine dw_skip ?_
     show DW _ _ _ _ _
     refine Zaa ?_
     refine Zba ?_
     refine rgn Ln ?_ (hok := by (try simp only [go_sem, ff]); all_goals (first | done | ((repeat' (with_reducible apply And.intro)) <;> first | omega | (rw [List.length_set, List.length_map]; omega))))
     show DW _ _ _ _ _
     refine rgn Ln ?_
     show ∃ _, _
     refine rnd (k3, sw s1 k k3, _) (h1 := ⟨(by first | (rw [Znd]; exact hlen) | (dsimp only; rw [Znd]; exact hlen)), (by first | (omega) | (dsimp only; omega)), (by first | (omega) | (dsimp only; omega)), (by (try dsimp only); rw [hw, Znk, if_pos hk2, ← hk3]), trivial⟩) (h2 := by show (_ : Nat) < _; dsimp only; omega) (h5 := ?_)
     intro q; left
     rw [Zua, Zua, Zwq]
    ·
     have hk2 : ¬ i < k := by omega
     refine Zja ?_
     show DW _ _ _ _ _
     refine Zca ?_
     refine Zhi (upd h r (some ⟨24, (s1).map RSet.d⟩)) (hr := ?_)
     try simp only [go_sem, ff]
     refine ⟨?_, by omega⟩
     rw [Zth plc s ham hmb, if_neg q1, if_pos q2, hS, hw, Znk, if_neg hk2]
  ·
   have q2 : ¬ b - m = 1 := by omega
   refine dw_skip ?_
   show DW _ _ _ _ _
   have eM := Zhr (i := a) (j := b) (by omega)
   have ff := And.intro @eM ff
   refine stp Ln ?_
   refine stp Ln ?_
   refine stp Ln ?_
   refine jnh (α := (Nat) × (Nat) × Nat) [0, 1, 2, 3, 4, 18, 19] (fun ⟨p, q, nx⟩ => (p = Zhx a m b) ∧ (q = Zgx a m b) ∧ (n ≤ nx) ∧ True) (fun ⟨p, q, nx⟩ => [(20, .i p), (21, .i q)]) (fun ⟨p, q, nx⟩ => h) (fun ⟨p, q, nx⟩ => nx) ?_ ?_
   ·
    refine stp Ln ?_
    refine cd (fun c8 => ?_) (fun c8 => ?_)
    ·
     have c8 : ((a + b) / 2) < m := by omega
     have e0 : ((((a + b) / 2) : Nat) : Int) + (m : Int) - (b : Int) = ((((a + b) / 2) + m - b : Nat) : Int) := by omega
     have ff := And.intro @e0 ff
     refine stp Ln ?_
     refine rgn Ln ?_
     show ∃ _, _
     exact rnj (((a + b) / 2) + m - b, ((a + b) / 2), _) (h1 := ⟨(by first | (unfold Zhx; rw [if_pos c8]) | (dsimp only; unfold Zhx; rw [if_pos c8])), (by first | (unfold Zgx; rw [if_pos c8]) | (dsimp only; unfold Zgx; rw [if_pos c8])), (by first | (omega) | (dsimp only; omega)), trivial⟩)
    ·
     have c8 : ¬ ((a + b) / 2) < m := by omega
     refine stp Ln ?_
     refine rgn Ln ?_
     show ∃ _, _
     exact rnj (a, m, _) (h1 := ⟨(by first | (unfold Zhx; rw [if_neg c8]) | (dsimp only; unfold Zhx; rw [if_neg c8])), (by first | (unfold Zgx; rw [if_neg c8]) | (dsimp only; unfold Zgx; rw [if_neg c8])), (by first | (omega) | (dsimp only; omega)), trivial⟩)
   rintro ⟨p, q, nx⟩ ⟨hp, hq, hn4, -⟩
   show DW _ _ _ _ { n := _, t := tab _, h := _, nx := _, e := _ }
   simp only [List.cons_append, List.nil_append]
   have hs0 := sym01 ham hmb
   rw [← hp, ← hq] at hs0
   have eN : ((((a + b) / 2) : Nat) : Int) + (m : Int) - 1 = ((((a + b) / 2) + m - 1 : Nat) : Int) := by omega
   have ff := And.intro @eN ff
   refine stp Ln ?_
   refine Zaa ?_
   refine Zba ?_
   refine lph (α := (Nat) × (Nat) × Nat) [0, 1, 2, 3, 4, 18, 19, 22] (fun ⟨i, j, nx⟩ => (p ≤ i ∧ i ≤ j ∧ j ≤ q) ∧ (n ≤ nx) ∧ (bsF (Za1 plc s (((a + b) / 2) + m - 1)) p q = bsF (Za1 plc s (((a + b) / 2) + m - 1)) i j) ∧ True) (fun ⟨i, j, nx⟩ => j - i) (fun ⟨i, j, nx⟩ => [(20, .i i), (21, .i j)]) (fun ⟨i, j, nx⟩ => h) (fun ⟨i, j, nx⟩ => nx) (p, q, _) (hA := ⟨(by first | (omega) | (dsimp only; omega)), (by first | (omega) | (dsimp only; omega)), rfl, trivial⟩) (round := ?_) (ht := by simp only [go_sem, ff]; (try exact ⟨.inl rfl, .inl rfl⟩))
   rintro ⟨i, j, nx⟩ ⟨hi, hn2, hv, -⟩
   show DW _ _ _ _ { n := _, t := tab _, h := _, nx := _, e := _ }
   simp only [List.cons_append, List.nil_append]
   refine Zaa ?_
   refine stp Ln ?_
   refine cd (fun c9 => ?_) (fun c9 => ?_)
   ·
    have hk2 : i < j := by omega
    have hs0 := sym01 ham hmb
    rw [← hp, ← hq] at hs0
    have hm : (i + j) / 2 < s.length := by omega
    have hm2 : ((a + b) / 2) + m - 1 - (i + j) / 2 < s.length := by omega
    have e5 : (((((a + b) / 2) + m - 1 : Nat) : Int) - (((i + j) / 2 : Nat) : Int)).toNat = ((a + b) / 2) + m - 1 - (i + j) / 2 := by omega
    have eP : plC s[((a + b) / 2) + m - 1 - (i + j) / 2]! s[(i + j) / 2]! = plc s[((a + b) / 2) + m - 1 - (i + j) / 2]! s[(i + j) / 2]! := Zu2 (Zit hnm hm2) (Zit hnm hm)
    have ff := And.intro (Zhr (i := i) (j := j) (by omega)) (And.intro (Zkc hm) (And.intro (Zkc hm2) (And.intro @e5 ff)))
    refine dw_skip ?_
    show DW _ _ _ _ _
    refine Zba ?_
    refine stp Ln ?_
    refine stp Ln ?_ (hok := by (try simp only [go_sem, ff]); all_goals (first | done | ((repeat' (with_reducible apply And.intro)) <;> first | exact Zxd _ _ | (intros; exact Zxd s[((a + b) / 2) + m - 1 - (i + j) / 2]! s[(i + j) / 2]!) | omega | (intros; omega) | skip)))
    refine cd (fun d1 => ?_) (fun d1 => ?_)
    ·
     have hst : Za1 plc s (((a + b) / 2) + m - 1) ((i + j) / 2) = true := by unfold Za1; rw [← eP, Bool.not_eq_true', decide_eq_false_iff_not]; exact d1
     refine rgn Ln ?_
     show ∃ _, _
     exact rnd ((i + j) / 2 + 1, j, _) (h1 := ⟨(by first | (omega) | (dsimp only; omega)), (by first | (omega) | (dsimp only; omega)), (by (try dsimp only); rw [hv, Zrh, if_pos hk2, if_pos hst]), trivial⟩) (h2 := by show (_ : Nat) < _; dsimp only; omega)
    ·
     have hst : ¬ Za1 plc s (((a + b) / 2) + m - 1) ((i + j) / 2) = true := by unfold Za1; rw [← eP, Bool.not_eq_true', decide_eq_false_iff_not, Classical.not_not]; exact d1
     refine rgn Ln ?_
     show ∃ _, _
     exact rnd (i, (i + j) / 2, _) (h1 := ⟨(by first | (omega) | (dsimp only; omega)), (by first | (omega) | (dsimp only; omega)), (by (try dsimp only); rw [hv, Zrh, if_pos hk2, if_neg hst]), trivial⟩) (h2 := by show (_ : Nat) < _; dsimp only; omega)
   ·
    have hS : Zkg plc s a m b = i := by unfold Zkg; rw [← hp, ← hq, hv, Zrh, if_neg (by omega)]
    have hSl := Zpq plc s ham hmb
    rw [hS] at hSl
    have hE : Zfx plc s a m b = (((a + b) / 2) + m - i) := by unfold Zfx; rw [hS]
    have eE : ((((a + b) / 2) : Nat) : Int) + (m : Int) - (i : Int) = (((((a + b) / 2) + m - i) : Nat) : Int) := by omega
    have ff := And.intro @eE ff
    refine Zja ?_
    show DW _ _ _ _ _
    refine stp Ln ?_
    refine jnh (α := (List RSet) × Nat) [0, 1, 3, 4, 18, 20, 24] (fun ⟨s1, nx⟩ => (s1 = Zcs plc s a m b) ∧ (n ≤ nx) ∧ True) (fun ⟨s1, nx⟩ => []) (fun ⟨s1, nx⟩ => upd h r (some ⟨24, (s1).map RSet.d⟩)) (fun ⟨s1, nx⟩ => nx) ?_ ?_
    ·
     refine stp Ln ?_
     refine cd (fun d2 => ?_) (fun d2 => ?_)
     ·
      have d2 : i < m ∧ m < (((a + b) / 2) + m - i) := by omega
      refine Zcf Ln 5 (hct := by exact rot_ct s i m (((a + b) / 2) + m - i) L r _ _ hL (by omega) (by omega) (by omega) hl (by simp only [go_sem, ff])) (hk := ?_)
      rintro res h2 n2 ⟨rfl, rfl, a1⟩
      try dsimp only at a1
      refine Zbf Ln ?_
      show ∃ _, _
      exact rnj (Zxu s m (m - i) ((((a + b) / 2) + m - i) - m), _) (h1 := ⟨(by (try dsimp only); unfold Zcs; rw [hE, hS, if_pos d2]), (by first | (omega) | (dsimp only; omega)), trivial⟩)
     ·
      have d2 : ¬ (i < m ∧ m < (((a + b) / 2) + m - i)) := by omega
      refine dw_skip ?_
      show ∃ _, _
      refine rnj (s, _) (h1 := ⟨(by (try dsimp only); unfold Zcs; rw [hE, hS, if_neg d2]), (by first | (omega) | (dsimp only; omega)), trivial⟩) (h5 := ?_)
      exact fun q => .inl (by by_cases e : q = r <;> simp [upd, e, hr])
    rintro ⟨s1, nx⟩ ⟨hs1, hn5, -⟩
    show DW _ _ _ _ { n := _, t := tab _, h := _, nx := _, e := _ }
    simp only [List.cons_append, List.nil_append]
    have hl1 : s1.length = s.length := by rw [hs1, Zeh]
    have hn1 : Zjg s1 := by rw [hs1]; exact Zov hnm ham hmb hb
    refine jnh (α := (List RSet) × Nat) [0, 3, 4, 18, 24] (fun ⟨s2, nx⟩ => (s2 = if a < i ∧ i < ((a + b) / 2) then Zsj plc s1 a i ((a + b) / 2) else s1) ∧ (n ≤ nx) ∧ True) (fun ⟨s2, nx⟩ => []) (fun ⟨s2, nx⟩ => upd h r (some ⟨24, (s2).map RSet.d⟩)) (fun ⟨s2, nx⟩ => nx) ?_ ?_
    ·
     refine stp Ln ?_
     refine cd (fun d3 => ?_) (fun d3 => ?_)
     ·
      have d3 : a < i ∧ i < ((a + b) / 2) := by omega
      refine Zcf Ln 5 (hct := by exact ih s1 a i ((a + b) / 2) _ _ (by omega) (by omega) (by omega) (by omega) (by omega) hn1 (by simp only [go_sem])) (hk := ?_)
      rintro res h2 n2 ⟨rfl, rfl, a1⟩
      try dsimp only at a1
      refine Zbf Ln ?_
      show ∃ _, _
      refine rnj (Zsj plc s1 a i ((a + b) / 2), _) (h1 := ⟨(by first | (rw [if_pos d3]) | (dsimp only; rw [if_pos d3])), (by first | (omega) | (dsimp only; omega)), trivial⟩) (h5 := ?_)
      first | (rw [Zua]; done) | (rw [Zua]; exact Zgb _)
     ·
      have d3 : ¬ (a < i ∧ i < ((a + b) / 2)) := by omega
      refine dw_skip ?_
      show ∃ _, _
      exact rnj (s1, _) (h1 := ⟨(by first | (rw [if_neg d3]) | (dsimp only; rw [if_neg d3])), (by first | (omega) | (dsimp only; omega)), trivial⟩)
    rintro ⟨s2, nx⟩ ⟨hs2, hn6, -⟩
    show DW _ _ _ _ { n := _, t := tab _, h := _, nx := _, e := _ }
    simp only [List.cons_append, List.nil_append]
    have hl2 : s2.length = s.length := by rw [hs2]; split <;> simp only [Zid, hl1]
    have hn2 : Zjg s2 := by rw [hs2]; split; exact Zzh hn1 (by omega); exact hn1
    refine stp Ln ?_
    refine cd (fun d4 => ?_) (fun d4 => ?_)
    ·
     have d4 : ((a + b) / 2) < (((a + b) / 2) + m - i) ∧ (((a + b) / 2) + m - i) < b := by omega
     refine Zcf Ln 5 (hct := by exact ih s2 ((a + b) / 2) (((a + b) / 2) + m - i) b _ _ (by omega) (by omega) (by omega) (by omega) (by omega) hn2 (by simp only [go_sem])) (hk := ?_)
     rintro res h2 n2 ⟨rfl, rfl, a1⟩
     try dsimp only at a1
     refine Zbf Ln ?_
     refine Zhi (upd h r (some ⟨24, (Zsj plc s2 ((a + b) / 2) (((a + b) / 2) + m - i) b).map RSet.d⟩)) (hh := by first | (rw [Zua]; done) | (rw [Zua]; exact Zgb _)) (hr := ?_)
     try simp only [go_sem, ff]
     refine ⟨?_, by omega⟩
     rw [Zth plc s ham hmb, if_neg q1, if_neg q2, hE, hS, ← hs1, ← hs2, if_pos d4]
    ·
     have d4 : ¬ (((a + b) / 2) < (((a + b) / 2) + m - i) ∧ (((a + b) / 2) + m - i) < b) := by omega
     refine dw_skip ?_
     refine Zhi (upd h r (some ⟨24, (s2).map RSet.d⟩)) (hr := ?_)
     try simp only [go_sem, ff]
     refine ⟨?_, by omega⟩
     rw [Zth plc s ham hmb, if_neg q1, if_neg q2, hE, hS, ← hs1, ← hs2, if_neg d4]
set_option maxRecDepth 10000
theorem Zz1 (L r : Nat) : ∀ (N : Nat) (s : List RSet) (a m b : Nat) (h : H) (n : Nat) (hN : b - a ≤ N) (hL : L = s.length) (ham : a < m) (hmb : m < b) (hb : b ≤ s.length) (hl : s.length ≤ 100000) (hnm : Zjg s) (hr : h r = some ⟨24, (s).map RSet.d⟩),
  RCt Tryd.prog 68 [.mrow r 0 L, .i a, .i m, .i b, .fn (.func 20) [] []] h n (fun d h' n' => d = .tuple [] ∧ h' = upd h r (some ⟨24, (Zsj plc s a m b).map RSet.d⟩) ∧ n ≤ n') := by
 intro N
 induction N with
 | zero => intro s a m b h n hN hL ham hmb; omega
 | succ N ih =>
  intro s a m b h n hN hL ham hmb hb hl hnm hr
  exact symm1_ct s a m b L r h n hL ham hmb hb hl hnm hr fun s2 a2 m2 b2 h2 n2 k1 k2 k3 k4 k5 k6 k7 => ih s2 a2 m2 b2 h2 n2 (by omega) k2 k3 k4 k5 (by omega) k6 k7
theorem Zhp (s : List RSet) (a b L r : Nat) (h : H) (n : Nat) (hL : L = s.length) (hab : a ≤ b) (hb : b ≤ s.length) (hl : s.length ≤ 100000) (hnm : Zjg s) (hr : h r = some ⟨24, (s).map RSet.d⟩) :
  RCt Tryd.prog 67 [.mrow r 0 L, .i a, .i b, .fn (.func 20) [] []] h n (fun d h' n' => d = .tuple [] ∧ h' = upd h r (some ⟨24, (Zlh plc s a b).map RSet.d⟩) ∧ n ≤ n') := by
 subst hL
 have := Zp3 s a b r h n hab hb hl hr
 rwa [(Zcm hnm hb).1] at this
theorem Zoz (s : List RSet) (L r : Nat) (h : H) (n : Nat) (hL : L = s.length) (hl : s.length ≤ 100000) (hnm : Zjg s) (hr : h r = some ⟨24, (s).map RSet.d⟩) : RCt Tryd.prog 49 [.mrow r 0 L, .i L, .fn (.func 20) [] []] h n (fun d h' n' => d = .tuple [] ∧ h' = upd h r (some ⟨24, (Zdo plc s).map RSet.d⟩) ∧ n ≤ n') := by
 refine Zqa Tryd.func49 rfl bo49 (by simp [Tryd.f49]) (fun hnone => ?_)
 unfold Tryd.f49
 have ff := True.intro
 have ff := And.intro @hr ff
 refine stp Ln ?_
 refine stp Ln ?_
 refine Zaa ?_
 refine Zba ?_
 refine lph (α := (Nat) × (List RSet) × Nat) [0, 1, 2, 6] (fun ⟨a, s1, nx⟩ => (s1.length = s.length) ∧ (a ≤ L) ∧ (n ≤ nx) ∧ (Zjg s1) ∧ (Zky plc s 0 s.length = Zky plc s1 a s.length) ∧ True) (fun ⟨a, s1, nx⟩ => L + 1 - a) (fun ⟨a, s1, nx⟩ => [(7, .i a), (8, .i (a + 20 : Nat))]) (fun ⟨a, s1, nx⟩ => upd h r (some ⟨24, (s1).map RSet.d⟩)) (fun ⟨a, s1, nx⟩ => nx) (0, s, _) (hA := ⟨rfl, (by first | (omega) | (dsimp only; omega)), (by first | (omega) | (dsimp only; omega)), (by first | (exact hnm) | (dsimp only; exact hnm)), rfl, trivial⟩) (round := ?_) (hhh := by exact fun q => .inl (by by_cases e : q = r <;> simp [upd, e, hr])) (ht := by simp only [go_sem, ff]; (try exact ⟨.inl rfl, .inl rfl⟩))
 rintro ⟨a, s1, nx⟩ ⟨hlen, ha, hn2, hm1, hv, -⟩
 show DW _ _ _ _ { n := _, t := tab _, h := _, nx := _, e := _ }
 simp only [List.cons_append, List.nil_append]
 have e20 : ((a + 20 : Nat) : Int) + 20 = ((a + 20 + 20 : Nat) : Int) := by omega
 have ff := And.intro @e20 ff
 refine Zaa ?_
 refine stp Ln ?_
 refine cd (fun c1 => ?_) (fun c1 => ?_)
 ·
  have hk2 : a + 20 ≤ L := by omega
  refine dw_skip ?_
  show DW _ _ _ _ _
  refine Zba ?_
  refine Zaa (Zcf Ln 4 (hct := by exact Zhp s1 a (a + 20) L r _ _ (by omega) (by omega) (by omega) (by omega) hm1 (by simp only [go_sem])) (hk := ?_))
  rintro res h2 n2 ⟨rfl, rfl, a1⟩
  try dsimp only at a1
  refine Zbf Ln ?_
  show DW _ _ _ _ _
  refine stp Ln ?_
  refine rgn Ln ?_
  show ∃ _, _
  refine rnd (a + 20, Zlh plc s1 a (a + 20), _) (h1 := ⟨(by first | (rw [Zwg]; exact hlen) | (dsimp only; rw [Zwg]; exact hlen)), (by first | (omega) | (dsimp only; omega)), (by first | (omega) | (dsimp only; omega)), (by (try dsimp only); exact (Zcm hm1 (by omega)).2), (by (try dsimp only); rw [hv, Zmn, if_pos (by omega)]), trivial⟩) (h2 := by show (_ : Nat) < _; dsimp only; omega) (h5 := ?_)
  first | (rw [Zua]; done) | (rw [Zua]; exact Zgb _)
 ·
  have hk2 : ¬ a + 20 ≤ L := by omega
  have hEq : Zky plc s 0 s.length = Zlh plc s1 a L := by rw [hv, Zmn, if_neg (by omega), hL]
  refine Zja ?_
  show DW _ _ _ _ _
  refine Zaa (Zcf Ln 4 (hct := by exact Zhp s1 a L L r _ _ (by omega) (by omega) (by omega) (by omega) hm1 (by simp only [go_sem])) (hk := ?_))
  rintro res h2 n2 ⟨rfl, rfl, a1⟩
  try dsimp only at a1
  refine Zbf Ln ?_
  show DW _ _ _ _ _
  refine Zba ?_
  refine lph (α := (Nat) × (List RSet) × Nat) [0, 1, 2] (fun ⟨q, s2, nx⟩ => (s2.length = s.length) ∧ (20 ≤ q ∧ q ≤ 2 * L + 20) ∧ (n ≤ nx) ∧ (Zjg s2) ∧ (Zdo plc s = outB plc s2 q L) ∧ True) (fun ⟨q, s2, nx⟩ => L - q) (fun ⟨q, s2, nx⟩ => [(6, .i q)]) (fun ⟨q, s2, nx⟩ => upd h r (some ⟨24, (s2).map RSet.d⟩)) (fun ⟨q, s2, nx⟩ => nx) (20, Zky plc s 0 s.length, _) (hA := ⟨(by first | (exact Zdm plc s 0 _) | (dsimp only; exact Zdm plc s 0 _)), (by first | (omega) | (dsimp only; omega)), (by first | (omega) | (dsimp only; omega)), (by (try dsimp only); exact Za3 hnm (Nat.le_refl _)), (by first | (rw [hL]; rfl) | (dsimp only; rw [hL]; rfl)), trivial⟩) (round := ?_) (hhh := by (rw [hEq]; exact fun q => .inl (by by_cases e : q = r <;> simp [upd, e]))) (ht := by simp only [go_sem, ff]; (try exact .inl rfl))
  rintro ⟨q, s2, nx⟩ ⟨hlen2, hq, hn3, hm2, hw, -⟩
  show DW _ _ _ _ { n := _, t := tab _, h := _, nx := _, e := _ }
  simp only [List.cons_append, List.nil_append]
  have e2 : 2 * (q : Int) = ((2 * q : Nat) : Int) := by omega
  have e3 : (q : Int) * 2 = ((2 * q : Nat) : Int) := by omega
  have ff := And.intro @e2 (And.intro @e3 ff)
  refine Zaa ?_
  refine stp Ln ?_
  refine cd (fun c2 => ?_) (fun c2 => ?_)
  ·
   have hk3 : q < L := by omega
   refine dw_skip ?_
   show DW _ _ _ _ _
   refine Zba ?_
   refine stp Ln ?_
   refine Zaa ?_
   refine Zba ?_
   refine lph (α := (Nat) × (List RSet) × Nat) [0, 1, 2, 6] (fun ⟨a, s3, nx⟩ => (s3.length = s.length) ∧ (a ≤ L) ∧ (n ≤ nx) ∧ (Zjg s3) ∧ (Zp1 plc s2 q 0 L = Zp1 plc s3 q a L) ∧ True) (fun ⟨a, s3, nx⟩ => L + 1 - a) (fun ⟨a, s3, nx⟩ => [(7, .i a), (8, .i (a + 2 * q : Nat))]) (fun ⟨a, s3, nx⟩ => upd h r (some ⟨24, (s3).map RSet.d⟩)) (fun ⟨a, s3, nx⟩ => nx) (0, s2, _) (hA := ⟨(by first | (exact hlen2) | (dsimp only; exact hlen2)), (by first | (omega) | (dsimp only; omega)), (by first | (omega) | (dsimp only; omega)), (by first | (exact hm2) | (dsimp only; exact hm2)), rfl, trivial⟩) (round := ?_) (ht := by simp only [go_sem, ff]; (try rw [Nat.zero_add]); (first | done | exact .inl rfl | exact ⟨.inl rfl, .inl rfl⟩))
   rintro ⟨a, s3, nx⟩ ⟨hlen3, ha, hn4, hm3, hx, -⟩
   show DW _ _ _ _ { n := _, t := tab _, h := _, nx := _, e := _ }
   simp only [List.cons_append, List.nil_append]
   have e5 : ((a + 2 * q : Nat) : Int) + ((2 * q : Nat) : Int) = ((a + 2 * q + 2 * q : Nat) : Int) := by omega
   have e6 : (a : Int) + (q : Int) = ((a + q : Nat) : Int) := by omega
   have ff := And.intro @e5 (And.intro @e6 ff)
   refine Zaa ?_
   refine stp Ln ?_
   refine cd (fun c3 => ?_) (fun c3 => ?_)
   ·
    have hk4 : a + 2 * q ≤ L := by omega
    refine dw_skip ?_
    show DW _ _ _ _ _
    refine Zba ?_
    refine Zaa (Zcf Ln 7 (hct := by exact Zz1 L r _ s3 a (a + q) (a + 2 * q) _ _ (Nat.le_refl _) (by omega) (by omega) (by omega) (by omega) (by omega) hm3 (by simp only [go_sem])) (hk := ?_))
    rintro res h2 n2 ⟨rfl, rfl, a1⟩
    try dsimp only at a1
    refine Zbf Ln ?_
    show DW _ _ _ _ _
    refine stp Ln ?_
    refine rgn Ln ?_
    show ∃ _, _
    refine rnd (a + 2 * q, Zsj plc s3 a (a + q) (a + 2 * q), _) (h1 := ⟨(by first | (rw [Zid]; exact hlen3) | (dsimp only; rw [Zid]; exact hlen3)), (by first | (omega) | (dsimp only; omega)), (by first | (omega) | (dsimp only; omega)), (by first | (exact Zzh hm3 (by omega)) | (dsimp only; exact Zzh hm3 (by omega))), (by (try dsimp only); rw [hx, Zek plc _ _ _ (by omega), if_pos (by omega)]), trivial⟩) (h2 := by show (_ : Nat) < _; dsimp only; omega) (h5 := ?_)
    first | (rw [Zua]; done) | (rw [Zua]; exact Zgb _)
   ·
    have hk4 : ¬ a + 2 * q ≤ L := by omega
    refine Zja ?_
    show DW _ _ _ _ _
    refine Zaa ?_
    refine stp Ln ?_
    refine stp Ln ?_
    refine cd (fun c4 => ?_) (fun c4 => ?_)
    ·
     have hk5 : a + q < L := by omega
     refine Zcf Ln 5 (hct := by exact Zz1 L r _ s3 a (a + q) L _ _ (Nat.le_refl _) (by omega) (by omega) (by omega) (by omega) (by omega) hm3 (by simp only [go_sem])) (hk := ?_)
     rintro res h2 n2 ⟨rfl, rfl, a1⟩
     try dsimp only at a1
     refine Zbf Ln ?_
     show DW _ _ _ _ _
     refine rgn Ln ?_
     show ∃ _, _
     refine rnd (2 * q, Zsj plc s3 a (a + q) L, _) (h1 := ⟨(by first | (rw [Zid]; exact hlen3) | (dsimp only; rw [Zid]; exact hlen3)), (by first | (omega) | (dsimp only; omega)), (by first | (omega) | (dsimp only; omega)), (by first | (exact Zzh hm3 (by omega)) | (dsimp only; exact Zzh hm3 (by omega))), (by (try dsimp only); rw [hw, Zym plc _ _ (by omega), if_pos (by omega), hx, Zek plc _ _ _ (by omega), if_neg (by omega), if_pos (by omega)]), trivial⟩) (h2 := by show (_ : Nat) < _; dsimp only; omega) (h5 := ?_)
     first | (rw [Zua]; done) | (rw [Zua]; exact Zgb _)
    ·
     have hk5 : ¬ a + q < L := by omega
     refine dw_skip ?_
     show DW _ _ _ _ _
     refine rgn Ln ?_
     show ∃ _, _
     exact rnd (2 * q, s3, _) (h1 := ⟨(by first | (exact hlen3) | (dsimp only; exact hlen3)), (by first | (omega) | (dsimp only; omega)), (by first | (omega) | (dsimp only; omega)), (by first | (exact hm3) | (dsimp only; exact hm3)), (by (try dsimp only); rw [hw, Zym plc _ _ (by omega), if_pos (by omega), hx, Zek plc _ _ _ (by omega), if_neg (by omega), if_neg (by omega)]), trivial⟩) (h2 := by show (_ : Nat) < _; dsimp only; omega)
  ·
   have hk3 : ¬ q < L := by omega
   refine Zja ?_
   exact Zhi (upd h r (some ⟨24, (s2).map RSet.d⟩)) (hr := by (try simp only [go_sem, ff]); all_goals (first | exact ⟨by rw [hw, Zym plc _ _ (by omega), if_neg hk3], by omega⟩ | exact ⟨rfl, by rw [hw, Zym plc _ _ (by omega), if_neg hk3], by omega⟩))
theorem Zqz (s : List RSet) (r : Nat) (h : H) (n : Nat) (hl : s.length ≤ 100000) (hnm : Zjg s) (hr : h r = some ⟨24, (s).map RSet.d⟩) : RCt Tryd.prog 23 [.mrow r 0 s.length, .fn (.func 20) [] []] h n (fun d h' n' => d = .tuple [] ∧ h' = upd h r (some ⟨24, (Zdo plc s).map RSet.d⟩) ∧ n ≤ n') := by
 refine Zqa Tryd.func23 rfl bo23 (by simp [Tryd.f23]) (fun hnone => ?_)
 unfold Tryd.f23
 have ff := True.intro
 have ff := And.intro @hr ff
 refine Zcf Ln 4 (hct := by exact Zoz s s.length r _ _ rfl hl hnm hr) (hk := ?_)
 rintro res h2 n2 ⟨rfl, rfl, a1⟩
 try dsimp only at a1
 refine Zbf Ln ?_
 exact Zhi (upd h r (some ⟨24, (Zdo plc s).map RSet.d⟩)) (hr := by (try simp only [go_sem, ff]); all_goals (first | omega | (simp; omega)))
end Go.Proofs.YtjngdcldglkolaaDoor
namespace Go.Proofs.YtjngdcldglkolaaDoor
open Go.DL Go.Str Go.Rec Go.Cmp Go.RowKit
set_option maxRecDepth 10000
theorem Zts {k : Nat} (h1 : 1 ≤ k) (h8 : k ≤ 8) : ∃ rest : List D, ∀ hh, ldc Tryd.prog (.v (.pointer (some ⟨0, k * 8 + 6, none⟩))) hh = .b (Zza k).single :: rest := by
 refine ⟨(rulesTab.drop (k * 8 + 7)).map D.v, fun hh => ?_⟩
 have : k = 1 ∨ k = 2 ∨ k = 3 ∨ k = 4 ∨ k = 5 ∨ k = 6 ∨ k = 7 ∨ k = 8 := by omega
 rcases this with e | e | e | e | e | e | e | e <;> subst e <;> rfl
theorem all_ok {l : List RSet} (h : ∀ i, i < l.length → setOk l[i]! = true) : l.all setOk = true := by
 rw [List.all_eq_true]
 intro x hx
 obtain ⟨i, hi, rfl⟩ := List.getElem_of_mem hx
 have := h i hi
 rwa [getElem!_pos l i hi] at this
theorem not_ok {l : List RSet} {k : Nat} (hk : k < l.length) (h : setOk l[k]! = false) : l.all setOk = false := by
 rw [List.all_eq_false]
 exact ⟨l[k], List.getElem_mem hk, by rw [getElem!_pos l k hk] at h; rw [h]; simp⟩
theorem Ziz {l : List RSet} (h : l.all setOk = true) : ∀ x ∈ l, Zqk x := fun x hx => (Zxb x).1 (List.all_eq_true.1 h x hx)
theorem ctp_stop {s : List RSet} {c : Nat} (h : (decide ((c : Int) < s.length) && (s[c]!.ty == s[0]!.ty) && (s[c]!.name == s[0]!.name)) = false) : Zni s c = c := by
 rw [Zmi, if_neg]
 rintro ⟨h1, h2, h3⟩
 rw [h2, h3, decide_eq_true (by omega)] at h
 simp at h
theorem Zou {s : List RSet} {c : Nat} (h : (decide ((c : Int) < s.length) && (s[c]!.ty == s[0]!.ty) && (s[c]!.name == s[0]!.name)) = true) : c < s.length ∧ Zni s c = Zni s (c + 1) := by
 simp only [Bool.and_eq_true, decide_eq_true_eq, beq_iff_eq] at h
 have hc : c < s.length := by omega
 refine ⟨hc, ?_⟩
 conv => lhs; rw [Zmi]
 rw [if_pos ⟨hc, h.1.2, h.2⟩]
theorem Zkv (l : List Dat) (m : Nat) (h : H) (n r : Nat) (hm : m = l.length) (hl : l.length ≤ 1000000) (hr : h r = some ⟨45, l.map Dat.d⟩) : RCt Tryd.prog 51 [.mrow r 0 m] h n (fun d h' n' => d = .mrow r 0 (dpF l).length ∧ h' = upd h r (some ⟨45, (dpF l).map Dat.d⟩) ∧ n ≤ n') := by
 refine Zqa Tryd.func51 rfl bo51 (by simp [Tryd.f51]) (fun hnone => ?_)
 unfold Tryd.f51
 have ff := True.intro
 subst hm
 have ff := And.intro @hr ff
 refine stp Ln ?_
 refine Zaa ?_
 refine stp Ln ?_
 refine cd (fun c1 => ?_) (fun c1 => ?_)
 ·
  refine stp Ln ?_
  refine Zca ?_
  exact Zhi (upd h r (some ⟨45, (dpF l).map Dat.d⟩)) (hr := by (try simp only [go_sem, ff]); all_goals (rw [Zim (by intro i h1 h2; omega)]; first | exact ⟨rfl, by omega⟩ | exact ⟨rfl, rfl, by omega⟩ | omega)) (hh := by rw [Zim (by intro i h1 h2; omega)]; intro q; left; unfold upd; split; rename_i e; subst e; exact hr.symm; rfl)
 ·
  refine dw_skip ?_
  show DW _ _ _ _ _
  refine Zaa ?_
  refine stp Ln ?_
  refine Zba ?_
  refine lph (α := (Nat) × Nat) [0] (fun ⟨k, nx⟩ => (k ≤ l.length) ∧ (1 ≤ k) ∧ (n ≤ nx) ∧ (∀ i, 0 < i → i < k → l[i]! ≠ l[i - 1]!) ∧ True) (fun ⟨k, nx⟩ => l.length - k) (fun ⟨k, nx⟩ => [(3, .i k)]) (fun ⟨k, nx⟩ => h) (fun ⟨k, nx⟩ => nx) (1, _) (hA := ⟨(by first | (omega) | (dsimp only; omega)), (by first | (omega) | (dsimp only; omega)), iv, (by first | (intro i h1 h2; omega) | (dsimp only; intro i h1 h2; omega)), trivial⟩) (round := ?_)
  rintro ⟨k, nx⟩ ⟨hk, hk1, hn, hv, -⟩
  show DW _ _ _ _ { n := _, t := tab _, h := _, nx := _, e := _ }
  simp only [List.cons_append, List.nil_append]
  refine Zaa ?_
  refine stp Ln ?_
  refine cd (fun c2 => ?_) (fun c2 => ?_)
  ·
   have hk2 : k < l.length := by omega
   have hk3 : k - 1 < l.length := by omega
   have e1 : ((k:Int) - 1).toNat = k - 1 := by omega
   have ff := And.intro (Zpc hk2) (And.intro (Zpc hk3) (And.intro @e1 ff))
   refine dw_skip ?_
   show DW _ _ _ _ _
   refine Zaa ?_
   refine Zba ?_
   refine stp Ln ?_
   refine cd (fun c3 => ?_) (fun c3 => ?_)
   ·
    have heq : ¬ (k = 0 ∨ l[k]! ≠ l[k - 1]!) := by rintro (q | q); omega; exact q (Zrw c3)
    have hcp : Zli l (k + 1) = l.take k := by rw [Znw heq, Zxr k (by omega) hv]
    have hcr : dpR l (k + 1) = l.map Dat.d := by rw [Zry heq, dpR_same (by omega) hv]
    have hcl : (l.take k).length = k := by rw [List.length_take]; omega
    refine stp Ln ?_
    refine Zaa ?_
    refine stp Ln ?_
    refine Zba ?_
    have ff := And.intro @hcp (And.intro @hcr (And.intro @hcl ff))
    refine lph (α := (Nat) × Nat) [0, 4] (fun ⟨k2, nx⟩ => (k + k2 ≤ l.length) ∧ (1 ≤ k2) ∧ (n ≤ nx) ∧ ((Zli l (k + k2)).length < k + k2) ∧ True) (fun ⟨k2, nx⟩ => l.length - k - k2) (fun ⟨k2, nx⟩ => [(3, .i (Zli l (k + k2)).length), (5, .i k2)]) (fun ⟨k2, nx⟩ => upd h r (some ⟨45, dpR l (k + k2)⟩)) (fun ⟨k2, nx⟩ => nx) (1, _) (hA := ⟨(by first | (omega) | (dsimp only; omega)), iv, iv, (by first | (rw [hcp, hcl]; omega) | (dsimp only; rw [hcp, hcl]; omega)), trivial⟩) (round := ?_) (hhh := by intro q; left; dsimp only; rw [hcr]; unfold upd; split; rename_i e; subst e; exact hr.symm; rfl)
    rintro ⟨k2, nx⟩ ⟨hk2b, hk21, hn2, hcl2, -⟩
    show DW _ _ _ _ { n := _, t := tab _, h := _, nx := _, e := _ }
    simp only [List.cons_append, List.nil_append]
    refine Zaa ?_
    refine stp Ln ?_
    refine cd (fun c4 => ?_) (fun c4 => ?_)
    ·
     have hj : k + k2 < l.length := by omega
     have hcl := Zow (l := l) (k := k + k2) (by omega)
     have e1 : ((k2:Int) - 1).toNat = k2 - 1 := by omega
     have e2 : k + (k2 - 1) = k + k2 - 1 := by omega
     have ga := Zl4 (l := l) (k := k + k2) (i := k + k2) (by omega) hj
     have gb := Zl4 (l := l) (k := k + k2) (i := k + k2 - 1) (by omega) (by omega)
     have gc := Zl4 (l := l) (k := k + k2) (i := (Zli l (k + k2)).length) (Nat.le_refl _) (by omega)
     have ff := And.intro @e1 (And.intro @e2 (And.intro @ga (And.intro @gb (And.intro @gc (And.intro @hcl ff)))))
     refine dw_skip ?_
     show DW _ _ _ _ _
     refine Zaa ?_
     refine Zba ?_
     refine stp Ln ?_
     refine cd (fun c5 => ?_) (fun c5 => ?_)
     ·
      refine stp Ln ?_
      refine rgn Ln ?_
      show DW _ _ _ _ _
      refine rgn Ln ?_
      show ∃ _, _
      have hst : k + k2 = 0 ∨ l[k + k2]! ≠ l[k + k2 - 1]! := .inr (Zqw c5)
      have hs1 := dpR_set hst hj
      have hs2 : Zli l (k + (k2 + 1)) = Zli l (k + k2) ++ [l[k + k2]!] := Ztn hst
      have hs3 : dpR l (k + (k2 + 1)) = dpR l (k + k2 + 1) := rfl
      have hs4 : (Zli l (k + (k2 + 1))).length = (Zli l (k + k2)).length + 1 := by rw [hs2]; simp
      have ff := And.intro hs1 (And.intro hs3 (And.intro hs4 ff))
      refine rnd (k2 + 1, _) (h1 := ⟨iv, iv, iv, (by (try dsimp only); rw [show k + (k2 + 1) = k + k2 + 1 from by omega]; first | (rw [Ztn hst, List.length_append, List.length_singleton]; omega) | (rw [Znw hst]; omega)), trivial⟩) (h5 := ?_)
      intro q; left; simp only [upd]; split <;> simp_all
     ·
      refine dw_skip ?_
      show DW _ _ _ _ _
      refine rgn Ln ?_
      show ∃ _, _
      have hst : ¬ (k + k2 = 0 ∨ l[k + k2]! ≠ l[k + k2 - 1]!) := by rintro (q | q); omega; exact q (Zrw (by grind))
      have hs3 : dpR l (k + (k2 + 1)) = dpR l (k + k2) := Zry hst
      have hs4 : Zli l (k + (k2 + 1)) = Zli l (k + k2) := Znw hst
      have ff := And.intro hs3 (And.intro hs4 ff)
      refine rnd (k2 + 1, _) (h1 := ⟨iv, iv, iv, (by (try dsimp only); rw [show k + (k2 + 1) = k + k2 + 1 from by omega]; first | (rw [Ztn hst, List.length_append, List.length_singleton]; omega) | (rw [Znw hst]; omega)), trivial⟩) (h5 := ?_)
      intro q; left; simp only [upd]; split <;> simp_all
    ·
     have e9 : k + k2 = l.length := by omega
     have hcl := Zow (l := l) (k := l.length) (Nat.le_refl _)
     have hcq := Zku l l.length
     have ff := And.intro @e9 (And.intro @hcl ff)
     refine Zja ?_
     show DW _ _ _ _ _
     refine Zaa (Zf4 ?_)
     refine Zh2 (C := Ln) 3 (by omega) (Zdh rfl) rfl rfl (by kernel_rfl) (by kernel_rfl) (by kernel_rfl) (by simp only [List.drop_succ_cons, List.drop_zero, List.take_succ_cons, List.take_zero, S.put, Nat.sub_self, go_sem, ff]; exact rfl) ?_ (by rfl) (by simp only [go_sem, ff]; exact rfl) (by simp only [go_sem, ff]; exact rfl) (by rw [Zow (by omega)]; omega) ?_
     ·
      try simp only [go_sem, ff]
      all_goals exact ok0
     refine Zwl (C := Ln) (by first | decide | simp) (by simp only [List.drop_succ_cons, List.drop_zero, List.take_succ_cons, List.take_zero, S.put, Nat.sub_self, go_sem, ff]; exact rfl) ?_ rfl ?_
     ·
      try simp only [go_sem, ff]
      all_goals exact ok0
     try simp only [Zed]
     refine stp Ln ?_
     refine Zca ?_
     exact Zhi (upd h r (some ⟨45, (dpF l).map Dat.d⟩)) (hr := by (try simp only [go_sem, ff]); all_goals (first | omega | exact ⟨by simp_all [dpF], by omega⟩ | exact ⟨by simp_all [dpF], rfl, by omega⟩)) (hh := by intro q; left; simp only [upd]; split <;> simp_all [dpR_take, dpF])
   ·
    refine dw_skip ?_
    show DW _ _ _ _ _
    refine rgn Ln ?_
    show ∃ _, _
    exact rnd (k + 1, _) (h1 := ⟨iv, iv, iv, (by (try dsimp only); intro i h1 h2; by_cases e : i = k; subst e; exact Zqw (by grind); exact hv i h1 (by omega)), trivial⟩)
  ·
   have e9 : k = l.length := by omega
   subst e9
   refine Zja ?_
   show DW _ _ _ _ _
   refine stp Ln ?_
   refine Zca ?_
   exact Zhi (upd h r (some ⟨45, (dpF l).map Dat.d⟩)) (hr := by (try simp only [go_sem, ff]); all_goals (rw [Zim hv]; first | exact ⟨rfl, by omega⟩ | exact ⟨rfl, rfl, by omega⟩ | omega)) (hh := by rw [Zim hv]; intro q; left; unfold upd; split; rename_i e; subst e; exact hr.symm; rfl)
theorem Zv4 (l : List RSet) (h : H) (n : Nat) (hl : l.length ≤ 100000) : RCt Tryd.prog 22 [.list false (l.map RSet.d)] h n (fun d h' n' => ∃ r', d = .mrow r' 0 l.length ∧ h' = upd h r' (some ⟨24, (l).map RSet.d⟩) ∧ n ≤ r' ∧ r' < n') := by
 refine Zqa Tryd.func22 rfl bo22 (by simp [Tryd.f22]) (fun hnone => ?_)
 unfold Tryd.f22
 have ff := True.intro
 refine stp Ln ?_
 refine Zaa ?_
 refine Zaa (Zf4 ?_)
 refine Zg2 (C := Ln) 1 (e := 24) (by omega) (Zdh rfl) rfl rfl (by kernel_rfl) (by simp only [List.drop_succ_cons, List.drop_zero, List.take_succ_cons, List.take_zero, S.put, Nat.sub_self, go_sem, ff]; exact rfl) ?_ (by rfl) (by simp only [go_sem, ff]; exact rfl) (fun y hy => ?_)
 ·
  try simp only [go_sem, ff]
  all_goals (first | done | (repeat' (with_reducible apply And.intro)) <;> first | omega | (with_reducible assumption) | (intros; omega) | (intros; simp only [decide_eq_true_eq, decide_eq_false_iff_not, Bool.or_eq_true, Bool.and_eq_true, Bool.or_eq_false_iff, Bool.not_eq_true', Bool.not_eq_false'] at *; omega) | (simp_all; done) | (simp_all; omega))
 refine Zwl (C := Ln) (by first | decide | simp) (by simp only [List.drop_succ_cons, List.drop_zero, List.take_succ_cons, List.take_zero, S.put, Nat.sub_self, go_sem, ff]; exact rfl) ?_ rfl ?_
 ·
  try simp only [go_sem, ff]
  all_goals (first | done | (repeat' (with_reducible apply And.intro)) <;> first | omega | (with_reducible assumption) | (intros; omega) | (intros; simp only [decide_eq_true_eq, decide_eq_false_iff_not, Bool.or_eq_true, Bool.and_eq_true, Bool.or_eq_false_iff, Bool.not_eq_true', Bool.not_eq_false'] at *; omega) | (simp_all; done) | (simp_all; omega))
 try simp only [Zed]
 refine cd (fun c1 => ?_) (fun c1 => ?_) (hp := rfl) (hq := rfl)
 ·
  have hl0 : l = [] := by have := hy c1; cases l with | nil => rfl | cons a b => simp at this
  subst hl0
  refine stp Ln ?_
  refine Zrn 2 24 (by simp only [go_sem, ff]) (by simp only [go_sem, ff]) ?_
  refine Zca ?_
  exact Zhi (upd h (n + 4) (some ⟨24, (([] : List RSet)).map RSet.d⟩)) (hr := by (try simp only [go_sem, ff]); all_goals (exact ⟨n + 4, by simp, by simp, by omega, by omega⟩))
 ·
  refine dw_skip ?_
  show DW _ _ _ _ _
  refine stp Ln ?_
  refine Zca ?_
  exact Zhi (upd h (n + 5) (some ⟨24, (l).map RSet.d⟩)) (hr := by (try simp only [go_sem, ff]); all_goals (exact ⟨n + 5, by simp, by simp, by omega, by omega⟩))
theorem bo24 : Zea Tryd.prog 24 = true := by kernel_rfl
theorem Zss (l : List RSet) (h0 : 0 < l.length) (hl : l.length ≤ 100) (hd : ∀ x ∈ l, x.data.length ≤ 100) : PureCt Tryd.prog 24 [.list false (l.map RSet.d)] (.agg (uniteF l).d) := by
 refine Zda Tryd.func24 rfl bo24 (by simp [go_sem, D.nr, nrs, nrr]) (by simp [Tryd.f24]) ?_
 unfold Tryd.f24
 simp only [Zia]
 have ff := True.intro
 have hdk : ∀ k, k < l.length → l[k]!.data.length ≤ 100 := fun k hk => hd _ (by rw [getElem!_pos l k hk]; exact List.getElem_mem hk)
 refine stp Ln ?_
 have ff := And.intro (getD_set h0) ff
 refine stp Ln ?_
 refine stp Ln ?_
 refine Zaa ?_
 refine Zwr 4 3 24 45 (by simp only [go_sem, ff]; exact rfl) (by rfl) (by simp only [go_sem, ff]) ?_
 simp only [List.set_cons_succ, List.set_cons_zero]
 refine stp Ln ?_
 refine Zba ?_
 refine lp (α := (Nat) × (Int) × (List Dat) × (Nat) × Nat) [2, 3, 10, 11] (fun ⟨k, life, out, r, nx⟩ => (k ≤ l.length) ∧ (r < nx) ∧ (r ≠ 0 ∧ r ≠ 4) ∧ (4 < nx) ∧ (out.length ≤ k * 100) ∧ (life = Zjn (l.take k) l[0]!.life) ∧ (out = (l.take k).flatMap RSet.data) ∧ True) (fun ⟨k, life, out, r, nx⟩ => l.length - k) (fun ⟨k, life, out, r, nx⟩ => [(12, .i k)]) (fun ⟨k, life, out, r, nx⟩ => [(0, ⟨24, [[.v (.string (bs [])), .i 0, .i 0, .list true []]]⟩), (4, ⟨24, [[.v (.string (bs (l[0]!.name))), .i (l[0]!.ty), .i (life), .mrow r 0 out.length]]⟩), (r, ⟨45, (out).map Dat.d⟩)]) (fun ⟨k, life, out, r, nx⟩ => nx) (0, l[0]!.life, [], 8, _) (hA := ⟨iv, iv, iv, iv, (by first | (simp) | (dsimp only; simp)), rfl, rfl, trivial⟩) (round := ?_)
 rintro ⟨k, life, out, r, nx⟩ ⟨hk, hr, hrn, hx, ho, hlf, hout, -⟩
 show DW _ _ _ _ { n := _, t := tab _, h := _, nx := _, e := _ }
 simp only [List.cons_append, List.nil_append]
 have n0 : 0 < nx := by omega
 have z0_r : (0 = r) = False := eq_false (by omega)
 have yr_0 : (r = 0) = False := eq_false (by omega)
 have z4_r : (4 = r) = False := eq_false (by omega)
 have yr_4 : (r = 4) = False := eq_false (by omega)
 have ff := And.intro @hr (And.intro @hx (And.intro @n0 (And.intro @z0_r (And.intro @yr_0 (And.intro @z4_r (And.intro @yr_4 ff))))))
 refine stp Ln ?_
 refine Zaa ?_
 refine cd (fun c1 => ?_) (fun c1 => ?_) (hp := rfl) (hq := rfl)
 ·
  have hk2 : k < l.length := by simpa using c1
  have hdk2 := hdk k hk2
  have ff := And.intro (getD_set hk2) ff
  refine dw_skip ?_
  show DW _ _ _ _ _
  refine Zaa ?_
  refine Zba ?_
  refine stp Ln ?_
  refine stp Ln ?_
  refine rgn Ln ?_
  show DW _ _ _ _ _
  refine rgn Ln ?_
  show ∃ _, _
  exact rnd (k + 1, min life l[k]!.life, out ++ l[k]!.data, (nx + 16), _) (h1 := ⟨iv, iv, iv, iv, (by (try dsimp only); have := hdk k hk2; rw [List.length_append]; omega), (by first | (rw [Zgs hk2, ← hlf]) | (dsimp only; rw [Zgs hk2, ← hlf])), (by first | (rw [Zhs hk2, ← hout]) | (dsimp only; rw [Zhs hk2, ← hout])), trivial⟩)
 ·
  have hk3 : k = l.length := by have : ¬ k < l.length := (by simpa using c1); omega
  refine Zja ?_
  show DW _ _ _ _ _
  refine Zaa (Zcf Ln 2 (hct := by exact sortD out _ _ r (by omega) (by simp only [go_sem, z0_r, yr_0, z4_r, yr_4])) (hk := ?_))
  rintro res h2 n2 ⟨rfl, rfl, s', hp, hso, rfl⟩
  have hls := hp.length_eq
  have hdl := dpF_len s'
  refine Zbf Ln ?_
  show DW _ _ _ _ _
  refine Zaa (Zcf Ln 2 (hct := by exact Zkv s' out.length _ _ r hls.symm (by omega) (by simp only [go_sem, z0_r, yr_0, z4_r, yr_4])) (hk := ?_))
  rintro res h2 n2 ⟨rfl, rfl, a1⟩
  try dsimp only at a1
  refine Zbf Ln ?_
  show DW _ _ _ _ _
  refine Zkf 4 3 r (rows := (dpF s').map Dat.d) (off := 0) (len := (dpF s').length) (by simp only [go_sem, ff]; exact rfl) (by rfl) (by simp only [go_sem, ff]; exact rfl) (by omega) (by simp) Zyh ?_
  simp only [List.drop_zero, Zmd, List.set_cons_succ, List.set_cons_zero]
  refine stp Ln ?_
  refine Zca ?_
  exact fin 2 (hr := by (try simp only [go_sem, ff]); all_goals (rw [uniteF, hlf, hk3, List.take_length, Zm4 hso (show s'.Perm (l.flatMap RSet.data) from by rw [hout, hk3, List.take_length] at hp; exact hp)]))
theorem bo8 : Zea Tryd.prog 8 = true := by kernel_rfl
theorem Ztm (l : List RSet) (hl : l.length ≤ 100) : PureCt Tryd.prog 8 [.list false (l.map RSet.d)] (.tuple [.list false ((mergeR l).1.map RSet.d), .i (mergeR l).2]) := by
 rw [← Zn0]
 refine Zda Tryd.func8 rfl bo8 (by simp [go_sem, D.nr, nrs, nrr]) (by simp [Tryd.f8]) ?_
 unfold Tryd.f8
 simp only [Zia]
 have ff := True.intro
 refine stp Ln ?_
 refine Zaa ?_
 refine stp Ln ?_
 refine Zba ?_
 refine lp (α := (Nat) × Nat) [0, 11, 12] (fun ⟨k, nx⟩ => (k ≤ l.length) ∧ (∀ i, i < k → setOk l[i]! = true) ∧ True) (fun ⟨k, nx⟩ => l.length - k) (fun ⟨k, nx⟩ => [(13, .i k)]) (fun ⟨k, nx⟩ => []) (fun ⟨k, nx⟩ => nx) (0, _) (hA := ⟨iv, (by first | (intro i hi; omega) | (dsimp only; intro i hi; omega)), trivial⟩) (round := ?_)
 rintro ⟨k, nx⟩ ⟨hk, hv, -⟩
 show DW _ _ _ _ { n := _, t := tab _, h := _, nx := _, e := _ }
 simp only [List.cons_append, List.nil_append]
 refine stp Ln ?_
 refine Zaa ?_
 refine cd (fun c1 => ?_) (fun c1 => ?_) (hp := rfl) (hq := rfl)
 ·
  have hk2 : k < l.length := by simpa using c1
  have ff := And.intro (getD_set hk2) ff
  refine dw_skip ?_
  show DW _ _ _ _ _
  refine Zaa ?_
  refine Zba ?_
  refine stp Ln ?_
  refine stp Ln ?_ (hok := by (try simp only [go_sem, ff]); all_goals (exact Znb ⟨_, _, _, _⟩))
  refine cd (fun c2 => ?_) (fun c2 => ?_) (hp := rfl) (hq := rfl)
  ·
   have c2 : setOk l[k]! = false := by simpa using c2
   refine stp Ln ?_
   refine Zca ?_
   exact fin 2 (hr := by (try simp only [go_sem, ff]); all_goals (rw [Zcl, not_ok hk2 c2]; rfl))
  ·
   refine dw_skip ?_
   show DW _ _ _ _ _
   refine rgn Ln ?_
   show ∃ _, _
   exact rnd (k + 1, _) (h1 := ⟨iv, (by (try dsimp only); intro i hi; by_cases e : i = k; subst e; simpa using c2; exact hv i (by omega)), trivial⟩)
 ·
  have hall := all_ok (l := l) fun i hi => hv i (by have : ¬ k < l.length := (by simpa using c1); omega)
  have hperm := (Zjx cm_pl l).2
  have hnm : Zjg l := fun x hx => (Ziz hall x hx).name
  refine Zja ?_
  show DW _ _ _ _ _
  refine Zaa (Zcf Ln 1 (hct := by exact Zv4 l _ _ (by omega)) (hk := ?_))
  rintro res h2 n2 ⟨r1, rfl, rfl, a1, b1⟩
  try dsimp only at a1 b1
  have ff := And.intro @b1 ff
  refine Zbf Ln ?_
  show DW _ _ _ _ _
  refine Zaa (Zcf Ln 1 (hct := by exact Zqz l r1 _ _ (by omega) hnm (by simp only [go_sem])) (hk := ?_))
  rintro res h2 n2 ⟨rfl, rfl, a2⟩
  try dsimp only at a2
  refine Zbf Ln ?_
  show DW _ _ _ _ _
  refine Zju 6 r1 (by simp only [go_sem, ff]; exact rfl) (by simp only [go_sem, ff]; exact rfl) (by rw [List.length_map, hperm.length_eq]) Zy2 ?_
  refine stp Ln ?_
  refine Zaa ?_
  refine Zba ?_
  refine Zrn 7 24 (by simp only [go_sem, ff]) (by simp only [go_sem, ff]) ?_
  refine lp (α := (List RSet) × (List RSet) × (Nat) × Nat) [] (fun ⟨s, out, r, nx⟩ => (Zkt (Zdo plc l) [] = Zkt s out) ∧ (∀ x ∈ s, Zqk x) ∧ (out.length + s.length ≤ 100) ∧ (r < nx) ∧ True) (fun ⟨s, out, r, nx⟩ => s.length) (fun ⟨s, out, r, nx⟩ => [(6, .list false (s.map RSet.d)), (7, .mrow r 0 out.length)]) (fun ⟨s, out, r, nx⟩ => [(r, ⟨24, (out).map RSet.d⟩)]) (fun ⟨s, out, r, nx⟩ => nx) (Zdo plc l, [], (n2 + 3), _) (hA := ⟨rfl, (by (try dsimp only); intro x hx; exact Ziz hall x (hperm.mem_iff.1 hx)), (by first | (simp [hperm.length_eq]; omega) | (dsimp only; simp [hperm.length_eq]; omega)), (by (try dsimp only); first | omega | (dsimp only; omega) | (trace_state; exact absurd rfl rfl)), trivial⟩) (round := ?_)
  rintro ⟨s, out, r, nx⟩ ⟨hm, hsub, ho, hr, -⟩
  show DW _ _ _ _ { n := _, t := tab _, h := _, nx := _, e := _ }
  simp only [List.cons_append, List.nil_append]
  have ff := And.intro @hr ff
  refine Zaa ?_
  refine stp Ln ?_
  refine cd (fun c4 => ?_) (fun c4 => ?_) (hp := rfl) (hq := rfl)
  ·
   have hs0 : 0 < s.length := by simpa using c4
   have ff := And.intro (getD_set hs0) ff
   refine dw_skip ?_
   show DW _ _ _ _ _
   refine Zba ?_
   refine stp Ln ?_
   refine Zaa ?_
   refine Zba ?_
   obtain ⟨w, hw⟩ : ∃ w, w = nx + 6 := ⟨_, rfl⟩
   rw [← hw]
   have zr_w : (r = w) = False := eq_false (by omega)
   have yw_r : (w = r) = False := eq_false (by omega)
   have ff := And.intro @zr_w (And.intro @yw_r ff)
   refine lp (α := (Nat) × Nat) [6, 7, 8] (fun ⟨c, nx⟩ => (1 ≤ c ∧ c ≤ s.length) ∧ (Zni s 1 = Zni s c) ∧ (w < nx) ∧ (r < nx) ∧ True) (fun ⟨c, nx⟩ => s.length - c) (fun ⟨c, nx⟩ => [(9, .i c)]) (fun ⟨c, nx⟩ => [(r, ⟨24, (out).map RSet.d⟩), (w, ⟨24, [s[0]!.d]⟩)]) (fun ⟨c, nx⟩ => nx) (1, _) (hA := ⟨(by first | (exact ⟨Nat.le_refl _, hs0⟩) | (dsimp only; exact ⟨Nat.le_refl _, hs0⟩)), rfl, iv, iv, trivial⟩) (round := ?_)
   rintro ⟨c, nx⟩ ⟨hc, hct, hwx, hrx, -⟩
   show DW _ _ _ _ { n := _, t := tab _, h := _, nx := _, e := _ }
   simp only [List.cons_append, List.nil_append]
   have ff := And.intro @hwx (And.intro @hrx (And.intro @zr_w (And.intro @yw_r ff)))
   refine Zaa ?_
   rcases Nat.lt_or_ge c s.length with gc | gc
   ·
    have ff := And.intro (getD_set gc) ff
    refine stp Ln ?_
    refine cd (fun c5 => ?_) (fun c5 => ?_) (hp := rfl) (hq := rfl)
    ·
     have hcl := (Zou c5).1
     refine dw_skip ?_
     show DW _ _ _ _ _
     refine Zba ?_
     refine rgn Ln ?_
     show ∃ _, _
     exact rnd (c + 1, _) (h1 := ⟨(by first | (have := (Zou c5).1; omega) | (dsimp only; have := (Zou c5).1; omega)), (by first | (rw [hct, (Zou c5).2]) | (dsimp only; rw [hct, (Zou c5).2])), iv, iv, trivial⟩)
    ·
     have hcnt : Zni s 1 = c := by rw [hct, ctp_stop c5]
     have hdt : ∀ x ∈ s.take c, x.data.length ≤ 100 := fun x hx => by have := (hsub x (List.mem_of_mem_take hx)).len; omega
     have hty : inR (uniteF (s.take c)).ty 1 8 = true := by have h1 : (s.take c)[0]! = s[0]! := by { rw [getElem!_pos (s.take c) 0 (by simp; omega), getElem!_pos s 0 hs0]; simp }; show inR (s.take c)[0]!.ty 1 8 = true; rw [h1, getElem!_pos s 0 hs0]; exact (hsub _ (List.getElem_mem hs0)).ty
     have hty2 := inR_iff.1 hty
     obtain ⟨rest, hld⟩ := Zts (k := (uniteF (s.take c)).ty.toNat) (by omega) (by omega)
     have ff := And.intro @hld (And.intro (fun (i : Nat) (l : List RSet) => (List.map_take (f := RSet.d) (l := l) (i := i)).symm) (And.intro (fun (i : Nat) (l : List RSet) => (List.map_drop (f := RSet.d) (l := l) (i := i)).symm) ff))
     refine Zja ?_
     show DW _ _ _ _ _
     refine stp Ln ?_ (hok := by (try simp only [go_sem, ff]); all_goals (first | done | ((repeat' (with_reducible apply And.intro)) <;> first | omega | exact Zss _ (by simp; omega) (by simp; omega) hdt | (simp; omega))))
     refine Zaa ?_
     refine stp Ln ?_
     refine cd (fun c6 => ?_) (fun c6 => ?_) (hp := rfl) (hq := rfl)
     ·
      refine stp Ln ?_
      refine Zca ?_
      exact fin 2 (hr := by (try simp only [go_sem, ff]); all_goals (rw [Zcl, hall, hm]; simp only [if_true]; rw [Zoe, if_pos hs0, hcnt, if_pos (by rw [Bool.and_eq_true, decide_eq_true_eq] at c6; exact ⟨c6.1, by omega⟩)]; rfl))
     ·
      refine dw_skip ?_
      show DW _ _ _ _ _
      refine Zaa ?_
      refine stp Ln ?_
      refine cd (fun c7 => ?_) (fun c7 => ?_) (hp := rfl) (hq := rfl)
      ·
       refine stp Ln ?_
       refine Zca ?_
       exact fin 2 (hr := by (try simp only [go_sem, ff]); all_goals (rw [Zcl, hall, hm]; simp only [if_true]; rw [Zoe, if_pos hs0, hcnt, if_neg (by rw [Bool.and_eq_false_iff, decide_eq_false_iff_not] at c6; intro q; rcases c6 with c6 | c6; rw [q.1] at c6; cases c6; exact c6 (by omega)), if_pos (by have := of_decide_eq_true c7; omega)]; rfl))
      ·
       refine dw_skip ?_
       show DW _ _ _ _ _
       refine stp Ln ?_
       refine rgn Ln ?_
       show ∃ _, _
       exact rnd (s.drop c, out ++ [uniteF (s.take c)], (nx + 48), _) (h1 := ⟨(by (try dsimp only); rw [hm, Zoe, if_pos hs0, hcnt, if_neg (by rw [Bool.and_eq_false_iff, decide_eq_false_iff_not] at c6; intro q; rcases c6 with c6 | c6; rw [q.1] at c6; cases c6; exact c6 (by omega)), if_neg (by have := of_decide_eq_false c7; omega)]), (by (try dsimp only); intro x hx; exact hsub x (List.mem_of_mem_drop hx)), (by (try dsimp only); rw [List.length_append, List.length_drop]; simp only [List.length_cons, List.length_nil]; omega), (by (try dsimp only); first | omega | (dsimp only; omega) | (trace_state; exact absurd rfl rfl)), trivial⟩) (h2 := by show (_ : Nat) < _; (rw [List.length_drop]; omega)) (h3 := by (try simp only [go_sem, ff]); all_goals (first | done | (simp; done) | (simp [RSet.d]; done) | ((repeat' (with_reducible apply And.intro)) <;> first | rfl | (left; simp; done) | (simp [RSet.d]; done)))) (h4 := by (try simp only [go_sem, ff]); all_goals (first | done | (simp; done) | (simp [RSet.d]; done) | ((repeat' (with_reducible apply And.intro)) <;> first | rfl | (left; simp; done) | (simp [RSet.d]; done)))) (h5 := by (try simp only [go_sem, ff]); all_goals (first | done | (simp; done) | (simp [RSet.d]; done) | ((repeat' (with_reducible apply And.intro)) <;> first | rfl | (left; simp; done) | (simp [RSet.d]; done))))
   ·
    have gf : ((c : Int) < s.length) = False := eq_false (by omega)
    have ff := And.intro @gf (And.intro @decide_false ff)
    refine stp Ln ?_
    refine cd (fun c5 => ?_) (fun c5 => ?_) (hp := rfl) (hq := rfl)
    ·
     cases c5
    ·
     have hcnt : Zni s 1 = c := by rw [hct, Zmi, if_neg (by omega)]
     have hdt : ∀ x ∈ s.take c, x.data.length ≤ 100 := fun x hx => by have := (hsub x (List.mem_of_mem_take hx)).len; omega
     have hty : inR (uniteF (s.take c)).ty 1 8 = true := by have h1 : (s.take c)[0]! = s[0]! := by { rw [getElem!_pos (s.take c) 0 (by simp; omega), getElem!_pos s 0 hs0]; simp }; show inR (s.take c)[0]!.ty 1 8 = true; rw [h1, getElem!_pos s 0 hs0]; exact (hsub _ (List.getElem_mem hs0)).ty
     have hty2 := inR_iff.1 hty
     obtain ⟨rest, hld⟩ := Zts (k := (uniteF (s.take c)).ty.toNat) (by omega) (by omega)
     have ff := And.intro @hld (And.intro (fun (i : Nat) (l : List RSet) => (List.map_take (f := RSet.d) (l := l) (i := i)).symm) (And.intro (fun (i : Nat) (l : List RSet) => (List.map_drop (f := RSet.d) (l := l) (i := i)).symm) ff))
     refine Zja ?_
     show DW _ _ _ _ _
     refine stp Ln ?_ (hok := by (try simp only [go_sem, ff]); all_goals (first | done | ((repeat' (with_reducible apply And.intro)) <;> first | omega | exact Zss _ (by simp; omega) (by simp; omega) hdt | (simp; omega))))
     refine Zaa ?_
     refine stp Ln ?_
     refine cd (fun c6 => ?_) (fun c6 => ?_) (hp := rfl) (hq := rfl)
     ·
      refine stp Ln ?_
      refine Zca ?_
      exact fin 2 (hr := by (try simp only [go_sem, ff]); all_goals (rw [Zcl, hall, hm]; simp only [if_true]; rw [Zoe, if_pos hs0, hcnt, if_pos (by rw [Bool.and_eq_true, decide_eq_true_eq] at c6; exact ⟨c6.1, by omega⟩)]; rfl))
     ·
      refine dw_skip ?_
      show DW _ _ _ _ _
      refine Zaa ?_
      refine stp Ln ?_
      refine cd (fun c7 => ?_) (fun c7 => ?_) (hp := rfl) (hq := rfl)
      ·
       refine stp Ln ?_
       refine Zca ?_
       exact fin 2 (hr := by (try simp only [go_sem, ff]); all_goals (rw [Zcl, hall, hm]; simp only [if_true]; rw [Zoe, if_pos hs0, hcnt, if_neg (by rw [Bool.and_eq_false_iff, decide_eq_false_iff_not] at c6; intro q; rcases c6 with c6 | c6; rw [q.1] at c6; cases c6; exact c6 (by omega)), if_pos (by have := of_decide_eq_true c7; omega)]; rfl))
      ·
       refine dw_skip ?_
       show DW _ _ _ _ _
       refine stp Ln ?_
       refine rgn Ln ?_
       show ∃ _, _
       exact rnd (s.drop c, out ++ [uniteF (s.take c)], (nx + 48), _) (h1 := ⟨(by (try dsimp only); rw [hm, Zoe, if_pos hs0, hcnt, if_neg (by rw [Bool.and_eq_false_iff, decide_eq_false_iff_not] at c6; intro q; rcases c6 with c6 | c6; rw [q.1] at c6; cases c6; exact c6 (by omega)), if_neg (by have := of_decide_eq_false c7; omega)]), (by (try dsimp only); intro x hx; exact hsub x (List.mem_of_mem_drop hx)), (by (try dsimp only); rw [List.length_append, List.length_drop]; simp only [List.length_cons, List.length_nil]; omega), (by (try dsimp only); first | omega | (dsimp only; omega) | (trace_state; exact absurd rfl rfl)), trivial⟩) (h2 := by show (_ : Nat) < _; (rw [List.length_drop]; omega)) (h3 := by (try simp only [go_sem, ff]); all_goals (first | done | (simp; done) | (simp [RSet.d]; done) | ((repeat' (with_reducible apply And.intro)) <;> first | rfl | (left; simp; done) | (simp [RSet.d]; done)))) (h4 := by (try simp only [go_sem, ff]); all_goals (first | done | (simp; done) | (simp [RSet.d]; done) | ((repeat' (with_reducible apply And.intro)) <;> first | rfl | (left; simp; done) | (simp [RSet.d]; done)))) (h5 := by (try simp only [go_sem, ff]); all_goals (first | done | (simp; done) | (simp [RSet.d]; done) | ((repeat' (with_reducible apply And.intro)) <;> first | rfl | (left; simp; done) | (simp [RSet.d]; done))))
  ·
   have hs0 : ¬ 0 < s.length := by simpa using c4
   refine Zja ?_
   show DW _ _ _ _ _
   refine stp Ln ?_
   refine Zca ?_
   exact fin 2 (hr := by (try simp only [go_sem, ff]); all_goals (rw [Zcl, hall, hm]; simp only [if_true]; rw [Zoe, if_neg hs0]))
set_option maxRecDepth 10000
theorem bo60 : Zea Tryd.prog 60 = true := by kernel_rfl
theorem rnum_ct (b : Str) (m : Int) (r : Nat) (h : H) (n : Nat) (hr : h r = some ⟨5, b.map bD⟩) (hl : b.length ≤ 1000000) : RCt Tryd.prog 60 [.mrow r 0 b.length, .i m] h n (fun d h' n' => ∃ r', d = .mrow r' 0 (b ++ be8 m).length ∧ h' = upd (upd h r none) r' (some ⟨5, (b ++ be8 m).map bD⟩) ∧ n ≤ r' ∧ r' < n') := by
 refine Zqa Tryd.func60 rfl bo60 (by simp [Tryd.f60]) (fun hnone => ?_)
 unfold Tryd.f60
 have ff := True.intro
 have hrn : r < n := by rcases Nat.lt_or_ge r n with q | q; exact q; rw [hnone r q] at hr; cases hr
 have ff := And.intro @hr (And.intro @hrn ff)
 refine stp Ln ?_
 refine Zaa ?_
 refine stp Ln ?_
 refine Zba ?_
 refine lph (α := (Nat) × (Nat) × Nat) [1] (fun ⟨k, r1, nx⟩ => (k ≤ 8) ∧ (r1 = r ∧ k = 0 ∨ n ≤ r1) ∧ (r1 < nx) ∧ (n ≤ nx) ∧ True) (fun ⟨k, r1, nx⟩ => 9 - k) (fun ⟨k, r1, nx⟩ => [(0, .mrow r1 0 (b.length + k)), (5, .i (56 - 8 * k))]) (fun ⟨k, r1, nx⟩ => upd (upd h r none) r1 (some ⟨5, (b ++ (be8 m).take k).map bD⟩)) (fun ⟨k, r1, nx⟩ => nx) (0, r, _) (hA := ⟨iv, iv, iv, iv, trivial⟩) (round := ?_) (hhh := by simp only [List.take_zero, List.append_nil]; exact Zx3 hr)
 rintro ⟨k, r1, nx⟩ ⟨hk, h1, hx, hn, -⟩
 show DW _ _ _ _ { n := _, t := tab _, h := _, nx := _, e := _ }
 simp only [List.cons_append, List.nil_append]
 have ff := And.intro @hx ff
 refine Zaa ?_
 refine stp Ln ?_
 refine cd (fun c1 => ?_) (fun c1 => ?_) (hp := rfl) (hq := rfl)
 ·
  have hk2 : k < 8 := by have : (0 : Int) ≤ 56 - 8 * (k:Int) := (by simpa using c1); omega
  have e1 : (IntKind.u64.wrap (56 - 8 * (k:Int))).toNat = 56 - 8 * k := by rw [IntKind.wrap_u64]; omega
  have e2 := Zyx m (56 - 8 * k) (by omega)
  have ff := And.intro @e1 (And.intro @e2 ff)
  refine dw_skip ?_
  show DW _ _ _ _ _
  refine Zaa ?_
  refine Zba ?_
  refine rgn Ln ?_ (hok := by (try simp only [go_sem, ff, Zab, List.length_take, List.length_append]); all_goals (exact ok0))
  show DW _ _ _ _ _
  refine rgn Ln ?_
  show ∃ _, _
  refine rnd (k + 1, (nx + 10), _) (h1 := ⟨iv, iv, iv, iv, trivial⟩) (h5 := ?_)
  rw [take8 m hk2, ← List.append_assoc, List.map_append, List.map_append]
  exact Zgw (h1.imp (fun q => q.1) fun q => hnone _ q)
 ·
  have hk3 : k = 8 := by have : ¬ (0 : Int) ≤ 56 - 8 * (k:Int) := (by simpa using c1); omega
  subst hk3
  refine Zja ?_
  show DW _ _ _ _ _
  refine stp Ln ?_
  refine Zca ?_
  exact Zhi (upd (upd h r none) r1 (some ⟨5, (b ++ be8 m).map bD⟩)) (hr := by (try simp only [go_sem, ff]); all_goals (exact ⟨r1, by simp [Zab], rfl, by omega, by omega⟩))
set_option maxRecDepth 10000
theorem readR_no {x : Str} {z : RSet} {st : RT} (hset : Zlv x (0, false) = (z, st)) (c : (st.2 = true ∨ ¬ (st.1 : Int) = (x.length : Int)) ∨ setOk z = false) : readF x = (noSet, 10) := by
 rw [← Zo2]
 unfold readR
 rw [hset]
 refine if_pos ?_
 simp only [Bool.or_eq_true, decide_eq_true_eq, Bool.not_eq_true']
 rcases c with (c | c) | c
 ·
  exact .inl (.inl c)
 ·
  exact .inl (.inr (by omega))
 ·
  exact .inr c
theorem Zn2 {x : Str} {z : RSet} {st : RT} (hset : Zlv x (0, false) = (z, st)) (c : (st.2 = false ∧ (st.1 : Int) = (x.length : Int)) ∧ setOk z = true) : readF x = (z, 0) := by
 rw [← Zo2]
 unfold readR
 rw [hset]
 refine if_neg ?_
 simp only [Bool.or_eq_true, decide_eq_true_eq, Bool.not_eq_true']
 rintro ((q | q) | q)
 ·
  rw [c.1.1] at q; cases q
 ·
  omega
 ·
  rw [c.2] at q; cases q
theorem byteOf1 (c : UInt8) : Go.DL.byteOf [.v (.int .u8 (c.toNat : Int))] = c := by simp [Go.DL.byteOf]
theorem wrapu (c : UInt8) : IntKind.u64.wrap (c.toNat : Int) = (c.toNat : Int) := by
 have := c.toNat_lt
 rw [IntKind.wrap_u64]; omega
theorem step_eq {u : Nat} (c : UInt8) : IntKind.u64.wrap (IntKind.u64.wrap ((u : Int) * 256) + (c.toNat : Int)) = (Zmg u c : Int) := by
 unfold Zmg
 simp only [IntKind.wrap_u64]
 have := c.toNat_lt
 omega
theorem Zc0 {b : Str} {out : List Dat} {st : RT} {N k : Nat} (h : k < N) (hs : st.2 = false) : Zwh b (N - k) out st = Zwh b (N - (k + 1)) (out ++ [(Zqg b st).1]) (Zqg b st).2 := by
 obtain ⟨m, hm⟩ : ∃ m, N - k = m + 1 := ⟨N - k - 1, by omega⟩
 rw [hm, show N - (k + 1) = m from by omega, Zwh, if_neg (by rw [hs]; simp)]
theorem Zb0 {b : Str} {out : List Dat} {st : RT} {N k : Nat} (h : ¬ (k < N ∧ st.2 = false)) : Zwh b (N - k) out st = (out, st) := by
 by_cases hk : k < N
 ·
  exact Zum _ _ _ (by cases h2 : st.2; exact absurd ⟨hk, h2⟩ h; rfl)
 ·
  rw [show N - k = 0 from by omega]; rfl
theorem Ztz {b s : Str} {st : RT} {N k : Nat} (h : k < N) (hs : st.2 = false) : Zne b (N - k) s st = Zne b (N - (k + 1)) (s ++ [(Zcb b st).1]) (Zcb b st).2 := by
 obtain ⟨m, hm⟩ : ∃ m, N - k = m + 1 := ⟨N - k - 1, by omega⟩
 rw [hm, show N - (k + 1) = m from by omega, Zne, if_neg (by rw [hs]; simp)]
theorem Zsz {b s : Str} {st : RT} {N k : Nat} (h : ¬ (k < N ∧ st.2 = false)) : Zne b (N - k) s st = (s, st) := by
 by_cases hk : k < N
 ·
  exact Zmq _ _ _ (by cases h2 : st.2; exact absurd ⟨hk, h2⟩ h; rfl)
 ·
  rw [show N - k = 0 from by omega]; rfl
theorem Zrs {b : Str} {u : Nat} {st : RT} {k : Nat} (h : k < 8) : Zzi b (8 - k) u st = Zzi b (8 - (k + 1)) (Zmg u (Zcb b st).1) (Zcb b st).2 := by
 obtain ⟨m, hm⟩ : ∃ m, 8 - k = m + 1 := ⟨8 - k - 1, by omega⟩
 rw [hm, show 8 - (k + 1) = m from by omega, Zzi]
theorem bo45 : Zea Tryd.prog 45 = true := by kernel_rfl
theorem Zzl (x : Str) (st : RT) (rb : Nat) (h : H) (n : Nat) (hx : x.length ≤ 1000000) (hb : h rb = some ⟨70, [[.list false (x.map bD), .i (st).1, .b (st).2]]⟩) : RCt Tryd.prog 45 [.mptr rb 0 0] h n (fun d h' n' => d = .v (.int .u8 ((Zcb x st).1.toNat : Int)) ∧ h' = upd h rb (some ⟨70, [[.list false (x.map bD), .i ((Zcb x st).2).1, .b ((Zcb x st).2).2]]⟩) ∧ n ≤ n') := by
 refine Zqa Tryd.func45 rfl bo45 (by simp [Tryd.f45]) (fun hnone => ?_)
 unfold Tryd.f45
 have ff := True.intro
 have ff := And.intro @hb ff
 refine stp Ln ?_
 refine Zaa ?_
 refine stp Ln ?_
 refine cd (fun c1 => ?_) (fun c1 => ?_)
 ·
  have e := Zfr (b := x) (t := st) (by omega)
  refine stp Ln ?_
  refine stp Ln ?_
  refine Zca ?_
  exact Zhi (upd h rb (some ⟨70, [[.list false (x.map bD), .i ((st.1, true)).1, .b ((st.1, true)).2]]⟩)) (hr := by (try simp only [go_sem, ff]); all_goals (rw [e]; exact ⟨rfl, rfl, by omega⟩)) (hh := by intro q; left; by_cases e1 : q = rb <;> simp [upd, e1])
 ·
  have hk : st.1 < x.length := by omega
  have e := Zqv (b := x) (t := st) hk
  have e1 : ((st.1 : Int) + 1 - 1).toNat = st.1 := by omega
  have ff := And.intro (Zfw hk) (And.intro @e1 ff)
  refine dw_skip ?_
  show DW _ _ _ _ _
  refine stp Ln ?_
  refine stp Ln ?_
  refine Zca ?_
  exact Zhi (upd h rb (some ⟨70, [[.list false (x.map bD), .i ((st.1 + 1, st.2)).1, .b ((st.1 + 1, st.2)).2]]⟩)) (hr := by (try simp only [go_sem, ff]); all_goals (rw [e]; exact ⟨rfl, rfl, by omega⟩)) (hh := by intro q; left; by_cases e1 : q = rb <;> simp [upd, e1])
theorem bo43 : Zea Tryd.prog 43 = true := by kernel_rfl
theorem Zmx (x : Str) (st : RT) (rb : Nat) (h : H) (n : Nat) (hx : x.length ≤ 1000000) (hb : h rb = some ⟨70, [[.list false (x.map bD), .i (st).1, .b (st).2]]⟩) : RCt Tryd.prog 43 [.mptr rb 0 0] h n (fun d h' n' => d = .v (.string (bs (Zqb x st).1)) ∧ h' = upd h rb (some ⟨70, [[.list false (x.map bD), .i ((Zqb x st).2).1, .b ((Zqb x st).2).2]]⟩) ∧ n ≤ n') := by
 refine Zqa Tryd.func43 rfl bo43 (by simp [Tryd.f43]) (fun hnone => ?_)
 unfold Tryd.f43
 have ff := True.intro
 have ff := And.intro @hb ff
 refine stp Ln ?_
 have ff := And.intro @wrapc ff
 refine Zaa (Zcf Ln 1 (hct := by exact Zzl x st rb _ _ hx (by simp only [go_sem, hb])) (hk := ?_))
 rintro res h2 n2 ⟨rfl, rfl, a1⟩
 try dsimp only at a1
 refine Zbf Ln ?_
 show DW _ _ _ _ _
 refine stp Ln ?_
 refine Zaa ?_
 refine stp Ln ?_
 refine Zba ?_
 refine lph (α := (Nat) × (Str) × (RT) × Nat) [0, 3] (fun ⟨j, s, s2, nx⟩ => (j ≤ (Zcb x st).1.toNat) ∧ (n ≤ nx) ∧ (s.length ≤ j) ∧ (Zqb x st = Zne x ((Zcb x st).1.toNat - j) s s2) ∧ True) (fun ⟨j, s, s2, nx⟩ => (Zcb x st).1.toNat - j) (fun ⟨j, s, s2, nx⟩ => [(4, .v (.string (bs s))), (5, .i j)]) (fun ⟨j, s, s2, nx⟩ => upd h rb (some ⟨70, [[.list false (x.map bD), .i (s2).1, .b (s2).2]]⟩)) (fun ⟨j, s, s2, nx⟩ => nx) (0, [], (Zcb x st).2, _) (hA := ⟨iv, iv, (by first | (simp) | (dsimp only; simp)), rfl, trivial⟩) (round := ?_)
 rintro ⟨j, s, s2, nx⟩ ⟨hj, hn, hs, hv, -⟩
 show DW _ _ _ _ { n := _, t := tab _, h := _, nx := _, e := _ }
 simp only [List.cons_append, List.nil_append]
 have hb8 := (Zcb x st).1.toNat_lt
 refine Zaa ?_
 refine stp Ln ?_
 refine cd (fun c1 => ?_) (fun c1 => ?_)
 ·
  have hk2 : j < (Zcb x st).1.toNat ∧ s2.2 = false := by first | exact ⟨by omega, c1.2⟩ | (simp_all; done)
  refine dw_skip ?_
  show DW _ _ _ _ _
  refine Zaa ?_
  refine Zba ?_
  refine Zcf Ln 2 (hct := by exact Zzl x s2 rb _ _ hx (by simp only [go_sem])) (hk := ?_)
  rintro res h2 n2 ⟨rfl, rfl, a2⟩
  try dsimp only at a2
  have e6 := byteOf1 (Zcb x s2).1
  have ff := And.intro @e6 ff
  refine Zbf Ln ?_ (hok := by (try simp only [go_sem, ff]); all_goals (exact ⟨by first | rfl | simp [isByte], by omega⟩))
  show DW _ _ _ _ _
  refine rgn Ln ?_
  show ∃ _, _
  refine rnd (j + 1, s ++ [(Zcb x s2).1], (Zcb x s2).2, _) (h1 := ⟨iv, iv, (by first | (simp; omega) | (dsimp only; simp; omega)), (by (try dsimp only); rw [hv, Ztz hk2.1 hk2.2]), trivial⟩) (h5 := ?_)
  first | exact Zgb _ | (rw [Zua]; done) | (rw [Zua]; exact Zgb _)
 ·
  have hk2 : ¬ (j < (Zcb x st).1.toNat ∧ s2.2 = false) := by first | (intro q; simp_all; done) | (intro q; rcases c1 with c1 | c1; omega; rw [q.2] at c1; cases c1)
  refine Zja ?_
  show DW _ _ _ _ _
  refine stp Ln ?_
  refine Zca ?_
  exact Zhi (upd h rb (some ⟨70, [[.list false (x.map bD), .i (s2).1, .b (s2).2]]⟩)) (hr := by (try simp only [go_sem, ff]); all_goals (rw [hv, Zsz hk2]; exact ⟨rfl, rfl, by omega⟩))
theorem bo44 : Zea Tryd.prog 44 = true := by kernel_rfl
theorem Zui (x : Str) (st : RT) (rb : Nat) (h : H) (n : Nat) (hx : x.length ≤ 1000000) (hb : h rb = some ⟨70, [[.list false (x.map bD), .i (st).1, .b (st).2]]⟩) : RCt Tryd.prog 44 [.mptr rb 0 0] h n (fun d h' n' => d = .i (Zce x st).1 ∧ h' = upd h rb (some ⟨70, [[.list false (x.map bD), .i ((Zce x st).2).1, .b ((Zce x st).2).2]]⟩) ∧ n ≤ n') := by
 refine Zqa Tryd.func44 rfl bo44 (by simp [Tryd.f44]) (fun hnone => ?_)
 unfold Tryd.f44
 have ff := True.intro
 have ff := And.intro @hb ff
 refine stp Ln ?_
 refine stp Ln ?_
 refine Zaa ?_
 refine stp Ln ?_
 refine Zba ?_
 refine lph (α := (Nat) × (Nat) × (RT) × Nat) [0] (fun ⟨j, u, s2, nx⟩ => (j ≤ 8) ∧ (n ≤ nx) ∧ (u < 18446744073709551616) ∧ (Zzi x 8 0 st = Zzi x (8 - j) u s2) ∧ True) (fun ⟨j, u, s2, nx⟩ => 8 - j) (fun ⟨j, u, s2, nx⟩ => [(3, .v (.int .u64 u)), (4, .i j)]) (fun ⟨j, u, s2, nx⟩ => upd h rb (some ⟨70, [[.list false (x.map bD), .i (s2).1, .b (s2).2]]⟩)) (fun ⟨j, u, s2, nx⟩ => nx) (0, 0, st, _) (hA := ⟨iv, iv, (by first | (omega) | (dsimp only; omega)), rfl, trivial⟩) (round := ?_) (hhh := by intro q; left; by_cases e1 : q = rb <;> simp [upd, e1, hb])
 rintro ⟨j, u, s2, nx⟩ ⟨hj, hn, hu, hv, -⟩
 show DW _ _ _ _ { n := _, t := tab _, h := _, nx := _, e := _ }
 simp only [List.cons_append, List.nil_append]
 refine Zaa ?_
 refine stp Ln ?_
 refine cd (fun c1 => ?_) (fun c1 => ?_)
 ·
  have hk2 : j < 8 := by omega
  refine dw_skip ?_
  show DW _ _ _ _ _
  refine Zaa ?_
  refine Zba ?_
  refine Zcf Ln 3 (hct := by exact Zzl x s2 rb _ _ hx (by simp only [go_sem])) (hk := ?_)
  rintro res h2 n2 ⟨rfl, rfl, a2⟩
  try dsimp only at a2
  have e5 := step_eq (u := u) (Zcb x s2).1
  have e6 := wrapu (Zcb x s2).1
  have ff := And.intro @e5 (And.intro @e6 ff)
  refine Zbf Ln ?_
  show DW _ _ _ _ _
  refine rgn Ln ?_
  show ∃ _, _
  refine rnd (j + 1, Zmg u (Zcb x s2).1, (Zcb x s2).2, _) (h1 := ⟨iv, iv, (by first | (exact Zvl _ _) | (dsimp only; exact Zvl _ _)), (by first | (rw [hv, Zrs hk2]) | (dsimp only; rw [hv, Zrs hk2])), trivial⟩) (h5 := ?_)
  first | exact Zgb _ | (rw [Zua]; done) | (rw [Zua]; exact Zgb _)
 ·
  have hk2 : j = 8 := by omega
  subst hk2
  refine Zja ?_
  show DW _ _ _ _ _
  refine stp Ln ?_
  refine Zca ?_
  exact Zhi (upd h rb (some ⟨70, [[.list false (x.map bD), .i (s2).1, .b (s2).2]]⟩)) (hr := by (try simp only [go_sem, ff]); all_goals (unfold Zce; rw [hv]; exact ⟨rfl, rfl, by omega⟩))
theorem bo16 : Zea Tryd.prog 16 = true := by kernel_rfl
theorem Zk2 (x : Str) (hx : x.length ≤ 1000000) : PureCt Tryd.prog 16 [.list false (x.map bD)] (.tuple [.agg (readF x).1.d, .i (readF x).2]) := by
 refine Zda Tryd.func16 rfl bo16 (by simp [go_sem, D.nr, nrs, nrr]) (by simp [Tryd.f16]) ?_
 unfold Tryd.f16
 simp only [Zia]
 have ff := True.intro
 refine stp Ln ?_
 refine stp Ln ?_
 refine Zaa (Zcf Ln 1 (hct := by exact Zmx x (0, false) 4 _ _ hx rfl) (hk := ?_))
 rintro res h2 n2 ⟨rfl, rfl, a1⟩
 try dsimp only at a1
 have p4 : 4 < n2 := by omega
 have p0 : 0 < n2 := by omega
 have ff := And.intro @p4 (And.intro @p0 ff)
 refine Zbf Ln ?_
 show DW _ _ _ _ _
 obtain ⟨q, hq⟩ : ∃ q, q = n2 + 3 := ⟨_, rfl⟩
 rw [← hq]
 refine Zwr q 3 24 45 (by simp only [go_sem, ff]; exact rfl) (by rfl) (by simp only [go_sem, ff]) ?_
 simp only [List.set_cons_succ, List.set_cons_zero]
 obtain ⟨r0, hr0⟩ : ∃ r0, r0 = (n2 + 5) := ⟨_, rfl⟩
 rw [← hr0]
 have z4_q : (4 = q) = False := eq_false (by omega)
 have yq_4 : (q = 4) = False := eq_false (by omega)
 have z4_r0 : (4 = r0) = False := eq_false (by omega)
 have yr0_4 : (r0 = 4) = False := eq_false (by omega)
 have zq_r0 : (q = r0) = False := eq_false (by omega)
 have yr0_q : (r0 = q) = False := eq_false (by omega)
 have z0_q : (0 = q) = False := eq_false (by omega)
 have yq_0 : (q = 0) = False := eq_false (by omega)
 have z0_r0 : (0 = r0) = False := eq_false (by omega)
 have yr0_0 : (r0 = 0) = False := eq_false (by omega)
 have ff := And.intro @z4_q (And.intro @yq_4 (And.intro @z4_r0 (And.intro @yr0_4 (And.intro @zq_r0 (And.intro @yr0_q (And.intro @z0_q (And.intro @yq_0 (And.intro @z0_r0 (And.intro @yr0_0 ff)))))))))
 refine Zfg [0, 2, 4, 5] [(0, ⟨24, [[.v (.string (bs [])), .i 0, .i 0, .list true []]]⟩), (4, ⟨70, [[.list false (x.map bD), .i ((Zqb x (0, false)).2).1, .b ((Zqb x (0, false)).2).2]]⟩), (q, ⟨24, [[.v (.string (bs ((Zqb x (0, false)).1))), .i (0), .i (0), .mrow r0 0 0]]⟩), (r0, ⟨45, []⟩)] (by simp only [List.map_cons, List.map_nil, go_sem, ff]; exact rfl) (by first | (simp only [go_sem, ff]; done) | (simp [go_sem, ff]; done)) ?_
 show DW _ _ _ _ { n := _, t := tab _, h := _, nx := _, e := _ }
 refine Zaa (Zcf Ln 1 (hct := by exact Zui x (Zqb x (0, false)).2 4 _ _ hx (by simp only [go_sem])) (hk := ?_))
 rintro res h2 n2 ⟨rfl, rfl, a2⟩
 try dsimp only at a2
 have p4 : 4 < n2 := by omega
 have p0 : 0 < n2 := by omega
 have pq : q < n2 := by omega
 have pr : r0 < n2 := by omega
 have ff := And.intro @pq (And.intro @pr ff)
 refine Zbf Ln ?_
 show DW _ _ _ _ _
 refine Zaa (Zcf Ln 1 (hct := by exact Zui x (Zce x (Zqb x (0, false)).2).2 4 _ _ hx (by simp only [go_sem, ff])) (hk := ?_))
 rintro res h2 n2 ⟨rfl, rfl, a3⟩
 try dsimp only at a3
 have p4 : 4 < n2 := by omega
 have p0 : 0 < n2 := by omega
 have pq : q < n2 := by omega
 have pr : r0 < n2 := by omega
 refine Zbf Ln ?_
 show DW _ _ _ _ _
 have ff := And.intro @wrapc ff
 refine Zaa (Zcf Ln 1 (hct := by exact Zzl x (Zce x (Zce x (Zqb x (0, false)).2).2).2 4 _ _ hx (by simp only [go_sem, ff])) (hk := ?_))
 rintro res h2 n2 ⟨rfl, rfl, a4⟩
 try dsimp only at a4
 have p4 : 4 < n2 := by omega
 have p0 : 0 < n2 := by omega
 have pq : q < n2 := by omega
 have pr : r0 < n2 := by omega
 refine Zbf Ln ?_
 show DW _ _ _ _ _
 refine Zaa ?_
 refine stp Ln ?_
 refine Zba ?_
 refine lp (α := (Nat) × (List Dat) × (Nat) × (RT) × Nat) [0, 2, 4, 5, 6] (fun ⟨k, out, r, st, nx⟩ => (k ≤ (Zcb x (Zce x (Zce x (Zqb x (0, false)).2).2).2).1.toNat) ∧ (r < nx) ∧ (r ≠ 0 ∧ r ≠ 4 ∧ r ≠ q) ∧ (q < nx) ∧ (out.length ≤ k) ∧ (Zwh x (Zcb x (Zce x (Zce x (Zqb x (0, false)).2).2).2).1.toNat [] (Zcb x (Zce x (Zce x (Zqb x (0, false)).2).2).2).2 = Zwh x ((Zcb x (Zce x (Zce x (Zqb x (0, false)).2).2).2).1.toNat - k) out st) ∧ True) (fun ⟨k, out, r, st, nx⟩ => (Zcb x (Zce x (Zce x (Zqb x (0, false)).2).2).2).1.toNat - k) (fun ⟨k, out, r, st, nx⟩ => [(7, .i k)]) (fun ⟨k, out, r, st, nx⟩ => [(0, ⟨24, [[.v (.string (bs [])), .i 0, .i 0, .list true []]]⟩), (4, ⟨70, [[.list false (x.map bD), .i (st).1, .b (st).2]]⟩), (q, ⟨24, [[.v (.string (bs ((Zqb x (0, false)).1))), .i ((Zce x (Zqb x (0, false)).2).1), .i ((Zce x (Zce x (Zqb x (0, false)).2).2).1), .mrow r 0 out.length]]⟩), (r, ⟨45, out.map Dat.d⟩)]) (fun ⟨k, out, r, st, nx⟩ => nx) (0, [], r0, (Zcb x (Zce x (Zce x (Zqb x (0, false)).2).2).2).2, _) (hA := ⟨iv, iv, iv, iv, (by first | (simp) | (dsimp only; simp)), rfl, trivial⟩) (round := ?_)
 rintro ⟨k, out, r, st, nx⟩ ⟨hk, hr, hrn, hqn, ho, hv, -⟩
 show DW _ _ _ _ { n := _, t := tab _, h := _, nx := _, e := _ }
 simp only [List.cons_append, List.nil_append]
 have p4 : 4 < nx := by omega
 have p0 : 0 < nx := by omega
 have hb8 := (Zcb x (Zce x (Zce x (Zqb x (0, false)).2).2).2).1.toNat_lt
 have z0_r : (0 = r) = False := eq_false (by omega)
 have yr_0 : (r = 0) = False := eq_false (by omega)
 have z4_r : (4 = r) = False := eq_false (by omega)
 have yr_4 : (r = 4) = False := eq_false (by omega)
 have zq_r : (q = r) = False := eq_false (by omega)
 have yr_q : (r = q) = False := eq_false (by omega)
 have ff := And.intro @hr (And.intro @hqn (And.intro @p4 (And.intro @p0 (And.intro @z0_r (And.intro @yr_0 (And.intro @z4_r (And.intro @yr_4 (And.intro @zq_r (And.intro @yr_q ff)))))))))
 refine Zaa ?_
 refine stp Ln ?_
 refine cd (fun c1 => ?_) (fun c1 => ?_)
 ·
  have hk2 : k < (Zcb x (Zce x (Zce x (Zqb x (0, false)).2).2).2).1.toNat ∧ st.2 = false := by first | exact ⟨by omega, c1.2⟩ | (simp_all; done)
  refine dw_skip ?_
  show DW _ _ _ _ _
  refine Zaa ?_
  refine Zba ?_
  refine Zaa (Zcf Ln 1 (hct := by exact Zmx x st 4 _ _ hx (by simp only [go_sem, ff])) (hk := ?_))
  rintro res h2 n2 ⟨rfl, rfl, a5⟩
  try dsimp only at a5
  have p4 : 4 < n2 := by omega
  have p0 : 0 < n2 := by omega
  have pq : q < n2 := by omega
  have pr : r < n2 := by omega
  have ff := And.intro @p4 (And.intro @p0 (And.intro @pq (And.intro @pr ff)))
  refine Zbf Ln ?_
  show DW _ _ _ _ _
  obtain ⟨w, hw⟩ : ∃ w, w = n2 + 3 := ⟨_, rfl⟩
  simp only [← hw]
  have zw_r : (w = r) = False := eq_false (by omega)
  have yr_w : (r = w) = False := eq_false (by omega)
  have zw_q : (w = q) = False := eq_false (by omega)
  have yq_w : (q = w) = False := eq_false (by omega)
  have zw_4 : (w = 4) = False := eq_false (by omega)
  have y4_w : (4 = w) = False := eq_false (by omega)
  have zw_0 : (w = 0) = False := eq_false (by omega)
  have y0_w : (0 = w) = False := eq_false (by omega)
  have ff := And.intro @zw_r (And.intro @yr_w (And.intro @zw_q (And.intro @yq_w (And.intro @zw_4 (And.intro @y4_w (And.intro @zw_0 (And.intro @y0_w ff)))))))
  refine Zfg [0, 2, 4, 5, 6, 7, 8] [(0, ⟨24, [[.v (.string (bs [])), .i 0, .i 0, .list true []]]⟩), (4, ⟨70, [[.list false (x.map bD), .i ((Zqb x st).2).1, .b ((Zqb x st).2).2]]⟩), (q, ⟨24, [[.v (.string (bs ((Zqb x (0, false)).1))), .i ((Zce x (Zqb x (0, false)).2).1), .i ((Zce x (Zce x (Zqb x (0, false)).2).2).1), .mrow r 0 out.length]]⟩), (r, ⟨45, out.map Dat.d⟩), (w, ⟨45, [[.v (.string (bs (Zqb x st).1)), .i 0, .i 0]]⟩)] (by simp only [List.map_cons, List.map_nil, go_sem, ff]; exact rfl) (by first | (simp only [go_sem, ff]; done) | (simp [go_sem, ff]; done)) ?_
  show DW _ _ _ _ { n := _, t := tab _, h := _, nx := _, e := _ }
  refine Zaa (Zcf Ln 1 (hct := by exact Zui x (Zqb x st).2 4 _ _ hx (by simp only [go_sem, ff])) (hk := ?_))
  rintro res h2 n2 ⟨rfl, rfl, a6⟩
  try dsimp only at a6
  have pw : w < n2 := by omega
  have ff := And.intro @pw ff
  refine Zbf Ln ?_
  show DW _ _ _ _ _
  refine Zaa (Zcf Ln 1 (hct := by exact Zui x (Zce x (Zqb x st).2).2 4 _ _ hx (by simp only [go_sem, ff])) (hk := ?_))
  rintro res h2 n2 ⟨rfl, rfl, a7⟩
  try dsimp only at a7
  have pw : w < n2 := by omega
  have p4 : 4 < n2 := by omega
  have p0 : 0 < n2 := by omega
  have pq : q < n2 := by omega
  have pr : r < n2 := by omega
  have ff := And.intro @pw (And.intro @p4 (And.intro @p0 (And.intro @pq (And.intro @pr ff))))
  refine Zbf Ln ?_
  show DW _ _ _ _ _
  refine rgn Ln ?_
  show DW _ _ _ _ _
  refine rgn Ln ?_
  show ∃ _, _
  exact rnd (k + 1, out ++ [(Zqg x st).1], (n2 + 8), (Zqg x st).2, _) (h1 := ⟨iv, iv, iv, iv, (by first | (simp; omega) | (dsimp only; simp; omega)), (by (try dsimp only); rw [hv, Zc0 hk2.1 hk2.2]), trivial⟩) (h3 := by (try simp only [go_sem, ff]); all_goals (first | done | (simp; done) | (simp [Dat.d, Zqg]; done) | ((repeat' (with_reducible apply And.intro)) <;> first | rfl | (left; simp; done) | (simp [Dat.d, Zqg]; done)))) (h4 := by (try simp only [go_sem, ff]); all_goals (first | done | (simp; done) | (simp [Dat.d, Zqg]; done) | ((repeat' (with_reducible apply And.intro)) <;> first | rfl | (left; simp; done) | (simp [Dat.d, Zqg]; done)))) (h5 := by (try simp only [go_sem, ff]); all_goals (first | done | (simp; done) | (simp [Dat.d, Zqg]; done) | ((repeat' (with_reducible apply And.intro)) <;> first | rfl | (left; simp; done) | (simp [Dat.d, Zqg]; done))))
 ·
  have hk2 : ¬ (k < (Zcb x (Zce x (Zce x (Zqb x (0, false)).2).2).2).1.toNat ∧ st.2 = false) := by first | (intro q; simp_all; done) | (intro q; rcases c1 with c1 | c1; omega; rw [q.2] at c1; cases c1)
  have hset : Zlv x (0, false) = (⟨(Zqb x (0, false)).1, (Zce x (Zqb x (0, false)).2).1, (Zce x (Zce x (Zqb x (0, false)).2).2).1, out⟩, st) := by unfold Zlv; simp only; rw [hv, Zb0 hk2]
  refine Zja ?_
  show DW _ _ _ _ _
  refine Zaa ?_
  refine Zkf q 3 r (rows := out.map Dat.d) (off := 0) (len := out.length) (by simp only [go_sem, ff]; exact rfl) (by rfl) (by simp only [go_sem, ff]; exact rfl) (by omega) (by simp) Zyh ?_
  simp only [List.drop_zero, Zmd, List.set_cons_succ, List.set_cons_zero]
  refine stp Ln ?_ (hok := by (try simp only [go_sem, ff]); all_goals (first | done | ((repeat' (with_reducible apply And.intro)) <;> first | exact Zgd ⟨_, _, _, out⟩ | (intros; exact Zgd ⟨_, _, _, out⟩) | omega | skip)))
  refine cd (fun c9 => ?_) (fun c9 => ?_)
  ·
   refine stp Ln ?_
   refine Zca ?_
   exact fin 2 (hr := by (try simp only [go_sem, ff]); all_goals (rw [readR_no hset c9]; try rfl))
  ·
   refine dw_skip ?_
   show DW _ _ _ _ _
   refine stp Ln ?_
   refine Zca ?_
   exact fin 2 (hr := by (try simp only [go_sem, ff]); all_goals (rw [Zn2 hset c9]; try rfl))
set_option maxRecDepth 10000
theorem labelOkN : labelOk [] = false := by
 unfold labelOk
 simp
theorem nameOkN : nameOk [] = false := by
 rw [Zen, if_neg (by simp), if_neg (by simp), Ztc]
 simp [split, Zpi, labelOkN]
theorem Zyl (b : Str) (m : Int) (L r : Nat) (h : H) (n : Nat) (hL : L = b.length) (hr : h r = some ⟨5, b.map bD⟩) (hl : b.length ≤ 1000000) : RCt Tryd.prog 60 [.mrow r 0 L, .i m] h n (fun d h' n' => ∃ r', d = .mrow r' 0 (b ++ be8 m).length ∧ h' = upd (upd h r none) r' (some ⟨5, (b ++ be8 m).map bD⟩) ∧ n ≤ r' ∧ r' < n') := by
 subst hL
 exact rnum_ct b m r h n hr hl
theorem map_text {t : Str} : [.v (.int .u8 ((Zu0 t.length).toNat : Int))] :: List.map bD t = List.map bD (Zwb t) := rfl
theorem Zmo {d : Dat} {l : List Dat} {k : Nat} (h : k < l.length) (put : Bool) : withG d (l.drop k) put = (if !put && !less l[k]! d then [d] else []) ++ ((if l[k]! ≠ d then [l[k]!] else []) ++ withG d (l.drop (k + 1)) (put || !less l[k]! d)) := by
 rw [Zhm h, withG]
theorem one_le (x d : Dat) : (if x ≠ d then [x] else []).length ≤ 1 := by split <;> simp
theorem Zwj (d : Dat) : ∀ l : List Dat, (withG d l true).length ≤ l.length
 | [] => by simp [withG]
 | x :: r => by
  have h := Zwj d r
  have h1 := one_le x d
  rw [withG]
  simp only [Bool.not_true, Bool.false_and, Bool.true_or, Bool.false_eq_true, if_false, List.nil_append, List.length_append, List.length_cons]
  omega
theorem Zds (d : Dat) : ∀ (l : List Dat) (put : Bool), (withG d l put).length ≤ l.length + 1
 | [], put => by rw [withG]; split <;> simp
 | x :: r, true => by have := Zwj d (x :: r); omega
 | x :: r, false => by
  have h := Zds d r false
  have h1 := one_le x d
  have h2 := Zwj d r
  rw [withG]
  cases less x d
  ·
   simp only [Bool.not_false, Bool.true_and, Bool.or_true, if_true, List.cons_append, List.nil_append, List.length_append, List.length_cons]
   omega
  ·
   simp only [Bool.not_false, Bool.not_true, Bool.and_false, Bool.or_false, Bool.false_eq_true, if_false, List.nil_append, List.length_append, List.length_cons]
   omega
theorem bo25 : Zea Tryd.prog 25 = true := by kernel_rfl
theorem rwith_ct (l : List Dat) (d : Dat) (hl : l.length ≤ 1000) : PureCt Tryd.prog 25 [.list false (l.map Dat.d), .agg d.d] (.list false ((withG d l false).map Dat.d)) := by
 refine Zda Tryd.func25 rfl bo25 (by simp [go_sem, D.nr, nrs, nrr]) (by simp [Tryd.f25]) ?_
 unfold Tryd.f25
 simp only [Zia]
 have ff := True.intro
 refine stp Ln ?_
 refine stp Ln ?_
 refine stp Ln ?_
 refine Zaa ?_
 refine stp Ln ?_
 refine Zba ?_
 refine Zrn 5 45 (by simp only [go_sem, ff]) (by simp only [go_sem, ff]) ?_
 refine lp (α := (Nat) × (List Dat) × (Bool) × (Nat) × Nat) [0, 3] (fun ⟨k, out, put, r, nx⟩ => (k ≤ l.length) ∧ (r < nx) ∧ (0 < r) ∧ (out.length ≤ 2 * k) ∧ (withG d l false = out ++ withG d (l.drop k) put) ∧ True) (fun ⟨k, out, put, r, nx⟩ => l.length - k) (fun ⟨k, out, put, r, nx⟩ => [(5, .mrow r 0 out.length), (6, .b put), (7, .i k)]) (fun ⟨k, out, put, r, nx⟩ => [(0, ⟨45, [d.d]⟩), (r, ⟨45, (out).map Dat.d⟩)]) (fun ⟨k, out, put, r, nx⟩ => nx) (0, [], false, 5, _) (hA := ⟨iv, iv, iv, (by first | (simp) | (dsimp only; simp)), rfl, trivial⟩) (round := ?_)
 rintro ⟨k, out, put, r, nx⟩ ⟨hk, hr, hr0, ho, hv, -⟩
 show DW _ _ _ _ { n := _, t := tab _, h := _, nx := _, e := _ }
 simp only [List.cons_append, List.nil_append]
 have z0_r : (0 = r) = False := eq_false (by omega)
 have yr_0 : (r = 0) = False := eq_false (by omega)
 have ff := And.intro @hr (And.intro @z0_r (And.intro @yr_0 ff))
 refine Zaa ?_
 refine stp Ln ?_
 refine cd (fun c1 => ?_) (fun c1 => ?_)
 ·
  have hk2 : k < l.length := by omega
  have ff := And.intro (Zpc hk2) ff
  refine dw_skip ?_
  show DW _ _ _ _ _
  refine Zaa ?_
  refine Zba ?_
  refine jn (α := (List Dat) × (Bool) × (Nat) × Nat) [0, 3, 7] (fun ⟨o1, p1, r1, nx⟩ => (r1 < nx) ∧ (0 < r1) ∧ (o1.length ≤ 2 * k + 1) ∧ (withG d l false = o1 ++ ((if l[k]! ≠ d then [l[k]!] else []) ++ withG d (l.drop (k + 1)) p1)) ∧ True) (fun ⟨o1, p1, r1, nx⟩ => [(5, .mrow r1 0 o1.length), (6, .b p1)]) (fun ⟨o1, p1, r1, nx⟩ => [(0, ⟨45, [d.d]⟩), (r1, ⟨45, (o1).map Dat.d⟩)]) (fun ⟨o1, p1, r1, nx⟩ => nx) ?_ ?_
  ·
   refine stp Ln ?_ (hok := by (try simp only [go_sem, ff]); all_goals (first | done | ((repeat' (with_reducible apply And.intro)) <;> first | omega | exact Zam _ _ | (intros; exact Zam _ _) | (intros; simp_all; done) | (intros; omega))))
   refine cd (fun c2 => ?_) (fun c2 => ?_)
   ·
    refine stp Ln ?_
    refine rgn Ln ?_
    show ∃ _, _
    exact rnj (out ++ [d], true, (nx + 18), _) (h1 := ⟨(by first | (omega) | (dsimp only; omega)), (by first | (omega) | (dsimp only; omega)), (by (try dsimp only); rw [List.length_append]; simp; omega), (by (try dsimp only); rw [hv, Zmo hk2, c2.1, show less l[k]! d = false from c2.2]; simp), trivial⟩) (h3 := by (try simp only [go_sem, ff]); all_goals (first | done | (simp; done) | (simp [Dat.d]; done) | ((repeat' (with_reducible apply And.intro)) <;> first | rfl | (left; simp; done) | (simp [Dat.d]; done) | (left; simp [Dat.d]; done)))) (h4 := by (try simp only [go_sem, ff]); all_goals (first | done | (simp; done) | (simp [Dat.d]; done) | ((repeat' (with_reducible apply And.intro)) <;> first | rfl | (left; simp; done) | (simp [Dat.d]; done) | (left; simp [Dat.d]; done)))) (h5 := by (try simp only [go_sem, ff]); all_goals (first | done | (simp; done) | (simp [Dat.d]; done) | ((repeat' (with_reducible apply And.intro)) <;> first | rfl | (left; simp; done) | (simp [Dat.d]; done) | (left; simp [Dat.d]; done))))
   ·
    refine dw_skip ?_
    show ∃ _, _
    exact rnj (out, put, r, _) (h1 := ⟨(by first | (omega) | (dsimp only; omega)), (by first | (omega) | (dsimp only; omega)), (by first | (omega) | (dsimp only; omega)), (by (try dsimp only); rw [hv, Zmo hk2]; rcases c2 with c2 | c2; rw [c2]; rfl; rw [show less l[k]! d = true from c2]; cases put <;> rfl), trivial⟩) (h3 := by (try simp only [go_sem, ff]); all_goals (first | done | (simp; done) | (simp [Dat.d]; done) | ((repeat' (with_reducible apply And.intro)) <;> first | rfl | (left; simp; done) | (simp [Dat.d]; done) | (left; simp [Dat.d]; done)))) (h4 := by (try simp only [go_sem, ff]); all_goals (first | done | (simp; done) | (simp [Dat.d]; done) | ((repeat' (with_reducible apply And.intro)) <;> first | rfl | (left; simp; done) | (simp [Dat.d]; done) | (left; simp [Dat.d]; done)))) (h5 := by (try simp only [go_sem, ff]); all_goals (first | done | (simp; done) | (simp [Dat.d]; done) | ((repeat' (with_reducible apply And.intro)) <;> first | rfl | (left; simp; done) | (simp [Dat.d]; done) | (left; simp [Dat.d]; done))))
  rintro ⟨o1, p1, r1, nx⟩ ⟨hr1, hr10, ho1, hw, -⟩
  show DW _ _ _ _ { n := _, t := tab _, h := _, nx := _, e := _ }
  simp only [List.cons_append, List.nil_append]
  have z0_r1 : (0 = r1) = False := eq_false (by omega)
  have yr1_0 : (r1 = 0) = False := eq_false (by omega)
  have ff := And.intro @hr1 (And.intro @z0_r1 (And.intro @yr1_0 ff))
  refine stp Ln ?_
  refine cd (fun c3 => ?_) (fun c3 => ?_)
  ·
   have hne : l[k]! ≠ d := Zqw c3
   refine rgn Ln ?_
   show DW _ _ _ _ _
   refine rgn Ln ?_
   show ∃ _, _
   exact rnd (k + 1, o1 ++ [l[k]!], p1, (nx + 12), _) (h1 := ⟨iv, iv, (by first | (omega) | (dsimp only; omega)), (by (try dsimp only); rw [List.length_append]; simp; omega), (by first | (rw [hw, if_pos hne]; simp) | (dsimp only; rw [hw, if_pos hne]; simp)), trivial⟩) (h3 := by (try simp only [go_sem, ff]); all_goals (first | done | (simp; done) | (simp [Dat.d]; done) | ((repeat' (with_reducible apply And.intro)) <;> first | rfl | (left; simp; done) | (simp [Dat.d]; done) | (left; simp [Dat.d]; done)))) (h4 := by (try simp only [go_sem, ff]); all_goals (first | done | (simp; done) | (simp [Dat.d]; done) | ((repeat' (with_reducible apply And.intro)) <;> first | rfl | (left; simp; done) | (simp [Dat.d]; done) | (left; simp [Dat.d]; done)))) (h5 := by (try simp only [go_sem, ff]); all_goals (first | done | (simp; done) | (simp [Dat.d]; done) | ((repeat' (with_reducible apply And.intro)) <;> first | rfl | (left; simp; done) | (simp [Dat.d]; done) | (left; simp [Dat.d]; done))))
  ·
   have hne : ¬ l[k]! ≠ d := fun q => q (Zrw (by grind))
   refine dw_skip ?_
   show DW _ _ _ _ _
   refine rgn Ln ?_
   show ∃ _, _
   exact rnd (k + 1, o1, p1, r1, _) (h1 := ⟨iv, iv, iv, (by first | (omega) | (dsimp only; omega)), (by first | (rw [hw, if_neg hne]; simp) | (dsimp only; rw [hw, if_neg hne]; simp)), trivial⟩) (h3 := by (try simp only [go_sem, ff]); all_goals (first | done | (simp; done) | (simp [Dat.d]; done) | ((repeat' (with_reducible apply And.intro)) <;> first | rfl | (left; simp; done) | (simp [Dat.d]; done) | (left; simp [Dat.d]; done)))) (h4 := by (try simp only [go_sem, ff]); all_goals (first | done | (simp; done) | (simp [Dat.d]; done) | ((repeat' (with_reducible apply And.intro)) <;> first | rfl | (left; simp; done) | (simp [Dat.d]; done) | (left; simp [Dat.d]; done)))) (h5 := by (try simp only [go_sem, ff]); all_goals (first | done | (simp; done) | (simp [Dat.d]; done) | ((repeat' (with_reducible apply And.intro)) <;> first | rfl | (left; simp; done) | (simp [Dat.d]; done) | (left; simp [Dat.d]; done))))
 ·
  have hk3 : k = l.length := by omega
  rw [hk3, List.drop_length, withG] at hv
  refine Zja ?_
  show DW _ _ _ _ _
  refine jn (α := (List Dat) × (Nat) × Nat) [] (fun ⟨o2, r2, nx⟩ => (r2 < nx) ∧ (withG d l false = o2) ∧ True) (fun ⟨o2, r2, nx⟩ => [(5, .mrow r2 0 o2.length)]) (fun ⟨o2, r2, nx⟩ => [(r2, ⟨45, (o2).map Dat.d⟩)]) (fun ⟨o2, r2, nx⟩ => nx) ?_ ?_
  ·
   refine stp Ln ?_
   refine cd (fun c4 => ?_) (fun c4 => ?_)
   ·
    refine rgn Ln ?_
    show ∃ _, _
    exact rnj (out ++ [d], (nx + 9), _) (h1 := ⟨(by first | (omega) | (dsimp only; omega)), (by first | (rw [hv]; simp_all) | (dsimp only; rw [hv]; simp_all)), trivial⟩) (h3 := by (try simp only [go_sem, ff]); all_goals (first | done | (simp; done) | (simp [Dat.d]; done) | ((repeat' (with_reducible apply And.intro)) <;> first | rfl | (left; simp; done) | (simp [Dat.d]; done) | (left; simp [Dat.d]; done)))) (h4 := by (try simp only [go_sem, ff]); all_goals (first | done | (simp; done) | (simp [Dat.d]; done) | ((repeat' (with_reducible apply And.intro)) <;> first | rfl | (left; simp; done) | (simp [Dat.d]; done) | (left; simp [Dat.d]; done)))) (h5 := by (try simp only [go_sem, ff]); all_goals (first | done | (simp; done) | (simp [Dat.d]; done) | ((repeat' (with_reducible apply And.intro)) <;> first | rfl | (left; simp; done) | (simp [Dat.d]; done) | (left; simp [Dat.d]; done))))
   ·
    refine dw_skip ?_
    show ∃ _, _
    exact rnj (out, r, _) (h1 := ⟨(by first | (omega) | (dsimp only; omega)), (by first | (rw [hv]; simp_all) | (dsimp only; rw [hv]; simp_all)), trivial⟩) (h3 := by (try simp only [go_sem, ff]); all_goals (first | done | (simp; done) | (simp [Dat.d]; done) | ((repeat' (with_reducible apply And.intro)) <;> first | rfl | (left; simp; done) | (simp [Dat.d]; done) | (left; simp [Dat.d]; done)))) (h4 := by (try simp only [go_sem, ff]); all_goals (first | done | (simp; done) | (simp [Dat.d]; done) | ((repeat' (with_reducible apply And.intro)) <;> first | rfl | (left; simp; done) | (simp [Dat.d]; done) | (left; simp [Dat.d]; done)))) (h5 := by (try simp only [go_sem, ff]); all_goals (first | done | (simp; done) | (simp [Dat.d]; done) | ((repeat' (with_reducible apply And.intro)) <;> first | rfl | (left; simp; done) | (simp [Dat.d]; done) | (left; simp [Dat.d]; done))))
  rintro ⟨o2, r2, nx⟩ ⟨hr2, hw2, -⟩
  show DW _ _ _ _ { n := _, t := tab _, h := _, nx := _, e := _ }
  simp only [List.cons_append, List.nil_append]
  have ff := And.intro @hr2 ff
  refine stp Ln ?_
  refine Zca ?_
  exact fin 1 (hr := by (try simp only [go_sem, ff]); all_goals (first | rfl | (rw [hw2]; rfl) | (rw [hw2])))
theorem bo39 : Zea Tryd.prog 39 = true := by kernel_rfl
theorem Zj2 (s : RSet) (hs : Zqk s) : PureCt Tryd.prog 39 [.agg s.d] (.list false ((setB s).map bD)) := by
 refine Zda Tryd.func39 rfl bo39 (by simp [go_sem, D.nr, nrs, nrr]) (by simp [Tryd.f39]) ?_
 unfold Tryd.f39
 simp only [Zia]
 have ff := True.intro
 have hl8 := hs.len
 have hn60 := Zcc hs.name
 have hne : s.name ≠ [] := by intro e; have h := hs.name; rw [e, nameOkN] at h; cases h
 refine stp Ln ?_
 refine stp Ln ?_
 refine stp Ln ?_ (hok := by (try simp only [go_sem, ff]); all_goals (exact ⟨by omega, fun h => hne (List.map_eq_nil_iff.1 h)⟩))
 try simp only [map_text]
 refine Zfg [1, 3] [(0, ⟨24, [s.d]⟩), (11, ⟨5, (Zwb s.name).map bD⟩)] (by simp only [List.map_cons, List.map_nil, go_sem, ff]; exact rfl) (by first | (simp only [go_sem, ff]; done) | (simp [go_sem, ff]; done)) ?_
 show DW _ _ _ _ { n := _, t := tab _, h := _, nx := _, e := _ }
 refine dr1q Ln 3 6 [(5, 18)] (hct := by exact Zyl (Zwb s.name) s.ty _ 11 _ _ (by simp only [List.length_append, Zva, Zab, List.length_cons, List.length_nil]; first | done | omega) (by simp only [go_sem, ff]) (by simp only [List.length_append, Zva, Zab]; omega)) (hkeep := ?_) (hk := ?_)
 ·
  rintro res h2 n2 ⟨r1, rfl, rfl, a1, b1⟩ q hq r hrr
  try dsimp only at a1 b1
  simp only [List.mem_singleton] at hq; subst hq
  simp only [go_sem, ff, sd, named, beq_iff_eq] at hrr ⊢; subst hrr; simp only [upd]; (repeat rw [if_neg (by omega)])
 rintro res h2 n2 ⟨r1, rfl, rfl, a1, b1⟩
 try dsimp only at a1 b1
 have z0r1 : (0 = r1) = False := eq_false (by omega)
 have zr10 : (r1 = 0) = False := eq_false (by omega)
 have ff := And.intro z0r1 (And.intro zr10 ff)
 refine Zxl (C := Ln) 6 (R := _) (by omega) (Zdh rfl) rfl rfl (by simp only [List.drop_succ_cons, List.drop_zero, List.take_succ_cons, List.take_zero, S.put, Nat.sub_self, go_sem, ff]; first | done | exact rfl) ?_ ?_ (by simp only [go_sem, ff]; first | done | exact rfl) (by simp only [go_sem, ff]) (by simp only [go_sem, ff]; first | done | exact rfl) (by exact Zyl (Zwb s.name ++ be8 s.ty) s.life _ r1 _ _ (by simp only [List.length_append, Zva, Zab, List.length_cons, List.length_nil]; first | done | omega) (by simp only [go_sem, ff]) (by simp only [List.length_append, Zva, Zab]; omega)) ?_
 ·
  try simp only [go_sem, ff]
  all_goals exact ok0
 ·
  try simp only [go_sem, ff]
  all_goals (first | done | rfl | decide | simp)
 rintro res h3 n3 ⟨r2, rfl, rfl, a2, b2⟩
 try dsimp only at a2 b2
 have z0r2 : (0 = r2) = False := eq_false (by omega)
 have zr20 : (r2 = 0) = False := eq_false (by omega)
 have zr1r2 : (r1 = r2) = False := eq_false (by omega)
 have zr2r1 : (r2 = r1) = False := eq_false (by omega)
 have ff := And.intro z0r2 (And.intro zr20 (And.intro zr1r2 (And.intro zr2r1 (And.intro b2 ff))))
 refine gdone Ln ?_
 try simp only [Zed]
 refine Zfg [1, 3] [(0, ⟨24, [s.d]⟩), (r2, ⟨5, (Zwb s.name ++ be8 s.ty ++ be8 s.life).map bD⟩)] (by simp only [List.map_cons, List.map_nil, go_sem, ff]; exact rfl) (by first | (simp only [go_sem, ff]; done) | (simp [go_sem, ff]; done)) ?_
 show DW _ _ _ _ { n := _, t := tab _, h := _, nx := _, e := _ }
 refine stp Ln ?_ (hok := by (try simp only [go_sem, ff, Zva, Zab, List.length_append]); all_goals (exact ok0))
 refine Zaa ?_
 refine stp Ln ?_
 refine Zba ?_
 refine lp (α := (Nat) × (Str) × (Nat) × Nat) [1] (fun ⟨k, out, r, nx⟩ => (k ≤ s.data.length) ∧ (r < nx) ∧ (0 < r) ∧ (out.length ≤ 1000 + k * 300) ∧ (out ++ (s.data.drop k).flatMap datB = setB s) ∧ True) (fun ⟨k, out, r, nx⟩ => s.data.length - k) (fun ⟨k, out, r, nx⟩ => [(3, .mrow r 0 out.length), (4, .i k)]) (fun ⟨k, out, r, nx⟩ => [(0, ⟨24, [s.d]⟩), (r, ⟨5, (out).map bD⟩)]) (fun ⟨k, out, r, nx⟩ => nx) (0, Zwb s.name ++ be8 s.ty ++ be8 s.life ++ [Zu0 s.data.length], (n3 + 14), _) (hA := ⟨iv, iv, (by first | (omega) | (dsimp only; omega)), (by first | (simp [Zwb, Zab]; omega) | (dsimp only; simp [Zwb, Zab]; omega)), (by first | (simp [setB]) | (dsimp only; simp [setB])), trivial⟩) (round := ?_)
 rintro ⟨k, out, r, nx⟩ ⟨hk, hr, hr0, ho, hv, -⟩
 show DW _ _ _ _ { n := _, t := tab _, h := _, nx := _, e := _ }
 simp only [List.cons_append, List.nil_append]
 have n0 : 0 < nx := by omega
 have z0_r : (0 = r) = False := eq_false (by omega)
 have yr_0 : (r = 0) = False := eq_false (by omega)
 have ff := And.intro @hr (And.intro @n0 (And.intro @z0_r (And.intro @yr_0 ff)))
 refine Zaa ?_
 refine stp Ln ?_
 refine cd (fun c1 => ?_) (fun c1 => ?_)
 ·
  have hk2 : k < s.data.length := by omega
  have hd := (Zuy hs.ty (hs.dat _ (List.getElem_mem hk2))).2.1
  rw [← getElem!_pos s.data k hk2] at hd
  have ff := And.intro (Zpc hk2) ff
  refine dw_skip ?_
  show DW _ _ _ _ _
  refine Zaa ?_
  refine Zba ?_
  refine stp Ln ?_ (hok := by (try simp only [go_sem, ff, Zva, Zab, List.length_append]); all_goals (exact ok0))
  refine stp Ln ?_ (hok := by (try simp only [go_sem, ff, Zva, Zab, List.length_append]); all_goals (exact ok0))
  obtain ⟨q0, hq0⟩ : ∃ q, q = (nx + 24) := ⟨_, rfl⟩
  simp only [← hq0, Zvo]
  have z0q0 : (0 = q0) = False := eq_false (by omega)
  have zq00 : (q0 = 0) = False := eq_false (by omega)
  have ff := And.intro @z0q0 (And.intro @zq00 ff)
  refine Zfg [1, 3, 4] [(0, ⟨24, [s.d]⟩), (q0, ⟨5, (out ++ Zwb s.data[k]!.t).map bD⟩)] (by simp only [List.map_cons, List.map_nil, go_sem, ff]; exact rfl) (by first | (simp only [go_sem, ff]; done) | (simp [go_sem, ff]; done)) ?_
  show DW _ _ _ _ { n := _, t := tab _, h := _, nx := _, e := _ }
  refine dr1 Ln 7 14 [(9, 62), (11, 63), (11, 64), (13, 66)] (hct := by exact Zyl (out ++ Zwb s.data[k]!.t) s.data[k]!.n _ q0 _ _ (by simp only [List.length_append, Zva, Zab, List.length_cons, List.length_nil]; first | done | omega) (by simp only [go_sem, ff]) (by simp only [List.length_append, Zva, Zab]; omega)) (hkeep := ?_) (hk := ?_)
  ·
   rintro res h2 n2 ⟨r1, rfl, rfl, a1, b1⟩ q hq r hrr
   try dsimp only at a1 b1
   simp only [List.mem_cons, List.not_mem_nil, or_false] at hq; rcases hq with rfl | rfl | rfl | rfl
   ·
    simp only [go_sem, ff, sd, named, beq_iff_eq] at hrr ⊢; subst hrr; simp only [upd]; (repeat rw [if_neg (by omega)])
   all_goals (simp [go_sem, ff, sd, named] at hrr)
  rintro res h2 n2 ⟨r1, rfl, rfl, a1, b1⟩
  try dsimp only at a1 b1
  have z0r1 : (0 = r1) = False := eq_false (by omega)
  have zr10 : (r1 = 0) = False := eq_false (by omega)
  have ff := And.intro z0r1 (And.intro zr10 ff)
  refine Zxl (C := Ln) 14 (R := _) (by omega) (Zdh rfl) rfl rfl (by simp only [List.drop_succ_cons, List.drop_zero, List.take_succ_cons, List.take_zero, S.put, Nat.sub_self, go_sem, ff]; first | done | exact rfl) ?_ ?_ (by simp only [go_sem, ff]; first | done | exact rfl) (by simp only [go_sem, ff]) (by simp only [go_sem, ff]; first | done | exact rfl) (by exact Zyl (out ++ Zwb s.data[k]!.t ++ be8 s.data[k]!.n) s.data[k]!.m _ r1 _ _ (by simp only [List.length_append, Zva, Zab, List.length_cons, List.length_nil]; first | done | omega) (by simp only [go_sem, ff]) (by simp only [List.length_append, Zva, Zab]; omega)) ?_
  ·
   try simp only [go_sem, ff]
   all_goals exact ok0
  ·
   try simp only [go_sem, ff]
   all_goals (first | done | rfl | decide | simp)
  rintro res h3 n3 ⟨r2, rfl, rfl, a2, b2⟩
  try dsimp only at a2 b2
  have z0r2 : (0 = r2) = False := eq_false (by omega)
  have zr20 : (r2 = 0) = False := eq_false (by omega)
  have zr1r2 : (r1 = r2) = False := eq_false (by omega)
  have zr2r1 : (r2 = r1) = False := eq_false (by omega)
  have ff := And.intro z0r2 (And.intro zr20 (And.intro zr1r2 (And.intro zr2r1 (And.intro b2 ff))))
  refine gdone Ln ?_
  try simp only [Zed]
  show DW _ _ _ _ _
  refine rgn Ln ?_
  show ∃ _, _
  exact rnd (k + 1, out ++ Zwb s.data[k]!.t ++ be8 s.data[k]!.n ++ be8 s.data[k]!.m, r2, _) (h1 := ⟨iv, iv, (by first | (omega) | (dsimp only; omega)), (by (try dsimp only); simp only [List.length_append, Zva, Zab]; omega), (by (try dsimp only); rw [← hv, Zhm hk2]; simp [datB]), trivial⟩)
 ·
  refine Zja ?_
  show DW _ _ _ _ _
  refine stp Ln ?_
  refine Zca ?_
  exact fin 1 (hr := by (try simp only [go_sem, ff]); all_goals (rw [List.drop_eq_nil_of_le (by omega)] at hv; simp at hv; simp [hv]))
theorem bo14 : Zea Tryd.prog 14 = true := by kernel_rfl
theorem Zwz (s : RSet) : PureCt Tryd.prog 14 [.agg s.d] (.tuple [.list false ((bytesF s).1.map bD), .i (bytesF s).2]) := by
 refine Zda Tryd.func14 rfl bo14 (by simp [go_sem, D.nr, nrs, nrr]) (by simp [Tryd.f14]) ?_
 unfold Tryd.f14
 simp only [Zia]
 have ff := True.intro
 refine stp Ln ?_
 refine Zaa ?_
 refine stp Ln ?_ (hok := by (try simp only [go_sem, ff]); all_goals (exact Zgd _))
 refine cd (fun c1 => ?_) (fun c1 => ?_)
 ·
  refine stp Ln ?_
  refine Zca ?_
  exact fin 2 (hr := by (try simp only [go_sem, ff]); all_goals (simp [bytesF, c1]))
 ·
  have hs := (Zxb s).1 c1
  refine dw_skip ?_
  show DW _ _ _ _ _
  refine stp Ln ?_ (hok := by (try simp only [go_sem, ff]); all_goals (exact Zj2 _ hs))
  refine Zca ?_
  exact fin 2 (hr := by (try simp only [go_sem, ff]); all_goals (simp [bytesF, c1]))
set_option maxRecDepth 10000
theorem dw_wkb {P : Program} [Glob P] {ro : Option Nat} {Q : Exit → S → Prop} {c : Code} {s : S} (r : Nat) {ty : TypeId} {rows : List (List D)} (rows' : List (List D)) (hr : s.h r = some ⟨ty, rows⟩) (he : wkr rows = rows') (h : DW P ro c Q { n := s.n, t := s.t, h := upd s.h r (some ⟨ty, rows'⟩), nx := s.nx, e := s.e }) : DW P ro c Q s := by
 subst he
 intro B g a w hs hU
 have hm := HM.recell2 (rows' := wkr rows) hs.mem hs.mem (Mono.refl g w) hr hr (by rw [Ztj, List.length_map]) (fun i row' hi => by
  rw [Ztj] at hi
  obtain ⟨row, h1, rfl⟩ := Zlc hi
  refine ⟨row, h1, by rw [Zue, List.length_map], fun j d' hd => ?_⟩
  rw [Zue] at hd
  obtain ⟨d, h2, rfl⟩ := Zlc hd
  exact ⟨d, h2, fun v hv => hv.wk⟩)
 exact h B g a w ⟨hs.sz, fun j => hs.tm j, hm, hs.df, hs.en, hs.bd⟩ hU
theorem Zr1 (a : List RSet) (x : RSet) : wkr (List.map RSet.d a ++ [[.v (.string (bs x.name)), .i x.ty, .i x.life, .list true []]]) = (a ++ [(⟨x.name, x.ty, x.life, []⟩ : RSet)]).map RSet.d := by
 rw [Ztj, List.map_append, ← Ztj, wkr_set, List.map_append]
 rfl
theorem canon_len (l : List Dat) : (canon l).length ≤ l.length := by
 have one : ∀ (a : List Dat) (x : Dat), (ins datC keepD a x).length ≤ a.length + 1 := by
  intro a x
  induction a with
  | nil => simp [ins]
  | cons y r ih => rw [ins]; split <;> (try split) <;> simp <;> omega
 have key : ∀ (l acc : List Dat), (l.foldl (ins datC keepD) acc).length ≤ acc.length + l.length := by
  intro l
  induction l with
  | nil => intro acc; simp
  | cons x l ih => intro acc; have h1 := ih (ins datC keepD acc x); have h2 := one acc x; simp only [List.foldl_cons, List.length_cons]; omega
 have := key l []
 unfold canon
 simpa using this
theorem Zzt {l : List RSet} (h : ∀ x ∈ l, Zqk x) : ∀ y ∈ Zvd l, y.data.length ≤ 8 * l.length := by
 have one : ∀ (B : Nat) (x : RSet), x.data.length ≤ 8 → ∀ (a : List RSet), (∀ y ∈ a, y.data.length ≤ B) → ∀ y ∈ ins plc mR a x, y.data.length ≤ B + 8 := by
  intro B x hx a
  induction a with
  | nil =>
       intro _ y hy; have : y = x := by simpa [ins] using hy
       rw [this]; omega
  | cons z r ih =>
   intro ha y hy
   have hr : ∀ y ∈ r, y.data.length ≤ B := fun y hy => ha y (by simp [hy])
   have hz := ha z (by simp)
   rw [ins] at hy
   split at hy
   ·
    rcases List.mem_cons.1 hy with e | e
    ·
     rw [e]; omega
    ·
     exact ih hr y e
   ·
    split at hy
    ·
     rcases List.mem_cons.1 hy with e | e
     ·
      rw [e]; omega
     ·
      have := ha y e; omega
    ·
     rcases List.mem_cons.1 hy with e | e
     ·
      rw [e]
      have := canon_len (z.data ++ x.data)
      rw [List.length_append] at this
      show (canon (z.data ++ x.data)).length ≤ _
      omega
     ·
      have := hr y e; omega
 have key : ∀ (l acc : List RSet) (B : Nat), (∀ x ∈ l, x.data.length ≤ 8) → (∀ y ∈ acc, y.data.length ≤ B) → ∀ y ∈ l.foldl (ins plc mR) acc, y.data.length ≤ B + 8 * l.length := by
  intro l
  induction l with
  | nil => intro acc B _ h y hy; have := h y hy; simpa using this
  | cons x l ih =>
   intro acc B hl ha y hy
   have := ih (ins plc mR acc x) (B + 8) (fun z hz => hl z (by simp [hz])) (one B x (hl x (by simp)) acc ha) y hy
   simp only [List.length_cons]
   omega
 intro y hy
 have := key l [] 0 (fun x hx => by have := (h x hx).len; omega) (fun y hy => by cases hy) y hy
 omega
theorem Zpa {s : List RSet} {p : Nat} (z : RSet) : (s.map RSet.d).set p [.v (.string (bs z.name)), .i z.ty, .i z.life, .list false (z.data.map Dat.d)] = (s.set p z).map RSet.d := by
 rw [List.map_set]; rfl
theorem Zna {s : List RSet} {p : Nat} {z0 : RSet} (z : RSet) : ((s.set p z0).map RSet.d).set p [.v (.string (bs z.name)), .i z.ty, .i z.life, .list false (z.data.map Dat.d)] = (s.set p z).map RSet.d := by
 rw [Zpa, List.set_set]
theorem row_self {s : List RSet} {p : Nat} (z : RSet) (hp : p < s.length) : ((s.set p z).map RSet.d).getD p [] = [.v (.string (bs z.name)), .i z.ty, .i z.life, .list false (z.data.map Dat.d)] := by
 rw [Zkc (by simpa using hp), getElem!_pos _ p (by simpa using hp), List.getElem_set_self]
theorem Zme {A B : List RSet} {x : RSet} {p : Nat} (hl : A.length = p) (hx : Zjb datC x.data) :
  (A ++ (⟨x.name, x.ty, x.life, []⟩ : RSet) :: B)[p]! = ⟨x.name, x.ty, x.life, []⟩ ∧ (A ++ (⟨x.name, x.ty, x.life, []⟩ : RSet) :: B).set p (mR ⟨x.name, x.ty, x.life, []⟩ x) = A ++ x :: B := by
 refine ⟨Zpb hl.symm, ?_⟩
 rw [List.set_append_right _ _ (by omega), hl, Nat.sub_self, List.set_cons_zero]
 have : mR ⟨x.name, x.ty, x.life, []⟩ x = x := by
  unfold mR
  simp only [List.nil_append, Int.min_self]
  rw [Zmf hx]
 rw [this]
theorem Zeq {d r : List Dat} {e : Dat} (hd : Zjb datC d) : canon (d ++ e :: r) = canon (withG e d false ++ r) ∧ Zjb datC (withG e d false) := by
 rw [Zes hd]
 have h : ins datC keepD d e = canon (d ++ [e]) := by
  have := Zh1 (a := d) (b := [e]) hd
  exact this
 rw [h]
 refine ⟨?_, Zse _⟩
 rw [Zxn]
 simp
theorem Zw4 {out : List RSet} {m : Nat} (hm : m < out.length) : chk (out.drop m) = if (Zza out[m]!.ty.toNat).single = true ∧ 1 < out[m]!.data.length then 35 else if 8 < out[m]!.data.length then 2 else chk (out.drop (m + 1)) := by
 rw [List.drop_eq_getElem_cons hm, Zzy, getElem!_pos out m hm]
theorem Zgn {l : List RSet} {v : Int} (ha : l.all setOk = true) (h : chk (Zvd l) = v) : mergeR l = if v = 0 then (Zvd l, 0) else ([], v) := by
 unfold mergeR
 rw [ha, h]; rfl
theorem bo9 : Zea Tryd.prog 9 = true := by kernel_rfl
theorem Zvz (l : List RSet) (hl : l.length ≤ 100) : PureCt Tryd.prog 9 [.list false (l.map RSet.d)] (.tuple [.list false ((mergeR l).1.map RSet.d), .i (mergeR l).2]) := by
 refine Zda Tryd.func9 rfl bo9 (by simp [go_sem, D.nr, nrs, nrr]) (by simp [Tryd.f9]) ?_
 unfold Tryd.f9
 simp only [Zia]
 have ff := True.intro
 refine stp Ln ?_
 refine stp Ln ?_
 refine Zaa ?_
 refine stp Ln ?_
 refine Zba ?_
 refine lp (α := (Nat) × Nat) [0, 4] (fun ⟨k, nx⟩ => (k ≤ l.length) ∧ (∀ i, i < k → setOk l[i]! = true) ∧ True) (fun ⟨k, nx⟩ => l.length - k) (fun ⟨k, nx⟩ => [(5, .i k)]) (fun ⟨k, nx⟩ => []) (fun ⟨k, nx⟩ => nx) (0, _) (hA := ⟨iv, (by first | (intro i hi; omega) | (dsimp only; intro i hi; omega)), trivial⟩) (round := ?_)
 rintro ⟨k, nx⟩ ⟨hk, hv, -⟩
 show DW _ _ _ _ { n := _, t := tab _, h := _, nx := _, e := _ }
 simp only [List.cons_append, List.nil_append]
 refine Zaa ?_
 refine stp Ln ?_
 refine cd (fun c1 => ?_) (fun c1 => ?_)
 ·
  have hk2 : k < l.length := by omega
  have ff := And.intro (Zkc hk2) ff
  refine dw_skip ?_
  show DW _ _ _ _ _
  refine Zaa ?_
  refine Zba ?_
  refine stp Ln ?_ (hok := by (try simp only [go_sem, ff]); all_goals (first | done | (refine ⟨by omega, ?_⟩; exact Zgd l[k]!)))
  refine cd (fun c2 => ?_) (fun c2 => ?_)
  ·
   refine stp Ln ?_
   refine Zca ?_
   exact fin 2 (hr := by (try simp only [go_sem, ff]); all_goals (rw [mergeR, not_ok hk2 c2]; rfl))
  ·
   refine dw_skip ?_
   show DW _ _ _ _ _
   refine rgn Ln ?_
   show ∃ _, _
   exact rnd (k + 1, _) (h1 := ⟨iv, (by (try dsimp only); intro i hi; by_cases e : i = k; subst e; exact c2; exact hv i (by omega)), trivial⟩)
 ·
  have hall0 := all_ok (l := l) fun i hi => hv i (by omega)
  have hall := Ziz hall0
  refine Zja ?_
  show DW _ _ _ _ _
  refine Zaa ?_
  refine stp Ln ?_
  refine Zba ?_
  refine Zrn 4 24 (by simp only [go_sem, ff]) (by simp only [go_sem, ff]) ?_
  refine lp (α := (Nat) × (List RSet) × (Nat) × Nat) [0] (fun ⟨k, out, r, nx⟩ => (k ≤ l.length) ∧ (r < nx) ∧ (out = Zvd (l.take k)) ∧ True) (fun ⟨k, out, r, nx⟩ => l.length - k) (fun ⟨k, out, r, nx⟩ => [(4, .mrow r 0 out.length), (6, .i k)]) (fun ⟨k, out, r, nx⟩ => [(r, ⟨24, (out).map RSet.d⟩)]) (fun ⟨k, out, r, nx⟩ => nx) (0, [], (nx + 5), _) (hA := ⟨iv, iv, rfl, trivial⟩) (round := ?_)
  rintro ⟨k, out, r, nx⟩ ⟨hk, hr, hout, -⟩
  show DW _ _ _ _ { n := _, t := tab _, h := _, nx := _, e := _ }
  simp only [List.cons_append, List.nil_append]
  have hok2 := Zyt (l := l.take k) fun x hx => hall x (List.mem_of_mem_take hx)
  have hdl := Zzt (l := l.take k) fun x hx => hall x (List.mem_of_mem_take hx)
  have hol := Zlp (l.take k)
  rw [← hout] at hok2 hdl hol
  rw [List.length_take] at hdl hol
  have ff := And.intro @hr ff
  refine Zaa ?_
  refine stp Ln ?_
  refine cd (fun c3 => ?_) (fun c3 => ?_)
  ·
   have hk2 : k < l.length := by omega
   have hxo := hall l[k]! (mem_ixR.2 ⟨k, hk2, rfl⟩)
   have hxs := hxo.sorted
   have hx8 := hxo.len
   have ff := And.intro (Zkc hk2) ff
   refine dw_skip ?_
   show DW _ _ _ _ _
   refine Zaa ?_
   refine Zba ?_
   refine stp Ln ?_
   refine jn (α := (Nat) × Nat) [0, 4, 6] (fun ⟨p, nx⟩ => (p ≤ out.length) ∧ (∀ i, i < p → plc out[i]! l[k]! < 0) ∧ (p < out.length → ¬ plc out[p]! l[k]! < 0) ∧ (r < nx) ∧ True) (fun ⟨p, nx⟩ => [(7, .i p)]) (fun ⟨p, nx⟩ => [(r, ⟨24, (out).map RSet.d⟩)]) (fun ⟨p, nx⟩ => nx) ?_ ?_
   ·
    refine Zba ?_
    refine lp (α := (Nat) × Nat) [0, 4, 6] (fun ⟨q, nx⟩ => (q ≤ out.length) ∧ (∀ i, i < q → plc out[i]! l[k]! < 0) ∧ (r < nx) ∧ True) (fun ⟨q, nx⟩ => out.length - q) (fun ⟨q, nx⟩ => [(7, .i q)]) (fun ⟨q, nx⟩ => [(r, ⟨24, (out).map RSet.d⟩)]) (fun ⟨q, nx⟩ => nx) (0, _) (hA := ⟨iv, (by first | (intro i hi; omega) | (dsimp only; intro i hi; omega)), iv, trivial⟩) (round := ?_)
    rintro ⟨q, nx⟩ ⟨hq, hlt, hr2, -⟩
    show DW _ _ _ _ { n := _, t := tab _, h := _, nx := _, e := _ }
    simp only [List.cons_append, List.nil_append]
    have ff := And.intro @hr2 ff
    refine Zaa ?_
    rcases Nat.lt_or_ge q out.length with gc | gc
    ·
     have gt : ((q : Int) < out.length) = True := eq_true (by omega)
     have hpl := Zq2 (hok2 _ (mem_ixR.2 ⟨q, gc, rfl⟩)).1 hxo.name
     have ff := And.intro (Zkc gc) (And.intro @gt (And.intro @decide_true ff))
     refine stp Ln ?_ (hok := by (try simp only [go_sem, ff]); all_goals (first | done | ((repeat' (with_reducible apply And.intro)) <;> first | omega | exact Zxc out[q]! l[k]! | (intros; exact Zxc out[q]! l[k]!) | (intros; omega) | (simp; omega) | skip)))
     refine cd (fun c4 => ?_) (fun c4 => ?_)
     ·
      have hq1 : plc out[q]! l[k]! < 0 := by rw [← hpl]; exact c4
      refine dw_skip ?_
      show DW _ _ _ _ _
      refine Zba ?_
      refine rgn Ln ?_
      show ∃ _, _
      exact rnd (q + 1, _) (h1 := ⟨iv, (by (try dsimp only); intro i hi; by_cases e : i = q; subst e; exact hq1; exact hlt i (by omega)), iv, trivial⟩)
     ·
      have hq1 : ¬ plc out[q]! l[k]! < 0 := by rw [← hpl]; exact c4
      refine Zja ?_
      show ∃ _, _
      exact rnj (q, _) (h1 := ⟨(by first | (exact hq) | (dsimp only; exact hq)), (by first | (exact hlt) | (dsimp only; exact hlt)), (by (try dsimp only); first | exact fun _ => hq1 | (intro q1; omega)), iv, trivial⟩)
    ·
     have gf : ((q : Int) < out.length) = False := eq_false (by omega)
     have ff := And.intro @gf (And.intro @decide_false ff)
     refine stp Ln ?_ (hok := by (try simp only [go_sem, ff]); all_goals (first | done | ((repeat' (with_reducible apply And.intro)) <;> first | omega | exact Zxc out[q]! l[k]! | (intros; exact Zxc out[q]! l[k]!) | (intros; omega) | (simp; omega) | skip)))
     refine cd (fun c4 => ?_) (fun c4 => ?_) (hp := rfl) (hq := rfl)
     ·
      cases c4
     ·
      refine Zja ?_
      show ∃ _, _
      exact rnj (q, _) (h1 := ⟨(by first | (exact hq) | (dsimp only; exact hq)), (by first | (exact hlt) | (dsimp only; exact hlt)), (by (try dsimp only); first | exact fun _ => hq1 | (intro q1; omega)), iv, trivial⟩)
   rintro ⟨p, nx⟩ ⟨hp, hlt2, hnl, hr4, -⟩
   show DW _ _ _ _ { n := _, t := tab _, h := _, nx := _, e := _ }
   simp only [List.cons_append, List.nil_append]
   have ex1 : ((p : Int) - ((0 : Nat) : Int)).toNat = p := by omega
   have ex2 : ((out.length : Int) - (p : Int)).toNat = out.length - p := by omega
   obtain ⟨A, B, hAB, hAl⟩ : ∃ A B, out = A ++ B ∧ A.length = p := ⟨out.take p, out.drop p, (List.take_append_drop _ _).symm, by rw [List.length_take]; omega⟩
   have hBl : B.length = out.length - p := by rw [hAB, List.length_append]; omega
   have ex6 : (out.map RSet.d).take p = A.map RSet.d := by rw [hAB, List.map_append, List.take_left' (by rw [List.length_map]; exact hAl)]
   have ex7 : (out.map RSet.d).drop p = B.map RSet.d := by rw [hAB, List.map_append, List.drop_left' (by rw [List.length_map]; exact hAl)]
   have ex8 : (B.map RSet.d).take (out.length - p) = B.map RSet.d := List.take_of_length_le (by rw [List.length_map]; omega)
   have ff := And.intro @hr4 (And.intro @ex1 (And.intro @ex2 (And.intro @ex6 (And.intro @ex7 (And.intro @ex8 (And.intro @hAl (And.intro @hBl ff)))))))
   refine jn (α := (List RSet) × (Nat) × Nat) [0, 6, 7] (fun ⟨o1, r1, nx⟩ => (p < o1.length) ∧ (o1.length ≤ 101) ∧ (r1 < nx) ∧ (Zjb datC o1[p]!.data) ∧ (o1[p]!.data.length ≤ 800) ∧ (Zvd (l.take (k + 1)) = o1.set p (mR o1[p]! l[k]!)) ∧ True) (fun ⟨o1, r1, nx⟩ => [(4, .mrow r1 0 o1.length)]) (fun ⟨o1, r1, nx⟩ => [(r1, ⟨24, (o1).map RSet.d⟩)]) (fun ⟨o1, r1, nx⟩ => nx) ?_ ?_
   ·
    rcases Nat.lt_or_ge p out.length with gc | gc
    ·
     have gt : ((p : Int) == (out.length : Int)) = false := beq_eq_false_iff_ne.2 (by omega)
     have hpl := Zq2 (hok2 _ (mem_ixR.2 ⟨p, gc, rfl⟩)).1 hxo.name
     have hnl2 := hnl gc
     have ff := And.intro (Zkc gc) (And.intro @gt ff)
     refine stp Ln ?_ (hok := by (try simp only [go_sem, ff]); all_goals (first | done | ((repeat' (with_reducible apply And.intro)) <;> first | omega | exact Zxc out[p]! l[k]! | (intros; exact Zxc out[p]! l[k]!) | (intros; omega) | (simp; omega) | skip)))
     refine cd (fun c5 => ?_) (fun c5 => ?_)
     ·
      have hge : p = out.length ∨ 0 < plc out[p]! l[k]! := .inr (by rw [← hpl]; exact c5)
      refine stp Ln ?_
      refine Zrn 8 24 (by simp only [go_sem, ff]) (by simp only [go_sem, ff]) ?_
      refine stp Ln ?_
      refine stp Ln ?_
      refine dw_wkb ((nx + 42)) ((A ++ [(⟨l[k]!.name, l[k]!.ty, l[k]!.life, []⟩ : RSet)]).map RSet.d) (by simp only [go_sem, ff]; exact rfl) (Zr1 _ l[k]!) ?_
      refine rgn Ln ?_
      show ∃ _, _
      exact rnj (A ++ (⟨l[k]!.name, l[k]!.ty, l[k]!.life, []⟩ : RSet) :: B, (nx + 48), _) (h1 := ⟨(by (try dsimp only); rw [List.length_append, List.length_cons]; omega), (by (try dsimp only); rw [List.length_append, List.length_cons]; omega), iv, (by (try dsimp only); rw [(Zme (B := B) hAl hxs).1]; exact .nil), (by (try dsimp only); rw [(Zme (B := B) hAl hxs).1]; simp), (by (try dsimp only); rw [(Zme (B := B) hAl hxs).1, (Zme (B := B) hAl hxs).2, Zci hk2, ← hout, Zq3 hp hlt2 hge, show out.take p = A from by rw [hAB, ← hAl, List.take_left], show out.drop p = B from by rw [hAB, ← hAl, List.drop_left]]), trivial⟩) (h3 := by (try simp only [go_sem, ff]); all_goals (first | done | (simp; done) | (simp; omega) | (simp [RSet.d]; done) | ((repeat' (with_reducible apply And.intro)) <;> first | rfl | (left; simp; done) | (simp [RSet.d]; done) | (rw [Zpa]; done) | (rw [Zna]; done) | (left; rw [Zpa]; done) | (left; rw [Zna]; done)))) (h4 := by (try simp only [go_sem, ff]); all_goals (first | done | (simp; done) | (simp; omega) | (simp [RSet.d]; done) | ((repeat' (with_reducible apply And.intro)) <;> first | rfl | (left; simp; done) | (simp [RSet.d]; done) | (rw [Zpa]; done) | (rw [Zna]; done) | (left; rw [Zpa]; done) | (left; rw [Zna]; done)))) (h5 := by (try simp only [go_sem, ff]); all_goals (first | done | (simp; done) | (simp; omega) | (simp [RSet.d]; done) | ((repeat' (with_reducible apply And.intro)) <;> first | rfl | (left; simp; done) | (simp [RSet.d]; done) | (rw [Zpa]; done) | (rw [Zna]; done) | (left; rw [Zpa]; done) | (left; rw [Zna]; done))))
     ·
      have hle : ¬ 0 < plc out[p]! l[k]! := by rw [← hpl]; exact c5
      refine dw_skip ?_
      show ∃ _, _
      exact rnj (out, r, _) (h1 := ⟨(by first | (exact gc) | (dsimp only; exact gc)), (by first | (omega) | (dsimp only; omega)), iv, (by (try dsimp only); exact (hok2 _ (mem_ixR.2 ⟨p, gc, rfl⟩)).2.2), (by (try dsimp only); have := hdl _ (mem_ixR.2 ⟨p, gc, rfl⟩); omega), (by (try dsimp only); rw [Zci hk2, ← hout, ins_old gc hlt2 (by omega)]), trivial⟩) (h3 := by (try simp only [go_sem, ff]); all_goals (first | done | (simp; done) | (simp; omega) | (simp [RSet.d]; done) | ((repeat' (with_reducible apply And.intro)) <;> first | rfl | (left; simp; done) | (simp [RSet.d]; done) | (rw [Zpa]; done) | (rw [Zna]; done) | (left; rw [Zpa]; done) | (left; rw [Zna]; done)))) (h4 := by (try simp only [go_sem, ff]); all_goals (first | done | (simp; done) | (simp; omega) | (simp [RSet.d]; done) | ((repeat' (with_reducible apply And.intro)) <;> first | rfl | (left; simp; done) | (simp [RSet.d]; done) | (rw [Zpa]; done) | (rw [Zna]; done) | (left; rw [Zpa]; done) | (left; rw [Zna]; done)))) (h5 := by (try simp only [go_sem, ff]); all_goals (first | done | (simp; done) | (simp; omega) | (simp [RSet.d]; done) | ((repeat' (with_reducible apply And.intro)) <;> first | rfl | (left; simp; done) | (simp [RSet.d]; done) | (rw [Zpa]; done) | (rw [Zna]; done) | (left; rw [Zpa]; done) | (left; rw [Zna]; done))))
    ·
     have gf : ((p : Int) == (out.length : Int)) = true := beq_iff_eq.2 (by omega)
     have ff := And.intro @gf ff
     refine stp Ln ?_ (hok := by (try simp only [go_sem, ff]); all_goals (first | done | ((repeat' (with_reducible apply And.intro)) <;> first | omega | exact Zxc out[p]! l[k]! | (intros; exact Zxc out[p]! l[k]!) | (intros; omega) | (simp; omega) | skip)))
     refine cd (fun c5 => ?_) (fun c5 => ?_) (hp := rfl) (hq := rfl)
     ·
      have hge : p = out.length ∨ 0 < plc out[p]! l[k]! := .inl (by omega)
      refine stp Ln ?_
      refine Zrn 8 24 (by simp only [go_sem, ff]) (by simp only [go_sem, ff]) ?_
      refine stp Ln ?_
      refine stp Ln ?_
      refine dw_wkb ((nx + 42)) ((A ++ [(⟨l[k]!.name, l[k]!.ty, l[k]!.life, []⟩ : RSet)]).map RSet.d) (by simp only [go_sem, ff]; exact rfl) (Zr1 _ l[k]!) ?_
      refine rgn Ln ?_
      show ∃ _, _
      exact rnj (A ++ (⟨l[k]!.name, l[k]!.ty, l[k]!.life, []⟩ : RSet) :: B, (nx + 48), _) (h1 := ⟨(by (try dsimp only); rw [List.length_append, List.length_cons]; omega), (by (try dsimp only); rw [List.length_append, List.length_cons]; omega), iv, (by (try dsimp only); rw [(Zme (B := B) hAl hxs).1]; exact .nil), (by (try dsimp only); rw [(Zme (B := B) hAl hxs).1]; simp), (by (try dsimp only); rw [(Zme (B := B) hAl hxs).1, (Zme (B := B) hAl hxs).2, Zci hk2, ← hout, Zq3 hp hlt2 hge, show out.take p = A from by rw [hAB, ← hAl, List.take_left], show out.drop p = B from by rw [hAB, ← hAl, List.drop_left]]), trivial⟩) (h3 := by (try simp only [go_sem, ff]); all_goals (first | done | (simp; done) | (simp; omega) | (simp [RSet.d]; done) | ((repeat' (with_reducible apply And.intro)) <;> first | rfl | (left; simp; done) | (simp [RSet.d]; done) | (rw [Zpa]; done) | (rw [Zna]; done) | (left; rw [Zpa]; done) | (left; rw [Zna]; done)))) (h4 := by (try simp only [go_sem, ff]); all_goals (first | done | (simp; done) | (simp; omega) | (simp [RSet.d]; done) | ((repeat' (with_reducible apply And.intro)) <;> first | rfl | (left; simp; done) | (simp [RSet.d]; done) | (rw [Zpa]; done) | (rw [Zna]; done) | (left; rw [Zpa]; done) | (left; rw [Zna]; done)))) (h5 := by (try simp only [go_sem, ff]); all_goals (first | done | (simp; done) | (simp; omega) | (simp [RSet.d]; done) | ((repeat' (with_reducible apply And.intro)) <;> first | rfl | (left; simp; done) | (simp [RSet.d]; done) | (rw [Zpa]; done) | (rw [Zna]; done) | (left; rw [Zpa]; done) | (left; rw [Zna]; done))))
     ·
      cases c5
   rintro ⟨o1, r1, nx⟩ ⟨hp1, hol1, hr5, hst, hdl1, hins, -⟩
   show DW _ _ _ _ { n := _, t := tab _, h := _, nx := _, e := _ }
   simp only [List.cons_append, List.nil_append]
   have ff := And.intro @hr5 ff
   have ff := And.intro (Zkc hp1) ff
   refine stp Ln ?_
   refine stp Ln ?_
   refine Zba ?_
   refine lp (α := (Nat) × (List Dat) × Nat) [0, 4, 6, 7] (fun ⟨j, dd, nx⟩ => (j ≤ l[k]!.data.length) ∧ (r1 < nx) ∧ (Zjb datC dd) ∧ (dd.length ≤ 800 + j) ∧ (canon (o1[p]!.data ++ l[k]!.data) = canon (dd ++ l[k]!.data.drop j)) ∧ True) (fun ⟨j, dd, nx⟩ => l[k]!.data.length - j) (fun ⟨j, dd, nx⟩ => [(9, .i j)]) (fun ⟨j, dd, nx⟩ => [(r1, ⟨24, (o1.set p ⟨o1[p]!.name, o1[p]!.ty, min o1[p]!.life l[k]!.life, dd⟩).map RSet.d⟩)]) (fun ⟨j, dd, nx⟩ => nx) (0, o1[p]!.data, _) (hA := ⟨iv, iv, (by first | (exact hst) | (dsimp only; exact hst)), (by first | (omega) | (dsimp only; omega)), rfl, trivial⟩) (round := ?_)
   rintro ⟨j, dd, nx⟩ ⟨hj, hr3, hds, hdd, hcn, -⟩
   show DW _ _ _ _ { n := _, t := tab _, h := _, nx := _, e := _ }
   simp only [List.cons_append, List.nil_append]
   have ff := And.intro @hr3 ff
   refine Zaa ?_
   refine stp Ln ?_
   refine cd (fun c6 => ?_) (fun c6 => ?_)
   ·
    have hj2 : j < l[k]!.data.length := by omega
    have ff := And.intro (Zpc hj2) (And.intro (row_self (⟨o1[p]!.name, o1[p]!.ty, min o1[p]!.life l[k]!.life, dd⟩ : RSet) hp1) ff)
    refine dw_skip ?_
    show DW _ _ _ _ _
    refine Zaa ?_
    refine Zba ?_
    refine rgn Ln ?_ (hok := by (try simp only [go_sem, ff]); all_goals (first | done | ((repeat' (with_reducible apply And.intro)) <;> first | omega | exact rwith_ct dd l[k]!.data[j]! (by omega) | (intros; omega) | (simp; omega) | skip)))
    show DW _ _ _ _ _
    refine rgn Ln ?_
    show ∃ _, _
    exact rnd (j + 1, withG l[k]!.data[j]! dd false, _) (h1 := ⟨iv, iv, (by (try dsimp only); exact (Zeq (r := []) hds).2), (by (try dsimp only); have := Zds l[k]!.data[j]! dd false; omega), (by (try dsimp only); rw [hcn, Zhm hj2]; exact (Zeq hds).1), trivial⟩) (h3 := by (try simp only [go_sem, ff]); all_goals (first | done | (simp; done) | (simp; omega) | (simp [RSet.d]; done) | ((repeat' (with_reducible apply And.intro)) <;> first | rfl | (left; simp; done) | (simp [RSet.d]; done) | (rw [Zpa]; done) | (rw [Zna]; done) | (left; rw [Zpa]; done) | (left; rw [Zna]; done)))) (h4 := by (try simp only [go_sem, ff]); all_goals (first | done | (simp; done) | (simp; omega) | (simp [RSet.d]; done) | ((repeat' (with_reducible apply And.intro)) <;> first | rfl | (left; simp; done) | (simp [RSet.d]; done) | (rw [Zpa]; done) | (rw [Zna]; done) | (left; rw [Zpa]; done) | (left; rw [Zna]; done)))) (h5 := by (try simp only [go_sem, ff]); all_goals (first | done | (simp; done) | (simp; omega) | (simp [RSet.d]; done) | ((repeat' (with_reducible apply And.intro)) <;> first | rfl | (left; simp; done) | (simp [RSet.d]; done) | (rw [Zpa]; done) | (rw [Zna]; done) | (left; rw [Zpa]; done) | (left; rw [Zna]; done))))
   ·
    have hj3 : j = l[k]!.data.length := by omega
    have hfin : Zvd (l.take (k + 1)) = o1.set p ⟨o1[p]!.name, o1[p]!.ty, min o1[p]!.life l[k]!.life, dd⟩ := by rw [hins]; unfold mR; rw [hcn, hj3, List.drop_length, List.append_nil, Zmf hds]
    refine Zja ?_
    show DW _ _ _ _ _
    refine rgn Ln ?_
    show ∃ _, _
    exact rnd (k + 1, o1.set p ⟨o1[p]!.name, o1[p]!.ty, min o1[p]!.life l[k]!.life, dd⟩, r1, _) (h1 := ⟨iv, iv, (by first | (exact hfin.symm) | (dsimp only; exact hfin.symm)), trivial⟩) (h3 := by (try simp only [go_sem, ff]); all_goals (first | done | (simp; done) | (simp; omega) | (simp [RSet.d]; done) | ((repeat' (with_reducible apply And.intro)) <;> first | rfl | (left; simp; done) | (simp [RSet.d]; done) | (rw [Zpa]; done) | (rw [Zna]; done) | (left; rw [Zpa]; done) | (left; rw [Zna]; done)))) (h4 := by (try simp only [go_sem, ff]); all_goals (first | done | (simp; done) | (simp; omega) | (simp [RSet.d]; done) | ((repeat' (with_reducible apply And.intro)) <;> first | rfl | (left; simp; done) | (simp [RSet.d]; done) | (rw [Zpa]; done) | (rw [Zna]; done) | (left; rw [Zpa]; done) | (left; rw [Zna]; done)))) (h5 := by (try simp only [go_sem, ff]); all_goals (first | done | (simp; done) | (simp; omega) | (simp [RSet.d]; done) | ((repeat' (with_reducible apply And.intro)) <;> first | rfl | (left; simp; done) | (simp [RSet.d]; done) | (rw [Zpa]; done) | (rw [Zna]; done) | (left; rw [Zpa]; done) | (left; rw [Zna]; done))))
  ·
   have hk3 : k = l.length := by omega
   rw [hk3, List.take_length] at hout
   refine Zja ?_
   show DW _ _ _ _ _
   refine Zaa ?_
   refine Zju 4 r (by simp only [go_sem, ff]; exact rfl) (by simp only [go_sem, ff]; exact rfl) (by rw [List.length_map]) Zy2 ?_
   refine stp Ln ?_
   refine Zba ?_
   refine lp (α := (Nat) × Nat) [4] (fun ⟨m, nx⟩ => (m ≤ out.length) ∧ (chk out = chk (out.drop m)) ∧ True) (fun ⟨m, nx⟩ => out.length - m) (fun ⟨m, nx⟩ => [(10, .i m)]) (fun ⟨m, nx⟩ => []) (fun ⟨m, nx⟩ => nx) (0, _) (hA := ⟨iv, rfl, trivial⟩) (round := ?_)
   rintro ⟨m, nx⟩ ⟨hm, hch, -⟩
   show DW _ _ _ _ { n := _, t := tab _, h := _, nx := _, e := _ }
   simp only [List.cons_append, List.nil_append]
   refine Zaa ?_
   refine stp Ln ?_
   refine cd (fun c7 => ?_) (fun c7 => ?_)
   ·
    have hm2 : m < out.length := by omega
    have hok4 := Zyt hall _ (by rw [← hout]; exact mem_ixR.2 ⟨m, hm2, rfl⟩)
    have hsg := Zsq hok4.2.1
    have ff := And.intro (Zkc hm2) ff
    refine dw_skip ?_
    show DW _ _ _ _ _
    refine Zaa ?_
    refine Zba ?_
    refine Zaa ?_
    refine stp Ln ?_ (hok := by (try simp only [go_sem, ff]); all_goals (first | done | ((repeat' (with_reducible apply And.intro)) <;> first | omega | exact Zak _ | (intros; omega) | (simp; omega) | skip)))
    refine cd (fun c8 => ?_) (fun c8 => ?_)
    ·
     have hb1 : (Zza out[m]!.ty.toNat).single = true ∧ 1 < out[m]!.data.length := by rw [← hsg]; exact ⟨c8.1, by omega⟩
     refine stp Ln ?_
     refine Zca ?_
     exact fin 2 (hr := by (try simp only [go_sem, ff]); all_goals (rw [Zgn hall0 (v := 35) (by rw [← hout, hch, Zw4 hm2, if_pos hb1])]; rfl))
    ·
     have hb1 : ¬ ((Zza out[m]!.ty.toNat).single = true ∧ 1 < out[m]!.data.length) := by rw [← hsg]; rintro ⟨q1, q2⟩; rcases c8 with c8 | c8; rw [q1] at c8; cases c8; omega
     refine dw_skip ?_
     show DW _ _ _ _ _
     refine stp Ln ?_
     refine cd (fun c9 => ?_) (fun c9 => ?_)
     ·
      refine stp Ln ?_
      refine Zca ?_
      exact fin 2 (hr := by (try simp only [go_sem, ff]); all_goals (rw [Zgn hall0 (v := 2) (by rw [← hout, hch, Zw4 hm2, if_neg hb1, if_pos (by omega)])]; rfl))
     ·
      refine dw_skip ?_
      show DW _ _ _ _ _
      refine rgn Ln ?_
      show ∃ _, _
      exact rnd (m + 1, _) (h1 := ⟨iv, (by (try dsimp only); rw [hch, Zw4 hm2, if_neg hb1, if_neg (by omega)]), trivial⟩)
   ·
    refine Zja ?_
    show DW _ _ _ _ _
    refine stp Ln ?_
    refine Zca ?_
    exact fin 2 (hr := by (try simp only [go_sem, ff]); all_goals (rw [Zgn hall0 (v := 0) (by rw [← hout, hch, List.drop_eq_nil_of_le (by omega)]; rfl), ← hout]; rfl))
set_option maxRecDepth 10000
theorem few_yes {l : List RSet} {k : Nat} (h : ¬ (20 : Int) < l[k]!.data.length ∧ ¬ (200 : Int) < l[k]!.name.length) : Zio l k = true := by
 unfold Zio
 rw [decide_eq_true (by omega), decide_eq_true (by omega)]; rfl
theorem few_bad {l : List RSet} {k : Nat} (h : (20 : Int) < l[k]!.data.length ∨ (200 : Int) < l[k]!.name.length) : Zio l k = false := by
 unfold Zio
 rcases h with h | h
 ·
  rw [decide_eq_false (by omega)]; rfl
 ·
  rw [Bool.and_eq_false_iff]; right; exact decide_eq_false (by omega)
theorem few_no {l : List RSet} (h : Zig l.length (Zio l) 0 = false) : fewB l = false := by
 unfold fewB; rw [h, Bool.and_false]
theorem few_end {l : List RSet} {k : Nat} (h : Zig l.length (Zio l) 0 = Zig l.length (Zio l) k) (h50 : k ≤ 50) (he : l.length ≤ k ∨ 50 ≤ k) : fewB l = decide ((l.length : Int) ≤ 50) := by
 unfold fewB
 by_cases q : l.length ≤ 50
 ·
  rw [h, Zbb, if_neg (by omega), decide_eq_true q, decide_eq_true (by omega)]; rfl
 ·
  rw [decide_eq_false q, decide_eq_false (by omega)]; rfl
theorem bo19 : Zea Tryd.prog 19 = true := by kernel_rfl
theorem Zfa (life : Int) (l : List Int) (hl : l.length ≤ 100) : PureCt Tryd.prog 19 [.i life, .list false (l.map iR)] (.agg (Zrj life l).d) := by
 refine Zda Tryd.func19 rfl bo19 (by simp [go_sem, D.nr, nrs, nrr]) (by simp [Tryd.f19]) ?_
 unfold Tryd.f19
 simp only [Zia]
 have ff := True.intro
 refine stp Ln ?_
 refine stp Ln ?_
 refine Zaa ?_
 refine Zwr 3 3 24 45 (by simp only [go_sem, ff]; exact rfl) (by rfl) (by simp only [go_sem, ff]) ?_
 simp only [List.set_cons_succ, List.set_cons_zero]
 refine stp Ln ?_
 refine Zba ?_
 refine lp (α := (Nat) × (List Dat) × (Nat) × Nat) [4, 5, 10, 11] (fun ⟨k, out, r, nx⟩ => (k ≤ l.length) ∧ (r < nx) ∧ (r ≠ 0 ∧ r ≠ 3) ∧ (3 < nx) ∧ (out = (l.take k).map fun n => ⟨[], n, 0⟩) ∧ True) (fun ⟨k, out, r, nx⟩ => l.length - k) (fun ⟨k, out, r, nx⟩ => [(12, .i k)]) (fun ⟨k, out, r, nx⟩ => [(0, ⟨24, [[.v (.string (bs [])), .i 0, .i 0, .list true []]]⟩), (3, ⟨24, [[.v (.string (bs ([120]))), .i (1), .i (life), .mrow r 0 out.length]]⟩), (r, ⟨45, (out).map Dat.d⟩)]) (fun ⟨k, out, r, nx⟩ => nx) (0, [], 5, _) (hA := ⟨iv, iv, iv, iv, rfl, trivial⟩) (round := ?_)
 rintro ⟨k, out, r, nx⟩ ⟨hk, hr, hrn, hx, hout, -⟩
 show DW _ _ _ _ { n := _, t := tab _, h := _, nx := _, e := _ }
 simp only [List.cons_append, List.nil_append]
 have n0 : 0 < nx := by omega
 have ho : out.length ≤ 100 := by rw [hout]; simp; omega
 have z0_r : (0 = r) = False := eq_false (by omega)
 have yr_0 : (r = 0) = False := eq_false (by omega)
 have z3_r : (3 = r) = False := eq_false (by omega)
 have yr_3 : (r = 3) = False := eq_false (by omega)
 have ff := And.intro @hr (And.intro @hx (And.intro @n0 (And.intro @z0_r (And.intro @yr_0 (And.intro @z3_r (And.intro @yr_3 ff))))))
 refine stp Ln ?_
 refine Zaa ?_
 refine cd (fun c1 => ?_) (fun c1 => ?_) (hp := rfl) (hq := rfl)
 ·
  have hk2 : k < l.length := by simpa using c1
  have ff := And.intro (Zu3 hk2) ff
  refine dw_skip ?_
  show DW _ _ _ _ _
  refine Zaa ?_
  refine Zba ?_
  refine stp Ln ?_
  refine rgn Ln ?_
  show DW _ _ _ _ _
  refine rgn Ln ?_
  show ∃ _, _
  exact rnd (k + 1, out ++ [⟨[], l[k]!, 0⟩], (nx + 9), _) (h1 := ⟨iv, iv, iv, iv, (by (try dsimp only); rw [hout, take_one hk2, List.map_append]; rfl), trivial⟩) (h3 := by (try simp only [go_sem, ff]); all_goals (first | done | (simp; done) | (simp [Dat.d]; done) | ((repeat' (with_reducible apply And.intro)) <;> first | rfl | (left; simp; done) | (simp [Dat.d]; done)))) (h4 := by (try simp only [go_sem, ff]); all_goals (first | done | (simp; done) | (simp [Dat.d]; done) | ((repeat' (with_reducible apply And.intro)) <;> first | rfl | (left; simp; done) | (simp [Dat.d]; done)))) (h5 := by (try simp only [go_sem, ff]); all_goals (first | done | (simp; done) | (simp [Dat.d]; done) | ((repeat' (with_reducible apply And.intro)) <;> first | rfl | (left; simp; done) | (simp [Dat.d]; done))))
 ·
  have hk3 : k = l.length := by have : ¬ k < l.length := (by simpa using c1); omega
  refine Zja ?_
  show DW _ _ _ _ _
  refine Zkf 3 3 r (rows := out.map Dat.d) (off := 0) (len := out.length) (by simp only [go_sem, ff]; exact rfl) (by rfl) (by simp only [go_sem, ff]; exact rfl) (by omega) (by simp) Zyh ?_
  simp only [List.drop_zero, Zmd, List.set_cons_succ, List.set_cons_zero]
  refine stp Ln ?_
  refine Zca ?_
  exact fin 2 (hr := by (try simp only [go_sem, ff]); all_goals (rw [Zrj, hout, hk3, List.take_length]))
theorem bo12 : Zea Tryd.prog 12 = true := by kernel_rfl
theorem Zpm (a : List RSet) (b : List RSet) (hab : a.length ≤ 1000) (had : ∀ x ∈ a, x.data.length ≤ 100000) : PureCt Tryd.prog 12 [.list false (a.map RSet.d), .list false (b.map RSet.d)] (.b (sameSetsB a b)) := by
 refine Zda Tryd.func12 rfl bo12 (by simp [go_sem, D.nr, nrs, nrr]) (by simp [Tryd.f12]) ?_
 unfold Tryd.f12
 simp only [Zia]
 have ff := True.intro
 refine stp Ln ?_
 refine Zaa ?_
 refine stp Ln ?_
 refine cd (fun c1 => ?_) (fun c1 => ?_)
 ·
  refine stp Ln ?_
  refine Zca ?_
  exact fin 0 (hr := by (try simp only [go_sem, ff]); all_goals (rw [Zhv c1]))
 ·
  refine dw_skip ?_
  show DW _ _ _ _ _
  refine Zaa ?_
  refine stp Ln ?_
  refine Zba ?_
  refine lp (α := (Nat) × Nat) [0, 1] (fun ⟨k, nx⟩ => (k ≤ a.length) ∧ (∀ i, i < k → a[i]! = b[i]!) ∧ True) (fun ⟨k, nx⟩ => a.length - k) (fun ⟨k, nx⟩ => [(5, .i k)]) (fun ⟨k, nx⟩ => []) (fun ⟨k, nx⟩ => nx) (0, _) (hA := ⟨iv, (by first | (intro i hi; omega) | (dsimp only; intro i hi; omega)), trivial⟩) (round := ?_)
  rintro ⟨k, nx⟩ ⟨hk, hv, -⟩
  show DW _ _ _ _ { n := _, t := tab _, h := _, nx := _, e := _ }
  simp only [List.cons_append, List.nil_append]
  refine Zaa ?_
  refine stp Ln ?_
  refine cd (fun c2 => ?_) (fun c2 => ?_) (hp := rfl)
  ·
   have hk2 : k < a.length := by simpa using c2
   have hk3 : k < b.length := by omega
   have ff := And.intro (getD_set hk2) (And.intro (getD_set hk3) ff)
   refine dw_skip ?_
   show DW _ _ _ _ _
   refine Zaa ?_
   refine Zba ?_
   refine stp Ln ?_ (hok := by (try simp only [go_sem, ff]); all_goals (first | done | ((repeat' (with_reducible apply And.intro)) <;> first | omega | exact Zbk _ _ (had _ (by rw [getElem!_pos a k hk2]; exact List.getElem_mem hk2)))))
   refine cd (fun c3 => ?_) (fun c3 => ?_)
   ·
    refine stp Ln ?_
    refine Zca ?_
    exact fin 0 (hr := by (try simp only [go_sem, ff]); all_goals (rw [Ziv c3]))
   ·
    refine dw_skip ?_
    show DW _ _ _ _ _
    refine rgn Ln ?_
    show ∃ _, _
    exact rnd (k + 1, _) (h1 := ⟨iv, (by (try dsimp only); intro i hi; by_cases e : i = k; subst e; exact sameB_iff.1 c3; exact hv i (by omega)), trivial⟩)
  ·
   refine Zja ?_
   show DW _ _ _ _ _
   refine stp Ln ?_
   refine Zca ?_
   exact fin 0 (hr := by (try simp only [go_sem, ff]); all_goals (rw [Zqs c1 fun i hi => hv i (by omega)]))
theorem bo5 : Zea Tryd.prog 5 = true := by kernel_rfl
theorem Zzs (l : List RSet) : PureCt Tryd.prog 5 [.list false (l.map RSet.d)] (.b (fewB l)) := by
 refine Zda Tryd.func5 rfl bo5 (by simp [go_sem, D.nr, nrs, nrr]) (by simp [Tryd.f5]) ?_
 unfold Tryd.f5
 simp only [Zia]
 have ff := True.intro
 refine stp Ln ?_
 refine Zaa ?_
 refine stp Ln ?_
 refine Zba ?_
 refine lp (α := (Nat) × Nat) [0] (fun ⟨k, nx⟩ => (k ≤ l.length ∧ k ≤ 50) ∧ (Zig l.length (Zio l) 0 = Zig l.length (Zio l) k) ∧ True) (fun ⟨k, nx⟩ => l.length - k) (fun ⟨k, nx⟩ => [(3, .i k)]) (fun ⟨k, nx⟩ => []) (fun ⟨k, nx⟩ => nx) (0, _) (hA := ⟨iv, rfl, trivial⟩) (round := ?_)
 rintro ⟨k, nx⟩ ⟨hk, hv, -⟩
 show DW _ _ _ _ { n := _, t := tab _, h := _, nx := _, e := _ }
 simp only [List.cons_append, List.nil_append]
 refine Zaa ?_
 refine stp Ln ?_
 refine cd (fun c1 => ?_) (fun c1 => ?_)
 ·
  have hk2 : k < l.length ∧ k < 50 := by omega
  have ff := And.intro (getD_set hk2.1) ff
  refine dw_skip ?_
  show DW _ _ _ _ _
  refine Zaa ?_
  refine Zba ?_
  refine stp Ln ?_
  refine cd (fun c2 => ?_) (fun c2 => ?_)
  ·
   refine stp Ln ?_
   refine Zca ?_
   exact fin 0 (hr := by (try simp only [go_sem, ff]); all_goals (rw [few_no (by rw [hv, Zbb, if_pos hk2.1, few_bad c2]; rfl)]))
  ·
   refine dw_skip ?_
   show DW _ _ _ _ _
   refine rgn Ln ?_
   show ∃ _, _
   exact rnd (k + 1, _) (h1 := ⟨iv, (by (try dsimp only); rw [hv, Zbb, if_pos hk2.1, few_yes c2]; rfl), trivial⟩)
 ·
  have hk3 : l.length ≤ k ∨ 50 ≤ k := by omega
  refine Zja ?_
  show DW _ _ _ _ _
  refine stp Ln ?_
  refine Zca ?_
  exact fin 0 (hr := by (try simp only [go_sem, ff]); all_goals (rw [few_end hv hk.2 hk3]))
theorem bo17 : Zea Tryd.prog 17 = true := by kernel_rfl
theorem Zd0 (a : Str) (b : Str) : PureCt Tryd.prog 17 [.list false (a.map bD), .list false (b.map bD)] (.b (sameStr a b)) := by
 refine Zda Tryd.func17 rfl bo17 (by simp [go_sem, D.nr, nrs, nrr]) (by simp [Tryd.f17]) ?_
 unfold Tryd.f17
 simp only [Zia]
 have ff := True.intro
 refine stp Ln ?_
 refine stp Ln ?_
 refine Zca ?_
 exact fin 0 (hr := by (try simp only [go_sem, ff]); all_goals (rw [sameStr]; congr 2; by_cases h : a = b <;> simp [h]))
theorem _root_.Go.DL.PureCt.as {P : Program} [Glob P] {f : FuncId} {args args' : List D} {r r' : D} (h : PureCt P f args r) (ea : args = args') (e : r = r') : PureCt P f args' r' := ea ▸ e ▸ h
def headB : Str := setB ⟨[120], 1, 5, [⟨[], 7, 0⟩]⟩
theorem hB : bytesF ⟨[120], 1, 5, [⟨[], 7, 0⟩]⟩ = (headB, 0) := by kernel_rfl
theorem hBl : headB.length = 36 := by kernel_rfl
theorem hB0 : (headB.map bD).getD 0 [] = [.v (.int .u8 1)] := by rfl
theorem hB1 : (headB.map bD).getD 1 [] = [.v (.int .u8 120)] := by rfl
theorem hR : readF headB = (⟨[120], 1, 5, [⟨[], 7, 0⟩]⟩, 0) := by kernel_rfl
theorem hR0 : readF [] = (⟨[], 0, 0, []⟩, 10) := by kernel_rfl
theorem hC : cmpF ⟨[120], 1, 5, [⟨[], 7, 0⟩]⟩ ⟨[120], 5, 0, [⟨[97, 32, 98], 0, 0⟩]⟩ = (-1, 0) := by kernel_rfl
theorem hI (n : Int) : ints1 (.list false [[.v (.int .i64 n)]]) = [n] := rfl
theorem hI2 (n m : Int) : ints1 (.list false [[.v (.int .i64 n)], [.v (.int .i64 m)]]) = [n, m] := rfl
theorem hD1 (s : Str) (n m : Int) : dats1 (.list false [[.v (.string (bs s)), .v (.int .i64 n), .v (.int .i64 m)]]) = [⟨s, n, m⟩] := Znu (l := [⟨s, n, m⟩])
theorem hD2 (s s' : Str) (n m n' m' : Int) : dats1 (.list false [[.v (.string (bs s)), .v (.int .i64 n), .v (.int .i64 m)], [.v (.string (bs s')), .v (.int .i64 n'), .v (.int .i64 m')]]) = [⟨s, n, m⟩, ⟨s', n', m'⟩] := Znu (l := [⟨s, n, m⟩, ⟨s', n', m'⟩])
theorem hS1 (s : Str) (a b : Int) (s1 s2 : Str) (n m n' m' : Int) : sets1 (.list false [[.v (.string (bs s)), .v (.int .i64 a), .v (.int .i64 b), .list false [[.v (.string (bs s1)), .v (.int .i64 n), .v (.int .i64 m)], [.v (.string (bs s2)), .v (.int .i64 n'), .v (.int .i64 m')]]]]) = [⟨s, a, b, [⟨s1, n, m⟩, ⟨s2, n', m'⟩]⟩] := Zms (l := [⟨s, a, b, [⟨s1, n, m⟩, ⟨s2, n', m'⟩]⟩])
theorem addr_def (life : Int) (l : List Int) : Zrj life l = ⟨[120], 1, life, l.map fun n => ⟨[], n, 0⟩⟩ := rfl
theorem hI0 : ints1 (.list false []) = [] := rfl
def hm1 : List RSet := [⟨[120], 1, 5, [⟨[], 7, 0⟩]⟩, ⟨[120], 1, 4, [⟨[], 3, 0⟩]⟩]
def hm2 : List RSet := [⟨[120], 3, 0, [⟨[97], 0, 0⟩]⟩, ⟨[120], 3, 0, [⟨[98], 0, 0⟩]⟩]
theorem hM1 : mergeR (sets1 (.list false [[.v (.string (bs [120])), .v (.int .i64 1), .v (.int .i64 5), .list false [[.v (.string (bs [])), .v (.int .i64 7), .v (.int .i64 0)]]], [.v (.string (bs [120])), .v (.int .i64 1), .v (.int .i64 4), .list false [[.v (.string (bs [])), .v (.int .i64 3), .v (.int .i64 0)]]]])) = ([⟨[120], 1, 4, [⟨[], 3, 0⟩, ⟨[], 7, 0⟩]⟩], 0) := by kernel_rfl
theorem hM2 : mergeR (sets1 (.list false [[.v (.string (bs [120])), .v (.int .i64 3), .v (.int .i64 0), .list false [[.v (.string (bs [97])), .v (.int .i64 0), .v (.int .i64 0)]]], [.v (.string (bs [120])), .v (.int .i64 3), .v (.int .i64 0), .list false [[.v (.string (bs [98])), .v (.int .i64 0), .v (.int .i64 0)]]]])) = ([], 35) := by kernel_rfl
theorem Zld : PureCt Tryd.prog 13 [.agg [.v (.string (bs [120])), .v (.int .i64 1), .v (.int .i64 5), .list false [[.v (.string (bs [])), .v (.int .i64 7), .v (.int .i64 0)]]]] (.tuple [.list false (headB.map bD), .v (.int .i64 0)]) := by
 have := Zdt ⟨[120], 1, 5, [⟨[], 7, 0⟩]⟩
 rw [hB] at this
 exact this
theorem Zaf : PureCt Tryd.prog 15 [.list false (headB.map bD)] (.tuple [.agg [.v (.string (bs [120])), .v (.int .i64 1), .v (.int .i64 5), .list false [[.v (.string (bs [])), .v (.int .i64 7), .v (.int .i64 0)]]], .v (.int .i64 0)]) := by
 have := Zvq headB
 rw [hR] at this
 exact this
theorem Zkd : PureCt Tryd.prog 15 [.list false []] (.tuple [.agg [.v (.string (bs [])), .v (.int .i64 0), .v (.int .i64 0), .list false []], .v (.int .i64 10)]) := by
 have := Zvq []
 rw [hR0] at this
 exact this
theorem Zgo : PureCt Tryd.prog 8 [.list false (hm1.map RSet.d)] (.tuple [.list false [[.v (.string (bs [120])), .v (.int .i64 1), .v (.int .i64 4), .list false [[.v (.string (bs [])), .v (.int .i64 3), .v (.int .i64 0)], [.v (.string (bs [])), .v (.int .i64 7), .v (.int .i64 0)]]]], .v (.int .i64 0)]) := by
 have := Ztm hm1 (by decide)
 rw [show mergeR hm1 = ([⟨[120], 1, 4, [⟨[], 3, 0⟩, ⟨[], 7, 0⟩]⟩], 0) by kernel_rfl] at this
 exact this
theorem Zfo : PureCt Tryd.prog 8 [.list false (hm2.map RSet.d)] (.tuple [.list false [], .v (.int .i64 35)]) := by
 have := Ztm hm2 (by decide)
 rw [show mergeR hm2 = ([], 35) by kernel_rfl] at this
 exact this
theorem Zqh : PureCt Tryd.prog 6 [.agg [.v (.string (bs [120])), .v (.int .i64 1), .v (.int .i64 5), .list false [[.v (.string (bs [])), .v (.int .i64 7), .v (.int .i64 0)]]], .agg [.v (.string (bs [120])), .v (.int .i64 5), .v (.int .i64 0), .list false [[.v (.string (bs [97, 32, 98])), .v (.int .i64 0), .v (.int .i64 0)]]]] (.tuple [.v (.int .i64 (-1)), .v (.int .i64 0)]) := by
 have := Zsx ⟨[120], 1, 5, [⟨[], 7, 0⟩]⟩ ⟨[120], 5, 0, [⟨[97, 32, 98], 0, 0⟩]⟩
 rw [hC] at this
 exact this
theorem bo4 : Zea Tryd.prog 4 = true := by kernel_rfl
theorem Zr3  : PureCt Tryd.prog 4 [] (.b true) := by
 refine Zda Tryd.func4 rfl bo4 (by simp [go_sem, D.nr, nrs, nrr]) (by simp [Tryd.f4]) ?_
 unfold Tryd.f4
 simp only [Zia]
 have ff := True.intro
 have ff := And.intro @hI (And.intro @hI2 (And.intro @hI0 (And.intro @hD1 (And.intro @hD2 (And.intro @hS1 (And.intro @addr_def (And.intro @hB (And.intro @hBl (And.intro @hB0 (And.intro @hB1 (And.intro @hR (And.intro @hR0 (And.intro @hC (And.intro @hM1 (And.intro @hM2 ff)))))))))))))))
 refine stp Ln ?_ (hok := by (try simp only [go_sem, ff]); all_goals (first | done | ((repeat' (with_reducible apply And.intro)) <;> (intros; first | done | omega | exact Zld | exact Zaf | exact Zkd | exact Zgo | exact Zfo | exact Zqh | exact (Zfa _ [7] (by decide)).as rfl rfl | exact (Zfa _ [3] (by decide)).as rfl rfl | exact (Zfa _ [1] (by decide)).as rfl rfl | exact (Zfa _ [3, 7] (by decide)).as rfl rfl | exact (Zfa _ [7, 3] (by decide)).as rfl rfl | exact (Zfa _ [1000001] (by decide)).as rfl rfl | exact (Zfa _ [] (by decide)).as rfl rfl |  (simp_all; done) | skip))))
 refine stp Ln ?_ (hok := by (try simp only [go_sem, ff]); all_goals (first | done | ((repeat' (with_reducible apply And.intro)) <;> (intros; first | done | omega | exact Zld | exact Zaf | exact Zkd | exact Zgo | exact Zfo | exact Zqh | exact (Zfa _ [7] (by decide)).as rfl rfl | exact (Zfa _ [3] (by decide)).as rfl rfl | exact (Zfa _ [1] (by decide)).as rfl rfl | exact (Zfa _ [3, 7] (by decide)).as rfl rfl | exact (Zfa _ [7, 3] (by decide)).as rfl rfl | exact (Zfa _ [1000001] (by decide)).as rfl rfl | exact (Zfa _ [] (by decide)).as rfl rfl |  (simp_all; done) | skip))))
 refine stp Ln ?_ (hok := by (try simp only [go_sem, ff]); all_goals (first | done | ((repeat' (with_reducible apply And.intro)) <;> (intros; first | done | omega | exact Zld | exact Zaf | exact Zkd | exact Zgo | exact Zfo | exact Zqh | exact (Zfa _ [7] (by decide)).as rfl rfl | exact (Zfa _ [3] (by decide)).as rfl rfl | exact (Zfa _ [1] (by decide)).as rfl rfl | exact (Zfa _ [3, 7] (by decide)).as rfl rfl | exact (Zfa _ [7, 3] (by decide)).as rfl rfl | exact (Zfa _ [1000001] (by decide)).as rfl rfl | exact (Zfa _ [] (by decide)).as rfl rfl |  (simp_all; done) | skip))))
 refine stp Ln ?_ (hok := by (try simp only [go_sem, ff]); all_goals (first | done | ((repeat' (with_reducible apply And.intro)) <;> (intros; first | done | omega | exact Zld | exact Zaf | exact Zkd | exact Zgo | exact Zfo | exact Zqh | exact (Zfa _ [7] (by decide)).as rfl rfl | exact (Zfa _ [3] (by decide)).as rfl rfl | exact (Zfa _ [1] (by decide)).as rfl rfl | exact (Zfa _ [3, 7] (by decide)).as rfl rfl | exact (Zfa _ [7, 3] (by decide)).as rfl rfl | exact (Zfa _ [1000001] (by decide)).as rfl rfl | exact (Zfa _ [] (by decide)).as rfl rfl |  (simp_all; done) | skip))))
 refine stp Ln ?_ (hok := by (try simp only [go_sem, ff]); all_goals (first | done | ((repeat' (with_reducible apply And.intro)) <;> (intros; first | done | omega | exact Zld | exact Zaf | exact Zkd | exact Zgo | exact Zfo | exact Zqh | exact (Zfa _ [7] (by decide)).as rfl rfl | exact (Zfa _ [3] (by decide)).as rfl rfl | exact (Zfa _ [1] (by decide)).as rfl rfl | exact (Zfa _ [3, 7] (by decide)).as rfl rfl | exact (Zfa _ [7, 3] (by decide)).as rfl rfl | exact (Zfa _ [1000001] (by decide)).as rfl rfl | exact (Zfa _ [] (by decide)).as rfl rfl |  (simp_all; done) | skip))))
 refine stp Ln ?_ (hok := by (try simp only [go_sem, ff]); all_goals (first | done | ((repeat' (with_reducible apply And.intro)) <;> (intros; first | done | omega | exact Zld | exact Zaf | exact Zkd | exact Zgo | exact Zfo | exact Zqh | exact (Zfa _ [7] (by decide)).as rfl rfl | exact (Zfa _ [3] (by decide)).as rfl rfl | exact (Zfa _ [1] (by decide)).as rfl rfl | exact (Zfa _ [3, 7] (by decide)).as rfl rfl | exact (Zfa _ [7, 3] (by decide)).as rfl rfl | exact (Zfa _ [1000001] (by decide)).as rfl rfl | exact (Zfa _ [] (by decide)).as rfl rfl |  (simp_all; done) | skip))))
 refine stp Ln ?_ (hok := by (try simp only [go_sem, ff]); all_goals (first | done | ((repeat' (with_reducible apply And.intro)) <;> (intros; first | done | omega | exact Zld | exact Zaf | exact Zkd | exact Zgo | exact Zfo | exact Zqh | exact (Zfa _ [7] (by decide)).as rfl rfl | exact (Zfa _ [3] (by decide)).as rfl rfl | exact (Zfa _ [1] (by decide)).as rfl rfl | exact (Zfa _ [3, 7] (by decide)).as rfl rfl | exact (Zfa _ [7, 3] (by decide)).as rfl rfl | exact (Zfa _ [1000001] (by decide)).as rfl rfl | exact (Zfa _ [] (by decide)).as rfl rfl |  (simp_all; done) | skip))))
 refine stp Ln ?_ (hok := by (try simp only [go_sem, ff]); all_goals (first | done | ((repeat' (with_reducible apply And.intro)) <;> (intros; first | done | omega | exact Zld | exact Zaf | exact Zkd | exact Zgo | exact Zfo | exact Zqh | exact (Zfa _ [7] (by decide)).as rfl rfl | exact (Zfa _ [3] (by decide)).as rfl rfl | exact (Zfa _ [1] (by decide)).as rfl rfl | exact (Zfa _ [3, 7] (by decide)).as rfl rfl | exact (Zfa _ [7, 3] (by decide)).as rfl rfl | exact (Zfa _ [1000001] (by decide)).as rfl rfl | exact (Zfa _ [] (by decide)).as rfl rfl |  (simp_all; done) | skip))))
 refine stp Ln ?_ (hok := by (try simp only [go_sem, ff]); all_goals (first | done | ((repeat' (with_reducible apply And.intro)) <;> (intros; first | done | omega | exact Zld | exact Zaf | exact Zkd | exact Zgo | exact Zfo | exact Zqh | exact (Zfa _ [7] (by decide)).as rfl rfl | exact (Zfa _ [3] (by decide)).as rfl rfl | exact (Zfa _ [1] (by decide)).as rfl rfl | exact (Zfa _ [3, 7] (by decide)).as rfl rfl | exact (Zfa _ [7, 3] (by decide)).as rfl rfl | exact (Zfa _ [1000001] (by decide)).as rfl rfl | exact (Zfa _ [] (by decide)).as rfl rfl | exact Zbk (Zrj 5 [7]) (Zrj 5 [7]) (by decide) | exact Zpm [Zrj 4 [3, 7]] [Zrj 4 [3, 7]] (by decide) (by decide) | (simp_all; done) | skip))))
 refine stp Ln ?_ (hok := by (try simp only [go_sem, ff]); all_goals (first | done | ((repeat' (with_reducible apply And.intro)) <;> (intros; first | done | omega | exact Zld | exact Zaf | exact Zkd | exact Zgo | exact Zfo | exact Zqh | exact (Zfa _ [7] (by decide)).as rfl rfl | exact (Zfa _ [3] (by decide)).as rfl rfl | exact (Zfa _ [1] (by decide)).as rfl rfl | exact (Zfa _ [3, 7] (by decide)).as rfl rfl | exact (Zfa _ [7, 3] (by decide)).as rfl rfl | exact (Zfa _ [1000001] (by decide)).as rfl rfl | exact (Zfa _ [] (by decide)).as rfl rfl | exact Znb (Zrj 0 [1]) | exact Znb (Zrj 5 []) | exact Znb (Zrj 5 [7, 3]) | exact Znb (Zrj 100001 [7]) | exact Znb (Zrj 5 [1000001]) | (simp_all; done) | skip))))
 refine Zca ?_
 exact fin 0 (hr := by (try simp only [go_sem, ff]); all_goals (kernel_rfl))
set_option maxRecDepth 10000
theorem beqI (x : Int) : (x == x) = true := by simp
theorem beqB (x : Bool) : (x == x) = true := by simp
theorem Zvk (x : Str) : sameStr x x = true := by simp [sameStr]
theorem Zto (x : RSet) : sameB x x = true := by simp [sameB]
theorem Zti (l : List RSet) : sameSetsB l l = true := by simp [sameSetsB]
theorem few_len {l : List RSet} (h : fewB l = true) : l.length ≤ 50 := by
 unfold fewB at h
 rw [Bool.and_eq_true, decide_eq_true_eq] at h
 exact h.1
theorem merge_bd {l : List RSet} (hl : l.length ≤ 50) : (mergeR l).1.length ≤ 1000 ∧ ∀ x ∈ (mergeR l).1, x.data.length ≤ 100000 := by
 unfold mergeR
 split
 ·
  rename_i h
  split
  ·
   refine ⟨by have := Zlp l; show (Zvd l).length ≤ _; omega, fun x hx => ?_⟩
   have := Zzt (Ziz h) x hx
   omega
  ·
   exact ⟨Nat.zero_le _, fun x hx => by cases hx⟩
 ·
  exact ⟨Nat.zero_le _, fun x hx => by cases hx⟩
theorem readF_bd (x : Str) : (readF x).1.data.length ≤ 100000 := by
 rcases Int.lt_or_le 0 0 with h | _
 ·
  cases h
 ·
  by_cases h : (readF x).2 = 0
  ·
   have := (Zj1 h).1.len
   omega
  ·
   unfold readF at h ⊢
   split
   ·
    exact Nat.zero_le _
   ·
    rename_i q; rw [if_neg q] at h; exact absurd rfl h
theorem bo3 : Zea Tryd.prog 3 = true := by kernel_rfl
set_option maxHeartbeats 2000000 in
theorem lawMatches_ct (a : RSet) (b : RSet) (l : List RSet) (x : Str) : PureCt Tryd.prog 3 [.agg a.d, .agg b.d, .list false (l.map RSet.d), .list false (x.map bD)] (.b true) := by
 refine Zda Tryd.func3 rfl bo3 (by simp [go_sem, D.nr, nrs, nrr]) (by simp [Tryd.f3]) ?_
 unfold Tryd.f3
 simp only [Zia]
 have ff := True.intro
 have hss : sets1 (.list false [[.v (.string (bs a.name)), .v (.int .i64 a.ty), .v (.int .i64 a.life), .list false (a.data.map Dat.d)], [.v (.string (bs b.name)), .v (.int .i64 b.ty), .v (.int .i64 b.life), .list false (b.data.map Dat.d)]]) = [a, b] := Zms (l := [a, b])
 have ff := And.intro @hss (And.intro @Zvk (And.intro @Zto (And.intro @Zti (And.intro @beqI (And.intro @beqB ff)))))
 refine stp Ln ?_
 refine stp Ln ?_ (hok := by (try simp only [go_sem, ff]); all_goals (first | done | exact Zr3))
 refine Zaa ?_
 refine stp Ln ?_ (hok := by (try simp only [go_sem, ff]); all_goals (first | done | ((repeat' (with_reducible apply And.intro)) <;> (intros; first | done | omega | exact Zzs [a, b] | exact Zzs l | (simp_all; done) | skip))))
 refine cd (fun c1 => ?_) (fun c1 => ?_) (hp := rfl)
 ·
  refine stp Ln ?_
  refine Zca ?_
  exact fin 0 (hr := by (try simp only [go_sem, ff]); all_goals (first | rfl | (simp; done) | skip))
 ·
  have hll : l.length ≤ 50 := few_len (by first | exact c1.1.2 | simp_all)
  have hxx : x.length ≤ 2000 := by omega
  have hbd := merge_bd hll
  refine dw_skip ?_
  show DW _ _ _ _ _
  refine stp Ln ?_ (hok := by (try simp only [go_sem, ff]); all_goals (first | done | ((repeat' (with_reducible apply And.intro)) <;> (intros; first | done | omega | exact Zsx a b | (simp_all; done) | skip))))
  refine stp Ln ?_ (hok := by (try simp only [go_sem, ff]); all_goals (first | done | ((repeat' (with_reducible apply And.intro)) <;> (intros; first | done | omega | exact rrcmp_ct a b | (simp_all; done) | skip))))
  refine stp Ln ?_ (hok := by (try simp only [go_sem, ff]); all_goals (first | done | ((repeat' (with_reducible apply And.intro)) <;> (intros; first | done | omega | exact Ztm l (by omega) | (simp_all; done) | skip))))
  refine stp Ln ?_ (hok := by (try simp only [go_sem, ff]); all_goals (first | done | ((repeat' (with_reducible apply And.intro)) <;> (intros; first | done | omega | exact Zvz l (by omega) | (simp_all; done) | skip))))
  refine stp Ln ?_ (hok := by (try simp only [go_sem, ff]); all_goals (first | done | ((repeat' (with_reducible apply And.intro)) <;> (intros; first | done | omega | exact Znb a | exact Zgd a | exact (Zpm (mergeR l).1 (mergeR l).1 hbd.1 hbd.2).as rfl (by rw [Zti]) | (simp_all; done) | skip))))
  refine stp Ln ?_ (hok := by (try simp only [go_sem, ff]); all_goals (first | done | ((repeat' (with_reducible apply And.intro)) <;> (intros; first | done | omega | exact Zdt a | (simp_all; done) | skip))))
  refine stp Ln ?_ (hok := by (try simp only [go_sem, ff]); all_goals (first | done | ((repeat' (with_reducible apply And.intro)) <;> (intros; first | done | omega | exact Zwz a | (simp_all; done) | skip))))
  refine stp Ln ?_ (hok := by (try simp only [go_sem, ff]); all_goals (first | done | ((repeat' (with_reducible apply And.intro)) <;> (intros; first | done | omega | exact Zvq x | (simp_all; done) | skip))))
  refine stp Ln ?_ (hok := by (try simp only [go_sem, ff]); all_goals (first | done | ((repeat' (with_reducible apply And.intro)) <;> (intros; first | done | omega | exact Zk2 x (by omega) | (simp_all; done) | skip))))
  refine stp Ln ?_ (hok := by (try simp only [go_sem, ff]); all_goals (first | done | ((repeat' (with_reducible apply And.intro)) <;> (intros; first | done | omega | exact (Zd0 (bytesF a).1 (bytesF a).1).as rfl (by rw [Zvk]) | exact (Zbk (readF x).1 (readF x).1 (readF_bd x)).as rfl (by rw [Zto]) | (simp_all; done) | skip))))
  refine Zca ?_
  exact fin 0 (hr := by (try simp only [go_sem, ff]); all_goals (first | rfl | (simp; done) | skip))
end Go.Proofs.YtjngdcldglkolaaDoor
