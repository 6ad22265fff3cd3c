/-
  MANY TEXTS OF MINE IN ONE (a claim has a limit of files): NmW2, NmW3, NmW4, NmW5, NmW6, RcW1, RcW3, RcW4, RcW5, ZoW1, ZoW2, ZoW3, ZoW4, ZoW5, ReW1, DlW1, DlW6, DlW7, DlW8, DlW9, DlW10, DlW11, DlW12, LaW1, LaW7. Conditions: none.
-/
import Derived.Test.YtfggmgafjabbjaaDoorMS3
namespace Go.Proofs.YtfggmgafjabbjaaDoor
open Go.DL Go.Str
set_option maxRecDepth 10000
set_option linter.unusedSimpArgs false
set_option linter.unusedVariables false
theorem bo92 : hasBody Tryd.prog 92 = true := by kernel_rfl
theorem bo66 : hasBody Tryd.prog 66 = true := by kernel_rfl
theorem tvalid_ct (s : Str) : PureCt Tryd.prog 66 [.v (.string (bs s))] (.b (nameOk s)) := by
  refine pure_of_dw Tryd.func66 rfl bo66 (by simp [go_sem, D.nr, nrs, nrr]) (by simp [Tryd.f66]) ?_
  unfold Tryd.f66
  simp only [init_eq]
  have ff := True.intro
  refine stp Ln ?_
  refine dw_seq ?_
  refine stp Ln ?_
  refine cd (fun c1 => ?_) (fun c1 => ?_)
  · skip
    refine stp Ln ?_
    refine dw_ret ?_
    exact fin 0 (hr := by (try simp only [go_sem, ff]); all_goals (rw [nameOk, if_pos c1]))
  · skip
    refine dw_skip ?_
    show DW _ _ _ _ _
    refine dw_seq ?_
    refine stp Ln ?_
    refine cd (fun c3 => ?_) (fun c3 => ?_)
    · skip
      refine stp Ln ?_
      refine dw_ret ?_
      exact fin 0 (hr := by (try simp only [go_sem, ff]); all_goals (rw [nameOk, if_neg c1, if_pos (by omega)]))
    · skip
      refine dw_skip ?_
      show DW _ _ _ _ _
      refine stp Ln ?_
      refine dw_seq ?_
      refine stp Ln ?_
      refine dw_block ?_
      refine dw_rangeFunc (by simp only [go_sem, ff]) (by simp only [go_sem, ff]; exact rfl) Tryd.func92 rfl bo92 (by simp [Tryd.f92]) rfl (fun l rL hp ha hb hn => ?_)
      unfold Tryd.f92
      refine dw_seq ?_
      refine stp Ln ?_
      refine cd (fun d0 => ?_) (fun d0 => ?_)
      · skip
        exact absurd d0 c1
      · skip
        refine dw_skip ?_
        show DW _ _ _ _ _
        refine stp Ln ?_
        refine dw_block ?_
        refine lp (α := (Str) × (Nat) × (Bool) × Nat) [1] (fun ⟨rest, n, wild, nx⟩ => (n ≤ 8) ∧ (rest.length ≤ s.length) ∧ (7 < nx) ∧ (nameOk s = vscan (rparts rest) n wild) ∧ True) (fun ⟨rest, n, wild, nx⟩ => rest.length) (fun ⟨rest, n, wild, nx⟩ => [(4, .v (.string (bs rest)))]) (fun ⟨rest, n, wild, nx⟩ => [(0, ⟨4, [[.b false]]⟩), (6, ⟨3, [[.i n]]⟩), (7, ⟨4, [[.b wild]]⟩)]) (fun ⟨rest, n, wild, nx⟩ => nx) (s, 0, false, _) (hA := ⟨(by first | (omega) | (dsimp only; omega)), (by first | (first | omega | (simp; omega)) | (dsimp only; first | omega | (simp; omega))), iv, (by (try dsimp only); rw [nameOk_scan, if_neg c1, if_neg (by omega)]), trivial⟩) (round := ?_)
        rintro ⟨rest, n, wild, nx⟩ ⟨hn8, hl, hx, hv, -⟩
        show DW _ _ _ _ { n := _, t := tab _, h := _, nx := _, e := _ }
        simp only [List.cons_append, List.nil_append]
        have hL := lastIx_lt rest 46
        have n0 : 0 < nx := by omega
        have n6 : 6 < nx := by omega
        have n7 : 7 < nx := by omega
        refine dw_block ?_
        refine stp Ln ?_ (hok := by (try simp only [go_sem, ff]); all_goals (first | done | exact lastbyte_ct _ _ (by omega)))
        refine dw_seq ?_
        refine dw_seq ?_
        refine dw_yield (C := Ln) (r := rL) 5 (arr_at rfl) rfl rfl rfl (by simp only [List.take_succ_cons, List.take_zero, go_sem, ff]; exact rfl) ?_ (by simp only [go_sem, ff]; exact rfl) (by first | (simp only [go_sem, ff]; done) | (simp only [go_sem, ff]; exact rfl)) (by simp only [go_sem, ff]) (by simp only [go_sem, ff]; exact rfl) (by rw [hp]; rfl) (by rw [hp, hn]; show ∀ p ∈ [13], p < 30; decide) ?_
        · try simp only [go_sem, ff]
          all_goals (first | done | (repeat' (with_reducible apply And.intro)) <;> first | omega | (with_reducible assumption) | (intros; omega) | (intros; simp only [decide_eq_true_eq, decide_eq_false_iff_not, Bool.or_eq_true, Bool.and_eq_true, Bool.or_eq_false_iff, Bool.not_eq_true', Bool.not_eq_false'] at *; omega) | (simp_all; done) | (simp_all; omega))
        rw [ha, hb, hp, hn]
        show DW _ _ _ _ { n := _, t := setPs _ [13] _, h := _, nx := _ }
        simp only [setPs_cons, setPs_nil]
        refine rgn Ln ?_
        refine ⟨rfl, ?_⟩
        refine dw_block ?_
        refine stp Ln ?_
        refine dw_seq ?_
        refine stp Ln ?_
        refine cd (fun c9 => ?_) (fun c9 => ?_) (hp := rfl) (hq := rfl)
        · skip
          refine stp Ln ?_
          refine dw_ret ?_
          refine ⟨rfl, false, some .ret, ⟨rfl, rfl⟩, ⟨_, _, _, _, _, _⟩, by simp only [List.drop_succ_cons, List.drop_zero, S.put, go_sem, ff]; exact rfl, ?_, ?_⟩
          · try simp only [go_sem, ff]
            all_goals (first | done | (repeat' (with_reducible apply And.intro)) <;> first | omega | (with_reducible assumption) | (intros; omega) | (intros; simp only [decide_eq_true_eq, decide_eq_false_iff_not, Bool.or_eq_true, Bool.and_eq_true, Bool.or_eq_false_iff, Bool.not_eq_true', Bool.not_eq_false'] at *; omega) | (simp_all; done) | (simp_all; omega))
          try simp only [clear_eq]
          show DW _ _ _ _ _
          refine cd (fun d3 => ?_) (fun d3 => ?_) (hp := rfl) (hq := rfl)
          · skip
            refine dw_ret ?_
            refine ⟨.inr rfl, some .ret, rfl, ?_⟩
            exact fin 0 (hr := by (try simp only [go_sem, ff]); all_goals (first | (rw [hv, rparts_eq, vscan_1 c9]; done) | (rw [hv, rparts_eq, vscan_2 c9 c12])))
          · skip
            simp at d3
        · skip
          have c9b := cnt_le c9
          refine dw_skip ?_
          show DW _ _ _ _ _
          refine stp Ln ?_
          refine stp Ln ?_ (hok := by (try simp only [go_sem, ff]); all_goals (first | done | (intros; exact islabel_ct _)))
          refine cd (fun c12 => ?_) (fun c12 => ?_) (hp := rfl) (hq := rfl)
          · skip
            refine stp Ln ?_
            refine dw_ret ?_
            refine ⟨rfl, false, some .ret, ⟨rfl, rfl⟩, ⟨_, _, _, _, _, _⟩, by simp only [List.drop_succ_cons, List.drop_zero, S.put, go_sem, ff]; exact rfl, ?_, ?_⟩
            · try simp only [go_sem, ff]
              all_goals (first | done | (repeat' (with_reducible apply And.intro)) <;> first | omega | (with_reducible assumption) | (intros; omega) | (intros; simp only [decide_eq_true_eq, decide_eq_false_iff_not, Bool.or_eq_true, Bool.and_eq_true, Bool.or_eq_false_iff, Bool.not_eq_true', Bool.not_eq_false'] at *; omega) | (simp_all; done) | (simp_all; omega))
            try simp only [clear_eq]
            show DW _ _ _ _ _
            refine cd (fun d3 => ?_) (fun d3 => ?_) (hp := rfl) (hq := rfl)
            · skip
              refine dw_ret ?_
              refine ⟨.inr rfl, some .ret, rfl, ?_⟩
              exact fin 0 (hr := by (try simp only [go_sem, ff]); all_goals (first | (rw [hv, rparts_eq, vscan_1 c9]; done) | (rw [hv, rparts_eq, vscan_2 c9 c12])))
            · skip
              simp at d3
          · skip
            refine dw_skip ?_
            refine ⟨rfl, true, none, ⟨rfl, rfl⟩, ⟨_, _, _, _, _, _⟩, by simp only [List.drop_succ_cons, List.drop_zero, S.put, go_sem, ff]; exact rfl, ?_, ?_⟩
            · try simp only [go_sem, ff]
              all_goals (first | done | (repeat' (with_reducible apply And.intro)) <;> first | omega | (with_reducible assumption) | (intros; omega) | (intros; simp only [decide_eq_true_eq, decide_eq_false_iff_not, Bool.or_eq_true, Bool.and_eq_true, Bool.or_eq_false_iff, Bool.not_eq_true', Bool.not_eq_false'] at *; omega) | (simp_all; done) | (simp_all; omega))
            try simp only [clear_eq]
            show DW _ _ _ _ _
            refine cd (fun d3 => ?_) (fun d3 => ?_)
            · skip
              refine dw_ret ?_
              refine ⟨.inr rfl, none, rfl, ?_⟩
              show DW _ _ _ _ _
              refine stp Ln ?_
              refine dw_ret ?_
              exact fin 0 (hr := by (try simp only [go_sem, ff]); all_goals (rw [hv, rparts_eq, vscan_3 c9 c12, if_pos d3]; rfl))
            · skip
              refine dw_skip ?_
              show DW _ _ _ _ _
              refine rgn Ln ?_
              show ∃ _, _
              exact rnd (rest.take (lastIx rest 46).toNat, n + 1, ((rest.drop (lastIx rest 46 + 1).toNat) == [42]), _) (h1 := ⟨(by first | (omega) | (dsimp only; omega)), (by first | (first | omega | (simp; omega)) | (dsimp only; first | omega | (simp; omega))), iv, (by (try dsimp only); rw [hv, rparts_eq, vscan_3 c9 c12, if_neg d3]), trivial⟩) (h2 := by show (_ : Nat) < _; (simp; omega))
theorem bo34 : hasBody Tryd.prog 34 = true := by kernel_rfl
theorem nvalid_ct (s : Str) : PureCt Tryd.prog 34 [.v (.string (bs s))] (.b (nameOk s)) := by
  refine pure_of_dw Tryd.func34 rfl bo34 (by simp [go_sem, D.nr, nrs, nrr]) (by simp [Tryd.f34]) ?_
  unfold Tryd.f34
  simp only [init_eq]
  have ff := True.intro
  refine stp Ln ?_
  refine stp Ln ?_ (hok := by (try simp only [go_sem, ff]); all_goals (exact tvalid_ct _))
  refine dw_ret ?_
  exact fin 0 (hr := by (try simp only [go_sem, ff]); all_goals (rfl))

end Go.Proofs.YtfggmgafjabbjaaDoor
namespace Go.Proofs.YtfggmgafjabbjaaDoor
open Go.DL Go.Str Go.RowKit
set_option maxRecDepth 10000
set_option linter.unusedSimpArgs false
set_option linter.unusedVariables false
def cmpRen : Go.Shelf.Ren := { f := fun x => match x with | 213 => 116 | 265 => 148 | n => n, t := fun x => match x with | 3 => 3 | 9 => 9 | n => n, g := fun n => n }
theorem cmpLays : Go.Proofs.Lays.n213 Tryd.prog cmpRen := {
  mixed := mix
  f213 := Tryd.func116.trans (by kernel_rfl)
  f265 := Tryd.func148.trans (by kernel_rfl)
  t3 := Tryd.underlying3
  a3 := Tryd.isAgg3
  z3 := Tryd.sizeOf3
  v3 := Tryd.zeroValue3
  t9 := Tryd.underlying9
  a9 := Tryd.isAgg9
  z9 := Tryd.sizeOf9
  v9 := Tryd.zeroValue9 }
theorem cmpS0_ct (a b : Str) : PureCt Tryd.prog 116 [.v (.string (bs a)), .v (.string (bs b))] (.i (Go.Lib.compareBytes a b)) := by
  refine ⟨by kernel_rfl, by simp [D.nr], fun w I vs hI hg hr => ?_⟩
  obtain ⟨x, l, rfl, h1, h2⟩ := hr.of_cons
  obtain ⟨y, l, rfl, h3, h4⟩ := h2.of_cons
  rw [h4.of_nil, h1.v_inv, h3.v_inv]
  have := Go.Proofs.Any.bytealg_CompareString cmpLays (bs a) (bs b) w
  refine callsIn_wide.2 (this.mono ?_)
  rintro e w' ⟨rfl, rfl⟩
  refine ⟨_, rfl, ⟨rfl, rfl, rfl, Nat.le_refl _, Nat.le_refl _, fun _ _ => rfl⟩, ?_⟩
  rw [bs_data, bs_data]
  exact .v _
theorem bo93 : hasBody Tryd.prog 93 = true := by kernel_rfl
theorem cmpS1_ct (a : Str) (b : Str) : PureCt Tryd.prog 93 [.v (.string (bs a)), .v (.string (bs b))] (.i (Go.Lib.compareBytes a b)) := by
  refine pure_of_dw Tryd.func93 rfl bo93 (by simp [go_sem, D.nr, nrs, nrr]) (by simp [Tryd.f93]) ?_
  unfold Tryd.f93
  simp only [init_eq]
  have ff := True.intro
  refine stp Ln ?_
  refine stp Ln ?_ (hok := by (try simp only [go_sem, ff]); all_goals (exact cmpS0_ct _ _))
  refine dw_ret ?_
  exact fin 0 (hr := by (try simp only [go_sem, ff]); all_goals (rfl))

end Go.Proofs.YtfggmgafjabbjaaDoor
namespace Go.Proofs.YtfggmgafjabbjaaDoor
open Go.DL Go.Str Go.RowKit
set_option maxRecDepth 10000
set_option linter.unusedSimpArgs false
set_option linter.unusedVariables false
theorem bo91 : hasBody Tryd.prog 91 = true := by kernel_rfl
theorem puller_ct (s : Str) (h : H) (n : Nat) : RCt Tryd.prog 91 [.v (.string (bs s))] h n (fun d h' n' => d = .fn (.func 114) [] [.mptr (n + 5) 0 0, .mptr (n + 4) 0 0] ∧ h' = upd (upd h (n + 4) (some ⟨9, [[.v (.string (bs s))]]⟩)) (n + 5) (some ⟨4, [[.b (s != [46])]]⟩) ∧ n' = n + 10) := by
  refine rct_of_dw Tryd.func91 rfl bo91 (by simp [Tryd.f91]) (fun hnone => ?_)
  unfold Tryd.f91
  have ff := True.intro
  have e45 : (n + 4 = n + 5) = False := eq_false (by omega)
  have e54 : (n + 5 = n + 4) = False := eq_false (by omega)
  have ff := And.intro @e45 (And.intro @e54 ff)
  refine stp Ln ?_
  refine stp Ln ?_
  refine stp Ln ?_
  refine dw_ret ?_
  exact finr (upd (upd h (n + 4) (some ⟨9, [[.v (.string (bs s))]]⟩)) (n + 5) (some ⟨4, [[.b (s != [46])]]⟩)) (hr := by (try simp only [go_sem, ff]); all_goals (exact ⟨rfl, rfl, rfl⟩)) (hh := by intro q; left; by_cases e1 : q = n + 5 <;> by_cases e2 : q = n + 4 <;> simp [upd, e1, e2])
theorem bo114 : hasBody Tryd.prog 114 = true := by kernel_rfl
theorem pull_ct (more : Bool) (rest : Str) (m r : Nat) (h : H) (n : Nat) (hm : h m = some ⟨4, [[.b more]]⟩) (hr : h r = some ⟨9, [[.v (.string (bs rest))]]⟩) (hmr : m ≠ r) (hl : rest.length ≤ 1000) : RCt Tryd.prog 114 [.mptr m 0 0, .mptr r 0 0] h n (fun d h' n' => d = .tuple [.v (.string (bs (plGive more rest))), .b more] ∧ h' = upd (upd h m (some ⟨4, [[.b (plMore more rest)]]⟩)) r (some ⟨9, [[.v (.string (bs (plRest more rest)))]]⟩) ∧ n ≤ n') := by
  refine rct_of_dw Tryd.func114 rfl bo114 (by simp [Tryd.f114]) (fun hnone => ?_)
  unfold Tryd.f114
  have ff := True.intro
  have hrm : r ≠ m := fun e => hmr e.symm
  have hL := lastIx_lt rest 46
  have ff := And.intro @hm (And.intro @hr (And.intro @hmr (And.intro @hrm ff)))
  refine stp Ln ?_
  refine dw_seq ?_
  refine stp Ln ?_
  refine cd (fun c1 => ?_) (fun c1 => ?_)
  · skip
    refine stp Ln ?_
    refine dw_ret ?_
    exact finr (upd (upd h m (some ⟨4, [[.b (plMore more rest)]]⟩)) r (some ⟨9, [[.v (.string (bs (plRest more rest)))]]⟩)) (hr := by (try simp only [go_sem, ff]); all_goals (first | exact Nat.le_add_right _ _ | (refine ⟨?_, Nat.le_add_right _ _⟩; simp_all [plGive]))) (hh := by intro q; left; by_cases e1 : q = r <;> by_cases e2 : q = m <;> simp_all [upd, plMore, plRest] <;> (rw [if_neg (by omega)]))
  · skip
    refine dw_skip ?_
    show DW _ _ _ _ _
    refine stp Ln ?_ (hok := by (try simp only [go_sem, ff]); all_goals (first | done | exact lastbyte_ct _ _ (by omega)))
    refine stp Ln ?_
    refine dw_seq ?_
    refine stp Ln ?_
    refine cd (fun c2 => ?_) (fun c2 => ?_)
    · skip
      refine rgn Ln ?_
      show DW _ _ _ _ _
      refine stp Ln ?_
      refine dw_ret ?_
      exact finr (upd (upd h m (some ⟨4, [[.b (plMore more rest)]]⟩)) r (some ⟨9, [[.v (.string (bs (plRest more rest)))]]⟩)) (hr := by (try simp only [go_sem, ff]); all_goals (first | exact Nat.le_add_right _ _ | (refine ⟨?_, Nat.le_add_right _ _⟩; simp_all [plGive]))) (hh := by intro q; left; by_cases e1 : q = r <;> by_cases e2 : q = m <;> simp_all [upd, plMore, plRest] <;> (rw [if_neg (by omega)]))
    · skip
      refine rgn Ln ?_
      show DW _ _ _ _ _
      refine stp Ln ?_
      refine dw_ret ?_
      exact finr (upd (upd h m (some ⟨4, [[.b (plMore more rest)]]⟩)) r (some ⟨9, [[.v (.string (bs (plRest more rest)))]]⟩)) (hr := by (try simp only [go_sem, ff]); all_goals (first | exact Nat.le_add_right _ _ | (refine ⟨?_, Nat.le_add_right _ _⟩; simp_all [plGive]))) (hh := by intro q; left; by_cases e1 : q = r <;> by_cases e2 : q = m <;> simp_all [upd, plMore, plRest] <;> (rw [if_neg (by omega)]))

end Go.Proofs.YtfggmgafjabbjaaDoor
namespace Go.Proofs.YtfggmgafjabbjaaDoor
open Go.DL Go.Str Go.RowKit
set_option maxRecDepth 10000
set_option linter.unusedSimpArgs false
set_option linter.unusedVariables false
theorem bo60 : hasBody Tryd.prog 60 = true := by kernel_rfl
theorem ncompare_ct (a : Str) (b : Str) : PureCt Tryd.prog 60 [.v (.string (bs a)), .v (.string (bs b))] (.tuple [.i (if nameOk a && nameOk b then nmCmp a b else 0), .i (if nameOk a && nameOk b then 0 else 11)]) := by
  refine pure_of_dw Tryd.func60 rfl bo60 (by simp [go_sem, D.nr, nrs, nrr]) (by simp [Tryd.f60]) ?_
  unfold Tryd.f60
  simp only [init_eq]
  have ff := True.intro
  refine stp Ln ?_
  refine stp Ln ?_
  refine dw_seq ?_
  refine stp Ln ?_ (hok := by (try simp only [go_sem, ff]); all_goals (first | done | (simp only [tvalid_ct, and_true, implies_true]; done) | ((repeat' (with_reducible apply And.intro)) <;> first | exact tvalid_ct _ | (intros; exact tvalid_ct _))))
  refine cd (fun c1 => ?_) (fun c1 => ?_) (hp := rfl)
  · skip
    refine stp Ln ?_
    refine dw_ret ?_
    exact fin 1 (hr := by (try simp only [go_sem, ff]); all_goals ((have e : (nameOk a && nameOk b) = false := by revert c1; cases nameOk a <;> cases nameOk b <;> simp); rw [e]; rfl))
  · skip
    refine dw_skip ?_
    show DW _ _ _ _ _
    refine dw_seq ?_
    refine stp Ln ?_
    refine cd (fun c2 => ?_) (fun c2 => ?_)
    · skip
      refine stp Ln ?_
      refine dw_ret ?_
      exact fin 1 (hr := by (try simp only [go_sem, ff]); all_goals (rw [c1.1, c1.2, nmCmp, if_pos c2]; rfl))
    · skip
      refine dw_skip ?_
      show DW _ _ _ _ _
      refine dw_seq (cal1 Ln 1 (hct := by exact puller_ct b _ _) (hk := ?_))
      rintro res h2 n2 ⟨rfl, rfl, rfl⟩
      refine cal2 Ln ?_
      show DW _ _ _ _ _
      refine stp Ln ?_
      refine dw_seq ?_
      refine stp Ln ?_
      refine dw_block ?_
      refine dw_rangeFunc (by simp only [go_sem, ff]) (by simp only [go_sem, ff]; exact rfl) Tryd.func92 rfl bo92 (by simp [Tryd.f92]) rfl (fun l rL hp ha hb hn => ?_)
      unfold Tryd.f92
      refine dw_seq ?_
      refine stp Ln ?_
      refine cd (fun d0 => ?_) (fun d0 => ?_)
      · skip
        refine dw_ret ?_
        refine ⟨.inr rfl, none, rfl, ?_⟩
        show DW _ _ _ _ _
        refine stp Ln ?_
        refine dw_ret ?_
        exact fin 1 (hr := by (try simp only [go_sem, ff]); all_goals (first | (rw [c1.1, c1.2, nmCmp, if_neg c2, hv, cmp_3 c11 c14, if_pos d3]; rfl) | (rw [c1.1, c1.2, nmCmp, if_neg c2, d0]; rfl)))
      · skip
        refine dw_skip ?_
        show DW _ _ _ _ _
        refine stp Ln ?_
        refine dw_block ?_
        refine lp (α := (Str) × (Bool) × (Str) × Nat) [1] (fun ⟨rest, more, rest2, nx⟩ => (rest.length ≤ 60) ∧ (rest2.length ≤ 60) ∧ (30 < nx) ∧ (cmpLp (rlabs a) (rlabs b) = cmpLp (rparts rest) (pl more rest2)) ∧ True) (fun ⟨rest, more, rest2, nx⟩ => rest.length) (fun ⟨rest, more, rest2, nx⟩ => [(4, .v (.string (bs rest)))]) (fun ⟨rest, more, rest2, nx⟩ => [(0, ⟨3, [[.i 0]]⟩), (1, ⟨29, [[.i 0]]⟩), (22, ⟨9, [[.v (.string (bs rest2))]]⟩), (23, ⟨4, [[.b more]]⟩), (30, ⟨134, [[.fn (.func 114) [] [.mptr 23 0 0, .mptr 22 0 0]]]⟩)]) (fun ⟨rest, more, rest2, nx⟩ => nx) (a, (b != [46]), b, _) (hA := ⟨(by first | (exact nameOk_len c1.1) | (dsimp only; exact nameOk_len c1.1)), (by first | (exact nameOk_len c1.2) | (dsimp only; exact nameOk_len c1.2)), iv, (by (try dsimp only); rw [rlabs_pl b, rlabs, if_neg d0]), trivial⟩) (round := ?_)
        rintro ⟨rest, more, rest2, nx⟩ ⟨hl, hl2, hx, hv, -⟩
        show DW _ _ _ _ { n := _, t := tab _, h := _, nx := _, e := _ }
        simp only [List.cons_append, List.nil_append]
        have hL := lastIx_lt rest 46
        have n0 : 0 < nx := by omega
        have n1 : 1 < nx := by omega
        have n22 : 22 < nx := by omega
        have n23 : 23 < nx := by omega
        refine dw_block ?_
        refine stp Ln ?_ (hok := by (try simp only [go_sem, ff]); all_goals (first | done | exact lastbyte_ct _ _ (by omega)))
        refine dw_seq ?_
        refine dw_seq ?_
        refine dw_yield (C := Ln) (r := rL) 5 (arr_at rfl) rfl rfl rfl (by simp only [List.take_succ_cons, List.take_zero, go_sem, ff]; exact rfl) ?_ (by simp only [go_sem, ff]; exact rfl) (by first | (simp only [go_sem, ff]; done) | (simp only [go_sem, ff]; exact rfl)) (by simp only [go_sem, ff]) (by simp only [go_sem, ff]; exact rfl) (by rw [hp]; rfl) (by rw [hp, hn]; show ∀ p ∈ [32], p < 46; decide) ?_
        · try simp only [go_sem, ff]
          all_goals (first | done | (repeat' (with_reducible apply And.intro)) <;> first | omega | (with_reducible assumption) | (intros; omega) | (intros; simp only [decide_eq_true_eq, decide_eq_false_iff_not, Bool.or_eq_true, Bool.and_eq_true, Bool.or_eq_false_iff, Bool.not_eq_true', Bool.not_eq_false'] at *; omega) | (simp_all; done) | (simp_all; omega))
        rw [ha, hb, hp, hn]
        show DW _ _ _ _ { n := _, t := setPs _ [32] _, h := _, nx := _ }
        simp only [setPs_cons, setPs_nil]
        refine rgn Ln ?_
        refine ⟨rfl, ?_⟩
        refine dw_block ?_
        refine dw_seq (cal1 Ln 1 (hct := by exact pull_ct more rest2 23 22 _ _ rfl rfl (by decide) (by omega)) (hk := ?_))
        rintro res h2 n2 ⟨rfl, rfl, hn2⟩
        refine cal2 Ln ?_
        show DW _ _ _ _ _
        refine dw_seq ?_
        refine stp Ln ?_
        refine cd (fun c11 => ?_) (fun c11 => ?_) (hp := rfl) (hq := rfl)
        · skip
          refine stp Ln ?_
          refine dw_ret ?_
          refine ⟨rfl, false, some .ret, ⟨rfl, rfl⟩, ⟨_, _, _, _, _, _⟩, by simp only [List.drop_succ_cons, List.drop_zero, S.put, go_sem, ff]; exact rfl, ?_, ?_⟩
          · try simp only [go_sem, ff]
            all_goals (first | done | (repeat' (with_reducible apply And.intro)) <;> first | omega | (with_reducible assumption) | (intros; omega) | (intros; simp only [decide_eq_true_eq, decide_eq_false_iff_not, Bool.or_eq_true, Bool.and_eq_true, Bool.or_eq_false_iff, Bool.not_eq_true', Bool.not_eq_false'] at *; omega) | (simp_all; done) | (simp_all; omega))
          try simp only [clear_eq]
          show DW _ _ _ _ _
          refine cd (fun d3 => ?_) (fun d3 => ?_) (hp := rfl) (hq := rfl)
          · skip
            refine dw_ret ?_
            refine ⟨.inr rfl, some .ret, rfl, ?_⟩
            exact fin 1 (hr := by (try simp only [go_sem, ff]); all_goals (first | (rw [c1.1, c1.2, nmCmp, if_neg c2, hv, cmp_1 c11]; done) | (rw [c1.1, c1.2, nmCmp, if_neg c2, hv, cmp_1 c11]; rfl) | (rw [c1.1, c1.2, nmCmp, if_neg c2, hv, cmp_2 c11 c14]; rfl)))
          · skip
            simp at d3
        · skip
          refine dw_skip ?_
          show DW _ _ _ _ _
          refine stp Ln ?_ (hok := by (try simp only [go_sem, ff]); all_goals (exact cmpS1_ct _ _))
          refine stp Ln ?_
          refine cd (fun c14 => ?_) (fun c14 => ?_) (hp := rfl) (hq := rfl)
          · skip
            refine stp Ln ?_
            refine dw_ret ?_
            refine ⟨rfl, false, some .ret, ⟨rfl, rfl⟩, ⟨_, _, _, _, _, _⟩, by simp only [List.drop_succ_cons, List.drop_zero, S.put, go_sem, ff]; exact rfl, ?_, ?_⟩
            · try simp only [go_sem, ff]
              all_goals (first | done | (repeat' (with_reducible apply And.intro)) <;> first | omega | (with_reducible assumption) | (intros; omega) | (intros; simp only [decide_eq_true_eq, decide_eq_false_iff_not, Bool.or_eq_true, Bool.and_eq_true, Bool.or_eq_false_iff, Bool.not_eq_true', Bool.not_eq_false'] at *; omega) | (simp_all; done) | (simp_all; omega))
            try simp only [clear_eq]
            show DW _ _ _ _ _
            refine cd (fun d3 => ?_) (fun d3 => ?_) (hp := rfl) (hq := rfl)
            · skip
              refine dw_ret ?_
              refine ⟨.inr rfl, some .ret, rfl, ?_⟩
              exact fin 1 (hr := by (try simp only [go_sem, ff]); all_goals (first | (rw [c1.1, c1.2, nmCmp, if_neg c2, hv, cmp_1 c11]; done) | (rw [c1.1, c1.2, nmCmp, if_neg c2, hv, cmp_1 c11]; rfl) | (rw [c1.1, c1.2, nmCmp, if_neg c2, hv, cmp_2 c11 c14]; rfl)))
            · skip
              simp at d3
          · skip
            refine dw_skip ?_
            refine ⟨rfl, true, none, ⟨rfl, rfl⟩, ⟨_, _, _, _, _, _⟩, by simp only [List.drop_succ_cons, List.drop_zero, S.put, go_sem, ff]; exact rfl, ?_, ?_⟩
            · try simp only [go_sem, ff]
              all_goals (first | done | (repeat' (with_reducible apply And.intro)) <;> first | omega | (with_reducible assumption) | (intros; omega) | (intros; simp only [decide_eq_true_eq, decide_eq_false_iff_not, Bool.or_eq_true, Bool.and_eq_true, Bool.or_eq_false_iff, Bool.not_eq_true', Bool.not_eq_false'] at *; omega) | (simp_all; done) | (simp_all; omega))
            try simp only [clear_eq]
            show DW _ _ _ _ _
            refine cd (fun d3 => ?_) (fun d3 => ?_)
            · skip
              refine dw_ret ?_
              refine ⟨.inr rfl, none, rfl, ?_⟩
              show DW _ _ _ _ _
              refine stp Ln ?_
              refine dw_ret ?_
              exact fin 1 (hr := by (try simp only [go_sem, ff]); all_goals (first | (rw [c1.1, c1.2, nmCmp, if_neg c2, hv, cmp_3 c11 c14, if_pos d3]; rfl) | (rw [c1.1, c1.2, nmCmp, if_neg c2, d0]; rfl)))
            · skip
              refine dw_skip ?_
              show DW _ _ _ _ _
              refine rgn Ln ?_
              show ∃ _, _
              exact rnd (rest.take (lastIx rest 46).toNat, plMore more rest2, plRest more rest2, _) (h1 := ⟨(by first | (first | omega | (simp; omega)) | (dsimp only; first | omega | (simp; omega))), (by (try dsimp only); first | omega | (have := plRest_len more rest2; omega)), iv, (by (try dsimp only); rw [hv, cmp_3 c11 c14, if_neg d3]), trivial⟩) (h2 := by show (_ : Nat) < _; (simp; omega))

end Go.Proofs.YtfggmgafjabbjaaDoor
namespace Go.Proofs.YtfggmgafjabbjaaDoor
open Go.DL Go.Str Go.RowKit
set_option maxRecDepth 10000
set_option linter.unusedSimpArgs false
set_option linter.unusedVariables false
end Go.Proofs.YtfggmgafjabbjaaDoor
namespace Go.Proofs.YtfggmgafjabbjaaDoor
open Go.DL Go.Str Go.Rec
set_option maxRecDepth 10000
set_option linter.unusedSimpArgs false
set_option linter.unusedVariables false
theorem bo35 : hasBody Tryd.prog 35 = true := by kernel_rfl
theorem within_ct (x : Int) (lo : Int) (hi : Int) : PureCt Tryd.prog 35 [.i x, .i lo, .i hi] (.b (inR x lo hi)) := by
  refine pure_of_dw Tryd.func35 rfl bo35 (by simp [go_sem, D.nr, nrs, nrr]) (by simp [Tryd.f35]) ?_
  unfold Tryd.f35
  simp only [init_eq]
  have ff := True.intro
  refine stp Ln ?_
  refine stp Ln ?_
  refine dw_ret ?_
  exact fin 0 (hr := by (try simp only [go_sem, ff]); all_goals (rfl))
theorem bo102 : hasBody Tryd.prog 102 = true := by kernel_rfl
theorem withinb_ct (x : Int) (lo : Int) (hi : Int) : PureCt Tryd.prog 102 [.v (.int .u8 x), .v (.int .u8 lo), .v (.int .u8 hi)] (.b (inR x lo hi)) := by
  refine pure_of_dw Tryd.func102 rfl bo102 (by simp [go_sem, D.nr, nrs, nrr]) (by simp [Tryd.f102]) ?_
  unfold Tryd.f102
  simp only [init_eq]
  have ff := True.intro
  refine stp Ln ?_
  refine stp Ln ?_
  refine dw_ret ?_
  exact fin 0 (hr := by (try simp only [go_sem, ff]); all_goals (rfl))
theorem bo94 : hasBody Tryd.prog 94 = true := by kernel_rfl
theorem nanI_ct (x : Int) : PureCt Tryd.prog 94 [.i x] (.b (x != x)) := by
  refine pure_of_dw Tryd.func94 rfl bo94 (by simp [go_sem, D.nr, nrs, nrr]) (by simp [Tryd.f94]) ?_
  unfold Tryd.f94
  simp only [init_eq]
  have ff := True.intro
  refine stp Ln ?_
  refine stp Ln ?_
  refine dw_ret ?_
  exact fin 0 (hr := by (try simp only [go_sem, ff]); all_goals (rfl))
theorem bo103 : hasBody Tryd.prog 103 = true := by kernel_rfl
theorem nanS_ct (x : Str) : PureCt Tryd.prog 103 [.v (.string (bs x))] (.b (x != x)) := by
  refine pure_of_dw Tryd.func103 rfl bo103 (by simp [go_sem, D.nr, nrs, nrr]) (by simp [Tryd.f103]) ?_
  unfold Tryd.f103
  simp only [init_eq]
  have ff := True.intro
  refine stp Ln ?_
  refine stp Ln ?_
  refine dw_ret ?_
  exact fin 0 (hr := by (try simp only [go_sem, ff]); all_goals (rfl))
theorem bo61 : hasBody Tryd.prog 61 = true := by kernel_rfl
theorem cmpint_ct (x : Int) (y : Int) : PureCt Tryd.prog 61 [.i x, .i y] (.i (cmpI x y)) := by
  refine pure_of_dw Tryd.func61 rfl bo61 (by simp [go_sem, D.nr, nrs, nrr]) (by simp [Tryd.f61]) ?_
  unfold Tryd.f61
  simp only [init_eq]
  have ff := True.intro
  refine stp Ln ?_
  refine stp Ln ?_ (hok := by (try simp only [go_sem, ff]); all_goals (have h := nanI_ct x; simp only [bne_self_eq_false] at h; exact h))
  refine stp Ln ?_ (hok := by (try simp only [go_sem, ff]); all_goals (have h := nanI_ct y; simp only [bne_self_eq_false] at h; exact h))
  refine dw_seq ?_
  refine stp Ln ?_
  refine cd (fun c1 => ?_) (fun c1 => ?_) (hp := rfl)
  · skip
    simp at c1
  · skip
    refine dw_skip ?_
    show DW _ _ _ _ _
    refine dw_seq ?_
    refine stp Ln ?_
    refine cd (fun c2 => ?_) (fun c2 => ?_) (hp := rfl)
    · skip
      simp at c2
    · skip
      refine dw_skip ?_
      show DW _ _ _ _ _
      refine dw_seq ?_
      refine stp Ln ?_
      refine cd (fun c3 => ?_) (fun c3 => ?_)
      · skip
        refine stp Ln ?_
        refine dw_ret ?_
        exact fin 0 (hr := by (try simp only [go_sem, ff]); all_goals (simp only [cmpI, cmpS, ltS]; first | (simp_all; done) | ((repeat' split) <;> first | rfl | omega)))
      · skip
        refine dw_skip ?_
        show DW _ _ _ _ _
        refine dw_seq ?_
        refine stp Ln ?_
        refine cd (fun c4 => ?_) (fun c4 => ?_)
        · skip
          refine stp Ln ?_
          refine dw_ret ?_
          exact fin 0 (hr := by (try simp only [go_sem, ff]); all_goals (simp only [cmpI, cmpS, ltS]; first | (simp_all; done) | ((repeat' split) <;> first | rfl | omega)))
        · skip
          refine dw_skip ?_
          show DW _ _ _ _ _
          refine stp Ln ?_
          refine dw_ret ?_
          exact fin 0 (hr := by (try simp only [go_sem, ff]); all_goals (simp only [cmpI, cmpS, ltS]; first | (simp_all; done) | ((repeat' split) <;> first | rfl | omega)))
theorem bo70 : hasBody Tryd.prog 70 = true := by kernel_rfl
theorem cmpstr_ct (x : Str) (y : Str) : PureCt Tryd.prog 70 [.v (.string (bs x)), .v (.string (bs y))] (.i (cmpS x y)) := by
  refine pure_of_dw Tryd.func70 rfl bo70 (by simp [go_sem, D.nr, nrs, nrr]) (by simp [Tryd.f70]) ?_
  unfold Tryd.f70
  simp only [init_eq]
  have ff := True.intro
  refine stp Ln ?_
  refine stp Ln ?_ (hok := by (try simp only [go_sem, ff]); all_goals (have h := nanS_ct x; simp only [bne_self_eq_false] at h; exact h))
  refine stp Ln ?_ (hok := by (try simp only [go_sem, ff]); all_goals (have h := nanS_ct y; simp only [bne_self_eq_false] at h; exact h))
  refine dw_seq ?_
  refine stp Ln ?_
  refine cd (fun c1 => ?_) (fun c1 => ?_) (hp := rfl)
  · skip
    simp at c1
  · skip
    refine dw_skip ?_
    show DW _ _ _ _ _
    refine dw_seq ?_
    refine stp Ln ?_
    refine cd (fun c2 => ?_) (fun c2 => ?_) (hp := rfl)
    · skip
      simp at c2
    · skip
      refine dw_skip ?_
      show DW _ _ _ _ _
      refine dw_seq ?_
      refine stp Ln ?_
      refine cd (fun c3 => ?_) (fun c3 => ?_)
      · skip
        refine stp Ln ?_
        refine dw_ret ?_
        exact fin 0 (hr := by (try simp only [go_sem, ff]); all_goals (simp only [cmpI, cmpS, ltS]; first | (simp_all; done) | ((repeat' split) <;> first | rfl | omega)))
      · skip
        refine dw_skip ?_
        show DW _ _ _ _ _
        refine dw_seq ?_
        refine stp Ln ?_
        refine cd (fun c4 => ?_) (fun c4 => ?_)
        · skip
          refine stp Ln ?_
          refine dw_ret ?_
          exact fin 0 (hr := by (try simp only [go_sem, ff]); all_goals (simp only [cmpI, cmpS, ltS]; first | (simp_all; done) | ((repeat' split) <;> first | rfl | omega)))
        · skip
          refine dw_skip ?_
          show DW _ _ _ _ _
          refine stp Ln ?_
          refine dw_ret ?_
          exact fin 0 (hr := by (try simp only [go_sem, ff]); all_goals (simp only [cmpI, cmpS, ltS]; first | (simp_all; done) | ((repeat' split) <;> first | rfl | omega)))
theorem bo101 : hasBody Tryd.prog 101 = true := by kernel_rfl
theorem haspre0_ct (s : Str) (p : Str) : PureCt Tryd.prog 101 [.v (.string (bs s)), .v (.string (bs p))] (.b (hasPre s p)) := by
  refine pure_of_dw Tryd.func101 rfl bo101 (by simp [go_sem, D.nr, nrs, nrr]) (by simp [Tryd.f101]) ?_
  unfold Tryd.f101
  simp only [init_eq]
  have ff := True.intro
  refine stp Ln ?_
  refine stp Ln ?_
  refine dw_ret ?_
  exact fin 0 (hr := by (try simp only [go_sem, ff]); all_goals (have e : decide ((p.length : Int) ≤ s.length) = decide (p.length ≤ s.length) := decide_eq_decide.2 (by omega); rw [hasPre, e]))
theorem bo67 : hasBody Tryd.prog 67 = true := by kernel_rfl
theorem haspre_ct (s : Str) (p : Str) : PureCt Tryd.prog 67 [.v (.string (bs s)), .v (.string (bs p))] (.b (hasPre s p)) := by
  refine pure_of_dw Tryd.func67 rfl bo67 (by simp [go_sem, D.nr, nrs, nrr]) (by simp [Tryd.f67]) ?_
  unfold Tryd.f67
  simp only [init_eq]
  have ff := True.intro
  refine stp Ln ?_
  refine stp Ln ?_ (hok := by (try simp only [go_sem, ff]); all_goals (first | exact ok0 | (apply haspre0_ct <;> omega) | (intros; apply haspre0_ct <;> omega)))
  refine dw_ret ?_
  exact fin 0 (hr := by (try simp only [go_sem, ff]); all_goals (rfl))
theorem bo36 : hasBody Tryd.prog 36 = true := by kernel_rfl
theorem iswild_ct (s : Str) : PureCt Tryd.prog 36 [.v (.string (bs s))] (.b (wildB s)) := by
  refine pure_of_dw Tryd.func36 rfl bo36 (by simp [go_sem, D.nr, nrs, nrr]) (by simp [Tryd.f36]) ?_
  unfold Tryd.f36
  simp only [init_eq]
  have ff := True.intro
  refine stp Ln ?_
  refine stp Ln ?_ (hok := by (try simp only [go_sem, ff]); all_goals (first | exact ok0 | (apply haspre_ct <;> omega) | (intros; apply haspre_ct <;> omega)))
  refine dw_ret ?_
  exact fin 0 (hr := by (try simp only [go_sem, ff]); all_goals (rw [wild_pre]))
theorem bo68 : hasBody Tryd.prog 68 = true := by kernel_rfl
theorem isfree_ct (s : Str) : PureCt Tryd.prog 68 [.v (.string (bs s))] (.b (freeB s)) := by
  rw [freeB]
  refine pure_of_dw Tryd.func68 rfl bo68 (by simp [go_sem, D.nr, nrs, nrr]) (by simp [Tryd.f68]) ?_
  unfold Tryd.f68
  simp only [init_eq]
  have ff := True.intro
  have e1 : ((s.length:Int) - 1).toNat = s.length - 1 := by omega
  have ff := And.intro @e1 ff
  refine stp Ln ?_
  refine dw_seq ?_
  have hin : inR (s.length : Int) 1 40 = true → (1:Int) ≤ s.length ∧ (s.length : Int) ≤ 40 := by intro h; simp only [inR, Bool.and_eq_true, decide_eq_true_eq] at h; exact h
  refine stp Ln ?_ (hok := by (try simp only [go_sem, ff]); all_goals (refine ⟨⟨⟨within_ct _ _ _, fun h => by have := hin h; omega⟩, fun h => ?_⟩, fun h => ?_⟩ <;> (rw [Bool.or_eq_false_iff, Bool.not_eq_false'] at h; have := hin h.1; omega)))
  refine cd (fun c1 => ?_) (fun c1 => ?_)
  · skip
    try simp only [inR, Bool.and_eq_true, Bool.and_eq_false_iff, decide_eq_true_eq, decide_eq_false_iff_not] at c1
    refine stp Ln ?_
    refine dw_ret ?_
    exact fin 0 (hr := by (try simp only [go_sem, ff]); all_goals ((repeat' split) <;> first | rfl | (exfalso; omega)))
  · skip
    try simp only [inR, Bool.and_eq_true, Bool.and_eq_false_iff, decide_eq_true_eq, decide_eq_false_iff_not] at c1
    refine dw_skip ?_
    show DW _ _ _ _ _
    refine dw_seq ?_
    refine stp Ln ?_
    refine dw_block ?_
    refine lp (α := (Nat) × Nat) [0, 23] (fun ⟨k, nx⟩ => (k ≤ s.length) ∧ (allN s.length (freeIn s) 0 = allN s.length (freeIn s) k) ∧ True) (fun ⟨k, nx⟩ => s.length - k) (fun ⟨k, nx⟩ => [(24, .i k)]) (fun ⟨k, nx⟩ => []) (fun ⟨k, nx⟩ => nx) (0, _) (hA := ⟨iv, rfl, trivial⟩) (round := ?_)
    rintro ⟨k, nx⟩ ⟨hk, hv, -⟩
    show DW _ _ _ _ { n := _, t := tab _, h := _, nx := _, e := _ }
    simp only [List.cons_append, List.nil_append]
    refine stp Ln ?_
    refine dw_seq ?_
    refine cd (fun c2 => ?_) (fun c2 => ?_) (hp := rfl)
    · skip
      have hk2 : k < s.length := by simpa using c2
      refine dw_skip ?_
      show DW _ _ _ _ _
      refine dw_seq ?_
      refine dw_block ?_
      refine stp Ln ?_
      refine stp Ln ?_
      refine stp Ln ?_ (hok := by (try simp only [go_sem, ff]); all_goals (first | done | (simp only [withinb_ct, and_true, implies_true]; done) | ((repeat' (with_reducible apply And.intro)) <;> first | exact withinb_ct _ _ _ | (intros; exact withinb_ct _ _ _) | (intros; simp_all; done))))
      refine cd (fun c3 => ?_) (fun c3 => ?_)
      · skip
        refine stp Ln ?_
        refine dw_ret ?_
        exact fin 0 (hr := by (try simp only [go_sem, ff]); all_goals (have h8 : freeIn s k = false := (by simp only [freeIn, alnum, Bool.or_eq_false_iff, Bool.and_eq_false_iff, decide_eq_false_iff_not]; (try simp only [inR, Bool.and_eq_true, Bool.and_eq_false_iff, decide_eq_true_eq, decide_eq_false_iff_not] at c3); omega); rw [hv, allN_eq, if_pos hk2, h8]; (repeat' split) <;> rfl))
      · skip
        refine dw_skip ?_
        show DW _ _ _ _ _
        refine rgn Ln ?_
        show ∃ _, _
        exact rnd (k + 1, _) (h1 := ⟨iv, (by (try dsimp only); have h8 : freeIn s k = true := (by simp only [freeIn, alnum, Bool.or_eq_true, Bool.and_eq_true, decide_eq_true_eq]; (try simp only [inR, Bool.and_eq_true, Bool.and_eq_false_iff, decide_eq_true_eq, decide_eq_false_iff_not] at c3); omega); rw [hv, allN_eq, if_pos hk2, h8]; rfl), trivial⟩)
    · skip
      refine dw_exit ?_
      show DW _ _ _ _ _
      refine stp Ln ?_
      refine dw_ret ?_
      exact fin 0 (hr := by (try simp only [go_sem, ff]); all_goals (rw [hv, allN_eq, if_neg (by omega), if_neg (by omega), if_neg (by omega), if_neg (by omega), if_neg (by omega)]))
end Go.Proofs.YtfggmgafjabbjaaDoor
namespace Go.Proofs.YtfggmgafjabbjaaDoor
open Go.DL Go.Str Go.Rec
set_option maxRecDepth 10000
set_option linter.unusedSimpArgs false
set_option linter.unusedVariables false
theorem bo69 : hasBody Tryd.prog 69 = true := by kernel_rfl
theorem cmpor_ct (l : List Int) : PureCt Tryd.prog 69 [.list false (l.map iR)] (.i (orFrom l 0)) := by
  refine pure_of_dw Tryd.func69 rfl bo69 (by simp [go_sem, D.nr, nrs, nrr]) (by simp [Tryd.f69]) ?_
  unfold Tryd.f69
  simp only [init_eq]
  have ff := True.intro
  refine dw_len 0 rfl fun hlen => ?_
  simp only [List.length_map, maxLen] at hlen
  refine stp Ln ?_
  refine stp Ln ?_
  refine dw_seq ?_
  refine stp Ln ?_
  refine dw_block ?_
  refine lp (α := (Nat) × Nat) [3, 6, 7] (fun ⟨k, nx⟩ => (k ≤ l.length) ∧ (orFrom l 0 = orFrom l k) ∧ True) (fun ⟨k, nx⟩ => l.length - k) (fun ⟨k, nx⟩ => [(8, .i k)]) (fun ⟨k, nx⟩ => []) (fun ⟨k, nx⟩ => nx) (0, _) (hA := ⟨iv, rfl, trivial⟩) (round := ?_)
  rintro ⟨k, nx⟩ ⟨hk, hv, -⟩
  show DW _ _ _ _ { n := _, t := tab _, h := _, nx := _, e := _ }
  simp only [List.cons_append, List.nil_append]
  refine stp Ln ?_
  refine dw_seq ?_
  refine cd (fun c1 => ?_) (fun c1 => ?_) (hp := rfl)
  · skip
    have hk2 : k < l.length := by simpa using c1
    have ff := And.intro (getD_iR hk2) ff
    refine dw_skip ?_
    show DW _ _ _ _ _
    refine dw_seq ?_
    refine dw_block ?_
    refine stp Ln ?_
    refine stp Ln ?_
    refine cd (fun c2 => ?_) (fun c2 => ?_) (hp := rfl) (hq := rfl)
    · skip
      refine stp Ln ?_
      refine dw_ret ?_
      exact fin 0 (hr := by (try simp only [go_sem, ff]); all_goals (rw [hv, orFrom_eq, if_pos hk2, if_pos c2]))
    · skip
      refine dw_skip ?_
      show DW _ _ _ _ _
      refine rgn Ln ?_
      show ∃ _, _
      exact rnd (k + 1, _) (h1 := ⟨iv, (by (try dsimp only); rw [hv, orFrom_eq, if_pos hk2, if_neg (by rw [c2]; simp)]), trivial⟩)
  · skip
    refine dw_exit ?_
    show DW _ _ _ _ _
    refine stp Ln ?_
    refine dw_ret ?_
    exact fin 0 (hr := by (try simp only [go_sem, ff]); all_goals (rw [hv, orFrom_eq, if_neg (by omega)]))
theorem bo38 : hasBody Tryd.prog 38 = true := by kernel_rfl
theorem cmpdata_ct (a : Dat) (b : Dat) : PureCt Tryd.prog 38 [.agg a.d, .agg b.d] (.i (datC a b)) := by
  refine pure_of_dw Tryd.func38 rfl bo38 (by simp [go_sem, D.nr, nrs, nrr]) (by simp [Tryd.f38]) ?_
  unfold Tryd.f38
  simp only [init_eq]
  have ff := True.intro
  refine stp Ln ?_
  refine stp Ln ?_ (hok := by (try simp only [go_sem, ff]); all_goals (first | done | ((repeat' (with_reducible apply And.intro)) <;> first | exact cmpstr_ct _ _ | exact cmpint_ct _ _ | exact cmpor_ct [_, _, _] | omega)))
  refine dw_ret ?_
  exact fin 0 (hr := by (try simp only [go_sem, ff]); all_goals (rw [← orFrom_dat]; rfl))
theorem bo37 : hasBody Tryd.prog 37 = true := by kernel_rfl
theorem vdatum_ct (r : Rule) (d : Dat) (hr : r.even = true → 0 ≤ r.n0) : PureCt Tryd.prog 37 [.agg r.d, .agg d.d] (.b (datOk r d)) := by
  refine pure_of_dw Tryd.func37 rfl bo37 (by simp [go_sem, D.nr, nrs, nrr]) (by simp [Tryd.f37]) ?_
  unfold Tryd.f37
  simp only [init_eq]
  have ff := True.intro
  refine stp Ln ?_
  refine dw_seq ?_
  refine stp Ln ?_ (hok := by (try simp only [go_sem, ff]); all_goals (first | done | ((repeat' (with_reducible apply And.intro)) <;> first | exact within_ct _ _ _ | (intros; exact within_ct _ _ _) | (intro h; simp only [Bool.and_eq_true, Bool.not_eq_true', Bool.or_eq_false_iff, Bool.not_eq_false', inR_iff] at h; have := hr h.2; omega) | (intros; simp_all; done))))
  refine cd (fun c1 => ?_) (fun c1 => ?_)
  · skip
    refine stp Ln ?_
    refine dw_ret ?_
    exact fin 0 (hr := by (try simp only [go_sem, ff]); all_goals (rcases c1 with (h | h) | ⟨h1, h2⟩ <;> simp [datOk, *]))
  · skip
    refine dw_skip ?_
    show DW _ _ _ _ _
    refine dw_seq ?_
    refine stp Ln ?_
    refine dw_block ?_
    refine stp Ln ?_
    refine cd (fun c2 => ?_) (fun c2 => ?_)
    · skip
      refine stp Ln ?_ (hok := by (try simp only [go_sem, ff]); all_goals (first | done | ((repeat' (with_reducible apply And.intro)) <;> first | exact nvalid_ct _ | (intros; exact nvalid_ct _) | exact iswild_ct _ | (intros; exact iswild_ct _))))
      refine dw_ret ?_
      exact fin 0 (hr := by (try simp only [go_sem, ff]); all_goals (obtain ⟨⟨h1, h2⟩, h3⟩ := c1; rcases h3 with h3 | h3 <;> simp [datOk, textOk, *]))
    · skip
      refine stp Ln ?_
      refine cd (fun c3 => ?_) (fun c3 => ?_)
      · skip
        refine stp Ln ?_ (hok := by (try simp only [go_sem, ff]); all_goals (exact nvalid_ct _))
        refine dw_ret ?_
        exact fin 0 (hr := by (try simp only [go_sem, ff]); all_goals (obtain ⟨⟨h1, h2⟩, h3⟩ := c1; rcases h3 with h3 | h3 <;> simp [datOk, textOk, *]))
      · skip
        refine stp Ln ?_
        refine cd (fun c4 => ?_) (fun c4 => ?_)
        · skip
          refine stp Ln ?_ (hok := by (try simp only [go_sem, ff]); all_goals (exact isfree_ct _))
          refine dw_ret ?_
          exact fin 0 (hr := by (try simp only [go_sem, ff]); all_goals (obtain ⟨⟨h1, h2⟩, h3⟩ := c1; rcases h3 with h3 | h3 <;> simp [datOk, textOk, *]))
        · skip
          refine dw_skip ?_
          show DW _ _ _ _ _
          refine stp Ln ?_
          refine dw_ret ?_
          exact fin 0 (hr := by (try simp only [go_sem, ff]); all_goals (obtain ⟨⟨h1, h2⟩, h3⟩ := c1; rcases h3 with h3 | h3 <;> simp [datOk, textOk, *] <;> cases d.t <;> rfl))
end Go.Proofs.YtfggmgafjabbjaaDoor
namespace Go.Proofs.YtfggmgafjabbjaaDoor
open Go.DL Go.Str Go.Rec Go.Cmp
set_option maxRecDepth 10000
set_option linter.unusedSimpArgs false
set_option linter.unusedVariables false
theorem rule_ldc {k : Nat} (h1 : 1 ≤ k) (h8 : k ≤ 8) : ∃ rest : List D, ∀ hh, ldc Tryd.prog (.v (.pointer (some ⟨0, k * 8, none⟩))) hh = (ruleAt k).d ++ rest := by
  refine ⟨(rulesTab.drop (k * 8 + 8)).map D.v, fun hh => ?_⟩
  have : k = 1 ∨ k = 2 ∨ k = 3 ∨ k = 4 ∨ k = 5 ∨ k = 6 ∨ k = 7 ∨ k = 8 := by omega
  rcases this with e | e | e | e | e | e | e | e <;> subst e <;> rfl
theorem bo14 : hasBody Tryd.prog 14 = true := by kernel_rfl
theorem rvalid_ct (s : RSet) : PureCt Tryd.prog 14 [.agg s.d] (.b (setOk s)) := by
  refine pure_of_dw Tryd.func14 rfl bo14 (by simp [go_sem, D.nr, nrs, nrr]) (by simp [Tryd.f14]) ?_
  unfold Tryd.f14
  simp only [init_eq]
  have ff := True.intro
  refine stp Ln ?_
  refine dw_seq ?_
  refine stp Ln ?_ (hok := by (try simp only [go_sem, ff]); all_goals (first | done | ((repeat' (with_reducible apply And.intro)) <;> first | exact nvalid_ct _ | (intros; exact nvalid_ct _) | exact within_ct _ _ _ | (intros; exact within_ct _ _ _) | (intros; simp_all; done) | omega)))
  refine cd (fun c1 => ?_) (fun c1 => ?_)
  · skip
    refine stp Ln ?_
    refine dw_ret ?_
    exact fin 0 (hr := by (try simp only [go_sem, ff]); all_goals (rcases c1 with (h | h) | h <;> simp [setOk, h]))
  · skip
    refine dw_skip ?_
    show DW _ _ _ _ _
    refine dw_seq ?_
    refine stp Ln ?_ (hok := by (try simp only [go_sem, ff]); all_goals (exact within_ct _ _ _))
    refine cd (fun c2 => ?_) (fun c2 => ?_)
    · skip
      refine stp Ln ?_
      refine dw_ret ?_
      exact fin 0 (hr := by (try simp only [go_sem, ff]); all_goals (simp [setOk, c2]))
    · skip
      have hty := inR_iff.1 c1.1.2
      obtain ⟨rest, hld⟩ := rule_ldc (k := s.ty.toNat) (by omega) (by omega)
      have ff := And.intro @hld ff
      refine dw_skip ?_
      show DW _ _ _ _ _
      refine stp Ln ?_ (hok := by (try simp only [go_sem, ff]); all_goals (first | done | omega | ((repeat' (with_reducible apply And.intro)) <;> first | omega | rfl)))
      refine dw_seq ?_
      refine stp Ln ?_ (hok := by (try simp only [go_sem, ff]); all_goals (first | done | ((repeat' (with_reducible apply And.intro)) <;> first | exact iswild_ct _ | (intros; exact iswild_ct _) | (intros; simp_all; done) | (intros; by_cases hq : (ruleAt s.ty.toNat).single = true <;> simp_all))))
      refine cd (fun c3 => ?_) (fun c3 => ?_)
      · skip
        refine stp Ln ?_
        refine dw_ret ?_
        exact fin 0 (hr := by (try simp only [go_sem, ff]); all_goals (rcases c3 with ⟨h1, h2⟩ | ⟨h1, h2⟩ <;> simp [setOk, h1, h2]))
      · skip
        refine dw_skip ?_
        show DW _ _ _ _ _
        refine dw_seq ?_
        refine stp Ln ?_
        refine dw_block ?_
        refine lp (α := (Nat) × Nat) [1, 3, 50, 51] (fun ⟨k, nx⟩ => (k ≤ s.data.length) ∧ (27 < nx) ∧ (allN s.data.length (datAt s.ty.toNat s.data) 0 = allN s.data.length (datAt s.ty.toNat s.data) k) ∧ True) (fun ⟨k, nx⟩ => s.data.length - k) (fun ⟨k, nx⟩ => [(52, .i k)]) (fun ⟨k, nx⟩ => [(0, ⟨24, [s.d]⟩), (27, ⟨60, [(ruleAt s.ty.toNat).d]⟩)]) (fun ⟨k, nx⟩ => nx) (0, _) (hA := ⟨iv, iv, rfl, trivial⟩) (round := ?_)
        rintro ⟨k, nx⟩ ⟨hk, hx, hv, -⟩
        show DW _ _ _ _ { n := _, t := tab _, h := _, nx := _, e := _ }
        simp only [List.cons_append, List.nil_append]
        have n0 : 0 < nx := by omega
        have ff := And.intro @hx (And.intro @n0 ff)
        refine stp Ln ?_
        refine dw_seq ?_
        refine cd (fun c4 => ?_) (fun c4 => ?_) (hp := rfl)
        · skip
          have hk2 : k < s.data.length := by simpa using c4
          have ff := And.intro (getD_dat hk2) ff
          refine dw_skip ?_
          show DW _ _ _ _ _
          refine dw_seq ?_
          refine dw_block ?_
          refine stp Ln ?_
          have hl8 := inR_iff.1 c2
          have e1 : ((k:Int) - 1).toNat = k - 1 := by omega
          have hk1 : k - 1 < s.data.length := by omega
          have ff := And.intro @e1 (And.intro (getD_dat hk1) ff)
          refine stp Ln ?_ (hok := by (try simp only [go_sem, ff]); all_goals (first | done | ((repeat' (with_reducible apply And.intro)) <;> first | exact vdatum_ct _ _ (rule_even _) | (intros; exact vdatum_ct _ _ (rule_even _)) | exact cmpdata_ct _ _ | (intros; exact cmpdata_ct _ _) | (intros; simp_all; done) | (intro h; simp only [Bool.and_eq_true, decide_eq_true_eq] at h; have := h.2; omega) | skip)))
          refine cd (fun c5 => ?_) (fun c5 => ?_)
          · skip
            refine stp Ln ?_
            refine dw_ret ?_
            exact fin 0 (hr := by (try simp only [go_sem, ff]); all_goals (rw [set_rest c1 c2 c3, hv, allN_eq, if_pos hk2, dat_no c5]; rfl))
          · skip
            refine dw_skip ?_
            show DW _ _ _ _ _
            refine rgn Ln ?_
            show ∃ _, _
            exact rnd (k + 1, _) (h1 := ⟨iv, iv, (by (try dsimp only); rw [hv, allN_eq, if_pos hk2, dat_yes c5]; rfl), trivial⟩)
        · skip
          refine dw_exit ?_
          show DW _ _ _ _ _
          refine stp Ln ?_
          refine dw_ret ?_
          exact fin 0 (hr := by (try simp only [go_sem, ff]); all_goals (rw [set_rest c1 c2 c3, hv, allN_eq, if_neg (by omega)]))

end Go.Proofs.YtfggmgafjabbjaaDoor
namespace Go.Proofs.YtfggmgafjabbjaaDoor
open Go.DL Go.Str Go.Rec Go.Cmp
set_option maxRecDepth 10000
set_option linter.unusedSimpArgs false
set_option linter.unusedVariables false
theorem bo22 : hasBody Tryd.prog 22 = true := by kernel_rfl
theorem rsame02_ct (a : RSet) (b : RSet) (ha : a.data.length ≤ 100000) : PureCt Tryd.prog 22 [.agg a.d, .agg b.d] (.b (sameB a b)) := by
  refine pure_of_dw Tryd.func22 rfl bo22 (by simp [go_sem, D.nr, nrs, nrr]) (by simp [Tryd.f22]) ?_
  unfold Tryd.f22
  simp only [init_eq]
  have ff := True.intro
  refine stp Ln ?_
  refine dw_seq ?_
  refine stp Ln ?_
  refine cd (fun c1 => ?_) (fun c1 => ?_)
  · skip
    refine stp Ln ?_
    refine dw_ret ?_
    exact fin 0 (hr := by (try simp only [go_sem, ff]); all_goals (rw [sameB_no c1]))
  · skip
    refine dw_skip ?_
    show DW _ _ _ _ _
    refine dw_seq ?_
    refine stp Ln ?_
    refine dw_block ?_
    refine lp (α := (Nat) × Nat) [2, 3] (fun ⟨k, nx⟩ => (k ≤ a.data.length) ∧ (1 < nx) ∧ (∀ i, i < k → a.data[i]! = b.data[i]!) ∧ True) (fun ⟨k, nx⟩ => a.data.length - k) (fun ⟨k, nx⟩ => [(5, .i k)]) (fun ⟨k, nx⟩ => [(0, ⟨24, [a.d]⟩), (1, ⟨24, [b.d]⟩)]) (fun ⟨k, nx⟩ => nx) (0, _) (hA := ⟨iv, iv, (by first | (intro i hi; omega) | (dsimp only; intro i hi; omega)), trivial⟩) (round := ?_)
    rintro ⟨k, nx⟩ ⟨hk, hx, hv, -⟩
    show DW _ _ _ _ { n := _, t := tab _, h := _, nx := _, e := _ }
    simp only [List.cons_append, List.nil_append]
    have n0 : 0 < nx := by omega
    have ff := And.intro @hx (And.intro @n0 ff)
    refine dw_seq ?_
    refine stp Ln ?_
    refine cd (fun c2 => ?_) (fun c2 => ?_) (hp := rfl)
    · skip
      have hk2 : k < a.data.length := by simpa using c2
      have hk3 : k < b.data.length := by have := c1.2; omega
      have ff := And.intro (getD_dat hk2) (And.intro (getD_dat hk3) ff)
      refine dw_skip ?_
      show DW _ _ _ _ _
      refine dw_seq ?_
      refine dw_block ?_
      refine stp Ln ?_
      refine cd (fun c3 => ?_) (fun c3 => ?_) (hp := rfl) (hq := rfl)
      · skip
        refine stp Ln ?_
        refine dw_ret ?_
        exact fin 0 (hr := by (try simp only [go_sem, ff]); all_goals (rw [sameB_at (dat_diff c3)]))
      · skip
        refine dw_skip ?_
        show DW _ _ _ _ _
        refine rgn Ln ?_
        show ∃ _, _
        exact rnd (k + 1, _) (h1 := ⟨iv, iv, (by (try dsimp only); intro i hi; by_cases e : i = k; subst e; exact dat_same c3; exact hv i (by omega)), trivial⟩)
    · skip
      refine dw_exit ?_
      show DW _ _ _ _ _
      refine stp Ln ?_
      refine dw_ret ?_
      exact fin 0 (hr := by (try simp only [go_sem, ff]); all_goals (rw [sameB_yes c1 fun i hi => hv i (by omega)]))

end Go.Proofs.YtfggmgafjabbjaaDoor
namespace Go.Proofs.YtfggmgafjabbjaaDoor
open Go.DL Go.Str Go.Rec Go.Cmp Go.Zon
set_option maxRecDepth 10000
set_option linter.unusedSimpArgs false
set_option linter.unusedVariables false
theorem bo164 : hasBody Tryd.prog 164 = true := by kernel_rfl
theorem hassuf0_ct (s : Str) (p : Str) (hs : s.length ≤ 1000000) : PureCt Tryd.prog 164 [.v (.string (bs s)), .v (.string (bs p))] (.b (hasSuf s p)) := by
  refine pure_of_dw Tryd.func164 rfl bo164 (by simp [go_sem, D.nr, nrs, nrr]) (by simp [Tryd.f164]) ?_
  unfold Tryd.f164
  simp only [init_eq]
  have ff := True.intro
  have e1 : ((s.length : Int) - p.length).toNat = s.length - p.length := by omega
  have ff := And.intro @e1 ff
  refine stp Ln ?_
  refine stp Ln ?_
  refine dw_ret ?_
  exact fin 0 (hr := by (try simp only [go_sem, ff]); all_goals (simp [hasSuf]))
theorem bo162 : hasBody Tryd.prog 162 = true := by kernel_rfl
theorem hassuf_ct (s : Str) (p : Str) (hs : s.length ≤ 1000000) : PureCt Tryd.prog 162 [.v (.string (bs s)), .v (.string (bs p))] (.b (hasSuf s p)) := by
  refine pure_of_dw Tryd.func162 rfl bo162 (by simp [go_sem, D.nr, nrs, nrr]) (by simp [Tryd.f162]) ?_
  unfold Tryd.f162
  simp only [init_eq]
  have ff := True.intro
  refine stp Ln ?_
  refine stp Ln ?_ (hok := by (try simp only [go_sem, ff]); all_goals (exact hassuf0_ct _ _ hs))
  refine dw_ret ?_
  exact fin 0 (hr := by (try simp only [go_sem, ff]); all_goals (rfl))
theorem bo155 : hasBody Tryd.prog 155 = true := by kernel_rfl
theorem nunder_ct (s : Str) (z : Str) : PureCt Tryd.prog 155 [.v (.string (bs s)), .v (.string (bs z))] (.tuple [.b (underV s z), .i (if nameOk s && nameOk z then 0 else 11)]) := by
  refine pure_of_dw Tryd.func155 rfl bo155 (by simp [go_sem, D.nr, nrs, nrr]) (by simp [Tryd.f155]) ?_
  unfold Tryd.f155
  simp only [init_eq]
  have ff := True.intro
  refine stp Ln ?_
  refine dw_seq ?_
  refine stp Ln ?_ (hok := by (try simp only [go_sem, ff]); all_goals (first | done | ((repeat' (with_reducible apply And.intro)) <;> first | exact tvalid_ct _ | (intros; exact tvalid_ct _) | skip)))
  refine cd (fun c1 => ?_) (fun c1 => ?_)
  · skip
    refine stp Ln ?_
    refine dw_ret ?_
    exact fin 1 (hr := by (try simp only [go_sem, ff]); all_goals (first | (simp_all [underV, under]; done) | (simp; simp only [underV, under]; grind)))
  · skip
    refine dw_skip ?_
    show DW _ _ _ _ _
    refine dw_seq ?_
    refine stp Ln ?_
    refine cd (fun c2 => ?_) (fun c2 => ?_)
    · skip
      refine stp Ln ?_
      refine dw_ret ?_
      exact fin 1 (hr := by (try simp only [go_sem, ff]); all_goals (first | (simp_all [underV, under]; done) | (simp; simp only [underV, under]; grind)))
    · skip
      refine dw_skip ?_
      show DW _ _ _ _ _
      have hn := nameOk_len c1.1
      have hm := nameOk_len c1.2
      have e1 : ((s.length : Int) - z.length - 1).toNat = s.length - z.length - 1 := by omega
      have ff := And.intro @e1 ff
      refine stp Ln ?_ (hok := by (try simp only [go_sem, ff]); all_goals (first | done | ((repeat' (with_reducible apply And.intro)) <;> first | exact hassuf_ct _ _ (by omega) | (intros; exact hassuf_ct _ _ (by omega)) | (intro h; simp at h; omega) | skip)))
      refine dw_ret ?_
      exact fin 1 (hr := by (try simp only [go_sem, ff]); all_goals (first | (simp_all [underV, under]; done) | (simp; simp only [underV, under]; grind)))
theorem bo138 : hasBody Tryd.prog 138 = true := by kernel_rfl
theorem zcmppl_ct (a : Str) (s : Int) (b : Str) (t : Int) : PureCt Tryd.prog 138 [.v (.string (bs a)), .i s, .v (.string (bs b)), .i t] (.i (qC ⟨a, s⟩ ⟨b, t⟩)) := by
  refine pure_of_dw Tryd.func138 rfl bo138 (by simp [go_sem, D.nr, nrs, nrr]) (by simp [Tryd.f138]) ?_
  unfold Tryd.f138
  simp only [init_eq]
  have ff := True.intro
  refine stp Ln ?_
  refine dw_seq ?_
  refine stp Ln ?_
  refine cd (fun c1 => ?_) (fun c1 => ?_)
  · skip
    refine stp Ln ?_ (hok := by (try simp only [go_sem, ff]); all_goals (exact ncompare_ct _ _))
    refine stp Ln ?_
    refine dw_ret ?_
    exact fin 0 (hr := by (try simp only [go_sem, ff]); all_goals (simp [qC, *]))
  · skip
    refine dw_skip ?_
    show DW _ _ _ _ _
    refine stp Ln ?_ (hok := by (try simp only [go_sem, ff]); all_goals (first | exact ok0 | (apply cmpint_ct <;> omega) | (intros; apply cmpint_ct <;> omega)))
    refine dw_ret ?_
    exact fin 0 (hr := by (try simp only [go_sem, ff]); all_goals (simp [qC, *]))
theorem bo110 : hasBody Tryd.prog 110 = true := by kernel_rfl
theorem dcmppl_ct (a : Qst) (b : Qst) : PureCt Tryd.prog 110 [.agg a.d, .agg b.d] (.i (qC a b)) := by
  refine pure_of_dw Tryd.func110 rfl bo110 (by simp [go_sem, D.nr, nrs, nrr]) (by simp [Tryd.f110]) ?_
  unfold Tryd.f110
  simp only [init_eq]
  have ff := True.intro
  refine stp Ln ?_
  refine dw_seq ?_
  refine stp Ln ?_
  refine cd (fun c1 => ?_) (fun c1 => ?_)
  · skip
    refine stp Ln ?_ (hok := by (try simp only [go_sem, ff]); all_goals (exact ncompare_ct _ _))
    refine stp Ln ?_
    refine dw_ret ?_
    exact fin 0 (hr := by (try simp only [go_sem, ff]); all_goals (simp [qC, *]))
  · skip
    refine dw_skip ?_
    show DW _ _ _ _ _
    refine stp Ln ?_ (hok := by (try simp only [go_sem, ff]); all_goals (first | exact ok0 | (apply cmpint_ct <;> omega) | (intros; apply cmpint_ct <;> omega)))
    refine dw_ret ?_
    exact fin 0 (hr := by (try simp only [go_sem, ff]); all_goals (simp [qC, *]))
theorem bo156 : hasBody Tryd.prog 156 = true := by kernel_rfl
theorem fitsapex_ct (t : Int) (a : Bool) : PureCt Tryd.prog 156 [.i t, .b a] (.b (fits t a)) := by
  refine pure_of_dw Tryd.func156 rfl bo156 (by simp [go_sem, D.nr, nrs, nrr]) (by simp [Tryd.f156]) ?_
  unfold Tryd.f156
  simp only [init_eq]
  have ff := True.intro
  refine stp Ln ?_
  refine dw_seq ?_
  refine stp Ln ?_
  refine dw_block ?_
  refine dw_seq ?_
  refine stp Ln ?_
  refine cd (fun c1 => ?_) (fun c1 => ?_)
  · skip
    refine dw_skip ?_
    show DW _ _ _ _ _
    refine cd (fun c2 => ?_) (fun c2 => ?_)
    · skip
      refine stp Ln ?_
      refine dw_ret ?_
      exact fin 0 (hr := by (try simp only [go_sem, ff]); all_goals (simp_all [fits]))
    · skip
      refine dw_seq ?_
      refine stp Ln ?_
      refine cd (fun c3 => ?_) (fun c3 => ?_)
      · skip
        refine dw_skip ?_
        show DW _ _ _ _ _
        refine cd (fun c4 => ?_) (fun c4 => ?_)
        · skip
          refine stp Ln ?_
          refine dw_ret ?_
          exact fin 0 (hr := by (try simp only [go_sem, ff]); all_goals (simp_all [fits]))
        · skip
          refine dw_skip ?_
          show DW _ _ _ _ _
          refine stp Ln ?_
          refine dw_ret ?_
          exact fin 0 (hr := by (try simp only [go_sem, ff]); all_goals (simp_all [fits]))
      · skip
        refine rgn Ln ?_
        show DW _ _ _ _ _
        refine cd (fun c5 => ?_) (fun c5 => ?_)
        · skip
          refine stp Ln ?_
          refine dw_ret ?_
          exact fin 0 (hr := by (try simp only [go_sem, ff]); all_goals (simp_all [fits]))
        · skip
          refine dw_skip ?_
          show DW _ _ _ _ _
          refine stp Ln ?_
          refine dw_ret ?_
          exact fin 0 (hr := by (try simp only [go_sem, ff]); all_goals (simp_all [fits]))
  · skip
    refine rgn Ln ?_
    show DW _ _ _ _ _
    refine cd (fun c6 => ?_) (fun c6 => ?_)
    · skip
      refine stp Ln ?_
      refine dw_ret ?_
      exact fin 0 (hr := by (try simp only [go_sem, ff]); all_goals (simp_all [fits]))
    · skip
      refine dw_seq ?_
      refine stp Ln ?_
      refine cd (fun c7 => ?_) (fun c7 => ?_)
      · skip
        refine dw_skip ?_
        show DW _ _ _ _ _
        refine cd (fun c8 => ?_) (fun c8 => ?_)
        · skip
          refine stp Ln ?_
          refine dw_ret ?_
          exact fin 0 (hr := by (try simp only [go_sem, ff]); all_goals (simp_all [fits]))
        · skip
          refine dw_skip ?_
          show DW _ _ _ _ _
          refine stp Ln ?_
          refine dw_ret ?_
          exact fin 0 (hr := by (try simp only [go_sem, ff]); all_goals (simp_all [fits]))
      · skip
        refine rgn Ln ?_
        show DW _ _ _ _ _
        refine cd (fun c9 => ?_) (fun c9 => ?_)
        · skip
          refine stp Ln ?_
          refine dw_ret ?_
          exact fin 0 (hr := by (try simp only [go_sem, ff]); all_goals (simp_all [fits]))
        · skip
          refine dw_skip ?_
          show DW _ _ _ _ _
          refine stp Ln ?_
          refine dw_ret ?_
          exact fin 0 (hr := by (try simp only [go_sem, ff]); all_goals (simp_all [fits]))

end Go.Proofs.YtfggmgafjabbjaaDoor
namespace Go.Proofs.YtfggmgafjabbjaaDoor
open Go.DL Go.Str Go.Rec Go.Cmp Go.Zon
set_option maxRecDepth 10000
set_option linter.unusedSimpArgs false
set_option linter.unusedVariables false
theorem bo157 : hasBody Tryd.prog 157 = true := by kernel_rfl
theorem zinform_ct (l : List RSig) (a : Str) : PureCt Tryd.prog 157 [.list false (l.map RSig.d), .v (.string (bs a))] (.b (sigsOk l a)) := by
  refine pure_of_dw Tryd.func157 rfl bo157 (by simp [go_sem, D.nr, nrs, nrr]) (by simp [Tryd.f157]) ?_
  unfold Tryd.f157
  simp only [init_eq]
  have ff := True.intro
  refine stp Ln ?_
  refine dw_seq ?_
  refine stp Ln ?_
  refine cd (fun c1 => ?_) (fun c1 => ?_)
  · skip
    refine stp Ln ?_
    refine dw_ret ?_
    exact fin 0 (hr := by (try simp only [go_sem, ff]); all_goals (simp [sigsOk]; omega))
  · skip
    refine dw_skip ?_
    show DW _ _ _ _ _
    refine dw_seq ?_
    refine stp Ln ?_
    refine dw_block ?_
    refine lp (α := (Nat) × Nat) [0, 1, 10, 11] (fun ⟨k, nx⟩ => (k ≤ l.length) ∧ (allN l.length (sigAt a l) 0 = allN l.length (sigAt a l) k) ∧ True) (fun ⟨k, nx⟩ => l.length - k) (fun ⟨k, nx⟩ => [(12, .i k)]) (fun ⟨k, nx⟩ => []) (fun ⟨k, nx⟩ => nx) (0, _) (hA := ⟨iv, rfl, trivial⟩) (round := ?_)
    rintro ⟨k, nx⟩ ⟨hk, hv, -⟩
    show DW _ _ _ _ { n := _, t := tab _, h := _, nx := _, e := _ }
    simp only [List.cons_append, List.nil_append]
    refine stp Ln ?_
    refine dw_seq ?_
    refine cd (fun c2 => ?_) (fun c2 => ?_) (hp := rfl)
    · skip
      have hk2 : k < l.length := by simpa using c2
      have h0 : 0 < l.length := by omega
      have hk1 : k - 1 < l.length := by omega
      have e1 : ((k:Int) - 1).toNat = k - 1 := by omega
      have ff := And.intro (getD_sig hk2) (And.intro (getD_sig h0) (And.intro (getD_sig hk1) (And.intro @e1 ff)))
      refine dw_skip ?_
      show DW _ _ _ _ _
      refine dw_seq ?_
      refine dw_block ?_
      refine stp Ln ?_
      refine dw_seq ?_
      refine stp Ln ?_
      refine cd (fun c3 => ?_) (fun c3 => ?_)
      · skip
        refine stp Ln ?_
        refine dw_ret ?_
        exact fin 0 (hr := by (try simp only [go_sem, ff]); all_goals (have hF : (sigAt a l) k = false := (by simp only [sigAt, inR]; grind); simp only [sigsOk]; rw [hv, allN_no hk2 hF]; try simp))
      · skip
        refine dw_skip ?_
        show DW _ _ _ _ _
        refine dw_seq ?_
        refine stp Ln ?_
        refine cd (fun c4 => ?_) (fun c4 => ?_)
        · skip
          refine stp Ln ?_
          refine dw_ret ?_
          exact fin 0 (hr := by (try simp only [go_sem, ff]); all_goals (have hF : (sigAt a l) k = false := (by simp only [sigAt, inR]; grind); simp only [sigsOk]; rw [hv, allN_no hk2 hF]; try simp))
        · skip
          refine dw_skip ?_
          show DW _ _ _ _ _
          refine stp Ln ?_
          refine cd (fun c5 => ?_) (fun c5 => ?_)
          · skip
            refine stp Ln ?_
            refine dw_ret ?_
            exact fin 0 (hr := by (try simp only [go_sem, ff]); all_goals (have hF : (sigAt a l) k = false := (by simp only [sigAt, inR]; grind); simp only [sigsOk]; rw [hv, allN_no hk2 hF]; try simp))
          · skip
            refine dw_skip ?_
            show DW _ _ _ _ _
            refine rgn Ln ?_
            show ∃ _, _
            have h8 : (sigAt a l) k = true := by simp only [sigAt, inR]; grind
            exact rnd (k + 1, _) (h1 := ⟨iv, (by first | (rw [hv, allN_yes hk2 h8]) | (dsimp only; rw [hv, allN_yes hk2 h8])), trivial⟩)
    · skip
      refine dw_exit ?_
      show DW _ _ _ _ _
      refine stp Ln ?_
      refine dw_ret ?_
      exact fin 0 (hr := by (try simp only [go_sem, ff]); all_goals (simp only [sigsOk]; rw [hv, allN_end (by omega)]; simp; omega))

end Go.Proofs.YtfggmgafjabbjaaDoor
namespace Go.Proofs.YtfggmgafjabbjaaDoor
open Go.DL Go.Str Go.Rec Go.Cmp Go.Zon
set_option maxRecDepth 10000
set_option linter.unusedSimpArgs false
set_option linter.unusedVariables false
theorem find_step {l : List Sgd} {q : Qst} {i j : Nat} (hv : findIx l q = bsIx (fun k => qC l[k]!.q q) i j) (h : i < j) : (qC l[(i + j) / 2]!.q q < 0 → findIx l q = bsIx (fun k => qC l[k]!.q q) ((i + j) / 2 + 1) j) ∧ (¬ qC l[(i + j) / 2]!.q q < 0 → findIx l q = bsIx (fun k => qC l[k]!.q q) i ((i + j) / 2)) := by
  rw [bsIx_eq, if_pos h] at hv
  exact ⟨fun h2 => by rw [if_pos h2] at hv; exact hv, fun h2 => by rw [if_neg h2] at hv; exact hv⟩
theorem bo137 : hasBody Tryd.prog 137 = true := by kernel_rfl
theorem zfind1_ct (s : Sgd) (q : Qst) : PureCt Tryd.prog 137 [.agg s.d, .agg q.d] (.i (qC s.q q)) := by
  refine pure_of_dw Tryd.func137 rfl bo137 (by simp [go_sem, D.nr, nrs, nrr]) (by simp [Tryd.f137]) ?_
  unfold Tryd.f137
  simp only [init_eq]
  have ff := True.intro
  refine stp Ln ?_
  refine stp Ln ?_ (hok := by (try simp only [go_sem, ff]); all_goals (exact zcmppl_ct _ _ _ _))
  refine dw_ret ?_
  exact fin 0 (hr := by (try simp only [go_sem, ff]); all_goals (rfl))
theorem bo136 : hasBody Tryd.prog 136 = true := by kernel_rfl
theorem zbsf_ct (l : List Sgd) (q : Qst) (hl : l.length ≤ 1000000) : PureCt Tryd.prog 136 [.list false (l.map Sgd.d), .agg q.d, .fn (.func 137) [] []] (.tuple [.i (findIx l q), .b (findOk l q)]) := by
  refine pure_of_dw Tryd.func136 rfl bo136 (by simp [go_sem, D.nr, nrs, nrr]) (by simp [Tryd.f136]) ?_
  unfold Tryd.f136
  simp only [init_eq]
  have ff := True.intro
  refine stp Ln ?_
  refine stp Ln ?_
  refine stp Ln ?_
  refine dw_seq ?_
  refine dw_block ?_
  refine lp (α := (Nat) × (Nat) × Nat) [0, 2, 4, 8] (fun ⟨i, j, nx⟩ => (i ≤ j) ∧ (j ≤ l.length) ∧ (0 < nx) ∧ (findIx l q = bsIx (fun k => qC l[k]!.q q) i j) ∧ True) (fun ⟨i, j, nx⟩ => j - i) (fun ⟨i, j, nx⟩ => [(9, .i i), (10, .i j)]) (fun ⟨i, j, nx⟩ => [(0, ⟨95, [q.d]⟩)]) (fun ⟨i, j, nx⟩ => nx) (0, l.length, _) (hA := ⟨iv, iv, iv, rfl, trivial⟩) (round := ?_)
  rintro ⟨i, j, nx⟩ ⟨hij, hj, hx, hv, -⟩
  show DW _ _ _ _ { n := _, t := tab _, h := _, nx := _, e := _ }
  simp only [List.cons_append, List.nil_append]
  have ff := And.intro @hx ff
  refine dw_seq ?_
  refine stp Ln ?_
  refine cd (fun c1 => ?_) (fun c1 => ?_) (hp := rfl)
  · skip
    have hk2 : i < j := by simpa using c1
    have hm : (i + j) / 2 < l.length := by omega
    have ff := And.intro (mid_eq (i := i) (j := j) (by omega)) (And.intro (getD_sgd hm) ff)
    refine dw_skip ?_
    show DW _ _ _ _ _
    refine dw_block ?_
    refine stp Ln ?_
    refine stp Ln ?_ (hok := by (try simp only [go_sem, ff]); all_goals (first | done | ((repeat' (with_reducible apply And.intro)) <;> first | exact zfind1_ct l[(i + j) / 2]! q | (intros; exact zfind1_ct l[(i + j) / 2]! q) | omega)))
    refine cd (fun c2 => ?_) (fun c2 => ?_)
    · skip
      refine rgn Ln ?_
      show ∃ _, _
      exact rnd ((i + j) / 2 + 1, j, _) (h1 := ⟨iv, iv, iv, (by first | (exact (find_step hv hk2).1 c2) | (dsimp only; exact (find_step hv hk2).1 c2)), trivial⟩)
    · skip
      refine rgn Ln ?_
      show ∃ _, _
      exact rnd (i, (i + j) / 2, _) (h1 := ⟨iv, iv, iv, (by (try dsimp only); exact (find_step hv hk2).2 (by omega)), trivial⟩)
  · skip
    refine dw_exit ?_
    show DW _ _ _ _ _
    have hij2 : i = j := by have h9 : ¬ i < j := (by simpa using c1); omega
    have hv2 : findIx l q = i := by rw [hv, bsIx_eq, if_neg (by omega)]
    by_cases hk4 : i < l.length
    · skip
      have ff := And.intro (getD_sgd hk4) ff
      refine stp Ln ?_ (hok := by (try simp only [go_sem, ff]); all_goals (first | done | ((repeat' (with_reducible apply And.intro)) <;> first | exact zfind1_ct l[i]! q | (intros; exact zfind1_ct l[i]! q) | omega | (intro h; have h := of_decide_eq_true h; omega))))
      refine dw_ret ?_
      exact fin 1 (hr := by (try simp only [go_sem, ff]); all_goals (simp only [findOk]; rw [hv2]; simp [hk4]))
    · skip
      have ff := And.intro (getD_off (f := Sgd.d) (Nat.le_of_not_lt hk4)) ff
      refine stp Ln ?_ (hok := by (try simp only [go_sem, ff]); all_goals (first | done | ((repeat' (with_reducible apply And.intro)) <;> first | exact zfind1_ct l[i]! q | (intros; exact zfind1_ct l[i]! q) | omega | (intro h; have h := of_decide_eq_true h; omega))))
      refine dw_ret ?_
      exact fin 1 (hr := by (try simp only [go_sem, ff]); all_goals (simp only [findOk]; rw [hv2]; simp [hk4]))
theorem bo105 : hasBody Tryd.prog 105 = true := by kernel_rfl
theorem zfind_ct (z : Zon) (q : Qst) (hl : z.sets.length ≤ 1000000) : PureCt Tryd.prog 105 [.agg z.d, .agg q.d] (.tuple [.i (findIx z.sets q), .b (findOk z.sets q)]) := by
  refine pure_of_dw Tryd.func105 rfl bo105 (by simp [go_sem, D.nr, nrs, nrr]) (by simp [Tryd.f105]) ?_
  unfold Tryd.f105
  simp only [init_eq]
  have ff := True.intro
  refine stp Ln ?_
  refine stp Ln ?_ (hok := by (try simp only [go_sem, ff]); all_goals (first | done | ((repeat' (with_reducible apply And.intro)) <;> first | exact zbsf_ct _ _ hl | (intros; exact zbsf_ct _ _ hl) | skip)))
  refine dw_ret ?_
  exact fin 1 (hr := by (try simp only [go_sem, ff]); all_goals (rfl))
theorem bo129 : hasBody Tryd.prog 129 = true := by kernel_rfl
theorem zordered_ct (z : Zon) : PureCt Tryd.prog 129 [.agg z.d] (.b (ordered z)) := by
  refine pure_of_dw Tryd.func129 rfl bo129 (by simp [go_sem, D.nr, nrs, nrr]) (by simp [Tryd.f129]) ?_
  unfold Tryd.f129
  simp only [init_eq]
  have ff := True.intro
  refine stp Ln ?_
  refine dw_seq ?_
  refine stp Ln ?_ (hok := by (try simp only [go_sem, ff]); all_goals (first | done | ((repeat' (with_reducible apply And.intro)) <;> first | exact nvalid_ct _ | (intros; exact nvalid_ct _) | exact haspre_ct _ _ | (intros; exact haspre_ct _ _) | skip)))
  refine cd (fun c1 => ?_) (fun c1 => ?_)
  · skip
    refine stp Ln ?_
    refine dw_ret ?_
    exact fin 0 (hr := by (try simp only [go_sem, ff]); all_goals (simp only [ordered]; rw [wild_pre] at *; grind))
  · skip
    refine dw_skip ?_
    show DW _ _ _ _ _
    refine dw_seq ?_
    refine stp Ln ?_
    refine dw_block ?_
    refine lp (α := (Nat) × Nat) [1, 28, 29] (fun ⟨k, nx⟩ => (k ≤ z.sets.length) ∧ (allN z.sets.length (ordAt z.apex z.sets) 0 = allN z.sets.length (ordAt z.apex z.sets) k) ∧ (0 < nx) ∧ True) (fun ⟨k, nx⟩ => z.sets.length - k) (fun ⟨k, nx⟩ => [(30, .i k)]) (fun ⟨k, nx⟩ => [(0, ⟨146, [z.d]⟩)]) (fun ⟨k, nx⟩ => nx) (0, _) (hA := ⟨iv, rfl, iv, trivial⟩) (round := ?_)
    rintro ⟨k, nx⟩ ⟨hk, hv, hx, -⟩
    show DW _ _ _ _ { n := _, t := tab _, h := _, nx := _, e := _ }
    simp only [List.cons_append, List.nil_append]
    have ff := And.intro @hx ff
    refine stp Ln ?_
    refine dw_seq ?_
    refine cd (fun c2 => ?_) (fun c2 => ?_) (hp := rfl)
    · skip
      have hk2 : k < z.sets.length := by simpa using c2
      have h0 : 0 < z.sets.length := by omega
      have hk1 : k - 1 < z.sets.length := by omega
      have e1 : ((k:Int) - 1).toNat = k - 1 := by omega
      have ff := And.intro (getD_sgd hk2) (And.intro (getD_sgd h0) (And.intro (getD_sgd hk1) (And.intro @e1 ff)))
      refine dw_skip ?_
      show DW _ _ _ _ _
      refine dw_seq ?_
      refine dw_block ?_
      refine stp Ln ?_
      refine dw_seq ?_
      refine stp Ln ?_ (hok := by (try simp only [go_sem, ff]); all_goals (exact rvalid_ct _))
      refine cd (fun c3 => ?_) (fun c3 => ?_)
      · skip
        refine stp Ln ?_
        refine dw_ret ?_
        exact fin 0 (hr := by (try simp only [go_sem, ff]); all_goals (have hF : (ordAt z.apex z.sets) k = false := (by simp only [ordAt]; grind [Sgd.q]); simp only [ordered]; rw [hv, allN_no hk2 hF]; try simp))
      · skip
        refine dw_skip ?_
        show DW _ _ _ _ _
        refine dw_seq ?_
        refine stp Ln ?_ (hok := by (try simp only [go_sem, ff]); all_goals (exact nunder_ct _ _))
        refine stp Ln ?_
        refine cd (fun c4 => ?_) (fun c4 => ?_)
        · skip
          refine stp Ln ?_
          refine dw_ret ?_
          exact fin 0 (hr := by (try simp only [go_sem, ff]); all_goals (have hF : (ordAt z.apex z.sets) k = false := (by simp only [ordAt]; grind [Sgd.q]); simp only [ordered]; rw [hv, allN_no hk2 hF]; try simp))
        · skip
          refine dw_skip ?_
          show DW _ _ _ _ _
          refine dw_seq ?_
          refine stp Ln ?_
          refine cd (fun c5 => ?_) (fun c5 => ?_)
          · skip
            refine dw_exit ?_
            show DW _ _ _ _ _
            refine rgn Ln ?_
            show ∃ _, _
            have h8 : (ordAt z.apex z.sets) k = true := by simp only [ordAt]; grind [Sgd.q]
            exact rnd (k + 1, _) (h1 := ⟨iv, (by first | (rw [hv, allN_yes hk2 h8]) | (dsimp only; rw [hv, allN_yes hk2 h8])), iv, trivial⟩)
          · skip
            refine dw_skip ?_
            show DW _ _ _ _ _
            refine stp Ln ?_
            refine stp Ln ?_ (hok := by (try simp only [go_sem, ff]); all_goals (exact zcmppl_ct _ _ _ _))
            refine cd (fun c6 => ?_) (fun c6 => ?_)
            · skip
              refine stp Ln ?_
              refine dw_ret ?_
              exact fin 0 (hr := by (try simp only [go_sem, ff]); all_goals (have hF : (ordAt z.apex z.sets) k = false := (by simp only [ordAt]; grind [Sgd.q]); simp only [ordered]; rw [hv, allN_no hk2 hF]; try simp))
            · skip
              refine dw_skip ?_
              show DW _ _ _ _ _
              refine rgn Ln ?_
              show ∃ _, _
              have h8 : (ordAt z.apex z.sets) k = true := by simp only [ordAt]; grind [Sgd.q]
              exact rnd (k + 1, _) (h1 := ⟨iv, (by first | (rw [hv, allN_yes hk2 h8]) | (dsimp only; rw [hv, allN_yes hk2 h8])), iv, trivial⟩)
    · skip
      refine dw_exit ?_
      show DW _ _ _ _ _
      refine stp Ln ?_
      refine dw_ret ?_
      exact fin 0 (hr := by (try simp only [go_sem, ff]); all_goals (simp only [ordered]; rw [wild_pre] at *; rw [hv, allN_end (by omega)]; grind))
theorem bo130 : hasBody Tryd.prog 130 = true := by kernel_rfl
theorem zapex_ct (z : Zon) (hl : z.sets.length ≤ 1000000) : PureCt Tryd.prog 130 [.agg z.d] (.b (apexHolds z)) := by
  refine pure_of_dw Tryd.func130 rfl bo130 (by simp [go_sem, D.nr, nrs, nrr]) (by simp [Tryd.f130]) ?_
  unfold Tryd.f130
  simp only [init_eq]
  have ff := True.intro
  refine stp Ln ?_
  refine dw_seq ?_
  refine stp Ln ?_
  refine dw_block ?_
  refine lp (α := (Nat) × Nat) [1, 9, 10] (fun ⟨k, nx⟩ => (k ≤ 2) ∧ (allN 2 (apexAt z) 0 = allN 2 (apexAt z) k) ∧ (0 < nx) ∧ True) (fun ⟨k, nx⟩ => 2 - k) (fun ⟨k, nx⟩ => [(11, .i k)]) (fun ⟨k, nx⟩ => [(0, ⟨146, [z.d]⟩)]) (fun ⟨k, nx⟩ => nx) (0, _) (hA := ⟨iv, rfl, iv, trivial⟩) (round := ?_)
  rintro ⟨k, nx⟩ ⟨hk, hv1, hx, -⟩
  show DW _ _ _ _ { n := _, t := tab _, h := _, nx := _, e := _ }
  simp only [List.cons_append, List.nil_append]
  have ff := And.intro @hx ff
  refine stp Ln ?_
  refine dw_seq ?_
  refine cd (fun c1 => ?_) (fun c1 => ?_) (hp := rfl)
  · skip
    have hk2 : k < 2 := by have h9 : (k:Int) < 2 := (by simpa using c1); omega
    refine dw_skip ?_
    show DW _ _ _ _ _
    refine dw_seq ?_
    refine dw_block ?_
    have h01 : k = 0 ∨ k = 1 := by omega
    rcases h01 with e0 | e0
    · skip
      have ff := And.intro @e0 ff
      refine stp Ln ?_
      refine stp Ln ?_ (hok := by (try simp only [go_sem, ff]); all_goals (first | done | ((repeat' (with_reducible apply And.intro)) <;> first | exact zfind_ct z ⟨z.apex, 4⟩ hl | (intros; exact zfind_ct z ⟨z.apex, 4⟩ hl) | exact zfind_ct z ⟨z.apex, 2⟩ hl | (intros; exact zfind_ct z ⟨z.apex, 2⟩ hl) | skip)))
      refine stp Ln ?_
      refine cd (fun c2 => ?_) (fun c2 => ?_)
      · skip
        refine stp Ln ?_
        refine dw_ret ?_
        exact fin 0 (hr := by (try simp only [go_sem, ff]); all_goals (have hF : (apexAt z) k = false := (by simpa [apexAt, e0] using c2); simp only [apexHolds]; rw [hv1, allN_no hk2 hF]; try simp))
      · skip
        refine dw_skip ?_
        show DW _ _ _ _ _
        refine rgn Ln ?_
        show ∃ _, _
        have h8 : (apexAt z) k = true := by simpa [apexAt, e0] using c2
        exact rnd (k + 1, _) (h1 := ⟨iv, (by first | (rw [hv1, allN_yes hk2 h8]) | (dsimp only; rw [hv1, allN_yes hk2 h8])), iv, trivial⟩)
    · skip
      have ff := And.intro @e0 ff
      refine stp Ln ?_
      refine stp Ln ?_ (hok := by (try simp only [go_sem, ff]); all_goals (first | done | ((repeat' (with_reducible apply And.intro)) <;> first | exact zfind_ct z ⟨z.apex, 4⟩ hl | (intros; exact zfind_ct z ⟨z.apex, 4⟩ hl) | exact zfind_ct z ⟨z.apex, 2⟩ hl | (intros; exact zfind_ct z ⟨z.apex, 2⟩ hl) | skip)))
      refine stp Ln ?_
      refine cd (fun c2 => ?_) (fun c2 => ?_)
      · skip
        refine stp Ln ?_
        refine dw_ret ?_
        exact fin 0 (hr := by (try simp only [go_sem, ff]); all_goals (have hF : (apexAt z) k = false := (by simpa [apexAt, e0] using c2); simp only [apexHolds]; rw [hv1, allN_no hk2 hF]; try simp))
      · skip
        refine dw_skip ?_
        show DW _ _ _ _ _
        refine rgn Ln ?_
        show ∃ _, _
        have h8 : (apexAt z) k = true := by simpa [apexAt, e0] using c2
        exact rnd (k + 1, _) (h1 := ⟨iv, (by first | (rw [hv1, allN_yes hk2 h8]) | (dsimp only; rw [hv1, allN_yes hk2 h8])), iv, trivial⟩)
  · skip
    refine dw_exit ?_
    show DW _ _ _ _ _
    refine dw_seq ?_
    refine stp Ln ?_
    refine dw_block ?_
    refine lp (α := (Nat) × Nat) [1, 30, 31] (fun ⟨k, nx⟩ => (k ≤ z.sets.length) ∧ (allN z.sets.length (fitAt z.apex z.sets) 0 = allN z.sets.length (fitAt z.apex z.sets) k) ∧ (0 < nx) ∧ True) (fun ⟨k, nx⟩ => z.sets.length - k) (fun ⟨k, nx⟩ => [(32, .i k)]) (fun ⟨k, nx⟩ => [(0, ⟨146, [z.d]⟩)]) (fun ⟨k, nx⟩ => nx) (0, _) (hA := ⟨iv, rfl, iv, trivial⟩) (round := ?_)
    rintro ⟨k, nx⟩ ⟨hk, hv, hx, -⟩
    show DW _ _ _ _ { n := _, t := tab _, h := _, nx := _, e := _ }
    simp only [List.cons_append, List.nil_append]
    have ff := And.intro @hx ff
    refine stp Ln ?_
    refine dw_seq ?_
    refine cd (fun c3 => ?_) (fun c3 => ?_) (hp := rfl)
    · skip
      have hk2 : k < z.sets.length := by simpa using c3
      have ff := And.intro (getD_sgd hk2) ff
      refine dw_skip ?_
      show DW _ _ _ _ _
      refine dw_seq ?_
      refine dw_block ?_
      refine stp Ln ?_
      refine stp Ln ?_ (hok := by (try simp only [go_sem, ff]); all_goals (exact fitsapex_ct _ _))
      refine cd (fun c4 => ?_) (fun c4 => ?_)
      · skip
        refine stp Ln ?_
        refine dw_ret ?_
        exact fin 0 (hr := by (try simp only [go_sem, ff]); all_goals (have hF : (fitAt z.apex z.sets) k = false := (by simp only [fitAt]; grind); simp only [apexHolds]; rw [hv, allN_no hk2 hF]; try simp))
      · skip
        refine dw_skip ?_
        show DW _ _ _ _ _
        refine rgn Ln ?_
        show ∃ _, _
        have h8 : (fitAt z.apex z.sets) k = true := by simp only [fitAt]; grind
        exact rnd (k + 1, _) (h1 := ⟨iv, (by first | (rw [hv, allN_yes hk2 h8]) | (dsimp only; rw [hv, allN_yes hk2 h8])), iv, trivial⟩)
    · skip
      refine dw_exit ?_
      show DW _ _ _ _ _
      refine stp Ln ?_
      refine dw_ret ?_
      exact fin 0 (hr := by (try simp only [go_sem, ff]); all_goals (simp only [apexHolds]; rw [hv1, hv, allN_end (n := 2) (by omega), allN_end (by omega)]; rfl))

end Go.Proofs.YtfggmgafjabbjaaDoor
namespace Go.Proofs.YtfggmgafjabbjaaDoor
open Go.DL Go.Str Go.Rec Go.Cmp Go.Zon
set_option maxRecDepth 10000
set_option linter.unusedSimpArgs false
set_option linter.unusedVariables false
@[go_sem] theorem keysOk_T {m : List Str} : keysOk Tryd.prog 9 (kvT m) = true := by
  induction m with
  | nil => rfl
  | cons s m ih => rw [kvT_cons]; simp only [keysOk, ih, ko9, Bool.and_self]
theorem bo132 : hasBody Tryd.prog 132 = true := by kernel_rfl
theorem zalias_ct (x : Lay) (hl : x.z.sets.length ≤ 1000000) : PureCt Tryd.prog 132 [.agg x.d] (.b (aliasB x)) := by
  refine pure_of_dw Tryd.func132 rfl bo132 (by simp [go_sem, D.nr, nrs, nrr]) (by simp [Tryd.f132]) ?_
  unfold Tryd.f132
  simp only [init_eq]
  have ff := True.intro
  refine stp Ln ?_
  refine dw_seq ?_
  refine stp Ln ?_
  refine dw_block ?_
  refine lp (α := (Nat) × Nat) [1, 8, 9] (fun ⟨k, nx⟩ => (k ≤ x.z.sets.length) ∧ (allN x.z.sets.length (aliasAt x.z.sets) 0 = allN x.z.sets.length (aliasAt x.z.sets) k) ∧ (0 < nx) ∧ True) (fun ⟨k, nx⟩ => x.z.sets.length - k) (fun ⟨k, nx⟩ => [(10, .i k)]) (fun ⟨k, nx⟩ => [(0, ⟨169, [x.d]⟩)]) (fun ⟨k, nx⟩ => nx) (0, _) (hA := ⟨iv, rfl, iv, trivial⟩) (round := ?_)
  rintro ⟨k, nx⟩ ⟨hk, hv, hx, -⟩
  show DW _ _ _ _ { n := _, t := tab _, h := _, nx := _, e := _ }
  simp only [List.cons_append, List.nil_append]
  have ff := And.intro @hx ff
  refine stp Ln ?_
  refine dw_seq ?_
  refine cd (fun c1 => ?_) (fun c1 => ?_) (hp := rfl)
  · skip
    have hk2 : k < x.z.sets.length := by simpa using c1
    have hk1 : k - 1 < x.z.sets.length := by omega
    have e1 : ((k:Int) - 1).toNat = k - 1 := by omega
    have e2 : ((k:Int) + 1).toNat = k + 1 := by omega
    have ff := And.intro (getD_sgd hk2) (And.intro (getD_sgd hk1) (And.intro @e1 (And.intro @e2 ff)))
    refine dw_skip ?_
    show DW _ _ _ _ _
    refine dw_seq ?_
    refine dw_block ?_
    refine stp Ln ?_
    refine dw_seq ?_
    refine stp Ln ?_
    refine cd (fun c2 => ?_) (fun c2 => ?_)
    · skip
      refine dw_exit ?_
      show DW _ _ _ _ _
      refine rgn Ln ?_
      show ∃ _, _
      have h8 : (aliasAt x.z.sets) k = true := by simp only [aliasAt]; grind
      exact rnd (k + 1, _) (h1 := ⟨iv, (by first | (rw [hv, allN_yes hk2 h8]) | (dsimp only; rw [hv, allN_yes hk2 h8])), iv, trivial⟩)
    · skip
      refine dw_skip ?_
      show DW _ _ _ _ _
      refine dw_seq ?_
      refine stp Ln ?_
      refine cd (fun c3 => ?_) (fun c3 => ?_)
      · skip
        refine stp Ln ?_
        refine dw_ret ?_
        exact fin 0 (hr := by (try simp only [go_sem, ff]); all_goals (have hF : (aliasAt x.z.sets) k = false := (by simp only [aliasAt]; grind); simp only [aliasB]; rw [hv, allN_no hk2 hF]; try simp))
      · skip
        refine dw_skip ?_
        show DW _ _ _ _ _
        by_cases hk4 : k + 1 < x.z.sets.length
        · skip
          have ff := And.intro (getD_sgd hk4) ff
          refine stp Ln ?_
          refine cd (fun c4 => ?_) (fun c4 => ?_)
          · skip
            refine stp Ln ?_
            refine dw_ret ?_
            exact fin 0 (hr := by (try simp only [go_sem, ff]); all_goals (have hF : (aliasAt x.z.sets) k = false := (by simp only [aliasAt]; grind); simp only [aliasB]; rw [hv, allN_no hk2 hF]; try simp))
          · skip
            refine dw_skip ?_
            show DW _ _ _ _ _
            refine rgn Ln ?_
            show ∃ _, _
            have h8 : (aliasAt x.z.sets) k = true := by simp only [aliasAt]; grind
            exact rnd (k + 1, _) (h1 := ⟨iv, (by first | (rw [hv, allN_yes hk2 h8]) | (dsimp only; rw [hv, allN_yes hk2 h8])), iv, trivial⟩)
        · skip
          have e9 : decide (((k + 1 : Nat) : Int) < x.z.sets.length) = false := decide_eq_false (by omega)
          have ff := And.intro (getD_off (f := Sgd.d) (Nat.le_of_not_lt hk4)) ff
          refine stp Ln ?_
          refine cd (fun c5 => ?_) (fun c5 => ?_)
          · skip
            refine stp Ln ?_
            refine dw_ret ?_
            exact fin 0 (hr := by (try simp only [go_sem, ff]); all_goals (have hF : (aliasAt x.z.sets) k = false := (by simp only [aliasAt]; grind); simp only [aliasB]; rw [hv, allN_no hk2 hF]; try simp))
          · skip
            refine dw_skip ?_
            show DW _ _ _ _ _
            refine rgn Ln ?_
            show ∃ _, _
            have h8 : (aliasAt x.z.sets) k = true := by simp only [aliasAt]; grind
            exact rnd (k + 1, _) (h1 := ⟨iv, (by first | (rw [hv, allN_yes hk2 h8]) | (dsimp only; rw [hv, allN_yes hk2 h8])), iv, trivial⟩)
  · skip
    refine dw_exit ?_
    show DW _ _ _ _ _
    refine stp Ln ?_
    refine dw_ret ?_
    exact fin 0 (hr := by (try simp only [go_sem, ff]); all_goals (simp only [aliasB]; rw [hv, allN_end (by omega)]))
theorem bo133 : hasBody Tryd.prog 133 = true := by kernel_rfl
theorem zcuts_ct (x : Lay) (hl : x.z.sets.length ≤ 1000000) (hb : x.b.length = x.z.sets.length) : PureCt Tryd.prog 133 [.agg x.d] (.b (cutB x)) := by
  refine pure_of_dw Tryd.func133 rfl bo133 (by simp [go_sem, D.nr, nrs, nrr]) (by simp [Tryd.f133]) ?_
  unfold Tryd.f133
  simp only [init_eq]
  have ff := True.intro
  refine stp Ln ?_
  refine dw_seq ?_
  refine stp Ln ?_
  refine dw_block ?_
  refine lp (α := (Nat) × Nat) [1, 9, 10] (fun ⟨k, nx⟩ => (k ≤ x.z.sets.length) ∧ (allN x.z.sets.length (cutAt x) 0 = allN x.z.sets.length (cutAt x) k) ∧ (0 < nx) ∧ True) (fun ⟨k, nx⟩ => x.z.sets.length - k) (fun ⟨k, nx⟩ => [(11, .i k)]) (fun ⟨k, nx⟩ => [(0, ⟨169, [x.d]⟩)]) (fun ⟨k, nx⟩ => nx) (0, _) (hA := ⟨iv, rfl, iv, trivial⟩) (round := ?_)
  rintro ⟨k, nx⟩ ⟨hk, hv, hx, -⟩
  show DW _ _ _ _ { n := _, t := tab _, h := _, nx := _, e := _ }
  simp only [List.cons_append, List.nil_append]
  have ff := And.intro @hx ff
  refine stp Ln ?_
  refine dw_seq ?_
  refine cd (fun c1 => ?_) (fun c1 => ?_) (hp := rfl)
  · skip
    have hk2 : k < x.z.sets.length := by simpa using c1
    have hk3 : k < x.b.length := by omega
    have ff := And.intro (getD_sgd hk2) (And.intro (getD_sR hk3) ff)
    refine dw_skip ?_
    show DW _ _ _ _ _
    refine dw_seq ?_
    refine dw_block ?_
    refine stp Ln ?_
    refine stp Ln ?_
    refine stp Ln ?_
    refine dw_block ?_
    refine stp Ln ?_
    refine cd (fun c2 => ?_) (fun c2 => ?_)
    · skip
      refine stp Ln ?_
      refine cd (fun c3 => ?_) (fun c3 => ?_)
      · skip
        refine stp Ln ?_
        refine dw_ret ?_
        exact fin 0 (hr := by (try simp only [go_sem, ff]); all_goals (have hF : (cutAt x) k = false := (by simp only [cutAt]; grind); simp only [cutB]; rw [hv, allN_no hk2 hF]; try simp))
      · skip
        refine dw_skip ?_
        show DW _ _ _ _ _
        refine rgn Ln ?_
        show ∃ _, _
        have h8 : (cutAt x) k = true := by simp only [cutAt]; grind
        exact rnd (k + 1, _) (h1 := ⟨iv, (by first | (rw [hv, allN_yes hk2 h8]) | (dsimp only; rw [hv, allN_yes hk2 h8])), iv, trivial⟩)
    · skip
      refine stp Ln ?_
      refine cd (fun c4 => ?_) (fun c4 => ?_)
      · skip
        refine stp Ln ?_
        refine cd (fun c5 => ?_) (fun c5 => ?_)
        · skip
          refine stp Ln ?_
          refine dw_ret ?_
          exact fin 0 (hr := by (try simp only [go_sem, ff]); all_goals (have hF : (cutAt x) k = false := (by simp only [cutAt]; grind); simp only [cutB]; rw [hv, allN_no hk2 hF]; try simp))
        · skip
          refine dw_skip ?_
          show DW _ _ _ _ _
          refine rgn Ln ?_
          show ∃ _, _
          have h8 : (cutAt x) k = true := by simp only [cutAt]; grind
          exact rnd (k + 1, _) (h1 := ⟨iv, (by first | (rw [hv, allN_yes hk2 h8]) | (dsimp only; rw [hv, allN_yes hk2 h8])), iv, trivial⟩)
      · skip
        refine stp Ln ?_
        refine cd (fun c6 => ?_) (fun c6 => ?_)
        · skip
          refine stp Ln ?_
          refine dw_ret ?_
          exact fin 0 (hr := by (try simp only [go_sem, ff]); all_goals (have hF : (cutAt x) k = false := (by simp only [cutAt]; grind); simp only [cutB]; rw [hv, allN_no hk2 hF]; try simp))
        · skip
          refine dw_skip ?_
          show DW _ _ _ _ _
          refine rgn Ln ?_
          show ∃ _, _
          have h8 : (cutAt x) k = true := by simp only [cutAt]; grind
          exact rnd (k + 1, _) (h1 := ⟨iv, (by first | (rw [hv, allN_yes hk2 h8]) | (dsimp only; rw [hv, allN_yes hk2 h8])), iv, trivial⟩)
  · skip
    refine dw_exit ?_
    show DW _ _ _ _ _
    refine stp Ln ?_
    refine dw_ret ?_
    exact fin 0 (hr := by (try simp only [go_sem, ff]); all_goals (simp only [cutB]; rw [hv, allN_end (by omega)]))
theorem bo134 : hasBody Tryd.prog 134 = true := by kernel_rfl
theorem zglue_ct (x : Lay) (hl : x.z.sets.length ≤ 1000000) (hb : x.b.length = x.z.sets.length) : PureCt Tryd.prog 134 [.agg x.d] (.b (glueB x)) := by
  refine pure_of_dw Tryd.func134 rfl bo134 (by simp [go_sem, D.nr, nrs, nrr]) (by simp [Tryd.f134]) ?_
  unfold Tryd.f134
  simp only [init_eq]
  have ff := True.intro
  refine stp Ln ?_
  refine dw_seq ?_
  refine stp Ln ?_
  refine dw_block ?_
  refine lp (α := (Nat) × Nat) [1, 9, 10] (fun ⟨k, nx⟩ => (k ≤ x.z.sets.length) ∧ (allN x.z.sets.length (glueAt x) 0 = allN x.z.sets.length (glueAt x) k) ∧ (0 < nx) ∧ True) (fun ⟨k, nx⟩ => x.z.sets.length - k) (fun ⟨k, nx⟩ => [(11, .i k)]) (fun ⟨k, nx⟩ => [(0, ⟨169, [x.d]⟩)]) (fun ⟨k, nx⟩ => nx) (0, _) (hA := ⟨iv, rfl, iv, trivial⟩) (round := ?_)
  rintro ⟨k, nx⟩ ⟨hk, hv, hx, -⟩
  show DW _ _ _ _ { n := _, t := tab _, h := _, nx := _, e := _ }
  simp only [List.cons_append, List.nil_append]
  have ff := And.intro @hx ff
  refine stp Ln ?_
  refine dw_seq ?_
  refine cd (fun c1 => ?_) (fun c1 => ?_) (hp := rfl)
  · skip
    have hk2 : k < x.z.sets.length := by simpa using c1
    have hk3 : k < x.b.length := by omega
    have ff := And.intro (getD_sgd hk2) (And.intro (getD_sR hk3) ff)
    refine dw_skip ?_
    show DW _ _ _ _ _
    refine dw_seq ?_
    refine dw_block ?_
    refine stp Ln ?_
    refine stp Ln ?_
    refine stp Ln ?_
    refine cd (fun c2 => ?_) (fun c2 => ?_)
    · skip
      refine stp Ln ?_
      refine dw_ret ?_
      exact fin 0 (hr := by (try simp only [go_sem, ff]); all_goals (have hF : (glueAt x) k = false := (by simp only [glueAt]; grind); simp only [glueB]; rw [hv, allN_no hk2 hF]; try simp))
    · skip
      refine dw_skip ?_
      show DW _ _ _ _ _
      refine rgn Ln ?_
      show ∃ _, _
      have h8 : (glueAt x) k = true := by simp only [glueAt]; grind
      exact rnd (k + 1, _) (h1 := ⟨iv, (by first | (rw [hv, allN_yes hk2 h8]) | (dsimp only; rw [hv, allN_yes hk2 h8])), iv, trivial⟩)
  · skip
    refine dw_exit ?_
    show DW _ _ _ _ _
    refine stp Ln ?_
    refine dw_ret ?_
    exact fin 0 (hr := by (try simp only [go_sem, ff]); all_goals (simp only [glueB]; rw [hv, allN_end (by omega)]))
theorem bo135 : hasBody Tryd.prog 135 = true := by kernel_rfl
theorem zform_ct (x : Lay) (hl : x.z.sets.length ≤ 1000000) : PureCt Tryd.prog 135 [.agg x.d] (.b (formB x)) := by
  refine pure_of_dw Tryd.func135 rfl bo135 (by simp [go_sem, D.nr, nrs, nrr]) (by simp [Tryd.f135]) ?_
  unfold Tryd.f135
  simp only [init_eq]
  have ff := True.intro
  refine stp Ln ?_
  refine dw_seq ?_
  refine stp Ln ?_
  refine dw_block ?_
  refine lp (α := (Nat) × Nat) [1, 8, 9] (fun ⟨k, nx⟩ => (k ≤ x.z.sets.length) ∧ (allN x.z.sets.length (formAt x.z) 0 = allN x.z.sets.length (formAt x.z) k) ∧ (0 < nx) ∧ True) (fun ⟨k, nx⟩ => x.z.sets.length - k) (fun ⟨k, nx⟩ => [(10, .i k)]) (fun ⟨k, nx⟩ => [(0, ⟨169, [x.d]⟩)]) (fun ⟨k, nx⟩ => nx) (0, _) (hA := ⟨iv, rfl, iv, trivial⟩) (round := ?_)
  rintro ⟨k, nx⟩ ⟨hk, hv, hx, -⟩
  show DW _ _ _ _ { n := _, t := tab _, h := _, nx := _, e := _ }
  simp only [List.cons_append, List.nil_append]
  have ff := And.intro @hx ff
  refine stp Ln ?_
  refine dw_seq ?_
  refine cd (fun c1 => ?_) (fun c1 => ?_) (hp := rfl)
  · skip
    have hk2 : k < x.z.sets.length := by simpa using c1
    have ff := And.intro (getD_sgd hk2) ff
    refine dw_skip ?_
    show DW _ _ _ _ _
    refine dw_seq ?_
    refine dw_block ?_
    refine stp Ln ?_
    refine stp Ln ?_ (hok := by (try simp only [go_sem, ff]); all_goals (exact zinform_ct _ _))
    refine cd (fun c2 => ?_) (fun c2 => ?_)
    · skip
      refine stp Ln ?_
      refine dw_ret ?_
      exact fin 0 (hr := by (try simp only [go_sem, ff]); all_goals (have hF : (formAt x.z) k = false := (by simpa only [formAt] using c2); simp only [formB]; rw [hv, allN_no hk2 hF]; try simp))
    · skip
      refine dw_skip ?_
      show DW _ _ _ _ _
      refine rgn Ln ?_
      show ∃ _, _
      have h8 : (formAt x.z) k = true := by simpa only [formAt] using c2
      exact rnd (k + 1, _) (h1 := ⟨iv, (by first | (rw [hv, allN_yes hk2 h8]) | (dsimp only; rw [hv, allN_yes hk2 h8])), iv, trivial⟩)
  · skip
    refine dw_exit ?_
    show DW _ _ _ _ _
    refine stp Ln ?_
    refine dw_ret ?_
    exact fin 0 (hr := by (try simp only [go_sem, ff]); all_goals (simp only [formB]; rw [hv, allN_end (by omega)]))

end Go.Proofs.YtfggmgafjabbjaaDoor
namespace Go.Proofs.YtfggmgafjabbjaaDoor
open Go.DL Go.Str Go.Rec Go.Cmp Go.Zon
set_option maxRecDepth 10000
set_option linter.unusedSimpArgs false
set_option linter.unusedVariables false
theorem bo131 : hasBody Tryd.prog 131 = true := by kernel_rfl
theorem zlay_ct (z : Zon) (hl : z.sets.length ≤ 1000000) : PureCt Tryd.prog 131 [.agg z.d] (.agg (layOf z).d) := by
  refine pure_of_dw Tryd.func131 rfl bo131 (by simp [go_sem, D.nr, nrs, nrr]) (by simp [Tryd.f131]) ?_
  unfold Tryd.f131
  simp only [init_eq]
  have ff := True.intro
  refine stp Ln ?_
  refine stp Ln ?_
  refine dw_seq ?_
  refine stp Ln ?_
  refine dw_block ?_
  refine lp (α := (Nat) × Nat) [1, 2, 3, 16, 17] (fun ⟨k, nx⟩ => (k ≤ z.sets.length) ∧ (2 < nx) ∧ True) (fun ⟨k, nx⟩ => z.sets.length - k) (fun ⟨k, nx⟩ => [(18, .i k)]) (fun ⟨k, nx⟩ => [(0, ⟨146, [z.d]⟩), (1, ⟨169, [[.v (.string (bs [])), .list true [], .list true []]]⟩), (2, ⟨187, mapRows (kvT (cutsTo z (k)))⟩)]) (fun ⟨k, nx⟩ => nx) (0, _) (hA := ⟨iv, iv, trivial⟩) (round := ?_)
  rintro ⟨k, nx⟩ ⟨hk, hx, -⟩
  show DW _ _ _ _ { n := _, t := tab _, h := _, nx := _, e := _ }
  simp only [List.cons_append, List.nil_append]
  have n0 : 0 < nx := by omega
  have n1 : 1 < nx := by omega
  have ff := And.intro @hx (And.intro @n0 (And.intro @n1 ff))
  refine stp Ln ?_
  refine dw_seq ?_
  refine cd (fun c1 => ?_) (fun c1 => ?_) (hp := rfl)
  · skip
    have hk2 : k < z.sets.length := by simpa using c1
    have ff := And.intro (getD_sgd hk2) ff
    refine dw_skip ?_
    show DW _ _ _ _ _
    refine dw_seq ?_
    refine dw_block ?_
    refine stp Ln ?_
    refine stp Ln ?_
    refine cd (fun c2 => ?_) (fun c2 => ?_)
    · skip
      refine rgn Ln ?_
      show DW _ _ _ _ _
      refine rgn Ln ?_
      show ∃ _, _
      have ff := And.intro (cuts_yes (z := z) (k := k) (by grind)) ff
      exact rnd (k + 1, _) (h1 := ⟨iv, iv, trivial⟩)
    · skip
      refine dw_skip ?_
      show DW _ _ _ _ _
      refine rgn Ln ?_
      show ∃ _, _
      have ff := And.intro (cuts_no (z := z) (k := k) (by grind)) ff
      exact rnd (k + 1, _) (h1 := ⟨iv, iv, trivial⟩)
  · skip
    refine dw_exit ?_
    show DW _ _ _ _ _
    refine dw_freezem 3 2 ev ev rfl nrs_kvT ?_
    refine stp Ln ?_
    refine stp Ln ?_
    refine dw_seq ?_
    refine stp Ln ?_
    refine dw_block ?_
    refine lp (α := (Nat) × (Str) × (Nat) × (Nat) × Nat) [2, 3, 49, 50] (fun ⟨k, cut, r6, rb, nx⟩ => (k ≤ z.sets.length) ∧ (rb < nx) ∧ (r6 < nx) ∧ (2 < rb ∧ rb < r6) ∧ (cut = (behTo (cutsTo z z.sets.length) z.sets k).2) ∧ True) (fun ⟨k, cut, r6, rb, nx⟩ => z.sets.length - k) (fun ⟨k, cut, r6, rb, nx⟩ => [(6, .mptr r6 0 0), (7, .v (.string (bs cut))), (51, .i k)]) (fun ⟨k, cut, r6, rb, nx⟩ => [(0, ⟨146, [z.d]⟩), (1, ⟨169, [[.v (.string (bs [])), .list true [], .list true []]]⟩), (r6, ⟨169, [[.v (.string (bs z.apex)), .list false (z.sets.map Sgd.d), .mrow rb 0 z.sets.length]]⟩), (rb, ⟨9, (rowsB (cutsTo z z.sets.length) z.sets z.sets.length (k)).map sR⟩)]) (fun ⟨k, cut, r6, rb, nx⟩ => nx) (0, [], (nx + 8), (nx + 6), _) (hA := ⟨iv, iv, iv, iv, iv, trivial⟩) (round := ?_)
    rintro ⟨k, cut, r6, rb, nx⟩ ⟨hk, hx, hx6, hbr, hc, -⟩
    show DW _ _ _ _ { n := _, t := tab _, h := _, nx := _, e := _ }
    simp only [List.cons_append, List.nil_append]
    have n0 : 0 < nx := by omega
    have n1 : 1 < nx := by omega
    have zr6_rb : (r6 = rb) = False := eq_false (by omega)
    have yrb_r6 : (rb = r6) = False := eq_false (by omega)
    have z0_rb : (0 = rb) = False := eq_false (by omega)
    have yrb_0 : (rb = 0) = False := eq_false (by omega)
    have z1_rb : (1 = rb) = False := eq_false (by omega)
    have yrb_1 : (rb = 1) = False := eq_false (by omega)
    have z0_r6 : (0 = r6) = False := eq_false (by omega)
    have yr6_0 : (r6 = 0) = False := eq_false (by omega)
    have z1_r6 : (1 = r6) = False := eq_false (by omega)
    have yr6_1 : (r6 = 1) = False := eq_false (by omega)
    have ff := And.intro @hx (And.intro @hx6 (And.intro @n0 (And.intro @n1 (And.intro @zr6_rb (And.intro @yrb_r6 (And.intro @z0_rb (And.intro @yrb_0 (And.intro @z1_rb (And.intro @yrb_1 (And.intro @z0_r6 (And.intro @yr6_0 (And.intro @z1_r6 (And.intro @yr6_1 ff)))))))))))))
    refine stp Ln ?_
    refine dw_seq ?_
    refine cd (fun c3 => ?_) (fun c3 => ?_) (hp := rfl)
    · skip
      have hk2 : k < z.sets.length := by simpa using c3
      have ff := And.intro (getD_sgd hk2) (And.intro (rowsB_len (m := (cutsTo z z.sets.length)) (l := z.sets) hk) (And.intro (getD_sR (l := rowsB (cutsTo z z.sets.length) z.sets z.sets.length k) (n := k) (by rw [rowsB_len hk]; exact hk2)) ff))
      refine dw_skip ?_
      show DW _ _ _ _ _
      refine dw_seq ?_
      refine dw_block ?_
      refine stp Ln ?_
      refine stp Ln ?_
      refine dw_seq ?_
      refine stp Ln ?_
      refine cd (fun c4 => ?_) (fun c4 => ?_)
      · skip
        refine stp Ln ?_ (hok := by (try simp only [go_sem, ff]); all_goals (exact nunder_ct _ _))
        refine stp Ln ?_
        refine cd (fun c5 => ?_) (fun c5 => ?_)
        · skip
          refine rgn Ln ?_
          show DW _ _ _ _ _
          refine dw_seq ?_
          refine stp Ln ?_
          refine cd (fun c6 => ?_) (fun c6 => ?_)
          · skip
            refine rgn Ln ?_
            show DW _ _ _ _ _
            refine rgn Ln ?_
            show DW _ _ _ _ _
            refine rgn Ln ?_
            show ∃ _, _
            have hcc : (behTo (cutsTo z z.sets.length) z.sets (k + 1)).2 = z.sets[k]!.set.name := by show stepC _ (behTo _ _ k).2 _ = _; rw [← hc]; simp only [stepC]; grind
            have ff := And.intro (rowsB_setD hk2 hcc) (And.intro hcc ff)
            exact rnd (k + 1, (behTo (cutsTo z z.sets.length) z.sets (k + 1)).2, r6, rb, _) (h1 := ⟨iv, iv, iv, iv, iv, trivial⟩)
          · skip
            refine dw_skip ?_
            show DW _ _ _ _ _
            refine rgn Ln ?_
            show DW _ _ _ _ _
            refine rgn Ln ?_
            show ∃ _, _
            have hcc : (behTo (cutsTo z z.sets.length) z.sets (k + 1)).2 = [] := by show stepC _ (behTo _ _ k).2 _ = _; rw [← hc]; simp only [stepC]; grind
            have ff := And.intro (rowsB_setD hk2 hcc) (And.intro hcc ff)
            exact rnd (k + 1, (behTo (cutsTo z z.sets.length) z.sets (k + 1)).2, r6, rb, _) (h1 := ⟨iv, iv, iv, iv, iv, trivial⟩)
        · skip
          refine dw_skip ?_
          show DW _ _ _ _ _
          refine dw_seq ?_
          refine stp Ln ?_
          refine cd (fun c6 => ?_) (fun c6 => ?_)
          · skip
            refine rgn Ln ?_
            show DW _ _ _ _ _
            refine rgn Ln ?_
            show DW _ _ _ _ _
            refine rgn Ln ?_
            show ∃ _, _
            have hcc : (behTo (cutsTo z z.sets.length) z.sets (k + 1)).2 = z.sets[k]!.set.name := by show stepC _ (behTo _ _ k).2 _ = _; rw [← hc]; simp only [stepC]; grind
            have ff := And.intro (rowsB_setD hk2 hcc) (And.intro hcc ff)
            exact rnd (k + 1, (behTo (cutsTo z z.sets.length) z.sets (k + 1)).2, r6, rb, _) (h1 := ⟨iv, iv, iv, iv, iv, trivial⟩)
          · skip
            refine dw_skip ?_
            show DW _ _ _ _ _
            refine rgn Ln ?_
            show DW _ _ _ _ _
            refine rgn Ln ?_
            show ∃ _, _
            have hcc : (behTo (cutsTo z z.sets.length) z.sets (k + 1)).2 = cut := by show stepC _ (behTo _ _ k).2 _ = _; rw [← hc]; simp only [stepC]; grind
            have ff := And.intro (rowsB_setD hk2 hcc) (And.intro hcc ff)
            exact rnd (k + 1, (behTo (cutsTo z z.sets.length) z.sets (k + 1)).2, r6, rb, _) (h1 := ⟨iv, iv, iv, iv, iv, trivial⟩)
      · skip
        refine dw_skip ?_
        show DW _ _ _ _ _
        refine dw_seq ?_
        refine stp Ln ?_
        refine cd (fun c6 => ?_) (fun c6 => ?_)
        · skip
          refine rgn Ln ?_
          show DW _ _ _ _ _
          refine rgn Ln ?_
          show DW _ _ _ _ _
          refine rgn Ln ?_
          show ∃ _, _
          have hcc : (behTo (cutsTo z z.sets.length) z.sets (k + 1)).2 = z.sets[k]!.set.name := by show stepC _ (behTo _ _ k).2 _ = _; rw [← hc]; simp only [stepC]; grind
          have ff := And.intro (rowsB_setD hk2 hcc) (And.intro hcc ff)
          exact rnd (k + 1, (behTo (cutsTo z z.sets.length) z.sets (k + 1)).2, r6, rb, _) (h1 := ⟨iv, iv, iv, iv, iv, trivial⟩)
        · skip
          refine dw_skip ?_
          show DW _ _ _ _ _
          refine rgn Ln ?_
          show DW _ _ _ _ _
          refine rgn Ln ?_
          show ∃ _, _
          have hcc : (behTo (cutsTo z z.sets.length) z.sets (k + 1)).2 = cut := by show stepC _ (behTo _ _ k).2 _ = _; rw [← hc]; simp only [stepC]; grind
          have ff := And.intro (rowsB_setD hk2 hcc) (And.intro hcc ff)
          exact rnd (k + 1, (behTo (cutsTo z z.sets.length) z.sets (k + 1)).2, r6, rb, _) (h1 := ⟨iv, iv, iv, iv, iv, trivial⟩)
    · skip
      refine dw_exit ?_
      show DW _ _ _ _ _
      have e9 : k = z.sets.length := by omega
      subst e9
      have tk : List.take z.sets.length ((rowsB (cutsTo z z.sets.length) z.sets z.sets.length z.sets.length).map sR) = (behOf z).map sR := by rw [rowsB_n]; exact List.take_of_length_le (by rw [List.length_map, behTo_len]; exact Nat.le_refl _)
      have ff := And.intro @tk (And.intro (rowsB_len (m := (cutsTo z z.sets.length)) (l := z.sets) (Nat.le_refl z.sets.length)) ff)
      refine stp Ln ?_
      refine dw_ret ?_
      exact fin 2 (hr := by (try simp only [go_sem, ff]); all_goals (rfl)) (hk := by (try simp only [go_sem, ff]); all_goals (exact behOf_len z))
theorem bo104 : hasBody Tryd.prog 104 = true := by kernel_rfl
theorem zvalid_ct (z : Zon) : PureCt Tryd.prog 104 [.agg z.d] (.b (zoneOk z)) := by
  refine pure_of_dw Tryd.func104 rfl bo104 (by simp [go_sem, D.nr, nrs, nrr]) (by simp [Tryd.f104]) ?_
  unfold Tryd.f104
  simp only [init_eq]
  have ff := True.intro
  refine stp Ln ?_
  refine stp Ln ?_
  refine dw_seq ?_
  refine stp Ln ?_ (hok := by (try simp only [go_sem, ff]); all_goals (first | done | ((repeat' (with_reducible apply And.intro)) <;> first | exact zordered_ct z | (intros; exact zordered_ct z) | (intro h; exact zapex_ct z (ord_len h)) | (intros; simp_all; done) | skip)))
  refine cd (fun c1 => ?_) (fun c1 => ?_)
  · skip
    refine stp Ln ?_
    refine dw_ret ?_
    exact fin 0 (hr := by (try simp only [go_sem, ff]); all_goals (simp only [zoneOk]; grind))
  · skip
    refine dw_skip ?_
    show DW _ _ _ _ _
    have ho := ord_len c1.1
    refine stp Ln ?_ (hok := by (try simp only [go_sem, ff]); all_goals (exact zlay_ct z ho))
    refine stp Ln ?_ (hok := by (try simp only [go_sem, ff]); all_goals (first | done | ((repeat' (with_reducible apply And.intro)) <;> first | exact zalias_ct (layOf z) ho | (intros; exact zalias_ct (layOf z) ho) | exact zcuts_ct (layOf z) ho (behOf_len z) | (intros; exact zcuts_ct (layOf z) ho (behOf_len z)) | exact zglue_ct (layOf z) ho (behOf_len z) | (intros; exact zglue_ct (layOf z) ho (behOf_len z)) | exact zform_ct (layOf z) ho | (intros; exact zform_ct (layOf z) ho) | skip)))
    refine dw_ret ?_
    exact fin 0 (hr := by (try simp only [go_sem, ff]); all_goals (simp only [zoneOk]; rw [c1.1, c1.2]; simp [Bool.and_assoc]))
theorem bo76 : hasBody Tryd.prog 76 = true := by kernel_rfl
theorem zserial_ct (z : Zon) : PureCt Tryd.prog 76 [.agg z.d] (.tuple [.i (if zoneOk z then serialOf z else 0), .i (if zoneOk z then 0 else 1)]) := by
  refine pure_of_dw Tryd.func76 rfl bo76 (by simp [go_sem, D.nr, nrs, nrr]) (by simp [Tryd.f76]) ?_
  unfold Tryd.f76
  simp only [init_eq]
  have ff := True.intro
  refine stp Ln ?_
  refine dw_seq ?_
  refine stp Ln ?_ (hok := by (try simp only [go_sem, ff]); all_goals (exact zvalid_ct z))
  refine cd (fun c1 => ?_) (fun c1 => ?_)
  · skip
    refine stp Ln ?_
    refine dw_ret ?_
    exact fin 1 (hr := by (try simp only [go_sem, ff]); all_goals (simp [c1]))
  · skip
    refine dw_skip ?_
    show DW _ _ _ _ _
    refine stp Ln ?_ (hok := by (try simp only [go_sem, ff]); all_goals (exact zfind_ct z ⟨z.apex, 4⟩ (ok_len c1)))
    obtain ⟨hf1, hf2⟩ := start_at c1
    have ff := And.intro (getD_sgd hf1) (And.intro (getD_dat hf2) ff)
    refine stp Ln ?_
    refine dw_ret ?_
    exact fin 1 (hr := by (try simp only [go_sem, ff]); all_goals (simp [c1, serialOf]))

end Go.Proofs.YtfggmgafjabbjaaDoor
namespace Go.Proofs.YtfggmgafjabbjaaDoor
open Go.DL Go.Str Go.Rec Go.Cmp Go.Zon
set_option maxRecDepth 10000
set_option linter.unusedSimpArgs false
set_option linter.unusedVariables false
theorem sig_eqF {x y : RSig} (h : x.zone = y.zone ∧ x.key = y.key ∧ x.alg = y.alg ∧ x.frm = y.frm ∧ x.unt = y.unt ∧ x.sum = y.sum) : x = y := by
  obtain ⟨a, b, c, d, e, f⟩ := x
  obtain ⟨g, i, j, k, l, m⟩ := y
  simp at h
  simp [h]
theorem sig_neF {x y : RSig} (h : ¬x.zone = y.zone ∨ ¬x.key = y.key ∨ ¬x.alg = y.alg ∨ ¬x.frm = y.frm ∨ ¬x.unt = y.unt ∨ ¬x.sum = y.sum) : x ≠ y := by
  rintro rfl
  simp at h
theorem bo113 : hasBody Tryd.prog 113 = true := by kernel_rfl
theorem rsamesg_ct (a : Sgd) (b : Sgd) (ha : fit1 a) : PureCt Tryd.prog 113 [.agg a.d, .agg b.d] (.b (sameSgd a b)) := by
  refine pure_of_dw Tryd.func113 rfl bo113 (by simp [go_sem, D.nr, nrs, nrr]) (by simp [Tryd.f113]) ?_
  unfold Tryd.f113
  simp only [init_eq]
  have ff := True.intro
  have ha2 := ha.2
  refine stp Ln ?_
  refine dw_seq ?_
  refine stp Ln ?_ (hok := by (try simp only [go_sem, ff]); all_goals (first | done | ((repeat' (with_reducible apply And.intro)) <;> first | exact rsame02_ct _ _ ha.1 | (intros; exact rsame02_ct _ _ ha.1) | skip)))
  refine cd (fun c1 => ?_) (fun c1 => ?_)
  · skip
    refine stp Ln ?_
    refine dw_ret ?_
    exact fin 0 (hr := by (try simp only [go_sem, ff]); all_goals (rw [sgd_not1 (by grind [sameB])]))
  · skip
    refine dw_skip ?_
    show DW _ _ _ _ _
    refine dw_seq ?_
    refine stp Ln ?_
    refine dw_block ?_
    refine lp (α := (Nat) × Nat) [2, 3] (fun ⟨k, nx⟩ => (k ≤ a.sigs.length) ∧ (1 < nx) ∧ (∀ i, i < k → a.sigs[i]! = b.sigs[i]!) ∧ True) (fun ⟨k, nx⟩ => a.sigs.length - k) (fun ⟨k, nx⟩ => [(5, .i k)]) (fun ⟨k, nx⟩ => [(0, ⟨98, [a.d]⟩), (1, ⟨98, [b.d]⟩)]) (fun ⟨k, nx⟩ => nx) (0, _) (hA := ⟨iv, iv, (by first | (intro i hi; omega) | (dsimp only; intro i hi; omega)), trivial⟩) (round := ?_)
    rintro ⟨k, nx⟩ ⟨hk, hx, hv, -⟩
    show DW _ _ _ _ { n := _, t := tab _, h := _, nx := _, e := _ }
    simp only [List.cons_append, List.nil_append]
    have n0 : 0 < nx := by omega
    have ff := And.intro @hx (And.intro @n0 ff)
    refine dw_seq ?_
    refine stp Ln ?_
    refine cd (fun c2 => ?_) (fun c2 => ?_) (hp := rfl)
    · skip
      have hk2 : k < a.sigs.length := by simpa using c2
      have hk3 : k < b.sigs.length := by grind
      have ff := And.intro (getD_sig hk2) (And.intro (getD_sig hk3) ff)
      refine dw_skip ?_
      show DW _ _ _ _ _
      refine dw_seq ?_
      refine dw_block ?_
      refine stp Ln ?_
      refine cd (fun c3 => ?_) (fun c3 => ?_)
      · skip
        refine stp Ln ?_
        refine dw_ret ?_
        exact fin 0 (hr := by (try simp only [go_sem, ff]); all_goals (rw [sgd_not2 (sig_neF c3)]))
      · skip
        refine dw_skip ?_
        show DW _ _ _ _ _
        refine rgn Ln ?_
        show ∃ _, _
        exact rnd (k + 1, _) (h1 := ⟨iv, iv, (by (try dsimp only); intro i hi; by_cases e : i = k; subst e; exact sig_eqF c3; exact hv i (by omega)), trivial⟩)
    · skip
      refine dw_exit ?_
      show DW _ _ _ _ _
      refine stp Ln ?_
      refine dw_ret ?_
      exact fin 0 (hr := by (try simp only [go_sem, ff]); all_goals (rw [sgd_same (by grind [sameB]) (by grind) fun i hi => hv i (by omega)]))
theorem bo90 : hasBody Tryd.prog 90 = true := by kernel_rfl
theorem rsamel_ct (a : List Sgd) (b : List Sgd) (ha : fitL a) : PureCt Tryd.prog 90 [.list false (a.map Sgd.d), .list false (b.map Sgd.d)] (.b (sameList a b)) := by
  refine pure_of_dw Tryd.func90 rfl bo90 (by simp [go_sem, D.nr, nrs, nrr]) (by simp [Tryd.f90]) ?_
  unfold Tryd.f90
  simp only [init_eq]
  have ff := True.intro
  have ha1 := ha.1
  refine stp Ln ?_
  refine dw_seq ?_
  refine stp Ln ?_
  refine cd (fun c1 => ?_) (fun c1 => ?_)
  · skip
    refine stp Ln ?_
    refine dw_ret ?_
    exact fin 0 (hr := by (try simp only [go_sem, ff]); all_goals (rw [sgds_len (by grind)]))
  · skip
    refine dw_skip ?_
    show DW _ _ _ _ _
    refine dw_seq ?_
    refine stp Ln ?_
    refine dw_block ?_
    refine lp (α := (Nat) × Nat) [0, 1] (fun ⟨k, nx⟩ => (k ≤ a.length) ∧ (∀ i, i < k → sameSgd a[i]! b[i]! = true) ∧ True) (fun ⟨k, nx⟩ => a.length - k) (fun ⟨k, nx⟩ => [(5, .i k)]) (fun ⟨k, nx⟩ => []) (fun ⟨k, nx⟩ => nx) (0, _) (hA := ⟨iv, (by first | (intro i hi; omega) | (dsimp only; intro i hi; omega)), trivial⟩) (round := ?_)
    rintro ⟨k, nx⟩ ⟨hk, hv, -⟩
    show DW _ _ _ _ { n := _, t := tab _, h := _, nx := _, e := _ }
    simp only [List.cons_append, List.nil_append]
    refine dw_seq ?_
    refine stp Ln ?_
    refine cd (fun c2 => ?_) (fun c2 => ?_) (hp := rfl)
    · skip
      have hk2 : k < a.length := by simpa using c2
      have hk3 : k < b.length := by grind
      have ff := And.intro (getD_sgd hk2) (And.intro (getD_sgd hk3) ff)
      refine dw_skip ?_
      show DW _ _ _ _ _
      refine dw_seq ?_
      refine dw_block ?_
      refine stp Ln ?_ (hok := by (try simp only [go_sem, ff]); all_goals (first | done | ((repeat' (with_reducible apply And.intro)) <;> first | exact rsamesg_ct _ _ (ha.2 k hk2) | (intros; exact rsamesg_ct _ _ (ha.2 k hk2)) | omega | skip)))
      refine cd (fun c3 => ?_) (fun c3 => ?_)
      · skip
        refine stp Ln ?_
        refine dw_ret ?_
        exact fin 0 (hr := by (try simp only [go_sem, ff]); all_goals (rw [sgd_not3 (k := k) (by grind)]))
      · skip
        refine dw_skip ?_
        show DW _ _ _ _ _
        refine rgn Ln ?_
        show ∃ _, _
        exact rnd (k + 1, _) (h1 := ⟨iv, (by (try dsimp only); intro i hi; by_cases e : i = k; subst e; grind; exact hv i (by omega)), trivial⟩)
    · skip
      refine dw_exit ?_
      show DW _ _ _ _ _
      refine stp Ln ?_
      refine dw_ret ?_
      exact fin 0 (hr := by (try simp only [go_sem, ff]); all_goals (rw [sgds_same (by grind) fun i hi => hv i (by omega)]))
theorem bo57 : hasBody Tryd.prog 57 = true := by kernel_rfl
theorem rsamez_ct (a : Zon) (b : Zon) (ha : fitL a.sets) : PureCt Tryd.prog 57 [.agg a.d, .agg b.d] (.b (sameZ a b)) := by
  refine pure_of_dw Tryd.func57 rfl bo57 (by simp [go_sem, D.nr, nrs, nrr]) (by simp [Tryd.f57]) ?_
  unfold Tryd.f57
  simp only [init_eq]
  have ff := True.intro
  refine stp Ln ?_
  refine stp Ln ?_ (hok := by (try simp only [go_sem, ff]); all_goals (first | done | ((repeat' (with_reducible apply And.intro)) <;> first | exact rsamel_ct _ _ ha | (intros; exact rsamel_ct _ _ ha) | skip)))
  refine dw_ret ?_
  exact fin 0 (hr := by (try simp only [go_sem, ff]); all_goals (simp [sameZ_eq]))

end Go.Proofs.YtfggmgafjabbjaaDoor
namespace Go.Proofs.YtfggmgafjabbjaaDoor
open Go.DL Go.Str Go.Rec Go.Cmp Go.Zon
set_option maxRecDepth 10000
set_option linter.unusedSimpArgs false
set_option linter.unusedVariables false
theorem qst_eqF {x y : Qst} (h : x.name = y.name ∧ x.ty = y.ty) : x = y := by
  obtain ⟨a, b⟩ := x
  obtain ⟨g, i⟩ := y
  simp at h
  simp [h]
theorem qst_neF {x y : Qst} (h : ¬x.name = y.name ∨ ¬x.ty = y.ty) : x ≠ y := by
  rintro rfl
  simp at h
theorem bo58 : hasBody Tryd.prog 58 = true := by kernel_rfl
theorem dserial_ct (x : Int) : PureCt Tryd.prog 58 [.i x] (.b (serB x)) := by
  refine pure_of_dw Tryd.func58 rfl bo58 (by simp [go_sem, D.nr, nrs, nrr]) (by simp [Tryd.f58]) ?_
  unfold Tryd.f58
  simp only [init_eq]
  have ff := True.intro
  refine stp Ln ?_
  refine stp Ln ?_
  refine dw_ret ?_
  exact fin 0 (hr := by (try simp only [go_sem, ff]); all_goals (simp [serB]))
theorem bo59 : hasBody Tryd.prog 59 = true := by kernel_rfl
theorem dbefore_ct (a : Int) (b : Int) (ha : serB a = true) (hb : serB b = true) : PureCt Tryd.prog 59 [.i a, .i b] (.b (befB a b)) := by
  refine pure_of_dw Tryd.func59 rfl bo59 (by simp [go_sem, D.nr, nrs, nrr]) (by simp [Tryd.f59]) ?_
  unfold Tryd.f59
  simp only [init_eq]
  have ff := True.intro
  simp only [serB, Bool.and_eq_true, decide_eq_true_eq] at ha hb
  refine stp Ln ?_
  refine stp Ln ?_
  refine stp Ln ?_
  refine dw_ret ?_
  exact fin 0 (hr := by (try simp only [go_sem, ff]); all_goals (simp [befB]))
theorem bo24 : hasBody Tryd.prog 24 = true := by kernel_rfl
theorem dless11_ct (a : Int) (b : Int) : PureCt Tryd.prog 24 [.i a, .i b] (.tuple [.b (lessF a b).1, .i (lessF a b).2]) := by
  refine pure_of_dw Tryd.func24 rfl bo24 (by simp [go_sem, D.nr, nrs, nrr]) (by simp [Tryd.f24]) ?_
  unfold Tryd.f24
  simp only [init_eq]
  have ff := True.intro
  refine stp Ln ?_
  refine dw_seq ?_
  refine stp Ln ?_ (hok := by (try simp only [go_sem, ff]); all_goals (first | done | ((repeat' (with_reducible apply And.intro)) <;> first | exact dserial_ct _ | (intros; exact dserial_ct _) | skip)))
  refine cd (fun c1 => ?_) (fun c1 => ?_)
  · skip
    refine stp Ln ?_
    refine dw_ret ?_
    exact fin 1 (hr := by (try simp only [go_sem, ff]); all_goals (simp only [lessF]; grind))
  · skip
    refine dw_skip ?_
    show DW _ _ _ _ _
    refine stp Ln ?_ (hok := by (try simp only [go_sem, ff]); all_goals (exact dbefore_ct _ _ c1.1 c1.2))
    refine dw_ret ?_
    exact fin 1 (hr := by (try simp only [go_sem, ff]); all_goals (simp [lessF, c1]))
theorem bo25 : hasBody Tryd.prog 25 = true := by kernel_rfl
theorem dafter_ct (a : Int) : PureCt Tryd.prog 25 [.i a] (.tuple [.i (afterF a).1, .i (afterF a).2]) := by
  refine pure_of_dw Tryd.func25 rfl bo25 (by simp [go_sem, D.nr, nrs, nrr]) (by simp [Tryd.f25]) ?_
  unfold Tryd.f25
  simp only [init_eq]
  have ff := True.intro
  refine stp Ln ?_
  refine dw_seq ?_
  refine stp Ln ?_ (hok := by (try simp only [go_sem, ff]); all_goals (exact dserial_ct _))
  refine cd (fun c1 => ?_) (fun c1 => ?_)
  · skip
    refine stp Ln ?_
    refine dw_ret ?_
    exact fin 1 (hr := by (try simp only [go_sem, ff]); all_goals (simp [afterF, c1]))
  · skip
    refine dw_skip ?_
    show DW _ _ _ _ _
    have c5 := c1
    simp only [serB, Bool.and_eq_true, decide_eq_true_eq] at c5
    refine stp Ln ?_
    refine dw_ret ?_
    exact fin 1 (hr := by (try simp only [go_sem, ff]); all_goals (simp [afterF, c1]))
theorem bo80 : hasBody Tryd.prog 80 = true := by kernel_rfl
theorem dplace_ct (s : Sgd) : PureCt Tryd.prog 80 [.agg s.d] (.agg s.q.d) := by
  refine pure_of_dw Tryd.func80 rfl bo80 (by simp [go_sem, D.nr, nrs, nrr]) (by simp [Tryd.f80]) ?_
  unfold Tryd.f80
  simp only [init_eq]
  have ff := True.intro
  refine stp Ln ?_
  refine stp Ln ?_
  refine dw_ret ?_
  exact fin 1 (hr := by (try simp only [go_sem, ff]); all_goals (rfl))
theorem bo56 : hasBody Tryd.prog 56 = true := by kernel_rfl
theorem rsame11_ct (a : Dlt) (b : Dlt) (hp : fitL a.put) (hq : a.drop.length ≤ 1000000) : PureCt Tryd.prog 56 [.agg a.d, .agg b.d] (.b (sameD a b)) := by
  refine pure_of_dw Tryd.func56 rfl bo56 (by simp [go_sem, D.nr, nrs, nrr]) (by simp [Tryd.f56]) ?_
  unfold Tryd.f56
  simp only [init_eq]
  have ff := True.intro
  refine stp Ln ?_
  refine dw_seq ?_
  refine stp Ln ?_ (hok := by (try simp only [go_sem, ff]); all_goals (first | done | ((repeat' (with_reducible apply And.intro)) <;> first | exact rsamel_ct _ _ hp | (intros; exact rsamel_ct _ _ hp) | (intros; exact rsamel_ct _ _ hp) | skip)))
  refine cd (fun c1 => ?_) (fun c1 => ?_)
  · skip
    refine stp Ln ?_
    refine dw_ret ?_
    exact fin 0 (hr := by (try simp only [go_sem, ff]); all_goals (rw [sameD_no (by grind)]))
  · skip
    refine dw_skip ?_
    show DW _ _ _ _ _
    refine dw_seq ?_
    refine stp Ln ?_
    refine dw_block ?_
    refine lp (α := (Nat) × Nat) [2, 3] (fun ⟨k, nx⟩ => (k ≤ a.drop.length) ∧ (1 < nx) ∧ (∀ i, i < k → a.drop[i]! = b.drop[i]!) ∧ True) (fun ⟨k, nx⟩ => a.drop.length - k) (fun ⟨k, nx⟩ => [(5, .i k)]) (fun ⟨k, nx⟩ => [(0, ⟨89, [a.d]⟩), (1, ⟨89, [b.d]⟩)]) (fun ⟨k, nx⟩ => nx) (0, _) (hA := ⟨iv, iv, (by first | (intro i hi; omega) | (dsimp only; intro i hi; omega)), trivial⟩) (round := ?_)
    rintro ⟨k, nx⟩ ⟨hk, hx, hv, -⟩
    show DW _ _ _ _ { n := _, t := tab _, h := _, nx := _, e := _ }
    simp only [List.cons_append, List.nil_append]
    have n0 : 0 < nx := by omega
    have ff := And.intro @hx (And.intro @n0 ff)
    refine dw_seq ?_
    refine stp Ln ?_
    refine cd (fun c2 => ?_) (fun c2 => ?_) (hp := rfl)
    · skip
      have hk2 : k < a.drop.length := by simpa using c2
      have hk3 : k < b.drop.length := by grind
      have ff := And.intro (getD_qst hk2) (And.intro (getD_qst hk3) ff)
      refine dw_skip ?_
      show DW _ _ _ _ _
      refine dw_seq ?_
      refine dw_block ?_
      refine stp Ln ?_
      refine cd (fun c3 => ?_) (fun c3 => ?_)
      · skip
        refine stp Ln ?_
        refine dw_ret ?_
        exact fin 0 (hr := by (try simp only [go_sem, ff]); all_goals (rw [sameD_at (k := k) (qst_neF c3)]))
      · skip
        refine dw_skip ?_
        show DW _ _ _ _ _
        refine rgn Ln ?_
        show ∃ _, _
        exact rnd (k + 1, _) (h1 := ⟨iv, iv, (by (try dsimp only); intro i hi; by_cases e : i = k; subst e; exact qst_eqF c3; exact hv i (by omega)), trivial⟩)
    · skip
      refine dw_exit ?_
      show DW _ _ _ _ _
      refine stp Ln ?_
      refine dw_ret ?_
      exact fin 0 (hr := by (try simp only [go_sem, ff]); all_goals (rw [sameD_yes (by grind) (by grind) (by grind) (by grind) (by grind) fun i hi => hv i (by omega)]))

end Go.Proofs.YtfggmgafjabbjaaDoor
namespace Go.Proofs.YtfggmgafjabbjaaDoor
open Go.DL Go.Str Go.Rec Go.Cmp Go.Zon
set_option maxRecDepth 10000
set_option linter.unusedSimpArgs false
set_option linter.unusedVariables false
@[go_sem] theorem all_dat6 {l : List Dat} : (∀ r ∈ l.map Dat.d, r.length = 3) = True := by
  apply eq_true
  intro r hr
  obtain ⟨x, _, rfl⟩ := List.mem_map.1 hr
  rfl
theorem bo106 : hasBody Tryd.prog 106 = true := by kernel_rfl
theorem clonedat_ct (l : List Dat) (hl : l.length ≤ 1000000) : PureCt Tryd.prog 106 [.list false (l.map Dat.d)] (.list false (l.map Dat.d)) := by
  refine pure_of_dw Tryd.func106 rfl bo106 (by simp [go_sem, D.nr, nrs, nrr]) (by simp [Tryd.f106]) ?_
  unfold Tryd.f106
  simp only [init_eq]
  have ff := True.intro
  refine stp Ln ?_
  refine dw_seq ?_
  refine dw_seq (dw_seg ?_)
  refine seg_eqnil (C := Ln) 1 (e := 48) (by omega) (arr_at rfl) rfl rfl (by kernel_rfl) (by simp only [List.drop_succ_cons, List.drop_zero, List.take_succ_cons, List.take_zero, S.put, Nat.sub_self, go_sem, ff]; exact rfl) ?_ (by rfl) (by simp only [go_sem, ff]; exact rfl) (fun y hy => ?_)
  · try simp only [go_sem, ff]
    all_goals (first | done | (repeat' (with_reducible apply And.intro)) <;> first | omega | (with_reducible assumption) | (intros; omega) | (intros; simp only [decide_eq_true_eq, decide_eq_false_iff_not, Bool.or_eq_true, Bool.and_eq_true, Bool.or_eq_false_iff, Bool.not_eq_true', Bool.not_eq_false'] at *; omega) | (simp_all; done) | (simp_all; omega))
  refine seg_done (C := Ln) (by first | decide | simp) (by simp only [List.drop_succ_cons, List.drop_zero, List.take_succ_cons, List.take_zero, S.put, Nat.sub_self, go_sem, ff]; exact rfl) ?_ rfl ?_
  · try simp only [go_sem, ff]
    all_goals (first | done | (repeat' (with_reducible apply And.intro)) <;> first | omega | (with_reducible assumption) | (intros; omega) | (intros; simp only [decide_eq_true_eq, decide_eq_false_iff_not, Bool.or_eq_true, Bool.and_eq_true, Bool.or_eq_false_iff, Bool.not_eq_true', Bool.not_eq_false'] at *; omega) | (simp_all; done) | (simp_all; omega))
  try simp only [clear_eq]
  refine cd (fun c1 => ?_) (fun c1 => ?_) (hp := rfl) (hq := rfl)
  · skip
    have hn : l = [] := List.map_eq_nil_iff.1 (hy c1)
    subst hn
    refine stp Ln ?_
    refine dw_ret ?_
    exact fin 1 (hr := by (try simp only [go_sem, ff]); all_goals (rfl))
  · skip
    refine dw_skip ?_
    show DW _ _ _ _ _
    refine stp Ln ?_
    refine dw_ret ?_
    exact fin 1 (hr := by (try simp only [go_sem, ff]); all_goals (rfl))
theorem bo107 : hasBody Tryd.prog 107 = true := by kernel_rfl
theorem clonesig_ct (l : List RSig) (hl : l.length ≤ 1000000) : PureCt Tryd.prog 107 [.list false (l.map RSig.d)] (.list false (l.map RSig.d)) := by
  refine pure_of_dw Tryd.func107 rfl bo107 (by simp [go_sem, D.nr, nrs, nrr]) (by simp [Tryd.f107]) ?_
  unfold Tryd.f107
  simp only [init_eq]
  have ff := True.intro
  refine stp Ln ?_
  refine dw_seq ?_
  refine dw_seq (dw_seg ?_)
  refine seg_eqnil (C := Ln) 1 (e := 151) (by omega) (arr_at rfl) rfl rfl (by kernel_rfl) (by simp only [List.drop_succ_cons, List.drop_zero, List.take_succ_cons, List.take_zero, S.put, Nat.sub_self, go_sem, ff]; exact rfl) ?_ (by rfl) (by simp only [go_sem, ff]; exact rfl) (fun y hy => ?_)
  · try simp only [go_sem, ff]
    all_goals (first | done | (repeat' (with_reducible apply And.intro)) <;> first | omega | (with_reducible assumption) | (intros; omega) | (intros; simp only [decide_eq_true_eq, decide_eq_false_iff_not, Bool.or_eq_true, Bool.and_eq_true, Bool.or_eq_false_iff, Bool.not_eq_true', Bool.not_eq_false'] at *; omega) | (simp_all; done) | (simp_all; omega))
  refine seg_done (C := Ln) (by first | decide | simp) (by simp only [List.drop_succ_cons, List.drop_zero, List.take_succ_cons, List.take_zero, S.put, Nat.sub_self, go_sem, ff]; exact rfl) ?_ rfl ?_
  · try simp only [go_sem, ff]
    all_goals (first | done | (repeat' (with_reducible apply And.intro)) <;> first | omega | (with_reducible assumption) | (intros; omega) | (intros; simp only [decide_eq_true_eq, decide_eq_false_iff_not, Bool.or_eq_true, Bool.and_eq_true, Bool.or_eq_false_iff, Bool.not_eq_true', Bool.not_eq_false'] at *; omega) | (simp_all; done) | (simp_all; omega))
  try simp only [clear_eq]
  refine cd (fun c1 => ?_) (fun c1 => ?_) (hp := rfl) (hq := rfl)
  · skip
    have hn : l = [] := List.map_eq_nil_iff.1 (hy c1)
    subst hn
    refine stp Ln ?_
    refine dw_ret ?_
    exact fin 1 (hr := by (try simp only [go_sem, ff]); all_goals (rfl))
  · skip
    refine dw_skip ?_
    show DW _ _ _ _ _
    refine stp Ln ?_
    refine dw_ret ?_
    exact fin 1 (hr := by (try simp only [go_sem, ff]); all_goals (rfl))
theorem bo83 : hasBody Tryd.prog 83 = true := by kernel_rfl
theorem dclone_ct (s : Sgd) (hs : fit1 s) : PureCt Tryd.prog 83 [.agg s.d] (.agg s.d) := by
  refine pure_of_dw Tryd.func83 rfl bo83 (by simp [go_sem, D.nr, nrs, nrr]) (by simp [Tryd.f83]) ?_
  unfold Tryd.f83
  simp only [init_eq]
  have ff := True.intro
  refine stp Ln ?_
  refine stp Ln ?_ (hok := by (try simp only [go_sem, ff]); all_goals (exact clonedat_ct _ (Nat.le_trans hs.1 (by omega))))
  refine stp Ln ?_ (hok := by (try simp only [go_sem, ff]); all_goals (exact clonesig_ct _ (Nat.le_trans hs.2 (by omega))))
  refine stp Ln ?_
  refine dw_ret ?_
  exact fin 2 (hr := by (try simp only [go_sem, ff]); all_goals (rfl))

end Go.Proofs.YtfggmgafjabbjaaDoor
namespace Go.Proofs.YtfggmgafjabbjaaDoor
open Go.DL Go.Str Go.Rec Go.Cmp Go.Zon
set_option maxRecDepth 10000
set_option linter.unusedSimpArgs false
set_option linter.unusedVariables false
theorem bo53 : hasBody Tryd.prog 53 = true := by kernel_rfl
theorem small11_ct (n : Int) (s : Str) : PureCt Tryd.prog 53 [.i n, .v (.string (bs s))] (.agg (smallZ n s).d) := by
  refine pure_of_dw Tryd.func53 rfl bo53 (by simp [go_sem, D.nr, nrs, nrr]) (by simp [Tryd.f53]) ?_
  unfold Tryd.f53
  simp only [init_eq]
  have ff := True.intro
  refine stp Ln ?_
  refine stp Ln ?_
  refine dw_seq ?_
  refine dw_ownj 2 1 85 98 (by simp only [go_sem, ff]; exact rfl) (by rfl) (by simp only [go_sem, ff]) ?_
  simp only [List.set_cons_succ, List.set_cons_zero]
  refine stp Ln ?_
  refine dw_block ?_
  refine lp (α := (Nat) × (Nat) × Nat) [4, 5, 20, 21] (fun ⟨k, r, nx⟩ => (k ≤ 3) ∧ (r < nx) ∧ (2 < r) ∧ True) (fun ⟨k, r, nx⟩ => 3 - k) (fun ⟨k, r, nx⟩ => [(22, .i k)]) (fun ⟨k, r, nx⟩ => [(0, ⟨85, [[.v (.string (bs [])), .list true []]]⟩), (2, ⟨85, [[.v (.string (bs [120])), .mrow r 0 k]]⟩), (r, ⟨98, ([[.v (.string (bs [120])), .i 2, .i 0, .list true [[.v (.string (bs [97, 46, 110, 115])), .i 0, .i 0]], .list true []], [.v (.string (bs [120])), .i 4, .i 0, .list true [[.v (.string (bs [])), .i n, .i 0]], .list true []], [.v (.string (bs s)), .i 1, .i 0, .list true [[.v (.string (bs [])), .i 7, .i 0]], .list true []]]).take k⟩)]) (fun ⟨k, r, nx⟩ => nx) (0, 4, _) (hA := ⟨iv, iv, iv, trivial⟩) (round := ?_)
  rintro ⟨k, r, nx⟩ ⟨hk, hr, hr0, -⟩
  show DW _ _ _ _ { n := _, t := tab _, h := _, nx := _, e := _ }
  simp only [List.cons_append, List.nil_append]
  have n0 : 2 < nx := by omega
  have z0_2 : (0 = 2) = False := eq_false (by omega)
  have y2_0 : (2 = 0) = False := eq_false (by omega)
  have z0_r : (0 = r) = False := eq_false (by omega)
  have yr_0 : (r = 0) = False := eq_false (by omega)
  have z2_r : (2 = r) = False := eq_false (by omega)
  have yr_2 : (r = 2) = False := eq_false (by omega)
  have ff := And.intro @hr (And.intro @n0 (And.intro @z0_2 (And.intro @y2_0 (And.intro @z0_r (And.intro @yr_0 (And.intro @z2_r (And.intro @yr_2 ff)))))))
  refine stp Ln ?_
  refine dw_seq ?_
  refine cd (fun c1 => ?_) (fun c1 => ?_) (hp := rfl)
  · skip
    have h012 : k = 0 ∨ k = 1 ∨ k = 2 := by have h9 : (k:Int) < 3 := (by simpa using c1); omega
    refine dw_skip ?_
    show DW _ _ _ _ _
    refine dw_seq ?_
    refine dw_block ?_
    rcases h012 with e0 | e0 | e0
    · skip
      have ff := And.intro @e0 ff
      refine stp Ln ?_
      refine rgn Ln ?_
      show DW _ _ _ _ _
      refine rgn Ln ?_
      show ∃ _, _
      exact rnd (k + 1, (nx + 10), _) (h1 := ⟨iv, iv, iv, trivial⟩) (h3 := by (try simp only [go_sem, ff]); all_goals (first | done | rfl | (simp; done) | (left; simp; done) | (right; simp; done))) (h4 := by (try simp only [go_sem, ff]); all_goals (first | done | rfl | (simp; done) | (left; simp; done) | (right; simp; done))) (h5 := by (try simp only [go_sem, ff]); all_goals (first | done | rfl | (simp; done) | (left; simp; done) | (right; simp; done)))
    · skip
      have ff := And.intro @e0 ff
      refine stp Ln ?_
      refine rgn Ln ?_
      show DW _ _ _ _ _
      refine rgn Ln ?_
      show ∃ _, _
      exact rnd (k + 1, (nx + 10), _) (h1 := ⟨iv, iv, iv, trivial⟩) (h3 := by (try simp only [go_sem, ff]); all_goals (first | done | rfl | (simp; done) | (left; simp; done) | (right; simp; done))) (h4 := by (try simp only [go_sem, ff]); all_goals (first | done | rfl | (simp; done) | (left; simp; done) | (right; simp; done))) (h5 := by (try simp only [go_sem, ff]); all_goals (first | done | rfl | (simp; done) | (left; simp; done) | (right; simp; done)))
    · skip
      have ff := And.intro @e0 ff
      refine stp Ln ?_
      refine rgn Ln ?_
      show DW _ _ _ _ _
      refine rgn Ln ?_
      show ∃ _, _
      exact rnd (k + 1, (nx + 10), _) (h1 := ⟨iv, iv, iv, trivial⟩) (h3 := by (try simp only [go_sem, ff]); all_goals (first | done | rfl | (simp; done) | (left; simp; done) | (right; simp; done))) (h4 := by (try simp only [go_sem, ff]); all_goals (first | done | rfl | (simp; done) | (left; simp; done) | (right; simp; done))) (h5 := by (try simp only [go_sem, ff]); all_goals (first | done | rfl | (simp; done) | (left; simp; done) | (right; simp; done)))
  · skip
    refine dw_exit ?_
    show DW _ _ _ _ _
    have e9 : k = 3 := by have h9 : ¬ (k:Int) < 3 := (by simpa using c1); omega
    subst e9
    refine stp Ln ?_
    refine dw_ret ?_
    exact fin 5 (hr := by (try simp only [go_sem, ff]); all_goals (rfl))

end Go.Proofs.YtfggmgafjabbjaaDoor
namespace Go.Proofs.YtfggmgafjabbjaaDoor
open Go.DL Go.Str Go.Rec Go.Cmp Go.Zon
set_option maxRecDepth 10000
set_option linter.unusedSimpArgs false
set_option linter.unusedVariables false
@[go_sem] theorem ofV_map {o : Option Nat} : ofV (.map o) = .v (.map o) := by cases o <;> rfl
@[go_sem] theorem keysOk_Q {m : List Sgd} : keysOk Tryd.prog 95 (kvQ m) = true := by
  induction m with
  | nil => rfl
  | cons s m ih => rw [kvQ_cons]; simp only [keysOk, ih, Qst.d, ko95, Bool.and_self]
@[go_sem] theorem mapTo_0 {l : List Sgd} : mapTo l 0 = [] := rfl
attribute [go_sem] kvQ_nil
theorem kvQ_step {l : List Sgd} {k : Nat} : kvSet (kvQ (mapTo l k)) (.agg [.v (.string (bs l[k]!.q.name)), .i l[k]!.q.ty]) (.agg [.v (.string (bs l[k]!.set.name)), .i l[k]!.set.ty, .i l[k]!.set.life, .list false (l[k]!.set.data.map Dat.d), .list false (l[k]!.sigs.map RSig.d)]) = kvQ (mapTo l (k + 1)) := kvSet_Q
theorem bo77 : hasBody Tryd.prog 77 = true := by kernel_rfl
theorem dbyplace_ct (l : List Sgd) (hl : l.length ≤ 1000000) : PureCt Tryd.prog 77 [.list false (l.map Sgd.d)] (.fmap (kvP (mapP l))) := by
  refine pure_of_dw Tryd.func77 rfl bo77 (by simp [go_sem, D.nr, nrs, nrr]) (by simp [Tryd.f77]) ?_
  unfold Tryd.f77
  simp only [init_eq]
  have ff := True.intro
  refine stp Ln ?_
  refine stp Ln ?_
  refine dw_seq ?_
  refine stp Ln ?_
  refine dw_block ?_
  refine lp (α := (Nat) × Nat) [3, 9, 10] (fun ⟨k, nx⟩ => (k ≤ l.length) ∧ (3 < nx) ∧ True) (fun ⟨k, nx⟩ => l.length - k) (fun ⟨k, nx⟩ => [(11, .i k)]) (fun ⟨k, nx⟩ => [(3, ⟨119, mapRows (kvQ (mapTo l k))⟩)]) (fun ⟨k, nx⟩ => nx) (0, _) (hA := ⟨iv, iv, trivial⟩) (round := ?_)
  rintro ⟨k, nx⟩ ⟨hk, hx, -⟩
  show DW _ _ _ _ { n := _, t := tab _, h := _, nx := _, e := _ }
  simp only [List.cons_append, List.nil_append]
  have ff := And.intro @hx ff
  refine stp Ln ?_
  refine dw_seq ?_
  refine cd (fun c1 => ?_) (fun c1 => ?_) (hp := rfl)
  · skip
    have hk2 : k < l.length := by simpa using c1
    have ff := And.intro (getD_sgd hk2) (And.intro (kvQ_step (l := l) (k := k)) ff)
    refine dw_skip ?_
    show DW _ _ _ _ _
    refine dw_seq ?_
    refine dw_block ?_
    refine stp Ln ?_
    refine rgn Ln ?_ (hok := by (try simp only [go_sem, ff]); all_goals (first | done | ((repeat' (with_reducible apply And.intro)) <;> first | exact dplace_ct l[k]! | (intros; exact dplace_ct l[k]!) | omega | skip)))
    show DW _ _ _ _ _
    refine rgn Ln ?_
    show ∃ _, _
    exact rnd (k + 1, _) (h1 := ⟨iv, iv, trivial⟩)
  · skip
    refine dw_exit ?_
    show DW _ _ _ _ _
    have e9 : k = l.length := by have h9 : ¬ (k:Int) < l.length := (by simpa using c1); omega
    subst e9
    refine dw_freezem 3 3 ev ev rfl nrs_kvQ ?_
    refine stp Ln ?_
    refine dw_ret ?_
    exact fin 1 (hr := by (try simp only [go_sem, ff]); all_goals (show (D.fmap (kvQ (mapF l))) = _; rw [kvQ_mapF]))

end Go.Proofs.YtfggmgafjabbjaaDoor
namespace Go.Proofs.YtfggmgafjabbjaaDoor
open Go.DL Go.Str Go.Rec Go.Cmp Go.Zon
set_option maxRecDepth 10000
set_option linter.unusedSimpArgs false
set_option linter.unusedVariables false
@[go_sem] theorem keysOk_P {m : PM} : keysOk Tryd.prog 95 (kvP m) = true := by
  induction m with
  | nil => rfl
  | cons p m ih => rw [kvP_cons]; simp only [keysOk, ih, Qst.d, ko95, Bool.and_self]
theorem bo108 : hasBody Tryd.prog 108 = true := by kernel_rfl
theorem eqdat_ct (a : List Dat) (b : List Dat) (hl : a.length ≤ 1000000) : PureCt Tryd.prog 108 [.list false (a.map Dat.d), .list false (b.map Dat.d)] (.b (eqDat a b)) := by
  refine pure_of_dw Tryd.func108 rfl bo108 (by simp [go_sem, D.nr, nrs, nrr]) (by simp [Tryd.f108]) ?_
  unfold Tryd.f108
  simp only [init_eq]
  have ff := True.intro
  refine stp Ln ?_
  refine dw_seq ?_
  refine stp Ln ?_
  refine cd (fun c1 => ?_) (fun c1 => ?_)
  · skip
    refine stp Ln ?_
    refine dw_ret ?_
    exact fin 0 (hr := by (try simp only [go_sem, ff]); all_goals (rw [show eqDat a b = false from decide_eq_false (eq_len (by omega))]))
  · skip
    have hab : a.length = b.length := by omega
    refine dw_skip ?_
    show DW _ _ _ _ _
    refine dw_seq ?_
    refine stp Ln ?_
    refine dw_block ?_
    refine lp (α := (Nat) × Nat) [0, 1, 12] (fun ⟨k, nx⟩ => (k ≤ a.length) ∧ (∀ i, i < k → a[i]! = b[i]!) ∧ True) (fun ⟨k, nx⟩ => a.length - k) (fun ⟨k, nx⟩ => [(13, .i k)]) (fun ⟨k, nx⟩ => []) (fun ⟨k, nx⟩ => nx) (0, _) (hA := ⟨iv, (by first | (intro i hi; omega) | (dsimp only; intro i hi; omega)), trivial⟩) (round := ?_)
    rintro ⟨k, nx⟩ ⟨hk, hv, -⟩
    show DW _ _ _ _ { n := _, t := tab _, h := _, nx := _, e := _ }
    simp only [List.cons_append, List.nil_append]
    refine stp Ln ?_
    refine dw_seq ?_
    refine cd (fun c2 => ?_) (fun c2 => ?_) (hp := rfl)
    · skip
      have hk2 : k < a.length := by simpa using c2
      have hk3 : k < b.length := by omega
      have ff := And.intro (getD_dat hk2) (And.intro (getD_dat hk3) ff)
      refine dw_skip ?_
      show DW _ _ _ _ _
      refine dw_seq ?_
      refine dw_block ?_
      refine stp Ln ?_
      refine stp Ln ?_
      refine cd (fun c3 => ?_) (fun c3 => ?_)
      · skip
        refine stp Ln ?_
        refine dw_ret ?_
        exact fin 0 (hr := by (try simp only [go_sem, ff]); all_goals (rw [show eqDat a b = false from decide_eq_false fun e => by subst e; simp at c3]))
      · skip
        refine dw_skip ?_
        show DW _ _ _ _ _
        refine rgn Ln ?_
        show ∃ _, _
        exact rnd (k + 1, _) (h1 := ⟨iv, (by (try dsimp only); intro i hi; by_cases e : i = k; subst e; exact dat_eqX c3; exact hv i (by omega)), trivial⟩)
    · skip
      refine dw_exit ?_
      show DW _ _ _ _ _
      refine stp Ln ?_
      refine dw_ret ?_
      exact fin 0 (hr := by (try simp only [go_sem, ff]); all_goals (rw [show eqDat a b = true from decide_eq_true (list_ext! hab fun i hi => hv i (by omega))]))
theorem bo109 : hasBody Tryd.prog 109 = true := by kernel_rfl
theorem eqsig_ct (a : List RSig) (b : List RSig) (hl : a.length ≤ 1000000) : PureCt Tryd.prog 109 [.list false (a.map RSig.d), .list false (b.map RSig.d)] (.b (eqSig a b)) := by
  refine pure_of_dw Tryd.func109 rfl bo109 (by simp [go_sem, D.nr, nrs, nrr]) (by simp [Tryd.f109]) ?_
  unfold Tryd.f109
  simp only [init_eq]
  have ff := True.intro
  refine stp Ln ?_
  refine dw_seq ?_
  refine stp Ln ?_
  refine cd (fun c1 => ?_) (fun c1 => ?_)
  · skip
    refine stp Ln ?_
    refine dw_ret ?_
    exact fin 0 (hr := by (try simp only [go_sem, ff]); all_goals (rw [show eqSig a b = false from decide_eq_false (eq_len (by omega))]))
  · skip
    have hab : a.length = b.length := by omega
    refine dw_skip ?_
    show DW _ _ _ _ _
    refine dw_seq ?_
    refine stp Ln ?_
    refine dw_block ?_
    refine lp (α := (Nat) × Nat) [0, 1, 12] (fun ⟨k, nx⟩ => (k ≤ a.length) ∧ (∀ i, i < k → a[i]! = b[i]!) ∧ True) (fun ⟨k, nx⟩ => a.length - k) (fun ⟨k, nx⟩ => [(13, .i k)]) (fun ⟨k, nx⟩ => []) (fun ⟨k, nx⟩ => nx) (0, _) (hA := ⟨iv, (by first | (intro i hi; omega) | (dsimp only; intro i hi; omega)), trivial⟩) (round := ?_)
    rintro ⟨k, nx⟩ ⟨hk, hv, -⟩
    show DW _ _ _ _ { n := _, t := tab _, h := _, nx := _, e := _ }
    simp only [List.cons_append, List.nil_append]
    refine stp Ln ?_
    refine dw_seq ?_
    refine cd (fun c2 => ?_) (fun c2 => ?_) (hp := rfl)
    · skip
      have hk2 : k < a.length := by simpa using c2
      have hk3 : k < b.length := by omega
      have ff := And.intro (getD_sig hk2) (And.intro (getD_sig hk3) ff)
      refine dw_skip ?_
      show DW _ _ _ _ _
      refine dw_seq ?_
      refine dw_block ?_
      refine stp Ln ?_
      refine stp Ln ?_
      refine cd (fun c3 => ?_) (fun c3 => ?_)
      · skip
        refine stp Ln ?_
        refine dw_ret ?_
        exact fin 0 (hr := by (try simp only [go_sem, ff]); all_goals (rw [show eqSig a b = false from decide_eq_false fun e => by subst e; simp at c3]))
      · skip
        refine dw_skip ?_
        show DW _ _ _ _ _
        refine rgn Ln ?_
        show ∃ _, _
        exact rnd (k + 1, _) (h1 := ⟨iv, (by (try dsimp only); intro i hi; by_cases e : i = k; subst e; exact sig_eqF c3; exact hv i (by omega)), trivial⟩)
    · skip
      refine dw_exit ?_
      show DW _ _ _ _ _
      refine stp Ln ?_
      refine dw_ret ?_
      exact fin 0 (hr := by (try simp only [go_sem, ff]); all_goals (rw [show eqSig a b = true from decide_eq_true (list_ext! hab fun i hi => hv i (by omega))]))
theorem bo84 : hasBody Tryd.prog 84 = true := by kernel_rfl
theorem dsame_ct (a : Sgd) (b : Sgd) (ha : fit1 a) : PureCt Tryd.prog 84 [.agg a.d, .agg b.d] (.b (sameX a b)) := by
  refine pure_of_dw Tryd.func84 rfl bo84 (by simp [go_sem, D.nr, nrs, nrr]) (by simp [Tryd.f84]) ?_
  unfold Tryd.f84
  simp only [init_eq]
  have ff := True.intro
  refine stp Ln ?_
  refine stp Ln ?_ (hok := by (try simp only [go_sem, ff]); all_goals (first | done | ((repeat' (with_reducible apply And.intro)) <;> first | exact (fun _ => eqdat_ct _ _ (Nat.le_trans ha.1 (by omega))) | (intros; exact (fun _ => eqdat_ct _ _ (Nat.le_trans ha.1 (by omega)))) | exact (fun _ => eqsig_ct _ _ (Nat.le_trans ha.2 (by omega))) | (intros; exact (fun _ => eqsig_ct _ _ (Nat.le_trans ha.2 (by omega)))) | skip)))
  refine dw_ret ?_
  exact fin 0 (hr := by (try simp only [go_sem, ff]); all_goals (rw [sameX_eq, Bool.and_assoc]))
theorem bo79 : hasBody Tryd.prog 79 = true := by kernel_rfl
theorem ddiff1_ct (s : Sgd) (m : PM) : PureCt Tryd.prog 79 [.agg s.d, .eptr [.fmap (kvP m)]] (.tuple [.agg s.q.d, .b (newB m s.q)]) := by
  refine pure_of_dw Tryd.func79 rfl bo79 (by simp [go_sem, D.nr, nrs, nrr]) (by simp [Tryd.f79]) ?_
  unfold Tryd.f79
  simp only [init_eq]
  have ff := True.intro
  refine stp Ln ?_
  refine stp Ln ?_ (hok := by (try simp only [go_sem, ff]); all_goals (first | done | ((repeat' (with_reducible apply And.intro)) <;> first | exact dplace_ct s | (intros; exact dplace_ct s) | skip)))
  rcases hp : pget m s.q with _ | x
  · skip
    have ff := And.intro @hp ff
    refine stp Ln ?_
    refine stp Ln ?_
    refine dw_ret ?_
    exact fin 3 (hr := by (try simp only [go_sem, ff]); all_goals (simp [newB, hp]))
  · skip
    have ff := And.intro @hp ff
    refine stp Ln ?_
    refine stp Ln ?_
    refine dw_ret ?_
    exact fin 3 (hr := by (try simp only [go_sem, ff]); all_goals (simp [newB, hp]))
theorem bo86 : hasBody Tryd.prog 86 = true := by kernel_rfl
theorem dapp1_ct (s : Sgd) (m : PM) : PureCt Tryd.prog 86 [.agg s.d, .eptr [.fmap (kvP m)]] (.tuple [.agg s.d, .b (newB m s.q)]) := by
  refine pure_of_dw Tryd.func86 rfl bo86 (by simp [go_sem, D.nr, nrs, nrr]) (by simp [Tryd.f86]) ?_
  unfold Tryd.f86
  simp only [init_eq]
  have ff := True.intro
  refine stp Ln ?_
  rcases hp : pget m s.q with _ | x
  · skip
    have ff := And.intro @hp ff
    refine stp LnF ?_ (hok := by (try simp only [go_sem, ff]); all_goals (first | done | ((repeat' (with_reducible apply And.intro)) <;> first | exact dplace_ct s | (intros; exact dplace_ct s) | skip)))
    refine stp Ln ?_
    refine dw_ret ?_
    exact fin 3 (hr := by (try simp only [go_sem, ff]); all_goals (simp [newB, hp]))
  · skip
    have ff := And.intro @hp ff
    refine stp LnF ?_ (hok := by (try simp only [go_sem, ff]); all_goals (first | done | ((repeat' (with_reducible apply And.intro)) <;> first | exact dplace_ct s | (intros; exact dplace_ct s) | skip)))
    refine stp Ln ?_
    refine dw_ret ?_
    exact fin 3 (hr := by (try simp only [go_sem, ff]); all_goals (simp [newB, hp]))
theorem bo82 : hasBody Tryd.prog 82 = true := by kernel_rfl
theorem ddiff2_ct (s : Sgd) (m : PM) (hs : fit1 s) (hm : ∀ x, pget m s.q = some x → fit1 x) : PureCt Tryd.prog 82 [.agg s.d, .eptr [.fmap (kvP m)]] (.tuple [.agg s.d, .b (diffS (pget m s.q) s)]) := by
  refine pure_of_dw Tryd.func82 rfl bo82 (by simp [go_sem, D.nr, nrs, nrr]) (by simp [Tryd.f82]) ?_
  unfold Tryd.f82
  simp only [init_eq]
  have ff := True.intro
  refine stp Ln ?_
  rcases hp : pget m s.q with _ | x
  · skip
    have ff := And.intro @hp ff
    refine stp LnF ?_ (hok := by (try simp only [go_sem, ff]); all_goals (first | done | ((repeat' (with_reducible apply And.intro)) <;> first | exact dplace_ct s | (intros; exact dplace_ct s) | skip)))
    refine stp Ln ?_ (hok := by (try simp only [go_sem, ff]); all_goals (first | done | ((repeat' (with_reducible apply And.intro)) <;> first | exact dclone_ct s hs | (intros; exact dclone_ct s hs) | exact dsame_ct x s (hm x hp) | (intros; exact dsame_ct x s (hm x hp)) | exact (fun _ => dsame_ct x s (hm x hp)) | (intros; exact (fun _ => dsame_ct x s (hm x hp))) | skip)))
    refine dw_ret ?_
    exact fin 3 (hr := by (try simp only [go_sem, ff]); all_goals (simp [diffS, hp]))
  · skip
    have ff := And.intro @hp ff
    refine stp LnF ?_ (hok := by (try simp only [go_sem, ff]); all_goals (first | done | ((repeat' (with_reducible apply And.intro)) <;> first | exact dplace_ct s | (intros; exact dplace_ct s) | skip)))
    refine stp Ln ?_ (hok := by (try simp only [go_sem, ff]); all_goals (first | done | ((repeat' (with_reducible apply And.intro)) <;> first | exact dclone_ct s hs | (intros; exact dclone_ct s hs) | exact dsame_ct x s (hm x hp) | (intros; exact dsame_ct x s (hm x hp)) | exact (fun _ => dsame_ct x s (hm x hp)) | (intros; exact (fun _ => dsame_ct x s (hm x hp))) | skip)))
    refine dw_ret ?_
    exact fin 3 (hr := by (try simp only [go_sem, ff]); all_goals (simp [diffS, hp]))
theorem bo89 : hasBody Tryd.prog 89 = true := by kernel_rfl
theorem dapp2_ct (s : Sgd) (hs : fit1 s) : PureCt Tryd.prog 89 [.agg s.d] (.tuple [.agg s.d, .b true]) := by
  refine pure_of_dw Tryd.func89 rfl bo89 (by simp [go_sem, D.nr, nrs, nrr]) (by simp [Tryd.f89]) ?_
  unfold Tryd.f89
  simp only [init_eq]
  have ff := True.intro
  refine stp Ln ?_
  refine stp Ln ?_ (hok := by (try simp only [go_sem, ff]); all_goals (exact dclone_ct s hs))
  refine dw_ret ?_
  exact fin 2 (hr := by (try simp only [go_sem, ff]); all_goals (rfl))

end Go.Proofs.YtfggmgafjabbjaaDoor
namespace Go.Proofs.YtfggmgafjabbjaaDoor
open Go.DL Go.Str Go.Rec Go.Cmp Go.Zon
set_option maxRecDepth 10000
set_option linter.unusedSimpArgs false
set_option linter.unusedVariables false
theorem bo88 : hasBody Tryd.prog 88 = true := by kernel_rfl
theorem dcomp_ct  : PureCt Tryd.prog 88 [.fn (.func 80) [] []] (.fn (.func 112) [] [.eptr [.fn (.func 80) [] []]]) := by
  refine pure_of_dw Tryd.func88 rfl bo88 (by simp [go_sem, D.nr, nrs, nrr]) (by simp [Tryd.f88]) ?_
  unfold Tryd.f88
  simp only [init_eq]
  have ff := True.intro
  refine stp Ln ?_
  refine stp Ln ?_
  refine dw_ret ?_
  exact fin 2 (hr := by (try simp only [go_sem, ff]); all_goals (rfl)) (hk := by (try simp only [go_sem, ff]); all_goals (first | done | rfl | (simp; done)))
theorem bo112 : hasBody Tryd.prog 112 = true := by kernel_rfl
theorem dcmp1_ct (a : Sgd) (b : Sgd) : PureCt Tryd.prog 112 [.agg a.d, .agg b.d, .eptr [.fn (.func 80) [] []]] (.i (qC a.q b.q)) := by
  refine pure_of_dw Tryd.func112 rfl bo112 (by simp [go_sem, D.nr, nrs, nrr]) (by simp [Tryd.f112]) ?_
  unfold Tryd.f112
  simp only [init_eq]
  have ff := True.intro
  refine stp Ln ?_
  refine stp Ln ?_ (hok := by (try simp only [go_sem, ff]); all_goals (first | done | ((repeat' (with_reducible apply And.intro)) <;> first | exact dplace_ct a | (intros; exact dplace_ct a) | exact dplace_ct b | (intros; exact dplace_ct b) | exact dcmppl_ct a.q b.q | (intros; exact dcmppl_ct a.q b.q) | skip)))
  refine dw_ret ?_
  exact fin 0 (hr := by (try simp only [go_sem, ff]); all_goals (rfl))
theorem bo78 : hasBody Tryd.prog 78 = true := by kernel_rfl
theorem dcollsq_ct (l : List Sgd) (m : PM) (hl : fitL l) : PureCt Tryd.prog 78 [.list false (l.map Sgd.d), .fn (.func 79) [] [.eptr [.fmap (kvP m)]]] (.list false ((l.filterMap (d1S m)).map Qst.d)) := by
  refine pure_of_dw Tryd.func78 rfl bo78 (by simp [go_sem, D.nr, nrs, nrr]) (by simp [Tryd.f78]) ?_
  unfold Tryd.f78
  simp only [init_eq]
  have ff := True.intro
  have hl1 := hl.1
  refine stp Ln ?_
  refine stp Ln ?_
  refine dw_seq ?_
  refine dw_own 5 95 (by simp only [go_sem, ff]) (by simp only [go_sem, ff]) ?_
  refine stp Ln ?_
  refine dw_block ?_
  refine lp (α := (Nat) × (Nat) × Nat) [1, 10, 11] (fun ⟨k, r, nx⟩ => (k ≤ l.length) ∧ (r < nx) ∧ True) (fun ⟨k, r, nx⟩ => l.length - k) (fun ⟨k, r, nx⟩ => [(5, .mrow r 0 ((l.take k).filterMap (d1S m)).length), (12, .i k)]) (fun ⟨k, r, nx⟩ => [(r, ⟨95, ((l.take k).filterMap (d1S m)).map Qst.d⟩)]) (fun ⟨k, r, nx⟩ => nx) (0, 2, _) (hA := ⟨iv, iv, trivial⟩) (round := ?_)
  rintro ⟨k, r, nx⟩ ⟨hk, hr, -⟩
  show DW _ _ _ _ { n := _, t := tab _, h := _, nx := _, e := _ }
  simp only [List.cons_append, List.nil_append]
  have hfl := fm_len (d1S m) l k
  have ff := And.intro @hr ff
  refine stp Ln ?_
  refine dw_seq ?_
  refine cd (fun c1 => ?_) (fun c1 => ?_) (hp := rfl)
  · skip
    have hk2 : k < l.length := by simpa using c1
    have ff := And.intro (getD_sgd hk2) ff
    refine dw_skip ?_
    show DW _ _ _ _ _
    refine dw_seq ?_
    refine dw_block ?_
    refine stp Ln ?_
    refine stp Ln ?_ (hok := by (try simp only [go_sem, ff]); all_goals (first | done | ((repeat' (with_reducible apply And.intro)) <;> first | exact ddiff1_ct l[k]! m | (intros; exact ddiff1_ct l[k]! m) | skip)))
    refine stp Ln ?_
    refine cd (fun c2 => ?_) (fun c2 => ?_)
    · skip
      refine rgn Ln ?_
      show DW _ _ _ _ _
      refine rgn Ln ?_
      show ∃ _, _
      have hst := fm_yes (f := d1S m) hk2 (by simp only [d1S]; rw [if_pos (by first | exact c2 | simpa using c2)])
      have hsd : ((l.take (k + 1)).filterMap (d1S m)).map Qst.d = ((l.take k).filterMap (d1S m)).map Qst.d ++ [[.v (.string (bs l[k]!.q.name)), .i l[k]!.q.ty]] := by rw [hst, List.map_append]; rfl
      have hsl : ((l.take (k + 1)).filterMap (d1S m)).length = ((l.take k).filterMap (d1S m)).length + 1 := by rw [hst, List.length_append]; rfl
      have ff := And.intro hsd (And.intro hsl ff)
      exact rnd (k + 1, (nx + 18), _) (h1 := ⟨iv, iv, trivial⟩)
    · skip
      refine dw_skip ?_
      show DW _ _ _ _ _
      refine rgn Ln ?_
      show ∃ _, _
      have ff := And.intro (fm_no (f := d1S m) hk2 (by simp only [d1S]; rw [if_neg (by rw [c2]; exact Bool.false_ne_true)])) ff
      exact rnd (k + 1, r, _) (h1 := ⟨iv, iv, trivial⟩)
  · skip
    refine dw_exit ?_
    show DW _ _ _ _ _
    have e9 : k = l.length := by have h9 : ¬ (k:Int) < l.length := (by simpa using c1); omega
    subst e9
    rw [List.take_length] at *
    refine stp Ln ?_
    refine dw_ret ?_
    exact fin 1 (hr := by (try simp only [go_sem, ff]); all_goals (rw [List.take_length]))
theorem bo81 : hasBody Tryd.prog 81 = true := by kernel_rfl
theorem dcollssA2_ct (l : List Sgd)  (hl : fitL l) : PureCt Tryd.prog 81 [.list false (l.map Sgd.d), .fn (.func 89) [] []] (.list false ((l.filterMap (some)).map Sgd.d)) := by
  refine pure_of_dw Tryd.func81 rfl bo81 (by simp [go_sem, D.nr, nrs, nrr]) (by simp [Tryd.f81]) ?_
  unfold Tryd.f81
  simp only [init_eq]
  have ff := True.intro
  have hl1 := hl.1
  refine stp Ln ?_
  refine stp Ln ?_
  refine dw_seq ?_
  refine dw_own 5 98 (by simp only [go_sem, ff]) (by simp only [go_sem, ff]) ?_
  refine stp Ln ?_
  refine dw_block ?_
  refine lp (α := (Nat) × (Nat) × Nat) [1, 10, 11] (fun ⟨k, r, nx⟩ => (k ≤ l.length) ∧ (r < nx) ∧ True) (fun ⟨k, r, nx⟩ => l.length - k) (fun ⟨k, r, nx⟩ => [(5, .mrow r 0 ((l.take k).filterMap (some)).length), (12, .i k)]) (fun ⟨k, r, nx⟩ => [(r, ⟨98, ((l.take k).filterMap (some)).map Sgd.d⟩)]) (fun ⟨k, r, nx⟩ => nx) (0, 2, _) (hA := ⟨iv, iv, trivial⟩) (round := ?_)
  rintro ⟨k, r, nx⟩ ⟨hk, hr, -⟩
  show DW _ _ _ _ { n := _, t := tab _, h := _, nx := _, e := _ }
  simp only [List.cons_append, List.nil_append]
  have hfl := fm_len (some) l k
  have ff := And.intro @hr ff
  refine stp Ln ?_
  refine dw_seq ?_
  refine cd (fun c1 => ?_) (fun c1 => ?_) (hp := rfl)
  · skip
    have hk2 : k < l.length := by simpa using c1
    have ff := And.intro (getD_sgd hk2) ff
    refine dw_skip ?_
    show DW _ _ _ _ _
    refine dw_seq ?_
    refine dw_block ?_
    refine stp Ln ?_
    refine stp Ln ?_ (hok := by (try simp only [go_sem, ff]); all_goals (first | done | ((repeat' (with_reducible apply And.intro)) <;> first | exact dapp2_ct l[k]! (hl.2 k hk2) | (intros; exact dapp2_ct l[k]! (hl.2 k hk2)) | skip)))
    refine stp Ln ?_
    refine cd (fun c2 => ?_) (fun c2 => ?_)
    · skip
      refine rgn Ln ?_
      show DW _ _ _ _ _
      refine rgn Ln ?_
      show ∃ _, _
      have hst := fm_yes (f := some) hk2 (rfl)
      have hsd : ((l.take (k + 1)).filterMap (some)).map Sgd.d = ((l.take k).filterMap (some)).map Sgd.d ++ [[.v (.string (bs l[k]!.set.name)), .i l[k]!.set.ty, .i l[k]!.set.life, .list false (l[k]!.set.data.map Dat.d), .list false (l[k]!.sigs.map RSig.d)]] := by rw [hst, List.map_append]; rfl
      have hsl : ((l.take (k + 1)).filterMap (some)).length = ((l.take k).filterMap (some)).length + 1 := by rw [hst, List.length_append]; rfl
      have ff := And.intro hsd (And.intro hsl ff)
      exact rnd (k + 1, (nx + 18), _) (h1 := ⟨iv, iv, trivial⟩)
    · skip
      refine dw_skip ?_
      show DW _ _ _ _ _
      refine rgn Ln ?_
      show ∃ _, _
      have ff := And.intro (fm_no (f := some) hk2 (by cases c2)) ff
      exact rnd (k + 1, r, _) (h1 := ⟨iv, iv, trivial⟩)
  · skip
    refine dw_exit ?_
    show DW _ _ _ _ _
    have e9 : k = l.length := by have h9 : ¬ (k:Int) < l.length := (by simpa using c1); omega
    subst e9
    rw [List.take_length] at *
    refine stp Ln ?_
    refine dw_ret ?_
    exact fin 1 (hr := by (try simp only [go_sem, ff]); all_goals (rw [List.take_length]))
theorem dcollssD2_ct (l : List Sgd) (m : PM) (hl : fitL l) (hm : ∀ k, k < l.length → ∀ x, pget m l[k]!.q = some x → fit1 x) : PureCt Tryd.prog 81 [.list false (l.map Sgd.d), .fn (.func 82) [] [.eptr [.fmap (kvP m)]]] (.list false ((l.filterMap (d2S m)).map Sgd.d)) := by
  refine pure_of_dw Tryd.func81 rfl bo81 (by simp [go_sem, D.nr, nrs, nrr]) (by simp [Tryd.f81]) ?_
  unfold Tryd.f81
  simp only [init_eq]
  have ff := True.intro
  have hl1 := hl.1
  refine stp Ln ?_
  refine stp Ln ?_
  refine dw_seq ?_
  refine dw_own 5 98 (by simp only [go_sem, ff]) (by simp only [go_sem, ff]) ?_
  refine stp Ln ?_
  refine dw_block ?_
  refine lp (α := (Nat) × (Nat) × Nat) [1, 10, 11] (fun ⟨k, r, nx⟩ => (k ≤ l.length) ∧ (r < nx) ∧ True) (fun ⟨k, r, nx⟩ => l.length - k) (fun ⟨k, r, nx⟩ => [(5, .mrow r 0 ((l.take k).filterMap (d2S m)).length), (12, .i k)]) (fun ⟨k, r, nx⟩ => [(r, ⟨98, ((l.take k).filterMap (d2S m)).map Sgd.d⟩)]) (fun ⟨k, r, nx⟩ => nx) (0, 2, _) (hA := ⟨iv, iv, trivial⟩) (round := ?_)
  rintro ⟨k, r, nx⟩ ⟨hk, hr, -⟩
  show DW _ _ _ _ { n := _, t := tab _, h := _, nx := _, e := _ }
  simp only [List.cons_append, List.nil_append]
  have hfl := fm_len (d2S m) l k
  have ff := And.intro @hr ff
  refine stp Ln ?_
  refine dw_seq ?_
  refine cd (fun c1 => ?_) (fun c1 => ?_) (hp := rfl)
  · skip
    have hk2 : k < l.length := by simpa using c1
    have ff := And.intro (getD_sgd hk2) ff
    refine dw_skip ?_
    show DW _ _ _ _ _
    refine dw_seq ?_
    refine dw_block ?_
    refine stp Ln ?_
    refine stp Ln ?_ (hok := by (try simp only [go_sem, ff]); all_goals (first | done | ((repeat' (with_reducible apply And.intro)) <;> first | exact ddiff2_ct l[k]! m (hl.2 k hk2) (hm k hk2) | (intros; exact ddiff2_ct l[k]! m (hl.2 k hk2) (hm k hk2)) | skip)))
    refine stp Ln ?_
    refine cd (fun c2 => ?_) (fun c2 => ?_)
    · skip
      refine rgn Ln ?_
      show DW _ _ _ _ _
      refine rgn Ln ?_
      show ∃ _, _
      have hst := fm_yes (f := d2S m) hk2 (by simp only [d2S]; rw [if_pos (by first | exact c2 | simpa using c2)])
      have hsd : ((l.take (k + 1)).filterMap (d2S m)).map Sgd.d = ((l.take k).filterMap (d2S m)).map Sgd.d ++ [[.v (.string (bs l[k]!.set.name)), .i l[k]!.set.ty, .i l[k]!.set.life, .list false (l[k]!.set.data.map Dat.d), .list false (l[k]!.sigs.map RSig.d)]] := by rw [hst, List.map_append]; rfl
      have hsl : ((l.take (k + 1)).filterMap (d2S m)).length = ((l.take k).filterMap (d2S m)).length + 1 := by rw [hst, List.length_append]; rfl
      have ff := And.intro hsd (And.intro hsl ff)
      exact rnd (k + 1, (nx + 18), _) (h1 := ⟨iv, iv, trivial⟩)
    · skip
      refine dw_skip ?_
      show DW _ _ _ _ _
      refine rgn Ln ?_
      show ∃ _, _
      have ff := And.intro (fm_no (f := d2S m) hk2 (by simp only [d2S]; rw [if_neg (by rw [c2]; exact Bool.false_ne_true)])) ff
      exact rnd (k + 1, r, _) (h1 := ⟨iv, iv, trivial⟩)
  · skip
    refine dw_exit ?_
    show DW _ _ _ _ _
    have e9 : k = l.length := by have h9 : ¬ (k:Int) < l.length := (by simpa using c1); omega
    subst e9
    rw [List.take_length] at *
    refine stp Ln ?_
    refine dw_ret ?_
    exact fin 1 (hr := by (try simp only [go_sem, ff]); all_goals (rw [List.take_length]))
theorem dcollssA1_ct (l : List Sgd) (m : PM) (hl : fitL l) (h : H) (n : Nat) : RCt Tryd.prog 81 [.list false (l.map Sgd.d), .fn (.func 86) [] [.eptr [.fmap (kvP m)]]] h n (fun d h' n' => ∃ r, d = .mrow r 0 (l.filterMap (goS m)).length ∧ h' = upd h r (some ⟨98, (l.filterMap (goS m)).map Sgd.d⟩) ∧ n ≤ r ∧ r < n') := by
  refine rct_of_dw Tryd.func81 rfl bo81 (by simp [Tryd.f81]) (fun hnone => ?_)
  unfold Tryd.f81
  have ff := True.intro
  have hl1 := hl.1
  refine stp Ln ?_
  refine stp Ln ?_
  refine dw_seq ?_
  refine dw_own 5 98 (by simp only [go_sem, ff]) (by simp only [go_sem, ff]) ?_
  refine stp Ln ?_
  refine dw_block ?_
  refine lph (α := (Nat) × (Nat) × Nat) [1, 10, 11] (fun ⟨k, r, nx⟩ => (k ≤ l.length) ∧ (r < nx) ∧ (n ≤ r) ∧ True) (fun ⟨k, r, nx⟩ => l.length - k) (fun ⟨k, r, nx⟩ => [(5, .mrow r 0 ((l.take k).filterMap (goS m)).length), (12, .i k)]) (fun ⟨k, r, nx⟩ => upd h r (some ⟨98, ((l.take k).filterMap (goS m)).map Sgd.d⟩)) (fun ⟨k, r, nx⟩ => nx) (0, (n + 2), _) (hA := ⟨iv, iv, iv, trivial⟩) (round := ?_)
  rintro ⟨k, r, nx⟩ ⟨hk, hr, hr0, -⟩
  show DW _ _ _ _ { n := _, t := tab _, h := _, nx := _, e := _ }
  simp only [List.cons_append, List.nil_append]
  have hfl := fm_len (goS m) l k
  have ff := And.intro @hr ff
  refine stp Ln ?_
  refine dw_seq ?_
  refine cd (fun c1 => ?_) (fun c1 => ?_) (hp := rfl)
  · skip
    have hk2 : k < l.length := by simpa using c1
    have ff := And.intro (getD_sgd hk2) ff
    refine dw_skip ?_
    show DW _ _ _ _ _
    refine dw_seq ?_
    refine dw_block ?_
    refine stp Ln ?_
    refine stp Ln ?_ (hok := by (try simp only [go_sem, ff]); all_goals (first | done | ((repeat' (with_reducible apply And.intro)) <;> first | exact dapp1_ct l[k]! m | (intros; exact dapp1_ct l[k]! m) | skip)))
    refine stp Ln ?_
    refine cd (fun c2 => ?_) (fun c2 => ?_)
    · skip
      refine rgn Ln ?_
      show DW _ _ _ _ _
      refine rgn Ln ?_
      show ∃ _, _
      have hst := fm_yes (f := goS m) hk2 (by simp only [goS]; rw [if_pos (by first | exact c2 | simpa using c2)])
      have hsd : ((l.take (k + 1)).filterMap (goS m)).map Sgd.d = ((l.take k).filterMap (goS m)).map Sgd.d ++ [[.v (.string (bs l[k]!.set.name)), .i l[k]!.set.ty, .i l[k]!.set.life, .list false (l[k]!.set.data.map Dat.d), .list false (l[k]!.sigs.map RSig.d)]] := by rw [hst, List.map_append]; rfl
      have hsl : ((l.take (k + 1)).filterMap (goS m)).length = ((l.take k).filterMap (goS m)).length + 1 := by rw [hst, List.length_append]; rfl
      have ff := And.intro hsd (And.intro hsl ff)
      refine rnd (k + 1, (nx + 18), _) (h1 := ⟨iv, iv, iv, trivial⟩) (h5 := ?_)
      refine less_fresh hnone (by simp only [go_sem, ff]) (fun q hq => ?_)
      simp only [upd]
      repeat rw [if_neg (by omega)]
    · skip
      refine dw_skip ?_
      show DW _ _ _ _ _
      refine rgn Ln ?_
      show ∃ _, _
      have ff := And.intro (fm_no (f := goS m) hk2 (by simp only [goS]; rw [if_neg (by rw [c2]; exact Bool.false_ne_true)])) ff
      refine rnd (k + 1, r, _) (h1 := ⟨iv, iv, iv, trivial⟩) (h5 := ?_)
      refine less_fresh hnone (by simp only [go_sem, ff]) (fun q hq => ?_)
      simp only [upd]
      repeat rw [if_neg (by omega)]
  · skip
    refine dw_exit ?_
    show DW _ _ _ _ _
    have e9 : k = l.length := by have h9 : ¬ (k:Int) < l.length := (by simpa using c1); omega
    subst e9
    rw [List.take_length] at *
    refine stp Ln ?_
    refine dw_ret ?_
    exact finr (upd h r (some ⟨98, (l.filterMap (goS m)).map Sgd.d⟩)) (hr := by (try simp only [go_sem, ff]); all_goals (exact ⟨r, rfl, rfl, by omega, by omega⟩))
theorem dbyplaceL_ct (l : List Sgd) (hl : l.length ≤ 1000000) (h : H) (n : Nat) : RCt Tryd.prog 77 [.list false (l.map Sgd.d)] h n (fun d h' n' => ∃ r, d = .mp r ∧ h' = upd h r (some ⟨119, mapRows (kvZ (mapZ l))⟩) ∧ n ≤ r ∧ r < n') := by
  refine rct_of_dw Tryd.func77 rfl bo77 (by simp [Tryd.f77]) (fun hnone => ?_)
  unfold Tryd.f77
  have ff := True.intro
  refine stp Ln ?_
  refine stp Ln ?_
  refine dw_seq ?_
  refine stp Ln ?_
  refine dw_block ?_
  refine lph (α := (Nat) × Nat) [3, 9, 10] (fun ⟨k, nx⟩ => (k ≤ l.length) ∧ (n + 3 < nx) ∧ True) (fun ⟨k, nx⟩ => l.length - k) (fun ⟨k, nx⟩ => [(11, .i k)]) (fun ⟨k, nx⟩ => upd h (n + 3) (some ⟨119, mapRows (kvQ (mapTo l k))⟩)) (fun ⟨k, nx⟩ => nx) (0, _) (hA := ⟨iv, iv, trivial⟩) (round := ?_) (hhh := by exact fun _ => .inl rfl)
  rintro ⟨k, nx⟩ ⟨hk, hx, -⟩
  show DW _ _ _ _ { n := _, t := tab _, h := _, nx := _, e := _ }
  simp only [List.cons_append, List.nil_append]
  have ff := And.intro @hx ff
  refine stp Ln ?_
  refine dw_seq ?_
  refine cd (fun c1 => ?_) (fun c1 => ?_) (hp := rfl)
  · skip
    have hk2 : k < l.length := by simpa using c1
    have ff := And.intro (getD_sgd hk2) (And.intro (kvQ_step (l := l) (k := k)) ff)
    refine dw_skip ?_
    show DW _ _ _ _ _
    refine dw_seq ?_
    refine dw_block ?_
    refine stp Ln ?_
    refine rgn Ln ?_ (hok := by (try simp only [go_sem, ff]); all_goals (first | done | ((repeat' (with_reducible apply And.intro)) <;> first | exact dplace_ct l[k]! | (intros; exact dplace_ct l[k]!) | omega | skip)))
    show DW _ _ _ _ _
    refine rgn Ln ?_
    show ∃ _, _
    refine rnd (k + 1, _) (h1 := ⟨iv, iv, trivial⟩) (h5 := ?_)
    refine less_fresh hnone (by simp only [go_sem, ff]) (fun q hq => ?_)
    simp only [upd]
    repeat rw [if_neg (by omega)]
  · skip
    refine dw_exit ?_
    show DW _ _ _ _ _
    have e9 : k = l.length := by have h9 : ¬ (k:Int) < l.length := (by simpa using c1); omega
    subst e9
    refine stp Ln ?_
    refine dw_ret ?_
    exact finr (upd h (n + 3) (some ⟨119, mapRows (kvZ (mapZ l))⟩)) (hr := by (try simp only [go_sem, ff]); all_goals (exact ⟨n + 3, rfl, rfl, by omega, by omega⟩)) (hh := by rw [← kvQ_mapZ]; exact less_refl _)

end Go.Proofs.YtfggmgafjabbjaaDoor
namespace Go.Proofs.YtfggmgafjabbjaaDoor
open Go.DL Go.Str Go.Rec Go.Cmp Go.Zon
set_option maxRecDepth 10000
set_option linter.unusedSimpArgs false
set_option linter.unusedVariables false
theorem zserial_yes {z : Zon} (h : zoneOk z = true) : PureCt Tryd.prog 76 [.agg z.d] (.tuple [.i (serialOf z), .i 0]) := by
  have := zserial_ct z
  rwa [if_pos h, if_pos h] at this
theorem zserial_no {z : Zon} (h : zoneOk z = false) : PureCt Tryd.prog 76 [.agg z.d] (.tuple [.i 0, .i 1]) := by
  have := zserial_ct z
  rwa [if_neg (by simp [h]), if_neg (by simp [h])] at this
@[go_sem] theorem keysOk_S {m : List Qst} : keysOk Tryd.prog 95 (kvS m) = true := by
  induction m with
  | nil => rfl
  | cons p m ih => rw [kvS_cons]; simp only [keysOk, ih, Qst.d, ko95, Bool.and_self]
@[go_sem] theorem keysOk_Z {m : PZ} : keysOk Tryd.prog 95 (kvZ m) = true := by
  induction m with
  | nil => rfl
  | cons p m ih => rw [kvZ_cons]; simp only [keysOk, ih, Qst.d, ko95, Bool.and_self]
theorem bo85 : hasBody Tryd.prog 85 = true := by kernel_rfl
theorem dinform_ct (d : Dlt) : PureCt Tryd.prog 85 [.agg d.d] (.b (dltOk d)) := by
  refine pure_of_dw Tryd.func85 rfl bo85 (by simp [go_sem, D.nr, nrs, nrr]) (by simp [Tryd.f85]) ?_
  unfold Tryd.f85
  simp only [init_eq]
  have ff := True.intro
  refine stp Ln ?_
  refine dw_seq ?_
  refine stp Ln ?_ (hok := by (try simp only [go_sem, ff]); all_goals (first | done | ((repeat' (with_reducible apply And.intro)) <;> first | exact nvalid_ct _ | (intros; exact nvalid_ct _) | exact (fun _ => haspre_ct _ _) | (intros; exact (fun _ => haspre_ct _ _)) | skip)))
  refine cd (fun c1 => ?_) (fun c1 => ?_)
  · skip
    refine stp Ln ?_
    refine dw_ret ?_
    exact fin 0 (hr := by (try simp only [go_sem, ff]); all_goals (rw [← dltC_ok]; simp only [dltC]; (try rw [wild_pre] at *); grind))
  · skip
    refine dw_skip ?_
    show DW _ _ _ _ _
    refine dw_seq ?_
    refine stp Ln ?_ (hok := by (try simp only [go_sem, ff]); all_goals (first | done | ((repeat' (with_reducible apply And.intro)) <;> first | exact dserial_ct _ | (intros; exact dserial_ct _) | exact (fun _ => dserial_ct _) | (intros; exact (fun _ => dserial_ct _)) | exact (fun h => dbefore_ct _ _ (by simp_all) (by simp_all)) | (intros; exact (fun h => dbefore_ct _ _ (by simp_all) (by simp_all))) | (intros; simp_all; done) | skip)))
    refine cd (fun c2 => ?_) (fun c2 => ?_)
    · skip
      refine stp Ln ?_
      refine dw_ret ?_
      exact fin 0 (hr := by (try simp only [go_sem, ff]); all_goals (rw [← dltC_ok]; simp only [dltC]; (try rw [wild_pre] at *); grind))
    · skip
      refine dw_skip ?_
      show DW _ _ _ _ _
      refine dw_seq ?_
      refine stp Ln ?_
      refine cd (fun c3 => ?_) (fun c3 => ?_)
      · skip
        refine stp Ln ?_
        refine dw_ret ?_
        exact fin 0 (hr := by (try simp only [go_sem, ff]); all_goals (rw [← dltC_ok]; simp only [dltC]; (try rw [wild_pre] at *); grind))
      · skip
        refine dw_skip ?_
        show DW _ _ _ _ _
        refine stp Ln ?_
        refine dw_seq ?_
        refine stp Ln ?_
        refine dw_block ?_
        refine lp (α := (Nat) × Nat) [1, 3, 50, 51] (fun ⟨k, nx⟩ => (k ≤ d.drop.length) ∧ (allN d.drop.length (dropAtC d.drop) 0 = allN d.drop.length (dropAtC d.drop) k) ∧ (42 < nx) ∧ True) (fun ⟨k, nx⟩ => d.drop.length - k) (fun ⟨k, nx⟩ => [(52, .i k)]) (fun ⟨k, nx⟩ => [(0, ⟨89, [d.d]⟩), (42, ⟨154, mapRows (kvS (qsTo d.drop (k)))⟩)]) (fun ⟨k, nx⟩ => nx) (0, _) (hA := ⟨iv, rfl, iv, trivial⟩) (round := ?_)
        rintro ⟨k, nx⟩ ⟨hk, hv1, hx, -⟩
        show DW _ _ _ _ { n := _, t := tab _, h := _, nx := _, e := _ }
        simp only [List.cons_append, List.nil_append]
        have n0 : 0 < nx := by omega
        have ff := And.intro @hx (And.intro @n0 ff)
        refine stp Ln ?_
        refine dw_seq ?_
        refine cd (fun c4 => ?_) (fun c4 => ?_) (hp := rfl)
        · skip
          have hk2 : k < d.drop.length := by simpa using c4
          have hk1 : k - 1 < d.drop.length := by omega
          have e1 : ((k:Int) - 1).toNat = k - 1 := by omega
          have ff := And.intro (getD_qst hk2) (And.intro (getD_qst hk1) (And.intro @e1 ff))
          refine dw_skip ?_
          show DW _ _ _ _ _
          refine dw_seq ?_
          refine dw_block ?_
          refine stp Ln ?_
          refine dw_seq ?_
          refine stp Ln ?_ (hok := by (try simp only [go_sem, ff]); all_goals (first | done | ((repeat' (with_reducible apply And.intro)) <;> first | exact nvalid_ct _ | (intros; exact nvalid_ct _) | omega | (intro h; simp only [Bool.and_eq_true, decide_eq_true_eq] at h; omega) | (intros; omega) | (intros; simp_all; done) | skip)))
          refine cd (fun c5 => ?_) (fun c5 => ?_)
          · skip
            refine stp Ln ?_
            refine dw_ret ?_
            exact fin 0 (hr := by (try simp only [go_sem, ff]); all_goals (rw [← dltC_ok]; have hF : (dropAtC d.drop) k = false := (by simp only [dropAtC, qOk, inR]; grind); simp only [dltC]; rw [hv1, allN_no hk2 hF]; try simp))
          · skip
            refine dw_skip ?_
            show DW _ _ _ _ _
            refine dw_seq ?_
            refine stp Ln ?_ (hok := by (try simp only [go_sem, ff]); all_goals (first | done | ((repeat' (with_reducible apply And.intro)) <;> first | exact (fun _ => dcmppl_ct d.drop[k - 1]! d.drop[k]!) | (intros; exact (fun _ => dcmppl_ct d.drop[k - 1]! d.drop[k]!)) | omega | (intro h; simp only [Bool.and_eq_true, decide_eq_true_eq] at h; omega) | (intros; omega) | (intros; simp_all; done) | skip)))
            refine cd (fun c6 => ?_) (fun c6 => ?_)
            · skip
              refine stp Ln ?_
              refine dw_ret ?_
              exact fin 0 (hr := by (try simp only [go_sem, ff]); all_goals (rw [← dltC_ok]; have hF : (dropAtC d.drop) k = false := (by simp only [dropAtC, qOk, inR]; grind); simp only [dltC]; rw [hv1, allN_no hk2 hF]; try simp))
            · skip
              refine dw_skip ?_
              show DW _ _ _ _ _
              refine rgn Ln ?_
              show DW _ _ _ _ _
              refine rgn Ln ?_
              show ∃ _, _
              have h8 : (dropAtC d.drop) k = true := by simp only [dropAtC, qOk, inR]; grind
              have ff := And.intro (show qset (qsTo d.drop k) d.drop[k]! = qsTo d.drop (k + 1) from rfl) ff
              exact rnd (k + 1, _) (h1 := ⟨iv, (by first | (rw [hv1, allN_yes hk2 h8]) | (dsimp only; rw [hv1, allN_yes hk2 h8])), iv, trivial⟩)
        · skip
          have e9 : k = d.drop.length := by omega
          subst e9
          refine dw_exit ?_
          show DW _ _ _ _ _
          refine dw_seq ?_
          refine stp Ln ?_
          refine dw_block ?_
          refine lp (α := (Nat) × Nat) [1, 3, 88, 89] (fun ⟨k, nx⟩ => (k ≤ d.put.length) ∧ (allN d.put.length (putAtC d) 0 = allN d.put.length (putAtC d) k) ∧ (42 < nx) ∧ True) (fun ⟨k, nx⟩ => d.put.length - k) (fun ⟨k, nx⟩ => [(90, .i k)]) (fun ⟨k, nx⟩ => [(0, ⟨89, [d.d]⟩), (42, ⟨154, mapRows (kvS (qsTo d.drop (d.drop.length)))⟩)]) (fun ⟨k, nx⟩ => nx) (0, _) (hA := ⟨iv, rfl, iv, trivial⟩) (round := ?_)
          rintro ⟨k, nx⟩ ⟨hk, hv, hx, -⟩
          show DW _ _ _ _ { n := _, t := tab _, h := _, nx := _, e := _ }
          simp only [List.cons_append, List.nil_append]
          have n0 : 0 < nx := by omega
          have ff := And.intro @hx (And.intro @n0 ff)
          refine stp Ln ?_
          refine dw_seq ?_
          refine cd (fun c7 => ?_) (fun c7 => ?_) (hp := rfl)
          · skip
            have hk2 : k < d.put.length := by simpa using c7
            have hk1 : k - 1 < d.put.length := by omega
            have e1 : ((k:Int) - 1).toNat = k - 1 := by omega
            have ff := And.intro (getD_sgd hk2) (And.intro (getD_sgd hk1) (And.intro @e1 ff))
            refine dw_skip ?_
            show DW _ _ _ _ _
            refine dw_seq ?_
            refine dw_block ?_
            refine stp Ln ?_
            refine dw_seq ?_
            refine stp Ln ?_ (hok := by (try simp only [go_sem, ff]); all_goals (first | done | ((repeat' (with_reducible apply And.intro)) <;> first | exact rvalid_ct _ | (intros; exact rvalid_ct _) | exact (fun _ => dplace_ct d.put[k]!) | (intros; exact (fun _ => dplace_ct d.put[k]!)) | omega | (intro h; simp only [Bool.and_eq_true, decide_eq_true_eq] at h; omega) | (intros; omega) | (intros; simp_all; done) | skip)))
            refine cd (fun c8 => ?_) (fun c8 => ?_)
            · skip
              refine stp Ln ?_
              refine dw_ret ?_
              exact fin 0 (hr := by (try simp only [go_sem, ff]); all_goals (rw [← dltC_ok]; have hF : (putAtC d) k = false := (by simp only [putAtC]; grind); simp only [dltC]; rw [hv, allN_no hk2 hF]; try simp))
            · skip
              refine dw_skip ?_
              show DW _ _ _ _ _
              refine stp Ln ?_ (hok := by (try simp only [go_sem, ff]); all_goals (first | done | ((repeat' (with_reducible apply And.intro)) <;> first | exact (fun _ => dplace_ct d.put[k]!) | (intros; exact (fun _ => dplace_ct d.put[k]!)) | exact (fun _ => dplace_ct d.put[k - 1]!) | (intros; exact (fun _ => dplace_ct d.put[k - 1]!)) | exact (fun _ => dcmppl_ct d.put[k - 1]!.q d.put[k]!.q) | (intros; exact (fun _ => dcmppl_ct d.put[k - 1]!.q d.put[k]!.q)) | omega | (intro h; simp only [Bool.and_eq_true, decide_eq_true_eq] at h; omega) | (intros; omega) | (intros; simp_all; done) | skip)))
              refine cd (fun c9 => ?_) (fun c9 => ?_)
              · skip
                refine stp Ln ?_
                refine dw_ret ?_
                exact fin 0 (hr := by (try simp only [go_sem, ff]); all_goals (rw [← dltC_ok]; have hF : (putAtC d) k = false := (by simp only [putAtC]; grind); simp only [dltC]; rw [hv, allN_no hk2 hF]; try simp))
              · skip
                refine dw_skip ?_
                show DW _ _ _ _ _
                refine rgn Ln ?_
                show ∃ _, _
                have h8 : (putAtC d) k = true := by simp only [putAtC]; grind
                exact rnd (k + 1, _) (h1 := ⟨iv, (by first | (rw [hv, allN_yes hk2 h8]) | (dsimp only; rw [hv, allN_yes hk2 h8])), iv, trivial⟩)
          · skip
            refine dw_exit ?_
            show DW _ _ _ _ _
            refine stp Ln ?_
            refine dw_ret ?_
            exact fin 0 (hr := by (try simp only [go_sem, ff]); all_goals (rw [← dltC_ok]; simp only [dltC]; (try rw [wild_pre] at *); rw [hv1, hv, allN_end (n := d.drop.length) (by omega), allN_end (by omega)]; grind))
theorem bo54 : hasBody Tryd.prog 54 = true := by kernel_rfl
theorem ddiff_ct (a : Zon) (b : Zon) : PureCt Tryd.prog 54 [.agg a.d, .agg b.d] (.tuple [.agg (diffP a b).1.d, .i (diffP a b).2]) := by
  refine pure_of_dw Tryd.func54 rfl bo54 (by simp [go_sem, D.nr, nrs, nrr]) (by simp [Tryd.f54]) ?_
  unfold Tryd.f54
  simp only [init_eq]
  have ff := True.intro
  refine stp Ln ?_
  rcases ha : zoneOk a with _ | _ <;> rcases hb : zoneOk b with _ | _
  · skip
    have ff := And.intro @ha (And.intro @hb ff)
    refine stp Ln ?_ (hok := by (try simp only [go_sem, ff]); all_goals (first | exact zserial_yes ha | exact zserial_no ha))
    refine stp Ln ?_ (hok := by (try simp only [go_sem, ff]); all_goals (first | exact zserial_yes hb | exact zserial_no hb))
    refine dw_seq ?_
    refine stp Ln ?_
    refine cd (fun c1 => ?_) (fun c1 => ?_) (hq := rfl)
    · skip
      refine stp Ln ?_
      refine dw_ret ?_
      exact fin 3 (hr := by (try simp only [go_sem, ff]); all_goals (rw [diffP, if_pos (by simp_all)]; rfl))
    · skip
      first | exact c1.elim | (simp at c1; done)
  · skip
    have ff := And.intro @ha (And.intro @hb ff)
    refine stp Ln ?_ (hok := by (try simp only [go_sem, ff]); all_goals (first | exact zserial_yes ha | exact zserial_no ha))
    refine stp Ln ?_ (hok := by (try simp only [go_sem, ff]); all_goals (first | exact zserial_yes hb | exact zserial_no hb))
    refine dw_seq ?_
    refine stp Ln ?_
    refine cd (fun c1 => ?_) (fun c1 => ?_) (hq := rfl)
    · skip
      refine stp Ln ?_
      refine dw_ret ?_
      exact fin 3 (hr := by (try simp only [go_sem, ff]); all_goals (rw [diffP, if_pos (by simp_all)]; rfl))
    · skip
      first | exact c1.elim | (simp at c1; done)
  · skip
    have ff := And.intro @ha (And.intro @hb ff)
    refine stp Ln ?_ (hok := by (try simp only [go_sem, ff]); all_goals (first | exact zserial_yes ha | exact zserial_no ha))
    refine stp Ln ?_ (hok := by (try simp only [go_sem, ff]); all_goals (first | exact zserial_yes hb | exact zserial_no hb))
    refine dw_seq ?_
    refine stp Ln ?_
    refine cd (fun c1 => ?_) (fun c1 => ?_) (hq := rfl)
    · skip
      refine stp Ln ?_
      refine dw_ret ?_
      exact fin 3 (hr := by (try simp only [go_sem, ff]); all_goals (rw [diffP, if_pos (by simp_all)]; rfl))
    · skip
      first | exact c1.elim | (simp at c1; done)
  · skip
    have hfa := zone_fit ha
    have hfb := zone_fit hb
    have hsa : serB (serialOf a) = true := by rw [serial_ref ha]; exact ref_ser (by rw [← zoneOk_ref]; exact ha)
    have hsb : serB (serialOf b) = true := by rw [serial_ref hb]; exact ref_ser (by rw [← zoneOk_ref]; exact hb)
    have ff := And.intro @ha (And.intro @hb ff)
    refine stp Ln ?_ (hok := by (try simp only [go_sem, ff]); all_goals (first | exact zserial_yes ha | exact zserial_no ha))
    refine stp Ln ?_ (hok := by (try simp only [go_sem, ff]); all_goals (first | exact zserial_yes hb | exact zserial_no hb))
    refine dw_seq ?_
    refine stp Ln ?_
    refine cd (fun c1 => ?_) (fun c1 => ?_)
    · skip
      refine stp Ln ?_
      refine dw_ret ?_
      exact fin 3 (hr := by (try simp only [go_sem, ff]); all_goals (rw [diffP, if_pos (by simp_all)]; rfl))
    · skip
      refine dw_skip ?_
      show DW _ _ _ _ _
      refine dw_seq ?_
      refine stp Ln ?_ (hok := by (try simp only [go_sem, ff]); all_goals (exact dbefore_ct _ _ hsa hsb))
      refine cd (fun c2 => ?_) (fun c2 => ?_)
      · skip
        refine stp Ln ?_
        refine dw_ret ?_
        exact fin 3 (hr := by (try simp only [go_sem, ff]); all_goals (rw [diffP, if_neg (by simp_all), if_pos (by simp_all)]; rfl))
      · skip
        refine dw_skip ?_
        show DW _ _ _ _ _
        refine stp LnF ?_ (hok := by (try simp only [go_sem, ff]); all_goals (first | done | ((repeat' (with_reducible apply And.intro)) <;> first | exact dbyplace_ct a.sets hfa.1 | (intros; exact dbyplace_ct a.sets hfa.1) | exact dbyplace_ct b.sets hfb.1 | (intros; exact dbyplace_ct b.sets hfb.1) | skip)))
        refine stp Ln ?_
        refine dw_freezep 11 42 ev ev nrs_fmapP ?_
        refine stp Ln ?_ (hok := by (try simp only [go_sem, ff]); all_goals (first | done | ((repeat' (with_reducible apply And.intro)) <;> first | exact dcollsq_ct a.sets (mapP b.sets) hfa | (intros; exact dcollsq_ct a.sets (mapP b.sets) hfa) | skip)))
        refine dw_freezep 10 41 ev ev nrs_fmapP ?_
        refine stp Ln ?_ (hok := by (try simp only [go_sem, ff]); all_goals (first | done | ((repeat' (with_reducible apply And.intro)) <;> first | exact dcollssD2_ct b.sets (mapP a.sets) hfb (fun k hk x hx => fit_mem hfa (mapP_mem hx).1) | (intros; exact dcollssD2_ct b.sets (mapP a.sets) hfb (fun k hk x hx => fit_mem hfa (mapP_mem hx).1)) | skip)))
        refine stp Ln ?_
        refine dw_ret ?_
        exact fin 3 (hr := by (try simp only [go_sem, ff]); all_goals (rw [diffP, if_neg (by simp_all), if_neg (by simp_all)]; try rfl))

end Go.Proofs.YtfggmgafjabbjaaDoor
namespace Go.Proofs.YtfggmgafjabbjaaDoor
open Go.DL Go.Str Go.Rec Go.Cmp Go.Zon
set_option maxRecDepth 10000
set_option linter.unusedSimpArgs false
set_option linter.unusedVariables false
def srtS_ren : Go.Shelf.Ren := { f := fun x => match x with | 6 => 87 | 15 => 99 | 14 => 111 | 28 => 127 | 29 => 128 | 20 => 139 | 21 => 140 | 22 => 141 | 23 => 142 | 24 => 143 | 25 => 144 | 26 => 145 | 27 => 146 | 46 => 158 | 47 => 151 | 48 => 152 | 49 => 159 | 50 => 160 | 57 => 163 | n => n, t := fun x => match x with | 22 => 83 | 24 => 98 | 25 => 131 | 3 => 3 | 39 => 117 | 0 => 0 | 53 => 166 | 55 => 114 | 4 => 4 | 46 => 160 | 45 => 159 | 50 => 144 | 5 => 5 | 9 => 9 | 66 => 179 | 70 => 183 | 76 => 191 | 77 => 192 | n => n, g := fun n => n }
theorem srtS : Go.Proofs.SlLaysF0.n6 Tryd.prog srtS_ren := {
  mixed := by kernel_rfl
  f6 := ⟨Tryd.f87.name, by decide, Tryd.func87.trans (by kernel_rfl)⟩
  f14 := ⟨Tryd.f111.name, by decide, Tryd.func111.trans (by kernel_rfl)⟩
  f15 := Tryd.func99.trans (by kernel_rfl)
  f20 := ⟨Tryd.f139.name, by decide, Tryd.func139.trans (by kernel_rfl)⟩
  f21 := ⟨Tryd.f140.name, by decide, Tryd.func140.trans (by kernel_rfl)⟩
  f22 := ⟨Tryd.f141.name, by decide, Tryd.func141.trans (by kernel_rfl)⟩
  f23 := ⟨Tryd.f142.name, by decide, Tryd.func142.trans (by kernel_rfl)⟩
  f24 := ⟨Tryd.f143.name, by decide, Tryd.func143.trans (by kernel_rfl)⟩
  f25 := ⟨Tryd.f144.name, by decide, Tryd.func144.trans (by kernel_rfl)⟩
  f26 := ⟨Tryd.f145.name, by decide, Tryd.func145.trans (by kernel_rfl)⟩
  f27 := ⟨Tryd.f146.name, by decide, Tryd.func146.trans (by kernel_rfl)⟩
  f28 := Tryd.func127.trans (by kernel_rfl)
  f29 := Tryd.func128.trans (by kernel_rfl)
  f46 := ⟨Tryd.f158.name, by decide, Tryd.func158.trans (by kernel_rfl)⟩
  f47 := Tryd.func151.trans (by kernel_rfl)
  f48 := Tryd.func152.trans (by kernel_rfl)
  f49 := ⟨Tryd.f159.name, by decide, Tryd.func159.trans (by kernel_rfl)⟩
  f50 := ⟨Tryd.f160.name, by decide, Tryd.func160.trans (by kernel_rfl)⟩
  f57 := ⟨Tryd.f163.name, by decide, Tryd.func163.trans (by kernel_rfl)⟩
  t0 := Tryd.underlying0
  a0 := Tryd.isAgg0
  z0 := Tryd.sizeOf0
  v0 := Tryd.zeroValue0
  t3 := Tryd.underlying3
  a3 := Tryd.isAgg3
  z3 := Tryd.sizeOf3
  v3 := Tryd.zeroValue3
  t4 := Tryd.underlying4
  a4 := Tryd.isAgg4
  z4 := Tryd.sizeOf4
  v4 := Tryd.zeroValue4
  t5 := Tryd.underlying5
  a5 := Tryd.isAgg5
  z5 := Tryd.sizeOf5
  v5 := Tryd.zeroValue5
  t9 := Tryd.underlying9
  a9 := Tryd.isAgg9
  z9 := Tryd.sizeOf9
  v9 := Tryd.zeroValue9
  t22 := Tryd.underlying83
  a22 := Tryd.isAgg83
  z22 := Tryd.sizeOf83
  v22 := Tryd.zeroValue83
  t25 := Tryd.underlying131
  a25 := Tryd.isAgg131
  z25 := Tryd.sizeOf131
  v25 := Tryd.zeroValue131
  t39 := Tryd.underlying117
  a39 := Tryd.isAgg117
  z39 := Tryd.sizeOf117
  v39 := Tryd.zeroValue117
  t45 := Tryd.underlying159
  a45 := Tryd.isAgg159
  z45 := Tryd.sizeOf159
  v45 := Tryd.zeroValue159
  t46 := Tryd.underlying160
  a46 := Tryd.isAgg160
  z46 := Tryd.sizeOf160
  v46 := Tryd.zeroValue160
  t50 := Tryd.underlying144
  a50 := Tryd.isAgg144
  z50 := Tryd.sizeOf144
  v50 := Tryd.zeroValue144
  t53 := Tryd.underlying166
  a53 := Tryd.isAgg166
  z53 := Tryd.sizeOf166
  v53 := Tryd.zeroValue166
  t55 := Tryd.underlying114
  a55 := Tryd.isAgg114
  z55 := Tryd.sizeOf114
  v55 := Tryd.zeroValue114
  t66 := Tryd.underlying179
  a66 := Tryd.isAgg179
  z66 := Tryd.sizeOf179
  v66 := Tryd.zeroValue179
  t70 := Tryd.underlying183
  a70 := Tryd.isAgg183
  z70 := Tryd.sizeOf183
  v70 := Tryd.zeroValue183
  t76 := Tryd.underlying191
  a76 := Tryd.isAgg191
  z76 := Tryd.sizeOf191
  v76 := Tryd.zeroValue191
  t77 := Tryd.underlying192
  a77 := Tryd.isAgg192
  z77 := Tryd.sizeOf192
  v77 := Tryd.zeroValue192 }
theorem sortG (l : List Sgd) (m : Nat) (h : H) (n r : Nat) (hm : m = l.length) (hl : l.length ≤ 1000000) (hn : ∀ s ∈ l, nameOk (s.q).name = true) (ho : Once l) (hr : h r = some ⟨98, l.map Sgd.d⟩) :
    RCt Tryd.prog 87 [.mrow r 0 m, .fn (.func 112) [] [.eptr [.fn (.func 80) [] []]]] h n (fun d h' n' => d = .tuple [] ∧ n' = n ∧ h' = upd h r (some ⟨98, (sortS l).map Sgd.d⟩)) := by
  have e : m = (l.map Sgd.d).length := by simp [hm]
  rw [e]
  have hx : ∀ x ∈ l.map Sgd.d, Sgd.d (Sgd.of x) = x ∧ nameOk ((fun s : Sgd => s.q) (Sgd.of x)).name = true := fun x hx => by
    obtain ⟨s, hs, rfl⟩ := List.mem_map.1 hx
    rw [of_sgd]
    exact ⟨rfl, hn s hs⟩
  have hc : ∀ x ∈ l.map Sgd.d, ∀ y ∈ l.map Sgd.d, qC (Sgd.of x).q (Sgd.of y).q = sp (Sgd.of x) (Sgd.of y) := fun x h1 y h2 => qC_qp (hx x h1).2 (hx y h2).2
  refine (sort_rct (ty := 98) srtS rfl rfl Tryd.isAgg98 Tryd.sizeOf98 (fun x y => qC (Sgd.of x).q (Sgd.of y).q) (by kernel_rfl) hr nrr_sgd rfl (by simp; omega) (fun x h1 y h2 => ?_) ⟨fun x h1 => ?_, fun x h1 y h2 z h3 => ?_, fun x h1 y h2 z h3 => ?_⟩).mono ?_
  · have := dcmp1_ct (Sgd.of x) (Sgd.of y)
    rw [(hx x h1).1, (hx y h2).1] at this
    exact this
  · rw [hc x h1 x h1, cm_s.self]; omega
  · rw [hc x h1 y h2, hc y h2 z h3, hc x h1 z h3]
    intro a b; exact cm_s.lt_le a (by omega)
  · rw [hc x h1 y h2, hc y h2 z h3, hc x h1 z h3]
    intro a b
    have h1 := cm_s.anti (Sgd.of x) (Sgd.of y); have h2 := cm_s.anti (Sgd.of y) (Sgd.of z); have h3 := cm_s.anti (Sgd.of x) (Sgd.of z)
    have := cm_s.tr (Sgd.of z) (Sgd.of y) (Sgd.of x) (by omega) (by omega)
    omega
  · rintro d h' n' ⟨rfl, rfl, rows', hp, hs, rfl⟩
    obtain ⟨q1, q2⟩ := rows_sorted of_sgd hp
    refine ⟨rfl, rfl, ?_⟩
    have hs' : (rows'.map Sgd.of).Pairwise fun a b => sp a b ≤ 0 := by
      rw [List.pairwise_map]
      refine hs.imp_of_mem fun {a b} h1 h2 h3 => ?_
      have h3 : ¬ (fun x y => qC (Sgd.of x).q (Sgd.of y).q) b a < 0 := h3
      dsimp only at h3
      have h4 := hc b (hp.mem_iff.1 h2) a (hp.mem_iff.1 h1)
      rw [h4] at h3
      have := cm_s.anti (Sgd.of a) (Sgd.of b)
      omega
    rw [← sortS_eq ho q2 hs', q1]
theorem dw_freezepw {P : Program} [Glob P] {ro : Option Nat} {Q : Exit → S → Prop} {c : Code} {s : S} (i r : Nat) {ty : TypeId} {row : List D} (hi : s.t i = .mptr r 0 0) (hr : s.h r = some ⟨ty, [row]⟩) (hn : nrs row = true) (h : DW P ro c Q { n := s.n, t := upd s.t i (.eptr (wks row)), h := upd s.h r none, nx := s.nx, e := s.e }) : DW P ro c Q s :=
  dw_freeze1 i r hi (fun _ _ _ hm hv => (frz_ptr hm hr hn hv).wk) h
theorem dstay_ct (z : Zon) (d : Dlt) (hl : fitL z.sets) (h : H) (n : Nat) : RCt Tryd.prog 81 [.list false (z.sets.map Sgd.d), .fn (.func 86) [] [.eptr [.fmap (kvP (zp (goesZ (mapZ d.put) d.drop d.drop.length)))]]] h n (fun x h' n' => ∃ r, x = .mrow r 0 (stayP z d).length ∧ h' = upd h r (some ⟨98, (stayP z d).map Sgd.d⟩) ∧ n ≤ r ∧ r < n') := dcollssA1_ct z.sets _ hl h n
theorem stay_names {z : Zon} {d : Dlt} (hz : ZOrd z) (hd : DOk d) : ∀ s ∈ stayP z d ++ d.put, nameOk s.q.name = true := fun s hs => (List.mem_append.1 hs).elim (fun k => hz.nms s (stay_mem.1 k).1) fun k => (hd.pok s k).name
theorem new_fit {z : Zon} {d : Dlt} (hz : fitL z.sets) (hp : fitL d.put) (hd : d.put.length ≤ 20000) (hl : (stayP z d).length ≤ 20000) : fitL (sortS (stayP z d ++ d.put)) := fit_of (by rw [sortS_len, List.length_append]; omega) fun s hs => (List.mem_append.1 (sortS_mem.1 hs)).elim (fun k => fit_mem hz (stay_mem.1 k).1) fun k => fit_mem hp k
theorem bo55 : hasBody Tryd.prog 55 = true := by kernel_rfl
theorem dapply_ct (z : Zon) (d : Dlt) (hp : fitL d.put) : PureCt Tryd.prog 55 [.agg z.d, .agg d.d] (.tuple [.agg (applyP z d).1.d, .i (applyP z d).2]) := by
  refine pure_of_dw Tryd.func55 rfl bo55 (by simp [go_sem, D.nr, nrs, nrr]) (by simp [Tryd.f55]) ?_
  unfold Tryd.f55
  simp only [init_eq]
  have ff := True.intro
  refine stp Ln ?_
  rcases ha : zoneOk z with _ | _
  · skip
    have ff := And.intro @ha ff
    refine stp Ln ?_ (hok := by (try simp only [go_sem, ff]); all_goals (first | exact zserial_yes ha | exact zserial_no ha))
    refine dw_seq ?_
    refine stp Ln ?_ (hok := by (try simp only [go_sem, ff]); all_goals (first | done | ((repeat' (with_reducible apply And.intro)) <;> first | exact dinform_ct d | (intros; exact dinform_ct d) | exact (fun _ => dinform_ct d) | (intros; exact (fun _ => dinform_ct d)) | skip)))
    refine cd (fun c1 => ?_) (fun c1 => ?_) (hq := rfl)
    · skip
      refine stp Ln ?_
      refine dw_ret ?_
      exact fin 3 (hr := by (try simp only [go_sem, ff]); all_goals (rw [applyP, if_pos (by grind)]; try rfl))
    · skip
      first | exact c1.elim | (simp at c1; done)
  · skip
    have hfa := zone_fit ha
    have hza := zone_ord ha
    have hlz := hza.len
    have ff := And.intro @ha ff
    refine stp Ln ?_ (hok := by (try simp only [go_sem, ff]); all_goals (first | exact zserial_yes ha | exact zserial_no ha))
    refine dw_seq ?_
    refine stp Ln ?_ (hok := by (try simp only [go_sem, ff]); all_goals (first | done | ((repeat' (with_reducible apply And.intro)) <;> first | exact dinform_ct d | (intros; exact dinform_ct d) | exact (fun _ => dinform_ct d) | (intros; exact (fun _ => dinform_ct d)) | skip)))
    refine cd (fun c1 => ?_) (fun c1 => ?_)
    · skip
      refine stp Ln ?_
      refine dw_ret ?_
      exact fin 3 (hr := by (try simp only [go_sem, ff]); all_goals (rw [applyP, if_pos (by grind)]; try rfl))
    · skip
      have hd : dltOk d = true := by grind
      have hax : z.apex = d.apex := by grind
      have p1 : ¬ (zoneOk z = false ∨ dltOk d = false ∨ z.apex ≠ d.apex) := by rintro (q | q | q); rw [ha] at q; cases q; rw [hd] at q; cases q; exact q hax
      have hdd := dlt_iff.1 hd
      have hld := hdd.dlen
      have hlp := hdd.plen
      have hsl := stay_len z d
      refine dw_skip ?_
      show DW _ _ _ _ _
      refine dw_seq ?_
      refine stp Ln ?_
      refine cd (fun c2 => ?_) (fun c2 => ?_)
      · skip
        have p2 : serialOf z ≠ d.frm := by grind
        refine stp Ln ?_
        refine dw_ret ?_
        exact fin 3 (hr := by (try simp only [go_sem, ff]); all_goals (rw [applyP, if_neg p1, if_pos p2]; try rfl))
      · skip
        have p2 : ¬ (serialOf z ≠ d.frm) := fun q => q (by grind)
        refine dw_skip ?_
        show DW _ _ _ _ _
        refine dw_seq (cal1 Ln 2 (hct := by exact dbyplaceL_ct d.put hp.1 _ _) (hk := ?_))
        rintro res h2 n2 ⟨r1, rfl, rfl, a1, b1⟩
        try dsimp only at a1 b1
        have z0_1 : (0 = 1) = False := eq_false (by omega)
        have y1_0 : (1 = 0) = False := eq_false (by omega)
        have z0_2 : (0 = 2) = False := eq_false (by omega)
        have y2_0 : (2 = 0) = False := eq_false (by omega)
        have z0_r1 : (0 = r1) = False := eq_false (by omega)
        have yr1_0 : (r1 = 0) = False := eq_false (by omega)
        have z0_n23 : (0 = n2 + 3) = False := eq_false (by omega)
        have yn23_0 : (n2 + 3 = 0) = False := eq_false (by omega)
        have z1_2 : (1 = 2) = False := eq_false (by omega)
        have y2_1 : (2 = 1) = False := eq_false (by omega)
        have z1_r1 : (1 = r1) = False := eq_false (by omega)
        have yr1_1 : (r1 = 1) = False := eq_false (by omega)
        have z1_n23 : (1 = n2 + 3) = False := eq_false (by omega)
        have yn23_1 : (n2 + 3 = 1) = False := eq_false (by omega)
        have z2_r1 : (2 = r1) = False := eq_false (by omega)
        have yr1_2 : (r1 = 2) = False := eq_false (by omega)
        have z2_n23 : (2 = n2 + 3) = False := eq_false (by omega)
        have yn23_2 : (n2 + 3 = 2) = False := eq_false (by omega)
        have zr1_n23 : (r1 = n2 + 3) = False := eq_false (by omega)
        have yn23_r1 : (n2 + 3 = r1) = False := eq_false (by omega)
        have ff := And.intro @b1 (And.intro @z0_1 (And.intro @y1_0 (And.intro @z0_2 (And.intro @y2_0 (And.intro @z0_r1 (And.intro @yr1_0 (And.intro @z0_n23 (And.intro @yn23_0 (And.intro @z1_2 (And.intro @y2_1 (And.intro @z1_r1 (And.intro @yr1_1 (And.intro @z1_n23 (And.intro @yn23_1 (And.intro @z2_r1 (And.intro @yr1_2 (And.intro @z2_n23 (And.intro @yn23_2 (And.intro @zr1_n23 (And.intro @yn23_r1 ff))))))))))))))))))))
        refine cal2 Ln ?_
        show DW _ _ _ _ _
        refine dw_seq ?_
        refine stp Ln ?_
        refine dw_block ?_
        refine lp (α := (Nat) × (Nat) × Nat) [2, 3, 4, 43, 44] (fun ⟨k, q, nx⟩ => (k ≤ d.drop.length) ∧ (q < nx) ∧ (r1 < q) ∧ (2 < r1) ∧ True) (fun ⟨k, q, nx⟩ => d.drop.length - k) (fun ⟨k, q, nx⟩ => [(8, .mptr q 0 0), (45, .i k)]) (fun ⟨k, q, nx⟩ => [(0, ⟨85, [z.d]⟩), (1, ⟨89, [d.d]⟩), (2, ⟨85, [[.v (.string (bs [])), .list true []]]⟩), (q, ⟨119, [[.mp r1]]⟩), (r1, ⟨119, mapRows (kvZ (goesZ (mapZ d.put) d.drop (k)))⟩)]) (fun ⟨k, q, nx⟩ => nx) (0, n2 + 3, _) (hA := ⟨iv, iv, iv, iv, trivial⟩) (round := ?_)
        rintro ⟨k, q, nx⟩ ⟨hk, hq, hqr, hr1, -⟩
        show DW _ _ _ _ { n := _, t := tab _, h := _, nx := _, e := _ }
        simp only [List.cons_append, List.nil_append]
        have n0 : 0 < nx := by omega
        have hrn : r1 < nx := by omega
        have z0_1 : (0 = 1) = False := eq_false (by omega)
        have y1_0 : (1 = 0) = False := eq_false (by omega)
        have z0_2 : (0 = 2) = False := eq_false (by omega)
        have y2_0 : (2 = 0) = False := eq_false (by omega)
        have z0_q : (0 = q) = False := eq_false (by omega)
        have yq_0 : (q = 0) = False := eq_false (by omega)
        have z0_r1 : (0 = r1) = False := eq_false (by omega)
        have yr1_0 : (r1 = 0) = False := eq_false (by omega)
        have z1_2 : (1 = 2) = False := eq_false (by omega)
        have y2_1 : (2 = 1) = False := eq_false (by omega)
        have z1_q : (1 = q) = False := eq_false (by omega)
        have yq_1 : (q = 1) = False := eq_false (by omega)
        have z1_r1 : (1 = r1) = False := eq_false (by omega)
        have yr1_1 : (r1 = 1) = False := eq_false (by omega)
        have z2_q : (2 = q) = False := eq_false (by omega)
        have yq_2 : (q = 2) = False := eq_false (by omega)
        have z2_r1 : (2 = r1) = False := eq_false (by omega)
        have yr1_2 : (r1 = 2) = False := eq_false (by omega)
        have zq_r1 : (q = r1) = False := eq_false (by omega)
        have yr1_q : (r1 = q) = False := eq_false (by omega)
        have ff := And.intro @hq (And.intro @n0 (And.intro @hrn (And.intro @z0_1 (And.intro @y1_0 (And.intro @z0_2 (And.intro @y2_0 (And.intro @z0_q (And.intro @yq_0 (And.intro @z0_r1 (And.intro @yr1_0 (And.intro @z1_2 (And.intro @y2_1 (And.intro @z1_q (And.intro @yq_1 (And.intro @z1_r1 (And.intro @yr1_1 (And.intro @z2_q (And.intro @yq_2 (And.intro @z2_r1 (And.intro @yr1_2 (And.intro @zq_r1 (And.intro @yr1_q ff))))))))))))))))))))))
        refine stp Ln ?_
        refine dw_seq ?_
        refine cd (fun c3 => ?_) (fun c3 => ?_) (hp := rfl)
        · skip
          have hk2 : k < d.drop.length := by simpa using c3
          have ff := And.intro (getD_qst hk2) ff
          refine dw_skip ?_
          show DW _ _ _ _ _
          refine dw_seq ?_
          refine dw_block ?_
          refine stp Ln ?_
          refine rgn Ln ?_
          show DW _ _ _ _ _
          refine rgn Ln ?_
          show ∃ _, _
          have ff := And.intro (show zset (goesZ (mapZ d.put) d.drop (k)) d.drop[k]! none = goesZ (mapZ d.put) d.drop (k + 1) from rfl) ff
          exact rnd (k + 1, q, _) (h1 := ⟨iv, iv, iv, iv, trivial⟩)
        · skip
          have e8 : k = d.drop.length := by omega
          subst e8
          refine dw_exit ?_
          show DW _ _ _ _ _
          refine dw_freezemc q 0 r1 ev rfl ev rfl (by omega) nrs_kvZ ?_
          simp only [List.set_cons_zero]
          refine dw_freezepw 8 q ev ev nrs_fmapZ ?_
          refine dw_seq (cal1 Ln 3 (hct := by exact dstay_ct z d hfa _ _) (hk := ?_))
          rintro res h2 n2 ⟨r2, rfl, rfl, a2, b2⟩
          try dsimp only at a2 b2
          have z0_1 : (0 = 1) = False := eq_false (by omega)
          have y1_0 : (1 = 0) = False := eq_false (by omega)
          have z0_2 : (0 = 2) = False := eq_false (by omega)
          have y2_0 : (2 = 0) = False := eq_false (by omega)
          have z0_r2 : (0 = r2) = False := eq_false (by omega)
          have yr2_0 : (r2 = 0) = False := eq_false (by omega)
          have z1_2 : (1 = 2) = False := eq_false (by omega)
          have y2_1 : (2 = 1) = False := eq_false (by omega)
          have z1_r2 : (1 = r2) = False := eq_false (by omega)
          have yr2_1 : (r2 = 1) = False := eq_false (by omega)
          have z2_r2 : (2 = r2) = False := eq_false (by omega)
          have yr2_2 : (r2 = 2) = False := eq_false (by omega)
          have ff := And.intro @b2 (And.intro @z0_1 (And.intro @y1_0 (And.intro @z0_2 (And.intro @y2_0 (And.intro @z0_r2 (And.intro @yr2_0 (And.intro @z1_2 (And.intro @y2_1 (And.intro @z1_r2 (And.intro @yr2_1 (And.intro @z2_r2 (And.intro @yr2_2 ff))))))))))))
          refine cal2 Ln ?_
          show DW _ _ _ _ _
          refine dw_seq ?_
          refine stp Ln ?_
          refine cd (fun c4 => ?_) (fun c4 => ?_)
          · skip
            refine stp Ln ?_
            refine dw_ret ?_
            exact fin 3 (hr := by (try simp only [go_sem, ff]); all_goals (rw [applyP, if_neg p1, if_neg p2, if_pos (by omega)]; try rfl))
          · skip
            refine dw_skip ?_
            show DW _ _ _ _ _
            refine stp Ln ?_
            obtain ⟨q5, hq5⟩ : ∃ q, q = n2 + 15 := ⟨_, rfl⟩
            rw [← hq5]
            have hq5b : q5 < n2 + 16 := by omega
            have z0_1 : (0 = 1) = False := eq_false (by omega)
            have y1_0 : (1 = 0) = False := eq_false (by omega)
            have z0_2 : (0 = 2) = False := eq_false (by omega)
            have y2_0 : (2 = 0) = False := eq_false (by omega)
            have z0_q5 : (0 = q5) = False := eq_false (by omega)
            have yq5_0 : (q5 = 0) = False := eq_false (by omega)
            have z1_2 : (1 = 2) = False := eq_false (by omega)
            have y2_1 : (2 = 1) = False := eq_false (by omega)
            have z1_q5 : (1 = q5) = False := eq_false (by omega)
            have yq5_1 : (q5 = 1) = False := eq_false (by omega)
            have z2_q5 : (2 = q5) = False := eq_false (by omega)
            have yq5_2 : (q5 = 2) = False := eq_false (by omega)
            have ff := And.intro @hq5b (And.intro @z0_1 (And.intro @y1_0 (And.intro @z0_2 (And.intro @y2_0 (And.intro @z0_q5 (And.intro @yq5_0 (And.intro @z1_2 (And.intro @y2_1 (And.intro @z1_q5 (And.intro @yq5_1 (And.intro @z2_q5 (And.intro @yq5_2 ff))))))))))))
            refine dw_seq (cal1 Ln 2 (hok := by (try simp only [go_sem, ff]); all_goals (first | done | ((repeat' (with_reducible apply And.intro)) <;> first | exact dcomp_ct | (intros; exact dcomp_ct) | skip))) (hct := by exact sortG (stayP z d ++ d.put) _ _ _ _ (by simp) (by rw [List.length_append]; omega) (stay_names hza hdd) (new_once hza.ord hdd.pord) (by simp only [go_sem, ff, List.map_append])) (hk := ?_))
            rintro res h2 n2 ⟨rfl, rfl, rfl⟩
            refine cal2 Ln ?_
            show DW _ _ _ _ _
            refine dw_freezet 12 q5 (rows := (sortS (stayP z d ++ d.put)).map Sgd.d) (off := 0) (len := (stayP z d).length + d.put.length) ev ev (by simp [sortS_len]) nrr_sgd ?_
            rw [List.drop_zero, List.take_of_length_le (by simp [sortS_len])]
            refine stp LnF ?_ (hok := by (try simp only [go_sem, ff]); all_goals (first | done | ((repeat' (with_reducible apply And.intro)) <;> first | exact dcollssA2_ct _ (new_fit hfa hp hlp (by omega)) | (intros; exact dcollssA2_ct _ (new_fit hfa hp hlp (by omega))) | omega | skip)))
            refine dw_seq ?_
            rcases hb : zoneOk (⟨z.apex, sortS (stayP z d ++ d.put)⟩ : Zon) with _ | _
            · skip
              have ff := And.intro @hb ff
              have ff := And.intro (fm_some (sortS (stayP z d ++ d.put))) ff
              refine stp Ln ?_ (hok := by (try simp only [go_sem, ff]); all_goals (first | exact zserial_yes (z := (⟨z.apex, sortS (stayP z d ++ d.put)⟩ : Zon)) hb | exact zserial_no (z := (⟨z.apex, sortS (stayP z d ++ d.put)⟩ : Zon)) hb))
              refine stp Ln ?_
              refine cd (fun c5 => ?_) (fun c5 => ?_) (hq := rfl)
              · skip
                refine stp Ln ?_
                refine dw_ret ?_
                exact fin 3 (hr := by (try simp only [go_sem, ff]); all_goals (rw [applyP, if_neg p1, if_neg p2, if_neg (by omega), if_pos (by show zoneOk (⟨z.apex, sortS (stayP z d ++ d.put)⟩ : Zon) = false ∨ serialOf (⟨z.apex, sortS (stayP z d ++ d.put)⟩ : Zon) ≠ d.too; rw [hb]; grind)]; try rfl))
              · skip
                first | exact c5.elim | (simp at c5; done)
            · skip
              have ff := And.intro @hb ff
              have ff := And.intro (fm_some (sortS (stayP z d ++ d.put))) ff
              refine stp Ln ?_ (hok := by (try simp only [go_sem, ff]); all_goals (first | exact zserial_yes (z := (⟨z.apex, sortS (stayP z d ++ d.put)⟩ : Zon)) hb | exact zserial_no (z := (⟨z.apex, sortS (stayP z d ++ d.put)⟩ : Zon)) hb))
              refine stp Ln ?_
              refine cd (fun c5 => ?_) (fun c5 => ?_)
              · skip
                refine stp Ln ?_
                refine dw_ret ?_
                exact fin 3 (hr := by (try simp only [go_sem, ff]); all_goals (rw [applyP, if_neg p1, if_neg p2, if_neg (by omega), if_pos (by show zoneOk (⟨z.apex, sortS (stayP z d ++ d.put)⟩ : Zon) = false ∨ serialOf (⟨z.apex, sortS (stayP z d ++ d.put)⟩ : Zon) ≠ d.too; rw [hb]; grind)]; try rfl))
              · skip
                refine dw_skip ?_
                show DW _ _ _ _ _
                refine stp Ln ?_
                refine dw_ret ?_
                exact fin 3 (hr := by (try simp only [go_sem, ff]); all_goals (rw [applyP, if_neg p1, if_neg p2, if_neg (by omega), if_neg (by show ¬ (zoneOk (⟨z.apex, sortS (stayP z d ++ d.put)⟩ : Zon) = false ∨ serialOf (⟨z.apex, sortS (stayP z d ++ d.put)⟩ : Zon) ≠ d.too); rw [hb]; grind)]; try rfl))

end Go.Proofs.YtfggmgafjabbjaaDoor
namespace Go.Proofs.YtfggmgafjabbjaaDoor
open Go.DL Go.Str Go.Rec Go.Cmp Go.Zon
set_option maxRecDepth 10000
set_option linter.unusedSimpArgs false
set_option linter.unusedVariables false
def hD : Dlt := ⟨[120], 1, 2, [⟨[119, 46, 120], 1⟩], [⟨⟨[120], 4, 0, [⟨[], 2, 0⟩]⟩, []⟩, ⟨⟨[118, 46, 120], 1, 0, [⟨[], 7, 0⟩]⟩, []⟩]⟩
theorem hx1 : diffP (smallZ 1 [119, 46, 120]) (smallZ 2 [118, 46, 120]) = (hD, 0) := by kernel_rfl
theorem hx2 : applyP (smallZ 1 [119, 46, 120]) hD = (smallZ 2 [118, 46, 120], 0) := by kernel_rfl
theorem hx3 : applyP (smallZ 2 [118, 46, 120]) hD = (zon0, 23) := by kernel_rfl
theorem hx4 : diffP (smallZ 2 [118, 46, 120]) (smallZ 1 [119, 46, 120]) = (dlt0, 23) := by kernel_rfl
theorem hx5 : afterF 65535 = (0, 0) := by kernel_rfl
theorem hx6 : lessF 65535 32766 = (true, 0) := by kernel_rfl
theorem hx7 : lessF 65535 32767 = (false, 0) := by kernel_rfl
theorem hx8 : lessF 0 65536 = (false, 1) := by kernel_rfl
theorem hx9 : sameD hD ⟨[120], 1, 2, [⟨[119, 46, 120], 1⟩], [⟨⟨[120], 4, 0, [⟨[], 2, 0⟩]⟩, []⟩, ⟨⟨[118, 46, 120], 1, 0, [⟨[], 7, 0⟩]⟩, []⟩]⟩ = true := by kernel_rfl
theorem hx10 : sameZ (smallZ 2 [118, 46, 120]) (smallZ 2 [118, 46, 120]) = true := by kernel_rfl
theorem hfit : fitL hD.put := ⟨by decide, by intro k hk; have : k = 0 ∨ k = 1 := (by have : hD.put.length = 2 := rfl; omega); rcases this with e | e <;> subst e <;> exact ⟨by decide, by decide⟩⟩
theorem hfitz : fitL (smallZ 2 [118, 46, 120]).sets := ⟨by decide, by intro k hk; have : k = 0 ∨ k = 1 ∨ k = 2 := (by have : (smallZ 2 [118, 46, 120]).sets.length = 3 := rfl; omega); rcases this with e | e | e <;> subst e <;> exact ⟨by decide, by decide⟩⟩
theorem hg1 : ((smallZ 2 [118, 46, 120]).sets.map Sgd.d).getD 1 [] = [.v (.string (bs [120])), .i 4, .i 0, .list false [[.v (.string (bs [])), .i 2, .i 0]], .list false []] := rfl
theorem hg2 : ((smallZ 2 [118, 46, 120]).sets.map Sgd.d).getD 2 [] = [.v (.string (bs [118, 46, 120])), .i 1, .i 0, .list false [[.v (.string (bs [])), .i 7, .i 0]], .list false []] := rfl
theorem hgl : (smallZ 2 [118, 46, 120]).sets.length = 3 := rfl
theorem hd_1 : PureCt Tryd.prog 54 [.agg (smallZ 1 [119, 46, 120]).d, .agg (smallZ 2 [118, 46, 120]).d] (.tuple [.agg hD.d, .i 0]) := by
  have := ddiff_ct (smallZ 1 [119, 46, 120]) (smallZ 2 [118, 46, 120])
  rwa [hx1] at this
theorem hd_2 : PureCt Tryd.prog 55 [.agg (smallZ 1 [119, 46, 120]).d, .agg hD.d] (.tuple [.agg (smallZ 2 [118, 46, 120]).d, .i 0]) := by
  have := dapply_ct (smallZ 1 [119, 46, 120]) hD hfit
  rwa [hx2] at this
theorem hd_3 : PureCt Tryd.prog 55 [.agg (smallZ 2 [118, 46, 120]).d, .agg hD.d] (.tuple [.agg zon0.d, .i 23]) := by
  have := dapply_ct (smallZ 2 [118, 46, 120]) hD hfit
  rwa [hx3] at this
theorem hd_4 : PureCt Tryd.prog 54 [.agg (smallZ 2 [118, 46, 120]).d, .agg (smallZ 1 [119, 46, 120]).d] (.tuple [.agg dlt0.d, .i 23]) := by
  have := ddiff_ct (smallZ 2 [118, 46, 120]) (smallZ 1 [119, 46, 120])
  rwa [hx4] at this
theorem hd_5 : PureCt Tryd.prog 25 [.i 65535] (.tuple [.i 0, .i 0]) := by
  have := dafter_ct 65535
  rwa [hx5] at this
theorem hd_6 : PureCt Tryd.prog 24 [.i 65535, .i 32766] (.tuple [.b true, .i 0]) := by
  have := dless11_ct 65535 32766
  rwa [hx6] at this
theorem hd_7 : PureCt Tryd.prog 24 [.i 65535, .i 32767] (.tuple [.b false, .i 0]) := by
  have := dless11_ct 65535 32767
  rwa [hx7] at this
theorem hd_8 : PureCt Tryd.prog 24 [.i 0, .i 65536] (.tuple [.b false, .i 1]) := by
  have := dless11_ct 0 65536
  rwa [hx8] at this
theorem bo23 : hasBody Tryd.prog 23 = true := by kernel_rfl
theorem head11_ct  : PureCt Tryd.prog 23 [] (.b true) := by
  refine pure_of_dw Tryd.func23 rfl bo23 (by simp [go_sem, D.nr, nrs, nrr]) (by simp [Tryd.f23]) ?_
  unfold Tryd.f23
  simp only [init_eq]
  have ff := True.intro
  have ff := And.intro @hx1 (And.intro @hx2 (And.intro @hx3 (And.intro @hx4 (And.intro @hx5 (And.intro @hx6 (And.intro @hx7 (And.intro @hx8 (And.intro @hx9 (And.intro @hx10 (And.intro @hgl ff))))))))))
  refine stp Ln ?_
  refine stp Ln ?_ (hok := by (try simp only [go_sem, ff]); all_goals (first | done | ((repeat' (with_reducible apply And.intro)) <;> first | exact small11_ct 1 [119, 46, 120] | (intros; exact small11_ct 1 [119, 46, 120]) | exact small11_ct 2 [118, 46, 120] | (intros; exact small11_ct 2 [118, 46, 120]) | skip)))
  refine stp Ln ?_ (hok := by (try simp only [go_sem, ff]); all_goals (exact hd_1))
  refine stp Ln ?_ (hok := by (try simp only [go_sem, ff]); all_goals (exact hd_2))
  refine stp Ln ?_ (hok := by (try simp only [go_sem, ff]); all_goals (exact hd_3))
  refine stp Ln ?_ (hok := by (try simp only [go_sem, ff]); all_goals (exact hd_4))
  have ff := And.intro @hg1 (And.intro @hg2 ff)
  refine stp Ln ?_
  refine stp Ln ?_ (hok := by (try simp only [go_sem, ff]); all_goals (first | done | ((repeat' (with_reducible apply And.intro)) <;> first | exact (fun _ => rsame11_ct hD ⟨[120], 1, 2, [⟨[119, 46, 120], 1⟩], [⟨⟨[120], 4, 0, [⟨[], 2, 0⟩]⟩, []⟩, ⟨⟨[118, 46, 120], 1, 0, [⟨[], 7, 0⟩]⟩, []⟩]⟩ hfit (by decide)) | (intros; exact (fun _ => rsame11_ct hD ⟨[120], 1, 2, [⟨[119, 46, 120], 1⟩], [⟨⟨[120], 4, 0, [⟨[], 2, 0⟩]⟩, []⟩, ⟨⟨[118, 46, 120], 1, 0, [⟨[], 7, 0⟩]⟩, []⟩]⟩ hfit (by decide))) | exact rsame11_ct hD ⟨[120], 1, 2, [⟨[119, 46, 120], 1⟩], [⟨⟨[120], 4, 0, [⟨[], 2, 0⟩]⟩, []⟩, ⟨⟨[118, 46, 120], 1, 0, [⟨[], 7, 0⟩]⟩, []⟩]⟩ hfit (by decide) | (intros; exact rsame11_ct hD ⟨[120], 1, 2, [⟨[119, 46, 120], 1⟩], [⟨⟨[120], 4, 0, [⟨[], 2, 0⟩]⟩, []⟩, ⟨⟨[118, 46, 120], 1, 0, [⟨[], 7, 0⟩]⟩, []⟩]⟩ hfit (by decide)) | exact rsamez_ct (smallZ 2 [118, 46, 120]) (smallZ 2 [118, 46, 120]) hfitz | (intros; exact rsamez_ct (smallZ 2 [118, 46, 120]) (smallZ 2 [118, 46, 120]) hfitz) | skip)))
  refine stp Ln ?_ (hok := by (try simp only [go_sem, ff]); all_goals (exact hd_5))
  refine stp Ln ?_ (hok := by (try simp only [go_sem, ff]); all_goals (exact hd_6))
  refine stp Ln ?_ (hok := by (try simp only [go_sem, ff]); all_goals (exact hd_7))
  refine stp Ln ?_ (hok := by (try simp only [go_sem, ff]); all_goals (exact hd_8))
  refine stp Ln ?_
  refine dw_ret ?_
  exact fin 0 (hr := by (try simp only [go_sem, ff]); all_goals (first | rfl | kernel_rfl))

end Go.Proofs.YtfggmgafjabbjaaDoor
namespace Go.Proofs.YtfggmgafjabbjaaDoor
open Go.DL Go.Str Go.Rec Go.Cmp Go.Zon
set_option maxRecDepth 10000
set_option linter.unusedSimpArgs false
set_option linter.unusedVariables false
theorem dless_as {a b : Int} {x : Bool} {e : Int} (h : lessF a b = (x, e)) : PureCt Tryd.prog 24 [.i a, .i b] (.tuple [.b x, .i e]) := by
  have := dless11_ct a b
  rwa [h] at this
theorem dafter_as {a : Int} {x : Int} {e : Int} (h : afterF a = (x, e)) : PureCt Tryd.prog 25 [.i a] (.tuple [.i x, .i e]) := by
  have := dafter_ct a
  rwa [h] at this
theorem ser_in {a : Int} (h : 0 ≤ a ∧ a < 65536) : serB a = true := by
  simp only [serB, Bool.and_eq_true, decide_eq_true_eq]; exact h
theorem less_in {a b : Int} (h : 0 ≤ a ∧ a < 65536) (k : 0 ≤ b ∧ b < 65536) : lessF a b = (befB a b, 0) := by
  unfold lessF; rw [ser_in h, ser_in k]; rfl
theorem after_in {a : Int} (h : 0 ≤ a ∧ a < 65536) : afterF a = ((a + 1) % 65536, 0) := by
  unfold afterF; rw [ser_in h]; rfl
theorem bo7 : hasBody Tryd.prog 7 = true := by kernel_rfl
theorem lawSerials_ct (a : Int) (b : Int) (c : Int) (ha : 0 ≤ a ∧ a < 65536) (hb : 0 ≤ b ∧ b < 65536) (hc : 0 ≤ c ∧ c < 65536) : PureCt Tryd.prog 7 [.v (.int .u16 a), .v (.int .u16 b), .v (.int .u16 c)] (.b true) := by
  refine pure_of_dw Tryd.func7 rfl bo7 (by simp [go_sem, D.nr, nrs, nrr]) (by simp [Tryd.f7]) ?_
  unfold Tryd.f7
  simp only [init_eq]
  have ff := True.intro
  have e1 := less_in ha hb
  have e2 := less_in hb ha
  have e3 := after_in ha
  have e4 : lessF a ((a + 1) % 65536) = (true, 0) := by rw [less_in ha (by omega)]; rw [show befB a ((a + 1) % 65536) = true from by simp only [befB, Bool.and_eq_true, decide_eq_true_eq]; omega]
  have e5 := less_in (b := (a + c) % 65536) ha (by omega)
  have w1 : IntKind.i64.wrap a = a := by rw [IntKind.wrap_i64]; omega
  have w2 : IntKind.i64.wrap b = b := by rw [IntKind.wrap_i64]; omega
  have w3 : IntKind.i64.wrap c = c := by rw [IntKind.wrap_i64]; omega
  have w4 : IntKind.u16.wrap (a - b) = (a - b) % 65536 := by first | rw [IntKind.wrap_u16] | (simp [IntKind.wrap, IntKind.bits, IntKind.signed])
  have q3 : befB a ((a + c) % 65536) = (decide (1 ≤ c) && decide (c ≤ 32767)) := by rw [Bool.eq_iff_iff]; simp only [befB, Bool.and_eq_true, decide_eq_true_eq]; omega
  have e6 : lessF a ((a + c) % 65536) = (decide (1 ≤ c) && decide (c ≤ 32767), 0) := by rw [e5, q3]
  have ff := And.intro @e1 (And.intro @e2 (And.intro @e3 (And.intro @e4 (And.intro @e5 (And.intro @w1 (And.intro @w2 (And.intro @w3 (And.intro @w4 (And.intro @q3 ff)))))))))
  refine stp Ln ?_
  refine stp Ln ?_ (hok := by (try simp only [go_sem, ff]); all_goals (exact head11_ct))
  refine stp Ln ?_ (hok := by (try simp only [go_sem, ff]); all_goals (exact dless_as e1))
  refine stp Ln ?_ (hok := by (try simp only [go_sem, ff]); all_goals (exact dless_as e2))
  refine stp Ln ?_ (hok := by (try simp only [go_sem, ff]); all_goals (exact dafter_as e3))
  refine stp Ln ?_ (hok := by (try simp only [go_sem, ff]); all_goals (exact dless_as e4))
  refine stp Ln ?_ (hok := by (try simp only [go_sem, ff]); all_goals (first | done | ((repeat' (with_reducible apply And.intro)) <;> first | exact dless_as e6 | (intros; exact dless_as e6) | exact dless_as e5 | (intros; exact dless_as e5) | omega | (constructor <;> omega) | skip)))
  refine dw_seq ?_
  refine stp Ln ?_
  refine cd (fun c1 => ?_) (fun c1 => ?_) (hp := rfl)
  · skip
    first | exact c1.elim | (simp at c1; done)
  · skip
    refine dw_skip ?_
    show DW _ _ _ _ _
    refine dw_seq ?_
    refine stp Ln ?_
    refine cd (fun c2 => ?_) (fun c2 => ?_)
    · skip
      have q1 : befB a b = false := by simp only [befB, Bool.and_eq_false_iff, decide_eq_false_iff_not]; omega
      have q2 : befB b a = false := by simp only [befB, Bool.and_eq_false_iff, decide_eq_false_iff_not]; omega
      refine stp Ln ?_
      refine dw_ret ?_
      exact fin 0 (hr := by (try simp only [go_sem, ff]); all_goals (simp [q1, q2, q3]))
    · skip
      have q4 : befB a b = !befB b a := by rw [Bool.eq_iff_iff]; simp only [befB, Bool.and_eq_true, decide_eq_true_eq, Bool.not_eq_true', Bool.and_eq_false_iff, decide_eq_false_iff_not]; omega
      refine dw_skip ?_
      show DW _ _ _ _ _
      refine stp Ln ?_
      refine dw_ret ?_
      exact fin 0 (hr := by (try simp only [go_sem, ff]); all_goals (simp [q4, q3]))

end Go.Proofs.YtfggmgafjabbjaaDoor
