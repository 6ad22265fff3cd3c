import Derived.Test.YtfggmgafjabbjaaDoorLwW2
namespace Go.Proofs.YtfggmgafjabbjaaDoor
open Go.DL Go.Str Go.Rec Go.Cmp Go.RowKit
set_option maxRecDepth 10000
set_option linter.unusedSimpArgs false
set_option linter.unusedVariables false
theorem bo5 : hasBody Tryd.prog 5 = true := by kernel_rfl
theorem lawOrder_ct (a : RSet) (b : RSet) (c : RSet) : PureCt Tryd.prog 5 [.agg a.d, .agg b.d, .agg c.d] (.b true) := by
  refine pure_of_dw Tryd.func5 rfl bo5 (by simp [go_sem, D.nr, nrs, nrr]) (by simp [Tryd.f5]) ?_
  unfold Tryd.f5
  simp only [init_eq]
  refine dw_step (C := Ln) (by simp only [go_sem]; exact rfl) (fun h => by cases h) ?_ ?_
  · try simp only [go_sem]
    all_goals (first | done | ((repeat' (with_reducible apply And.intro)) <;> (intros; first | done | exact head02_ct | exact rrvalid_ct a | exact rrvalid_ct b | exact rrvalid_ct c | exact (rccmp_ct a b).as rfl (by rw [show cmpF a b = (plc a b, 0) from o1]) | exact (rccmp_ct b a).as rfl (by rw [show cmpF b a = (plc b a, 0) from o2]) | exact (rccmp_ct b c).as rfl (by rw [show cmpF b c = (plc b c, 0) from o3]) | exact (rccmp_ct a c).as rfl (by rw [show cmpF a c = (plc a c, 0) from o4]) | omega | (simp_all; done))))
  refine dw_step (C := Ln) (by simp only [go_sem]; exact rfl) (fun h => by cases h) ?_ ?_
  · try simp only [go_sem]
    all_goals (first | done | ((repeat' (with_reducible apply And.intro)) <;> (intros; first | done | exact head02_ct | exact rrvalid_ct a | exact rrvalid_ct b | exact rrvalid_ct c | exact (rccmp_ct a b).as rfl (by rw [show cmpF a b = (plc a b, 0) from o1]) | exact (rccmp_ct b a).as rfl (by rw [show cmpF b a = (plc b a, 0) from o2]) | exact (rccmp_ct b c).as rfl (by rw [show cmpF b c = (plc b c, 0) from o3]) | exact (rccmp_ct a c).as rfl (by rw [show cmpF a c = (plc a c, 0) from o4]) | omega | (simp_all; done))))
  refine dw_seq ?_
  refine dw_step (C := Ln) (by simp only [go_sem]; exact rfl) (fun h => by cases h) ?_ ?_
  · try simp only [go_sem]
    all_goals (first | done | ((repeat' (with_reducible apply And.intro)) <;> (intros; first | done | exact head02_ct | exact rrvalid_ct a | exact rrvalid_ct b | exact rrvalid_ct c | exact (rccmp_ct a b).as rfl (by rw [show cmpF a b = (plc a b, 0) from o1]) | exact (rccmp_ct b a).as rfl (by rw [show cmpF b a = (plc b a, 0) from o2]) | exact (rccmp_ct b c).as rfl (by rw [show cmpF b c = (plc b c, 0) from o3]) | exact (rccmp_ct a c).as rfl (by rw [show cmpF a c = (plc a c, 0) from o4]) | omega | (simp_all; done))))
  refine dw_cond (by simp only [go_sem]; exact rfl) (fun c1 => ?_) (fun c1 => ?_)
  · skip
    skip
    refine dw_step (C := Ln) (by simp only [go_sem]; exact rfl) (fun h => by cases h) ?_ ?_
    · try simp only [go_sem]
      all_goals (first | done | ((repeat' (with_reducible apply And.intro)) <;> (intros; first | done | exact head02_ct | exact rrvalid_ct a | exact rrvalid_ct b | exact rrvalid_ct c | exact (rccmp_ct a b).as rfl (by rw [show cmpF a b = (plc a b, 0) from o1]) | exact (rccmp_ct b a).as rfl (by rw [show cmpF b a = (plc b a, 0) from o2]) | exact (rccmp_ct b c).as rfl (by rw [show cmpF b c = (plc b c, 0) from o3]) | exact (rccmp_ct a c).as rfl (by rw [show cmpF a c = (plc a c, 0) from o4]) | omega | (simp_all; done))))
    refine dw_ret ?_
    refine ⟨(by first | exact .inr rfl | trivial | simp), ?_, ?_⟩
    · simp only [go_sem]
    refine ⟨0, ?_, ?_⟩
    · try simp only [go_sem]
      all_goals (simp)
    · try simp only [go_sem]
      all_goals (first | rfl | (rw [e1, e2, e3]; rfl))
  · skip
    have hq : (setOk a = true ∧ setOk b = true) ∧ setOk c = true := by simpa using c1
    obtain ⟨⟨ha, hb⟩, hc⟩ := hq
    have o1 : cmpF ⟨a.name, a.ty, a.life, a.data⟩ ⟨b.name, b.ty, b.life, b.data⟩ = (plc a b, 0) := by show cmpF a b = _; unfold cmpF; rw [ha, hb]; rfl
    have o2 : cmpF ⟨b.name, b.ty, b.life, b.data⟩ ⟨a.name, a.ty, a.life, a.data⟩ = (plc b a, 0) := by show cmpF b a = _; unfold cmpF; rw [ha, hb]; rfl
    have o3 : cmpF ⟨b.name, b.ty, b.life, b.data⟩ ⟨c.name, c.ty, c.life, c.data⟩ = (plc b c, 0) := by show cmpF b c = _; unfold cmpF; rw [hb, hc]; rfl
    have o4 : cmpF ⟨a.name, a.ty, a.life, a.data⟩ ⟨c.name, c.ty, c.life, c.data⟩ = (plc a c, 0) := by show cmpF a c = _; unfold cmpF; rw [ha, hc]; rfl
    have b1 := cm_pl.lo a b
    have b2 := cm_pl.hi a b
    have b3 := cm_pl.lo b a
    have b4 := cm_pl.hi b a
    have h1 := cm_pl.anti a b
    have h2 := @plc_eq a b
    have h3 := cm_pl.tr a b c
    refine dw_skip ?_
    show DW _ _ _ _ _
    refine dw_step (C := Ln) (by simp only [go_sem, o1, o2, o3, o4, bne_self_eq_false, Bool.false_or]; exact rfl) (fun h => by cases h) ?_ ?_
    · try simp only [go_sem, o1, o2, o3, o4, bne_self_eq_false, Bool.false_or]
      all_goals (first | done | ((repeat' (with_reducible apply And.intro)) <;> (intros; first | done | exact head02_ct | exact rrvalid_ct a | exact rrvalid_ct b | exact rrvalid_ct c | exact (rccmp_ct a b).as rfl (by rw [show cmpF a b = (plc a b, 0) from o1]) | exact (rccmp_ct b a).as rfl (by rw [show cmpF b a = (plc b a, 0) from o2]) | exact (rccmp_ct b c).as rfl (by rw [show cmpF b c = (plc b c, 0) from o3]) | exact (rccmp_ct a c).as rfl (by rw [show cmpF a c = (plc a c, 0) from o4]) | omega | (simp_all; done))))
    refine dw_step (C := Ln) (by simp only [go_sem, o1, o2, o3, o4, bne_self_eq_false, Bool.false_or]; exact rfl) (fun h => by cases h) ?_ ?_
    · try simp only [go_sem, o1, o2, o3, o4, bne_self_eq_false, Bool.false_or]
      all_goals (first | done | ((repeat' (with_reducible apply And.intro)) <;> (intros; first | done | exact head02_ct | exact rrvalid_ct a | exact rrvalid_ct b | exact rrvalid_ct c | exact (rccmp_ct a b).as rfl (by rw [show cmpF a b = (plc a b, 0) from o1]) | exact (rccmp_ct b a).as rfl (by rw [show cmpF b a = (plc b a, 0) from o2]) | exact (rccmp_ct b c).as rfl (by rw [show cmpF b c = (plc b c, 0) from o3]) | exact (rccmp_ct a c).as rfl (by rw [show cmpF a c = (plc a c, 0) from o4]) | omega | (simp_all; done))))
    refine dw_step (C := Ln) (by simp only [go_sem, o1, o2, o3, o4, bne_self_eq_false, Bool.false_or]; exact rfl) (fun h => by cases h) ?_ ?_
    · try simp only [go_sem, o1, o2, o3, o4, bne_self_eq_false, Bool.false_or]
      all_goals (first | done | ((repeat' (with_reducible apply And.intro)) <;> (intros; first | done | exact head02_ct | exact rrvalid_ct a | exact rrvalid_ct b | exact rrvalid_ct c | exact (rccmp_ct a b).as rfl (by rw [show cmpF a b = (plc a b, 0) from o1]) | exact (rccmp_ct b a).as rfl (by rw [show cmpF b a = (plc b a, 0) from o2]) | exact (rccmp_ct b c).as rfl (by rw [show cmpF b c = (plc b c, 0) from o3]) | exact (rccmp_ct a c).as rfl (by rw [show cmpF a c = (plc a c, 0) from o4]) | omega | (simp_all; done))))
    refine dw_step (C := Ln) (by simp only [go_sem, o1, o2, o3, o4, bne_self_eq_false, Bool.false_or]; exact rfl) (fun h => by cases h) ?_ ?_
    · try simp only [go_sem, o1, o2, o3, o4, bne_self_eq_false, Bool.false_or]
      all_goals (first | done | ((repeat' (with_reducible apply And.intro)) <;> (intros; first | done | exact head02_ct | exact rrvalid_ct a | exact rrvalid_ct b | exact rrvalid_ct c | exact (rccmp_ct a b).as rfl (by rw [show cmpF a b = (plc a b, 0) from o1]) | exact (rccmp_ct b a).as rfl (by rw [show cmpF b a = (plc b a, 0) from o2]) | exact (rccmp_ct b c).as rfl (by rw [show cmpF b c = (plc b c, 0) from o3]) | exact (rccmp_ct a c).as rfl (by rw [show cmpF a c = (plc a c, 0) from o4]) | omega | (simp_all; done))))
    refine dw_seq ?_
    refine dw_step (C := Ln) (by simp only [go_sem, o1, o2, o3, o4, bne_self_eq_false, Bool.false_or]; exact rfl) (fun h => by cases h) ?_ ?_
    · try simp only [go_sem, o1, o2, o3, o4, bne_self_eq_false, Bool.false_or]
      all_goals (first | done | ((repeat' (with_reducible apply And.intro)) <;> (intros; first | done | exact head02_ct | exact rrvalid_ct a | exact rrvalid_ct b | exact rrvalid_ct c | exact (rccmp_ct a b).as rfl (by rw [show cmpF a b = (plc a b, 0) from o1]) | exact (rccmp_ct b a).as rfl (by rw [show cmpF b a = (plc b a, 0) from o2]) | exact (rccmp_ct b c).as rfl (by rw [show cmpF b c = (plc b c, 0) from o3]) | exact (rccmp_ct a c).as rfl (by rw [show cmpF a c = (plc a c, 0) from o4]) | omega | (simp_all; done))))
    refine dw_cond (by simp only [go_sem, o1, o2, o3, o4, bne_self_eq_false, Bool.false_or]; exact rfl) (fun c2 => ?_) (fun c2 => ?_)
    · skip
      try simp only [decide_eq_true_eq, decide_eq_false_iff_not, Bool.or_eq_true, Bool.and_eq_true, Bool.or_eq_false_iff, Bool.not_eq_true', Bool.not_eq_false', Bool.and_eq_false_iff, beq_iff_eq, beq_eq_false_iff_ne, bne_iff_ne, bne_eq_false_iff_eq, ne_eq] at c2
      exfalso; rcases c2 with c2 | c2 <;> omega
    · skip
      have e1 : (plc a b == -plc b a) = true := by rw [h1]; simp
      have e2 : ((plc a b == 0) == (a.name == b.name && a.ty == b.ty)) = true := by rw [beq_iff_eq, Bool.eq_iff_iff, Bool.and_eq_true, beq_iff_eq, beq_iff_eq, beq_iff_eq]; exact h2
      have e3 : (decide (0 < plc a b) || decide (0 < plc b c) || decide (plc a c ≤ 0)) = true := by rw [Bool.or_eq_true, Bool.or_eq_true, decide_eq_true_eq, decide_eq_true_eq, decide_eq_true_eq]; omega
      refine dw_skip ?_
      show DW _ _ _ _ _
      refine dw_step (C := Ln) (by simp only [go_sem, o1, o2, o3, o4, bne_self_eq_false, Bool.false_or]; exact rfl) (fun h => by cases h) ?_ ?_
      · try simp only [go_sem, o1, o2, o3, o4, bne_self_eq_false, Bool.false_or]
        all_goals (first | done | ((repeat' (with_reducible apply And.intro)) <;> (intros; first | done | exact head02_ct | exact rrvalid_ct a | exact rrvalid_ct b | exact rrvalid_ct c | exact (rccmp_ct a b).as rfl (by rw [show cmpF a b = (plc a b, 0) from o1]) | exact (rccmp_ct b a).as rfl (by rw [show cmpF b a = (plc b a, 0) from o2]) | exact (rccmp_ct b c).as rfl (by rw [show cmpF b c = (plc b c, 0) from o3]) | exact (rccmp_ct a c).as rfl (by rw [show cmpF a c = (plc a c, 0) from o4]) | omega | (simp_all; done))))
      refine dw_ret ?_
      refine ⟨(by first | exact .inr rfl | trivial | simp), ?_, ?_⟩
      · simp only [go_sem, o1, o2, o3, o4, bne_self_eq_false, Bool.false_or]
      refine ⟨0, ?_, ?_⟩
      · try simp only [go_sem, o1, o2, o3, o4, bne_self_eq_false, Bool.false_or]
        all_goals (simp)
      · try simp only [go_sem, o1, o2, o3, o4, bne_self_eq_false, Bool.false_or]
        all_goals (first | rfl | (rw [e1, e2, e3]; rfl))

end Go.Proofs.YtfggmgafjabbjaaDoor
