import Derived.Test.YtfggmgafjabbjaaDoorNmW2
namespace Go.Proofs.YtfggmgafjabbjaaDoor
open Go.DL Go.Str Go.RowKit
set_option maxRecDepth 10000
set_option linter.unusedSimpArgs false
set_option linter.unusedVariables false
def cmpRen : Go.Shelf.Ren := { f := fun x => match x with | 213 => 116 | 265 => 148 | n => n, t := fun x => match x with | 3 => 3 | 9 => 9 | n => n, g := fun n => n }
theorem cmpLays : Go.Proofs.Lays.n213 Tryd.prog cmpRen := {
  mixed := mix
  f213 := Tryd.func116.trans (by kernel_rfl)
  f265 := Tryd.func148.trans (by kernel_rfl)
  t3 := Tryd.underlying3
  a3 := Tryd.isAgg3
  z3 := Tryd.sizeOf3
  v3 := Tryd.zeroValue3
  t9 := Tryd.underlying9
  a9 := Tryd.isAgg9
  z9 := Tryd.sizeOf9
  v9 := Tryd.zeroValue9 }
theorem cmpS0_ct (a b : Str) : PureCt Tryd.prog 116 [.v (.string (bs a)), .v (.string (bs b))] (.i (Go.Lib.compareBytes a b)) := by
  refine ⟨by kernel_rfl, by simp [D.nr], fun w I vs hI hg hr => ?_⟩
  obtain ⟨x, l, rfl, h1, h2⟩ := hr.of_cons
  obtain ⟨y, l, rfl, h3, h4⟩ := h2.of_cons
  rw [h4.of_nil, h1.v_inv, h3.v_inv]
  have := Go.Proofs.Any.bytealg_CompareString cmpLays (bs a) (bs b) w
  refine callsIn_wide.2 (this.mono ?_)
  rintro e w' ⟨rfl, rfl⟩
  refine ⟨_, rfl, ⟨rfl, rfl, rfl, Nat.le_refl _, Nat.le_refl _, fun _ _ => rfl⟩, ?_⟩
  rw [bs_data, bs_data]
  exact .v _
theorem bo93 : hasBody Tryd.prog 93 = true := by kernel_rfl
theorem cmpS1_ct (a : Str) (b : Str) : PureCt Tryd.prog 93 [.v (.string (bs a)), .v (.string (bs b))] (.i (Go.Lib.compareBytes a b)) := by
  refine pure_of_dw Tryd.func93 rfl bo93 (by simp [go_sem, D.nr, nrs, nrr]) (by simp [Tryd.f93]) ?_
  unfold Tryd.f93
  simp only [init_eq]
  refine dw_step (C := Cn) (by simp only [go_sem]; exact rfl) (fun h => by cases h) ?_ ?_
  · try simp only [go_sem]
    all_goals (first | done | (repeat' (with_reducible apply And.intro)) <;> first | omega | (with_reducible assumption) | (intros; omega) | (intros; simp only [decide_eq_true_eq, decide_eq_false_iff_not, Bool.or_eq_true, Bool.and_eq_true, Bool.or_eq_false_iff, Bool.not_eq_true', Bool.not_eq_false'] at *; omega) | (simp_all; done) | (simp_all; omega))
  refine dw_step (C := Cn) (by simp only [go_sem]; exact rfl) (fun h => by cases h) ?_ ?_
  · try simp only [go_sem]
    all_goals (exact cmpS0_ct _ _)
  refine dw_ret ?_
  refine ⟨(by first | exact .inr rfl | trivial | simp), ?_, ?_⟩
  · simp only [go_sem]
  refine ⟨0, ?_, ?_⟩
  · try simp only [go_sem]
    all_goals (simp)
  · try simp only [go_sem]
    all_goals (rfl)

end Go.Proofs.YtfggmgafjabbjaaDoor
