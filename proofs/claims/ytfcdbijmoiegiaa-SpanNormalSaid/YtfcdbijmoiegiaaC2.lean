/-
  PROVED: the given statement SpanNormalSaid: for every input the law SpanNormal answers true, and leaves its arguments as they were. Conditions: none.
-/
import Derived.Test.YtfcdbijmoiegiaaRows
import Derived.Test.YtfcdbijmoiegiaaSpanLNormal
import Derived.Test.YtfcdbijmoiegiaaSpanSh
import Derived.JoinedOf
import Derived.Handed
namespace Go.Proofs.Ytfcdbijmoiegiaa
open Go.DL Go.Span Go.ChangeShapes Go.WideShapes Go.RowKit

theorem law4_own : ownKnob Try.prog.godebug = none := by kernel_rfl
theorem law4_args (xs : List D) (h : ShArgs Try.prog Try.f4.params.toList xs) : PureCt Try.prog 4 xs (.b true) := by
  rw [Try.params4] at h
  obtain ⟨x0, ys0, rfl, s0, h⟩ := h
  obtain ⟨x1, ys1, rfl, s1, h⟩ := h
  obtain rfl := h
  obtain ⟨l, rfl⟩ := sv_sps s0
  obtain ⟨t, rfl, _⟩ := sv_int s1
  exact lawNormal_ct l t
set_option maxRecDepth 100000 in
theorem law4_lifted (os : Os) (started : os.Started) (H : Type) (enc : TypeId × Value → H) :
    ReturnsInHanded {} Try.checked os 4 .any (Rows.spanNormalSpec.pre6 enc Try.prog Try.f4 Rows.spanNormalRow.domain false) (Rows.spanNormalSpec.post enc Try.prog Try.f4 false true false false) := by
  refine returnsInHanded_of_change (C := Try.checked) law4_own started (by kernel_rfl) Try.func4
    (ChangeSpec.witness6 (C := Try.checked) (fn := Try.f4) (s := Rows.spanNormalSpec) false ⟨#[], #[.slice none 0 0, .int .i64 0], []⟩ 8 (by kernel_rfl) (by kernel_rfl) (by kernel_rfl) (by kernel_rfl)) ?_
  intro W base args ds gs before hval hW _ _
  refine law_contract (P := Try.prog) (f := 4) (fn := Try.f4) (tb := 4) (by kernel_rfl) rfl rfl Try.underlying4 (by kernel_rfl) (fun ds hd => ?_) law4_args W base args ds gs before hval hW
  rw [Try.params4] at hd
  match ds, hd with
  | [d0, d1], _ => rfl
/-- THE STATEMENT. -/
theorem spanNormal_holds : Rows.SpanNormalSaid :=
  OpenClaim.holds_of_wide 4 Try.f4 rfl rfl rfl rfl rfl rfl rfl ⟨rfl, rfl, rfl, rfl, rfl⟩ rfl rfl rfl rfl rfl (by kernel_rfl) Try.func4 (by kernel_rfl)
    (of_decide_eq_true (by kernel_rfl)) (by unfold Func.isWrapper; first | (rw [if_pos (by decide +kernel)]; kernel_rfl) | (rw [if_neg (by decide +kernel)]; exact ⟨rfl, rfl⟩))
    (fun os started H enc _ => law4_lifted os started H enc)
end Go.Proofs.Ytfcdbijmoiegiaa
