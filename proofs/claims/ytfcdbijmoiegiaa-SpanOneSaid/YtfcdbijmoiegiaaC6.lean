/-
  PROVED: the given statement SpanOneSaid: for every input the law SpanOne answers true, and leaves its arguments as they were. Conditions: none.
-/
import Derived.Test.YtfcdbijmoiegiaaRows
import Derived.Test.YtfcdbijmoiegiaaSpanLOne
import Derived.Test.YtfcdbijmoiegiaaSpanSh
import Derived.JoinedOf
import Derived.Handed
namespace Go.Proofs.Ytfcdbijmoiegiaa
open Go.DL Go.Span Go.ChangeShapes Go.WideShapes Go.RowKit

theorem law8_own : ownKnob Try.prog.godebug = none := by kernel_rfl
theorem law8_args (xs : List D) (h : ShArgs Try.prog Try.f8.params.toList xs) : PureCt Try.prog 8 xs (.b true) := by
  rw [Try.params8] at h
  obtain ⟨x0, ys0, rfl, s0, h⟩ := h
  obtain ⟨x1, ys1, rfl, s1, h⟩ := h
  obtain rfl := h
  obtain ⟨a, rfl⟩ := sv_sps s0
  obtain ⟨b, rfl⟩ := sv_sps s1
  exact lawOne_ct a b
set_option maxRecDepth 100000 in
theorem law8_lifted (os : Os) (started : os.Started) (H : Type) (enc : TypeId × Value → H) :
    ReturnsInHanded {} Try.checked os 8 .any (Rows.spanOneSpec.pre6 enc Try.prog Try.f8 Rows.spanOneRow.domain false) (Rows.spanOneSpec.post enc Try.prog Try.f8 false true false false) := by
  refine returnsInHanded_of_change (C := Try.checked) law8_own started (by kernel_rfl) Try.func8
    (ChangeSpec.witness6 (C := Try.checked) (fn := Try.f8) (s := Rows.spanOneSpec) false ⟨#[], #[.slice none 0 0, .slice none 0 0], []⟩ 8 (by kernel_rfl) (by kernel_rfl) (by kernel_rfl) (by kernel_rfl)) ?_
  intro W base args ds gs before hval hW _ _
  refine law_contract (P := Try.prog) (f := 8) (fn := Try.f8) (tb := 4) (by kernel_rfl) rfl rfl Try.underlying4 (by kernel_rfl) (fun ds hd => ?_) law8_args W base args ds gs before hval hW
  rw [Try.params8] at hd
  match ds, hd with
  | [d0, d1], _ => rfl
/-- THE STATEMENT. -/
theorem spanOne_holds : Rows.SpanOneSaid :=
  OpenClaim.holds_of_wide 8 Try.f8 rfl rfl rfl rfl rfl rfl rfl ⟨rfl, rfl, rfl, rfl, rfl⟩ rfl rfl rfl rfl rfl (by kernel_rfl) Try.func8 (by kernel_rfl)
    (of_decide_eq_true (by kernel_rfl)) (by unfold Func.isWrapper; first | (rw [if_pos (by decide +kernel)]; kernel_rfl) | (rw [if_neg (by decide +kernel)]; exact ⟨rfl, rfl⟩))
    (fun os started H enc _ => law8_lifted os started H enc)
end Go.Proofs.Ytfcdbijmoiegiaa
