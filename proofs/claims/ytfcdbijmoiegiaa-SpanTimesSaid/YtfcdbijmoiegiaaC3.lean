/-
  PROVED: the given statement SpanTimesSaid: for every input the law SpanTimes answers true, and leaves its arguments as they were. Conditions: none.
-/
import Derived.Test.YtfcdbijmoiegiaaRows
import Derived.Test.YtfcdbijmoiegiaaSpanLTimes
import Derived.Test.YtfcdbijmoiegiaaSpanSh
import Derived.JoinedOf
import Derived.Handed
namespace Go.Proofs.Ytfcdbijmoiegiaa
open Go.DL Go.Span Go.ChangeShapes Go.WideShapes Go.RowKit

theorem law5_own : ownKnob Try.prog.godebug = none := by kernel_rfl
theorem law5_args (xs : List D) (h : ShArgs Try.prog Try.f5.params.toList xs) : PureCt Try.prog 5 xs (.b true) := by
  rw [Try.params5] at h
  obtain ⟨x0, ys0, rfl, s0, h⟩ := h
  obtain ⟨x1, ys1, rfl, s1, h⟩ := h
  obtain ⟨x2, ys2, rfl, s2, h⟩ := h
  obtain rfl := h
  obtain ⟨a, rfl⟩ := sv_sps s0
  obtain ⟨b, rfl⟩ := sv_sps s1
  obtain ⟨t, rfl, _⟩ := sv_int s2
  exact lawTimes_ct a b t
set_option maxRecDepth 100000 in
theorem law5_lifted (os : Os) (started : os.Started) (H : Type) (enc : TypeId × Value → H) :
    ReturnsInHanded {} Try.checked os 5 .any (Rows.spanTimesSpec.pre6 enc Try.prog Try.f5 Rows.spanTimesRow.domain false) (Rows.spanTimesSpec.post enc Try.prog Try.f5 false true false false) := by
  refine returnsInHanded_of_change (C := Try.checked) law5_own started (by kernel_rfl) Try.func5
    (ChangeSpec.witness6 (C := Try.checked) (fn := Try.f5) (s := Rows.spanTimesSpec) false ⟨#[], #[.slice none 0 0, .slice none 0 0, .int .i64 0], []⟩ 8 (by kernel_rfl) (by kernel_rfl) (by kernel_rfl) (by kernel_rfl)) ?_
  intro W base args ds gs before hval hW _ _
  refine law_contract (P := Try.prog) (f := 5) (fn := Try.f5) (tb := 4) (by kernel_rfl) rfl rfl Try.underlying4 (by kernel_rfl) (fun ds hd => ?_) law5_args W base args ds gs before hval hW
  rw [Try.params5] at hd
  match ds, hd with
  | [d0, d1, d2], _ => rfl
/-- THE STATEMENT. -/
theorem spanTimes_holds : Rows.SpanTimesSaid :=
  OpenClaim.holds_of_wide 5 Try.f5 rfl rfl rfl rfl rfl rfl rfl ⟨rfl, rfl, rfl, rfl, rfl⟩ rfl rfl rfl rfl rfl (by kernel_rfl) Try.func5 (by kernel_rfl)
    (of_decide_eq_true (by kernel_rfl)) (by unfold Func.isWrapper; first | (rw [if_pos (by decide +kernel)]; kernel_rfl) | (rw [if_neg (by decide +kernel)]; exact ⟨rfl, rfl⟩))
    (fun os started H enc _ => law5_lifted os started H enc)
end Go.Proofs.Ytfcdbijmoiegiaa
