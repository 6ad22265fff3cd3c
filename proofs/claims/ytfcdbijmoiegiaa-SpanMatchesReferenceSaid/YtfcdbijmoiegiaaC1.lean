/-
  PROVED: the given statement SpanMatchesReferenceSaid: for every input the law SpanMatchesReference answers true, and leaves its arguments as they were. Conditions: none.
-/
import Derived.Test.YtfcdbijmoiegiaaRows
import Derived.Test.YtfcdbijmoiegiaaSpanW6
import Derived.Test.YtfcdbijmoiegiaaSpanSh
import Derived.JoinedOf
import Derived.Handed
namespace Go.Proofs.Ytfcdbijmoiegiaa
open Go.DL Go.Span Go.ChangeShapes Go.WideShapes Go.RowKit

theorem law3_own : ownKnob Try.prog.godebug = none := by kernel_rfl
theorem law3_args (xs : List D) (h : ShArgs Try.prog Try.f3.params.toList xs) : PureCt Try.prog 3 xs (.b true) := by
  rw [Try.params3] at h
  obtain ⟨x0, ys0, rfl, s0, h⟩ := h
  obtain ⟨x1, ys1, rfl, s1, h⟩ := h
  obtain ⟨x2, ys2, rfl, s2, h⟩ := h
  obtain ⟨x3, ys3, rfl, s3, h⟩ := h
  obtain ⟨x4, ys4, rfl, s4, h⟩ := h
  obtain rfl := h
  obtain ⟨a, rfl⟩ := sv_sps s0
  obtain ⟨b, rfl⟩ := sv_sps s1
  obtain ⟨n, rfl, _⟩ := sv_int s2
  obtain ⟨m, rfl, _⟩ := sv_int s3
  obtain ⟨t, rfl, _⟩ := sv_int s4
  exact lawRef_ct a b n m t
set_option maxRecDepth 100000 in
theorem law3_lifted (os : Os) (started : os.Started) (H : Type) (enc : TypeId × Value → H) :
    ReturnsInHanded {} Try.checked os 3 .any (Rows.spanMatchesReferenceSpec.pre6 enc Try.prog Try.f3 Rows.spanMatchesReferenceRow.domain false) (Rows.spanMatchesReferenceSpec.post enc Try.prog Try.f3 false true false false) := by
  refine returnsInHanded_of_change (C := Try.checked) law3_own started (by kernel_rfl) Try.func3
    (ChangeSpec.witness6 (C := Try.checked) (fn := Try.f3) (s := Rows.spanMatchesReferenceSpec) false ⟨#[], #[.slice none 0 0, .slice none 0 0, .int .i64 0, .int .i64 0, .int .i64 0], []⟩ 8 (by kernel_rfl) (by kernel_rfl) (by kernel_rfl) (by kernel_rfl)) ?_
  intro W base args ds gs before hval hW _ _
  refine law_contract (P := Try.prog) (f := 3) (fn := Try.f3) (tb := 4) (by kernel_rfl) rfl rfl Try.underlying4 (by kernel_rfl) (fun ds hd => ?_) law3_args W base args ds gs before hval hW
  rw [Try.params3] at hd
  match ds, hd with
  | [d0, d1, d2, d3, d4], _ => rfl
/-- THE STATEMENT. -/
theorem spanMatchesReference_holds : Rows.SpanMatchesReferenceSaid :=
  OpenClaim.holds_of_wide 3 Try.f3 rfl rfl rfl rfl rfl rfl rfl ⟨rfl, rfl, rfl, rfl, rfl⟩ rfl rfl rfl rfl rfl (by kernel_rfl) Try.func3 (by kernel_rfl)
    (of_decide_eq_true (by kernel_rfl)) (by unfold Func.isWrapper; first | (rw [if_pos (by decide +kernel)]; kernel_rfl) | (rw [if_neg (by decide +kernel)]; exact ⟨rfl, rfl⟩))
    (fun os started H enc _ => law3_lifted os started H enc)
end Go.Proofs.Ytfcdbijmoiegiaa
