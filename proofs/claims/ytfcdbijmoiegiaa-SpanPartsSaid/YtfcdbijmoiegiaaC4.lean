/-
  PROVED: the given statement SpanPartsSaid: for every input the law SpanParts answers true, and leaves its arguments as they were. Conditions: none.
-/
import Derived.Test.YtfcdbijmoiegiaaRows
import Derived.Test.YtfcdbijmoiegiaaSpanLParts
import Derived.Test.YtfcdbijmoiegiaaSpanSh
import Derived.JoinedOf
import Derived.Handed
namespace Go.Proofs.Ytfcdbijmoiegiaa
open Go.DL Go.Span Go.ChangeShapes Go.WideShapes Go.RowKit

theorem law6_own : ownKnob Try.prog.godebug = none := by kernel_rfl
theorem law6_args (xs : List D) (h : ShArgs Try.prog Try.f6.params.toList xs) : PureCt Try.prog 6 xs (.b true) := by
  rw [Try.params6] at h
  obtain ⟨x0, ys0, rfl, s0, h⟩ := h
  obtain ⟨x1, ys1, rfl, s1, h⟩ := h
  obtain ⟨x2, ys2, rfl, s2, h⟩ := h
  obtain rfl := h
  obtain ⟨a, rfl⟩ := sv_sps s0
  obtain ⟨b, rfl⟩ := sv_sps s1
  obtain ⟨c, rfl⟩ := sv_sps s2
  exact lawParts_ct a b c
set_option maxRecDepth 100000 in
theorem law6_lifted (os : Os) (started : os.Started) (H : Type) (enc : TypeId × Value → H) :
    ReturnsInHanded {} Try.checked os 6 .any (Rows.spanPartsSpec.pre6 enc Try.prog Try.f6 Rows.spanPartsRow.domain false) (Rows.spanPartsSpec.post enc Try.prog Try.f6 false true false false) := by
  refine returnsInHanded_of_change (C := Try.checked) law6_own started (by kernel_rfl) Try.func6
    (ChangeSpec.witness6 (C := Try.checked) (fn := Try.f6) (s := Rows.spanPartsSpec) false ⟨#[], #[.slice none 0 0, .slice none 0 0, .slice none 0 0], []⟩ 8 (by kernel_rfl) (by kernel_rfl) (by kernel_rfl) (by kernel_rfl)) ?_
  intro W base args ds gs before hval hW _ _
  refine law_contract (P := Try.prog) (f := 6) (fn := Try.f6) (tb := 4) (by kernel_rfl) rfl rfl Try.underlying4 (by kernel_rfl) (fun ds hd => ?_) law6_args W base args ds gs before hval hW
  rw [Try.params6] at hd
  match ds, hd with
  | [d0, d1, d2], _ => rfl
/-- THE STATEMENT. -/
theorem spanParts_holds : Rows.SpanPartsSaid :=
  OpenClaim.holds_of_wide 6 Try.f6 rfl rfl rfl rfl rfl rfl rfl ⟨rfl, rfl, rfl, rfl, rfl⟩ rfl rfl rfl rfl rfl (by kernel_rfl) Try.func6 (by kernel_rfl)
    (of_decide_eq_true (by kernel_rfl)) (by unfold Func.isWrapper; first | (rw [if_pos (by decide +kernel)]; kernel_rfl) | (rw [if_neg (by decide +kernel)]; exact ⟨rfl, rfl⟩))
    (fun os started H enc _ => law6_lifted os started H enc)
end Go.Proofs.Ytfcdbijmoiegiaa
