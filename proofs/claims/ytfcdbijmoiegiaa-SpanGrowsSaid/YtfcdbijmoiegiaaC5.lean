/-
  PROVED: the given statement SpanGrowsSaid: for every input the law SpanGrows answers true, and leaves its arguments as they were. Conditions: none.
-/
import Derived.Test.YtfcdbijmoiegiaaRows
import Derived.Test.YtfcdbijmoiegiaaSpanLGrows
import Derived.Test.YtfcdbijmoiegiaaSpanSh
import Derived.JoinedOf
import Derived.Handed
namespace Go.Proofs.Ytfcdbijmoiegiaa
open Go.DL Go.Span Go.ChangeShapes Go.WideShapes Go.RowKit

theorem law7_own : ownKnob Try.prog.godebug = none := by kernel_rfl
theorem law7_args (xs : List D) (h : ShArgs Try.prog Try.f7.params.toList xs) : PureCt Try.prog 7 xs (.b true) := by
  rw [Try.params7] at h
  obtain ⟨x0, ys0, rfl, s0, h⟩ := h
  obtain ⟨x1, ys1, rfl, s1, h⟩ := h
  obtain ⟨x2, ys2, rfl, s2, h⟩ := h
  obtain ⟨x3, ys3, rfl, s3, h⟩ := h
  obtain ⟨x4, ys4, rfl, s4, h⟩ := h
  obtain ⟨x5, ys5, rfl, s5, h⟩ := h
  obtain rfl := h
  obtain ⟨l, rfl⟩ := sv_sps s0
  obtain ⟨b, rfl, hb⟩ := sv_u32 s1
  obtain ⟨a, rfl, ha⟩ := sv_u32 s2
  obtain ⟨m, rfl, hm⟩ := sv_u32 s3
  obtain ⟨n, rfl, hn⟩ := sv_u32 s4
  obtain ⟨t, rfl, ht⟩ := sv_u32 s5
  exact lawGrows_ct l b a m n t hb ha hm hn ht
set_option maxRecDepth 100000 in
theorem law7_lifted (os : Os) (started : os.Started) (H : Type) (enc : TypeId × Value → H) :
    ReturnsInHanded {} Try.checked os 7 .any (Rows.spanGrowsSpec.pre6 enc Try.prog Try.f7 Rows.spanGrowsRow.domain false) (Rows.spanGrowsSpec.post enc Try.prog Try.f7 false true false false) := by
  refine returnsInHanded_of_change (C := Try.checked) law7_own started (by kernel_rfl) Try.func7
    (ChangeSpec.witness6 (C := Try.checked) (fn := Try.f7) (s := Rows.spanGrowsSpec) false ⟨#[], #[.slice none 0 0, .int .u32 0, .int .u32 0, .int .u32 0, .int .u32 0, .int .u32 0], []⟩ 8 (by kernel_rfl) (by kernel_rfl) (by kernel_rfl) (by kernel_rfl)) ?_
  intro W base args ds gs before hval hW _ _
  refine law_contract (P := Try.prog) (f := 7) (fn := Try.f7) (tb := 4) (by kernel_rfl) rfl rfl Try.underlying4 (by kernel_rfl) (fun ds hd => ?_) law7_args W base args ds gs before hval hW
  rw [Try.params7] at hd
  match ds, hd with
  | [d0, d1, d2, d3, d4, d5], _ => rfl
/-- THE STATEMENT. -/
theorem spanGrows_holds : Rows.SpanGrowsSaid :=
  OpenClaim.holds_of_wide 7 Try.f7 rfl rfl rfl rfl rfl rfl rfl ⟨rfl, rfl, rfl, rfl, rfl⟩ rfl rfl rfl rfl rfl (by kernel_rfl) Try.func7 (by kernel_rfl)
    (of_decide_eq_true (by kernel_rfl)) (by unfold Func.isWrapper; first | (rw [if_pos (by decide +kernel)]; kernel_rfl) | (rw [if_neg (by decide +kernel)]; exact ⟨rfl, rfl⟩))
    (fun os started H enc _ => law7_lifted os started H enc)
end Go.Proofs.Ytfcdbijmoiegiaa
