/-
  STRETCHES: what an argument of the laws reads as. Conditions: none.
-/
import Derived.Test.YtfcdbijmoiegiaaDClaim
import Derived.Test.YtfcdbijmoiegiaaSpanLaw
import Derived.Test.YtfcdbijmoiegiaaTypes
namespace Go.Proofs.Ytfcdbijmoiegiaa
open Go.DL Go.Span
theorem rows_of {α : Type} (f : α → List D) : ∀ rows : List (List D), (∀ r ∈ rows, ∃ s, r = f s) → ∃ l : List α, rows = l.map f
  | [], _ => ⟨[], rfl⟩
  | r :: rows, h => by
    obtain ⟨s, hs⟩ := h r (by simp)
    obtain ⟨l, hl⟩ := rows_of f rows fun r hr => h r (by simp [hr])
    exact ⟨s :: l, by rw [hs, hl]; rfl⟩
theorem sh_int {k : Nat} {ds : List D} (h : Sh Try.prog (k + 1) 3 ds) : ∃ n : Int, ds = [.i n] ∧ (Lit.int .i64 n).wf = true := by
  unfold Sh at h
  rw [Try.underlying3] at h
  exact h
theorem sh_sp {k : Nat} {ds : List D} (h : Sh Try.prog (k + 2) 34 ds) : ∃ s : Sp, ds = s.d := by
  unfold Sh at h
  rw [Try.underlying34] at h
  obtain ⟨a, b, rfl, h1, c, d, rfl, h2, rfl⟩ := h
  obtain ⟨n, rfl, _⟩ := sh_int h1
  obtain ⟨m, rfl, _⟩ := sh_int h2
  exact ⟨⟨n, m⟩, rfl⟩
theorem sv_sps {x : D} (h : ShV Try.prog 22 x) : ∃ l : List Sp, x = .list false (l.map Sp.d) := by
  unfold ShV at h
  rw [Try.underlying22] at h
  unfold shFuel Sh at h
  rw [Try.underlying22] at h
  obtain ⟨rows, h1, h2⟩ := h
  obtain ⟨l, rfl⟩ := rows_of Sp.d rows fun r hr => sh_sp (h2 r hr)
  simp only [List.cons.injEq, and_true] at h1
  exact ⟨l, h1⟩
theorem sv_int {x : D} (h : ShV Try.prog 3 x) : ∃ n : Int, x = .i n ∧ (Lit.int .i64 n).wf = true := by
  unfold ShV at h
  rw [Try.underlying3] at h
  obtain ⟨n, h1, h2⟩ := sh_int h
  simp only [List.cons.injEq, and_true] at h1
  exact ⟨n, h1, h2⟩
theorem sv_u32 {x : D} (h : ShV Try.prog 37 x) : ∃ n : Int, x = .v (.int .u32 n) ∧ (0 ≤ n ∧ n < 4294967296) := by
  unfold ShV at h
  rw [Try.underlying37] at h
  unfold shFuel Sh at h
  rw [Try.underlying37] at h
  obtain ⟨n, h1, h2⟩ := h
  simp only [List.cons.injEq, and_true] at h1
  simp [Lit.wf, IntKind.min, IntKind.max, IntKind.signed, IntKind.bits] at h2
  exact ⟨n, h1, by omega⟩
end Go.Proofs.Ytfcdbijmoiegiaa
