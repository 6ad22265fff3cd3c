/-
  PROVED: the given card RecordMatchesReferenceCardSaid: for every input the law RecordMatchesReference answers true, and leaves its arguments as they were. Conditions: the listed variable holds what the program lays in it (the tie is given).
-/
import Derived.Test.YtjngdcldglkolaaDoorRows
import Derived.Test.YtjngdcldglkolaaDoorTie
import Derived.Test.YtjngdcldglkolaaDoorCards
import Derived.JoinedOf
import Derived.Handed
import Derived.LaidMore
import Derived.LaidLaws
import Derived.Lay
import Derived.SevenTiedAt
import Derived.Test.YtjngdcldglkolaaDoorMR1
import Derived.Test.YtjngdcldglkolaaDoorMR2
import Derived.Test.YtjngdcldglkolaaDoorMR3
import Derived.Test.YtjngdcldglkolaaDoorMR4
namespace Go.Proofs.YtjngdcldglkolaaDoor
open Go.DL Go.Str Go.Rec Go.ChangeShapes Go.WideShapes Go.RowKit
set_option maxRecDepth 100000
theorem rows_of {α : Type} (f : α → List D) : ∀ rows : List (List D), (∀ r ∈ rows, ∃ s, r = f s) → ∃ l : List α, rows = l.map f
  | [], _ => ⟨[], rfl⟩
  | r :: rows, h => by
    obtain ⟨s, hs⟩ := h r (by simp)
    obtain ⟨l, hl⟩ := rows_of f rows fun r hr => h r (by simp [hr])
    exact ⟨s :: l, by rw [hs, hl]; rfl⟩
theorem sh_int {k : Nat} {ds : List D} (h : Sh Tryd.prog (k + 1) 3 ds) : ∃ n : Int, ds = [.i n] ∧ (Lit.int .i64 n).wf = true := by
  unfold Sh at h
  rw [Tryd.underlying3] at h
  exact h
theorem sh_str {k : Nat} {ds : List D} (h : Sh Tryd.prog (k + 1) 9 ds) : ∃ s : Str, ds = [.v (.string (bs s))] := by
  unfold Sh at h
  rw [Tryd.underlying9] at h
  obtain ⟨s, h, _⟩ := h
  exact ⟨s.data.toList, by rw [h]; exact congrArg (fun x => [D.v (.string x)]) (bs_of s)⟩
theorem sh_byte {k : Nat} {ds : List D} (h : Sh Tryd.prog (k + 1) 5 ds) : ∃ b : UInt8, ds = bD b := by
  unfold Sh at h
  rw [Tryd.underlying5] at h
  obtain ⟨n, h, hw⟩ := h
  simp [Lit.wf, IntKind.min, IntKind.max, IntKind.signed, IntKind.bits] at hw
  refine ⟨UInt8.ofNat n.toNat, ?_⟩
  rw [h, bD]
  have : (((UInt8.ofNat n.toNat).toNat : Nat) : Int) = n := by simp; omega
  rw [this]
theorem sh_dat {k : Nat} {ds : List D} (h : Sh Tryd.prog (k + 2) 45 ds) : ∃ s : Dat, ds = s.d := by
  unfold Sh at h
  rw [Tryd.underlying45] at h
  obtain ⟨a, b, rfl, h1, c, d, rfl, h2, e, f, rfl, h3, rfl⟩ := h
  obtain ⟨t, rfl⟩ := sh_str h1
  obtain ⟨n, rfl, _⟩ := sh_int h2
  obtain ⟨m, rfl, _⟩ := sh_int h3
  exact ⟨⟨t, n, m⟩, rfl⟩
theorem sh_dats {k : Nat} {ds : List D} (h : Sh Tryd.prog (k + 3) 22 ds) : ∃ l : List Dat, ds = [.list false (l.map Dat.d)] := by
  unfold Sh at h
  rw [Tryd.underlying22] at h
  obtain ⟨rows, h1, h2⟩ := h
  obtain ⟨l, rfl⟩ := rows_of Dat.d rows fun r hr => sh_dat (h2 r hr)
  exact ⟨l, h1⟩
theorem sh_set {k : Nat} {ds : List D} (h : Sh Tryd.prog (k + 4) 24 ds) : ∃ s : RSet, ds = s.d := by
  unfold Sh at h
  rw [Tryd.underlying24] at h
  obtain ⟨a, b, rfl, h1, c, d, rfl, h2, e, f, rfl, h3, g, i, rfl, h4, rfl⟩ := h
  obtain ⟨t, rfl⟩ := sh_str h1
  obtain ⟨n, rfl, _⟩ := sh_int h2
  obtain ⟨m, rfl, _⟩ := sh_int h3
  obtain ⟨l, rfl⟩ := sh_dats h4
  exact ⟨⟨t, n, m, l⟩, rfl⟩
theorem sv_set {x : D} (h : ShV Tryd.prog 24 x) : ∃ s : RSet, x = .agg s.d := by
  unfold ShV at h
  rw [Tryd.underlying24] at h
  obtain ⟨cs, rfl, h⟩ := h
  obtain ⟨s, rfl⟩ := sh_set (k := 8) h
  exact ⟨s, rfl⟩
theorem sv_sets {x : D} (h : ShV Tryd.prog 25 x) : ∃ l : List RSet, x = .list false (l.map RSet.d) := by
  unfold ShV at h
  rw [Tryd.underlying25] at h
  unfold shFuel Sh at h
  rw [Tryd.underlying25] at h
  obtain ⟨rows, h1, h2⟩ := h
  obtain ⟨l, rfl⟩ := rows_of RSet.d rows fun r hr => sh_set (k := 7) (h2 r hr)
  simp only [List.cons.injEq, and_true] at h1
  exact ⟨l, h1⟩
theorem sv_bytes {x : D} (h : ShV Tryd.prog 26 x) : ∃ l : Str, x = .list false (l.map bD) := by
  unfold ShV at h
  rw [Tryd.underlying26] at h
  unfold shFuel Sh at h
  rw [Tryd.underlying26] at h
  obtain ⟨rows, h1, h2⟩ := h
  obtain ⟨l, rfl⟩ := rows_of bD rows fun r hr => sh_byte (k := 10) (h2 r hr)
  simp only [List.cons.injEq, and_true] at h1
  exact ⟨l, h1⟩
theorem sv_u8 {x : D} (h : ShV Tryd.prog 5 x) : ∃ n : Int, x = .v (.int .u8 n) ∧ (0 ≤ n ∧ n < 256) := by
  unfold ShV at h
  rw [Tryd.underlying5] at h
  unfold shFuel Sh at h
  rw [Tryd.underlying5] at h
  obtain ⟨n, h1, h2⟩ := h
  simp only [List.cons.injEq, and_true] at h1
  simp [Lit.wf, IntKind.min, IntKind.max, IntKind.signed, IntKind.bits] at h2
  exact ⟨n, h1, by omega⟩

set_option maxRecDepth 100000
def law3_laid : List (String × DataW Unit) := [("nameplan/record.rules", Rows.laid_nameplan_record_rules)]
theorem law3_own : ownKnob Tryd.prog.godebug = none := by kernel_rfl
theorem law3_args (xs : List D) (h : ShArgs Tryd.prog Tryd.f3.params.toList xs) : PureCt Tryd.prog 3 xs (.b true) := by
  rw [Tryd.params3] at h
  obtain ⟨x0, ys0, rfl, s0, h⟩ := h
  obtain ⟨x1, ys1, rfl, s1, h⟩ := h
  obtain ⟨x2, ys2, rfl, s2, h⟩ := h
  obtain ⟨x3, ys3, rfl, s3, h⟩ := h
  obtain rfl := h
  obtain ⟨a, rfl⟩ := sv_set s0
  obtain ⟨b, rfl⟩ := sv_set s1
  obtain ⟨l, rfl⟩ := sv_sets s2
  obtain ⟨x, rfl⟩ := sv_bytes s3
  exact lawMatches_ct a b l x
set_option maxRecDepth 100000 in
theorem law3_gr {W : World} (h : laidMetH Tryd.prog law3_laid W) : Gr Tryd.prog (fun b => b < W.heap.size) W :=
  laid_one (g := 0) (t := 52) (k := 3) (cells := rulesTab) (by kernel_rfl) (by kernel_rfl) (by kernel_rfl) (by kernel_rfl) (of_decide_eq_true (by kernel_rfl)) (by kernel_rfl) (by kernel_rfl)
    (fun x cs e => by
      match x, e with
      | 0, e => exact ⟨rfl, (Option.some.inj e).symm⟩
      | n + 1, e => cases e) (of_decide_eq_true (by kernel_rfl)) h
set_option maxRecDepth 100000 in
theorem law3_lifted (os : Os) (started : os.Started) (H : Type) (enc : TypeId × Value → H) :
    ReturnsInHanded {} Tryd.checked os 3 .any (fun w args => (Rows.recordMatchesReferenceSpec.pre enc Tryd.prog Tryd.f3 [] false w args ∧ laidMetH Tryd.prog law3_laid w) ∧ sizedMet enc Tryd.prog Tryd.f3 (OpenSpec.ofChange Rows.recordMatchesReferenceSpec) false w args)
      (Rows.recordMatchesReferenceSpec.post enc Tryd.prog Tryd.f3 false true false false) := by
  refine returnsInHanded_of_change_and (C := Tryd.checked) (X := fun w _ => laidMetH Tryd.prog law3_laid w) (fun _ _ _ hh h => h.of_heap hh) law3_own started (by kernel_rfl) Tryd.func3
    (ChangeSpec.witness_shaped (enc := enc) (C := Tryd.checked) (os := os) (X := fun w _ => laidMetH Tryd.prog law3_laid w) false (World.laidAll Tryd.prog os law3_laid) #[.agg #[.string ⟨#[]⟩, .int .i64 0, .int .i64 0, .slice none 0 0], .agg #[.string ⟨#[]⟩, .int .i64 0, .int .i64 0, .slice none 0 0], .slice none 0 0, .slice none 0 0] 8 (World.laidAll_os _ _ _) (World.shaped_of_ZipB (by kernel_rfl) (by kernel_rfl)) (by kernel_rfl) (by kernel_rfl) (by kernel_rfl)
      (by rw [MakeChecks.laidMetH_plain _ _ _ (by kernel_rfl)]; exact laidMet_laidAll _ (by kernel_rfl) (by kernel_rfl))) ?_
  intro W base args ds gs before hval hW _ _ hL _
  refine law_contract_g (P := Tryd.prog) (f := 3) (fn := Tryd.f3) (tb := 4) (by kernel_rfl) rfl rfl Tryd.underlying4 (by kernel_rfl) (fun ds hd => ?_) law3_args W base args ds gs before (law3_gr hL) hval hW
  rw [Tryd.params3] at hd
  match ds, hd with
  | [d0, d1, d2, d3], _ => rfl
theorem law3_row : Rows.RecordMatchesReferenceSaid :=
  OpenClaim.holds_of_wide 3 Tryd.f3 rfl rfl rfl rfl rfl rfl rfl ⟨rfl, rfl, rfl, rfl, rfl⟩ rfl rfl rfl rfl rfl (by kernel_rfl) Tryd.func3 (by kernel_rfl)
    (of_decide_eq_true (by kernel_rfl)) (by unfold Func.isWrapper; first | (rw [if_pos (by decide +kernel)]; kernel_rfl) | (rw [if_neg (by decide +kernel)]; exact ⟨rfl, rfl⟩))
    (fun os started H enc _ => law3_lifted os started H enc)
/-- THE STATEMENT. -/
theorem recordMatchesReference_card_holds : Rows.RecordMatchesReferenceCardSaid :=
  Claim7.holds_tied_plain_at .later [] [.data] true (true, "4e5353fdb6d3915ae06283b793bb09dbc77c9035ba4d59bd6f382a7586157c23") false law3_row (fun _ h => by cases h) (by kernel_rfl) (fun _ h => by cases h) recordMatchesReference_row_tie rfl ⟨rfl, rfl⟩ (by kernel_rfl) rfl
    (fun f fn hf hfn => by
      obtain rfl : f = 3 := Option.some.inj ((show Tryd.prog.funcNamed "nameplan/nameplanlaw02.RecordMatchesReference" = some 3 by kernel_rfl).symm.trans hf) |>.symm
      obtain rfl : fn = Tryd.f3 := (Option.some.inj (Tryd.func3.symm.trans hfn)).symm
      exact ⟨by kernel_rfl, fun j t ht => by
        rw [Tryd.params3] at ht
        have hm : t ∈ [24, 24, 25, 26] := by simpa using Array.mem_of_getElem? ht
        have hall : ([24, 24, 25, 26].all fun u => !Tryd.prog.wantsStandIn u) = true := by kernel_rfl
        exact (show Tryd.prog.wantsStandIn t = false by simpa using List.all_eq_true.1 hall t hm)⟩)
    (by kernel_rfl)
end Go.Proofs.YtjngdcldglkolaaDoor
