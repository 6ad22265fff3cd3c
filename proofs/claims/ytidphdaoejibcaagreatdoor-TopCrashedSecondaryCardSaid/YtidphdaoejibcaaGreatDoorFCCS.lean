/-
  PROVED: the given card TopCrashedSecondaryCardSaid: for every input the law TopCrashedSecondary answers true, and leaves its arguments as they were. Conditions: the listed variables hold what the program lays in them (the tie is given).
-/
import Derived.Test.YtidphdaoejibcaaGreatDoorRows
import Derived.Test.YtidphdaoejibcaaGreatDoorTie
import Derived.Test.YtidphdaoejibcaaGreatDoorCards
import Derived.JoinedOf
import Derived.Handed
import Derived.LaidMore
import Derived.LaidLaws
import Derived.Lay
import Derived.SevenTiedAt
import Derived.Test.YtidphdaoejibcaaGreatDoorMCS1
import Derived.Test.YtidphdaoejibcaaGreatDoorMCS2
import Derived.Test.YtidphdaoejibcaaGreatDoorMCS3
import Derived.Test.YtidphdaoejibcaaGreatDoorMCS4
import Derived.Test.YtidphdaoejibcaaGreatDoorMCS5
import Derived.Test.YtidphdaoejibcaaGreatDoorMCS6
namespace Go.Proofs.YtidphdaoejibcaaGreatDoor
open Go.DL Go.Str Go.Rec Go.Zon Go.Jn Go.ChangeShapes Go.WideShapes Go.RowKit
set_option linter.unusedSectionVars false
section
variable [Glob Tryz.prog]
set_option maxRecDepth 100000
theorem rows_of {α : Type} (f : α → List D) : ∀ rows : List (List D), (∀ r ∈ rows, ∃ s, r = f s) → ∃ l : List α, rows = l.map f
  | [], _ => ⟨[], rfl⟩
  | r :: rows, h => by
    obtain ⟨s, hs⟩ := h r (by simp)
    obtain ⟨l, hl⟩ := rows_of f rows fun r hr => h r (by simp [hr])
    exact ⟨s :: l, by rw [hs, hl]; rfl⟩
theorem sh_int {k : Nat} {ds : List D} (h : Sh Tryz.prog (k + 1) 3 ds) : ∃ n : Int, ds = [.i n] ∧ (Lit.int .i64 n).wf = true := by
  unfold Sh at h
  rw [Tryz.underlying3] at h
  exact h
theorem sh_u64 {k : Nat} {ds : List D} (h : Sh Tryz.prog (k + 1) 140 ds) : ∃ n : Int, ds = [.v (.int .u64 n)] ∧ (Lit.int .u64 n).wf = true := by
  unfold Sh at h
  rw [Tryz.underlying140] at h
  exact h
theorem sh_str {k : Nat} {ds : List D} (h : Sh Tryz.prog (k + 1) 9 ds) : ∃ s : Str, ds = [.v (.string (bs s))] := by
  unfold Sh at h
  rw [Tryz.underlying9] at h
  obtain ⟨s, h, _⟩ := h
  exact ⟨s.data.toList, by rw [h]; exact congrArg (fun x => [D.v (.string x)]) (bs_of s)⟩
theorem sh_dat {k : Nat} {ds : List D} (h : Sh Tryz.prog (k + 2) 57 ds) : ∃ s : Dat, ds = s.d := by
  unfold Sh at h
  rw [Tryz.underlying57] at h
  obtain ⟨a0, b0, rfl, h0, a1, b1, rfl, h1, a2, b2, rfl, h2, rfl⟩ := h
  obtain ⟨t, rfl⟩ := sh_str h0
  obtain ⟨n, rfl, _⟩ := sh_int h1
  obtain ⟨m, rfl, _⟩ := sh_int h2
  exact ⟨⟨t, n, m⟩, rfl⟩
theorem sh_dats {k : Nat} {ds : List D} (h : Sh Tryz.prog (k + 3) 58 ds) : ∃ l : List Dat, ds = [.list false (l.map Dat.d)] := by
  unfold Sh at h
  rw [Tryz.underlying58] at h
  obtain ⟨rows, h1, h2⟩ := h
  obtain ⟨l, rfl⟩ := rows_of Dat.d rows fun r hr => sh_dat (h2 r hr)
  exact ⟨l, h1⟩
theorem sh_set {k : Nat} {ds : List D} (h : Sh Tryz.prog (k + 4) 60 ds) : ∃ s : RSet, ds = s.d := by
  unfold Sh at h
  rw [Tryz.underlying60] at h
  obtain ⟨a0, b0, rfl, h0, a1, b1, rfl, h1, a2, b2, rfl, h2, a3, b3, rfl, h3, rfl⟩ := h
  obtain ⟨t, rfl⟩ := sh_str h0
  obtain ⟨n, rfl, _⟩ := sh_int h1
  obtain ⟨m, rfl, _⟩ := sh_int h2
  obtain ⟨l, rfl⟩ := sh_dats h3
  exact ⟨⟨t, n, m, l⟩, rfl⟩
theorem sh_sig {k : Nat} {ds : List D} (h : Sh Tryz.prog (k + 2) 153 ds) : ∃ s : RSig, ds = s.d := by
  unfold Sh at h
  rw [Tryz.underlying153] at h
  obtain ⟨a0, b0, rfl, h0, a1, b1, rfl, h1, a2, b2, rfl, h2, a3, b3, rfl, h3, a4, b4, rfl, h4, a5, b5, rfl, h5, rfl⟩ := h
  obtain ⟨t, rfl⟩ := sh_str h0
  obtain ⟨n, rfl, _⟩ := sh_int h1
  obtain ⟨m, rfl, _⟩ := sh_int h2
  obtain ⟨p, rfl, _⟩ := sh_int h3
  obtain ⟨q, rfl, _⟩ := sh_int h4
  obtain ⟨r, rfl, _⟩ := sh_u64 h5
  exact ⟨⟨t, n, m, p, q, r⟩, rfl⟩
theorem sh_sigs {k : Nat} {ds : List D} (h : Sh Tryz.prog (k + 3) 82 ds) : ∃ l : List RSig, ds = [.list false (l.map RSig.d)] := by
  unfold Sh at h
  rw [Tryz.underlying82] at h
  obtain ⟨rows, h1, h2⟩ := h
  obtain ⟨l, rfl⟩ := rows_of RSig.d rows fun r hr => sh_sig (h2 r hr)
  exact ⟨l, h1⟩
theorem sh_sgd {k : Nat} {ds : List D} (h : Sh Tryz.prog (k + 5) 84 ds) : ∃ s : Sgd, ds = s.d := by
  unfold Sh at h
  rw [Tryz.underlying84] at h
  obtain ⟨a0, b0, rfl, h0, a1, b1, rfl, h1, rfl⟩ := h
  obtain ⟨s, rfl⟩ := sh_set h0
  obtain ⟨l, rfl⟩ := sh_sigs h1
  exact ⟨⟨s, l⟩, rfl⟩
theorem sh_sgds {k : Nat} {ds : List D} (h : Sh Tryz.prog (k + 6) 22 ds) : ∃ l : List Sgd, ds = [.list false (l.map Sgd.d)] := by
  unfold Sh at h
  rw [Tryz.underlying22] at h
  obtain ⟨rows, h1, h2⟩ := h
  obtain ⟨l, rfl⟩ := rows_of Sgd.d rows fun r hr => sh_sgd (h2 r hr)
  exact ⟨l, h1⟩
theorem sh_zon {k : Nat} {ds : List D} (h : Sh Tryz.prog (k + 7) 24 ds) : ∃ s : Zon, ds = s.d := by
  unfold Sh at h
  rw [Tryz.underlying24] at h
  obtain ⟨a0, b0, rfl, h0, a1, b1, rfl, h1, rfl⟩ := h
  obtain ⟨t, rfl⟩ := sh_str h0
  obtain ⟨l, rfl⟩ := sh_sgds h1
  exact ⟨⟨t, l⟩, rfl⟩
theorem sh_chn {k : Nat} {ds : List D} (h : Sh Tryz.prog (k + 6) 114 ds) : ∃ s : Chg, ds = s.d := by
  unfold Sh at h
  rw [Tryz.underlying114] at h
  obtain ⟨a0, b0, rfl, h0, a1, b1, rfl, h1, rfl⟩ := h
  obtain ⟨n, rfl, _⟩ := sh_int h0
  obtain ⟨s, rfl⟩ := sh_set h1
  exact ⟨⟨n, s⟩, rfl⟩
theorem sh_chc {k : Nat} {ds : List D} (h : Sh Tryz.prog (k + 6) 62 ds) : ∃ s : Chg, ds = s.d := by
  unfold Sh at h
  rw [Tryz.underlying62] at h
  obtain ⟨a0, b0, rfl, h0, a1, b1, rfl, h1, rfl⟩ := h
  obtain ⟨n, rfl, _⟩ := sh_int h0
  obtain ⟨s, rfl⟩ := sh_set h1
  exact ⟨⟨n, s⟩, rfl⟩
theorem sh_chns {k : Nat} {ds : List D} (h : Sh Tryz.prog (k + 7) 66 ds) : ∃ l : List Chg, ds = [.list false (l.map Chg.d)] := by
  unfold Sh at h
  rw [Tryz.underlying66] at h
  obtain ⟨rows, h1, h2⟩ := h
  obtain ⟨l, rfl⟩ := rows_of Chg.d rows fun r hr => sh_chn (h2 r hr)
  exact ⟨l, h1⟩
theorem sh_chcs {k : Nat} {ds : List D} (h : Sh Tryz.prog (k + 7) 65 ds) : ∃ l : List Chg, ds = [.list false (l.map Chg.d)] := by
  unfold Sh at h
  rw [Tryz.underlying65] at h
  obtain ⟨rows, h1, h2⟩ := h
  obtain ⟨l, rfl⟩ := rows_of Chg.d rows fun r hr => sh_chc (h2 r hr)
  exact ⟨l, h1⟩
theorem sh_upd {k : Nat} {ds : List D} (h : Sh Tryz.prog (k + 8) 68 ds) : ∃ s : Upd, ds = s.d := by
  unfold Sh at h
  rw [Tryz.underlying68] at h
  obtain ⟨a0, b0, rfl, h0, a1, b1, rfl, h1, rfl⟩ := h
  obtain ⟨a, rfl⟩ := sh_chns h0
  obtain ⟨b, rfl⟩ := sh_chcs h1
  exact ⟨⟨a, b⟩, rfl⟩
theorem sv_zon {x : D} (h : ShV Tryz.prog 24 x) : ∃ s : Zon, x = .agg s.d := by
  unfold ShV at h
  rw [Tryz.underlying24] at h
  obtain ⟨cs, rfl, h⟩ := h
  obtain ⟨s, rfl⟩ := sh_zon (k := 5) h
  exact ⟨s, rfl⟩
theorem sh_upds {k : Nat} {ds : List D} (h : Sh Tryz.prog (k + 9) 25 ds) : ∃ l : List Upd, ds = [.list false (l.map Upd.d)] := by
  unfold Sh at h
  rw [Tryz.underlying25] at h
  obtain ⟨rows, h1, h2⟩ := h
  obtain ⟨l, rfl⟩ := rows_of Upd.d rows fun r hr => sh_upd (h2 r hr)
  exact ⟨l, h1⟩
theorem sv_upds {x : D} (h : ShV Tryz.prog 25 x) : ∃ l : List Upd, x = .list false (l.map Upd.d) := by
  unfold ShV at h
  rw [Tryz.underlying25] at h
  unfold shFuel at h
  obtain ⟨l, h1⟩ := sh_upds (k := 3) h
  simp only [List.cons.injEq, and_true] at h1
  exact ⟨l, h1⟩
theorem sv_u8i {x : D} (h : ShV Tryz.prog 5 x) : ∃ n : Int, x = .v (.int .u8 n) ∧ (0 ≤ n ∧ n < 256) := by
  unfold ShV at h
  rw [Tryz.underlying5] at h
  unfold shFuel Sh at h
  rw [Tryz.underlying5] at h
  obtain ⟨n, h1, h2⟩ := h
  simp only [List.cons.injEq, and_true] at h1
  simp [Lit.wf, IntKind.min, IntKind.max, IntKind.signed, IntKind.bits] at h2
  exact ⟨n, h1, by omega⟩
theorem sv_u16 {x : D} (h : ShV Tryz.prog 53 x) : ∃ n : Int, x = .v (.int .u16 n) ∧ (0 ≤ n ∧ n < 65536) := by
  unfold ShV at h
  rw [Tryz.underlying53] at h
  unfold shFuel Sh at h
  rw [Tryz.underlying53] at h
  obtain ⟨n, h1, h2⟩ := h
  simp only [List.cons.injEq, and_true] at h1
  simp [Lit.wf, IntKind.min, IntKind.max, IntKind.signed, IntKind.bits] at h2
  exact ⟨n, h1, by omega⟩
end
theorem law4_own : ownKnob Tryz.prog.godebug = none := by kernel_rfl
set_option maxRecDepth 100000 in
theorem law4_args [Glob Tryz.prog] [Told] (xs : List D) (h : ShArgs Tryz.prog Tryz.f4.params.toList xs) : PureCt Tryz.prog 4 xs (.b true) := by
  rw [Tryz.params4] at h
  obtain ⟨x0, ys0, rfl, s0, h⟩ := h
  obtain ⟨x1, ys1, rfl, s1, h⟩ := h
  obtain ⟨x2, ys2, rfl, s2, h⟩ := h
  obtain ⟨x3, ys3, rfl, s3, h⟩ := h
  obtain rfl := h
  obtain ⟨z, rfl⟩ := sv_zon s0
  obtain ⟨l, rfl⟩ := sv_upds s1
  obtain ⟨a, rfl, ha⟩ := sv_u8i s2
  obtain ⟨c, rfl, hc⟩ := sv_u16 s3
  exact lawCS_ct z l a c ha hc
set_option maxRecDepth 100000 in
theorem law4_lifted (os : Os) (started : os.Started) (H : Type) (enc : TypeId × Value → H) :
    ReturnsInHanded {} Tryz.checked os 4 .any (fun w args => (Rows.topCrashedSecondarySpec.pre enc Tryz.prog Tryz.f4 [] false w args ∧ laidMetH Tryz.prog jlaid w) ∧ sizedMet enc Tryz.prog Tryz.f4 (OpenSpec.ofChange Rows.topCrashedSecondarySpec) false w args)
      (Rows.topCrashedSecondarySpec.post enc Tryz.prog Tryz.f4 false true false false) := by
  refine returnsInHanded_of_change_and (C := Tryz.checked) (X := fun w _ => laidMetH Tryz.prog jlaid w) (fun _ _ _ hh h => h.of_heap hh) law4_own started (by kernel_rfl) Tryz.func4
    (ChangeSpec.witness_shaped (enc := enc) (C := Tryz.checked) (os := os) (X := fun w _ => laidMetH Tryz.prog jlaid w) false (World.laidAll Tryz.prog os jlaid) #[.agg #[.string ⟨#[]⟩, .slice none 0 0], .slice none 0 0, .int .u8 0, .int .u16 0] 8 (World.laidAll_os _ _ _) (World.shaped_of_ZipB (by kernel_rfl) (by kernel_rfl)) (by kernel_rfl) (by kernel_rfl) (by kernel_rfl)
      (by rw [MakeChecks.laidMetH_plain _ _ _ (by kernel_rfl)]; exact laidMet_laidAll _ (by kernel_rfl) (by kernel_rfl))) ?_
  intro W base args ds gs before hval hW _ _ hL _
  obtain ⟨a, ha⟩ := told_cells (W := W) hL
  letI : Glob Tryz.prog := ⟨toldF a⟩
  haveI : Told := ⟨a, fun _ => rfl⟩
  refine law_contract_g (P := Tryz.prog) (f := 4) (fn := Tryz.f4) (tb := 4) (by kernel_rfl) rfl rfl Tryz.underlying4 (by kernel_rfl) (fun ds hd => ?_) law4_args W base args ds gs before (fun x cs e => ha x cs e) hval hW
  rw [Tryz.params4] at hd
  match ds, hd with
  | [d0, d1, d2, d3], _ => rfl
theorem law4_inPlace : Tryz.pinned.checked.prog.inPlace 4 = Rows.topCrashedSecondaryRow.inPlace := by kernel_rfl
theorem law4_unfollowed : Tryz.pinned.checked.prog.unfollowed 4 = Rows.topCrashedSecondaryRow.unfollowed := by kernel_rfl
theorem law4_recurses : Tryz.pinned.checked.prog.recurses 4 = Rows.topCrashedSecondaryRow.recurses := by kernel_rfl
theorem law4_varsNamed : Tryz.pinned.checked.prog.varsNamed 4 = Rows.topCrashedSecondaryRow.named := by kernel_rfl
theorem law4_closed : joinedFacts Tryz.pinned.checked.prog 4 Tryz.f4 Rows.topCrashedSecondarySpec Rows.topCrashedSecondaryRow = true := by
  unfold joinedFacts
  rw [law4_inPlace, law4_unfollowed, law4_recurses, law4_varsNamed]
  kernel_rfl
theorem law4_goes : false = OpenClaim.goesBy Rows.topCrashedSecondaryRow Tryz.pinned.checked.prog := by kernel_rfl
theorem law4_looks : (Rows.topCrashedSecondaryCard).stood.looks = Tryz.pinned.checked.prog.looks [] := by kernel_rfl
theorem law4_row : Rows.TopCrashedSecondarySaid :=
  OpenClaim.holds_of_wide 4 Tryz.f4 rfl rfl rfl rfl rfl rfl rfl ⟨rfl, rfl, rfl, rfl, rfl⟩ rfl rfl rfl rfl rfl (by kernel_rfl) Tryz.func4 law4_closed
    (of_decide_eq_true (by kernel_rfl)) (by unfold Func.isWrapper; first | (rw [if_pos (by decide +kernel)]; kernel_rfl) | (rw [if_neg (by decide +kernel)]; exact ⟨rfl, rfl⟩))
    (fun os started H enc _ => law4_lifted os started H enc)
/-- THE STATEMENT. -/
theorem topCrashedSecondary_card_holds : Rows.TopCrashedSecondaryCardSaid :=
  Claim7.holds_tied_plain_at .later [] _ _ _ _ law4_row (fun _ h => by cases h) (by kernel_rfl) (fun _ h => by cases h) topCrashedSecondary_row_tie rfl ⟨rfl, rfl⟩ (by kernel_rfl) rfl
    (fun f fn hf hfn => by
      obtain rfl : f = 4 := Option.some.inj ((show Tryz.prog.funcNamed "nameplan/nameplantop.TopCrashedSecondary" = some 4 by kernel_rfl).symm.trans hf) |>.symm
      obtain rfl : fn = Tryz.f4 := (Option.some.inj (Tryz.func4.symm.trans hfn)).symm
      exact ⟨law4_looks, fun j t ht => by
        rw [Tryz.params4] at ht
        have hm : t ∈ [24, 25, 5, 53] := by simpa using Array.mem_of_getElem? ht
        have hall : ([24, 25, 5, 53].all fun u => !Tryz.prog.wantsStandIn u) = true := by kernel_rfl
        exact (show Tryz.prog.wantsStandIn t = false by simpa using List.all_eq_true.1 hall t hm)⟩)
    law4_goes
end Go.Proofs.YtidphdaoejibcaaGreatDoor
