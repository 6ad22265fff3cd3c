/-
  PROVED: the given card TopSignedCardSaid: for every input the law TopSigned answers true, and leaves its arguments as they were. Conditions: the listed variable holds what the program lays in it (the tie is given).
-/
import Derived.Test.YtdcenbhgholncaaGreatDoorRows
import Derived.Test.YtdcenbhgholncaaGreatDoorTie
import Derived.Test.YtdcenbhgholncaaGreatDoorCards
import Derived.JoinedOf
import Derived.Handed
import Derived.LaidMore
import Derived.LaidLaws
import Derived.Lay
import Derived.SevenTiedAt
import Derived.Test.YtdcenbhgholncaaGreatDoorMTS1
import Derived.Test.YtdcenbhgholncaaGreatDoorMTS2
import Derived.Test.YtdcenbhgholncaaGreatDoorMTS3
import Derived.Test.YtdcenbhgholncaaGreatDoorMTS4
import Derived.Test.YtdcenbhgholncaaGreatDoorMTS5
import Derived.Test.YtdcenbhgholncaaGreatDoorMTS6
import Derived.Test.YtdcenbhgholncaaGreatDoorMTS7
import Derived.Test.YtdcenbhgholncaaGreatDoorMTS8
import Derived.Test.YtdcenbhgholncaaGreatDoorMTS9
namespace Go.Proofs.YtdcenbhgholncaaGreatDoor
open Go.DL Go.Str Go.Rec Go.Zon Go.ChangeShapes Go.WideShapes Go.RowKit
set_option maxRecDepth 100000
theorem rows_of {α : Type} (f : α → List D) : ∀ rows : List (List D), (∀ r ∈ rows, ∃ s, r = f s) → ∃ l : List α, rows = l.map f
  | [], _ => ⟨[], rfl⟩
  | r :: rows, h => by
    obtain ⟨s, hs⟩ := h r (by simp)
    obtain ⟨l, hl⟩ := rows_of f rows fun r hr => h r (by simp [hr])
    exact ⟨s :: l, by rw [hs, hl]; rfl⟩
theorem sh_int {k : Nat} {ds : List D} (h : Sh Tryz.prog (k + 1) 3 ds) : ∃ n : Int, ds = [.i n] ∧ (Lit.int .i64 n).wf = true := by
  unfold Sh at h
  rw [Tryz.underlying3] at h
  exact h
theorem sh_u64 {k : Nat} {ds : List D} (h : Sh Tryz.prog (k + 1) 92 ds) : ∃ n : Int, ds = [.v (.int .u64 n)] ∧ (Lit.int .u64 n).wf = true := by
  unfold Sh at h
  rw [Tryz.underlying92] at h
  exact h
theorem sh_str {k : Nat} {ds : List D} (h : Sh Tryz.prog (k + 1) 9 ds) : ∃ s : Str, ds = [.v (.string (bs s))] := by
  unfold Sh at h
  rw [Tryz.underlying9] at h
  obtain ⟨s, h, _⟩ := h
  exact ⟨s.data.toList, by rw [h]; exact congrArg (fun x => [D.v (.string x)]) (bs_of s)⟩
theorem sh_dat {k : Nat} {ds : List D} (h : Sh Tryz.prog (k + 2) 91 ds) : ∃ s : Dat, ds = s.d := by
  unfold Sh at h
  rw [Tryz.underlying91] at h
  obtain ⟨a0, b0, rfl, h0, a1, b1, rfl, h1, a2, b2, rfl, h2, rfl⟩ := h
  obtain ⟨t, rfl⟩ := sh_str h0
  obtain ⟨n, rfl, _⟩ := sh_int h1
  obtain ⟨m, rfl, _⟩ := sh_int h2
  exact ⟨⟨t, n, m⟩, rfl⟩
theorem sh_dats {k : Nat} {ds : List D} (h : Sh Tryz.prog (k + 3) 39 ds) : ∃ l : List Dat, ds = [.list false (l.map Dat.d)] := by
  unfold Sh at h
  rw [Tryz.underlying39] at h
  obtain ⟨rows, h1, h2⟩ := h
  obtain ⟨l, rfl⟩ := rows_of Dat.d rows fun r hr => sh_dat (h2 r hr)
  exact ⟨l, h1⟩
theorem sh_set {k : Nat} {ds : List D} (h : Sh Tryz.prog (k + 4) 41 ds) : ∃ s : RSet, ds = s.d := by
  unfold Sh at h
  rw [Tryz.underlying41] at h
  obtain ⟨a0, b0, rfl, h0, a1, b1, rfl, h1, a2, b2, rfl, h2, a3, b3, rfl, h3, rfl⟩ := h
  obtain ⟨t, rfl⟩ := sh_str h0
  obtain ⟨n, rfl, _⟩ := sh_int h1
  obtain ⟨m, rfl, _⟩ := sh_int h2
  obtain ⟨l, rfl⟩ := sh_dats h3
  exact ⟨⟨t, n, m, l⟩, rfl⟩
theorem sh_sig {k : Nat} {ds : List D} (h : Sh Tryz.prog (k + 2) 94 ds) : ∃ s : RSig, ds = s.d := by
  unfold Sh at h
  rw [Tryz.underlying94] at h
  obtain ⟨a0, b0, rfl, h0, a1, b1, rfl, h1, a2, b2, rfl, h2, a3, b3, rfl, h3, a4, b4, rfl, h4, a5, b5, rfl, h5, rfl⟩ := h
  obtain ⟨t, rfl⟩ := sh_str h0
  obtain ⟨n, rfl, _⟩ := sh_int h1
  obtain ⟨m, rfl, _⟩ := sh_int h2
  obtain ⟨p, rfl, _⟩ := sh_int h3
  obtain ⟨q, rfl, _⟩ := sh_int h4
  obtain ⟨r, rfl, _⟩ := sh_u64 h5
  exact ⟨⟨t, n, m, p, q, r⟩, rfl⟩
theorem sh_sigs {k : Nat} {ds : List D} (h : Sh Tryz.prog (k + 3) 42 ds) : ∃ l : List RSig, ds = [.list false (l.map RSig.d)] := by
  unfold Sh at h
  rw [Tryz.underlying42] at h
  obtain ⟨rows, h1, h2⟩ := h
  obtain ⟨l, rfl⟩ := rows_of RSig.d rows fun r hr => sh_sig (h2 r hr)
  exact ⟨l, h1⟩
theorem sh_sgd {k : Nat} {ds : List D} (h : Sh Tryz.prog (k + 5) 44 ds) : ∃ s : Sgd, ds = s.d := by
  unfold Sh at h
  rw [Tryz.underlying44] at h
  obtain ⟨a0, b0, rfl, h0, a1, b1, rfl, h1, rfl⟩ := h
  obtain ⟨s, rfl⟩ := sh_set h0
  obtain ⟨l, rfl⟩ := sh_sigs h1
  exact ⟨⟨s, l⟩, rfl⟩
theorem sh_sgds {k : Nat} {ds : List D} (h : Sh Tryz.prog (k + 6) 22 ds) : ∃ l : List Sgd, ds = [.list false (l.map Sgd.d)] := by
  unfold Sh at h
  rw [Tryz.underlying22] at h
  obtain ⟨rows, h1, h2⟩ := h
  obtain ⟨l, rfl⟩ := rows_of Sgd.d rows fun r hr => sh_sgd (h2 r hr)
  exact ⟨l, h1⟩
theorem sh_zon {k : Nat} {ds : List D} (h : Sh Tryz.prog (k + 7) 24 ds) : ∃ s : Zon, ds = s.d := by
  unfold Sh at h
  rw [Tryz.underlying24] at h
  obtain ⟨a0, b0, rfl, h0, a1, b1, rfl, h1, rfl⟩ := h
  obtain ⟨t, rfl⟩ := sh_str h0
  obtain ⟨l, rfl⟩ := sh_sgds h1
  exact ⟨⟨t, l⟩, rfl⟩
theorem sh_qst {k : Nat} {ds : List D} (h : Sh Tryz.prog (k + 2) 27 ds) : ∃ s : Qst, ds = s.d := by
  unfold Sh at h
  rw [Tryz.underlying27] at h
  obtain ⟨a0, b0, rfl, h0, a1, b1, rfl, h1, rfl⟩ := h
  obtain ⟨t, rfl⟩ := sh_str h0
  obtain ⟨n, rfl, _⟩ := sh_int h1
  exact ⟨⟨t, n⟩, rfl⟩
theorem sh_skey {k : Nat} {ds : List D} (h : Sh Tryz.prog (k + 2) 48 ds) : ∃ s : SKey, ds = s.d := by
  unfold Sh at h
  rw [Tryz.underlying48] at h
  obtain ⟨a0, b0, rfl, h0, a1, b1, rfl, h1, rfl⟩ := h
  obtain ⟨n, rfl, _⟩ := sh_int h0
  obtain ⟨m, rfl, _⟩ := sh_int h1
  exact ⟨⟨n, m⟩, rfl⟩
theorem sh_skeys {k : Nat} {ds : List D} (h : Sh Tryz.prog (k + 3) 25 ds) : ∃ l : List SKey, ds = [.list false (l.map SKey.d)] := by
  unfold Sh at h
  rw [Tryz.underlying25] at h
  obtain ⟨rows, h1, h2⟩ := h
  obtain ⟨l, rfl⟩ := rows_of SKey.d rows fun r hr => sh_skey (h2 r hr)
  exact ⟨l, h1⟩
theorem sv_zon {x : D} (h : ShV Tryz.prog 24 x) : ∃ s : Zon, x = .agg s.d := by
  unfold ShV at h
  rw [Tryz.underlying24] at h
  obtain ⟨cs, rfl, h⟩ := h
  obtain ⟨s, rfl⟩ := sh_zon (k := 5) h
  exact ⟨s, rfl⟩
theorem sv_skeys {x : D} (h : ShV Tryz.prog 25 x) : ∃ l : List SKey, x = .list false (l.map SKey.d) := by
  unfold ShV at h
  rw [Tryz.underlying25] at h
  unfold shFuel at h
  obtain ⟨l, h1⟩ := sh_skeys (k := 9) h
  simp only [List.cons.injEq, and_true] at h1
  exact ⟨l, h1⟩
theorem sv_int {x : D} (h : ShV Tryz.prog 3 x) : ∃ n : Int, x = .i n ∧ (Lit.int .i64 n).wf = true := by
  unfold ShV at h
  rw [Tryz.underlying3] at h
  unfold shFuel at h
  obtain ⟨n, h1, h2⟩ := sh_int (k := 11) h
  simp only [List.cons.injEq, and_true] at h1
  exact ⟨n, h1, h2⟩
theorem sv_qst {x : D} (h : ShV Tryz.prog 27 x) : ∃ s : Qst, x = .agg s.d := by
  unfold ShV at h
  rw [Tryz.underlying27] at h
  obtain ⟨cs, rfl, h⟩ := h
  obtain ⟨s, rfl⟩ := sh_qst (k := 10) h
  exact ⟨s, rfl⟩

set_option maxRecDepth 100000
def law3_laid : List (String × DataW Unit) := [("nameplan/record.rules", Rows.laid_nameplan_record_rules)]
theorem law3_own : ownKnob Tryz.prog.godebug = none := by kernel_rfl
theorem law3_args (xs : List D) (h : ShArgs Tryz.prog Tryz.f3.params.toList xs) : PureCt Tryz.prog 3 xs (.b true) := by
  rw [Tryz.params3] at h
  obtain ⟨x0, ys0, rfl, s0, h⟩ := h
  obtain ⟨x1, ys1, rfl, s1, h⟩ := h
  obtain ⟨x2, ys2, rfl, s2, h⟩ := h
  obtain ⟨x3, ys3, rfl, s3, h⟩ := h
  obtain ⟨x4, ys4, rfl, s4, h⟩ := h
  obtain ⟨x5, ys5, rfl, s5, h⟩ := h
  obtain ⟨x6, ys6, rfl, s6, h⟩ := h
  obtain rfl := h
  obtain ⟨z, rfl⟩ := sv_zon s0
  obtain ⟨ks, rfl⟩ := sv_skeys s1
  obtain ⟨fr, rfl, _⟩ := sv_int s2
  obtain ⟨un, rfl, _⟩ := sv_int s3
  obtain ⟨q, rfl⟩ := sv_qst s4
  obtain ⟨tm, rfl, _⟩ := sv_int s5
  obtain ⟨dr, rfl, _⟩ := sv_int s6
  exact lawTS0_ct z ks fr un q tm dr
set_option maxRecDepth 100000 in
theorem law3_gr {W : World} (h : laidMetH Tryz.prog law3_laid W) : Gr Tryz.prog (fun b => b < W.heap.size) W :=
  laid_one (g := 0) (t := 209) (k := 3) (cells := rulesTab) (by kernel_rfl) (by kernel_rfl) (by kernel_rfl) (by kernel_rfl) (of_decide_eq_true (by kernel_rfl)) (by kernel_rfl) (by kernel_rfl)
    (fun x cs e => by
      match x, e with
      | 0, e => exact ⟨rfl, (Option.some.inj e).symm⟩
      | n + 1, e => cases e) (of_decide_eq_true (by kernel_rfl)) h
set_option maxRecDepth 100000 in
theorem law3_lifted (os : Os) (started : os.Started) (H : Type) (enc : TypeId × Value → H) :
    ReturnsInHanded {} Tryz.checked os 3 .any (fun w args => (Rows.topSignedSpec.pre enc Tryz.prog Tryz.f3 [] false w args ∧ laidMetH Tryz.prog law3_laid w) ∧ sizedMet enc Tryz.prog Tryz.f3 (OpenSpec.ofChange Rows.topSignedSpec) false w args)
      (Rows.topSignedSpec.post enc Tryz.prog Tryz.f3 false true false false) := by
  refine returnsInHanded_of_change_and (C := Tryz.checked) (X := fun w _ => laidMetH Tryz.prog law3_laid w) (fun _ _ _ hh h => h.of_heap hh) law3_own started (by kernel_rfl) Tryz.func3
    (ChangeSpec.witness_shaped (enc := enc) (C := Tryz.checked) (os := os) (X := fun w _ => laidMetH Tryz.prog law3_laid w) false (World.laidAll Tryz.prog os law3_laid) #[.agg #[.string ⟨#[]⟩, .slice none 0 0], .slice none 0 0, .int .i64 0, .int .i64 0, .agg #[.string ⟨#[]⟩, .int .i64 0], .int .i64 0, .int .i64 0] 8 (World.laidAll_os _ _ _) (World.shaped_of_ZipB (by kernel_rfl) (by kernel_rfl)) (by kernel_rfl) (by kernel_rfl) (by kernel_rfl)
      (by rw [MakeChecks.laidMetH_plain _ _ _ (by kernel_rfl)]; exact laidMet_laidAll _ (by kernel_rfl) (by kernel_rfl))) ?_
  intro W base args ds gs before hval hW _ _ hL _
  refine law_contract_g (P := Tryz.prog) (f := 3) (fn := Tryz.f3) (tb := 4) (by kernel_rfl) rfl rfl Tryz.underlying4 (by kernel_rfl) (fun ds hd => ?_) law3_args W base args ds gs before (law3_gr hL) hval hW
  rw [Tryz.params3] at hd
  match ds, hd with
  | [d0, d1, d2, d3, d4, d5, d6], _ => rfl
theorem law3_inPlace : Tryz.pinned.checked.prog.inPlace 3 = Rows.topSignedRow.inPlace := by kernel_rfl
theorem law3_unfollowed : Tryz.pinned.checked.prog.unfollowed 3 = Rows.topSignedRow.unfollowed := by kernel_rfl
theorem law3_recurses : Tryz.pinned.checked.prog.recurses 3 = Rows.topSignedRow.recurses := by kernel_rfl
theorem law3_varsNamed : Tryz.pinned.checked.prog.varsNamed 3 = Rows.topSignedRow.named := by kernel_rfl
theorem law3_closed : joinedFacts Tryz.pinned.checked.prog 3 Tryz.f3 Rows.topSignedSpec Rows.topSignedRow = true := by
  unfold joinedFacts
  rw [law3_inPlace, law3_unfollowed, law3_recurses, law3_varsNamed]
  kernel_rfl
theorem law3_goes : false = OpenClaim.goesBy Rows.topSignedRow Tryz.pinned.checked.prog := by kernel_rfl
theorem law3_looks : (Rows.topSignedCard).stood.looks = Tryz.pinned.checked.prog.looks [] := by kernel_rfl
theorem law3_row : Rows.TopSignedSaid :=
  OpenClaim.holds_of_wide 3 Tryz.f3 rfl rfl rfl rfl rfl rfl rfl ⟨rfl, rfl, rfl, rfl, rfl⟩ rfl rfl rfl rfl rfl (by kernel_rfl) Tryz.func3 law3_closed
    (of_decide_eq_true (by kernel_rfl)) (by unfold Func.isWrapper; first | (rw [if_pos (by decide +kernel)]; kernel_rfl) | (rw [if_neg (by decide +kernel)]; exact ⟨rfl, rfl⟩))
    (fun os started H enc _ => law3_lifted os started H enc)
/-- THE STATEMENT. -/
theorem topSigned_card_holds : Rows.TopSignedCardSaid :=
  Claim7.holds_tied_plain_at .later [] [.data] true (true, "3d7af8d62d7e7941f3e42890f3d11df56d21d3bf3d08ba9f143097f0972a9761") false law3_row (fun _ h => by cases h) (by kernel_rfl) (fun _ h => by cases h) topSigned_row_tie rfl ⟨rfl, rfl⟩ (by kernel_rfl) rfl
    (fun f fn hf hfn => by
      obtain rfl : f = 3 := Option.some.inj ((show Tryz.prog.funcNamed "nameplan/nameplantop.TopSigned" = some 3 by kernel_rfl).symm.trans hf) |>.symm
      obtain rfl : fn = Tryz.f3 := (Option.some.inj (Tryz.func3.symm.trans hfn)).symm
      exact ⟨law3_looks, fun j t ht => by
        rw [Tryz.params3] at ht
        have hm : t ∈ [24, 25, 3, 3, 27, 3, 3] := by simpa using Array.mem_of_getElem? ht
        have hall : ([24, 25, 3, 3, 27, 3, 3].all fun u => !Tryz.prog.wantsStandIn u) = true := by kernel_rfl
        exact (show Tryz.prog.wantsStandIn t = false by simpa using List.all_eq_true.1 hall t hm)⟩)
    law3_goes
end Go.Proofs.YtdcenbhgholncaaGreatDoor
