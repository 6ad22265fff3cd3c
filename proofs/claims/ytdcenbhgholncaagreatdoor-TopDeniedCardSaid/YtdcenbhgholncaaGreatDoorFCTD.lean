/-
  PROVED: the given card TopDeniedCardSaid: for every input the law TopDenied answers true, and leaves its arguments as they were. Conditions: the listed variable holds what the program lays in it (the tie is given).
-/
import Derived.Test.YtdcenbhgholncaaGreatDoorRows
import Derived.Test.YtdcenbhgholncaaGreatDoorTie
import Derived.Test.YtdcenbhgholncaaGreatDoorCards
import Derived.JoinedOf
import Derived.Handed
import Derived.LaidMore
import Derived.LaidLaws
import Derived.Lay
import Derived.SevenTiedAt
import Derived.Test.YtdcenbhgholncaaGreatDoorMTD1
import Derived.Test.YtdcenbhgholncaaGreatDoorMTD2
import Derived.Test.YtdcenbhgholncaaGreatDoorMTD3
import Derived.Test.YtdcenbhgholncaaGreatDoorMTD4
import Derived.Test.YtdcenbhgholncaaGreatDoorMTD5
import Derived.Test.YtdcenbhgholncaaGreatDoorMTD6
import Derived.Test.YtdcenbhgholncaaGreatDoorMTD7
import Derived.Test.YtdcenbhgholncaaGreatDoorMTD8
import Derived.Test.YtdcenbhgholncaaGreatDoorMTD9
namespace Go.Proofs.YtdcenbhgholncaaGreatDoor
open Go.DL Go.Str Go.Rec Go.Zon Go.ChangeShapes Go.WideShapes Go.RowKit
set_option maxRecDepth 100000
theorem rows_of {α : Type} (f : α → List D) : ∀ rows : List (List D), (∀ r ∈ rows, ∃ s, r = f s) → ∃ l : List α, rows = l.map f
  | [], _ => ⟨[], rfl⟩
  | r :: rows, h => by
    obtain ⟨s, hs⟩ := h r (by simp)
    obtain ⟨l, hl⟩ := rows_of f rows fun r hr => h r (by simp [hr])
    exact ⟨s :: l, by rw [hs, hl]; rfl⟩
theorem sh_int {k : Nat} {ds : List D} (h : Sh Tryz.prog (k + 1) 3 ds) : ∃ n : Int, ds = [.i n] ∧ (Lit.int .i64 n).wf = true := by
  unfold Sh at h
  rw [Tryz.underlying3] at h
  exact h
theorem sh_u64 {k : Nat} {ds : List D} (h : Sh Tryz.prog (k + 1) 92 ds) : ∃ n : Int, ds = [.v (.int .u64 n)] ∧ (Lit.int .u64 n).wf = true := by
  unfold Sh at h
  rw [Tryz.underlying92] at h
  exact h
theorem sh_str {k : Nat} {ds : List D} (h : Sh Tryz.prog (k + 1) 9 ds) : ∃ s : Str, ds = [.v (.string (bs s))] := by
  unfold Sh at h
  rw [Tryz.underlying9] at h
  obtain ⟨s, h, _⟩ := h
  exact ⟨s.data.toList, by rw [h]; exact congrArg (fun x => [D.v (.string x)]) (bs_of s)⟩
theorem sh_dat {k : Nat} {ds : List D} (h : Sh Tryz.prog (k + 2) 91 ds) : ∃ s : Dat, ds = s.d := by
  unfold Sh at h
  rw [Tryz.underlying91] at h
  obtain ⟨a0, b0, rfl, h0, a1, b1, rfl, h1, a2, b2, rfl, h2, rfl⟩ := h
  obtain ⟨t, rfl⟩ := sh_str h0
  obtain ⟨n, rfl, _⟩ := sh_int h1
  obtain ⟨m, rfl, _⟩ := sh_int h2
  exact ⟨⟨t, n, m⟩, rfl⟩
theorem sh_dats {k : Nat} {ds : List D} (h : Sh Tryz.prog (k + 3) 39 ds) : ∃ l : List Dat, ds = [.list false (l.map Dat.d)] := by
  unfold Sh at h
  rw [Tryz.underlying39] at h
  obtain ⟨rows, h1, h2⟩ := h
  obtain ⟨l, rfl⟩ := rows_of Dat.d rows fun r hr => sh_dat (h2 r hr)
  exact ⟨l, h1⟩
theorem sh_set {k : Nat} {ds : List D} (h : Sh Tryz.prog (k + 4) 41 ds) : ∃ s : RSet, ds = s.d := by
  unfold Sh at h
  rw [Tryz.underlying41] at h
  obtain ⟨a0, b0, rfl, h0, a1, b1, rfl, h1, a2, b2, rfl, h2, a3, b3, rfl, h3, rfl⟩ := h
  obtain ⟨t, rfl⟩ := sh_str h0
  obtain ⟨n, rfl, _⟩ := sh_int h1
  obtain ⟨m, rfl, _⟩ := sh_int h2
  obtain ⟨l, rfl⟩ := sh_dats h3
  exact ⟨⟨t, n, m, l⟩, rfl⟩
theorem sh_sig {k : Nat} {ds : List D} (h : Sh Tryz.prog (k + 2) 94 ds) : ∃ s : RSig, ds = s.d := by
  unfold Sh at h
  rw [Tryz.underlying94] at h
  obtain ⟨a0, b0, rfl, h0, a1, b1, rfl, h1, a2, b2, rfl, h2, a3, b3, rfl, h3, a4, b4, rfl, h4, a5, b5, rfl, h5, rfl⟩ := h
  obtain ⟨t, rfl⟩ := sh_str h0
  obtain ⟨n, rfl, _⟩ := sh_int h1
  obtain ⟨m, rfl, _⟩ := sh_int h2
  obtain ⟨p, rfl, _⟩ := sh_int h3
  obtain ⟨q, rfl, _⟩ := sh_int h4
  obtain ⟨r, rfl, _⟩ := sh_u64 h5
  exact ⟨⟨t, n, m, p, q, r⟩, rfl⟩
theorem sh_sigs {k : Nat} {ds : List D} (h : Sh Tryz.prog (k + 3) 42 ds) : ∃ l : List RSig, ds = [.list false (l.map RSig.d)] := by
  unfold Sh at h
  rw [Tryz.underlying42] at h
  obtain ⟨rows, h1, h2⟩ := h
  obtain ⟨l, rfl⟩ := rows_of RSig.d rows fun r hr => sh_sig (h2 r hr)
  exact ⟨l, h1⟩
theorem sh_sgd {k : Nat} {ds : List D} (h : Sh Tryz.prog (k + 5) 44 ds) : ∃ s : Sgd, ds = s.d := by
  unfold Sh at h
  rw [Tryz.underlying44] at h
  obtain ⟨a0, b0, rfl, h0, a1, b1, rfl, h1, rfl⟩ := h
  obtain ⟨s, rfl⟩ := sh_set h0
  obtain ⟨l, rfl⟩ := sh_sigs h1
  exact ⟨⟨s, l⟩, rfl⟩
theorem sh_sgds {k : Nat} {ds : List D} (h : Sh Tryz.prog (k + 6) 22 ds) : ∃ l : List Sgd, ds = [.list false (l.map Sgd.d)] := by
  unfold Sh at h
  rw [Tryz.underlying22] at h
  obtain ⟨rows, h1, h2⟩ := h
  obtain ⟨l, rfl⟩ := rows_of Sgd.d rows fun r hr => sh_sgd (h2 r hr)
  exact ⟨l, h1⟩
theorem sh_zon {k : Nat} {ds : List D} (h : Sh Tryz.prog (k + 7) 24 ds) : ∃ s : Zon, ds = s.d := by
  unfold Sh at h
  rw [Tryz.underlying24] at h
  obtain ⟨a0, b0, rfl, h0, a1, b1, rfl, h1, rfl⟩ := h
  obtain ⟨t, rfl⟩ := sh_str h0
  obtain ⟨l, rfl⟩ := sh_sgds h1
  exact ⟨⟨t, l⟩, rfl⟩
theorem sh_qst {k : Nat} {ds : List D} (h : Sh Tryz.prog (k + 2) 27 ds) : ∃ s : Qst, ds = s.d := by
  unfold Sh at h
  rw [Tryz.underlying27] at h
  obtain ⟨a0, b0, rfl, h0, a1, b1, rfl, h1, rfl⟩ := h
  obtain ⟨t, rfl⟩ := sh_str h0
  obtain ⟨n, rfl, _⟩ := sh_int h1
  exact ⟨⟨t, n⟩, rfl⟩
theorem sv_zon {x : D} (h : ShV Tryz.prog 24 x) : ∃ s : Zon, x = .agg s.d := by
  unfold ShV at h
  rw [Tryz.underlying24] at h
  obtain ⟨cs, rfl, h⟩ := h
  obtain ⟨s, rfl⟩ := sh_zon (k := 5) h
  exact ⟨s, rfl⟩
theorem sv_qst {x : D} (h : ShV Tryz.prog 27 x) : ∃ s : Qst, x = .agg s.d := by
  unfold ShV at h
  rw [Tryz.underlying27] at h
  obtain ⟨cs, rfl, h⟩ := h
  obtain ⟨s, rfl⟩ := sh_qst (k := 10) h
  exact ⟨s, rfl⟩

set_option maxRecDepth 100000
def law4_laid : List (String × DataW Unit) := [("nameplan/record.rules", Rows.laid_nameplan_record_rules)]
theorem law4_own : ownKnob Tryz.prog.godebug = none := by kernel_rfl
theorem law4_args (xs : List D) (h : ShArgs Tryz.prog Tryz.f4.params.toList xs) : PureCt Tryz.prog 4 xs (.b true) := by
  rw [Tryz.params4] at h
  obtain ⟨x0, ys0, rfl, s0, h⟩ := h
  obtain ⟨x1, ys1, rfl, s1, h⟩ := h
  obtain rfl := h
  obtain ⟨z, rfl⟩ := sv_zon s0
  obtain ⟨q, rfl⟩ := sv_qst s1
  exact lawTD0_ct z q
set_option maxRecDepth 100000 in
theorem law4_gr {W : World} (h : laidMetH Tryz.prog law4_laid W) : Gr Tryz.prog (fun b => b < W.heap.size) W :=
  laid_one (g := 0) (t := 209) (k := 3) (cells := rulesTab) (by kernel_rfl) (by kernel_rfl) (by kernel_rfl) (by kernel_rfl) (of_decide_eq_true (by kernel_rfl)) (by kernel_rfl) (by kernel_rfl)
    (fun x cs e => by
      match x, e with
      | 0, e => exact ⟨rfl, (Option.some.inj e).symm⟩
      | n + 1, e => cases e) (of_decide_eq_true (by kernel_rfl)) h
set_option maxRecDepth 100000 in
theorem law4_lifted (os : Os) (started : os.Started) (H : Type) (enc : TypeId × Value → H) :
    ReturnsInHanded {} Tryz.checked os 4 .any (fun w args => (Rows.topDeniedSpec.pre enc Tryz.prog Tryz.f4 [] false w args ∧ laidMetH Tryz.prog law4_laid w) ∧ sizedMet enc Tryz.prog Tryz.f4 (OpenSpec.ofChange Rows.topDeniedSpec) false w args)
      (Rows.topDeniedSpec.post enc Tryz.prog Tryz.f4 false true false false) := by
  refine returnsInHanded_of_change_and (C := Tryz.checked) (X := fun w _ => laidMetH Tryz.prog law4_laid w) (fun _ _ _ hh h => h.of_heap hh) law4_own started (by kernel_rfl) Tryz.func4
    (ChangeSpec.witness_shaped (enc := enc) (C := Tryz.checked) (os := os) (X := fun w _ => laidMetH Tryz.prog law4_laid w) false (World.laidAll Tryz.prog os law4_laid) #[.agg #[.string ⟨#[]⟩, .slice none 0 0], .agg #[.string ⟨#[]⟩, .int .i64 0]] 8 (World.laidAll_os _ _ _) (World.shaped_of_ZipB (by kernel_rfl) (by kernel_rfl)) (by kernel_rfl) (by kernel_rfl) (by kernel_rfl)
      (by rw [MakeChecks.laidMetH_plain _ _ _ (by kernel_rfl)]; exact laidMet_laidAll _ (by kernel_rfl) (by kernel_rfl))) ?_
  intro W base args ds gs before hval hW _ _ hL _
  refine law_contract_g (P := Tryz.prog) (f := 4) (fn := Tryz.f4) (tb := 4) (by kernel_rfl) rfl rfl Tryz.underlying4 (by kernel_rfl) (fun ds hd => ?_) law4_args W base args ds gs before (law4_gr hL) hval hW
  rw [Tryz.params4] at hd
  match ds, hd with
  | [d0, d1], _ => rfl
theorem law4_inPlace : Tryz.pinned.checked.prog.inPlace 4 = Rows.topDeniedRow.inPlace := by kernel_rfl
theorem law4_unfollowed : Tryz.pinned.checked.prog.unfollowed 4 = Rows.topDeniedRow.unfollowed := by kernel_rfl
theorem law4_recurses : Tryz.pinned.checked.prog.recurses 4 = Rows.topDeniedRow.recurses := by kernel_rfl
theorem law4_varsNamed : Tryz.pinned.checked.prog.varsNamed 4 = Rows.topDeniedRow.named := by kernel_rfl
theorem law4_closed : joinedFacts Tryz.pinned.checked.prog 4 Tryz.f4 Rows.topDeniedSpec Rows.topDeniedRow = true := by
  unfold joinedFacts
  rw [law4_inPlace, law4_unfollowed, law4_recurses, law4_varsNamed]
  kernel_rfl
theorem law4_goes : false = OpenClaim.goesBy Rows.topDeniedRow Tryz.pinned.checked.prog := by kernel_rfl
theorem law4_looks : (Rows.topDeniedCard).stood.looks = Tryz.pinned.checked.prog.looks [] := by kernel_rfl
theorem law4_row : Rows.TopDeniedSaid :=
  OpenClaim.holds_of_wide 4 Tryz.f4 rfl rfl rfl rfl rfl rfl rfl ⟨rfl, rfl, rfl, rfl, rfl⟩ rfl rfl rfl rfl rfl (by kernel_rfl) Tryz.func4 law4_closed
    (of_decide_eq_true (by kernel_rfl)) (by unfold Func.isWrapper; first | (rw [if_pos (by decide +kernel)]; kernel_rfl) | (rw [if_neg (by decide +kernel)]; exact ⟨rfl, rfl⟩))
    (fun os started H enc _ => law4_lifted os started H enc)
/-- THE STATEMENT. -/
theorem topDenied_card_holds : Rows.TopDeniedCardSaid :=
  Claim7.holds_tied_plain_at .later [] [.data] true (true, "3d7af8d62d7e7941f3e42890f3d11df56d21d3bf3d08ba9f143097f0972a9761") false law4_row (fun _ h => by cases h) (by kernel_rfl) (fun _ h => by cases h) topDenied_row_tie rfl ⟨rfl, rfl⟩ (by kernel_rfl) rfl
    (fun f fn hf hfn => by
      obtain rfl : f = 4 := Option.some.inj ((show Tryz.prog.funcNamed "nameplan/nameplantop.TopDenied" = some 4 by kernel_rfl).symm.trans hf) |>.symm
      obtain rfl : fn = Tryz.f4 := (Option.some.inj (Tryz.func4.symm.trans hfn)).symm
      exact ⟨law4_looks, fun j t ht => by
        rw [Tryz.params4] at ht
        have hm : t ∈ [24, 27] := by simpa using Array.mem_of_getElem? ht
        have hall : ([24, 27].all fun u => !Tryz.prog.wantsStandIn u) = true := by kernel_rfl
        exact (show Tryz.prog.wantsStandIn t = false by simpa using List.all_eq_true.1 hall t hm)⟩)
    law4_goes
end Go.Proofs.YtdcenbhgholncaaGreatDoor
