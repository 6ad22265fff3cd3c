/-
  PROVED: the given card UpdateAddsCardSaid: for every input the law UpdateAdds answers true, and leaves its arguments as they were. Conditions: the listed variable holds what the program lays in it (the tie is given).
-/
import Derived.Test.YtmkblfajmnhccaaGreatDoorRows
import Derived.Test.YtmkblfajmnhccaaGreatDoorTie
import Derived.Test.YtmkblfajmnhccaaGreatDoorCards
import Derived.JoinedOf
import Derived.Handed
import Derived.LaidMore
import Derived.LaidLaws
import Derived.Lay
import Derived.SevenTiedAt
import Derived.Test.YtmkblfajmnhccaaGreatDoorMA1
import Derived.Test.YtmkblfajmnhccaaGreatDoorMA2
import Derived.Test.YtmkblfajmnhccaaGreatDoorMA3
import Derived.Test.YtmkblfajmnhccaaGreatDoorMA4
import Derived.Test.YtmkblfajmnhccaaGreatDoorMA5
import Derived.Test.YtmkblfajmnhccaaGreatDoorMA6
namespace Go.Proofs.YtmkblfajmnhccaaGreatDoor
open Go.DL Go.Str Go.Rec Go.Zon Go.ChangeShapes Go.WideShapes Go.RowKit
set_option maxRecDepth 100000
theorem rows_of {α : Type} (f : α → List D) : ∀ rows : List (List D), (∀ r ∈ rows, ∃ s, r = f s) → ∃ l : List α, rows = l.map f
  | [], _ => ⟨[], rfl⟩
  | r :: rows, h => by
    obtain ⟨s, hs⟩ := h r (by simp)
    obtain ⟨l, hl⟩ := rows_of f rows fun r hr => h r (by simp [hr])
    exact ⟨s :: l, by rw [hs, hl]; rfl⟩
theorem sh_int {k : Nat} {ds : List D} (h : Sh Tryz.prog (k + 1) 3 ds) : ∃ n : Int, ds = [.i n] ∧ (Lit.int .i64 n).wf = true := by
  unfold Sh at h
  rw [Tryz.underlying3] at h
  exact h
theorem sh_u64 {k : Nat} {ds : List D} (h : Sh Tryz.prog (k + 1) 109 ds) : ∃ n : Int, ds = [.v (.int .u64 n)] ∧ (Lit.int .u64 n).wf = true := by
  unfold Sh at h
  rw [Tryz.underlying109] at h
  exact h
theorem sh_str {k : Nat} {ds : List D} (h : Sh Tryz.prog (k + 1) 9 ds) : ∃ s : Str, ds = [.v (.string (bs s))] := by
  unfold Sh at h
  rw [Tryz.underlying9] at h
  obtain ⟨s, h, _⟩ := h
  exact ⟨s.data.toList, by rw [h]; exact congrArg (fun x => [D.v (.string x)]) (bs_of s)⟩
theorem sh_dat {k : Nat} {ds : List D} (h : Sh Tryz.prog (k + 2) 63 ds) : ∃ s : Dat, ds = s.d := by
  unfold Sh at h
  rw [Tryz.underlying63] at h
  obtain ⟨a0, b0, rfl, h0, a1, b1, rfl, h1, a2, b2, rfl, h2, rfl⟩ := h
  obtain ⟨t, rfl⟩ := sh_str h0
  obtain ⟨n, rfl, _⟩ := sh_int h1
  obtain ⟨m, rfl, _⟩ := sh_int h2
  exact ⟨⟨t, n, m⟩, rfl⟩
theorem sh_dats {k : Nat} {ds : List D} (h : Sh Tryz.prog (k + 3) 29 ds) : ∃ l : List Dat, ds = [.list false (l.map Dat.d)] := by
  unfold Sh at h
  rw [Tryz.underlying29] at h
  obtain ⟨rows, h1, h2⟩ := h
  obtain ⟨l, rfl⟩ := rows_of Dat.d rows fun r hr => sh_dat (h2 r hr)
  exact ⟨l, h1⟩
theorem sh_set {k : Nat} {ds : List D} (h : Sh Tryz.prog (k + 4) 31 ds) : ∃ s : RSet, ds = s.d := by
  unfold Sh at h
  rw [Tryz.underlying31] at h
  obtain ⟨a0, b0, rfl, h0, a1, b1, rfl, h1, a2, b2, rfl, h2, a3, b3, rfl, h3, rfl⟩ := h
  obtain ⟨t, rfl⟩ := sh_str h0
  obtain ⟨n, rfl, _⟩ := sh_int h1
  obtain ⟨m, rfl, _⟩ := sh_int h2
  obtain ⟨l, rfl⟩ := sh_dats h3
  exact ⟨⟨t, n, m, l⟩, rfl⟩
theorem sh_sig {k : Nat} {ds : List D} (h : Sh Tryz.prog (k + 2) 111 ds) : ∃ s : RSig, ds = s.d := by
  unfold Sh at h
  rw [Tryz.underlying111] at h
  obtain ⟨a0, b0, rfl, h0, a1, b1, rfl, h1, a2, b2, rfl, h2, a3, b3, rfl, h3, a4, b4, rfl, h4, a5, b5, rfl, h5, rfl⟩ := h
  obtain ⟨t, rfl⟩ := sh_str h0
  obtain ⟨n, rfl, _⟩ := sh_int h1
  obtain ⟨m, rfl, _⟩ := sh_int h2
  obtain ⟨p, rfl, _⟩ := sh_int h3
  obtain ⟨q, rfl, _⟩ := sh_int h4
  obtain ⟨r, rfl, _⟩ := sh_u64 h5
  exact ⟨⟨t, n, m, p, q, r⟩, rfl⟩
theorem sh_sigs {k : Nat} {ds : List D} (h : Sh Tryz.prog (k + 3) 50 ds) : ∃ l : List RSig, ds = [.list false (l.map RSig.d)] := by
  unfold Sh at h
  rw [Tryz.underlying50] at h
  obtain ⟨rows, h1, h2⟩ := h
  obtain ⟨l, rfl⟩ := rows_of RSig.d rows fun r hr => sh_sig (h2 r hr)
  exact ⟨l, h1⟩
theorem sh_sgd {k : Nat} {ds : List D} (h : Sh Tryz.prog (k + 5) 52 ds) : ∃ s : Sgd, ds = s.d := by
  unfold Sh at h
  rw [Tryz.underlying52] at h
  obtain ⟨a0, b0, rfl, h0, a1, b1, rfl, h1, rfl⟩ := h
  obtain ⟨s, rfl⟩ := sh_set h0
  obtain ⟨l, rfl⟩ := sh_sigs h1
  exact ⟨⟨s, l⟩, rfl⟩
theorem sh_sgds {k : Nat} {ds : List D} (h : Sh Tryz.prog (k + 6) 22 ds) : ∃ l : List Sgd, ds = [.list false (l.map Sgd.d)] := by
  unfold Sh at h
  rw [Tryz.underlying22] at h
  obtain ⟨rows, h1, h2⟩ := h
  obtain ⟨l, rfl⟩ := rows_of Sgd.d rows fun r hr => sh_sgd (h2 r hr)
  exact ⟨l, h1⟩
theorem sh_zon {k : Nat} {ds : List D} (h : Sh Tryz.prog (k + 7) 24 ds) : ∃ s : Zon, ds = s.d := by
  unfold Sh at h
  rw [Tryz.underlying24] at h
  obtain ⟨a0, b0, rfl, h0, a1, b1, rfl, h1, rfl⟩ := h
  obtain ⟨t, rfl⟩ := sh_str h0
  obtain ⟨l, rfl⟩ := sh_sgds h1
  exact ⟨⟨t, l⟩, rfl⟩
theorem sv_zon {x : D} (h : ShV Tryz.prog 24 x) : ∃ s : Zon, x = .agg s.d := by
  unfold ShV at h
  rw [Tryz.underlying24] at h
  obtain ⟨cs, rfl, h⟩ := h
  obtain ⟨s, rfl⟩ := sh_zon (k := 5) h
  exact ⟨s, rfl⟩
theorem sv_set {x : D} (h : ShV Tryz.prog 31 x) : ∃ s : RSet, x = .agg s.d := by
  unfold ShV at h
  rw [Tryz.underlying31] at h
  obtain ⟨cs, rfl, h⟩ := h
  obtain ⟨s, rfl⟩ := sh_set (k := 8) h
  exact ⟨s, rfl⟩

set_option maxRecDepth 100000
def law8_laid : List (String × DataW Unit) := [("nameplan/record.rules", Rows.laid_nameplan_record_rules)]
theorem law8_own : ownKnob Tryz.prog.godebug = none := by kernel_rfl
theorem law8_args (xs : List D) (h : ShArgs Tryz.prog Tryz.f8.params.toList xs) : PureCt Tryz.prog 8 xs (.b true) := by
  rw [Tryz.params8] at h
  obtain ⟨x0, ys0, rfl, s0, h⟩ := h
  obtain ⟨x1, ys1, rfl, s1, h⟩ := h
  obtain rfl := h
  obtain ⟨z, rfl⟩ := sv_zon s0
  obtain ⟨s, rfl⟩ := sv_set s1
  exact lawUA_ct z s
set_option maxRecDepth 100000 in
theorem law8_gr {W : World} (h : laidMetH Tryz.prog law8_laid W) : Gr Tryz.prog (fun b => b < W.heap.size) W :=
  laid_one (g := 0) (t := 145) (k := 3) (cells := rulesTab) (by kernel_rfl) (by kernel_rfl) (by kernel_rfl) (by kernel_rfl) (of_decide_eq_true (by kernel_rfl)) (by kernel_rfl) (by kernel_rfl)
    (fun x cs e => by
      match x, e with
      | 0, e => exact ⟨rfl, (Option.some.inj e).symm⟩
      | n + 1, e => cases e) (of_decide_eq_true (by kernel_rfl)) h
set_option maxRecDepth 100000 in
theorem law8_lifted (os : Os) (started : os.Started) (H : Type) (enc : TypeId × Value → H) :
    ReturnsInHanded {} Tryz.checked os 8 .any (fun w args => (Rows.updateAddsSpec.pre enc Tryz.prog Tryz.f8 [] false w args ∧ laidMetH Tryz.prog law8_laid w) ∧ sizedMet enc Tryz.prog Tryz.f8 (OpenSpec.ofChange Rows.updateAddsSpec) false w args)
      (Rows.updateAddsSpec.post enc Tryz.prog Tryz.f8 false true false false) := by
  refine returnsInHanded_of_change_and (C := Tryz.checked) (X := fun w _ => laidMetH Tryz.prog law8_laid w) (fun _ _ _ hh h => h.of_heap hh) law8_own started (by kernel_rfl) Tryz.func8
    (ChangeSpec.witness_shaped (enc := enc) (C := Tryz.checked) (os := os) (X := fun w _ => laidMetH Tryz.prog law8_laid w) false (World.laidAll Tryz.prog os law8_laid) #[.agg #[.string ⟨#[]⟩, .slice none 0 0], .agg #[.string ⟨#[]⟩, .int .i64 0, .int .i64 0, .slice none 0 0]] 8 (World.laidAll_os _ _ _) (World.shaped_of_ZipB (by kernel_rfl) (by kernel_rfl)) (by kernel_rfl) (by kernel_rfl) (by kernel_rfl)
      (by rw [MakeChecks.laidMetH_plain _ _ _ (by kernel_rfl)]; exact laidMet_laidAll _ (by kernel_rfl) (by kernel_rfl))) ?_
  intro W base args ds gs before hval hW _ _ hL _
  refine law_contract_g (P := Tryz.prog) (f := 8) (fn := Tryz.f8) (tb := 4) (by kernel_rfl) rfl rfl Tryz.underlying4 (by kernel_rfl) (fun ds hd => ?_) law8_args W base args ds gs before (law8_gr hL) hval hW
  rw [Tryz.params8] at hd
  match ds, hd with
  | [d0, d1], _ => rfl
theorem law8_row : Rows.UpdateAddsSaid :=
  OpenClaim.holds_of_wide 8 Tryz.f8 rfl rfl rfl rfl rfl rfl rfl ⟨rfl, rfl, rfl, rfl, rfl⟩ rfl rfl rfl rfl rfl (by kernel_rfl) Tryz.func8 (by kernel_rfl)
    (of_decide_eq_true (by kernel_rfl)) (by unfold Func.isWrapper; first | (rw [if_pos (by decide +kernel)]; kernel_rfl) | (rw [if_neg (by decide +kernel)]; exact ⟨rfl, rfl⟩))
    (fun os started H enc _ => law8_lifted os started H enc)
/-- THE STATEMENT. -/
theorem updateAdds_card_holds : Rows.UpdateAddsCardSaid :=
  Claim7.holds_tied_plain_at .later [] [.data] true (true, "ae4fd49694d91b96f5ee8d8434b75f4ff0f6158c5d9c20085ae09407791ed623") true law8_row (fun _ h => by cases h) (by kernel_rfl) (fun _ h => by cases h) updateAdds_row_tie rfl ⟨rfl, rfl⟩ (by kernel_rfl) rfl
    (fun f fn hf hfn => by
      obtain rfl : f = 8 := Option.some.inj ((show Tryz.prog.funcNamed "nameplan/nameplanlaw12.UpdateAdds" = some 8 by kernel_rfl).symm.trans hf) |>.symm
      obtain rfl : fn = Tryz.f8 := (Option.some.inj (Tryz.func8.symm.trans hfn)).symm
      exact ⟨by kernel_rfl, fun j t ht => by
        rw [Tryz.params8] at ht
        have hm : t ∈ [24, 31] := by simpa using Array.mem_of_getElem? ht
        have hall : ([24, 31].all fun u => !Tryz.prog.wantsStandIn u) = true := by kernel_rfl
        exact (show Tryz.prog.wantsStandIn t = false by simpa using List.all_eq_true.1 hall t hm)⟩)
    (by kernel_rfl)
end Go.Proofs.YtmkblfajmnhccaaGreatDoor
