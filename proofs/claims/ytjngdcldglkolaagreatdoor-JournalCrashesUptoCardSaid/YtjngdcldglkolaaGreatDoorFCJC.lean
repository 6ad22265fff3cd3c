/-
  PROVED: the given card JournalCrashesUptoCardSaid: for every input of at most 1048576 values and letters the law JournalCrashes answers true, and leaves its arguments as they were. Conditions: the listed variables hold what the program lays in them (the tie is given).
-/
import Derived.Test.YtjngdcldglkolaaGreatDoorRows
import Derived.Test.YtjngdcldglkolaaGreatDoorTie
import Derived.Test.YtjngdcldglkolaaGreatDoorCards
import Derived.JoinedOf
import Derived.Handed
import Derived.LaidMore
import Derived.LaidLaws
import Derived.Lay
import Derived.SevenTiedAt
import Derived.Deep.DeepHandedRow
import Derived.Test.YtjngdcldglkolaaGreatDoorMQY1
import Derived.Test.YtjngdcldglkolaaGreatDoorMQY2
import Derived.Test.YtjngdcldglkolaaGreatDoorMQY3
import Derived.Test.YtjngdcldglkolaaGreatDoorMQY4
import Derived.Test.YtjngdcldglkolaaGreatDoorMQY5
namespace Go.Proofs.YtjngdcldglkolaaGreatDoor
open Go.DL Go.Str Go.Rec Go.Zon Go.ChangeShapes Go.WideShapes Go.RowKit
set_option linter.unusedSectionVars false
section
variable [Glob Tryz.prog]
set_option maxRecDepth 100000
theorem rows_of {α : Type} (f : α → List D) : ∀ rows : List (List D), (∀ r ∈ rows, ∃ s, r = f s) → ∃ l : List α, rows = l.map f
  | [], _ => ⟨[], rfl⟩
  | r :: rows, h => by
    obtain ⟨s, hs⟩ := h r (by simp)
    obtain ⟨l, hl⟩ := rows_of f rows fun r hr => h r (by simp [hr])
    exact ⟨s :: l, by rw [hs, hl]; rfl⟩
theorem sh_int {k : Nat} {ds : List D} (h : Sh Tryz.prog (k + 1) 3 ds) : ∃ n : Int, ds = [.i n] ∧ (Lit.int .i64 n).wf = true := by
  unfold Sh at h
  rw [Tryz.underlying3] at h
  exact h
theorem sh_byte {k : Nat} {ds : List D} (h : Sh Tryz.prog (k + 1) 5 ds) : ∃ b : UInt8, ds = bD b := by
  unfold Sh at h
  rw [Tryz.underlying5] at h
  obtain ⟨n, rfl, hw⟩ := h
  simp [Lit.wf, IntKind.min, IntKind.max, IntKind.signed, IntKind.bits] at hw
  refine ⟨UInt8.ofNat n.toNat, ?_⟩
  have e : ((UInt8.ofNat n.toNat).toNat : Int) = n := by
    rw [UInt8.toNat_ofNat']
    omega
  unfold bD
  rw [e]
theorem sh_bytes {k : Nat} {ds : List D} (h : Sh Tryz.prog (k + 2) 22 ds) : ∃ l : Str, ds = Jn.byR l := by
  unfold Sh at h
  rw [Tryz.underlying22] at h
  obtain ⟨rows, h1, h2⟩ := h
  obtain ⟨l, rfl⟩ := rows_of bD rows fun r hr => sh_byte (h2 r hr)
  exact ⟨l, h1⟩
theorem sh_pends {k : Nat} {ds : List D} (h : Sh Tryz.prog (k + 3) 23 ds) : ∃ l : List Str, ds = [.list false (l.map Jn.byR)] := by
  unfold Sh at h
  rw [Tryz.underlying23] at h
  obtain ⟨rows, h1, h2⟩ := h
  obtain ⟨l, rfl⟩ := rows_of Jn.byR rows fun r hr => sh_bytes (h2 r hr)
  exact ⟨l, h1⟩
theorem sv_dsk {x : D} (h : ShV Tryz.prog 25 x) : ∃ d : Jn.Dsk, x = .agg d.d := by
  unfold ShV at h
  rw [Tryz.underlying25] at h
  obtain ⟨cs, rfl, h⟩ := h
  unfold shFuel Sh at h
  rw [Tryz.underlying25] at h
  obtain ⟨a0, b0, rfl, h0, a1, b1, rfl, h1, rfl⟩ := h
  obtain ⟨s, rfl⟩ := sh_bytes h0
  obtain ⟨l, rfl⟩ := sh_pends h1
  exact ⟨⟨s, l⟩, rfl⟩
theorem cnt_pend : ∀ l : List Str, cntr (l.map Jn.byR) = (Jn.catB l).length + l.length
  | [] => rfl
  | p :: l => by
    rw [List.map_cons, List.length_cons]
    show cnts (Jn.byR p) + cntr (l.map Jn.byR) = _
    rw [cnt_pend l, Jn.catB_cons, List.length_append]
    simp only [Jn.byR, cnts, D.cnt, cntr_bD]
    omega
theorem cnt_dsk {d : Jn.Dsk} {xs : List D} (h : cnts (.agg d.d :: xs) ≤ 1048576) : d.safe.length + (Jn.catB d.pend).length ≤ 2000000 ∧ d.pend.length ≤ 2000000 := by
  have e : cnts (.agg d.d :: xs) = (cntr (d.safe.map bD) + 1 + (cntr (d.pend.map Jn.byR) + 1 + 0)) + cnts xs := rfl
  rw [e, cntr_bD, cnt_pend] at h
  omega
theorem sv_int {x : D} (h : ShV Tryz.prog 3 x) : ∃ n : Int, x = .i n ∧ (Lit.int .i64 n).wf = true := by
  unfold ShV at h
  rw [Tryz.underlying3] at h
  unfold shFuel at h
  obtain ⟨n, h1, h2⟩ := sh_int (k := 11) h
  simp only [List.cons.injEq, and_true] at h1
  exact ⟨n, h1, h2⟩
end
theorem law5_own : ownKnob Tryz.prog.godebug = none := by kernel_rfl
set_option maxRecDepth 100000 in
theorem law5_args [Glob Tryz.prog] [Told] (xs : List D) (h : ShArgs Tryz.prog Tryz.f5.params.toList xs) (hb : cnts xs ≤ 1048576) : PureCt Tryz.prog 5 xs (.b true) := by
  rw [Tryz.params5] at h
  obtain ⟨x0, ys0, rfl, s0, h⟩ := h
  obtain ⟨x1, ys1, rfl, s1, h⟩ := h
  obtain ⟨x2, ys2, rfl, s2, h⟩ := h
  obtain rfl := h
  obtain ⟨d, rfl⟩ := sv_dsk s0
  obtain ⟨n, rfl, _⟩ := sv_int s1
  obtain ⟨c, rfl, _⟩ := sv_int s2
  obtain ⟨hf, hm⟩ := cnt_dsk hb
  exact lawJC_ct d n c hf hm
set_option maxRecDepth 100000 in
theorem law5_reads (os : Os) {H : Type} (enc : TypeId × Value → H) : ∃ places, DataW.whole enc Tryz.prog ((World.laidAll Tryz.prog os jlaid).forCall (fun _ _ => 0) ⟨#[], #[.agg #[.slice none 0 0, .slice none 0 0], .int .i64 0, .int .i64 0], []⟩).memory Tryz.f5.params.toList Rows.journalCrashesSpec.vars false #[(.agg #[.slice none 0 0, .slice none 0 0] : Value), (.int .i64 0 : Value), (.int .i64 0 : Value)].toList 8 = some ([.agg [.nil, .nil], .lit (.int .i64 0), .lit (.int .i64 0)], [], places) :=
  ⟨[], by kernel_rfl⟩
set_option maxRecDepth 100000 in
theorem law5_ok (os : Os) : Input.okWideB Tryz.prog ((World.laidAll Tryz.prog os jlaid).forCall (fun _ _ => 0) ⟨#[], #[.agg #[.slice none 0 0, .slice none 0 0], .int .i64 0, .int .i64 0], []⟩) 5 ⟨#[], #[.agg #[.slice none 0 0, .slice none 0 0], .int .i64 0, .int .i64 0], []⟩ = true := by kernel_rfl
set_option maxRecDepth 100000 in
theorem law5_lifted (os : Os) (started : os.Started) (H : Type) (enc : TypeId × Value → H) (F : Stop.Interp) :
    ReturnsInHanded {} Tryz.checked os 5 .any ((Rows.OpenSpec.upto Rows.journalCrashesSpec).preRow enc Tryz.prog Tryz.f5 Rows.journalCrashesUptoRow.domain false Rows.journalCrashesUptoRow.laid) (((Rows.OpenSpec.upto Rows.journalCrashesSpec).at F).post enc Tryz.prog Tryz.f5 false true false false) := by
  obtain ⟨places, hx⟩ := law5_reads os enc
  refine returnsInHanded_of_row (C := Tryz.checked) (s := Rows.OpenSpec.upto Rows.journalCrashesSpec) law5_own started (by kernel_rfl) Tryz.func5
    ⟨World.laidAll Tryz.prog os jlaid, fun _ _ => 0, ⟨#[], #[.agg #[.slice none 0 0, .slice none 0 0], .int .i64 0, .int .i64 0], []⟩, World.laidAll_os _ _ _, World.shaped_of_ZipB (by kernel_rfl) (by kernel_rfl), (Input.okWide_of_okWideB (base := 0) (law5_ok os)).1, (Input.okWide_of_okWideB (law5_ok os)).2,
      OpenSpec.preRow_of_cond 8 hx (by kernel_rfl) (fun k hk => by cases hk; kernel_rfl) (by kernel_rfl) (by show laidMetH _ jlaid _; rw [MakeChecks.laidMetH_plain _ _ _ (by kernel_rfl)]; exact laidMet_laidAll _ (by kernel_rfl) (by kernel_rfl)), by
        simp only [Assume.holds]
        exact ⟨by simp, by simp, fun _ => Modest.zero, by simp, by simp⟩⟩ ?_
  intro W base args ds gs before hval hW _ hcond _ hL _ _
  obtain ⟨a, ha⟩ := told_cells (W := W) hL
  letI : Glob Tryz.prog := ⟨toldF a⟩
  haveI : Told := ⟨a, fun _ => rfl⟩
  have hbulk : Rows.uptoBulkAll ds ≤ 1048576 := by
    have h1 := of_decide_eq_true (hcond _ rfl)
    obtain ⟨p, q, hA, hV, hpq, hfz, hnd⟩ := hW
    cases gs with
    | nil => rwa [List.append_nil] at h1
    | cons g gs => exact False.elim hV
  refine law_contract_u (P := Tryz.prog) (f := 5) (fn := Tryz.f5) (tb := 4) (by kernel_rfl) rfl rfl Tryz.underlying4 (by kernel_rfl) (fun ds hd => ?_) law5_args W base args ds gs before hbulk (fun x cs e => ha x cs e) hval hW
  rw [Tryz.params5] at hd
  match ds, hd with
  | [d0, d1, d2], _ => rfl
theorem law5_inPlace : Tryz.pinned.checked.prog.inPlace 5 = Rows.journalCrashesUptoRow.inPlace := by kernel_rfl
theorem law5_unfollowed : Tryz.pinned.checked.prog.unfollowed 5 = Rows.journalCrashesUptoRow.unfollowed := by kernel_rfl
theorem law5_recurses : Tryz.pinned.checked.prog.recurses 5 = Rows.journalCrashesUptoRow.recurses := by kernel_rfl
theorem law5_varsNamed : Tryz.pinned.checked.prog.varsNamed 5 = Rows.journalCrashesUptoRow.named := by kernel_rfl
theorem law5_closed : joinedFacts Tryz.pinned.checked.prog 5 Tryz.f5 (Rows.OpenSpec.upto Rows.journalCrashesSpec).bare Rows.journalCrashesUptoRow = true := by
  unfold joinedFacts
  rw [law5_inPlace, law5_unfollowed, law5_recurses, law5_varsNamed]
  kernel_rfl
theorem law5_goes : false = OpenClaim.goesBy Rows.journalCrashesUptoRow Tryz.pinned.checked.prog := by kernel_rfl
theorem law5_looks : (Rows.journalCrashesUptoCard).stood.looks = Tryz.pinned.checked.prog.looks [] := by kernel_rfl
theorem law5_row : Rows.JournalCrashesUptoSaid :=
  OpenClaim.holds_of_cond 5 Tryz.f5 rfl rfl rfl rfl rfl rfl rfl ⟨rfl, rfl, rfl, rfl, rfl⟩ rfl rfl rfl rfl rfl (by kernel_rfl) Tryz.func5 law5_closed
    (of_decide_eq_true (by kernel_rfl)) (by unfold Func.isWrapper; first | (rw [if_pos (by decide +kernel)]; kernel_rfl) | (rw [if_neg (by decide +kernel)]; exact ⟨rfl, rfl⟩))
    (fun os started H enc _ F => by rw [OpenClaim.pre_eq_preRow]; exact law5_lifted os started H enc F)
/-- THE STATEMENT. -/
theorem journalCrashesUpto_card_holds : Rows.JournalCrashesUptoCardSaid :=
  Claim7.holds_tied_plain_at .later [] _ _ _ _ law5_row (fun _ h => by cases h) (by kernel_rfl) (fun _ h => by cases h) journalCrashesUpto_row_tie rfl ⟨rfl, rfl⟩ (by kernel_rfl) rfl
    (fun f fn hf hfn => by
      obtain rfl : f = 5 := Option.some.inj ((show Tryz.prog.funcNamed "nameplan/nameplanlaw13.JournalCrashes" = some 5 by kernel_rfl).symm.trans hf) |>.symm
      obtain rfl : fn = Tryz.f5 := (Option.some.inj (Tryz.func5.symm.trans hfn)).symm
      exact ⟨law5_looks, fun j t ht => by
        rw [Tryz.params5] at ht
        have hm : t ∈ [25, 3, 3] := by simpa using Array.mem_of_getElem? ht
        have hall : ([25, 3, 3].all fun u => !Tryz.prog.wantsStandIn u) = true := by kernel_rfl
        exact (show Tryz.prog.wantsStandIn t = false by simpa using List.all_eq_true.1 hall t hm)⟩)
    law5_goes
end Go.Proofs.YtjngdcldglkolaaGreatDoor
