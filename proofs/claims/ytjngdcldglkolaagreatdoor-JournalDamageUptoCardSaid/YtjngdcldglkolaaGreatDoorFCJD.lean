/-
  PROVED: the given card JournalDamageUptoCardSaid: for every input of at most 1048576 values and letters the law JournalDamage answers true, and leaves its arguments as they were. Conditions: the listed variables hold what the program lays in them (the tie is given).
-/
import Derived.Test.YtjngdcldglkolaaGreatDoorRows
import Derived.Test.YtjngdcldglkolaaGreatDoorTie
import Derived.Test.YtjngdcldglkolaaGreatDoorCards
import Derived.JoinedOf
import Derived.Handed
import Derived.LaidMore
import Derived.LaidLaws
import Derived.Lay
import Derived.SevenTiedAt
import Derived.Deep.DeepHandedRow
import Derived.Test.YtjngdcldglkolaaGreatDoorMQY1
import Derived.Test.YtjngdcldglkolaaGreatDoorMQY2
import Derived.Test.YtjngdcldglkolaaGreatDoorMQY3
import Derived.Test.YtjngdcldglkolaaGreatDoorMQY4
import Derived.Test.YtjngdcldglkolaaGreatDoorMQY5
namespace Go.Proofs.YtjngdcldglkolaaGreatDoor
open Go.DL Go.Str Go.Rec Go.Zon Go.ChangeShapes Go.WideShapes Go.RowKit
set_option linter.unusedSectionVars false
section
variable [Glob Tryz.prog]
set_option maxRecDepth 100000
theorem rows_of {α : Type} (f : α → List D) : ∀ rows : List (List D), (∀ r ∈ rows, ∃ s, r = f s) → ∃ l : List α, rows = l.map f
  | [], _ => ⟨[], rfl⟩
  | r :: rows, h => by
    obtain ⟨s, hs⟩ := h r (by simp)
    obtain ⟨l, hl⟩ := rows_of f rows fun r hr => h r (by simp [hr])
    exact ⟨s :: l, by rw [hs, hl]; rfl⟩
theorem sh_byte {k : Nat} {ds : List D} (h : Sh Tryz.prog (k + 1) 5 ds) : ∃ b : UInt8, ds = bD b := by
  unfold Sh at h
  rw [Tryz.underlying5] at h
  obtain ⟨n, rfl, hw⟩ := h
  simp [Lit.wf, IntKind.min, IntKind.max, IntKind.signed, IntKind.bits] at hw
  refine ⟨UInt8.ofNat n.toNat, ?_⟩
  have e : ((UInt8.ofNat n.toNat).toNat : Int) = n := by
    rw [UInt8.toNat_ofNat']
    omega
  unfold bD
  rw [e]
theorem sh_bytes {k : Nat} {ds : List D} (h : Sh Tryz.prog (k + 2) 22 ds) : ∃ l : Str, ds = Jn.byR l := by
  unfold Sh at h
  rw [Tryz.underlying22] at h
  obtain ⟨rows, h1, h2⟩ := h
  obtain ⟨l, rfl⟩ := rows_of bD rows fun r hr => sh_byte (h2 r hr)
  exact ⟨l, h1⟩
theorem sh_pends {k : Nat} {ds : List D} (h : Sh Tryz.prog (k + 3) 23 ds) : ∃ l : List Str, ds = [.list false (l.map Jn.byR)] := by
  unfold Sh at h
  rw [Tryz.underlying23] at h
  obtain ⟨rows, h1, h2⟩ := h
  obtain ⟨l, rfl⟩ := rows_of Jn.byR rows fun r hr => sh_bytes (h2 r hr)
  exact ⟨l, h1⟩
theorem sv_dsk {x : D} (h : ShV Tryz.prog 25 x) : ∃ d : Jn.Dsk, x = .agg d.d := by
  unfold ShV at h
  rw [Tryz.underlying25] at h
  obtain ⟨cs, rfl, h⟩ := h
  unfold shFuel Sh at h
  rw [Tryz.underlying25] at h
  obtain ⟨a0, b0, rfl, h0, a1, b1, rfl, h1, rfl⟩ := h
  obtain ⟨s, rfl⟩ := sh_bytes h0
  obtain ⟨l, rfl⟩ := sh_pends h1
  exact ⟨⟨s, l⟩, rfl⟩
theorem cnt_pend : ∀ l : List Str, cntr (l.map Jn.byR) = (Jn.catB l).length + l.length
  | [] => rfl
  | p :: l => by
    rw [List.map_cons, List.length_cons]
    show cnts (Jn.byR p) + cntr (l.map Jn.byR) = _
    rw [cnt_pend l, Jn.catB_cons, List.length_append]
    simp only [Jn.byR, cnts, D.cnt, cntr_bD]
    omega
theorem cnt_dsk {d : Jn.Dsk} {xs : List D} (h : cnts (.agg d.d :: xs) ≤ 1048576) : d.safe.length + (Jn.catB d.pend).length ≤ 2000000 ∧ d.pend.length ≤ 2000000 := by
  have e : cnts (.agg d.d :: xs) = (cntr (d.safe.map bD) + 1 + (cntr (d.pend.map Jn.byR) + 1 + 0)) + cnts xs := rfl
  rw [e, cntr_bD, cnt_pend] at h
  omega
theorem sv_u16 {x : D} (h : ShV Tryz.prog 54 x) : ∃ n : Int, x = .v (.int .u16 n) ∧ (0 ≤ n ∧ n < 65536) := by
  unfold ShV at h
  rw [Tryz.underlying54] at h
  unfold shFuel Sh at h
  rw [Tryz.underlying54] at h
  obtain ⟨n, h1, h2⟩ := h
  simp only [List.cons.injEq, and_true] at h1
  simp [Lit.wf, IntKind.min, IntKind.max, IntKind.signed, IntKind.bits] at h2
  exact ⟨n, h1, by omega⟩
theorem sv_u8 {x : D} (h : ShV Tryz.prog 5 x) : ∃ n : Int, x = .v (.int .u8 n) ∧ (0 ≤ n ∧ n < 256) := by
  unfold ShV at h
  rw [Tryz.underlying5] at h
  unfold shFuel Sh at h
  rw [Tryz.underlying5] at h
  obtain ⟨n, h1, h2⟩ := h
  simp only [List.cons.injEq, and_true] at h1
  simp [Lit.wf, IntKind.min, IntKind.max, IntKind.signed, IntKind.bits] at h2
  exact ⟨n, h1, by omega⟩
end
theorem law7_own : ownKnob Tryz.prog.godebug = none := by kernel_rfl
set_option maxRecDepth 100000 in
theorem law7_args [Glob Tryz.prog] [Told] (xs : List D) (h : ShArgs Tryz.prog Tryz.f7.params.toList xs) (hb : cnts xs ≤ 1048576) : PureCt Tryz.prog 7 xs (.b true) := by
  rw [Tryz.params7] at h
  obtain ⟨x0, ys0, rfl, s0, h⟩ := h
  obtain ⟨x1, ys1, rfl, s1, h⟩ := h
  obtain ⟨x2, ys2, rfl, s2, h⟩ := h
  obtain rfl := h
  obtain ⟨d, rfl⟩ := sv_dsk s0
  obtain ⟨n, rfl, hn⟩ := sv_u16 s1
  obtain ⟨c, rfl, hc⟩ := sv_u8 s2
  obtain ⟨hf, hm⟩ := cnt_dsk hb
  exact lawJD_ct d n c hf hn hc
set_option maxRecDepth 100000 in
theorem law7_reads (os : Os) {H : Type} (enc : TypeId × Value → H) : ∃ places, DataW.whole enc Tryz.prog ((World.laidAll Tryz.prog os jlaid).forCall (fun _ _ => 0) ⟨#[], #[.agg #[.slice none 0 0, .slice none 0 0], .int .u16 0, .int .u8 0], []⟩).memory Tryz.f7.params.toList Rows.journalDamageSpec.vars false #[(.agg #[.slice none 0 0, .slice none 0 0] : Value), (.int .u16 0 : Value), (.int .u8 0 : Value)].toList 8 = some ([.agg [.nil, .nil], .lit (.int .u16 0), .lit (.int .u8 0)], [], places) :=
  ⟨[], by kernel_rfl⟩
set_option maxRecDepth 100000 in
theorem law7_ok (os : Os) : Input.okWideB Tryz.prog ((World.laidAll Tryz.prog os jlaid).forCall (fun _ _ => 0) ⟨#[], #[.agg #[.slice none 0 0, .slice none 0 0], .int .u16 0, .int .u8 0], []⟩) 7 ⟨#[], #[.agg #[.slice none 0 0, .slice none 0 0], .int .u16 0, .int .u8 0], []⟩ = true := by kernel_rfl
set_option maxRecDepth 100000 in
theorem law7_lifted (os : Os) (started : os.Started) (H : Type) (enc : TypeId × Value → H) (F : Stop.Interp) :
    ReturnsInHanded {} Tryz.checked os 7 .any ((Rows.OpenSpec.upto Rows.journalDamageSpec).preRow enc Tryz.prog Tryz.f7 Rows.journalDamageUptoRow.domain false Rows.journalDamageUptoRow.laid) (((Rows.OpenSpec.upto Rows.journalDamageSpec).at F).post enc Tryz.prog Tryz.f7 false true false false) := by
  obtain ⟨places, hx⟩ := law7_reads os enc
  refine returnsInHanded_of_row (C := Tryz.checked) (s := Rows.OpenSpec.upto Rows.journalDamageSpec) law7_own started (by kernel_rfl) Tryz.func7
    ⟨World.laidAll Tryz.prog os jlaid, fun _ _ => 0, ⟨#[], #[.agg #[.slice none 0 0, .slice none 0 0], .int .u16 0, .int .u8 0], []⟩, World.laidAll_os _ _ _, World.shaped_of_ZipB (by kernel_rfl) (by kernel_rfl), (Input.okWide_of_okWideB (base := 0) (law7_ok os)).1, (Input.okWide_of_okWideB (law7_ok os)).2,
      OpenSpec.preRow_of_cond 8 hx (by kernel_rfl) (fun k hk => by cases hk; kernel_rfl) (by kernel_rfl) (by show laidMetH _ jlaid _; rw [MakeChecks.laidMetH_plain _ _ _ (by kernel_rfl)]; exact laidMet_laidAll _ (by kernel_rfl) (by kernel_rfl)), by
        simp only [Assume.holds]
        exact ⟨by simp, by simp, fun _ => Modest.zero, by simp, by simp⟩⟩ ?_
  intro W base args ds gs before hval hW _ hcond _ hL _ _
  obtain ⟨a, ha⟩ := told_cells (W := W) hL
  letI : Glob Tryz.prog := ⟨toldF a⟩
  haveI : Told := ⟨a, fun _ => rfl⟩
  have hbulk : Rows.uptoBulkAll ds ≤ 1048576 := by
    have h1 := of_decide_eq_true (hcond _ rfl)
    obtain ⟨p, q, hA, hV, hpq, hfz, hnd⟩ := hW
    cases gs with
    | nil => rwa [List.append_nil] at h1
    | cons g gs => exact False.elim hV
  refine law_contract_u (P := Tryz.prog) (f := 7) (fn := Tryz.f7) (tb := 4) (by kernel_rfl) rfl rfl Tryz.underlying4 (by kernel_rfl) (fun ds hd => ?_) law7_args W base args ds gs before hbulk (fun x cs e => ha x cs e) hval hW
  rw [Tryz.params7] at hd
  match ds, hd with
  | [d0, d1, d2], _ => rfl
theorem law7_inPlace : Tryz.pinned.checked.prog.inPlace 7 = Rows.journalDamageUptoRow.inPlace := by kernel_rfl
theorem law7_unfollowed : Tryz.pinned.checked.prog.unfollowed 7 = Rows.journalDamageUptoRow.unfollowed := by kernel_rfl
theorem law7_recurses : Tryz.pinned.checked.prog.recurses 7 = Rows.journalDamageUptoRow.recurses := by kernel_rfl
theorem law7_varsNamed : Tryz.pinned.checked.prog.varsNamed 7 = Rows.journalDamageUptoRow.named := by kernel_rfl
theorem law7_closed : joinedFacts Tryz.pinned.checked.prog 7 Tryz.f7 (Rows.OpenSpec.upto Rows.journalDamageSpec).bare Rows.journalDamageUptoRow = true := by
  unfold joinedFacts
  rw [law7_inPlace, law7_unfollowed, law7_recurses, law7_varsNamed]
  kernel_rfl
theorem law7_goes : false = OpenClaim.goesBy Rows.journalDamageUptoRow Tryz.pinned.checked.prog := by kernel_rfl
theorem law7_looks : (Rows.journalDamageUptoCard).stood.looks = Tryz.pinned.checked.prog.looks [] := by kernel_rfl
theorem law7_row : Rows.JournalDamageUptoSaid :=
  OpenClaim.holds_of_cond 7 Tryz.f7 rfl rfl rfl rfl rfl rfl rfl ⟨rfl, rfl, rfl, rfl, rfl⟩ rfl rfl rfl rfl rfl (by kernel_rfl) Tryz.func7 law7_closed
    (of_decide_eq_true (by kernel_rfl)) (by unfold Func.isWrapper; first | (rw [if_pos (by decide +kernel)]; kernel_rfl) | (rw [if_neg (by decide +kernel)]; exact ⟨rfl, rfl⟩))
    (fun os started H enc _ F => by rw [OpenClaim.pre_eq_preRow]; exact law7_lifted os started H enc F)
/-- THE STATEMENT. -/
theorem journalDamageUpto_card_holds : Rows.JournalDamageUptoCardSaid :=
  Claim7.holds_tied_plain_at .later [] _ _ _ _ law7_row (fun _ h => by cases h) (by kernel_rfl) (fun _ h => by cases h) journalDamageUpto_row_tie rfl ⟨rfl, rfl⟩ (by kernel_rfl) rfl
    (fun f fn hf hfn => by
      obtain rfl : f = 7 := Option.some.inj ((show Tryz.prog.funcNamed "nameplan/nameplanlaw13.JournalDamage" = some 7 by kernel_rfl).symm.trans hf) |>.symm
      obtain rfl : fn = Tryz.f7 := (Option.some.inj (Tryz.func7.symm.trans hfn)).symm
      exact ⟨law7_looks, fun j t ht => by
        rw [Tryz.params7] at ht
        have hm : t ∈ [25, 54, 5] := by simpa using Array.mem_of_getElem? ht
        have hall : ([25, 54, 5].all fun u => !Tryz.prog.wantsStandIn u) = true := by kernel_rfl
        exact (show Tryz.prog.wantsStandIn t = false by simpa using List.all_eq_true.1 hall t hm)⟩)
    law7_goes
end Go.Proofs.YtjngdcldglkolaaGreatDoor
