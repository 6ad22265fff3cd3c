/-
  PROVED: the given card JournalMatchesReferenceUptoCardSaid: for every input of at most 1048576 values and letters the law JournalMatchesReference answers true, and leaves its arguments as they were. Conditions: the listed variables hold what the program lays in them (the tie is given).
-/
import Derived.Test.YtjngdcldglkolaaGreatDoorRows
import Derived.Test.YtjngdcldglkolaaGreatDoorTie
import Derived.Test.YtjngdcldglkolaaGreatDoorCards
import Derived.JoinedOf
import Derived.Handed
import Derived.LaidMore
import Derived.LaidLaws
import Derived.Lay
import Derived.SevenTiedAt
import Derived.Deep.DeepHandedRow
import Derived.Test.YtjngdcldglkolaaGreatDoorMQM1
import Derived.Test.YtjngdcldglkolaaGreatDoorMQM2
import Derived.Test.YtjngdcldglkolaaGreatDoorMQM3
import Derived.Test.YtjngdcldglkolaaGreatDoorMQM4
import Derived.Test.YtjngdcldglkolaaGreatDoorMQM5
import Derived.Test.YtjngdcldglkolaaGreatDoorMQM6
namespace Go.Proofs.YtjngdcldglkolaaGreatDoor
open Go.DL Go.Str Go.Rec Go.Zon Go.ChangeShapes Go.WideShapes Go.RowKit
set_option linter.unusedSectionVars false
section
variable [Glob Tryz.prog]
set_option maxRecDepth 100000
theorem rows_of {α : Type} (f : α → List D) : ∀ rows : List (List D), (∀ r ∈ rows, ∃ s, r = f s) → ∃ l : List α, rows = l.map f
  | [], _ => ⟨[], rfl⟩
  | r :: rows, h => by
    obtain ⟨s, hs⟩ := h r (by simp)
    obtain ⟨l, hl⟩ := rows_of f rows fun r hr => h r (by simp [hr])
    exact ⟨s :: l, by rw [hs, hl]; rfl⟩
theorem rows_of2 {α : Type} (f : α → List D) (p : α → Prop) : ∀ rows : List (List D), (∀ r ∈ rows, ∃ s, r = f s ∧ p s) → ∃ l : List α, rows = l.map f ∧ ∀ s ∈ l, p s
  | [], _ => ⟨[], rfl, fun s h => by cases h⟩
  | r :: rows, h => by
    obtain ⟨s, hs, hp⟩ := h r (by simp)
    obtain ⟨l, hl, hq⟩ := rows_of2 f p rows fun r hr => h r (by simp [hr])
    exact ⟨s :: l, by rw [hs, hl]; rfl, fun x hx => (List.mem_cons.1 hx).elim (fun e => e ▸ hp) (hq x)⟩
theorem sh_int {k : Nat} {ds : List D} (h : Sh Tryz.prog (k + 1) 3 ds) : ∃ n : Int, ds = [.i n] ∧ (Lit.int .i64 n).wf = true := by
  unfold Sh at h
  rw [Tryz.underlying3] at h
  exact h
theorem sh_u64 {k : Nat} {ds : List D} (h : Sh Tryz.prog (k + 1) 129 ds) : ∃ n : Int, ds = [.v (.int .u64 n)] ∧ (Lit.int .u64 n).wf = true := by
  unfold Sh at h
  rw [Tryz.underlying129] at h
  exact h
theorem sh_str {k : Nat} {ds : List D} (h : Sh Tryz.prog (k + 1) 9 ds) : ∃ s : Str, ds = [.v (.string (bs s))] := by
  unfold Sh at h
  rw [Tryz.underlying9] at h
  obtain ⟨s, h, _⟩ := h
  exact ⟨s.data.toList, by rw [h]; exact congrArg (fun x => [D.v (.string x)]) (bs_of s)⟩
theorem sh_dat {k : Nat} {ds : List D} (h : Sh Tryz.prog (k + 2) 110 ds) : ∃ s : Dat, ds = s.d := by
  unfold Sh at h
  rw [Tryz.underlying110] at h
  obtain ⟨a0, b0, rfl, h0, a1, b1, rfl, h1, a2, b2, rfl, h2, rfl⟩ := h
  obtain ⟨t, rfl⟩ := sh_str h0
  obtain ⟨n, rfl, _⟩ := sh_int h1
  obtain ⟨m, rfl, _⟩ := sh_int h2
  exact ⟨⟨t, n, m⟩, rfl⟩
theorem sh_dats {k : Nat} {ds : List D} (h : Sh Tryz.prog (k + 3) 61 ds) : ∃ l : List Dat, ds = [.list false (l.map Dat.d)] := by
  unfold Sh at h
  rw [Tryz.underlying61] at h
  obtain ⟨rows, h1, h2⟩ := h
  obtain ⟨l, rfl⟩ := rows_of Dat.d rows fun r hr => sh_dat (h2 r hr)
  exact ⟨l, h1⟩
theorem sh_set {k : Nat} {ds : List D} (h : Sh Tryz.prog (k + 4) 63 ds) : ∃ s : RSet, ds = s.d := by
  unfold Sh at h
  rw [Tryz.underlying63] at h
  obtain ⟨a0, b0, rfl, h0, a1, b1, rfl, h1, a2, b2, rfl, h2, a3, b3, rfl, h3, rfl⟩ := h
  obtain ⟨t, rfl⟩ := sh_str h0
  obtain ⟨n, rfl, _⟩ := sh_int h1
  obtain ⟨m, rfl, _⟩ := sh_int h2
  obtain ⟨l, rfl⟩ := sh_dats h3
  exact ⟨⟨t, n, m, l⟩, rfl⟩
theorem sh_sig2 {k : Nat} {ds : List D} (h : Sh Tryz.prog (k + 2) 160 ds) : ∃ s : RSig, ds = s.d ∧ (0 ≤ s.sum ∧ s.sum < 18446744073709551616) := by
  unfold Sh at h
  rw [Tryz.underlying160] at h
  obtain ⟨a0, b0, rfl, h0, a1, b1, rfl, h1, a2, b2, rfl, h2, a3, b3, rfl, h3, a4, b4, rfl, h4, a5, b5, rfl, h5, rfl⟩ := h
  obtain ⟨t, rfl⟩ := sh_str h0
  obtain ⟨n, rfl, _⟩ := sh_int h1
  obtain ⟨m, rfl, _⟩ := sh_int h2
  obtain ⟨p, rfl, _⟩ := sh_int h3
  obtain ⟨q, rfl, _⟩ := sh_int h4
  obtain ⟨r, rfl, hw⟩ := sh_u64 h5
  simp [Lit.wf, IntKind.min, IntKind.max, IntKind.signed, IntKind.bits] at hw
  exact ⟨⟨t, n, m, p, q, r⟩, rfl, by show 0 ≤ r ∧ r < _; omega⟩
theorem sh_sigs2 {k : Nat} {ds : List D} (h : Sh Tryz.prog (k + 3) 64 ds) : ∃ l : List RSig, ds = [.list false (l.map RSig.d)] ∧ ∀ s ∈ l, 0 ≤ s.sum ∧ s.sum < 18446744073709551616 := by
  unfold Sh at h
  rw [Tryz.underlying64] at h
  obtain ⟨rows, h1, h2⟩ := h
  obtain ⟨l, rfl, h3⟩ := rows_of2 RSig.d _ rows fun r hr => sh_sig2 (h2 r hr)
  exact ⟨l, h1, h3⟩
theorem sh_sgd2 {k : Nat} {ds : List D} (h : Sh Tryz.prog (k + 5) 66 ds) : ∃ s : Sgd, ds = s.d ∧ ∀ g ∈ s.sigs, 0 ≤ g.sum ∧ g.sum < 18446744073709551616 := by
  unfold Sh at h
  rw [Tryz.underlying66] at h
  obtain ⟨a0, b0, rfl, h0, a1, b1, rfl, h1, rfl⟩ := h
  obtain ⟨s, rfl⟩ := sh_set h0
  obtain ⟨l, rfl, h2⟩ := sh_sigs2 h1
  exact ⟨⟨s, l⟩, rfl, h2⟩
theorem sh_sgds2 {k : Nat} {ds : List D} (h : Sh Tryz.prog (k + 6) 26 ds) : ∃ l : List Sgd, ds = [.list false (l.map Sgd.d)] ∧ ∀ s ∈ l, ∀ g ∈ s.sigs, 0 ≤ g.sum ∧ g.sum < 18446744073709551616 := by
  unfold Sh at h
  rw [Tryz.underlying26] at h
  obtain ⟨rows, h1, h2⟩ := h
  obtain ⟨l, rfl, h3⟩ := rows_of2 Sgd.d _ rows fun r hr => sh_sgd2 (h2 r hr)
  exact ⟨l, h1, h3⟩
theorem sh_qst {k : Nat} {ds : List D} (h : Sh Tryz.prog (k + 2) 86 ds) : ∃ s : Qst, ds = s.d := by
  unfold Sh at h
  rw [Tryz.underlying86] at h
  obtain ⟨a0, b0, rfl, h0, a1, b1, rfl, h1, rfl⟩ := h
  obtain ⟨t, rfl⟩ := sh_str h0
  obtain ⟨n, rfl, _⟩ := sh_int h1
  exact ⟨⟨t, n⟩, rfl⟩
theorem sh_qsts {k : Nat} {ds : List D} (h : Sh Tryz.prog (k + 3) 29 ds) : ∃ l : List Qst, ds = [.list false (l.map Qst.d)] := by
  unfold Sh at h
  rw [Tryz.underlying29] at h
  obtain ⟨rows, h1, h2⟩ := h
  obtain ⟨l, rfl⟩ := rows_of Qst.d rows fun r hr => sh_qst (h2 r hr)
  exact ⟨l, h1⟩
theorem sh_byte {k : Nat} {ds : List D} (h : Sh Tryz.prog (k + 1) 5 ds) : ∃ b : UInt8, ds = bD b := by
  unfold Sh at h
  rw [Tryz.underlying5] at h
  obtain ⟨n, rfl, hw⟩ := h
  simp [Lit.wf, IntKind.min, IntKind.max, IntKind.signed, IntKind.bits] at hw
  refine ⟨UInt8.ofNat n.toNat, ?_⟩
  have e : ((UInt8.ofNat n.toNat).toNat : Int) = n := by
    rw [UInt8.toNat_ofNat']
    omega
  unfold bD
  rw [e]
theorem sh_bytes {k : Nat} {ds : List D} (h : Sh Tryz.prog (k + 2) 22 ds) : ∃ l : Str, ds = Jn.byR l := by
  unfold Sh at h
  rw [Tryz.underlying22] at h
  obtain ⟨rows, h1, h2⟩ := h
  obtain ⟨l, rfl⟩ := rows_of bD rows fun r hr => sh_byte (h2 r hr)
  exact ⟨l, h1⟩
theorem sh_pends {k : Nat} {ds : List D} (h : Sh Tryz.prog (k + 3) 23 ds) : ∃ l : List Str, ds = [.list false (l.map Jn.byR)] := by
  unfold Sh at h
  rw [Tryz.underlying23] at h
  obtain ⟨rows, h1, h2⟩ := h
  obtain ⟨l, rfl⟩ := rows_of Jn.byR rows fun r hr => sh_bytes (h2 r hr)
  exact ⟨l, h1⟩
theorem sv_dsk {x : D} (h : ShV Tryz.prog 25 x) : ∃ d : Jn.Dsk, x = .agg d.d := by
  unfold ShV at h
  rw [Tryz.underlying25] at h
  obtain ⟨cs, rfl, h⟩ := h
  unfold shFuel Sh at h
  rw [Tryz.underlying25] at h
  obtain ⟨a0, b0, rfl, h0, a1, b1, rfl, h1, rfl⟩ := h
  obtain ⟨s, rfl⟩ := sh_bytes h0
  obtain ⟨l, rfl⟩ := sh_pends h1
  exact ⟨⟨s, l⟩, rfl⟩
theorem cnt_pend : ∀ l : List Str, cntr (l.map Jn.byR) = (Jn.catB l).length + l.length
  | [] => rfl
  | p :: l => by
    rw [List.map_cons, List.length_cons]
    show cnts (Jn.byR p) + cntr (l.map Jn.byR) = _
    rw [cnt_pend l, Jn.catB_cons, List.length_append]
    simp only [Jn.byR, cnts, D.cnt, cntr_bD]
    omega
theorem cnt_dsk {d : Jn.Dsk} {xs : List D} (h : cnts (.agg d.d :: xs) ≤ 1048576) : d.safe.length + (Jn.catB d.pend).length ≤ 2000000 ∧ d.pend.length ≤ 2000000 := by
  have e : cnts (.agg d.d :: xs) = (cntr (d.safe.map bD) + 1 + (cntr (d.pend.map Jn.byR) + 1 + 0)) + cnts xs := rfl
  rw [e, cntr_bD, cnt_pend] at h
  omega
theorem sv_zon2 {x : D} (h : ShV Tryz.prog 28 x) : ∃ s : Zon, x = .agg s.d ∧ Jn.SumZ s := by
  unfold ShV at h
  rw [Tryz.underlying28] at h
  obtain ⟨cs, rfl, h⟩ := h
  unfold shFuel Sh at h
  rw [Tryz.underlying28] at h
  obtain ⟨a0, b0, rfl, h0, a1, b1, rfl, h1, rfl⟩ := h
  obtain ⟨t, rfl⟩ := sh_str h0
  obtain ⟨l, rfl, h2⟩ := sh_sgds2 h1
  exact ⟨⟨t, l⟩, rfl, h2⟩
theorem sv_dlt2 {x : D} (h : ShV Tryz.prog 31 x) : ∃ s : Dlt, x = .agg s.d ∧ Jn.SumD s := by
  unfold ShV at h
  rw [Tryz.underlying31] at h
  obtain ⟨cs, rfl, h⟩ := h
  unfold shFuel Sh at h
  rw [Tryz.underlying31] at h
  obtain ⟨a0, b0, rfl, h0, a1, b1, rfl, h1, a2, b2, rfl, h2, a3, b3, rfl, h3, a4, b4, rfl, h4, rfl⟩ := h
  obtain ⟨t, rfl⟩ := sh_str h0
  obtain ⟨n, rfl, _⟩ := sh_int h1
  obtain ⟨m, rfl, _⟩ := sh_int h2
  obtain ⟨q, rfl⟩ := sh_qsts h3
  obtain ⟨l, rfl, hl⟩ := sh_sgds2 h4
  exact ⟨⟨t, n, m, q, l⟩, rfl, hl⟩
theorem sv_int {x : D} (h : ShV Tryz.prog 3 x) : ∃ n : Int, x = .i n ∧ (Lit.int .i64 n).wf = true := by
  unfold ShV at h
  rw [Tryz.underlying3] at h
  unfold shFuel at h
  obtain ⟨n, h1, h2⟩ := sh_int (k := 11) h
  simp only [List.cons.injEq, and_true] at h1
  exact ⟨n, h1, h2⟩
end
theorem law3_own : ownKnob Tryz.prog.godebug = none := by kernel_rfl
set_option maxRecDepth 100000 in
theorem law3_args [Glob Tryz.prog] [Told] (xs : List D) (h : ShArgs Tryz.prog Tryz.f3.params.toList xs) (hb : cnts xs ≤ 1048576) : PureCt Tryz.prog 3 xs (.b true) := by
  rw [Tryz.params3] at h
  obtain ⟨x0, ys0, rfl, s0, h⟩ := h
  obtain ⟨x1, ys1, rfl, s1, h⟩ := h
  obtain ⟨x2, ys2, rfl, s2, h⟩ := h
  obtain ⟨x3, ys3, rfl, s3, h⟩ := h
  obtain ⟨x4, ys4, rfl, s4, h⟩ := h
  obtain rfl := h
  obtain ⟨d, rfl⟩ := sv_dsk s0
  obtain ⟨z, rfl, hz⟩ := sv_zon2 s1
  obtain ⟨x, rfl, hx⟩ := sv_dlt2 s2
  obtain ⟨n, rfl, _⟩ := sv_int s3
  obtain ⟨c, rfl, _⟩ := sv_int s4
  obtain ⟨hf, hm⟩ := cnt_dsk hb
  exact lawJM_ct d z x n c hf hz hx
set_option maxRecDepth 100000 in
theorem law3_reads (os : Os) {H : Type} (enc : TypeId × Value → H) : ∃ places, DataW.whole enc Tryz.prog ((World.laidAll Tryz.prog os jlaid).forCall (fun _ _ => 0) ⟨#[], #[.agg #[.slice none 0 0, .slice none 0 0], .agg #[.string ⟨#[]⟩, .slice none 0 0], .agg #[.string ⟨#[]⟩, .int .i64 0, .int .i64 0, .slice none 0 0, .slice none 0 0], .int .i64 0, .int .i64 0], []⟩).memory Tryz.f3.params.toList Rows.journalMatchesReferenceSpec.vars false #[(.agg #[.slice none 0 0, .slice none 0 0] : Value), (.agg #[.string ⟨#[]⟩, .slice none 0 0] : Value), (.agg #[.string ⟨#[]⟩, .int .i64 0, .int .i64 0, .slice none 0 0, .slice none 0 0] : Value), (.int .i64 0 : Value), (.int .i64 0 : Value)].toList 8 = some ([.agg [.nil, .nil], .agg [.lit (.string []), .nil], .agg [.lit (.string []), .lit (.int .i64 0), .lit (.int .i64 0), .nil, .nil], .lit (.int .i64 0), .lit (.int .i64 0)], [], places) :=
  ⟨[], by kernel_rfl⟩
set_option maxRecDepth 100000 in
theorem law3_ok (os : Os) : Input.okWideB Tryz.prog ((World.laidAll Tryz.prog os jlaid).forCall (fun _ _ => 0) ⟨#[], #[.agg #[.slice none 0 0, .slice none 0 0], .agg #[.string ⟨#[]⟩, .slice none 0 0], .agg #[.string ⟨#[]⟩, .int .i64 0, .int .i64 0, .slice none 0 0, .slice none 0 0], .int .i64 0, .int .i64 0], []⟩) 3 ⟨#[], #[.agg #[.slice none 0 0, .slice none 0 0], .agg #[.string ⟨#[]⟩, .slice none 0 0], .agg #[.string ⟨#[]⟩, .int .i64 0, .int .i64 0, .slice none 0 0, .slice none 0 0], .int .i64 0, .int .i64 0], []⟩ = true := by kernel_rfl
set_option maxRecDepth 100000 in
theorem law3_lifted (os : Os) (started : os.Started) (H : Type) (enc : TypeId × Value → H) (F : Stop.Interp) :
    ReturnsInHanded {} Tryz.checked os 3 .any ((Rows.OpenSpec.upto Rows.journalMatchesReferenceSpec).preRow enc Tryz.prog Tryz.f3 Rows.journalMatchesReferenceUptoRow.domain false Rows.journalMatchesReferenceUptoRow.laid) (((Rows.OpenSpec.upto Rows.journalMatchesReferenceSpec).at F).post enc Tryz.prog Tryz.f3 false true false false) := by
  obtain ⟨places, hx⟩ := law3_reads os enc
  refine returnsInHanded_of_row (C := Tryz.checked) (s := Rows.OpenSpec.upto Rows.journalMatchesReferenceSpec) law3_own started (by kernel_rfl) Tryz.func3
    ⟨World.laidAll Tryz.prog os jlaid, fun _ _ => 0, ⟨#[], #[.agg #[.slice none 0 0, .slice none 0 0], .agg #[.string ⟨#[]⟩, .slice none 0 0], .agg #[.string ⟨#[]⟩, .int .i64 0, .int .i64 0, .slice none 0 0, .slice none 0 0], .int .i64 0, .int .i64 0], []⟩, World.laidAll_os _ _ _, World.shaped_of_ZipB (by kernel_rfl) (by kernel_rfl), (Input.okWide_of_okWideB (base := 0) (law3_ok os)).1, (Input.okWide_of_okWideB (law3_ok os)).2,
      OpenSpec.preRow_of_cond 8 hx (by kernel_rfl) (fun k hk => by cases hk; kernel_rfl) (by kernel_rfl) (by show laidMetH _ jlaid _; rw [MakeChecks.laidMetH_plain _ _ _ (by kernel_rfl)]; exact laidMet_laidAll _ (by kernel_rfl) (by kernel_rfl)), by
        simp only [Assume.holds]
        exact ⟨by simp, by simp, fun _ => Modest.zero, by simp, by simp⟩⟩ ?_
  intro W base args ds gs before hval hW _ hcond _ hL _ _
  obtain ⟨a, ha⟩ := told_cells (W := W) hL
  letI : Glob Tryz.prog := ⟨toldF a⟩
  haveI : Told := ⟨a, fun _ => rfl⟩
  have hbulk : Rows.uptoBulkAll ds ≤ 1048576 := by
    have h1 := of_decide_eq_true (hcond _ rfl)
    obtain ⟨p, q, hA, hV, hpq, hfz, hnd⟩ := hW
    cases gs with
    | nil => rwa [List.append_nil] at h1
    | cons g gs => exact False.elim hV
  refine law_contract_u (P := Tryz.prog) (f := 3) (fn := Tryz.f3) (tb := 4) (by kernel_rfl) rfl rfl Tryz.underlying4 (by kernel_rfl) (fun ds hd => ?_) law3_args W base args ds gs before hbulk (fun x cs e => ha x cs e) hval hW
  rw [Tryz.params3] at hd
  match ds, hd with
  | [d0, d1, d2, d3, d4], _ => rfl
theorem law3_inPlace : Tryz.pinned.checked.prog.inPlace 3 = Rows.journalMatchesReferenceUptoRow.inPlace := by kernel_rfl
theorem law3_unfollowed : Tryz.pinned.checked.prog.unfollowed 3 = Rows.journalMatchesReferenceUptoRow.unfollowed := by kernel_rfl
theorem law3_recurses : Tryz.pinned.checked.prog.recurses 3 = Rows.journalMatchesReferenceUptoRow.recurses := by kernel_rfl
theorem law3_varsNamed : Tryz.pinned.checked.prog.varsNamed 3 = Rows.journalMatchesReferenceUptoRow.named := by kernel_rfl
theorem law3_closed : joinedFacts Tryz.pinned.checked.prog 3 Tryz.f3 (Rows.OpenSpec.upto Rows.journalMatchesReferenceSpec).bare Rows.journalMatchesReferenceUptoRow = true := by
  unfold joinedFacts
  rw [law3_inPlace, law3_unfollowed, law3_recurses, law3_varsNamed]
  kernel_rfl
theorem law3_goes : false = OpenClaim.goesBy Rows.journalMatchesReferenceUptoRow Tryz.pinned.checked.prog := by kernel_rfl
theorem law3_looks : (Rows.journalMatchesReferenceUptoCard).stood.looks = Tryz.pinned.checked.prog.looks [] := by kernel_rfl
theorem law3_row : Rows.JournalMatchesReferenceUptoSaid :=
  OpenClaim.holds_of_cond 3 Tryz.f3 rfl rfl rfl rfl rfl rfl rfl ⟨rfl, rfl, rfl, rfl, rfl⟩ rfl rfl rfl rfl rfl (by kernel_rfl) Tryz.func3 law3_closed
    (of_decide_eq_true (by kernel_rfl)) (by unfold Func.isWrapper; first | (rw [if_pos (by decide +kernel)]; kernel_rfl) | (rw [if_neg (by decide +kernel)]; exact ⟨rfl, rfl⟩))
    (fun os started H enc _ F => by rw [OpenClaim.pre_eq_preRow]; exact law3_lifted os started H enc F)
/-- THE STATEMENT. -/
theorem journalMatchesReferenceUpto_card_holds : Rows.JournalMatchesReferenceUptoCardSaid :=
  Claim7.holds_tied_plain_at .later [] _ _ _ _ law3_row (fun _ h => by cases h) (by kernel_rfl) (fun _ h => by cases h) journalMatchesReferenceUpto_row_tie rfl ⟨rfl, rfl⟩ (by kernel_rfl) rfl
    (fun f fn hf hfn => by
      obtain rfl : f = 3 := Option.some.inj ((show Tryz.prog.funcNamed "nameplan/nameplanlaw13.JournalMatchesReference" = some 3 by kernel_rfl).symm.trans hf) |>.symm
      obtain rfl : fn = Tryz.f3 := (Option.some.inj (Tryz.func3.symm.trans hfn)).symm
      exact ⟨law3_looks, fun j t ht => by
        rw [Tryz.params3] at ht
        have hm : t ∈ [25, 28, 31, 3, 3] := by simpa using Array.mem_of_getElem? ht
        have hall : ([25, 28, 31, 3, 3].all fun u => !Tryz.prog.wantsStandIn u) = true := by kernel_rfl
        exact (show Tryz.prog.wantsStandIn t = false by simpa using List.all_eq_true.1 hall t hm)⟩)
    law3_goes
end Go.Proofs.YtjngdcldglkolaaGreatDoor
