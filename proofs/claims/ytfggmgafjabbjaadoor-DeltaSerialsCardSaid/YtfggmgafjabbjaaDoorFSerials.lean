/-
  PROVED: the given card DeltaSerialsCardSaid: for every input the law DeltaSerials answers true, and leaves its arguments as they were. Conditions: the listed variable holds what the program lays in it (the tie is given).
-/
import Derived.Test.YtfggmgafjabbjaaDoorRows
import Derived.Test.YtfggmgafjabbjaaDoorTie
import Derived.Test.YtfggmgafjabbjaaDoorCards
import Derived.JoinedOf
import Derived.Handed
import Derived.LaidMore
import Derived.LaidLaws
import Derived.Lay
import Derived.SevenTiedAt
import Derived.Test.YtfggmgafjabbjaaDoorMS1
import Derived.Test.YtfggmgafjabbjaaDoorMS2
import Derived.Test.YtfggmgafjabbjaaDoorMS3
import Derived.Test.YtfggmgafjabbjaaDoorMS4
namespace Go.Proofs.YtfggmgafjabbjaaDoor
open Go.DL Go.Str Go.Rec Go.Zon Go.ChangeShapes Go.WideShapes Go.RowKit
set_option maxRecDepth 100000
theorem sv_u16 {x : D} (h : ShV Tryd.prog 43 x) : ∃ n : Int, x = .v (.int .u16 n) ∧ (0 ≤ n ∧ n < 65536) := by
  unfold ShV at h
  rw [Tryd.underlying43] at h
  unfold shFuel Sh at h
  rw [Tryd.underlying43] at h
  obtain ⟨n, h1, h2⟩ := h
  simp only [List.cons.injEq, and_true] at h1
  simp [Lit.wf, IntKind.min, IntKind.max, IntKind.signed, IntKind.bits] at h2
  exact ⟨n, h1, by omega⟩

set_option maxRecDepth 100000
def law7_laid : List (String × DataW Unit) := [("nameplan/record.rules", Rows.laid_nameplan_record_rules)]
theorem law7_own : ownKnob Tryd.prog.godebug = none := by kernel_rfl
theorem law7_args (xs : List D) (h : ShArgs Tryd.prog Tryd.f7.params.toList xs) : PureCt Tryd.prog 7 xs (.b true) := by
  rw [Tryd.params7] at h
  obtain ⟨x0, ys0, rfl, s0, h⟩ := h
  obtain ⟨x1, ys1, rfl, s1, h⟩ := h
  obtain ⟨x2, ys2, rfl, s2, h⟩ := h
  obtain rfl := h
  obtain ⟨a, rfl, ha⟩ := sv_u16 s0
  obtain ⟨b, rfl, hb⟩ := sv_u16 s1
  obtain ⟨c, rfl, hc⟩ := sv_u16 s2
  exact lawSerials_ct a b c ha hb hc
set_option maxRecDepth 100000 in
theorem law7_gr {W : World} (h : laidMetH Tryd.prog law7_laid W) : Gr Tryd.prog (fun b => b < W.heap.size) W :=
  laid_one (g := 0) (t := 61) (k := 3) (cells := rulesTab) (by kernel_rfl) (by kernel_rfl) (by kernel_rfl) (by kernel_rfl) (of_decide_eq_true (by kernel_rfl)) (by kernel_rfl) (by kernel_rfl)
    (fun x cs e => by
      match x, e with
      | 0, e => exact ⟨rfl, (Option.some.inj e).symm⟩
      | n + 1, e => cases e) (of_decide_eq_true (by kernel_rfl)) h
set_option maxRecDepth 100000 in
theorem law7_lifted (os : Os) (started : os.Started) (H : Type) (enc : TypeId × Value → H) :
    ReturnsInHanded {} Tryd.checked os 7 .any (fun w args => (Rows.deltaSerialsSpec.pre enc Tryd.prog Tryd.f7 [] false w args ∧ laidMetH Tryd.prog law7_laid w) ∧ sizedMet enc Tryd.prog Tryd.f7 (OpenSpec.ofChange Rows.deltaSerialsSpec) false w args)
      (Rows.deltaSerialsSpec.post enc Tryd.prog Tryd.f7 false true false false) := by
  refine returnsInHanded_of_change_and (C := Tryd.checked) (X := fun w _ => laidMetH Tryd.prog law7_laid w) (fun _ _ _ hh h => h.of_heap hh) law7_own started (by kernel_rfl) Tryd.func7
    (ChangeSpec.witness_shaped (enc := enc) (C := Tryd.checked) (os := os) (X := fun w _ => laidMetH Tryd.prog law7_laid w) false (World.laidAll Tryd.prog os law7_laid) #[.int .u16 0, .int .u16 0, .int .u16 0] 8 (World.laidAll_os _ _ _) (World.shaped_of_ZipB (by kernel_rfl) (by kernel_rfl)) (by kernel_rfl) (by kernel_rfl) (by kernel_rfl)
      (by rw [MakeChecks.laidMetH_plain _ _ _ (by kernel_rfl)]; exact laidMet_laidAll _ (by kernel_rfl) (by kernel_rfl))) ?_
  intro W base args ds gs before hval hW _ _ hL _
  refine law_contract_g (P := Tryd.prog) (f := 7) (fn := Tryd.f7) (tb := 4) (by kernel_rfl) rfl rfl Tryd.underlying4 (by kernel_rfl) (fun ds hd => ?_) law7_args W base args ds gs before (law7_gr hL) hval hW
  rw [Tryd.params7] at hd
  match ds, hd with
  | [d0, d1, d2], _ => rfl
theorem law7_row : Rows.DeltaSerialsSaid :=
  OpenClaim.holds_of_wide 7 Tryd.f7 rfl rfl rfl rfl rfl rfl rfl ⟨rfl, rfl, rfl, rfl, rfl⟩ rfl rfl rfl rfl rfl (by kernel_rfl) Tryd.func7 (by kernel_rfl)
    (of_decide_eq_true (by kernel_rfl)) (by unfold Func.isWrapper; first | (rw [if_pos (by decide +kernel)]; kernel_rfl) | (rw [if_neg (by decide +kernel)]; exact ⟨rfl, rfl⟩))
    (fun os started H enc _ => law7_lifted os started H enc)
/-- THE STATEMENT. -/
theorem deltaSerials_card_holds : Rows.DeltaSerialsCardSaid :=
  Claim7.holds_tied_plain_at .later [] [.data] true (true, "7ff5454d8941030c7907abbbdfe727bed0d01a2a76f250d6977df8f04d78bd99") false law7_row (fun _ h => by cases h) (by kernel_rfl) (fun _ h => by cases h) deltaSerials_row_tie rfl ⟨rfl, rfl⟩ (by kernel_rfl) rfl
    (fun f fn hf hfn => by
      obtain rfl : f = 7 := Option.some.inj ((show Tryd.prog.funcNamed "nameplan/nameplanlaw11.DeltaSerials" = some 7 by kernel_rfl).symm.trans hf) |>.symm
      obtain rfl : fn = Tryd.f7 := (Option.some.inj (Tryd.func7.symm.trans hfn)).symm
      exact ⟨by kernel_rfl, fun j t ht => by
        rw [Tryd.params7] at ht
        have hm : t ∈ [43, 43, 43] := by simpa using Array.mem_of_getElem? ht
        have hall : ([43, 43, 43].all fun u => !Tryd.prog.wantsStandIn u) = true := by kernel_rfl
        exact (show Tryd.prog.wantsStandIn t = false by simpa using List.all_eq_true.1 hall t hm)⟩)
    (by kernel_rfl)
end Go.Proofs.YtfggmgafjabbjaaDoor
