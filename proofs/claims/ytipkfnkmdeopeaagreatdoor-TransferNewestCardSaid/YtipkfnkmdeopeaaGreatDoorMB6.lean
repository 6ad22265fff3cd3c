/-
  MANY TEXTS OF MINE IN ONE (a claim has a limit of files): TlW4. Conditions: none.
-/
import Derived.Test.YtipkfnkmdeopeaaGreatDoorMB5
namespace Go.Proofs.YtipkfnkmdeopeaaGreatDoor
open Go.DL Go.Str Go.Rec Go.Cmp Go.Zon
set_option maxRecDepth 10000
set_option linter.unusedSimpArgs false
set_option linter.unusedVariables false
theorem bo5 : hasBody Tryz.prog 5 = true := by kernel_rfl
theorem lawTI_ct (l : List Zon) (c : Int) (t : Int) (hc : 0 ≤ c ∧ c < 256) (ht : 0 ≤ t ∧ t < 65536) : PureCt Tryz.prog 5 [.list false (l.map Zon.d), .v (.int .u8 c), .v (.int .u16 t)] (.b true) := by
  refine pure_of_dw Tryz.func5 rfl bo5 (by simp [go_sem, D.nr, nrs, nrr]) (by simp [Tryz.f5]) ?_
  unfold Tryz.f5
  simp only [init_eq]
  have ff := True.intro
  have w1 : IntKind.i64.wrap c = c := by rw [IntKind.wrap_i64]; omega
  have w2 : IntKind.i64.wrap t = t := by rw [IntKind.wrap_i64]; omega
  have ff := And.intro @w1 (And.intro @w2 ff)
  refine stp In ?_
  refine stp In ?_ (hok := by (try simp only [go_sem, ff]); all_goals (exact head14_ct))
  refine dw_seq ?_
  refine stp In ?_ (hok := by (try simp only [go_sem, ff]); all_goals (first | done | ((repeat' (with_reducible apply And.intro)) <;> first | exact rfew14_ct l | (intros; exact rfew14_ct l) | exact (fun h => rvers14_ct l (by have := fewL_len h; omega)) | (intros; exact (fun h => rvers14_ct l (by have := fewL_len h; omega))) | omega | (intro h; simp only [Bool.and_eq_true, decide_eq_true_eq] at h; omega) | (intros; omega) | (intros; simp_all; done) | skip)))
  refine cd (fun c1 => ?_) (fun c1 => ?_)
  · skip
    refine stp In ?_
    refine dw_ret ?_
    exact fin 0 (hr := by (try simp only [go_sem, ff]); all_goals (rfl))
  · skip
    have hf : fewL l = true := by grind
    have hvo : versOk l = true := by grind
    have hp : 0 < l.length := by grind
    have hv := vers_iff.1 hvo
    have hll := fewL_len hf
    obtain ⟨j, hj⟩ : ∃ j : Nat, c % (l.length : Int) = j := ⟨(c % (l.length : Int)).toNat, (Int.toNat_of_nonneg (Int.emod_nonneg _ (by omega))).symm⟩
    have hjl : j < l.length := by have := Int.emod_lt_of_pos c (show (0 : Int) < l.length by omega); omega
    have hsj := (serial_ref (hv.ok j hjl)).symm
    have ff := And.intro @hj (And.intro (getD_zon hjl) (And.intro @hsj ff))
    refine dw_skip ?_
    show DW _ _ _ _ _
    refine stp In ?_ (hok := by (try simp only [go_sem, ff]); all_goals (exact ok0))
    have h1 := rser_as (hv.ok j hjl)
    simp only [go_sem, hsj] at h1
    refine stp In ?_ (hok := by (try simp only [go_sem, ff]); all_goals (first | exact ok0 | (apply r06serial_ct <;> omega) | (intros; apply r06serial_ct <;> omega)))
    refine dw_seq ?_
    refine stp In ?_
    refine dw_block ?_
    refine lp (α := (Nat) × Nat) [0, 2, 7, 8, 9, 46, 47] (fun ⟨k, nx⟩ => (k ≤ l.length) ∧ (∀ i, i < k → i ≠ j → serialOf l[i]! ≠ serialOf l[j]!) ∧ True) (fun ⟨k, nx⟩ => l.length - k) (fun ⟨k, nx⟩ => [(48, .i k)]) (fun ⟨k, nx⟩ => []) (fun ⟨k, nx⟩ => nx) (0, _) (hA := ⟨iv, (by first | (intro i hi; omega) | (dsimp only; intro i hi; omega)), trivial⟩) (round := ?_)
    rintro ⟨k, nx⟩ ⟨hk, hu, -⟩
    show DW _ _ _ _ { n := _, t := tab _, h := _, nx := _, e := _ }
    simp only [List.cons_append, List.nil_append]
    refine stp In ?_
    refine dw_seq ?_
    refine cd (fun c2 => ?_) (fun c2 => ?_) (hp := rfl)
    · skip
      have hk2 : k < l.length := by simpa using c2
      have hsk := (serial_ref (hv.ok k hk2)).symm
      have ff := And.intro (getD_zon hk2) (And.intro @hsk ff)
      refine dw_skip ?_
      show DW _ _ _ _ _
      refine dw_seq ?_
      refine dw_block ?_
      refine stp In ?_
      have h2 := rser_as (hv.ok k hk2)
      simp only [go_sem, hsk] at h2
      refine stp In ?_ (hok := by (try simp only [go_sem, ff]); all_goals (first | done | ((repeat' (with_reducible apply And.intro)) <;> first | exact (fun _ => h2) | (intros; exact (fun _ => h2)) | omega | (intro h; simp only [Bool.and_eq_true, decide_eq_true_eq] at h; omega) | (intros; omega) | (intros; simp_all; done) | skip)))
      refine cd (fun c3 => ?_) (fun c3 => ?_)
      · skip
        refine stp In ?_
        refine dw_ret ?_
        exact fin 0 (hr := by (try simp only [go_sem, ff]); all_goals (rfl))
      · skip
        refine dw_skip ?_
        show DW _ _ _ _ _
        refine rgn In ?_
        show ∃ _, _
        exact rnd (k + 1, _) (h1 := ⟨iv, (by (try dsimp only); intro i hi hne; by_cases e : i = k; subst e; intro q; grind; exact hu i (by omega) hne), trivial⟩)
    · skip
      have e8 : k = l.length := by omega
      subst e8
      have hlk : l.length - 1 < l.length := by omega
      have e9 : ((l.length:Int) - 1).toNat = l.length - 1 := by omega
      have hfl := zone_fit (hv.ok _ hlk)
      obtain ⟨e1, e2, _⟩ := pull_diff hv (by omega) hjl (s := ⟨true, l[j]!, 0⟩) ((secOk_iff rfl).2 ⟨⟨Int.le_refl _, by show (0 : Int) ≤ 10000000; omega⟩, hv.ok j hjl⟩) rfl rfl (fun i a b => hu i b (by omega)) (t := t) ht.1 (by omega)
      have e1 : serveF l true (serialOf l[j]!) = (⟨false, zon0, difTo l j (l.length - 1 - j)⟩, 0) := e1
      have e2 : takeF ⟨true, l[j]!, 0⟩ ⟨false, ⟨[], []⟩, difTo l j (l.length - 1 - j)⟩ t = (⟨true, l[l.length - 1]!, t⟩, 0) := e2
      have e3 := serve_none hv (by omega) hp (serialOf l[j]!)
      have e4 : takeF ⟨false, ⟨[], []⟩, 0⟩ ⟨true, l[l.length - 1]!, []⟩ t = (⟨true, l[l.length - 1]!, t⟩, 0) := take_none (hv.ok _ hlk) ht.1 (by omega)
      have hdl := difTo_len l j (l.length - 1 - j)
      have ff := And.intro @e9 (And.intro (getD_zon hlk) (And.intro @e1 (And.intro @e2 (And.intro @e3 (And.intro @e4 (And.intro (@sameZ_self) (And.intro (@sameC_self) ff)))))))
      refine dw_exit ?_
      show DW _ _ _ _ _
      refine stp In ?_ (hok := by (try simp only [go_sem, ff]); all_goals (exact tserve_as e1))
      refine stp In ?_ (hok := by (try simp only [go_sem, ff]); all_goals (exact tserve_as e3))
      refine stp In ?_
      refine dw_seq ?_
      refine stp In ?_ (hok := by (try simp only [go_sem, ff]); all_goals (first | done | ((repeat' (with_reducible apply And.intro)) <;> first | exact (fun _ => rsamez_self9 hfl) | (intros; exact (fun _ => rsamez_self9 hfl)) | exact rsamez_self9 hfl | (intros; exact rsamez_self9 hfl) | omega | (intro h; simp only [Bool.and_eq_true, decide_eq_true_eq] at h; omega) | (intros; omega) | (intros; simp_all; done) | skip)))
      refine cd (fun c4 => ?_) (fun c4 => ?_)
      · skip
        exfalso; first | omega | grind
      · skip
        refine dw_skip ?_
        show DW _ _ _ _ _
        refine stp InF ?_ (hok := by (try simp only [go_sem, ff]); all_goals (first | done | ((repeat' (with_reducible apply And.intro)) <;> first | exact ttake_as (serve_fit e1) e2 | (intros; exact ttake_as (serve_fit e1) e2) | omega | (intro h; simp only [Bool.and_eq_true, decide_eq_true_eq] at h; omega) | (intros; omega) | (intros; simp_all; done) | skip)))
        refine stp In ?_ (hok := by (try simp only [go_sem, ff]); all_goals (first | done | ((repeat' (with_reducible apply And.intro)) <;> first | exact ttake_as (fun i hi => absurd hi (Nat.not_lt_zero _)) e4 | (intros; exact ttake_as (fun i hi => absurd hi (Nat.not_lt_zero _)) e4) | skip)))
        refine stp In ?_ (hok := by (try simp only [go_sem, ff]); all_goals (first | done | ((repeat' (with_reducible apply And.intro)) <;> first | exact (fun _ => rsame14_self (x := ⟨true, l[l.length - 1]!, t⟩) hfl) | (intros; exact (fun _ => rsame14_self (x := ⟨true, l[l.length - 1]!, t⟩) hfl)) | exact (fun _ => rsamez_self9 hfl) | (intros; exact (fun _ => rsamez_self9 hfl)) | omega | (intro h; simp only [Bool.and_eq_true, decide_eq_true_eq] at h; omega) | (intros; omega) | (intros; simp_all; done) | skip)))
        refine dw_ret ?_
        exact fin 0 (hr := by (try simp only [go_sem, ff]); all_goals (first | rfl | (simp; done)))
theorem bo6 : hasBody Tryz.prog 6 = true := by kernel_rfl
theorem lawTL_ct (l : List Zon) (m : List Bool) : PureCt Tryz.prog 6 [.list false (l.map Zon.d), .list false (m.map boD)] (.b true) := by
  refine pure_of_dw Tryz.func6 rfl bo6 (by simp [go_sem, D.nr, nrs, nrr]) (by simp [Tryz.f6]) ?_
  unfold Tryz.f6
  simp only [init_eq]
  have ff := True.intro
  refine stp In ?_
  refine stp In ?_ (hok := by (try simp only [go_sem, ff]); all_goals (exact head14_ct))
  refine dw_seq ?_
  refine stp In ?_ (hok := by (try simp only [go_sem, ff]); all_goals (first | done | ((repeat' (with_reducible apply And.intro)) <;> first | exact rfew14_ct l | (intros; exact rfew14_ct l) | exact (fun h => rvers14_ct l (by have := fewL_len h; omega)) | (intros; exact (fun h => rvers14_ct l (by have := fewL_len h; omega))) | omega | (intro h; simp only [Bool.and_eq_true, decide_eq_true_eq] at h; omega) | (intros; omega) | (intros; simp_all; done) | skip)))
  refine cd (fun c1 => ?_) (fun c1 => ?_)
  · skip
    refine stp In ?_
    refine dw_ret ?_
    exact fin 0 (hr := by (try simp only [go_sem, ff]); all_goals (rfl))
  · skip
    have hf : fewL l = true := by grind
    have hvo : versOk l = true := by grind
    have hp : 0 < l.length := by grind
    have hv := vers_iff.1 hvo
    have hll := fewL_len hf
    refine dw_skip ?_
    show DW _ _ _ _ _
    refine dw_seq ?_
    refine stp In ?_
    refine dw_block ?_
    refine lp (α := (Nat) × Nat) [0, 1, 5, 31] (fun ⟨k, nx⟩ => (k ≤ l.length) ∧ (∀ i, i < k → ∀ k2, k2 < i → serialOf l[i]! ≠ serialOf l[k2]!) ∧ True) (fun ⟨k, nx⟩ => l.length - k) (fun ⟨k, nx⟩ => [(32, .i k)]) (fun ⟨k, nx⟩ => []) (fun ⟨k, nx⟩ => nx) (0, _) (hA := ⟨iv, (by first | (intro i hi; omega) | (dsimp only; intro i hi; omega)), trivial⟩) (round := ?_)
    rintro ⟨k, nx⟩ ⟨hk, hd, -⟩
    show DW _ _ _ _ { n := _, t := tab _, h := _, nx := _, e := _ }
    simp only [List.cons_append, List.nil_append]
    refine stp In ?_
    refine dw_seq ?_
    refine cd (fun c2 => ?_) (fun c2 => ?_) (hp := rfl)
    · skip
      have hk2 : k < l.length := by simpa using c2
      refine dw_skip ?_
      show DW _ _ _ _ _
      refine dw_seq ?_
      refine dw_block ?_
      refine stp In ?_
      refine stp In ?_
      refine dw_block ?_
      refine lp (α := (Nat) × Nat) [0, 1, 5, 6, 31, 32, 35] (fun ⟨k2, nx⟩ => (k2 ≤ k) ∧ (∀ k3, k3 < k2 → serialOf l[k]! ≠ serialOf l[k3]!) ∧ True) (fun ⟨k2, nx⟩ => k - k2) (fun ⟨k2, nx⟩ => [(36, .i k2)]) (fun ⟨k2, nx⟩ => []) (fun ⟨k2, nx⟩ => nx) (0, _) (hA := ⟨iv, (by first | (intro i hi; omega) | (dsimp only; intro i hi; omega)), trivial⟩) (round := ?_)
      rintro ⟨k2, nx⟩ ⟨hkk, hin, -⟩
      show DW _ _ _ _ { n := _, t := tab _, h := _, nx := _, e := _ }
      simp only [List.cons_append, List.nil_append]
      refine stp In ?_
      refine dw_seq ?_
      refine cd (fun c3 => ?_) (fun c3 => ?_) (hp := rfl)
      · skip
        have hk3 : k2 < k := by simpa using c3
        have hk4 : k2 < l.length := by omega
        have hs1 := (serial_ref (hv.ok k hk2)).symm
        have hs2 := (serial_ref (hv.ok k2 hk4)).symm
        have ff := And.intro (getD_zon hk2) (And.intro (getD_zon hk4) (And.intro @hs1 (And.intro @hs2 ff)))
        refine dw_skip ?_
        show DW _ _ _ _ _
        refine dw_seq ?_
        refine dw_block ?_
        refine stp In ?_
        have h1 := rser_as (hv.ok k hk2)
        have h2 := rser_as (hv.ok k2 hk4)
        simp only [go_sem, hs1, hs2] at h1 h2
        refine stp In ?_ (hok := by (try simp only [go_sem, ff]); all_goals (first | exact ok0 | (apply r06serial_ct <;> omega) | (intros; apply r06serial_ct <;> omega)))
        refine cd (fun c4 => ?_) (fun c4 => ?_)
        · skip
          refine stp In ?_
          refine dw_ret ?_
          exact fin 0 (hr := by (try simp only [go_sem, ff]); all_goals (rfl))
        · skip
          refine dw_skip ?_
          show DW _ _ _ _ _
          refine rgn In ?_
          show ∃ _, _
          exact rnd (k2 + 1, _) (h1 := ⟨iv, (by (try dsimp only); intro k3 h3; by_cases e : k3 = k2; subst e; grind; exact hin k3 (by omega)), trivial⟩)
      · skip
        have e7 : k = k2 := by omega
        subst e7
        refine dw_exit ?_
        show DW _ _ _ _ _
        refine rgn In ?_
        show ∃ _, _
        exact rnd (k + 1, _) (h1 := ⟨iv, (by (try dsimp only); intro i hi k3 h3; by_cases e : i = k; subst e; exact hin k3 h3; exact hd i (by omega) k3 h3), trivial⟩)
    · skip
      have e8 : k = l.length := by omega
      subst e8
      have hdd : ∀ i k, k < i → i < l.length → serialOf l[i]! ≠ serialOf l[k]! := fun i k a b => hd i b k a
      refine dw_exit ?_
      show DW _ _ _ _ _
      refine stp In ?_
      refine dw_seq ?_
      refine stp In ?_
      refine dw_block ?_
      have ff := And.intro (lagR_0 l) ff
      refine lp (α := (Nat) × (Nat) × (Nat) × Nat) [0, 1, 5, 54] (fun ⟨k, j, q, nx⟩ => (k ≤ l.length) ∧ (j ≤ k) ∧ (k = l.length → j = l.length) ∧ (q + 1 < nx) ∧ True) (fun ⟨k, j, q, nx⟩ => l.length - k) (fun ⟨k, j, q, nx⟩ => [(8, .mptr q 0 0), (9, .mptr (q + 1) 0 0), (55, .i k)]) (fun ⟨k, j, q, nx⟩ => [(q, ⟨26, [lagR l (k)]⟩), ((q + 1), ⟨26, [lagR l (j)]⟩)]) (fun ⟨k, j, q, nx⟩ => nx) (0, 0, (nx + 1), _) (hA := ⟨(by first | (omega) | (dsimp only; omega)), (by first | (omega) | (dsimp only; omega)), (by first | (intro q; omega) | (dsimp only; intro q; omega)), (by first | (omega) | (dsimp only; omega)), trivial⟩) (round := ?_)
      rintro ⟨k, j, q, nx⟩ ⟨hk, hjl, hjk, hx, -⟩
      show DW _ _ _ _ { n := _, t := tab _, h := _, nx := _, e := _ }
      simp only [List.cons_append, List.nil_append]
      have n0 : q < nx := by omega
      have ff := And.intro @hx (And.intro @n0 ff)
      refine stp In ?_
      refine dw_seq ?_
      refine cd (fun c5 => ?_) (fun c5 => ?_) (hp := rfl)
      · skip
        have hk2 : k < l.length := by simpa using c5
        refine dw_skip ?_
        show DW _ _ _ _ _
        refine dw_seq ?_
        refine dw_block ?_
        refine stp In ?_
        have e1 : ((k:Int) + 1).toNat = k + 1 := by omega
        have hcut : (l.map Zon.d).take (k + 1) = (l.take (k + 1)).map Zon.d := List.map_take.symm
        by_cases hz0 : k = 0
        · skip
          have hrw : lagR l k = [.b false, .v (.string (bs [])), .list true [], .i 0] := by subst hz0; rfl
          have hpp : pullF ⟨false, ⟨[], []⟩, 0⟩ (l.take (k + 1)) (k : Int) = (⟨true, l[k]!, (k : Int)⟩, 0) := by have := lag_pull hv hll hdd (i := k) (j := 0) (by omega) hk2; exact this
          have ff := And.intro @e1 (And.intro @hcut (And.intro @hrw (And.intro @hpp ff)))
          refine stp InF ?_ (hok := by (try simp only [go_sem, ff]); all_goals (first | done | ((repeat' (with_reducible apply And.intro)) <;> first | exact tpull_as hpp | (intros; exact tpull_as hpp) | omega | (intro h; simp only [Bool.and_eq_true, decide_eq_true_eq] at h; omega) | (intros; omega) | (intros; simp_all; done) | skip)))
          refine dw_seq ?_
          refine stp In ?_
          refine cd (fun c6 => ?_) (fun c6 => ?_)
          · skip
            exfalso; first | omega | grind
          · skip
            refine dw_skip ?_
            show DW _ _ _ _ _
            refine stp In ?_
            by_cases hkm : k < m.length
            · skip
              have hd9 : decide ((k:Int) < (m.length:Int)) = true := decide_eq_true (by omega)
              have ff := And.intro @hd9 (And.intro (getD_boo hkm) ff)
              have ff := And.intro (lagR_next l k) ff
              refine dw_cut [0, 1, 5, 8, 9, 10, 54, 55] [(q, ⟨26, [lagR l (k + 1)]⟩), ((q + 1), ⟨26, [lagR l (j)]⟩)] (by simp only [List.map_cons, List.map_nil, go_sem, ff]; exact rfl) (by first | (simp only [go_sem, ff]; done) | (simp [go_sem, ff]; done)) ?_
              show DW _ _ _ _ { n := _, t := tab _, h := _, nx := _, e := _ }
              refine stp In ?_ (hok := by (try simp only [go_sem, ff]); all_goals (first | done | ((repeat' (with_reducible apply And.intro)) <;> first | omega | (intros; omega) | (intro h; rw [Bool.and_false] at h; cases h; done) | (intro h; simp only [Bool.and_eq_true, decide_eq_true_eq] at h; omega) | (intro h; simp at h; done) | trivial | skip)))
              refine cd (fun c7 => ?_) (fun c7 => ?_)
              · skip
                have e1 : ((k:Int) + 1).toNat = k + 1 := by omega
                have hcut : (l.map Zon.d).take (k + 1) = (l.take (k + 1)).map Zon.d := List.map_take.symm
                by_cases hz0 : j = 0
                · skip
                  have hrw : lagR l j = [.b false, .v (.string (bs [])), .list true [], .i 0] := by subst hz0; rfl
                  have hpp : pullF ⟨false, ⟨[], []⟩, 0⟩ (l.take (k + 1)) (k : Int) = (⟨true, l[k]!, (k : Int)⟩, 0) := by have := lag_pull hv hll hdd (i := k) (j := 0) (by omega) hk2; exact this
                  have ff := And.intro @e1 (And.intro @hcut (And.intro @hrw (And.intro @hpp ff)))
                  refine dw_cut [0, 1, 5, 8, 9, 10, 54, 55] [(q, ⟨26, [lagR l (k + 1)]⟩), ((q + 1), ⟨26, [lagR l (j)]⟩)] (by simp only [List.map_cons, List.map_nil, go_sem, ff]; exact rfl) (by first | (simp only [go_sem, ff]; done) | (simp [go_sem, ff]; done)) ?_
                  show DW _ _ _ _ { n := _, t := tab _, h := _, nx := _, e := _ }
                  refine stp InF ?_ (hok := by (try simp only [go_sem, ff]); all_goals (first | done | ((repeat' (with_reducible apply And.intro)) <;> first | exact tpull_as hpp | (intros; exact tpull_as hpp) | omega | (intro h; simp only [Bool.and_eq_true, decide_eq_true_eq] at h; omega) | (intros; omega) | (intros; simp_all; done) | skip)))
                  refine dw_seq ?_
                  refine stp In ?_
                  refine cd (fun c8 => ?_) (fun c8 => ?_)
                  · skip
                    exfalso; first | omega | grind
                  · skip
                    refine dw_skip ?_
                    show DW _ _ _ _ _
                    refine dw_seq ?_
                    refine stp In ?_
                    refine cd (fun c9 => ?_) (fun c9 => ?_)
                    · skip
                      exfalso; first | omega | grind
                    · skip
                      refine dw_skip ?_
                      show DW _ _ _ _ _
                      refine rgn In ?_
                      show DW _ _ _ _ _
                      refine rgn In ?_
                      show ∃ _, _
                      have ff := And.intro (lagR_next l k) ff
                      exact rnd (k + 1, k + 1, q, _) (h1 := ⟨(by first | (omega) | (dsimp only; omega)), (by first | (omega) | (dsimp only; omega)), (by first | (intro q; omega) | (dsimp only; intro q; omega)), (by first | (omega) | (dsimp only; omega)), trivial⟩)
                · skip
                  have hrw : lagR l j = [.b true, .v (.string (bs l[j - 1]!.apex)), .list false (l[j - 1]!.sets.map Sgd.d), .i ((j - 1 : Nat) : Int)] := lagR_some hz0
                  have hpp : pullF ⟨true, l[j - 1]!, ((j - 1 : Nat) : Int)⟩ (l.take (k + 1)) (k : Int) = (⟨true, l[k]!, (k : Int)⟩, 0) := by have := lag_pull hv hll hdd (i := k) (j := j) (by omega) hk2; rw [lagS_some hz0] at this; exact this
                  have ff := And.intro @e1 (And.intro @hcut (And.intro @hrw (And.intro @hpp ff)))
                  refine dw_cut [0, 1, 5, 8, 9, 10, 54, 55] [(q, ⟨26, [lagR l (k + 1)]⟩), ((q + 1), ⟨26, [lagR l (j)]⟩)] (by simp only [List.map_cons, List.map_nil, go_sem, ff]; exact rfl) (by first | (simp only [go_sem, ff]; done) | (simp [go_sem, ff]; done)) ?_
                  show DW _ _ _ _ { n := _, t := tab _, h := _, nx := _, e := _ }
                  refine stp InF ?_ (hok := by (try simp only [go_sem, ff]); all_goals (first | done | ((repeat' (with_reducible apply And.intro)) <;> first | exact tpull_as hpp | (intros; exact tpull_as hpp) | omega | (intro h; simp only [Bool.and_eq_true, decide_eq_true_eq] at h; omega) | (intros; omega) | (intros; simp_all; done) | skip)))
                  refine dw_seq ?_
                  refine stp In ?_
                  refine cd (fun c8 => ?_) (fun c8 => ?_)
                  · skip
                    exfalso; first | omega | grind
                  · skip
                    refine dw_skip ?_
                    show DW _ _ _ _ _
                    refine dw_seq ?_
                    refine stp In ?_
                    refine cd (fun c9 => ?_) (fun c9 => ?_)
                    · skip
                      exfalso; first | omega | grind
                    · skip
                      refine dw_skip ?_
                      show DW _ _ _ _ _
                      refine rgn In ?_
                      show DW _ _ _ _ _
                      refine rgn In ?_
                      show ∃ _, _
                      have ff := And.intro (lagR_next l k) ff
                      exact rnd (k + 1, k + 1, q, _) (h1 := ⟨(by first | (omega) | (dsimp only; omega)), (by first | (omega) | (dsimp only; omega)), (by first | (intro q; omega) | (dsimp only; intro q; omega)), (by first | (omega) | (dsimp only; omega)), trivial⟩)
              · skip
                refine dw_skip ?_
                show DW _ _ _ _ _
                refine rgn In ?_
                show ∃ _, _
                have ff := And.intro (lagR_next l k) ff
                exact rnd (k + 1, j, q, _) (h1 := ⟨(by first | (omega) | (dsimp only; omega)), (by first | (omega) | (dsimp only; omega)), (by first | (intro q; omega) | (dsimp only; intro q; omega)), (by first | (omega) | (dsimp only; omega)), trivial⟩)
            · skip
              have hd9 : decide ((k:Int) < (m.length:Int)) = false := decide_eq_false (by omega)
              have hgd : (m.map boD).getD k [] = [] := by rw [List.getD_eq_getElem?_getD, List.getElem?_eq_none (by simp; omega)]; rfl
              have ff := And.intro @hd9 (And.intro @hgd ff)
              have ff := And.intro (lagR_next l k) ff
              refine dw_cut [0, 1, 5, 8, 9, 10, 54, 55] [(q, ⟨26, [lagR l (k + 1)]⟩), ((q + 1), ⟨26, [lagR l (j)]⟩)] (by simp only [List.map_cons, List.map_nil, go_sem, ff]; exact rfl) (by first | (simp only [go_sem, ff]; done) | (simp [go_sem, ff]; done)) ?_
              show DW _ _ _ _ { n := _, t := tab _, h := _, nx := _, e := _ }
              refine stp In ?_ (hok := by (try simp only [go_sem, ff]); all_goals (first | done | ((repeat' (with_reducible apply And.intro)) <;> first | omega | (intros; omega) | (intro h; rw [Bool.and_false] at h; cases h; done) | (intro h; simp only [Bool.and_eq_true, decide_eq_true_eq] at h; omega) | (intro h; simp at h; done) | trivial | skip)))
              refine cd (fun c7 => ?_) (fun c7 => ?_)
              · skip
                have e1 : ((k:Int) + 1).toNat = k + 1 := by omega
                have hcut : (l.map Zon.d).take (k + 1) = (l.take (k + 1)).map Zon.d := List.map_take.symm
                by_cases hz0 : j = 0
                · skip
                  have hrw : lagR l j = [.b false, .v (.string (bs [])), .list true [], .i 0] := by subst hz0; rfl
                  have hpp : pullF ⟨false, ⟨[], []⟩, 0⟩ (l.take (k + 1)) (k : Int) = (⟨true, l[k]!, (k : Int)⟩, 0) := by have := lag_pull hv hll hdd (i := k) (j := 0) (by omega) hk2; exact this
                  have ff := And.intro @e1 (And.intro @hcut (And.intro @hrw (And.intro @hpp ff)))
                  refine dw_cut [0, 1, 5, 8, 9, 10, 54, 55] [(q, ⟨26, [lagR l (k + 1)]⟩), ((q + 1), ⟨26, [lagR l (j)]⟩)] (by simp only [List.map_cons, List.map_nil, go_sem, ff]; exact rfl) (by first | (simp only [go_sem, ff]; done) | (simp [go_sem, ff]; done)) ?_
                  show DW _ _ _ _ { n := _, t := tab _, h := _, nx := _, e := _ }
                  refine stp InF ?_ (hok := by (try simp only [go_sem, ff]); all_goals (first | done | ((repeat' (with_reducible apply And.intro)) <;> first | exact tpull_as hpp | (intros; exact tpull_as hpp) | omega | (intro h; simp only [Bool.and_eq_true, decide_eq_true_eq] at h; omega) | (intros; omega) | (intros; simp_all; done) | skip)))
                  refine dw_seq ?_
                  refine stp In ?_
                  refine cd (fun c8 => ?_) (fun c8 => ?_)
                  · skip
                    exfalso; first | omega | grind
                  · skip
                    refine dw_skip ?_
                    show DW _ _ _ _ _
                    refine dw_seq ?_
                    refine stp In ?_
                    refine cd (fun c9 => ?_) (fun c9 => ?_)
                    · skip
                      exfalso; first | omega | grind
                    · skip
                      refine dw_skip ?_
                      show DW _ _ _ _ _
                      refine rgn In ?_
                      show DW _ _ _ _ _
                      refine rgn In ?_
                      show ∃ _, _
                      have ff := And.intro (lagR_next l k) ff
                      exact rnd (k + 1, k + 1, q, _) (h1 := ⟨(by first | (omega) | (dsimp only; omega)), (by first | (omega) | (dsimp only; omega)), (by first | (intro q; omega) | (dsimp only; intro q; omega)), (by first | (omega) | (dsimp only; omega)), trivial⟩)
                · skip
                  have hrw : lagR l j = [.b true, .v (.string (bs l[j - 1]!.apex)), .list false (l[j - 1]!.sets.map Sgd.d), .i ((j - 1 : Nat) : Int)] := lagR_some hz0
                  have hpp : pullF ⟨true, l[j - 1]!, ((j - 1 : Nat) : Int)⟩ (l.take (k + 1)) (k : Int) = (⟨true, l[k]!, (k : Int)⟩, 0) := by have := lag_pull hv hll hdd (i := k) (j := j) (by omega) hk2; rw [lagS_some hz0] at this; exact this
                  have ff := And.intro @e1 (And.intro @hcut (And.intro @hrw (And.intro @hpp ff)))
                  refine dw_cut [0, 1, 5, 8, 9, 10, 54, 55] [(q, ⟨26, [lagR l (k + 1)]⟩), ((q + 1), ⟨26, [lagR l (j)]⟩)] (by simp only [List.map_cons, List.map_nil, go_sem, ff]; exact rfl) (by first | (simp only [go_sem, ff]; done) | (simp [go_sem, ff]; done)) ?_
                  show DW _ _ _ _ { n := _, t := tab _, h := _, nx := _, e := _ }
                  refine stp InF ?_ (hok := by (try simp only [go_sem, ff]); all_goals (first | done | ((repeat' (with_reducible apply And.intro)) <;> first | exact tpull_as hpp | (intros; exact tpull_as hpp) | omega | (intro h; simp only [Bool.and_eq_true, decide_eq_true_eq] at h; omega) | (intros; omega) | (intros; simp_all; done) | skip)))
                  refine dw_seq ?_
                  refine stp In ?_
                  refine cd (fun c8 => ?_) (fun c8 => ?_)
                  · skip
                    exfalso; first | omega | grind
                  · skip
                    refine dw_skip ?_
                    show DW _ _ _ _ _
                    refine dw_seq ?_
                    refine stp In ?_
                    refine cd (fun c9 => ?_) (fun c9 => ?_)
                    · skip
                      exfalso; first | omega | grind
                    · skip
                      refine dw_skip ?_
                      show DW _ _ _ _ _
                      refine rgn In ?_
                      show DW _ _ _ _ _
                      refine rgn In ?_
                      show ∃ _, _
                      have ff := And.intro (lagR_next l k) ff
                      exact rnd (k + 1, k + 1, q, _) (h1 := ⟨(by first | (omega) | (dsimp only; omega)), (by first | (omega) | (dsimp only; omega)), (by first | (intro q; omega) | (dsimp only; intro q; omega)), (by first | (omega) | (dsimp only; omega)), trivial⟩)
              · skip
                refine dw_skip ?_
                show DW _ _ _ _ _
                refine rgn In ?_
                show ∃ _, _
                have ff := And.intro (lagR_next l k) ff
                exact rnd (k + 1, j, q, _) (h1 := ⟨(by first | (omega) | (dsimp only; omega)), (by first | (omega) | (dsimp only; omega)), (by first | (intro q; omega) | (dsimp only; intro q; omega)), (by first | (omega) | (dsimp only; omega)), trivial⟩)
        · skip
          have hrw : lagR l k = [.b true, .v (.string (bs l[k - 1]!.apex)), .list false (l[k - 1]!.sets.map Sgd.d), .i ((k - 1 : Nat) : Int)] := lagR_some hz0
          have hpp : pullF ⟨true, l[k - 1]!, ((k - 1 : Nat) : Int)⟩ (l.take (k + 1)) (k : Int) = (⟨true, l[k]!, (k : Int)⟩, 0) := by have := lag_pull hv hll hdd (i := k) (j := k) (by omega) hk2; rw [lagS_some hz0] at this; exact this
          have ff := And.intro @e1 (And.intro @hcut (And.intro @hrw (And.intro @hpp ff)))
          refine stp InF ?_ (hok := by (try simp only [go_sem, ff]); all_goals (first | done | ((repeat' (with_reducible apply And.intro)) <;> first | exact tpull_as hpp | (intros; exact tpull_as hpp) | omega | (intro h; simp only [Bool.and_eq_true, decide_eq_true_eq] at h; omega) | (intros; omega) | (intros; simp_all; done) | skip)))
          refine dw_seq ?_
          refine stp In ?_
          refine cd (fun c6 => ?_) (fun c6 => ?_)
          · skip
            exfalso; first | omega | grind
          · skip
            refine dw_skip ?_
            show DW _ _ _ _ _
            refine stp In ?_
            by_cases hkm : k < m.length
            · skip
              have hd9 : decide ((k:Int) < (m.length:Int)) = true := decide_eq_true (by omega)
              have ff := And.intro @hd9 (And.intro (getD_boo hkm) ff)
              have ff := And.intro (lagR_next l k) ff
              refine dw_cut [0, 1, 5, 8, 9, 10, 54, 55] [(q, ⟨26, [lagR l (k + 1)]⟩), ((q + 1), ⟨26, [lagR l (j)]⟩)] (by simp only [List.map_cons, List.map_nil, go_sem, ff]; exact rfl) (by first | (simp only [go_sem, ff]; done) | (simp [go_sem, ff]; done)) ?_
              show DW _ _ _ _ { n := _, t := tab _, h := _, nx := _, e := _ }
              refine stp In ?_ (hok := by (try simp only [go_sem, ff]); all_goals (first | done | ((repeat' (with_reducible apply And.intro)) <;> first | omega | (intros; omega) | (intro h; rw [Bool.and_false] at h; cases h; done) | (intro h; simp only [Bool.and_eq_true, decide_eq_true_eq] at h; omega) | (intro h; simp at h; done) | trivial | skip)))
              refine cd (fun c7 => ?_) (fun c7 => ?_)
              · skip
                have e1 : ((k:Int) + 1).toNat = k + 1 := by omega
                have hcut : (l.map Zon.d).take (k + 1) = (l.take (k + 1)).map Zon.d := List.map_take.symm
                by_cases hz0 : j = 0
                · skip
                  have hrw : lagR l j = [.b false, .v (.string (bs [])), .list true [], .i 0] := by subst hz0; rfl
                  have hpp : pullF ⟨false, ⟨[], []⟩, 0⟩ (l.take (k + 1)) (k : Int) = (⟨true, l[k]!, (k : Int)⟩, 0) := by have := lag_pull hv hll hdd (i := k) (j := 0) (by omega) hk2; exact this
                  have ff := And.intro @e1 (And.intro @hcut (And.intro @hrw (And.intro @hpp ff)))
                  refine dw_cut [0, 1, 5, 8, 9, 10, 54, 55] [(q, ⟨26, [lagR l (k + 1)]⟩), ((q + 1), ⟨26, [lagR l (j)]⟩)] (by simp only [List.map_cons, List.map_nil, go_sem, ff]; exact rfl) (by first | (simp only [go_sem, ff]; done) | (simp [go_sem, ff]; done)) ?_
                  show DW _ _ _ _ { n := _, t := tab _, h := _, nx := _, e := _ }
                  refine stp InF ?_ (hok := by (try simp only [go_sem, ff]); all_goals (first | done | ((repeat' (with_reducible apply And.intro)) <;> first | exact tpull_as hpp | (intros; exact tpull_as hpp) | omega | (intro h; simp only [Bool.and_eq_true, decide_eq_true_eq] at h; omega) | (intros; omega) | (intros; simp_all; done) | skip)))
                  refine dw_seq ?_
                  refine stp In ?_
                  refine cd (fun c8 => ?_) (fun c8 => ?_)
                  · skip
                    exfalso; first | omega | grind
                  · skip
                    refine dw_skip ?_
                    show DW _ _ _ _ _
                    refine dw_seq ?_
                    refine stp In ?_
                    refine cd (fun c9 => ?_) (fun c9 => ?_)
                    · skip
                      exfalso; first | omega | grind
                    · skip
                      refine dw_skip ?_
                      show DW _ _ _ _ _
                      refine rgn In ?_
                      show DW _ _ _ _ _
                      refine rgn In ?_
                      show ∃ _, _
                      have ff := And.intro (lagR_next l k) ff
                      exact rnd (k + 1, k + 1, q, _) (h1 := ⟨(by first | (omega) | (dsimp only; omega)), (by first | (omega) | (dsimp only; omega)), (by first | (intro q; omega) | (dsimp only; intro q; omega)), (by first | (omega) | (dsimp only; omega)), trivial⟩)
                · skip
                  have hrw : lagR l j = [.b true, .v (.string (bs l[j - 1]!.apex)), .list false (l[j - 1]!.sets.map Sgd.d), .i ((j - 1 : Nat) : Int)] := lagR_some hz0
                  have hpp : pullF ⟨true, l[j - 1]!, ((j - 1 : Nat) : Int)⟩ (l.take (k + 1)) (k : Int) = (⟨true, l[k]!, (k : Int)⟩, 0) := by have := lag_pull hv hll hdd (i := k) (j := j) (by omega) hk2; rw [lagS_some hz0] at this; exact this
                  have ff := And.intro @e1 (And.intro @hcut (And.intro @hrw (And.intro @hpp ff)))
                  refine dw_cut [0, 1, 5, 8, 9, 10, 54, 55] [(q, ⟨26, [lagR l (k + 1)]⟩), ((q + 1), ⟨26, [lagR l (j)]⟩)] (by simp only [List.map_cons, List.map_nil, go_sem, ff]; exact rfl) (by first | (simp only [go_sem, ff]; done) | (simp [go_sem, ff]; done)) ?_
                  show DW _ _ _ _ { n := _, t := tab _, h := _, nx := _, e := _ }
                  refine stp InF ?_ (hok := by (try simp only [go_sem, ff]); all_goals (first | done | ((repeat' (with_reducible apply And.intro)) <;> first | exact tpull_as hpp | (intros; exact tpull_as hpp) | omega | (intro h; simp only [Bool.and_eq_true, decide_eq_true_eq] at h; omega) | (intros; omega) | (intros; simp_all; done) | skip)))
                  refine dw_seq ?_
                  refine stp In ?_
                  refine cd (fun c8 => ?_) (fun c8 => ?_)
                  · skip
                    exfalso; first | omega | grind
                  · skip
                    refine dw_skip ?_
                    show DW _ _ _ _ _
                    refine dw_seq ?_
                    refine stp In ?_
                    refine cd (fun c9 => ?_) (fun c9 => ?_)
                    · skip
                      exfalso; first | omega | grind
                    · skip
                      refine dw_skip ?_
                      show DW _ _ _ _ _
                      refine rgn In ?_
                      show DW _ _ _ _ _
                      refine rgn In ?_
                      show ∃ _, _
                      have ff := And.intro (lagR_next l k) ff
                      exact rnd (k + 1, k + 1, q, _) (h1 := ⟨(by first | (omega) | (dsimp only; omega)), (by first | (omega) | (dsimp only; omega)), (by first | (intro q; omega) | (dsimp only; intro q; omega)), (by first | (omega) | (dsimp only; omega)), trivial⟩)
              · skip
                refine dw_skip ?_
                show DW _ _ _ _ _
                refine rgn In ?_
                show ∃ _, _
                have ff := And.intro (lagR_next l k) ff
                exact rnd (k + 1, j, q, _) (h1 := ⟨(by first | (omega) | (dsimp only; omega)), (by first | (omega) | (dsimp only; omega)), (by first | (intro q; omega) | (dsimp only; intro q; omega)), (by first | (omega) | (dsimp only; omega)), trivial⟩)
            · skip
              have hd9 : decide ((k:Int) < (m.length:Int)) = false := decide_eq_false (by omega)
              have hgd : (m.map boD).getD k [] = [] := by rw [List.getD_eq_getElem?_getD, List.getElem?_eq_none (by simp; omega)]; rfl
              have ff := And.intro @hd9 (And.intro @hgd ff)
              have ff := And.intro (lagR_next l k) ff
              refine dw_cut [0, 1, 5, 8, 9, 10, 54, 55] [(q, ⟨26, [lagR l (k + 1)]⟩), ((q + 1), ⟨26, [lagR l (j)]⟩)] (by simp only [List.map_cons, List.map_nil, go_sem, ff]; exact rfl) (by first | (simp only [go_sem, ff]; done) | (simp [go_sem, ff]; done)) ?_
              show DW _ _ _ _ { n := _, t := tab _, h := _, nx := _, e := _ }
              refine stp In ?_ (hok := by (try simp only [go_sem, ff]); all_goals (first | done | ((repeat' (with_reducible apply And.intro)) <;> first | omega | (intros; omega) | (intro h; rw [Bool.and_false] at h; cases h; done) | (intro h; simp only [Bool.and_eq_true, decide_eq_true_eq] at h; omega) | (intro h; simp at h; done) | trivial | skip)))
              refine cd (fun c7 => ?_) (fun c7 => ?_)
              · skip
                have e1 : ((k:Int) + 1).toNat = k + 1 := by omega
                have hcut : (l.map Zon.d).take (k + 1) = (l.take (k + 1)).map Zon.d := List.map_take.symm
                by_cases hz0 : j = 0
                · skip
                  have hrw : lagR l j = [.b false, .v (.string (bs [])), .list true [], .i 0] := by subst hz0; rfl
                  have hpp : pullF ⟨false, ⟨[], []⟩, 0⟩ (l.take (k + 1)) (k : Int) = (⟨true, l[k]!, (k : Int)⟩, 0) := by have := lag_pull hv hll hdd (i := k) (j := 0) (by omega) hk2; exact this
                  have ff := And.intro @e1 (And.intro @hcut (And.intro @hrw (And.intro @hpp ff)))
                  refine dw_cut [0, 1, 5, 8, 9, 10, 54, 55] [(q, ⟨26, [lagR l (k + 1)]⟩), ((q + 1), ⟨26, [lagR l (j)]⟩)] (by simp only [List.map_cons, List.map_nil, go_sem, ff]; exact rfl) (by first | (simp only [go_sem, ff]; done) | (simp [go_sem, ff]; done)) ?_
                  show DW _ _ _ _ { n := _, t := tab _, h := _, nx := _, e := _ }
                  refine stp InF ?_ (hok := by (try simp only [go_sem, ff]); all_goals (first | done | ((repeat' (with_reducible apply And.intro)) <;> first | exact tpull_as hpp | (intros; exact tpull_as hpp) | omega | (intro h; simp only [Bool.and_eq_true, decide_eq_true_eq] at h; omega) | (intros; omega) | (intros; simp_all; done) | skip)))
                  refine dw_seq ?_
                  refine stp In ?_
                  refine cd (fun c8 => ?_) (fun c8 => ?_)
                  · skip
                    exfalso; first | omega | grind
                  · skip
                    refine dw_skip ?_
                    show DW _ _ _ _ _
                    refine dw_seq ?_
                    refine stp In ?_
                    refine cd (fun c9 => ?_) (fun c9 => ?_)
                    · skip
                      exfalso; first | omega | grind
                    · skip
                      refine dw_skip ?_
                      show DW _ _ _ _ _
                      refine rgn In ?_
                      show DW _ _ _ _ _
                      refine rgn In ?_
                      show ∃ _, _
                      have ff := And.intro (lagR_next l k) ff
                      exact rnd (k + 1, k + 1, q, _) (h1 := ⟨(by first | (omega) | (dsimp only; omega)), (by first | (omega) | (dsimp only; omega)), (by first | (intro q; omega) | (dsimp only; intro q; omega)), (by first | (omega) | (dsimp only; omega)), trivial⟩)
                · skip
                  have hrw : lagR l j = [.b true, .v (.string (bs l[j - 1]!.apex)), .list false (l[j - 1]!.sets.map Sgd.d), .i ((j - 1 : Nat) : Int)] := lagR_some hz0
                  have hpp : pullF ⟨true, l[j - 1]!, ((j - 1 : Nat) : Int)⟩ (l.take (k + 1)) (k : Int) = (⟨true, l[k]!, (k : Int)⟩, 0) := by have := lag_pull hv hll hdd (i := k) (j := j) (by omega) hk2; rw [lagS_some hz0] at this; exact this
                  have ff := And.intro @e1 (And.intro @hcut (And.intro @hrw (And.intro @hpp ff)))
                  refine dw_cut [0, 1, 5, 8, 9, 10, 54, 55] [(q, ⟨26, [lagR l (k + 1)]⟩), ((q + 1), ⟨26, [lagR l (j)]⟩)] (by simp only [List.map_cons, List.map_nil, go_sem, ff]; exact rfl) (by first | (simp only [go_sem, ff]; done) | (simp [go_sem, ff]; done)) ?_
                  show DW _ _ _ _ { n := _, t := tab _, h := _, nx := _, e := _ }
                  refine stp InF ?_ (hok := by (try simp only [go_sem, ff]); all_goals (first | done | ((repeat' (with_reducible apply And.intro)) <;> first | exact tpull_as hpp | (intros; exact tpull_as hpp) | omega | (intro h; simp only [Bool.and_eq_true, decide_eq_true_eq] at h; omega) | (intros; omega) | (intros; simp_all; done) | skip)))
                  refine dw_seq ?_
                  refine stp In ?_
                  refine cd (fun c8 => ?_) (fun c8 => ?_)
                  · skip
                    exfalso; first | omega | grind
                  · skip
                    refine dw_skip ?_
                    show DW _ _ _ _ _
                    refine dw_seq ?_
                    refine stp In ?_
                    refine cd (fun c9 => ?_) (fun c9 => ?_)
                    · skip
                      exfalso; first | omega | grind
                    · skip
                      refine dw_skip ?_
                      show DW _ _ _ _ _
                      refine rgn In ?_
                      show DW _ _ _ _ _
                      refine rgn In ?_
                      show ∃ _, _
                      have ff := And.intro (lagR_next l k) ff
                      exact rnd (k + 1, k + 1, q, _) (h1 := ⟨(by first | (omega) | (dsimp only; omega)), (by first | (omega) | (dsimp only; omega)), (by first | (intro q; omega) | (dsimp only; intro q; omega)), (by first | (omega) | (dsimp only; omega)), trivial⟩)
              · skip
                refine dw_skip ?_
                show DW _ _ _ _ _
                refine rgn In ?_
                show ∃ _, _
                have ff := And.intro (lagR_next l k) ff
                exact rnd (k + 1, j, q, _) (h1 := ⟨(by first | (omega) | (dsimp only; omega)), (by first | (omega) | (dsimp only; omega)), (by first | (intro q; omega) | (dsimp only; intro q; omega)), (by first | (omega) | (dsimp only; omega)), trivial⟩)
      · skip
        have e8 : k = l.length := by omega
        subst e8
        have hjj : j = l.length := hjk rfl
        subst hjj
        have hrr := lagR_some (l := l) (j := l.length) (by omega)
        have hlk : l.length - 1 < l.length := by omega
        have hfl := zone_fit (hv.ok _ hlk)
        have ff := And.intro @hrr (And.intro (@sameC_self) ff)
        refine dw_exit ?_
        show DW _ _ _ _ _
        refine stp In ?_ (hok := by (try simp only [go_sem, ff]); all_goals (first | done | ((repeat' (with_reducible apply And.intro)) <;> first | exact rsame14_self (x := ⟨true, l[l.length - 1]!, ((l.length - 1 : Nat) : Int)⟩) hfl | (intros; exact rsame14_self (x := ⟨true, l[l.length - 1]!, ((l.length - 1 : Nat) : Int)⟩) hfl) | exact (fun _ => rsame14_self (x := ⟨true, l[l.length - 1]!, ((l.length - 1 : Nat) : Int)⟩) hfl) | (intros; exact (fun _ => rsame14_self (x := ⟨true, l[l.length - 1]!, ((l.length - 1 : Nat) : Int)⟩) hfl)) | omega | (intro h; simp only [Bool.and_eq_true, decide_eq_true_eq] at h; omega) | (intros; omega) | (intros; simp_all; done) | skip)))
        refine dw_ret ?_
        exact fin 0 (hr := by (try simp only [go_sem, ff]); all_goals (first | rfl | (simp; done)))

end Go.Proofs.YtipkfnkmdeopeaaGreatDoor
