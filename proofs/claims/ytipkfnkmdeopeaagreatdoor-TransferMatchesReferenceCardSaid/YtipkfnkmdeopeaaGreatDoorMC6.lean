/-
  MANY TEXTS OF MINE IN ONE (a claim has a limit of files): TrW5, TrW6, TlW1, TlW2. Conditions: none.
-/
import Derived.Test.YtipkfnkmdeopeaaGreatDoorMC5
namespace Go.Proofs.YtipkfnkmdeopeaaGreatDoor
open Go.DL Go.Str Go.Rec Go.Cmp Go.Zon
set_option maxRecDepth 10000
set_option linter.unusedSimpArgs false
set_option linter.unusedVariables false
attribute [go_sem] firstTo_0
theorem bo12 : hasBody Tryz.prog 12 = true := by kernel_rfl
theorem rserve14_ct (l : List Zon) (b : Bool) (n : Int) (hl : l.length ≤ 1000000) : PureCt Tryz.prog 12 [.list false (l.map Zon.d), .b b, .i n] (.tuple [.agg (serveF l b n).1.d, .i (serveF l b n).2]) := by
  refine pure_of_dw Tryz.func12 rfl bo12 (by simp [go_sem, D.nr, nrs, nrr]) (by simp [Tryz.f12]) ?_
  unfold Tryz.f12
  simp only [init_eq]
  have ff := True.intro
  refine stp In ?_
  refine dw_seq ?_
  refine stp In ?_ (hok := by (try simp only [go_sem, ff]); all_goals (first | done | ((repeat' (with_reducible apply And.intro)) <;> first | exact rvers14_ct l hl | (intros; exact rvers14_ct l hl) | omega | (intro h; simp only [Bool.and_eq_true, decide_eq_true_eq] at h; omega) | (intros; omega) | (intros; simp_all; done) | skip)))
  refine cd (fun c1 => ?_) (fun c1 => ?_)
  · skip
    refine stp In ?_
    refine dw_ret ?_
    exact fin 3 (hr := by (try simp only [go_sem, ff]); all_goals (rw [serve_bad (by grind)]; try rfl))
  · skip
    have hvo : versOk l = true := by grind
    have hl2 : l.length ≤ 20000 := by grind
    have p1 : ¬ (20000 < l.length ∨ (b = true ∧ (n < 0 ∨ 65536 ≤ n))) := by rintro (q | ⟨q1, q2⟩); omega; grind
    have hvs := vers_iff.1 hvo
    refine dw_skip ?_
    show DW _ _ _ _ _
    refine dw_seq ?_
    refine stp In ?_
    refine cd (fun c2 => ?_) (fun c2 => ?_)
    · skip
      refine stp In ?_
      refine dw_ret ?_
      exact fin 3 (hr := by (try simp only [go_sem, ff]); all_goals (rw [serveF, if_neg p1, if_neg (by rw [hvo]; exact Bool.noConfusion), if_pos (by omega)]; try rfl))
    · skip
      have hp : 0 < l.length := by omega
      have hlk : l.length - 1 < l.length := by omega
      refine dw_skip ?_
      show DW _ _ _ _ _
      refine stp In ?_
      refine dw_seq ?_
      refine stp In ?_
      refine dw_block ?_
      refine lp (α := (Nat) × Nat) [0, 1, 2, 6] (fun ⟨k, nx⟩ => (k ≤ l.length) ∧ (0 < nx) ∧ True) (fun ⟨k, nx⟩ => l.length - k) (fun ⟨k, nx⟩ => [(8, .i (firstTo l b n k)), (9, .i k)]) (fun ⟨k, nx⟩ => [(0, ⟨30, [[.b false, .v (.string (bs [])), .list true [], .list true []]]⟩)]) (fun ⟨k, nx⟩ => nx) (0, _) (hA := ⟨iv, iv, trivial⟩) (round := ?_)
      rintro ⟨k, nx⟩ ⟨hk, hx, -⟩
      show DW _ _ _ _ { n := _, t := tab _, h := _, nx := _, e := _ }
      simp only [List.cons_append, List.nil_append]
      have ff := And.intro @hx ff
      refine dw_seq ?_
      refine stp In ?_
      refine cd (fun c3 => ?_) (fun c3 => ?_)
      · skip
        have hk2 : k < l.length := by grind
        have hbt : b = true := by grind
        have ff := And.intro (getD_zon hk2) (And.intro ((serial_ref (hvs.ok k hk2)).symm) ff)
        refine dw_skip ?_
        show DW _ _ _ _ _
        refine dw_seq ?_
        refine dw_block ?_
        refine stp In ?_ (hok := by (try simp only [go_sem, ff]); all_goals (first | done | ((repeat' (with_reducible apply And.intro)) <;> first | exact rser_as (hvs.ok k hk2) | (intros; exact rser_as (hvs.ok k hk2)) | (have h9 := rser_as (hvs.ok k hk2); simp only [go_sem, (serial_ref (hvs.ok k hk2)).symm] at h9; exact h9) | omega | (intro h; simp only [Bool.and_eq_true, decide_eq_true_eq] at h; omega) | (intros; omega) | (intros; simp_all; done) | skip)))
        refine cd (fun c4 => ?_) (fun c4 => ?_)
        · skip
          refine rgn In ?_
          show DW _ _ _ _ _
          refine rgn In ?_
          show ∃ _, _
          have ff := And.intro (firstTo_yes (l := l) (b := b) (n := n) (k := k) hbt (by grind)) ff
          exact rnd (k + 1, _) (h1 := ⟨iv, iv, trivial⟩) (h3 := by (try simp only [go_sem, ff]); all_goals (first | done | (simp [firstTo_0]; done) | (simp; done))) (h4 := by (try simp only [go_sem, ff]); all_goals (first | done | (simp [firstTo_0]; done) | (simp; done))) (h5 := by (try simp only [go_sem, ff]); all_goals (first | done | (simp [firstTo_0]; done) | (simp; done)))
        · skip
          refine dw_skip ?_
          show DW _ _ _ _ _
          refine rgn In ?_
          show ∃ _, _
          have ff := And.intro (firstTo_no (l := l) (b := b) (n := n) (k := k) hbt (by grind)) ff
          exact rnd (k + 1, _) (h1 := ⟨iv, iv, trivial⟩) (h3 := by (try simp only [go_sem, ff]); all_goals (first | done | (simp [firstTo_0]; done) | (simp; done))) (h4 := by (try simp only [go_sem, ff]); all_goals (first | done | (simp [firstTo_0]; done) | (simp; done))) (h5 := by (try simp only [go_sem, ff]); all_goals (first | done | (simp [firstTo_0]; done) | (simp; done)))
      · skip
        have hfi : firstTo l b n k = firstF l b n := firstTo_end (by grind) hk
        have hfl := first_lt l b n
        have ff := And.intro @hfi ff
        refine dw_exit ?_
        show DW _ _ _ _ _
        refine dw_seq ?_
        refine stp In ?_
        refine cd (fun c5 => ?_) (fun c5 => ?_)
        · skip
          have e1 : ((l.length:Int) - 1).toNat = l.length - 1 := by omega
          have ff := And.intro @e1 (And.intro (getD_zon hlk) ff)
          refine stp In ?_
          refine dw_ret ?_
          exact fin 3 (hr := by (try simp only [go_sem, ff]); all_goals (rw [serveF, if_neg p1, if_neg (by rw [hvo]; exact Bool.noConfusion), if_neg (by omega), offerF, if_pos (by omega)]; try rfl))
        · skip
          have hfp : 0 ≤ (firstF l b n) := by omega
          refine dw_skip ?_
          show DW _ _ _ _ _
          refine stp In ?_
          refine dw_seq ?_
          refine dw_ownj (nx + 9) 3 30 65 (by simp only [go_sem, ff]; exact rfl) (by rfl) (by simp only [go_sem, ff]) ?_
          simp only [List.set_cons_succ, List.set_cons_zero]
          refine stp In ?_
          refine dw_block ?_
          refine lp (α := (Nat) × (Nat) × (Nat) × Nat) [0, 6] (fun ⟨k, q, r, nx⟩ => (k ≤ l.length - 1 - (firstF l b n).toNat) ∧ (r < nx) ∧ (0 < q) ∧ (q < r) ∧ True) (fun ⟨k, q, r, nx⟩ => l.length - 1 - (firstF l b n).toNat - k) (fun ⟨k, q, r, nx⟩ => [(10, .mptr q 0 0), (11, .i ((firstF l b n) + k))]) (fun ⟨k, q, r, nx⟩ => [(0, ⟨30, [[.b false, .v (.string (bs [])), .list true [], .list true []]]⟩), (q, ⟨30, [[.b false, .v (.string (bs [])), .list true [], .mrow r 0 (difTo l (firstF l b n).toNat k).length]]⟩), (r, ⟨65, (difTo l (firstF l b n).toNat k).map Dlt.d⟩)]) (fun ⟨k, q, r, nx⟩ => nx) (0, (nx + 9), (nx + 10), _) (hA := ⟨iv, iv, iv, iv, trivial⟩) (round := ?_)
          rintro ⟨k, q, r, nx⟩ ⟨hk, hr, hq0, hqr, -⟩
          show DW _ _ _ _ { n := _, t := tab _, h := _, nx := _, e := _ }
          simp only [List.cons_append, List.nil_append]
          have n0 : 0 < nx := by omega
          have n3 : q < nx := by omega
          have hdl := difTo_len l (firstF l b n).toNat k
          have z0_q : (0 = q) = False := eq_false (by omega)
          have yq_0 : (q = 0) = False := eq_false (by omega)
          have z0_r : (0 = r) = False := eq_false (by omega)
          have yr_0 : (r = 0) = False := eq_false (by omega)
          have zq_r : (q = r) = False := eq_false (by omega)
          have yr_q : (r = q) = False := eq_false (by omega)
          have ff := And.intro @hr (And.intro @n0 (And.intro @n3 (And.intro @z0_q (And.intro @yq_0 (And.intro @z0_r (And.intro @yr_0 (And.intro @zq_r (And.intro @yr_q ff))))))))
          refine dw_seq ?_
          refine stp In ?_
          refine cd (fun c6 => ?_) (fun c6 => ?_) (hp := rfl)
          · skip
            have hk2 : (firstF l b n).toNat + k < l.length := by have h9 : ((firstF l b n) + k + 1 : Int) < l.length := (by simpa using c6); omega
            have hk3 : (firstF l b n).toNat + (k + 1) < l.length := by have h9 : ((firstF l b n) + k + 1 : Int) < l.length := (by simpa using c6); omega
            have e1 : ((firstF l b n) + (k:Int)).toNat = (firstF l b n).toNat + k := by omega
            have e2 : ((firstF l b n) + (k:Int) + 1).toNat = (firstF l b n).toNat + (k + 1) := by omega
            have hdv : diffP l[(firstF l b n).toNat + k]! l[(firstF l b n).toNat + (k + 1)]! = (difAt l ((firstF l b n).toNat + k), 0) := hvs.difv hk3
            have hdr : diffR l[(firstF l b n).toNat + k]! l[(firstF l b n).toNat + (k + 1)]! = (difAt l ((firstF l b n).toNat + k), 0) := by rw [diffR_P]; exact hdv
            have ff := And.intro (getD_zon hk2) (And.intro (getD_zon hk3) (And.intro @e1 (And.intro @e2 (And.intro @hdv (And.intro @hdr ff)))))
            refine dw_skip ?_
            show DW _ _ _ _ _
            refine dw_seq ?_
            refine dw_block ?_
            refine stp InF ?_ (hok := by (try simp only [go_sem, ff]); all_goals (first | done | ((repeat' (with_reducible apply And.intro)) <;> first | exact rdiff_as9 hdv | (intros; exact rdiff_as9 hdv) | omega | (intro h; simp only [Bool.and_eq_true, decide_eq_true_eq] at h; omega) | (intros; omega) | (intros; simp_all; done) | skip)))
            refine rgn In ?_
            show DW _ _ _ _ _
            refine rgn In ?_
            show ∃ _, _
            have hst : (difTo l (firstF l b n).toNat (k + 1)).map Dlt.d = (difTo l (firstF l b n).toNat k).map Dlt.d ++ [[.v (.string (bs (difAt l ((firstF l b n).toNat + k)).apex)), .i (difAt l ((firstF l b n).toNat + k)).frm, .i (difAt l ((firstF l b n).toNat + k)).too, .list false ((difAt l ((firstF l b n).toNat + k)).drop.map Qst.d), .list false ((difAt l ((firstF l b n).toNat + k)).put.map Sgd.d)]] := by rw [difTo_succ, dlt_snoc9]
            have hsl : (difTo l (firstF l b n).toNat (k + 1)).length = (difTo l (firstF l b n).toNat k).length + 1 := by rw [difTo_len, difTo_len]
            have ff := And.intro hst (And.intro hsl ff)
            exact rnd (k + 1, q, (nx + 25), _) (h1 := ⟨iv, iv, iv, iv, trivial⟩)
          · skip
            refine dw_exit ?_
            show DW _ _ _ _ _
            refine dw_freezec q 3 r (rows := (difTo l (firstF l b n).toNat k).map Dlt.d) (off := 0) (len := (difTo l (firstF l b n).toNat k).length) ev rfl ev (by omega) (by simp) nrr_dlt ?_
            simp only [List.drop_zero, take_map_len, List.set_cons_succ, List.set_cons_zero]
            have e9 : k = l.length - 1 - (firstF l b n).toNat := by have h9 : ¬ ((firstF l b n) + k + 1 : Int) < l.length := (by simpa using c6); omega
            subst e9
            refine stp In ?_
            refine dw_ret ?_
            exact fin 3 (hr := by (try simp only [go_sem, ff]); all_goals (rw [serveF, if_neg p1, if_neg (by rw [hvo]; exact Bool.noConfusion), if_neg (by omega), offerF, if_neg (by omega)]; try rfl))
theorem bo20 : hasBody Tryz.prog 20 = true := by kernel_rfl
theorem rexp14_ct (s : Sec) (t : Int) (p : Int) : PureCt Tryz.prog 20 [.agg s.d, .i t, .i p] (.tuple [.b (expF s t p).1, .i (expF s t p).2]) := by
  refine pure_of_dw Tryz.func20 rfl bo20 (by simp [go_sem, D.nr, nrs, nrr]) (by simp [Tryz.f20]) ?_
  unfold Tryz.f20
  simp only [init_eq]
  have ff := True.intro
  refine stp In ?_
  refine dw_seq ?_
  refine stp In ?_ (hok := by (try simp only [go_sem, ff]); all_goals (first | done | ((repeat' (with_reducible apply And.intro)) <;> first | exact rvsec14_ct s | (intros; exact rvsec14_ct s) | omega | (intro h; simp only [Bool.and_eq_true, decide_eq_true_eq] at h; omega) | (intros; omega) | (intros; simp_all; done) | skip)))
  refine cd (fun c1 => ?_) (fun c1 => ?_)
  · skip
    refine stp In ?_
    refine dw_ret ?_
    exact fin 1 (hr := by (try simp only [go_sem, ff]); all_goals (rw [expF, if_pos (by grind)]; try rfl))
  · skip
    have hs : secOk s = true := by grind
    have hsn := sec_seen hs
    refine dw_skip ?_
    show DW _ _ _ _ _
    refine stp In ?_
    refine dw_ret ?_
    exact fin 1 (hr := by (try simp only [go_sem, ff]); all_goals (rw [exp_ok hs (by grind) (by grind) (by grind)]; try rfl))
theorem bo16 : hasBody Tryz.prog 16 = true := by kernel_rfl
theorem rsame14_ct (a : Sec) (b : Sec) (hf : fitL a.zone.sets) : PureCt Tryz.prog 16 [.agg a.d, .agg b.d] (.b (sameC a b)) := by
  refine pure_of_dw Tryz.func16 rfl bo16 (by simp [go_sem, D.nr, nrs, nrr]) (by simp [Tryz.f16]) ?_
  unfold Tryz.f16
  simp only [init_eq]
  have ff := True.intro
  refine stp In ?_
  refine stp In ?_ (hok := by (try simp only [go_sem, ff]); all_goals (first | done | ((repeat' (with_reducible apply And.intro)) <;> first | exact (fun _ => rsamez_as9 (a := a.zone) (b := b.zone) hf) | (intros; exact (fun _ => rsamez_as9 (a := a.zone) (b := b.zone) hf)) | omega | (intro h; simp only [Bool.and_eq_true, decide_eq_true_eq] at h; omega) | (intros; omega) | (intros; simp_all; done) | skip)))
  refine dw_ret ?_
  exact fin 0 (hr := by (try simp only [go_sem, ff]); all_goals (rw [← sec_parts]))
theorem bo23 : hasBody Tryz.prog 23 = true := by kernel_rfl
theorem rfew14_ct (l : List Zon) : PureCt Tryz.prog 23 [.list false (l.map Zon.d)] (.b (fewL l)) := by
  refine pure_of_dw Tryz.func23 rfl bo23 (by simp [go_sem, D.nr, nrs, nrr]) (by simp [Tryz.f23]) ?_
  unfold Tryz.f23
  simp only [init_eq]
  have ff := True.intro
  refine stp In ?_
  refine dw_seq ?_
  refine stp In ?_
  refine dw_block ?_
  refine lp (α := (Nat) × Nat) [0] (fun ⟨k, nx⟩ => (k ≤ l.length) ∧ (k ≤ 10) ∧ (allN (min l.length 10) (fun i => fewZ l[i]!) 0 = allN (min l.length 10) (fun i => fewZ l[i]!) k) ∧ True) (fun ⟨k, nx⟩ => l.length - k) (fun ⟨k, nx⟩ => [(3, .i k)]) (fun ⟨k, nx⟩ => []) (fun ⟨k, nx⟩ => nx) (0, _) (hA := ⟨iv, iv, rfl, trivial⟩) (round := ?_)
  rintro ⟨k, nx⟩ ⟨hk, hk7, hv, -⟩
  show DW _ _ _ _ { n := _, t := tab _, h := _, nx := _, e := _ }
  simp only [List.cons_append, List.nil_append]
  refine dw_seq ?_
  refine stp In ?_
  refine cd (fun c1 => ?_) (fun c1 => ?_)
  · skip
    have hk2 : k < l.length := by grind
    have hk9 : k < 10 := by grind
    have hk8 : k < min l.length 10 := by omega
    have ff := And.intro (getD_zon hk2) ff
    refine dw_skip ?_
    show DW _ _ _ _ _
    refine dw_seq ?_
    refine dw_block ?_
    refine stp In ?_ (hok := by (try simp only [go_sem, ff]); all_goals (first | done | ((repeat' (with_reducible apply And.intro)) <;> first | exact r06few_ct l[k]! | (intros; exact r06few_ct l[k]!) | omega | (intro h; simp only [Bool.and_eq_true, decide_eq_true_eq] at h; omega) | (intros; omega) | (intros; simp_all; done) | skip)))
    refine cd (fun c2 => ?_) (fun c2 => ?_)
    · skip
      refine stp In ?_
      refine dw_ret ?_
      exact fin 0 (hr := by (try simp only [go_sem, ff]); all_goals (simp only [fewL]; rw [hv, allN_no hk8 (by grind)]; try rfl))
    · skip
      refine dw_skip ?_
      show DW _ _ _ _ _
      refine rgn In ?_
      show ∃ _, _
      exact rnd (k + 1, _) (h1 := ⟨iv, iv, (by (try dsimp only); rw [hv, allN_yes hk8 (by grind)]), trivial⟩)
  · skip
    refine dw_exit ?_
    show DW _ _ _ _ _
    refine stp In ?_
    refine dw_ret ?_
    exact fin 0 (hr := by (try simp only [go_sem, ff]); all_goals (simp only [fewL]; rw [hv, allN_end (by grind)]; simp; first | done | omega | (rw [Bool.eq_iff_iff]; simp; omega)))
theorem bo30 : hasBody Tryz.prog 30 = true := by kernel_rfl
theorem rfewo14_ct (o : Off) : PureCt Tryz.prog 30 [.agg o.d] (.b (fewO o)) := by
  refine pure_of_dw Tryz.func30 rfl bo30 (by simp [go_sem, D.nr, nrs, nrr]) (by simp [Tryz.f30]) ?_
  unfold Tryz.f30
  simp only [init_eq]
  have ff := True.intro
  refine stp In ?_
  refine dw_seq ?_
  refine stp In ?_
  refine dw_block ?_
  refine lp (α := (Nat) × Nat) [1] (fun ⟨k, nx⟩ => (k ≤ o.deltas.length) ∧ (k ≤ 10) ∧ (0 < nx) ∧ (allN (min o.deltas.length 10) (fun i => fewD o.deltas[i]!) 0 = allN (min o.deltas.length 10) (fun i => fewD o.deltas[i]!) k) ∧ True) (fun ⟨k, nx⟩ => o.deltas.length - k) (fun ⟨k, nx⟩ => [(3, .i k)]) (fun ⟨k, nx⟩ => [(0, ⟨30, [o.d]⟩)]) (fun ⟨k, nx⟩ => nx) (0, _) (hA := ⟨iv, iv, iv, rfl, trivial⟩) (round := ?_)
  rintro ⟨k, nx⟩ ⟨hk, hk7, hx, hv, -⟩
  show DW _ _ _ _ { n := _, t := tab _, h := _, nx := _, e := _ }
  simp only [List.cons_append, List.nil_append]
  have ff := And.intro @hx ff
  refine dw_seq ?_
  refine stp In ?_
  refine cd (fun c1 => ?_) (fun c1 => ?_)
  · skip
    have hk2 : k < o.deltas.length := by grind
    have hk9 : k < 10 := by grind
    have hk8 : k < min o.deltas.length 10 := by omega
    have ff := And.intro (getD_dlt hk2) ff
    refine dw_skip ?_
    show DW _ _ _ _ _
    refine dw_seq ?_
    refine dw_block ?_
    refine stp In ?_ (hok := by (try simp only [go_sem, ff]); all_goals (first | done | ((repeat' (with_reducible apply And.intro)) <;> first | exact rfew11_ct o.deltas[k]! | (intros; exact rfew11_ct o.deltas[k]!) | omega | (intro h; simp only [Bool.and_eq_true, decide_eq_true_eq] at h; omega) | (intros; omega) | (intros; simp_all; done) | skip)))
    refine cd (fun c2 => ?_) (fun c2 => ?_)
    · skip
      refine stp In ?_
      refine dw_ret ?_
      exact fin 0 (hr := by (try simp only [go_sem, ff]); all_goals (simp only [fewO]; rw [hv, allN_no hk8 (by grind)]; try rfl))
    · skip
      refine dw_skip ?_
      show DW _ _ _ _ _
      refine rgn In ?_
      show ∃ _, _
      exact rnd (k + 1, _) (h1 := ⟨iv, iv, iv, (by (try dsimp only); rw [hv, allN_yes hk8 (by grind)]), trivial⟩)
  · skip
    refine dw_exit ?_
    show DW _ _ _ _ _
    refine stp In ?_ (hok := by (try simp only [go_sem, ff]); all_goals (first | done | ((repeat' (with_reducible apply And.intro)) <;> first | exact r06few_ct o.zone | (intros; exact r06few_ct o.zone) | omega | (intro h; simp only [Bool.and_eq_true, decide_eq_true_eq] at h; omega) | (intros; omega) | (intros; simp_all; done) | skip)))
    refine dw_ret ?_
    exact fin 0 (hr := by (try simp only [go_sem, ff]); all_goals (simp only [fewO]; rw [hv, allN_end (by grind)]; simp; first | done | omega | (rw [Bool.eq_iff_iff]; simp; omega)))
theorem bo13 : hasBody Tryz.prog 13 = true := by kernel_rfl
theorem rsameo14_ct (a : Off) (b : Off) (hf : fitL a.zone.sets) (hd : ∀ i, i < a.deltas.length → fitL a.deltas[i]!.put ∧ a.deltas[i]!.drop.length ≤ 1000000) (hl : a.deltas.length ≤ 1000000) : PureCt Tryz.prog 13 [.agg a.d, .agg b.d] (.b (sameO a b)) := by
  refine pure_of_dw Tryz.func13 rfl bo13 (by simp [go_sem, D.nr, nrs, nrr]) (by simp [Tryz.f13]) ?_
  unfold Tryz.f13
  simp only [init_eq]
  have ff := True.intro
  refine stp In ?_
  refine dw_seq ?_
  refine stp In ?_ (hok := by (try simp only [go_sem, ff]); all_goals (first | done | ((repeat' (with_reducible apply And.intro)) <;> first | exact (fun _ => rsamez_as9 (a := a.zone) (b := b.zone) hf) | (intros; exact (fun _ => rsamez_as9 (a := a.zone) (b := b.zone) hf)) | omega | (intro h; simp only [Bool.and_eq_true, decide_eq_true_eq] at h; omega) | (intros; omega) | (intros; simp_all; done) | skip)))
  refine cd (fun c1 => ?_) (fun c1 => ?_)
  · skip
    refine stp In ?_
    refine dw_ret ?_
    exact fin 0 (hr := by (try simp only [go_sem, ff]); all_goals (rw [sameO_no (by grind)]))
  · skip
    have hlen : a.deltas.length = b.deltas.length := by grind
    refine dw_skip ?_
    show DW _ _ _ _ _
    refine dw_seq ?_
    refine stp In ?_
    refine dw_block ?_
    refine lp (α := (Nat) × Nat) [2, 3] (fun ⟨k, nx⟩ => (k ≤ a.deltas.length) ∧ (1 < nx) ∧ (∀ i, i < k → sameD a.deltas[i]! b.deltas[i]! = true) ∧ True) (fun ⟨k, nx⟩ => a.deltas.length - k) (fun ⟨k, nx⟩ => [(5, .i k)]) (fun ⟨k, nx⟩ => [(0, ⟨30, [a.d]⟩), (1, ⟨30, [b.d]⟩)]) (fun ⟨k, nx⟩ => nx) (0, _) (hA := ⟨iv, iv, (by first | (intro i hi; omega) | (dsimp only; intro i hi; omega)), trivial⟩) (round := ?_)
    rintro ⟨k, nx⟩ ⟨hk, hx, hv, -⟩
    show DW _ _ _ _ { n := _, t := tab _, h := _, nx := _, e := _ }
    simp only [List.cons_append, List.nil_append]
    have n0 : 0 < nx := by omega
    have ff := And.intro @hx (And.intro @n0 ff)
    refine dw_seq ?_
    refine stp In ?_
    refine cd (fun c2 => ?_) (fun c2 => ?_) (hp := rfl)
    · skip
      have hk2 : k < a.deltas.length := by simpa using c2
      have hk3 : k < b.deltas.length := by omega
      have ff := And.intro (getD_dlt hk2) (And.intro (getD_dlt hk3) ff)
      refine dw_skip ?_
      show DW _ _ _ _ _
      refine dw_seq ?_
      refine dw_block ?_
      refine stp In ?_ (hok := by (try simp only [go_sem, ff]); all_goals (first | done | ((repeat' (with_reducible apply And.intro)) <;> first | exact rsame11_ct a.deltas[k]! b.deltas[k]! (hd k hk2).1 (hd k hk2).2 | (intros; exact rsame11_ct a.deltas[k]! b.deltas[k]! (hd k hk2).1 (hd k hk2).2) | omega | (intro h; simp only [Bool.and_eq_true, decide_eq_true_eq] at h; omega) | (intros; omega) | (intros; simp_all; done) | skip)))
      refine cd (fun c3 => ?_) (fun c3 => ?_)
      · skip
        refine stp In ?_
        refine dw_ret ?_
        exact fin 0 (hr := by (try simp only [go_sem, ff]); all_goals (rw [sameO_at (k := k) (by grind)]))
      · skip
        refine dw_skip ?_
        show DW _ _ _ _ _
        refine rgn In ?_
        show ∃ _, _
        exact rnd (k + 1, _) (h1 := ⟨iv, iv, (by (try dsimp only); intro i hi; by_cases e : i = k; subst e; grind; exact hv i (by omega)), trivial⟩)
    · skip
      refine dw_exit ?_
      show DW _ _ _ _ _
      refine stp In ?_
      refine dw_ret ?_
      exact fin 0 (hr := by (try simp only [go_sem, ff]); all_goals (rw [sameO_yes (by grind) (by grind) hlen fun i hi => hv i (by omega)]))

end Go.Proofs.YtipkfnkmdeopeaaGreatDoor
namespace Go.Proofs.YtipkfnkmdeopeaaGreatDoor
open Go.DL Go.Str Go.Rec Go.Cmp Go.Zon
set_option maxRecDepth 10000
set_option linter.unusedSimpArgs false
set_option linter.unusedVariables false
theorem rserve_as {l : List Zon} {b : Bool} {n : Int} {x : Off} {e : Int} (hl : l.length ≤ 1000000) (h : serveF l b n = (x, e)) : PureCt Tryz.prog 12 [.list false (l.map Zon.d), .b b, .i n] (.tuple [.agg x.d, .i e]) := by
  have := rserve14_ct l b n hl
  rwa [h] at this
theorem bo15 : hasBody Tryz.prog 15 = true := by kernel_rfl
theorem rtake14_ct (s : Sec) (o : Off) (t : Int) : PureCt Tryz.prog 15 [.agg s.d, .agg o.d, .i t] (.tuple [.agg (takeF s o t).1.d, .i (takeF s o t).2]) := by
  refine pure_of_dw Tryz.func15 rfl bo15 (by simp [go_sem, D.nr, nrs, nrr]) (by simp [Tryz.f15]) ?_
  unfold Tryz.f15
  simp only [init_eq]
  have ff := True.intro
  refine stp In ?_
  refine dw_seq ?_
  refine stp In ?_ (hok := by (try simp only [go_sem, ff]); all_goals (first | done | ((repeat' (with_reducible apply And.intro)) <;> first | exact rvsec14_ct s | (intros; exact rvsec14_ct s) | exact (fun _ => roffer14_ct o) | (intros; exact (fun _ => roffer14_ct o)) | omega | (intro h; simp only [Bool.and_eq_true, decide_eq_true_eq] at h; omega) | (intros; omega) | (intros; simp_all; done) | skip)))
  refine cd (fun c1 => ?_) (fun c1 => ?_)
  · skip
    refine stp In ?_
    refine dw_ret ?_
    exact fin 3 (hr := by (try simp only [go_sem, ff]); all_goals (rw [takeF, if_pos (by grind)]; try rfl))
  · skip
    have hs : secOk s = true := by grind
    have ho : offOk o = true := by grind
    have p1 : ¬ (secOk s = false ∨ offOk o = false ∨ t < s.seen ∨ 10000000 < t) := by rintro (q | q | q | q); rw [hs] at q; cases q; rw [ho] at q; cases q; omega; omega
    have hol := off_len ho
    refine dw_skip ?_
    show DW _ _ _ _ _
    rcases fOrT o.full with hfu | hfu
    · skip
      have hzz : stZ s o = s.zone := by unfold stZ; rw [hfu]; try rfl
      have hnz := off_part ho hfu
      have ff := And.intro @hfu (And.intro @hzz ff)
      refine stp In ?_
      refine dw_seq ?_
      refine stp In ?_
      refine cd (fun c2 => ?_) (fun c2 => ?_)
      · skip
        have h0 : 0 < o.deltas.length := by omega
        have hne := off_apex ho hfu h0
        have hod : offdF o = (o.deltas[0]!.apex, true) := by unfold offdF; rw [hfu, if_neg Bool.false_ne_true, if_pos h0]
        have ff := And.intro (getD_dlt h0) ff
        refine rgn In ?_
        show DW _ _ _ _ _
        refine dw_seq ?_
        refine stp In ?_
        refine cd (fun c3 => ?_) (fun c3 => ?_)
        · skip
          refine stp In ?_
          refine dw_ret ?_
          exact fin 3 (hr := by (try simp only [go_sem, ff]); all_goals (rw [takeF, if_neg p1, if_pos (by rw [hod]; grind)]; try rfl))
        · skip
          have p2 : ¬ (s.has = true ∧ (offdF o).2 = true ∧ (offdF o).1 ≠ s.zone.apex) := by rw [hod]; grind
          refine dw_skip ?_
          show DW _ _ _ _ _
          refine dw_seq ?_
          refine stp In ?_
          refine cd (fun c4 => ?_) (fun c4 => ?_)
          · skip
            refine stp In ?_
            refine dw_ret ?_
            exact fin 3 (hr := by (try simp only [go_sem, ff]); all_goals (rw [takeF, if_neg p1, if_neg p2, if_pos (by grind)]; try rfl))
          · skip
            have p3 : ¬ (s.has = false ∧ o.full = false) := by grind
            have hh : s.has = true := by cases q : s.has with | true => rfl | false => exact absurd ⟨q, hfu⟩ p3
            have hff : o.full = true → fitsF s o.zone = 0 := fun q => by rw [hfu] at q; cases q
            refine dw_skip ?_
            show DW _ _ _ _ _
            refine stp In ?_
            refine dw_seq ?_
            refine stp In ?_
            refine cd (fun c5 => ?_) (fun c5 => ?_) (hp := rfl)
            · skip
              first | exact c5.elim | (simp at c5; done) | cases c5
            · skip
              refine dw_skip ?_
              show DW _ _ _ _ _
              refine dw_seq ?_
              refine stp In ?_
              refine dw_block ?_
              refine lp (α := (Nat) × (Zon) × (Nat) × Nat) [2, 4, 6] (fun ⟨k, w, q, nx⟩ => (k ≤ o.deltas.length) ∧ (2 < q) ∧ (q < nx) ∧ (appTo (stZ s o) o.deltas k = (w, 0)) ∧ True) (fun ⟨k, w, q, nx⟩ => o.deltas.length - k) (fun ⟨k, w, q, nx⟩ => [(9, .mptr q 0 0), (12, .i k)]) (fun ⟨k, w, q, nx⟩ => [(0, ⟨26, [s.d]⟩), (1, ⟨30, [o.d]⟩), (2, ⟨26, [[.b false, .v (.string (bs [])), .list true [], .i 0]]⟩), (q, ⟨24, [w.d]⟩)]) (fun ⟨k, w, q, nx⟩ => nx) (0, stZ s o, 59, _) (hA := ⟨iv, iv, iv, rfl, trivial⟩) (round := ?_)
              rintro ⟨k, w, q, nx⟩ ⟨hk, hq, hx, ha, -⟩
              show DW _ _ _ _ { n := _, t := tab _, h := _, nx := _, e := _ }
              simp only [List.cons_append, List.nil_append]
              have n0 : 0 < nx := by omega
              have n1 : 1 < nx := by omega
              have n2 : 2 < nx := by omega
              have z0_1 : (0 = 1) = False := eq_false (by omega)
              have y1_0 : (1 = 0) = False := eq_false (by omega)
              have z0_2 : (0 = 2) = False := eq_false (by omega)
              have y2_0 : (2 = 0) = False := eq_false (by omega)
              have z0_q : (0 = q) = False := eq_false (by omega)
              have yq_0 : (q = 0) = False := eq_false (by omega)
              have z1_2 : (1 = 2) = False := eq_false (by omega)
              have y2_1 : (2 = 1) = False := eq_false (by omega)
              have z1_q : (1 = q) = False := eq_false (by omega)
              have yq_1 : (q = 1) = False := eq_false (by omega)
              have z2_q : (2 = q) = False := eq_false (by omega)
              have yq_2 : (q = 2) = False := eq_false (by omega)
              have ff := And.intro @hx (And.intro @n0 (And.intro @n1 (And.intro @n2 (And.intro @z0_1 (And.intro @y1_0 (And.intro @z0_2 (And.intro @y2_0 (And.intro @z0_q (And.intro @yq_0 (And.intro @z1_2 (And.intro @y2_1 (And.intro @z1_q (And.intro @yq_1 (And.intro @z2_q (And.intro @yq_2 ff)))))))))))))))
              refine dw_seq ?_
              refine stp In ?_
              refine cd (fun c9 => ?_) (fun c9 => ?_) (hp := rfl)
              · skip
                have hk2 : k < o.deltas.length := by simpa using c9
                have ff := And.intro (getD_dlt hk2) ff
                refine dw_skip ?_
                show DW _ _ _ _ _
                refine dw_seq ?_
                refine dw_block ?_
                rcases hap : applyP w o.deltas[k]! with ⟨x, e1⟩
                have hapr : applyR w o.deltas[k]! = (x, e1) := by rw [applyR_P]; exact hap
                have ff := And.intro @hap (And.intro @hapr ff)
                refine stp InF ?_ (hok := by (try simp only [go_sem, ff]); all_goals (first | done | ((repeat' (with_reducible apply And.intro)) <;> first | exact rapply_as9 hap | (intros; exact rapply_as9 hap) | omega | (intro h; simp only [Bool.and_eq_true, decide_eq_true_eq] at h; omega) | (intros; omega) | (intros; simp_all; done) | skip)))
                refine dw_seq ?_
                refine stp In ?_
                refine cd (fun c10 => ?_) (fun c10 => ?_)
                · skip
                  have he1 : e1 ≠ 0 := by grind
                  have hst : appTo (stZ s o) o.deltas (k + 1) = (x, e1) := by rw [appTo_yes (by rw [ha]), ha]; exact hap
                  refine stp In ?_
                  refine dw_ret ?_
                  exact fin 3 (hr := by (try simp only [go_sem, ff]); all_goals (rw [take_mid p1 p2 p3 ho hk2 hst he1]; try rfl))
                · skip
                  obtain rfl : e1 = 0 := by grind
                  refine dw_skip ?_
                  show DW _ _ _ _ _
                  refine rgn In ?_
                  show DW _ _ _ _ _
                  refine rgn In ?_
                  show ∃ _, _
                  exact rnd (k + 1, x, q, _) (h1 := ⟨iv, iv, iv, (by (try dsimp only); rw [appTo_yes (by rw [ha]), ha]; exact hap), trivial⟩)
              · skip
                have e8 : k = o.deltas.length := by omega
                subst e8
                refine dw_exit ?_
                show DW _ _ _ _ _
                refine stp In ?_
                refine dw_ret ?_
                exact fin 3 (hr := by (try simp only [go_sem, ff]); all_goals (rw [take_end p1 p2 p3 hff ho ha]; try rfl))
      · skip
        have hod : offdF o = ([], false) := by unfold offdF; rw [hfu, if_neg Bool.false_ne_true, if_neg (by omega)]
        refine dw_skip ?_
        show DW _ _ _ _ _
        refine dw_seq ?_
        refine stp In ?_
        refine cd (fun c3 => ?_) (fun c3 => ?_)
        · skip
          refine stp In ?_
          refine dw_ret ?_
          exact fin 3 (hr := by (try simp only [go_sem, ff]); all_goals (rw [takeF, if_neg p1, if_pos (by rw [hod]; grind)]; try rfl))
        · skip
          have p2 : ¬ (s.has = true ∧ (offdF o).2 = true ∧ (offdF o).1 ≠ s.zone.apex) := by rw [hod]; grind
          refine dw_skip ?_
          show DW _ _ _ _ _
          refine dw_seq ?_
          refine stp In ?_
          refine cd (fun c4 => ?_) (fun c4 => ?_)
          · skip
            refine stp In ?_
            refine dw_ret ?_
            exact fin 3 (hr := by (try simp only [go_sem, ff]); all_goals (rw [takeF, if_neg p1, if_neg p2, if_pos (by grind)]; try rfl))
          · skip
            have p3 : ¬ (s.has = false ∧ o.full = false) := by grind
            have hh : s.has = true := by cases q : s.has with | true => rfl | false => exact absurd ⟨q, hfu⟩ p3
            have hff : o.full = true → fitsF s o.zone = 0 := fun q => by rw [hfu] at q; cases q
            refine dw_skip ?_
            show DW _ _ _ _ _
            refine stp In ?_
            refine dw_seq ?_
            refine stp In ?_
            refine cd (fun c5 => ?_) (fun c5 => ?_) (hp := rfl)
            · skip
              first | exact c5.elim | (simp at c5; done) | cases c5
            · skip
              refine dw_skip ?_
              show DW _ _ _ _ _
              refine dw_seq ?_
              refine stp In ?_
              refine dw_block ?_
              refine lp (α := (Nat) × (Zon) × (Nat) × Nat) [2, 4, 6] (fun ⟨k, w, q, nx⟩ => (k ≤ o.deltas.length) ∧ (2 < q) ∧ (q < nx) ∧ (appTo (stZ s o) o.deltas k = (w, 0)) ∧ True) (fun ⟨k, w, q, nx⟩ => o.deltas.length - k) (fun ⟨k, w, q, nx⟩ => [(9, .mptr q 0 0), (12, .i k)]) (fun ⟨k, w, q, nx⟩ => [(0, ⟨26, [s.d]⟩), (1, ⟨30, [o.d]⟩), (2, ⟨26, [[.b false, .v (.string (bs [])), .list true [], .i 0]]⟩), (q, ⟨24, [w.d]⟩)]) (fun ⟨k, w, q, nx⟩ => nx) (0, stZ s o, 53, _) (hA := ⟨iv, iv, iv, rfl, trivial⟩) (round := ?_)
              rintro ⟨k, w, q, nx⟩ ⟨hk, hq, hx, ha, -⟩
              show DW _ _ _ _ { n := _, t := tab _, h := _, nx := _, e := _ }
              simp only [List.cons_append, List.nil_append]
              have n0 : 0 < nx := by omega
              have n1 : 1 < nx := by omega
              have n2 : 2 < nx := by omega
              have z0_1 : (0 = 1) = False := eq_false (by omega)
              have y1_0 : (1 = 0) = False := eq_false (by omega)
              have z0_2 : (0 = 2) = False := eq_false (by omega)
              have y2_0 : (2 = 0) = False := eq_false (by omega)
              have z0_q : (0 = q) = False := eq_false (by omega)
              have yq_0 : (q = 0) = False := eq_false (by omega)
              have z1_2 : (1 = 2) = False := eq_false (by omega)
              have y2_1 : (2 = 1) = False := eq_false (by omega)
              have z1_q : (1 = q) = False := eq_false (by omega)
              have yq_1 : (q = 1) = False := eq_false (by omega)
              have z2_q : (2 = q) = False := eq_false (by omega)
              have yq_2 : (q = 2) = False := eq_false (by omega)
              have ff := And.intro @hx (And.intro @n0 (And.intro @n1 (And.intro @n2 (And.intro @z0_1 (And.intro @y1_0 (And.intro @z0_2 (And.intro @y2_0 (And.intro @z0_q (And.intro @yq_0 (And.intro @z1_2 (And.intro @y2_1 (And.intro @z1_q (And.intro @yq_1 (And.intro @z2_q (And.intro @yq_2 ff)))))))))))))))
              refine dw_seq ?_
              refine stp In ?_
              refine cd (fun c9 => ?_) (fun c9 => ?_) (hp := rfl)
              · skip
                have hk2 : k < o.deltas.length := by simpa using c9
                have ff := And.intro (getD_dlt hk2) ff
                refine dw_skip ?_
                show DW _ _ _ _ _
                refine dw_seq ?_
                refine dw_block ?_
                rcases hap : applyP w o.deltas[k]! with ⟨x, e1⟩
                have hapr : applyR w o.deltas[k]! = (x, e1) := by rw [applyR_P]; exact hap
                have ff := And.intro @hap (And.intro @hapr ff)
                refine stp InF ?_ (hok := by (try simp only [go_sem, ff]); all_goals (first | done | ((repeat' (with_reducible apply And.intro)) <;> first | exact rapply_as9 hap | (intros; exact rapply_as9 hap) | omega | (intro h; simp only [Bool.and_eq_true, decide_eq_true_eq] at h; omega) | (intros; omega) | (intros; simp_all; done) | skip)))
                refine dw_seq ?_
                refine stp In ?_
                refine cd (fun c10 => ?_) (fun c10 => ?_)
                · skip
                  have he1 : e1 ≠ 0 := by grind
                  have hst : appTo (stZ s o) o.deltas (k + 1) = (x, e1) := by rw [appTo_yes (by rw [ha]), ha]; exact hap
                  refine stp In ?_
                  refine dw_ret ?_
                  exact fin 3 (hr := by (try simp only [go_sem, ff]); all_goals (rw [take_mid p1 p2 p3 ho hk2 hst he1]; try rfl))
                · skip
                  obtain rfl : e1 = 0 := by grind
                  refine dw_skip ?_
                  show DW _ _ _ _ _
                  refine rgn In ?_
                  show DW _ _ _ _ _
                  refine rgn In ?_
                  show ∃ _, _
                  exact rnd (k + 1, x, q, _) (h1 := ⟨iv, iv, iv, (by (try dsimp only); rw [appTo_yes (by rw [ha]), ha]; exact hap), trivial⟩)
              · skip
                have e8 : k = o.deltas.length := by omega
                subst e8
                refine dw_exit ?_
                show DW _ _ _ _ _
                refine stp In ?_
                refine dw_ret ?_
                exact fin 3 (hr := by (try simp only [go_sem, ff]); all_goals (rw [take_end p1 p2 p3 hff ho ha]; try rfl))
    · skip
      have hzz : stZ s o = o.zone := by unfold stZ; rw [hfu]; try rfl
      have hoz := off_zone ho hfu
      have hdn := off_none ho hfu
      have hne : o.zone.apex ≠ [] := nameOk_ne (zone_ord hoz).apex
      have hod : offdF o = (o.zone.apex, true) := by unfold offdF; rw [hfu]; try rfl
      have ff := And.intro @hfu (And.intro @hzz ff)
      refine stp In ?_
      refine dw_seq ?_
      refine stp In ?_
      refine cd (fun c2 => ?_) (fun c2 => ?_)
      · skip
        exfalso; omega
      · skip
        refine dw_skip ?_
        show DW _ _ _ _ _
        refine dw_seq ?_
        refine stp In ?_
        refine cd (fun c3 => ?_) (fun c3 => ?_)
        · skip
          refine stp In ?_
          refine dw_ret ?_
          exact fin 3 (hr := by (try simp only [go_sem, ff]); all_goals (rw [takeF, if_neg p1, if_pos (by rw [hod]; grind)]; try rfl))
        · skip
          have p2 : ¬ (s.has = true ∧ (offdF o).2 = true ∧ (offdF o).1 ≠ s.zone.apex) := by rw [hod]; grind
          refine dw_skip ?_
          show DW _ _ _ _ _
          refine dw_seq ?_
          refine stp In ?_
          refine cd (fun c4 => ?_) (fun c4 => ?_)
          · skip
            refine stp In ?_
            refine dw_ret ?_
            exact fin 3 (hr := by (try simp only [go_sem, ff]); all_goals (rw [takeF, if_neg p1, if_neg p2, if_pos (by grind)]; try rfl))
          · skip
            have p3 : ¬ (s.has = false ∧ o.full = false) := by rw [hfu]; grind
            refine dw_skip ?_
            show DW _ _ _ _ _
            refine stp In ?_
            refine dw_seq ?_
            refine stp In ?_
            refine cd (fun c5 => ?_) (fun c5 => ?_) (hq := rfl)
            · skip
              refine dw_seq ?_
              refine stp In ?_
              refine cd (fun c6 => ?_) (fun c6 => ?_)
              · skip
                have hh : s.has = true := by grind
                have hsv := sec_zone hs hh
                have hb1 : serB (serialR s.zone) = true := by rw [← serial_ref hsv]; exact ser_ok hsv
                have hb2 : serB (serialR o.zone) = true := by rw [← serial_ref hoz]; exact ser_ok hoz
                refine stp In ?_ (hok := by (try simp only [go_sem, ff]); all_goals (exact rser_as hsv))
                refine stp In ?_ (hok := by (try simp only [go_sem, ff]); all_goals (exact rser_as hoz))
                refine dw_seq ?_
                refine stp In ?_ (hok := by (try simp only [go_sem, ff]); all_goals (first | done | ((repeat' (with_reducible apply And.intro)) <;> first | exact (fun _ => rbefore_ct _ _ hb1 hb2) | (intros; exact (fun _ => rbefore_ct _ _ hb1 hb2)) | omega | (intro h; simp only [Bool.and_eq_true, decide_eq_true_eq] at h; omega) | (intros; omega) | (intros; simp_all; done) | skip)))
                refine cd (fun c7 => ?_) (fun c7 => ?_)
                · skip
                  have hf9 : fitsF s o.zone = 23 := fits_old hh (by rw [serial_ref hsv, serial_ref hoz]; grind) (by rw [serial_ref hsv, serial_ref hoz]; grind)
                  refine stp In ?_
                  refine dw_ret ?_
                  exact fin 3 (hr := by (try simp only [go_sem, ff]); all_goals (rw [takeF, if_neg p1, if_neg p2, if_neg p3, if_pos hfu, hf9, if_pos (by decide)]; try rfl))
                · skip
                  refine dw_skip ?_
                  show DW _ _ _ _ _
                  refine stp In ?_ (hok := by (try simp only [go_sem, ff]); all_goals (first | done | ((repeat' (with_reducible apply And.intro)) <;> first | exact (fun _ => rsamez_as9 (a := s.zone) (b := o.zone) (zone_fit hsv)) | (intros; exact (fun _ => rsamez_as9 (a := s.zone) (b := o.zone) (zone_fit hsv))) | omega | (intro h; simp only [Bool.and_eq_true, decide_eq_true_eq] at h; omega) | (intros; omega) | (intros; simp_all; done) | skip)))
                  refine cd (fun c8 => ?_) (fun c8 => ?_)
                  · skip
                    have hf9 : fitsF s o.zone = 35 := fits_clash hh (by rw [serial_ref hsv, serial_ref hoz]; grind) (by simp only [sameZ] at c8; grind)
                    refine stp In ?_
                    refine dw_ret ?_
                    exact fin 3 (hr := by (try simp only [go_sem, ff]); all_goals (rw [takeF, if_neg p1, if_neg p2, if_neg p3, if_pos hfu, hf9, if_pos (by decide)]; try rfl))
                  · skip
                    have hff : o.full = true → fitsF s o.zone = 0 := fun _ => fits_zero hh (by rw [serial_ref hsv, serial_ref hoz]; grind) (by rw [serial_ref hsv, serial_ref hoz]; grind)
                    refine dw_skip ?_
                    show DW _ _ _ _ _
                    refine rgn In ?_
                    show DW _ _ _ _ _
                    refine dw_seq ?_
                    refine stp In ?_
                    refine dw_block ?_
                    refine lp (α := (Nat) × (Zon) × (Nat) × Nat) [2, 4, 6] (fun ⟨k, w, q, nx⟩ => (k ≤ o.deltas.length) ∧ (2 < q) ∧ (q < nx) ∧ (appTo (stZ s o) o.deltas k = (w, 0)) ∧ True) (fun ⟨k, w, q, nx⟩ => o.deltas.length - k) (fun ⟨k, w, q, nx⟩ => [(9, .mptr q 0 0), (12, .i k)]) (fun ⟨k, w, q, nx⟩ => [(0, ⟨26, [s.d]⟩), (1, ⟨30, [o.d]⟩), (2, ⟨26, [[.b false, .v (.string (bs [])), .list true [], .i 0]]⟩), (q, ⟨24, [w.d]⟩)]) (fun ⟨k, w, q, nx⟩ => nx) (0, stZ s o, 53, _) (hA := ⟨iv, iv, iv, rfl, trivial⟩) (round := ?_)
                    rintro ⟨k, w, q, nx⟩ ⟨hk, hq, hx, ha, -⟩
                    show DW _ _ _ _ { n := _, t := tab _, h := _, nx := _, e := _ }
                    simp only [List.cons_append, List.nil_append]
                    have n0 : 0 < nx := by omega
                    have n1 : 1 < nx := by omega
                    have n2 : 2 < nx := by omega
                    have z0_1 : (0 = 1) = False := eq_false (by omega)
                    have y1_0 : (1 = 0) = False := eq_false (by omega)
                    have z0_2 : (0 = 2) = False := eq_false (by omega)
                    have y2_0 : (2 = 0) = False := eq_false (by omega)
                    have z0_q : (0 = q) = False := eq_false (by omega)
                    have yq_0 : (q = 0) = False := eq_false (by omega)
                    have z1_2 : (1 = 2) = False := eq_false (by omega)
                    have y2_1 : (2 = 1) = False := eq_false (by omega)
                    have z1_q : (1 = q) = False := eq_false (by omega)
                    have yq_1 : (q = 1) = False := eq_false (by omega)
                    have z2_q : (2 = q) = False := eq_false (by omega)
                    have yq_2 : (q = 2) = False := eq_false (by omega)
                    have ff := And.intro @hx (And.intro @n0 (And.intro @n1 (And.intro @n2 (And.intro @z0_1 (And.intro @y1_0 (And.intro @z0_2 (And.intro @y2_0 (And.intro @z0_q (And.intro @yq_0 (And.intro @z1_2 (And.intro @y2_1 (And.intro @z1_q (And.intro @yq_1 (And.intro @z2_q (And.intro @yq_2 ff)))))))))))))))
                    refine dw_seq ?_
                    refine stp In ?_
                    refine cd (fun c9 => ?_) (fun c9 => ?_) (hp := rfl)
                    · skip
                      have hk2 : k < o.deltas.length := by simpa using c9
                      have ff := And.intro (getD_dlt hk2) ff
                      refine dw_skip ?_
                      show DW _ _ _ _ _
                      refine dw_seq ?_
                      refine dw_block ?_
                      rcases hap : applyP w o.deltas[k]! with ⟨x, e1⟩
                      have hapr : applyR w o.deltas[k]! = (x, e1) := by rw [applyR_P]; exact hap
                      have ff := And.intro @hap (And.intro @hapr ff)
                      refine stp InF ?_ (hok := by (try simp only [go_sem, ff]); all_goals (first | done | ((repeat' (with_reducible apply And.intro)) <;> first | exact rapply_as9 hap | (intros; exact rapply_as9 hap) | omega | (intro h; simp only [Bool.and_eq_true, decide_eq_true_eq] at h; omega) | (intros; omega) | (intros; simp_all; done) | skip)))
                      refine dw_seq ?_
                      refine stp In ?_
                      refine cd (fun c10 => ?_) (fun c10 => ?_)
                      · skip
                        have he1 : e1 ≠ 0 := by grind
                        have hst : appTo (stZ s o) o.deltas (k + 1) = (x, e1) := by rw [appTo_yes (by rw [ha]), ha]; exact hap
                        refine stp In ?_
                        refine dw_ret ?_
                        exact fin 3 (hr := by (try simp only [go_sem, ff]); all_goals (rw [take_mid p1 p2 p3 ho hk2 hst he1]; try rfl))
                      · skip
                        obtain rfl : e1 = 0 := by grind
                        refine dw_skip ?_
                        show DW _ _ _ _ _
                        refine rgn In ?_
                        show DW _ _ _ _ _
                        refine rgn In ?_
                        show ∃ _, _
                        exact rnd (k + 1, x, q, _) (h1 := ⟨iv, iv, iv, (by (try dsimp only); rw [appTo_yes (by rw [ha]), ha]; exact hap), trivial⟩)
                    · skip
                      have e8 : k = o.deltas.length := by omega
                      subst e8
                      refine dw_exit ?_
                      show DW _ _ _ _ _
                      refine stp In ?_
                      refine dw_ret ?_
                      exact fin 3 (hr := by (try simp only [go_sem, ff]); all_goals (rw [take_end p1 p2 p3 hff ho ha]; try rfl))
              · skip
                have hff : o.full = true → fitsF s o.zone = 0 := fun _ => by unfold fitsF; rw [if_pos (by grind)]
                refine dw_skip ?_
                show DW _ _ _ _ _
                refine rgn In ?_
                show DW _ _ _ _ _
                refine dw_seq ?_
                refine stp In ?_
                refine dw_block ?_
                refine lp (α := (Nat) × (Zon) × (Nat) × Nat) [2, 4, 6] (fun ⟨k, w, q, nx⟩ => (k ≤ o.deltas.length) ∧ (2 < q) ∧ (q < nx) ∧ (appTo (stZ s o) o.deltas k = (w, 0)) ∧ True) (fun ⟨k, w, q, nx⟩ => o.deltas.length - k) (fun ⟨k, w, q, nx⟩ => [(9, .mptr q 0 0), (12, .i k)]) (fun ⟨k, w, q, nx⟩ => [(0, ⟨26, [s.d]⟩), (1, ⟨30, [o.d]⟩), (2, ⟨26, [[.b false, .v (.string (bs [])), .list true [], .i 0]]⟩), (q, ⟨24, [w.d]⟩)]) (fun ⟨k, w, q, nx⟩ => nx) (0, stZ s o, 53, _) (hA := ⟨iv, iv, iv, rfl, trivial⟩) (round := ?_)
                rintro ⟨k, w, q, nx⟩ ⟨hk, hq, hx, ha, -⟩
                show DW _ _ _ _ { n := _, t := tab _, h := _, nx := _, e := _ }
                simp only [List.cons_append, List.nil_append]
                have n0 : 0 < nx := by omega
                have n1 : 1 < nx := by omega
                have n2 : 2 < nx := by omega
                have z0_1 : (0 = 1) = False := eq_false (by omega)
                have y1_0 : (1 = 0) = False := eq_false (by omega)
                have z0_2 : (0 = 2) = False := eq_false (by omega)
                have y2_0 : (2 = 0) = False := eq_false (by omega)
                have z0_q : (0 = q) = False := eq_false (by omega)
                have yq_0 : (q = 0) = False := eq_false (by omega)
                have z1_2 : (1 = 2) = False := eq_false (by omega)
                have y2_1 : (2 = 1) = False := eq_false (by omega)
                have z1_q : (1 = q) = False := eq_false (by omega)
                have yq_1 : (q = 1) = False := eq_false (by omega)
                have z2_q : (2 = q) = False := eq_false (by omega)
                have yq_2 : (q = 2) = False := eq_false (by omega)
                have ff := And.intro @hx (And.intro @n0 (And.intro @n1 (And.intro @n2 (And.intro @z0_1 (And.intro @y1_0 (And.intro @z0_2 (And.intro @y2_0 (And.intro @z0_q (And.intro @yq_0 (And.intro @z1_2 (And.intro @y2_1 (And.intro @z1_q (And.intro @yq_1 (And.intro @z2_q (And.intro @yq_2 ff)))))))))))))))
                refine dw_seq ?_
                refine stp In ?_
                refine cd (fun c9 => ?_) (fun c9 => ?_) (hp := rfl)
                · skip
                  have hk2 : k < o.deltas.length := by simpa using c9
                  have ff := And.intro (getD_dlt hk2) ff
                  refine dw_skip ?_
                  show DW _ _ _ _ _
                  refine dw_seq ?_
                  refine dw_block ?_
                  rcases hap : applyP w o.deltas[k]! with ⟨x, e1⟩
                  have hapr : applyR w o.deltas[k]! = (x, e1) := by rw [applyR_P]; exact hap
                  have ff := And.intro @hap (And.intro @hapr ff)
                  refine stp InF ?_ (hok := by (try simp only [go_sem, ff]); all_goals (first | done | ((repeat' (with_reducible apply And.intro)) <;> first | exact rapply_as9 hap | (intros; exact rapply_as9 hap) | omega | (intro h; simp only [Bool.and_eq_true, decide_eq_true_eq] at h; omega) | (intros; omega) | (intros; simp_all; done) | skip)))
                  refine dw_seq ?_
                  refine stp In ?_
                  refine cd (fun c10 => ?_) (fun c10 => ?_)
                  · skip
                    have he1 : e1 ≠ 0 := by grind
                    have hst : appTo (stZ s o) o.deltas (k + 1) = (x, e1) := by rw [appTo_yes (by rw [ha]), ha]; exact hap
                    refine stp In ?_
                    refine dw_ret ?_
                    exact fin 3 (hr := by (try simp only [go_sem, ff]); all_goals (rw [take_mid p1 p2 p3 ho hk2 hst he1]; try rfl))
                  · skip
                    obtain rfl : e1 = 0 := by grind
                    refine dw_skip ?_
                    show DW _ _ _ _ _
                    refine rgn In ?_
                    show DW _ _ _ _ _
                    refine rgn In ?_
                    show ∃ _, _
                    exact rnd (k + 1, x, q, _) (h1 := ⟨iv, iv, iv, (by (try dsimp only); rw [appTo_yes (by rw [ha]), ha]; exact hap), trivial⟩)
                · skip
                  have e8 : k = o.deltas.length := by omega
                  subst e8
                  refine dw_exit ?_
                  show DW _ _ _ _ _
                  refine stp In ?_
                  refine dw_ret ?_
                  exact fin 3 (hr := by (try simp only [go_sem, ff]); all_goals (rw [take_end p1 p2 p3 hff ho ha]; try rfl))
            · skip
              first | exact c5.elim | (simp at c5; done) | cases c5
theorem bo18 : hasBody Tryz.prog 18 = true := by kernel_rfl
theorem rpull14_ct (s : Sec) (l : List Zon) (t : Int) (hl : l.length ≤ 1000000) : PureCt Tryz.prog 18 [.agg s.d, .list false (l.map Zon.d), .i t] (.tuple [.agg (pullF s l t).1.d, .i (pullF s l t).2]) := by
  refine pure_of_dw Tryz.func18 rfl bo18 (by simp [go_sem, D.nr, nrs, nrr]) (by simp [Tryz.f18]) ?_
  unfold Tryz.f18
  simp only [init_eq]
  have ff := True.intro
  refine stp In ?_
  refine dw_seq ?_
  refine stp In ?_ (hok := by (try simp only [go_sem, ff]); all_goals (first | done | ((repeat' (with_reducible apply And.intro)) <;> first | exact rvsec14_ct s | (intros; exact rvsec14_ct s) | skip)))
  refine cd (fun c1 => ?_) (fun c1 => ?_)
  · skip
    refine stp In ?_
    refine dw_ret ?_
    exact fin 3 (hr := by (try simp only [go_sem, ff]); all_goals (rw [pullF, if_pos (by grind)]; try rfl))
  · skip
    have hs : secOk s = true := by grind
    refine dw_skip ?_
    show DW _ _ _ _ _
    refine stp In ?_
    refine dw_seq ?_
    rcases hsv : serveF l s.has (secSer s) with ⟨x, e0⟩
    rcases fOrT s.has with hh | hh
    · skip
      have hss : secSer s = 0 := by unfold secSer; rw [hh]; try rfl
      have hsv2 : serveF l s.has 0 = (x, e0) := by rw [hss] at hsv; exact hsv
      have ff := And.intro @hsv2 ff
      refine stp In ?_
      refine cd (fun c2 => ?_) (fun c2 => ?_) (hp := rfl)
      · skip
        exfalso; rw [hh] at c2; cases c2
      · skip
        refine dw_skip ?_
        show DW _ _ _ _ _
        refine stp In ?_ (hok := by (try simp only [go_sem, ff]); all_goals (exact rserve_as hl hsv2))
        refine dw_seq ?_
        refine stp In ?_
        refine cd (fun c3 => ?_) (fun c3 => ?_)
        · skip
          refine stp In ?_
          refine dw_ret ?_
          exact fin 3 (hr := by (try simp only [go_sem, ff]); all_goals (rw [pullF, if_neg (by rw [hs]; exact Bool.noConfusion), hsv, if_pos (by grind)]; try rfl))
        · skip
          refine dw_skip ?_
          show DW _ _ _ _ _
          refine stp In ?_ (hok := by (try simp only [go_sem, ff]); all_goals (first | done | ((repeat' (with_reducible apply And.intro)) <;> first | exact rtake14_ct s x t | (intros; exact rtake14_ct s x t) | (have h9 := rtake14_ct s x t; simp only [go_sem, hh] at h9; exact h9) | skip)))
          refine dw_ret ?_
          exact fin 3 (hr := by (try simp only [go_sem, ff]); all_goals (rw [pullF, if_neg (by rw [hs]; exact Bool.noConfusion), hsv, if_neg (by grind)]; try rfl))
    · skip
      have hsz := sec_zone hs hh
      have hss : secSer s = serialR s.zone := by unfold secSer; rw [hh, ← serial_ref hsz]; try rfl
      have hsv2 : serveF l s.has (serialR s.zone) = (x, e0) := by rw [hss] at hsv; exact hsv
      have ff := And.intro @hsv2 ff
      refine stp In ?_
      refine cd (fun c2 => ?_) (fun c2 => ?_) (hq := rfl)
      · skip
        refine rgn In ?_ (hok := by (try simp only [go_sem, ff]); all_goals (exact rser_as hsz))
        show DW _ _ _ _ _
        refine stp In ?_ (hok := by (try simp only [go_sem, ff]); all_goals (exact rserve_as hl hsv2))
        refine dw_seq ?_
        refine stp In ?_
        refine cd (fun c3 => ?_) (fun c3 => ?_)
        · skip
          refine stp In ?_
          refine dw_ret ?_
          exact fin 3 (hr := by (try simp only [go_sem, ff]); all_goals (rw [pullF, if_neg (by rw [hs]; exact Bool.noConfusion), hsv, if_pos (by grind)]; try rfl))
        · skip
          refine dw_skip ?_
          show DW _ _ _ _ _
          refine stp In ?_ (hok := by (try simp only [go_sem, ff]); all_goals (first | done | ((repeat' (with_reducible apply And.intro)) <;> first | exact rtake14_ct s x t | (intros; exact rtake14_ct s x t) | (have h9 := rtake14_ct s x t; simp only [go_sem, hh] at h9; exact h9) | skip)))
          refine dw_ret ?_
          exact fin 3 (hr := by (try simp only [go_sem, ff]); all_goals (rw [pullF, if_neg (by rw [hs]; exact Bool.noConfusion), hsv, if_neg (by grind)]; try rfl))
      · skip
        exfalso; rw [hh] at c2; cases c2

end Go.Proofs.YtipkfnkmdeopeaaGreatDoor
namespace Go.Proofs.YtipkfnkmdeopeaaGreatDoor
open Go.DL Go.Str Go.Rec Go.Cmp Go.Zon
set_option maxRecDepth 10000
set_option linter.unusedSimpArgs false
set_option linter.unusedVariables false
theorem hq1 : serveF [verZ 1, verZ 2, verZ 3] true 2 = (⟨false, zon0, [dD (verZ 2) (verZ 3)]⟩, 0) := by kernel_rfl
theorem hq2 : serveF [verZ 1, verZ 2, verZ 3] true 7 = (⟨true, verZ 3, []⟩, 0) := by kernel_rfl
theorem hq3 : serveF [] false 0 = (off0, 4) := by kernel_rfl
theorem hq4 : pullF ⟨true, verZ 1, 5⟩ [verZ 1, verZ 2, verZ 3] 9 = (⟨true, verZ 3, 9⟩, 0) := by kernel_rfl
theorem hq5 : pullF ⟨true, verZ 7, 5⟩ [verZ 1, verZ 2, verZ 3] 9 = (sec0, 23) := by kernel_rfl
theorem hq6 : pullF ⟨false, ⟨[], []⟩, 0⟩ [verZ 1, verZ 2, verZ 3] 9 = (⟨true, verZ 3, 9⟩, 0) := by kernel_rfl
theorem hq7 : takeF ⟨false, ⟨[], []⟩, 0⟩ ⟨false, ⟨[], []⟩, [dD (verZ 2) (verZ 3)]⟩ 9 = (sec0, 6) := by kernel_rfl
theorem hq8 : expF ⟨true, verZ 3, 9⟩ 20 10 = (true, 0) := by kernel_rfl
theorem hq9 : fitL (verZ 3).sets := ⟨by decide, by intro k hk; have : k = 0 ∨ k = 1 := (by have : (verZ 3).sets.length = 2 := rfl; omega); rcases this with e | e <;> subst e <;> exact ⟨by decide, by decide⟩⟩
theorem hqf : fitL (dD (verZ 2) (verZ 3)).put := putD_fit hq9
theorem hqp : ∀ i, i < ([dD (verZ 2) (verZ 3)] : List Dlt).length → fitL ([dD (verZ 2) (verZ 3)] : List Dlt)[i]!.put := by
  intro i hi
  have : i = 0 := by simp at hi; omega
  subst this
  exact hqf
theorem hql : ([dD (verZ 2) (verZ 3)] : List Dlt).length = 1 := rfl
theorem tpull_as {s : Sec} {l : List Zon} {t : Int} {x : Sec} {e : Int} (h : pullF s l t = (x, e)) : PureCt Tryz.prog 17 [.agg s.d, .list false (l.map Zon.d), .i t] (.tuple [.agg x.d, .i e]) := by
  have := tpull_ct s l t
  rwa [h] at this
theorem ttake_as {s : Sec} {o : Off} {t : Int} {x : Sec} {e : Int} (hf : ∀ i, i < o.deltas.length → fitL o.deltas[i]!.put) (h : takeF s o t = (x, e)) : PureCt Tryz.prog 14 [.agg s.d, .agg o.d, .i t] (.tuple [.agg x.d, .i e]) := by
  have := ttake_ct s o t hf
  rwa [h] at this
theorem texp_as {s : Sec} {t p : Int} {x : Bool} {e : Int} (h : expF s t p = (x, e)) : PureCt Tryz.prog 19 [.agg s.d, .i t, .i p] (.tuple [.b x, .i e]) := by
  have := texp_ct s t p
  rwa [h] at this
theorem rsame14_self {x : Sec} (h : fitL x.zone.sets) : PureCt Tryz.prog 16 [.agg x.d, .agg x.d] (.b true) := by
  have := rsame14_ct x x h
  rwa [sameC_self] at this
theorem rsameo14_self {x : Off} (h : fitL x.zone.sets ∧ (∀ i, i < x.deltas.length → fitL x.deltas[i]!.put ∧ x.deltas[i]!.drop.length ≤ 1000000) ∧ x.deltas.length ≤ 1000000) : PureCt Tryz.prog 13 [.agg x.d, .agg x.d] (.b true) := by
  have := rsameo14_ct x x h.1 h.2.1 h.2.2
  rwa [sameO_self] at this
theorem rpull_as {s : Sec} {l : List Zon} {t : Int} {x : Sec} {e : Int} (hl : l.length ≤ 1000000) (h : pullF s l t = (x, e)) : PureCt Tryz.prog 18 [.agg s.d, .list false (l.map Zon.d), .i t] (.tuple [.agg x.d, .i e]) := by
  have := rpull14_ct s l t hl
  rwa [h] at this
theorem rtake_as {s : Sec} {o : Off} {t : Int} {x : Sec} {e : Int} (h : takeF s o t = (x, e)) : PureCt Tryz.prog 15 [.agg s.d, .agg o.d, .i t] (.tuple [.agg x.d, .i e]) := by
  have := rtake14_ct s o t
  rwa [h] at this
theorem rexp_as {s : Sec} {t p : Int} {x : Bool} {e : Int} (h : expF s t p = (x, e)) : PureCt Tryz.prog 20 [.agg s.d, .i t, .i p] (.tuple [.b x, .i e]) := by
  have := rexp14_ct s t p
  rwa [h] at this
theorem bo29 : hasBody Tryz.prog 29 = true := by kernel_rfl
theorem tversion_ct (n : Int) : PureCt Tryz.prog 29 [.i n] (.agg (verZ n).d) := by
  refine pure_of_dw Tryz.func29 rfl bo29 (by simp [go_sem, D.nr, nrs, nrr]) (by simp [Tryz.f29]) ?_
  unfold Tryz.f29
  simp only [init_eq]
  have ff := True.intro
  refine stp In ?_
  refine stp In ?_
  refine dw_seq ?_
  refine dw_ownj 2 1 24 86 (by simp only [go_sem, ff]; exact rfl) (by rfl) (by simp only [go_sem, ff]) ?_
  simp only [List.set_cons_succ, List.set_cons_zero]
  refine stp In ?_
  refine dw_block ?_
  refine lp (α := (Nat) × (Nat) × Nat) [2, 3, 14, 15] (fun ⟨k, r, nx⟩ => (k ≤ 2) ∧ (r < nx) ∧ (2 < r) ∧ True) (fun ⟨k, r, nx⟩ => 2 - k) (fun ⟨k, r, nx⟩ => [(16, .i k)]) (fun ⟨k, r, nx⟩ => [(0, ⟨24, [[.v (.string (bs [])), .list true []]]⟩), (2, ⟨24, [[.v (.string (bs [120])), .mrow r 0 k]]⟩), (r, ⟨86, ([[.v (.string (bs [120])), .i 2, .i 0, .list true [[.v (.string (bs [97, 46, 110, 115])), .i 0, .i 0]], .list true []], [.v (.string (bs [120])), .i 4, .i 0, .list true [[.v (.string (bs [])), .i n, .i 0]], .list true []]]).take k⟩)]) (fun ⟨k, r, nx⟩ => nx) (0, 4, _) (hA := ⟨iv, iv, iv, trivial⟩) (round := ?_)
  rintro ⟨k, r, nx⟩ ⟨hk, hr, hr0, -⟩
  show DW _ _ _ _ { n := _, t := tab _, h := _, nx := _, e := _ }
  simp only [List.cons_append, List.nil_append]
  have n0 : 2 < nx := by omega
  have z0_2 : (0 = 2) = False := eq_false (by omega)
  have y2_0 : (2 = 0) = False := eq_false (by omega)
  have z0_r : (0 = r) = False := eq_false (by omega)
  have yr_0 : (r = 0) = False := eq_false (by omega)
  have z2_r : (2 = r) = False := eq_false (by omega)
  have yr_2 : (r = 2) = False := eq_false (by omega)
  have ff := And.intro @hr (And.intro @n0 (And.intro @z0_2 (And.intro @y2_0 (And.intro @z0_r (And.intro @yr_0 (And.intro @z2_r (And.intro @yr_2 ff)))))))
  refine stp In ?_
  refine dw_seq ?_
  refine cd (fun c1 => ?_) (fun c1 => ?_) (hp := rfl)
  · skip
    have h01 : k = 0 ∨ k = 1 := by have h9 : (k:Int) < 2 := (by simpa using c1); omega
    refine dw_skip ?_
    show DW _ _ _ _ _
    refine dw_seq ?_
    refine dw_block ?_
    rcases h01 with e0 | e0
    · skip
      have ff := And.intro @e0 ff
      refine stp In ?_
      refine rgn In ?_
      show DW _ _ _ _ _
      refine rgn In ?_
      show ∃ _, _
      exact rnd (k + 1, (nx + 10), _) (h1 := ⟨iv, iv, iv, trivial⟩) (h3 := by (try simp only [go_sem, ff]); all_goals (first | done | rfl | (simp; done) | (left; simp; done) | (right; simp; done))) (h4 := by (try simp only [go_sem, ff]); all_goals (first | done | rfl | (simp; done) | (left; simp; done) | (right; simp; done))) (h5 := by (try simp only [go_sem, ff]); all_goals (first | done | rfl | (simp; done) | (left; simp; done) | (right; simp; done)))
    · skip
      have ff := And.intro @e0 ff
      refine stp In ?_
      refine rgn In ?_
      show DW _ _ _ _ _
      refine rgn In ?_
      show ∃ _, _
      exact rnd (k + 1, (nx + 10), _) (h1 := ⟨iv, iv, iv, trivial⟩) (h3 := by (try simp only [go_sem, ff]); all_goals (first | done | rfl | (simp; done) | (left; simp; done) | (right; simp; done))) (h4 := by (try simp only [go_sem, ff]); all_goals (first | done | rfl | (simp; done) | (left; simp; done) | (right; simp; done))) (h5 := by (try simp only [go_sem, ff]); all_goals (first | done | rfl | (simp; done) | (left; simp; done) | (right; simp; done)))
  · skip
    refine dw_exit ?_
    show DW _ _ _ _ _
    have e9 : k = 2 := by have h9 : ¬ (k:Int) < 2 := (by simpa using c1); omega
    subst e9
    refine stp In ?_
    refine dw_ret ?_
    exact fin 5 (hr := by (try simp only [go_sem, ff]); all_goals (rfl))
theorem bo10 : hasBody Tryz.prog 10 = true := by kernel_rfl
theorem tfew_ct (s : Sec) (l : List Zon) (o : Off) : PureCt Tryz.prog 10 [.agg s.d, .list false (l.map Zon.d), .agg o.d] (.b (fewT s l o)) := by
  refine pure_of_dw Tryz.func10 rfl bo10 (by simp [go_sem, D.nr, nrs, nrr]) (by simp [Tryz.f10]) ?_
  unfold Tryz.f10
  simp only [init_eq]
  have ff := True.intro
  refine stp In ?_
  refine stp In ?_ (hok := by (try simp only [go_sem, ff]); all_goals (first | done | ((repeat' (with_reducible apply And.intro)) <;> first | exact r06few_ct s.zone | (intros; exact r06few_ct s.zone) | exact (fun _ => rfew14_ct l) | (intros; exact (fun _ => rfew14_ct l)) | exact (fun _ => rfewo14_ct o) | (intros; exact (fun _ => rfewo14_ct o)) | skip)))
  refine dw_ret ?_
  exact fin 0 (hr := by (try simp only [go_sem, ff]); all_goals (rfl))
theorem bo9 : hasBody Tryz.prog 9 = true := by kernel_rfl
theorem head14_ct  : PureCt Tryz.prog 9 [] (.b true) := by
  refine pure_of_dw Tryz.func9 rfl bo9 (by simp [go_sem, D.nr, nrs, nrr]) (by simp [Tryz.f9]) ?_
  unfold Tryz.f9
  simp only [init_eq]
  have ff := True.intro
  have ff := And.intro @hq1 (And.intro @hq2 (And.intro @hq3 (And.intro @hq4 (And.intro @hq5 (And.intro @hq6 (And.intro @hq7 (And.intro @hq8 (And.intro @hql (And.intro (@sameC_self) ff)))))))))
  refine stp In ?_
  refine stp In ?_ (hok := by (try simp only [go_sem, ff]); all_goals (first | done | ((repeat' (with_reducible apply And.intro)) <;> first | exact tversion_ct 1 | (intros; exact tversion_ct 1) | exact tversion_ct 2 | (intros; exact tversion_ct 2) | exact tversion_ct 3 | (intros; exact tversion_ct 3) | skip)))
  refine stp In ?_ (hok := by (try simp only [go_sem, ff]); all_goals (exact tserve_as hq1))
  refine stp In ?_ (hok := by (try simp only [go_sem, ff]); all_goals (exact tserve_as hq2))
  refine stp In ?_ (hok := by (try simp only [go_sem, ff]); all_goals (exact tserve_as hq3))
  refine stp In ?_ (hok := by (try simp only [go_sem, ff]); all_goals (first | done | ((repeat' (with_reducible apply And.intro)) <;> first | exact tversion_ct 1 | (intros; exact tversion_ct 1) | exact tpull_as hq4 | (intros; exact tpull_as hq4) | skip)))
  refine stp In ?_ (hok := by (try simp only [go_sem, ff]); all_goals (first | done | ((repeat' (with_reducible apply And.intro)) <;> first | exact tversion_ct 7 | (intros; exact tversion_ct 7) | exact tpull_as hq5 | (intros; exact tpull_as hq5) | skip)))
  refine stp In ?_ (hok := by (try simp only [go_sem, ff]); all_goals (first | done | ((repeat' (with_reducible apply And.intro)) <;> first | exact tpull_as hq6 | (intros; exact tpull_as hq6) | skip)))
  refine stp In ?_ (hok := by (try simp only [go_sem, ff]); all_goals (first | done | ((repeat' (with_reducible apply And.intro)) <;> first | exact ttake_as hqp hq7 | (intros; exact ttake_as hqp hq7) | skip)))
  refine stp In ?_ (hok := by (try simp only [go_sem, ff]); all_goals (exact texp_as hq8))
  refine stp In ?_
  refine stp In ?_ (hok := by (try simp only [go_sem, ff]); all_goals (first | done | ((repeat' (with_reducible apply And.intro)) <;> first | exact tversion_ct 3 | (intros; exact tversion_ct 3) | exact (fun _ => tversion_ct 3) | (intros; exact (fun _ => tversion_ct 3)) | exact (fun _ => rsame14_self (x := ⟨true, verZ 3, 9⟩) hq9) | (intros; exact (fun _ => rsame14_self (x := ⟨true, verZ 3, 9⟩) hq9)) | exact rsame14_self (x := ⟨true, verZ 3, 9⟩) hq9 | (intros; exact rsame14_self (x := ⟨true, verZ 3, 9⟩) hq9) | skip)))
  refine dw_ret ?_
  exact fin 0 (hr := by (try simp only [go_sem, ff]); all_goals (first | rfl | kernel_rfl))

end Go.Proofs.YtipkfnkmdeopeaaGreatDoor
namespace Go.Proofs.YtipkfnkmdeopeaaGreatDoor
open Go.DL Go.Str Go.Rec Go.Cmp Go.Zon
set_option maxRecDepth 10000
set_option linter.unusedSimpArgs false
set_option linter.unusedVariables false
theorem bo3 : hasBody Tryz.prog 3 = true := by kernel_rfl
theorem lawTM_ct (s : Sec) (l : List Zon) (o : Off) (b : Bool) (n : Int) (t : Int) (p : Int) : PureCt Tryz.prog 3 [.agg s.d, .list false (l.map Zon.d), .agg o.d, .b b, .i n, .i t, .i p] (.b true) := by
  refine pure_of_dw Tryz.func3 rfl bo3 (by simp [go_sem, D.nr, nrs, nrr]) (by simp [Tryz.f3]) ?_
  unfold Tryz.f3
  simp only [init_eq]
  have ff := True.intro
  refine stp In ?_
  refine stp In ?_ (hok := by (try simp only [go_sem, ff]); all_goals (exact head14_ct))
  refine dw_seq ?_
  refine stp In ?_ (hok := by (try simp only [go_sem, ff]); all_goals (first | done | ((repeat' (with_reducible apply And.intro)) <;> first | exact tfew_ct s l o | (intros; exact tfew_ct s l o) | skip)))
  refine cd (fun c1 => ?_) (fun c1 => ?_)
  · skip
    refine stp In ?_
    refine dw_ret ?_
    exact fin 0 (hr := by (try simp only [go_sem, ff]); all_goals (rfl))
  · skip
    obtain ⟨f1, f2, f3⟩ := fewT_iff (by grind : fewT s l o = true)
    have hof := fewO_fit f3
    have hll := fewL_len f2
    refine dw_skip ?_
    show DW _ _ _ _ _
    rcases hx : serveF l b n with ⟨x, k1⟩
    have hxs := serve_small hx
    have ff := And.intro @hx (And.intro (@sameC_self) (And.intro (@sameO_self) ff))
    refine stp In ?_ (hok := by (try simp only [go_sem, ff]); all_goals (exact tserve_as hx))
    refine stp In ?_ (hok := by (try simp only [go_sem, ff]); all_goals (exact rserve_as (by omega) hx))
    refine stp In ?_ (hok := by (try simp only [go_sem, ff]); all_goals (first | exact rsameo14_self hxs | (intro _; exact rsameo14_self hxs)))
    rcases hy : takeF s o t with ⟨y, k2⟩
    have hys := take_small hy
    have ff := And.intro @hy ff
    refine stp In ?_ (hok := by (try simp only [go_sem, ff]); all_goals (exact ttake_as hof hy))
    refine stp In ?_ (hok := by (try simp only [go_sem, ff]); all_goals (exact rtake_as hy))
    refine stp In ?_ (hok := by (try simp only [go_sem, ff]); all_goals (first | exact rsame14_self hys | (intro _; exact rsame14_self hys)))
    rcases hw : pullF s l t with ⟨w, k3⟩
    have hws := pull_small hw
    have ff := And.intro @hw ff
    refine stp In ?_ (hok := by (try simp only [go_sem, ff]); all_goals (exact tpull_as hw))
    refine stp In ?_ (hok := by (try simp only [go_sem, ff]); all_goals (exact rpull_as (by omega) hw))
    refine stp In ?_ (hok := by (try simp only [go_sem, ff]); all_goals (first | exact rsame14_self hws | (intro _; exact rsame14_self hws)))
    rcases hu : expF s t p with ⟨u, k4⟩
    have ff := And.intro @hu ff
    refine stp In ?_ (hok := by (try simp only [go_sem, ff]); all_goals (exact texp_as hu))
    refine stp In ?_ (hok := by (try simp only [go_sem, ff]); all_goals (exact rexp_as hu))
    refine stp In ?_
    refine dw_ret ?_
    exact fin 0 (hr := by (try simp only [go_sem, ff]); all_goals (first | rfl | (simp; done)))
end Go.Proofs.YtipkfnkmdeopeaaGreatDoor
