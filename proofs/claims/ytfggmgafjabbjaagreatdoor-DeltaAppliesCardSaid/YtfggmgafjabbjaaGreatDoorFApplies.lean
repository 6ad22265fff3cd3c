/-
  PROVED: the given card DeltaAppliesCardSaid: for every input the law DeltaApplies answers true, and leaves its arguments as they were. Conditions: the listed variable holds what the program lays in it (the tie is given).
-/
import Derived.Test.YtfggmgafjabbjaaGreatDoorRows
import Derived.Test.YtfggmgafjabbjaaGreatDoorTie
import Derived.Test.YtfggmgafjabbjaaGreatDoorCards
import Derived.JoinedOf
import Derived.Handed
import Derived.LaidMore
import Derived.LaidLaws
import Derived.Lay
import Derived.SevenTiedAt
import Derived.Test.YtfggmgafjabbjaaGreatDoorMB1
import Derived.Test.YtfggmgafjabbjaaGreatDoorMB2
import Derived.Test.YtfggmgafjabbjaaGreatDoorMB3
import Derived.Test.YtfggmgafjabbjaaGreatDoorMB4
import Derived.Test.YtfggmgafjabbjaaGreatDoorMB5
namespace Go.Proofs.YtfggmgafjabbjaaGreatDoor
open Go.DL Go.Str Go.Rec Go.Cmp Go.Zon
set_option maxRecDepth 10000
set_option linter.unusedSimpArgs false
set_option linter.unusedVariables false
theorem zvalid_yes {z : Zon} (h : zoneOk z = true) : PureCt Tryz.prog 14 [.agg z.d] (.b true) := by
  have := zvalid_ct z
  rwa [h] at this
theorem dapply_as {z : Zon} {d : Dlt} {x : Zon} {e : Int} (hp : fitL d.put) (h : applyP z d = (x, e)) : PureCt Tryz.prog 12 [.agg z.d, .agg d.d] (.tuple [.agg x.d, .i e]) := by
  have := dapply_ct z d hp
  rwa [h] at this
theorem ddiff_as {a b : Zon} {x : Dlt} {e : Int} (h : diffP a b = (x, e)) : PureCt Tryz.prog 15 [.agg a.d, .agg b.d] (.tuple [.agg x.d, .i e]) := by
  have := ddiff_ct a b
  rwa [h] at this
theorem bo3 : hasBody Tryz.prog 3 = true := by kernel_rfl
theorem lawOnce_ct (z : Zon) (d : Dlt) : PureCt Tryz.prog 3 [.agg z.d, .agg d.d] (.b true) := by
  refine pure_of_dw Tryz.func3 rfl bo3 (by simp [go_sem, D.nr, nrs, nrr]) (by simp [Tryz.f3]) ?_
  unfold Tryz.f3
  simp only [init_eq]
  have ff := True.intro
  refine stp Ln ?_
  refine stp Ln ?_ (hok := by (try simp only [go_sem, ff]); all_goals (exact head11_ct))
  refine dw_seq ?_
  refine stp Ln ?_ (hok := by (try simp only [go_sem, ff]); all_goals (first | done | ((repeat' (with_reducible apply And.intro)) <;> first | exact r06few_ct z | (intros; exact r06few_ct z) | exact (fun _ => rfew11_ct d) | (intros; exact (fun _ => rfew11_ct d)) | exact (fun _ => r06valid_ct z) | (intros; exact (fun _ => r06valid_ct z)) | skip)))
  refine cd (fun c1 => ?_) (fun c1 => ?_)
  · skip
    refine stp Ln ?_
    refine dw_ret ?_
    exact fin 0 (hr := by (try simp only [go_sem, ff]); all_goals (rfl))
  · skip
    have hz : zoneOk z = true := by rw [zoneOk_ref]; grind
    have hf : fewD d = true := by grind
    have hp := few_fit hf
    have hfz : fewZ z = true := by grind
    have ff := And.intro @hz ff
    refine dw_skip ?_
    show DW _ _ _ _ _
    rcases apply_cases z d with ha | ⟨ha, hne⟩ | ha | ha | ⟨ha, hk⟩
    · skip
      have ff := And.intro @ha ff
      refine stp Ln ?_ (hok := by (try simp only [go_sem, ff]); all_goals (exact dapply_as hp ha))
      refine stp Ln ?_ (hok := by (try simp only [go_sem, ff]); all_goals (exact zserial_yes hz))
      refine dw_seq ?_
      refine stp Ln ?_
      refine cd (fun c2 => ?_) (fun c2 => ?_) (hp := rfl)
      · skip
        first | exact c2.elim | (simp at c2; done)
      · skip
        refine dw_skip ?_
        show DW _ _ _ _ _
        refine dw_seq ?_
        refine stp Ln ?_
        refine cd (fun c3 => ?_) (fun c3 => ?_) (hq := rfl)
        · skip
          refine stp Ln ?_
          refine dw_ret ?_
          exact fin 0 (hr := by (try simp only [go_sem, ff]); all_goals (first | rfl | (simp; done) | (simp_all; done)))
        · skip
          first | exact c3.elim | (simp at c3; done)
    · skip
      have hne2 : (serialOf z != d.frm) = true := bne_iff_ne.2 hne
      have ff := And.intro @ha (And.intro @hne2 ff)
      refine stp Ln ?_ (hok := by (try simp only [go_sem, ff]); all_goals (exact dapply_as hp ha))
      refine stp Ln ?_ (hok := by (try simp only [go_sem, ff]); all_goals (exact zserial_yes hz))
      refine dw_seq ?_
      refine stp Ln ?_
      refine cd (fun c2 => ?_) (fun c2 => ?_) (hp := rfl)
      · skip
        first | exact c2.elim | (simp at c2; done)
      · skip
        refine dw_skip ?_
        show DW _ _ _ _ _
        refine dw_seq ?_
        refine stp Ln ?_
        refine cd (fun c3 => ?_) (fun c3 => ?_) (hq := rfl)
        · skip
          refine stp Ln ?_
          refine dw_ret ?_
          exact fin 0 (hr := by (try simp only [go_sem, ff]); all_goals (first | rfl | (simp; done) | (simp_all; done)))
        · skip
          first | exact c3.elim | (simp at c3; done)
    · skip
      have ff := And.intro @ha ff
      refine stp Ln ?_ (hok := by (try simp only [go_sem, ff]); all_goals (exact dapply_as hp ha))
      refine stp Ln ?_ (hok := by (try simp only [go_sem, ff]); all_goals (exact zserial_yes hz))
      refine dw_seq ?_
      refine stp Ln ?_
      refine cd (fun c2 => ?_) (fun c2 => ?_) (hp := rfl)
      · skip
        first | exact c2.elim | (simp at c2; done)
      · skip
        refine dw_skip ?_
        show DW _ _ _ _ _
        refine dw_seq ?_
        refine stp Ln ?_
        refine cd (fun c3 => ?_) (fun c3 => ?_) (hq := rfl)
        · skip
          refine stp Ln ?_
          refine dw_ret ?_
          exact fin 0 (hr := by (try simp only [go_sem, ff]); all_goals (first | rfl | (simp; done) | (simp_all; done)))
        · skip
          first | exact c3.elim | (simp at c3; done)
    · skip
      have ff := And.intro @ha ff
      refine stp Ln ?_ (hok := by (try simp only [go_sem, ff]); all_goals (exact dapply_as hp ha))
      refine stp Ln ?_ (hok := by (try simp only [go_sem, ff]); all_goals (exact zserial_yes hz))
      refine dw_seq ?_
      refine stp Ln ?_
      refine cd (fun c2 => ?_) (fun c2 => ?_) (hp := rfl)
      · skip
        first | exact c2.elim | (simp at c2; done)
      · skip
        refine dw_skip ?_
        show DW _ _ _ _ _
        refine dw_seq ?_
        refine stp Ln ?_
        refine cd (fun c3 => ?_) (fun c3 => ?_) (hq := rfl)
        · skip
          refine stp Ln ?_
          refine dw_ret ?_
          exact fin 0 (hr := by (try simp only [go_sem, ff]); all_goals (first | rfl | (simp; done) | (simp_all; done)))
        · skip
          first | exact c3.elim | (simp at c3; done)
    · skip
      have hk1 := hk.new
      have hk2 := apply_again hk
      have ff := And.intro @ha (And.intro @hk1 (And.intro @hk2 ff))
      refine stp Ln ?_ (hok := by (try simp only [go_sem, ff]); all_goals (exact dapply_as hp ha))
      refine stp Ln ?_ (hok := by (try simp only [go_sem, ff]); all_goals (exact zserial_yes hz))
      refine dw_seq ?_
      refine stp Ln ?_
      refine cd (fun c2 => ?_) (fun c2 => ?_) (hp := rfl)
      · skip
        first | exact c2.elim | (simp at c2; done)
      · skip
        refine dw_skip ?_
        show DW _ _ _ _ _
        refine dw_seq ?_
        refine stp Ln ?_
        refine cd (fun c3 => ?_) (fun c3 => ?_) (hp := rfl)
        · skip
          first | exact c3.elim | (simp at c3; done)
        · skip
          refine dw_skip ?_
          show DW _ _ _ _ _
          refine stp Ln ?_ (hok := by (try simp only [go_sem, ff]); all_goals (exact zserial_yes hk1))
          refine stp Ln ?_ (hok := by (try simp only [go_sem, ff]); all_goals (exact dapply_as hp hk2))
          refine stp Ln ?_ (hok := by (try simp only [go_sem, ff]); all_goals (first | done | ((repeat' (with_reducible apply And.intro)) <;> first | exact zvalid_yes hk1 | (intros; exact zvalid_yes hk1) | exact (fun _ => zvalid_yes hk1) | (intros; exact (fun _ => zvalid_yes hk1)) | skip)))
          refine dw_ret ?_
          exact fin 0 (hr := by (try simp only [go_sem, ff]); all_goals (simp [hk.frm, hk.too, hk.new, new_apex]))

end Go.Proofs.YtfggmgafjabbjaaGreatDoor
namespace Go.Proofs.YtfggmgafjabbjaaGreatDoor
open Go.DL Go.Str Go.Rec Go.Cmp Go.Zon
set_option maxRecDepth 10000
set_option linter.unusedSimpArgs false
set_option linter.unusedVariables false
theorem rbefore_as {a b : Int} {x : Bool} (ha : serB a = true) (hb : serB b = true) (h : befB a b = x) : PureCt Tryz.prog 16 [.i a, .i b] (.b x) := by
  have := rbefore_ct a b ha hb
  rwa [h] at this
theorem rsamez_as {a b : Zon} {x : Bool} (hf : fitL a.sets) (h : sameZ a b = x) : PureCt Tryz.prog 18 [.agg a.d, .agg b.d] (.b x) := by
  have := rsamez_ct a b hf
  rwa [h] at this
theorem rsamesg_as {a b : Sgd} {x : Bool} (hf : fit1 a) (h : sameSgd a b = x) : PureCt Tryz.prog 20 [.agg a.d, .agg b.d] (.b x) := by
  have := rsamesg_ct a b hf
  rwa [h] at this
theorem zfind_as {z : Zon} {q : Qst} {s : Sgd} {t : Bool} {e : Int} (hf : fitL z.sets) (h : findR z q = (s, t, e)) : PureCt Tryz.prog 19 [.agg z.d, .agg q.d] (.tuple [.agg s.d, .b t, .i e]) := by
  have := zfindF_ct z q hf
  rwa [h] at this
theorem bo4 : hasBody Tryz.prog 4 = true := by kernel_rfl
theorem lawApplies_ct (a : Zon) (b : Zon) : PureCt Tryz.prog 4 [.agg a.d, .agg b.d] (.b true) := by
  refine pure_of_dw Tryz.func4 rfl bo4 (by simp [go_sem, D.nr, nrs, nrr]) (by simp [Tryz.f4]) ?_
  unfold Tryz.f4
  simp only [init_eq]
  have ff := True.intro
  refine stp Ln ?_
  refine stp Ln ?_ (hok := by (try simp only [go_sem, ff]); all_goals (exact head11_ct))
  refine dw_seq ?_
  refine stp Ln ?_ (hok := by (try simp only [go_sem, ff]); all_goals (first | done | ((repeat' (with_reducible apply And.intro)) <;> first | exact r06few_ct a | (intros; exact r06few_ct a) | exact (fun _ => r06few_ct b) | (intros; exact (fun _ => r06few_ct b)) | exact (fun _ => r06valid_ct a) | (intros; exact (fun _ => r06valid_ct a)) | exact (fun _ => r06valid_ct b) | (intros; exact (fun _ => r06valid_ct b)) | skip)))
  refine cd (fun c1 => ?_) (fun c1 => ?_)
  · skip
    refine stp Ln ?_
    refine dw_ret ?_
    exact fin 0 (hr := by (try simp only [go_sem, ff]); all_goals (rfl))
  · skip
    have ha : zoneOk a = true := by rw [zoneOk_ref]; grind
    have hb : zoneOk b = true := by rw [zoneOk_ref]; grind
    have hra : refOk a = true := by grind
    have hrb : refOk b = true := by grind
    have hfa : fitL a.sets := few_fitz (by grind)
    have hfb : fitL b.sets := few_fitz (by grind)
    have hsa := ser_ok ha
    have hsb := ser_ok hb
    have esa := serial_ref ha
    have esb := serial_ref hb
    have hsa2 : serB (serialR a) = true := by rw [← esa]; exact hsa
    have hsb2 : serB (serialR b) = true := by rw [← esb]; exact hsb
    have ff := And.intro @ha (And.intro @hb ff)
    refine dw_skip ?_
    show DW _ _ _ _ _
    rcases diff_cases a b with ⟨hd, hn⟩ | ⟨hd, hn⟩ | ⟨hd, _, _, hax, hbe⟩
    · skip
      have hn2 : (a.apex != b.apex) = true := by rw [bne_iff_ne]; rcases hn with q | q | q; rw [ha] at q; cases q; rw [hb] at q; cases q; exact q
      have ff := And.intro @hd (And.intro @hn2 ff)
      refine stp Ln ?_ (hok := by (try simp only [go_sem, ff]); all_goals (exact ddiff_as hd))
      refine dw_seq ?_
      refine stp Ln ?_
      refine cd (fun c2 => ?_) (fun c2 => ?_) (hq := rfl)
      · skip
        refine stp Ln ?_ (hok := by (try simp only [go_sem, ff]); all_goals (first | done | ((repeat' (with_reducible apply And.intro)) <;> first | exact (fun _ => r06serial_ct a hfa.1 (ref_start hra) (ref_data hra)) | (intros; exact (fun _ => r06serial_ct a hfa.1 (ref_start hra) (ref_data hra))) | exact (fun _ => r06serial_ct b hfb.1 (ref_start hrb) (ref_data hrb)) | (intros; exact (fun _ => r06serial_ct b hfb.1 (ref_start hrb) (ref_data hrb))) | exact (fun _ => rbefore_as hsa2 hsb2 hn2) | (intros; exact (fun _ => rbefore_as hsa2 hsb2 hn2)) | omega | (intros; simp_all; done) | skip)))
        refine dw_ret ?_
        exact fin 0 (hr := by (try simp only [go_sem, ff]); all_goals (first | rfl | (simp; done) | (simp_all; done)))
      · skip
        first | exact c2.elim | (simp at c2; done)
    · skip
      have hn2 : befB (serialR a) (serialR b) = false := by rw [← esa, ← esb]; exact hn
      have ff := And.intro @hd (And.intro @hn2 ff)
      refine stp Ln ?_ (hok := by (try simp only [go_sem, ff]); all_goals (exact ddiff_as hd))
      refine dw_seq ?_
      refine stp Ln ?_
      refine cd (fun c2 => ?_) (fun c2 => ?_) (hq := rfl)
      · skip
        refine stp Ln ?_ (hok := by (try simp only [go_sem, ff]); all_goals (first | done | ((repeat' (with_reducible apply And.intro)) <;> first | exact (fun _ => r06serial_ct a hfa.1 (ref_start hra) (ref_data hra)) | (intros; exact (fun _ => r06serial_ct a hfa.1 (ref_start hra) (ref_data hra))) | exact (fun _ => r06serial_ct b hfb.1 (ref_start hrb) (ref_data hrb)) | (intros; exact (fun _ => r06serial_ct b hfb.1 (ref_start hrb) (ref_data hrb))) | exact (fun _ => rbefore_as hsa2 hsb2 hn2) | (intros; exact (fun _ => rbefore_as hsa2 hsb2 hn2)) | omega | (intros; simp_all; done) | skip)))
        refine dw_ret ?_
        exact fin 0 (hr := by (try simp only [go_sem, ff]); all_goals (first | rfl | (simp; done) | (simp_all; done)))
      · skip
        first | exact c2.elim | (simp at c2; done)
    · skip
      have hap := apply_diff ha hb hax hbe
      have hdl := (dD_ok ha hb hax hbe).dlen
      have hpl := (dD_ok ha hb hax hbe).plen
      have hpf : fitL (dD a b).put := putD_fit hfb
      have hss := sameZ_self b
      have ff := And.intro @hd (And.intro @hap (And.intro @hss ff))
      refine stp Ln ?_ (hok := by (try simp only [go_sem, ff]); all_goals (exact ddiff_as hd))
      refine dw_seq ?_
      refine stp Ln ?_
      refine cd (fun c2 => ?_) (fun c2 => ?_) (hp := rfl)
      · skip
        first | exact c2.elim | (simp at c2; done)
      · skip
        refine dw_skip ?_
        show DW _ _ _ _ _
        refine stp Ln ?_ (hok := by (try simp only [go_sem, ff]); all_goals (exact dapply_as hpf hap))
        refine dw_seq ?_
        refine stp Ln ?_ (hok := by (try simp only [go_sem, ff]); all_goals (first | done | ((repeat' (with_reducible apply And.intro)) <;> first | exact rsamez_as hfb hss | (intros; exact rsamez_as hfb hss) | exact (fun _ => rsamez_as hfb hss) | (intros; exact (fun _ => rsamez_as hfb hss)) | exact (fun _ => zvalid_yes hb) | (intros; exact (fun _ => zvalid_yes hb)) | exact zvalid_yes hb | (intros; exact zvalid_yes hb) | skip)))
        refine cd (fun c3 => ?_) (fun c3 => ?_) (hp := rfl)
        · skip
          first | exact c3.elim | (simp at c3; done)
        · skip
          refine dw_skip ?_
          show DW _ _ _ _ _
          refine dw_seq ?_
          refine stp Ln ?_
          refine dw_block ?_
          refine lp (α := (Nat) × Nat) [2, 3, 5, 6, 101, 102] (fun ⟨k, nx⟩ => (k ≤ (dD a b).drop.length) ∧ (29 < nx) ∧ True) (fun ⟨k, nx⟩ => (dD a b).drop.length - k) (fun ⟨k, nx⟩ => [(103, .i k)]) (fun ⟨k, nx⟩ => [(0, ⟨24, [a.d]⟩), (1, ⟨24, [b.d]⟩), (29, ⟨27, [(dD a b).d]⟩)]) (fun ⟨k, nx⟩ => nx) (0, _) (hA := ⟨iv, iv, trivial⟩) (round := ?_)
          rintro ⟨k, nx⟩ ⟨hk, hx, -⟩
          show DW _ _ _ _ { n := _, t := tab _, h := _, nx := _, e := _ }
          simp only [List.cons_append, List.nil_append]
          have n0 : 0 < nx := by omega
          have n1 : 1 < nx := by omega
          have ff := And.intro @hx (And.intro @n0 (And.intro @n1 ff))
          refine stp Ln ?_
          refine dw_seq ?_
          refine cd (fun c4 => ?_) (fun c4 => ?_) (hp := rfl)
          · skip
            have hk2 : k < (dD a b).drop.length := by simpa using c4
            obtain ⟨s, hf1, hf2⟩ := drop_find ha hb hk2
            have ff := And.intro (getD_qst hk2) (And.intro @hf1 (And.intro @hf2 ff))
            refine dw_skip ?_
            show DW _ _ _ _ _
            refine dw_seq ?_
            refine dw_block ?_
            refine stp Ln ?_
            refine stp Ln ?_ (hok := by (try simp only [go_sem, ff]); all_goals (exact zfind_as hfa hf1))
            refine stp Ln ?_ (hok := by (try simp only [go_sem, ff]); all_goals (exact zfind_as hfb hf2))
            refine stp Ln ?_
            refine cd (fun c5 => ?_) (fun c5 => ?_) (hp := rfl)
            · skip
              first | exact c5.elim | (simp at c5; done)
            · skip
              refine dw_skip ?_
              show DW _ _ _ _ _
              refine rgn Ln ?_
              show ∃ _, _
              exact rnd (k + 1, _) (h1 := ⟨iv, iv, trivial⟩)
          · skip
            refine dw_exit ?_
            show DW _ _ _ _ _
            refine dw_seq ?_
            refine stp Ln ?_
            refine dw_block ?_
            refine lp (α := (Nat) × Nat) [2, 3, 5, 136, 137] (fun ⟨k, nx⟩ => (k ≤ (dD a b).put.length) ∧ (29 < nx) ∧ True) (fun ⟨k, nx⟩ => (dD a b).put.length - k) (fun ⟨k, nx⟩ => [(138, .i k)]) (fun ⟨k, nx⟩ => [(0, ⟨24, [a.d]⟩), (1, ⟨24, [b.d]⟩), (29, ⟨27, [(dD a b).d]⟩)]) (fun ⟨k, nx⟩ => nx) (0, _) (hA := ⟨iv, iv, trivial⟩) (round := ?_)
            rintro ⟨k, nx⟩ ⟨hk, hx, -⟩
            show DW _ _ _ _ { n := _, t := tab _, h := _, nx := _, e := _ }
            simp only [List.cons_append, List.nil_append]
            have n0 : 0 < nx := by omega
            have n1 : 1 < nx := by omega
            have ff := And.intro @hx (And.intro @n0 (And.intro @n1 ff))
            refine stp Ln ?_
            refine dw_seq ?_
            refine cd (fun c6 => ?_) (fun c6 => ?_) (hp := rfl)
            · skip
              have hk2 : k < (dD a b).put.length := by simpa using c6
              have hpf9 := put_find ha hb hk2
              obtain ⟨hf2, hf1⟩ : findR b ⟨(dD a b).put[k]!.set.name, (dD a b).put[k]!.set.ty⟩ = ((dD a b).put[k]!, true, 0) ∧ (findR a ⟨(dD a b).put[k]!.set.name, (dD a b).put[k]!.set.ty⟩ = (sgd0, false, 0) ∨ ∃ x, findR a ⟨(dD a b).put[k]!.set.name, (dD a b).put[k]!.set.ty⟩ = (x, true, 0) ∧ sameSgd x (dD a b).put[k]! = false) := hpf9
              have ff := And.intro (getD_sgd hk2) (And.intro @hf2 (And.intro (@sameSgd_self) ff))
              refine dw_skip ?_
              show DW _ _ _ _ _
              refine dw_seq ?_
              refine dw_block ?_
              refine stp Ln ?_
              refine stp Ln ?_
              rcases hf1 with hf1 | ⟨x, hf1, hxs⟩
              · skip
                have ff := And.intro @hf1 ff
                refine stp Ln ?_ (hok := by (try simp only [go_sem, ff]); all_goals (exact zfind_as hfa hf1))
                refine stp Ln ?_ (hok := by (try simp only [go_sem, ff]); all_goals (exact zfind_as hfb hf2))
                try have hxf : fit1 x := fit_mem hfa (findR_mem hf1)
                refine stp Ln ?_ (hok := by (try simp only [go_sem, ff]); all_goals (first | done | ((repeat' (with_reducible apply And.intro)) <;> first | exact rsamesg_as (hpf.2 k hk2) (sameSgd_self _) | (intros; exact rsamesg_as (hpf.2 k hk2) (sameSgd_self _)) | exact (fun _ => rsamesg_as (hpf.2 k hk2) (sameSgd_self _)) | (intros; exact (fun _ => rsamesg_as (hpf.2 k hk2) (sameSgd_self _))) | exact (fun _ => rsamesg_as hxf hxs) | (intros; exact (fun _ => rsamesg_as hxf hxs)) | exact rsamesg_as hxf hxs | (intros; exact rsamesg_as hxf hxs) | skip)))
                refine cd (fun c7 => ?_) (fun c7 => ?_) (hp := rfl)
                · skip
                  first | exact c7.elim | (simp at c7; done)
                · skip
                  refine dw_skip ?_
                  show DW _ _ _ _ _
                  refine rgn Ln ?_
                  show ∃ _, _
                  exact rnd (k + 1, _) (h1 := ⟨iv, iv, trivial⟩)
              · skip
                have ff := And.intro @hf1 (And.intro @hxs ff)
                refine stp Ln ?_ (hok := by (try simp only [go_sem, ff]); all_goals (exact zfind_as hfa hf1))
                refine stp Ln ?_ (hok := by (try simp only [go_sem, ff]); all_goals (exact zfind_as hfb hf2))
                try have hxf : fit1 x := fit_mem hfa (findR_mem hf1)
                refine stp Ln ?_ (hok := by (try simp only [go_sem, ff]); all_goals (first | done | ((repeat' (with_reducible apply And.intro)) <;> first | exact rsamesg_as (hpf.2 k hk2) (sameSgd_self _) | (intros; exact rsamesg_as (hpf.2 k hk2) (sameSgd_self _)) | exact (fun _ => rsamesg_as (hpf.2 k hk2) (sameSgd_self _)) | (intros; exact (fun _ => rsamesg_as (hpf.2 k hk2) (sameSgd_self _))) | exact (fun _ => rsamesg_as hxf hxs) | (intros; exact (fun _ => rsamesg_as hxf hxs)) | exact rsamesg_as hxf hxs | (intros; exact rsamesg_as hxf hxs) | skip)))
                refine cd (fun c7 => ?_) (fun c7 => ?_) (hp := rfl)
                · skip
                  first | exact c7.elim | (simp at c7; done)
                · skip
                  refine dw_skip ?_
                  show DW _ _ _ _ _
                  refine rgn Ln ?_
                  show ∃ _, _
                  exact rnd (k + 1, _) (h1 := ⟨iv, iv, trivial⟩)
            · skip
              refine dw_exit ?_
              show DW _ _ _ _ _
              refine stp Ln ?_
              refine dw_ret ?_
              exact fin 0 (hr := by (try simp only [go_sem, ff]); all_goals (rfl))

end Go.Proofs.YtfggmgafjabbjaaGreatDoor
namespace Go.Proofs.YtfggmgafjabbjaaGreatDoor
open Go.DL Go.Str Go.Rec Go.Zon Go.ChangeShapes Go.WideShapes Go.RowKit
set_option maxRecDepth 100000
theorem rows_of {α : Type} (f : α → List D) : ∀ rows : List (List D), (∀ r ∈ rows, ∃ s, r = f s) → ∃ l : List α, rows = l.map f
  | [], _ => ⟨[], rfl⟩
  | r :: rows, h => by
    obtain ⟨s, hs⟩ := h r (by simp)
    obtain ⟨l, hl⟩ := rows_of f rows fun r hr => h r (by simp [hr])
    exact ⟨s :: l, by rw [hs, hl]; rfl⟩
theorem sh_int {k : Nat} {ds : List D} (h : Sh Tryz.prog (k + 1) 3 ds) : ∃ n : Int, ds = [.i n] ∧ (Lit.int .i64 n).wf = true := by
  unfold Sh at h
  rw [Tryz.underlying3] at h
  exact h
theorem sh_u64 {k : Nat} {ds : List D} (h : Sh Tryz.prog (k + 1) 89 ds) : ∃ n : Int, ds = [.v (.int .u64 n)] ∧ (Lit.int .u64 n).wf = true := by
  unfold Sh at h
  rw [Tryz.underlying89] at h
  exact h
theorem sh_str {k : Nat} {ds : List D} (h : Sh Tryz.prog (k + 1) 9 ds) : ∃ s : Str, ds = [.v (.string (bs s))] := by
  unfold Sh at h
  rw [Tryz.underlying9] at h
  obtain ⟨s, h, _⟩ := h
  exact ⟨s.data.toList, by rw [h]; exact congrArg (fun x => [D.v (.string x)]) (bs_of s)⟩
theorem sh_dat {k : Nat} {ds : List D} (h : Sh Tryz.prog (k + 2) 78 ds) : ∃ s : Dat, ds = s.d := by
  unfold Sh at h
  rw [Tryz.underlying78] at h
  obtain ⟨a0, b0, rfl, h0, a1, b1, rfl, h1, a2, b2, rfl, h2, rfl⟩ := h
  obtain ⟨t, rfl⟩ := sh_str h0
  obtain ⟨n, rfl, _⟩ := sh_int h1
  obtain ⟨m, rfl, _⟩ := sh_int h2
  exact ⟨⟨t, n, m⟩, rfl⟩
theorem sh_dats {k : Nat} {ds : List D} (h : Sh Tryz.prog (k + 3) 44 ds) : ∃ l : List Dat, ds = [.list false (l.map Dat.d)] := by
  unfold Sh at h
  rw [Tryz.underlying44] at h
  obtain ⟨rows, h1, h2⟩ := h
  obtain ⟨l, rfl⟩ := rows_of Dat.d rows fun r hr => sh_dat (h2 r hr)
  exact ⟨l, h1⟩
theorem sh_set {k : Nat} {ds : List D} (h : Sh Tryz.prog (k + 4) 46 ds) : ∃ s : RSet, ds = s.d := by
  unfold Sh at h
  rw [Tryz.underlying46] at h
  obtain ⟨a0, b0, rfl, h0, a1, b1, rfl, h1, a2, b2, rfl, h2, a3, b3, rfl, h3, rfl⟩ := h
  obtain ⟨t, rfl⟩ := sh_str h0
  obtain ⟨n, rfl, _⟩ := sh_int h1
  obtain ⟨m, rfl, _⟩ := sh_int h2
  obtain ⟨l, rfl⟩ := sh_dats h3
  exact ⟨⟨t, n, m, l⟩, rfl⟩
theorem sh_sig {k : Nat} {ds : List D} (h : Sh Tryz.prog (k + 2) 91 ds) : ∃ s : RSig, ds = s.d := by
  unfold Sh at h
  rw [Tryz.underlying91] at h
  obtain ⟨a0, b0, rfl, h0, a1, b1, rfl, h1, a2, b2, rfl, h2, a3, b3, rfl, h3, a4, b4, rfl, h4, a5, b5, rfl, h5, rfl⟩ := h
  obtain ⟨t, rfl⟩ := sh_str h0
  obtain ⟨n, rfl, _⟩ := sh_int h1
  obtain ⟨m, rfl, _⟩ := sh_int h2
  obtain ⟨p, rfl, _⟩ := sh_int h3
  obtain ⟨q, rfl, _⟩ := sh_int h4
  obtain ⟨r, rfl, _⟩ := sh_u64 h5
  exact ⟨⟨t, n, m, p, q, r⟩, rfl⟩
theorem sh_sigs {k : Nat} {ds : List D} (h : Sh Tryz.prog (k + 3) 47 ds) : ∃ l : List RSig, ds = [.list false (l.map RSig.d)] := by
  unfold Sh at h
  rw [Tryz.underlying47] at h
  obtain ⟨rows, h1, h2⟩ := h
  obtain ⟨l, rfl⟩ := rows_of RSig.d rows fun r hr => sh_sig (h2 r hr)
  exact ⟨l, h1⟩
theorem sh_sgd {k : Nat} {ds : List D} (h : Sh Tryz.prog (k + 5) 49 ds) : ∃ s : Sgd, ds = s.d := by
  unfold Sh at h
  rw [Tryz.underlying49] at h
  obtain ⟨a0, b0, rfl, h0, a1, b1, rfl, h1, rfl⟩ := h
  obtain ⟨s, rfl⟩ := sh_set h0
  obtain ⟨l, rfl⟩ := sh_sigs h1
  exact ⟨⟨s, l⟩, rfl⟩
theorem sh_sgds {k : Nat} {ds : List D} (h : Sh Tryz.prog (k + 6) 22 ds) : ∃ l : List Sgd, ds = [.list false (l.map Sgd.d)] := by
  unfold Sh at h
  rw [Tryz.underlying22] at h
  obtain ⟨rows, h1, h2⟩ := h
  obtain ⟨l, rfl⟩ := rows_of Sgd.d rows fun r hr => sh_sgd (h2 r hr)
  exact ⟨l, h1⟩
theorem sh_zon {k : Nat} {ds : List D} (h : Sh Tryz.prog (k + 7) 24 ds) : ∃ s : Zon, ds = s.d := by
  unfold Sh at h
  rw [Tryz.underlying24] at h
  obtain ⟨a0, b0, rfl, h0, a1, b1, rfl, h1, rfl⟩ := h
  obtain ⟨t, rfl⟩ := sh_str h0
  obtain ⟨l, rfl⟩ := sh_sgds h1
  exact ⟨⟨t, l⟩, rfl⟩
theorem sv_zon {x : D} (h : ShV Tryz.prog 24 x) : ∃ s : Zon, x = .agg s.d := by
  unfold ShV at h
  rw [Tryz.underlying24] at h
  obtain ⟨cs, rfl, h⟩ := h
  obtain ⟨s, rfl⟩ := sh_zon (k := 5) h
  exact ⟨s, rfl⟩

set_option maxRecDepth 100000
def law4_laid : List (String × DataW Unit) := [("nameplan/record.rules", Rows.laid_nameplan_record_rules)]
theorem law4_own : ownKnob Tryz.prog.godebug = none := by kernel_rfl
theorem law4_args (xs : List D) (h : ShArgs Tryz.prog Tryz.f4.params.toList xs) : PureCt Tryz.prog 4 xs (.b true) := by
  rw [Tryz.params4] at h
  obtain ⟨x0, ys0, rfl, s0, h⟩ := h
  obtain ⟨x1, ys1, rfl, s1, h⟩ := h
  obtain rfl := h
  obtain ⟨a, rfl⟩ := sv_zon s0
  obtain ⟨b, rfl⟩ := sv_zon s1
  exact lawApplies_ct a b
set_option maxRecDepth 100000 in
theorem law4_gr {W : World} (h : laidMetH Tryz.prog law4_laid W) : Gr Tryz.prog (fun b => b < W.heap.size) W :=
  laid_one (g := 0) (t := 143) (k := 3) (cells := rulesTab) (by kernel_rfl) (by kernel_rfl) (by kernel_rfl) (by kernel_rfl) (of_decide_eq_true (by kernel_rfl)) (by kernel_rfl) (by kernel_rfl)
    (fun x cs e => by
      match x, e with
      | 0, e => exact ⟨rfl, (Option.some.inj e).symm⟩
      | n + 1, e => cases e) (of_decide_eq_true (by kernel_rfl)) h
set_option maxRecDepth 100000 in
theorem law4_lifted (os : Os) (started : os.Started) (H : Type) (enc : TypeId × Value → H) :
    ReturnsInHanded {} Tryz.checked os 4 .any (fun w args => (Rows.deltaAppliesSpec.pre enc Tryz.prog Tryz.f4 [] false w args ∧ laidMetH Tryz.prog law4_laid w) ∧ sizedMet enc Tryz.prog Tryz.f4 (OpenSpec.ofChange Rows.deltaAppliesSpec) false w args)
      (Rows.deltaAppliesSpec.post enc Tryz.prog Tryz.f4 false true false false) := by
  refine returnsInHanded_of_change_and (C := Tryz.checked) (X := fun w _ => laidMetH Tryz.prog law4_laid w) (fun _ _ _ hh h => h.of_heap hh) law4_own started (by kernel_rfl) Tryz.func4
    (ChangeSpec.witness_shaped (enc := enc) (C := Tryz.checked) (os := os) (X := fun w _ => laidMetH Tryz.prog law4_laid w) false (World.laidAll Tryz.prog os law4_laid) #[.agg #[.string ⟨#[]⟩, .slice none 0 0], .agg #[.string ⟨#[]⟩, .slice none 0 0]] 8 (World.laidAll_os _ _ _) (World.shaped_of_ZipB (by kernel_rfl) (by kernel_rfl)) (by kernel_rfl) (by kernel_rfl) (by kernel_rfl)
      (by rw [MakeChecks.laidMetH_plain _ _ _ (by kernel_rfl)]; exact laidMet_laidAll _ (by kernel_rfl) (by kernel_rfl))) ?_
  intro W base args ds gs before hval hW _ _ hL _
  refine law_contract_g (P := Tryz.prog) (f := 4) (fn := Tryz.f4) (tb := 4) (by kernel_rfl) rfl rfl Tryz.underlying4 (by kernel_rfl) (fun ds hd => ?_) law4_args W base args ds gs before (law4_gr hL) hval hW
  rw [Tryz.params4] at hd
  match ds, hd with
  | [d0, d1], _ => rfl
theorem law4_row : Rows.DeltaAppliesSaid :=
  OpenClaim.holds_of_wide 4 Tryz.f4 rfl rfl rfl rfl rfl rfl rfl ⟨rfl, rfl, rfl, rfl, rfl⟩ rfl rfl rfl rfl rfl (by kernel_rfl) Tryz.func4 (by kernel_rfl)
    (of_decide_eq_true (by kernel_rfl)) (by unfold Func.isWrapper; first | (rw [if_pos (by decide +kernel)]; kernel_rfl) | (rw [if_neg (by decide +kernel)]; exact ⟨rfl, rfl⟩))
    (fun os started H enc _ => law4_lifted os started H enc)
/-- THE STATEMENT. -/
theorem deltaApplies_card_holds : Rows.DeltaAppliesCardSaid :=
  Claim7.holds_tied_plain_at .later [] [.data] true (true, "40fc6cea5110cf3f9b1b3b35529bd134ea500527997ae13e9ff4a75fbe81b30d") false law4_row (fun _ h => by cases h) (by kernel_rfl) (fun _ h => by cases h) deltaApplies_row_tie rfl ⟨rfl, rfl⟩ (by kernel_rfl) rfl
    (fun f fn hf hfn => by
      obtain rfl : f = 4 := Option.some.inj ((show Tryz.prog.funcNamed "nameplan/nameplanlaw11.DeltaApplies" = some 4 by kernel_rfl).symm.trans hf) |>.symm
      obtain rfl : fn = Tryz.f4 := (Option.some.inj (Tryz.func4.symm.trans hfn)).symm
      exact ⟨by kernel_rfl, fun j t ht => by
        rw [Tryz.params4] at ht
        have hm : t ∈ [24, 24] := by simpa using Array.mem_of_getElem? ht
        have hall : ([24, 24].all fun u => !Tryz.prog.wantsStandIn u) = true := by kernel_rfl
        exact (show Tryz.prog.wantsStandIn t = false by simpa using List.all_eq_true.1 hall t hm)⟩)
    (by kernel_rfl)
end Go.Proofs.YtfggmgafjabbjaaGreatDoor
