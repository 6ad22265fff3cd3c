/-
  MANY TEXTS OF MINE IN ONE (a claim has a limit of files): ZoW1, ZoW2, ZoW3, ZoW4, ZoW5, ReW1, ReW2, ReW3, UpW1, UpW2, UpW3, UpW4, UpW5, UpW6, UpW7, UpW8, UpW9, UpW10, UpW11, UpW12, UpW13, UpW14, UpW15. Conditions: none.
-/
import Derived.Test.YtmkblfajmnhccaaGreatDoorMA4
set_option linter.unusedVariables false
set_option linter.unusedSimpArgs false
set_option linter.unusedSectionVars false
namespace Go.Proofs.YtmkblfajmnhccaaGreatDoor
open Go.DL Go.Str Go.Rec Go.Cmp Go.Zon
set_option maxRecDepth 10000
theorem bo139 : Zea Tryz.prog 139 = true := by kernel_rfl
theorem Ze6 (s : Str) (p : Str) (hs : s.length ≤ 1000000) : PureCt Tryz.prog 139 [.v (.string (bs s)), .v (.string (bs p))] (.b (hasSuf s p)) := by
 refine Zca Tryz.func139 rfl bo139 (by simp [go_sem, D.nr, nrs, nrr]) (by simp [Tryz.f139]) ?_
 unfold Tryz.f139
 simp only [Zfa]
 have ff := True.intro
 have e1 : ((s.length : Int) - p.length).toNat = s.length - p.length := by omega
 have ff := And.intro @e1 ff
 refine stp Lun ?_
 refine stp Lun ?_
 refine Zba ?_
 exact fin 0 (hr := by (try simp only [go_sem, ff]); all_goals (simp [hasSuf]))
theorem bo104 : Zea Tryz.prog 104 = true := by kernel_rfl
theorem Zty (s : Str) (p : Str) (hs : s.length ≤ 1000000) : PureCt Tryz.prog 104 [.v (.string (bs s)), .v (.string (bs p))] (.b (hasSuf s p)) := by
 refine Zca Tryz.func104 rfl bo104 (by simp [go_sem, D.nr, nrs, nrr]) (by simp [Tryz.f104]) ?_
 unfold Tryz.f104
 simp only [Zfa]
 have ff := True.intro
 refine stp Lun ?_
 refine stp Lun ?_ (hok := by (try simp only [go_sem, ff]); all_goals (exact Ze6 _ _ hs))
 refine Zba ?_
 exact fin 0 (hr := by (try simp only [go_sem, ff]); all_goals (rfl))
theorem bo70 : Zea Tryz.prog 70 = true := by kernel_rfl
theorem Zwl (s : Str) (z : Str) : PureCt Tryz.prog 70 [.v (.string (bs s)), .v (.string (bs z))] (.tuple [.b (underV s z), .i (if nameOk s && nameOk z then 0 else 11)]) := by
 refine Zca Tryz.func70 rfl bo70 (by simp [go_sem, D.nr, nrs, nrr]) (by simp [Tryz.f70]) ?_
 unfold Tryz.f70
 simp only [Zfa]
 have ff := True.intro
 refine stp Lun ?_
 refine Zaa ?_
 refine stp Lun ?_ (hok := by (try simp only [go_sem, ff]); all_goals (first | done | ((repeat' (with_reducible apply And.intro)) <;> first | exact Zkh _ | (intros; exact Zkh _) | skip)))
 refine cd (fun c1 => ?_) (fun c1 => ?_)
 ·
  refine stp Lun ?_
  refine Zba ?_
  exact fin 1 (hr := by (try simp only [go_sem, ff]); all_goals (first | (simp_all [underV, under]; done) | (simp; simp only [underV, under]; grind)))
 ·
  refine dw_skip ?_
  show DW _ _ _ _ _
  refine Zaa ?_
  refine stp Lun ?_
  refine cd (fun c2 => ?_) (fun c2 => ?_)
  ·
   refine stp Lun ?_
   refine Zba ?_
   exact fin 1 (hr := by (try simp only [go_sem, ff]); all_goals (first | (simp_all [underV, under]; done) | (simp; simp only [underV, under]; grind)))
  ·
   refine dw_skip ?_
   show DW _ _ _ _ _
   have hn := Zeb c1.1
   have hm := Zeb c1.2
   have e1 : ((s.length : Int) - z.length - 1).toNat = s.length - z.length - 1 := by omega
   have ff := And.intro @e1 ff
   refine stp Lun ?_ (hok := by (try simp only [go_sem, ff]); all_goals (first | done | ((repeat' (with_reducible apply And.intro)) <;> first | exact Zty _ _ (by omega) | (intros; exact Zty _ _ (by omega)) | (intro h; simp at h; omega) | skip)))
   refine Zba ?_
   exact fin 1 (hr := by (try simp only [go_sem, ff]); all_goals (first | (simp_all [underV, under]; done) | (simp; simp only [underV, under]; grind)))
theorem bo89 : Zea Tryz.prog 89 = true := by kernel_rfl
theorem Zkl (s : Str) (hs : s.length ≤ 1000) : PureCt Tryz.prog 89 [.v (.string (bs s))] (.b (wild1 s)) := by
 refine Zca Tryz.func89 rfl bo89 (by simp [go_sem, D.nr, nrs, nrr]) (by simp [Tryz.f89]) ?_
 unfold Tryz.f89
 simp only [Zfa]
 have ff := True.intro
 refine stp Lun ?_
 refine stp Lun ?_ (hok := by (try simp only [go_sem, ff]); all_goals (first | exact ok0 | (apply Zyf <;> omega) | (intros; apply Zyf <;> omega)))
 rcases hps : partsOf s with _ | ⟨p0, ps⟩
 ·
  have ff := And.intro @hps ff
  refine stp Lun ?_
  refine Zba ?_
  exact fin 0 (hr := by (try simp only [go_sem, ff]); all_goals (simp [wild1, hps]))
 ·
  have ff := And.intro @hps ff
  refine stp Lun ?_
  refine Zba ?_
  exact fin 0 (hr := by (try simp only [go_sem, ff]); all_goals (simp [wild1, hps]))
theorem bo96 : Zea Tryz.prog 96 = true := by kernel_rfl
theorem Zlw (a : Str) (s : Int) (b : Str) (t : Int) : PureCt Tryz.prog 96 [.v (.string (bs a)), .i s, .v (.string (bs b)), .i t] (.i (qC ⟨a, s⟩ ⟨b, t⟩)) := by
 refine Zca Tryz.func96 rfl bo96 (by simp [go_sem, D.nr, nrs, nrr]) (by simp [Tryz.f96]) ?_
 unfold Tryz.f96
 simp only [Zfa]
 have ff := True.intro
 refine stp Lun ?_
 refine Zaa ?_
 refine stp Lun ?_
 refine cd (fun c1 => ?_) (fun c1 => ?_)
 ·
  refine stp Lun ?_ (hok := by (try simp only [go_sem, ff]); all_goals (exact Zpk _ _))
  refine stp Lun ?_
  refine Zba ?_
  exact fin 0 (hr := by (try simp only [go_sem, ff]); all_goals (simp [qC, *]))
 ·
  refine dw_skip ?_
  show DW _ _ _ _ _
  refine stp Lun ?_ (hok := by (try simp only [go_sem, ff]); all_goals (first | exact ok0 | (apply Zwh <;> omega) | (intros; apply Zwh <;> omega)))
  refine Zba ?_
  exact fin 0 (hr := by (try simp only [go_sem, ff]); all_goals (simp [qC, *]))
theorem bo98 : Zea Tryz.prog 98 = true := by kernel_rfl
theorem Zh1 (t : Int) (a : Bool) : PureCt Tryz.prog 98 [.i t, .b a] (.b (fits t a)) := by
 refine Zca Tryz.func98 rfl bo98 (by simp [go_sem, D.nr, nrs, nrr]) (by simp [Tryz.f98]) ?_
 unfold Tryz.f98
 simp only [Zfa]
 have ff := True.intro
 refine stp Lun ?_
 refine Zaa ?_
 refine stp Lun ?_
 refine Zda ?_
 refine Zaa ?_
 refine stp Lun ?_
 refine cd (fun c1 => ?_) (fun c1 => ?_)
 ·
  refine dw_skip ?_
  show DW _ _ _ _ _
  refine cd (fun c2 => ?_) (fun c2 => ?_)
  ·
   refine stp Lun ?_
   refine Zba ?_
   exact fin 0 (hr := by (try simp only [go_sem, ff]); all_goals (simp_all [fits]))
  ·
   refine Zaa ?_
   refine stp Lun ?_
   refine cd (fun c3 => ?_) (fun c3 => ?_)
   ·
    refine dw_skip ?_
    show DW _ _ _ _ _
    refine cd (fun c4 => ?_) (fun c4 => ?_)
    ·
     refine stp Lun ?_
     refine Zba ?_
     exact fin 0 (hr := by (try simp only [go_sem, ff]); all_goals (simp_all [fits]))
    ·
     refine dw_skip ?_
     show DW _ _ _ _ _
     refine stp Lun ?_
     refine Zba ?_
     exact fin 0 (hr := by (try simp only [go_sem, ff]); all_goals (simp_all [fits]))
   ·
    refine rgn Lun ?_
    show DW _ _ _ _ _
    refine cd (fun c5 => ?_) (fun c5 => ?_)
    ·
     refine stp Lun ?_
     refine Zba ?_
     exact fin 0 (hr := by (try simp only [go_sem, ff]); all_goals (simp_all [fits]))
    ·
     refine dw_skip ?_
     show DW _ _ _ _ _
     refine stp Lun ?_
     refine Zba ?_
     exact fin 0 (hr := by (try simp only [go_sem, ff]); all_goals (simp_all [fits]))
 ·
  refine rgn Lun ?_
  show DW _ _ _ _ _
  refine cd (fun c6 => ?_) (fun c6 => ?_)
  ·
   refine stp Lun ?_
   refine Zba ?_
   exact fin 0 (hr := by (try simp only [go_sem, ff]); all_goals (simp_all [fits]))
  ·
   refine Zaa ?_
   refine stp Lun ?_
   refine cd (fun c7 => ?_) (fun c7 => ?_)
   ·
    refine dw_skip ?_
    show DW _ _ _ _ _
    refine cd (fun c8 => ?_) (fun c8 => ?_)
    ·
     refine stp Lun ?_
     refine Zba ?_
     exact fin 0 (hr := by (try simp only [go_sem, ff]); all_goals (simp_all [fits]))
    ·
     refine dw_skip ?_
     show DW _ _ _ _ _
     refine stp Lun ?_
     refine Zba ?_
     exact fin 0 (hr := by (try simp only [go_sem, ff]); all_goals (simp_all [fits]))
   ·
    refine rgn Lun ?_
    show DW _ _ _ _ _
    refine cd (fun c9 => ?_) (fun c9 => ?_)
    ·
     refine stp Lun ?_
     refine Zba ?_
     exact fin 0 (hr := by (try simp only [go_sem, ff]); all_goals (simp_all [fits]))
    ·
     refine dw_skip ?_
     show DW _ _ _ _ _
     refine stp Lun ?_
     refine Zba ?_
     exact fin 0 (hr := by (try simp only [go_sem, ff]); all_goals (simp_all [fits]))
theorem bo90 : Zea Tryz.prog 90 = true := by kernel_rfl
theorem Zgt (t : Int) (a : Bool) : PureCt Tryz.prog 90 [.i t, .b a] (.b (fits t a)) := by
 refine Zca Tryz.func90 rfl bo90 (by simp [go_sem, D.nr, nrs, nrr]) (by simp [Tryz.f90]) ?_
 unfold Tryz.f90
 simp only [Zfa]
 have ff := True.intro
 refine stp Lun ?_
 refine Zaa ?_
 refine stp Lun ?_
 refine cd (fun c1 => ?_) (fun c1 => ?_)
 ·
  refine stp Lun ?_
  refine Zba ?_
  exact fin 0 (hr := by (try simp only [go_sem, ff]); all_goals (simp; simp only [fits]; grind))
 ·
  refine dw_skip ?_
  show DW _ _ _ _ _
  refine stp Lun ?_
  refine Zba ?_
  exact fin 0 (hr := by (try simp only [go_sem, ff]); all_goals (simp; simp only [fits]; grind))
theorem bo63 : Zea Tryz.prog 63 = true := by kernel_rfl
theorem Zkw (q : Qst) : PureCt Tryz.prog 63 [.agg q.d] (.b (qOk q)) := by
 refine Zca Tryz.func63 rfl bo63 (by simp [go_sem, D.nr, nrs, nrr]) (by simp [Tryz.f63]) ?_
 unfold Tryz.f63
 simp only [Zfa]
 have ff := True.intro
 refine stp Lun ?_
 refine stp Lun ?_ (hok := by (try simp only [go_sem, ff]); all_goals (first | done | ((repeat' (with_reducible apply And.intro)) <;> first | exact Zic _ | (intros; exact Zic _) | skip)))
 refine Zba ?_
 exact fin 0 (hr := by (try simp only [go_sem, ff]); all_goals (simp [qOk, inR, Bool.and_assoc]))
set_option maxRecDepth 10000
theorem bo21 : Zea Tryz.prog 21 = true := by kernel_rfl
theorem Zhe (s : Str) (z : Str) (hs : s.length ≤ 1000) (hz : z.length ≤ 1000) : PureCt Tryz.prog 21 [.v (.string (bs s)), .v (.string (bs z))] (.b (inB s z)) := by
 refine Zca Tryz.func21 rfl bo21 (by simp [go_sem, D.nr, nrs, nrr]) (by simp [Tryz.f21]) ?_
 unfold Tryz.f21
 simp only [Zfa]
 have ff := True.intro
 refine stp Lun ?_
 refine stp Lun ?_ (hok := by (try simp only [go_sem, ff]); all_goals (exact Zyf _ hs))
 refine stp Lun ?_ (hok := by (try simp only [go_sem, ff]); all_goals (exact Zyf _ hz))
 refine Zaa ?_
 refine stp Lun ?_
 refine cd (fun c1 => ?_) (fun c1 => ?_)
 ·
  refine stp Lun ?_
  refine Zba ?_
  exact fin 0 (hr := by (try simp only [go_sem, ff]); all_goals (simp [inB]; omega))
 ·
  have hp := Znt s
  have hq := Znt z
  refine dw_skip ?_
  show DW _ _ _ _ _
  refine Zaa ?_
  refine stp Lun ?_
  refine Zda ?_
  refine lp (α := (Nat) × Nat) [5, 6] (fun ⟨k, nx⟩ => (k ≤ (partsOf z).length) ∧ (Zya (partsOf z).length (inAt (partsOf s) (partsOf z)) 0 = Zya (partsOf z).length (inAt (partsOf s) (partsOf z)) k) ∧ True) (fun ⟨k, nx⟩ => (partsOf z).length - k) (fun ⟨k, nx⟩ => [(7, .i k)]) (fun ⟨k, nx⟩ => []) (fun ⟨k, nx⟩ => nx) (0, _) (hA := ⟨iv, rfl, trivial⟩) (round := ?_)
  rintro ⟨k, nx⟩ ⟨hk, hv, -⟩
  show DW _ _ _ _ { n := _, t := tab _, h := _, nx := _, e := _ }
  simp only [List.cons_append, List.nil_append]
  refine Zaa ?_
  refine stp Lun ?_
  refine cd (fun c2 => ?_) (fun c2 => ?_) (hp := rfl)
  ·
   have hk2 : k < (partsOf z).length := by simpa using c2
   have hk3 : (partsOf s).length - (partsOf z).length + k < (partsOf s).length := by omega
   have e1 : (((partsOf s).length : Int) - (partsOf z).length + k).toNat = (partsOf s).length - (partsOf z).length + k := by omega
   have ff := And.intro @e1 (And.intro (Zad hk2) (And.intro (Zad hk3) ff))
   refine dw_skip ?_
   show DW _ _ _ _ _
   refine Zaa ?_
   refine Zda ?_
   refine stp Lun ?_
   refine cd (fun c3 => ?_) (fun c3 => ?_)
   ·
    refine stp Lun ?_
    refine Zba ?_
    exact fin 0 (hr := by (try simp only [go_sem, ff]); all_goals (have hF : (inAt (partsOf s) (partsOf z)) k = false := (by simp only [inAt]; grind); simp only [inB]; rw [hv, Zpa hk2 hF]; try simp))
   ·
    refine dw_skip ?_
    show DW _ _ _ _ _
    refine rgn Lun ?_
    show ∃ _, _
    have h8 : (inAt (partsOf s) (partsOf z)) k = true := by simp only [inAt]; grind
    exact rnd (k + 1, _) (h1 := ⟨iv, (by first | (rw [hv, Zha hk2 h8]) | (dsimp only; rw [hv, Zha hk2 h8])), trivial⟩)
  ·
   refine Zka ?_
   show DW _ _ _ _ _
   refine stp Lun ?_
   refine Zba ?_
   exact fin 0 (hr := by (try simp only [go_sem, ff]); all_goals (simp only [inB]; rw [hv, Zua (by omega)]; simp; omega))
theorem bo99 : Zea Tryz.prog 99 = true := by kernel_rfl
theorem Zm4 (l : List RSig) (a : Str) : PureCt Tryz.prog 99 [.list false (l.map RSig.d), .v (.string (bs a))] (.b (sigsOk l a)) := by
 refine Zca Tryz.func99 rfl bo99 (by simp [go_sem, D.nr, nrs, nrr]) (by simp [Tryz.f99]) ?_
 unfold Tryz.f99
 simp only [Zfa]
 have ff := True.intro
 refine stp Lun ?_
 refine Zaa ?_
 refine stp Lun ?_
 refine cd (fun c1 => ?_) (fun c1 => ?_)
 ·
  refine stp Lun ?_
  refine Zba ?_
  exact fin 0 (hr := by (try simp only [go_sem, ff]); all_goals (simp [sigsOk]; omega))
 ·
  refine dw_skip ?_
  show DW _ _ _ _ _
  refine Zaa ?_
  refine stp Lun ?_
  refine Zda ?_
  refine lp (α := (Nat) × Nat) [0, 1, 10, 11] (fun ⟨k, nx⟩ => (k ≤ l.length) ∧ (Zya l.length (Zdi a l) 0 = Zya l.length (Zdi a l) k) ∧ True) (fun ⟨k, nx⟩ => l.length - k) (fun ⟨k, nx⟩ => [(12, .i k)]) (fun ⟨k, nx⟩ => []) (fun ⟨k, nx⟩ => nx) (0, _) (hA := ⟨iv, rfl, trivial⟩) (round := ?_)
  rintro ⟨k, nx⟩ ⟨hk, hv, -⟩
  show DW _ _ _ _ { n := _, t := tab _, h := _, nx := _, e := _ }
  simp only [List.cons_append, List.nil_append]
  refine stp Lun ?_
  refine Zaa ?_
  refine cd (fun c2 => ?_) (fun c2 => ?_) (hp := rfl)
  ·
   have hk2 : k < l.length := by simpa using c2
   have h0 : 0 < l.length := by omega
   have hk1 : k - 1 < l.length := by omega
   have e1 : ((k:Int) - 1).toNat = k - 1 := by omega
   have ff := And.intro (Ztg hk2) (And.intro (Ztg h0) (And.intro (Ztg hk1) (And.intro @e1 ff)))
   refine dw_skip ?_
   show DW _ _ _ _ _
   refine Zaa ?_
   refine Zda ?_
   refine stp Lun ?_
   refine Zaa ?_
   refine stp Lun ?_
   refine cd (fun c3 => ?_) (fun c3 => ?_)
   ·
    refine stp Lun ?_
    refine Zba ?_
    exact fin 0 (hr := by (try simp only [go_sem, ff]); all_goals (have hF : (Zdi a l) k = false := (by simp only [Zdi, inR]; grind); simp only [sigsOk]; rw [hv, Zpa hk2 hF]; try simp))
   ·
    refine dw_skip ?_
    show DW _ _ _ _ _
    refine Zaa ?_
    refine stp Lun ?_
    refine cd (fun c4 => ?_) (fun c4 => ?_)
    ·
     refine stp Lun ?_
     refine Zba ?_
     exact fin 0 (hr := by (try simp only [go_sem, ff]); all_goals (have hF : (Zdi a l) k = false := (by simp only [Zdi, inR]; grind); simp only [sigsOk]; rw [hv, Zpa hk2 hF]; try simp))
    ·
     refine dw_skip ?_
     show DW _ _ _ _ _
     refine stp Lun ?_
     refine cd (fun c5 => ?_) (fun c5 => ?_)
     ·
      refine stp Lun ?_
      refine Zba ?_
      exact fin 0 (hr := by (try simp only [go_sem, ff]); all_goals (have hF : (Zdi a l) k = false := (by simp only [Zdi, inR]; grind); simp only [sigsOk]; rw [hv, Zpa hk2 hF]; try simp))
     ·
      refine dw_skip ?_
      show DW _ _ _ _ _
      refine rgn Lun ?_
      show ∃ _, _
      have h8 : (Zdi a l) k = true := by simp only [Zdi, inR]; grind
      exact rnd (k + 1, _) (h1 := ⟨iv, (by first | (rw [hv, Zha hk2 h8]) | (dsimp only; rw [hv, Zha hk2 h8])), trivial⟩)
  ·
   refine Zka ?_
   show DW _ _ _ _ _
   refine stp Lun ?_
   refine Zba ?_
   exact fin 0 (hr := by (try simp only [go_sem, ff]); all_goals (simp only [sigsOk]; rw [hv, Zua (by omega)]; simp; omega))
theorem bo93 : Zea Tryz.prog 93 = true := by kernel_rfl
theorem Zb3 (l : List RSig) (a : Str) : PureCt Tryz.prog 93 [.list false (l.map RSig.d), .v (.string (bs a))] (.b (sigsOk l a)) := by
 refine Zca Tryz.func93 rfl bo93 (by simp [go_sem, D.nr, nrs, nrr]) (by simp [Tryz.f93]) ?_
 unfold Tryz.f93
 simp only [Zfa]
 have ff := True.intro
 refine stp Lun ?_
 refine Zaa ?_
 refine stp Lun ?_
 refine cd (fun c1 => ?_) (fun c1 => ?_)
 ·
  refine stp Lun ?_
  refine Zba ?_
  exact fin 0 (hr := by (try simp only [go_sem, ff]); all_goals (simp [sigsOk]; omega))
 ·
  refine dw_skip ?_
  show DW _ _ _ _ _
  refine Zaa ?_
  refine stp Lun ?_
  refine Zda ?_
  refine lp (α := (Nat) × Nat) [0, 1] (fun ⟨k, nx⟩ => (k ≤ l.length) ∧ (Zya l.length (Zdi a l) 0 = Zya l.length (Zdi a l) k) ∧ True) (fun ⟨k, nx⟩ => l.length - k) (fun ⟨k, nx⟩ => [(5, .i k)]) (fun ⟨k, nx⟩ => []) (fun ⟨k, nx⟩ => nx) (0, _) (hA := ⟨iv, rfl, trivial⟩) (round := ?_)
  rintro ⟨k, nx⟩ ⟨hk, hv, -⟩
  show DW _ _ _ _ { n := _, t := tab _, h := _, nx := _, e := _ }
  simp only [List.cons_append, List.nil_append]
  refine Zaa ?_
  refine stp Lun ?_
  refine cd (fun c2 => ?_) (fun c2 => ?_) (hp := rfl)
  ·
   have hk2 : k < l.length := by simpa using c2
   have h0 : 0 < l.length := by omega
   have hk1 : k - 1 < l.length := by omega
   have e1 : ((k:Int) - 1).toNat = k - 1 := by omega
   have ff := And.intro (Ztg hk2) (And.intro (Ztg h0) (And.intro (Ztg hk1) (And.intro @e1 ff)))
   refine dw_skip ?_
   show DW _ _ _ _ _
   refine Zaa ?_
   refine Zda ?_
   refine stp Lun ?_
   refine Zaa ?_
   refine stp Lun ?_
   refine cd (fun c3 => ?_) (fun c3 => ?_)
   ·
    refine stp Lun ?_
    refine Zba ?_
    exact fin 0 (hr := by (try simp only [go_sem, ff]); all_goals (have hF : (Zdi a l) k = false := (by simp only [Zdi, inR]; grind); simp only [sigsOk]; rw [hv, Zpa hk2 hF]; try simp))
   ·
    refine dw_skip ?_
    show DW _ _ _ _ _
    refine stp Lun ?_
    refine cd (fun c4 => ?_) (fun c4 => ?_)
    ·
     refine stp Lun ?_
     refine Zba ?_
     exact fin 0 (hr := by (try simp only [go_sem, ff]); all_goals (have hF : (Zdi a l) k = false := (by simp only [Zdi, inR]; grind); simp only [sigsOk]; rw [hv, Zpa hk2 hF]; try simp))
    ·
     refine dw_skip ?_
     show DW _ _ _ _ _
     refine rgn Lun ?_
     show ∃ _, _
     have h8 : (Zdi a l) k = true := by simp only [Zdi, inR]; grind
     exact rnd (k + 1, _) (h1 := ⟨iv, (by first | (rw [hv, Zha hk2 h8]) | (dsimp only; rw [hv, Zha hk2 h8])), trivial⟩)
  ·
   refine Zka ?_
   show DW _ _ _ _ _
   refine stp Lun ?_
   refine Zba ?_
   exact fin 0 (hr := by (try simp only [go_sem, ff]); all_goals (simp only [sigsOk]; rw [hv, Zua (by omega)]; simp; omega))
set_option maxRecDepth 10000
theorem Zrh {l : List Sgd} {q : Qst} {i j : Nat} (hv : findIx l q = Zmz (fun k => qC l[k]!.q q) i j) (h : i < j) : (qC l[(i + j) / 2]!.q q < 0 → findIx l q = Zmz (fun k => qC l[k]!.q q) ((i + j) / 2 + 1) j) ∧ (¬ qC l[(i + j) / 2]!.q q < 0 → findIx l q = Zmz (fun k => qC l[k]!.q q) i ((i + j) / 2)) := by
 rw [Zzk, if_pos h] at hv
 exact ⟨fun h2 => by rw [if_pos h2] at hv; exact hv, fun h2 => by rw [if_neg h2] at hv; exact hv⟩
theorem bo95 : Zea Tryz.prog 95 = true := by kernel_rfl
theorem Zeh (s : Sgd) (q : Qst) : PureCt Tryz.prog 95 [.agg s.d, .agg q.d] (.i (qC s.q q)) := by
 refine Zca Tryz.func95 rfl bo95 (by simp [go_sem, D.nr, nrs, nrr]) (by simp [Tryz.f95]) ?_
 unfold Tryz.f95
 simp only [Zfa]
 have ff := True.intro
 refine stp Lun ?_
 refine stp Lun ?_ (hok := by (try simp only [go_sem, ff]); all_goals (exact Zlw _ _ _ _))
 refine Zba ?_
 exact fin 0 (hr := by (try simp only [go_sem, ff]); all_goals (rfl))
theorem bo94 : Zea Tryz.prog 94 = true := by kernel_rfl
theorem Zd7 (l : List Sgd) (q : Qst) (hl : l.length ≤ 1000000) : PureCt Tryz.prog 94 [.list false (l.map Sgd.d), .agg q.d, .fn (.func 95) [] []] (.tuple [.i (findIx l q), .b (findOk l q)]) := by
 refine Zca Tryz.func94 rfl bo94 (by simp [go_sem, D.nr, nrs, nrr]) (by simp [Tryz.f94]) ?_
 unfold Tryz.f94
 simp only [Zfa]
 have ff := True.intro
 refine stp Lun ?_
 refine stp Lun ?_
 refine stp Lun ?_
 refine Zaa ?_
 refine Zda ?_
 refine lp (α := (Nat) × (Nat) × Nat) [0, 2, 4, 8] (fun ⟨i, j, nx⟩ => (i ≤ j) ∧ (j ≤ l.length) ∧ (0 < nx) ∧ (findIx l q = Zmz (fun k => qC l[k]!.q q) i j) ∧ True) (fun ⟨i, j, nx⟩ => j - i) (fun ⟨i, j, nx⟩ => [(9, .i i), (10, .i j)]) (fun ⟨i, j, nx⟩ => [(0, ⟨58, [q.d]⟩)]) (fun ⟨i, j, nx⟩ => nx) (0, l.length, _) (hA := ⟨iv, iv, iv, rfl, trivial⟩) (round := ?_)
 rintro ⟨i, j, nx⟩ ⟨hij, hj, hx, hv, -⟩
 show DW _ _ _ _ { n := _, t := tab _, h := _, nx := _, e := _ }
 simp only [List.cons_append, List.nil_append]
 have ff := And.intro @hx ff
 refine Zaa ?_
 refine stp Lun ?_
 refine cd (fun c1 => ?_) (fun c1 => ?_) (hp := rfl)
 ·
  have hk2 : i < j := by simpa using c1
  have hm : (i + j) / 2 < l.length := by omega
  have ff := And.intro (mid_eq (i := i) (j := j) (by omega)) (And.intro (Zma hm) ff)
  refine dw_skip ?_
  show DW _ _ _ _ _
  refine Zda ?_
  refine stp Lun ?_
  refine stp Lun ?_ (hok := by (try simp only [go_sem, ff]); all_goals (first | done | ((repeat' (with_reducible apply And.intro)) <;> first | exact Zeh l[(i + j) / 2]! q | (intros; exact Zeh l[(i + j) / 2]! q) | omega)))
  refine cd (fun c2 => ?_) (fun c2 => ?_)
  ·
   refine rgn Lun ?_
   show ∃ _, _
   exact rnd ((i + j) / 2 + 1, j, _) (h1 := ⟨iv, iv, iv, (by first | (exact (Zrh hv hk2).1 c2) | (dsimp only; exact (Zrh hv hk2).1 c2)), trivial⟩)
  ·
   refine rgn Lun ?_
   show ∃ _, _
   exact rnd (i, (i + j) / 2, _) (h1 := ⟨iv, iv, iv, (by (try dsimp only); exact (Zrh hv hk2).2 (by omega)), trivial⟩)
 ·
  refine Zka ?_
  show DW _ _ _ _ _
  have hij2 : i = j := by have h9 : ¬ i < j := (by simpa using c1); omega
  have hv2 : findIx l q = i := by rw [hv, Zzk, if_neg (by omega)]
  by_cases hk4 : i < l.length
  ·
   have ff := And.intro (Zma hk4) ff
   refine stp Lun ?_ (hok := by (try simp only [go_sem, ff]); all_goals (first | done | ((repeat' (with_reducible apply And.intro)) <;> first | exact Zeh l[i]! q | (intros; exact Zeh l[i]! q) | omega | (intro h; have h := of_decide_eq_true h; omega))))
   refine Zba ?_
   exact fin 1 (hr := by (try simp only [go_sem, ff]); all_goals (simp only [findOk]; rw [hv2]; simp [hk4]))
  ·
   have ff := And.intro (Zsv (f := Sgd.d) (Nat.le_of_not_lt hk4)) ff
   refine stp Lun ?_ (hok := by (try simp only [go_sem, ff]); all_goals (first | done | ((repeat' (with_reducible apply And.intro)) <;> first | exact Zeh l[i]! q | (intros; exact Zeh l[i]! q) | omega | (intro h; have h := of_decide_eq_true h; omega))))
   refine Zba ?_
   exact fin 1 (hr := by (try simp only [go_sem, ff]); all_goals (simp only [findOk]; rw [hv2]; simp [hk4]))
theorem bo55 : Zea Tryz.prog 55 = true := by kernel_rfl
theorem Zsf (z : Zon) (q : Qst) (hl : z.sets.length ≤ 1000000) : PureCt Tryz.prog 55 [.agg z.d, .agg q.d] (.tuple [.i (findIx z.sets q), .b (findOk z.sets q)]) := by
 refine Zca Tryz.func55 rfl bo55 (by simp [go_sem, D.nr, nrs, nrr]) (by simp [Tryz.f55]) ?_
 unfold Tryz.f55
 simp only [Zfa]
 have ff := True.intro
 refine stp Lun ?_
 refine stp Lun ?_ (hok := by (try simp only [go_sem, ff]); all_goals (first | done | ((repeat' (with_reducible apply And.intro)) <;> first | exact Zd7 _ _ hl | (intros; exact Zd7 _ _ hl) | skip)))
 refine Zba ?_
 exact fin 1 (hr := by (try simp only [go_sem, ff]); all_goals (rfl))
theorem bo56 : Zea Tryz.prog 56 = true := by kernel_rfl
theorem Zsp (z : Zon) : PureCt Tryz.prog 56 [.agg z.d] (.b (ordered z)) := by
 refine Zca Tryz.func56 rfl bo56 (by simp [go_sem, D.nr, nrs, nrr]) (by simp [Tryz.f56]) ?_
 unfold Tryz.f56
 simp only [Zfa]
 have ff := True.intro
 refine stp Lun ?_
 refine Zaa ?_
 refine stp Lun ?_ (hok := by (try simp only [go_sem, ff]); all_goals (first | done | ((repeat' (with_reducible apply And.intro)) <;> first | exact Zic _ | (intros; exact Zic _) | exact Znm _ _ | (intros; exact Znm _ _) | skip)))
 refine cd (fun c1 => ?_) (fun c1 => ?_)
 ·
  refine stp Lun ?_
  refine Zba ?_
  exact fin 0 (hr := by (try simp only [go_sem, ff]); all_goals (simp only [ordered]; rw [Zvu] at *; grind))
 ·
  refine dw_skip ?_
  show DW _ _ _ _ _
  refine Zaa ?_
  refine stp Lun ?_
  refine Zda ?_
  refine lp (α := (Nat) × Nat) [1, 28, 29] (fun ⟨k, nx⟩ => (k ≤ z.sets.length) ∧ (Zya z.sets.length (Znk z.apex z.sets) 0 = Zya z.sets.length (Znk z.apex z.sets) k) ∧ (0 < nx) ∧ True) (fun ⟨k, nx⟩ => z.sets.length - k) (fun ⟨k, nx⟩ => [(30, .i k)]) (fun ⟨k, nx⟩ => [(0, ⟨82, [z.d]⟩)]) (fun ⟨k, nx⟩ => nx) (0, _) (hA := ⟨iv, rfl, iv, trivial⟩) (round := ?_)
  rintro ⟨k, nx⟩ ⟨hk, hv, hx, -⟩
  show DW _ _ _ _ { n := _, t := tab _, h := _, nx := _, e := _ }
  simp only [List.cons_append, List.nil_append]
  have ff := And.intro @hx ff
  refine stp Lun ?_
  refine Zaa ?_
  refine cd (fun c2 => ?_) (fun c2 => ?_) (hp := rfl)
  ·
   have hk2 : k < z.sets.length := by simpa using c2
   have h0 : 0 < z.sets.length := by omega
   have hk1 : k - 1 < z.sets.length := by omega
   have e1 : ((k:Int) - 1).toNat = k - 1 := by omega
   have ff := And.intro (Zma hk2) (And.intro (Zma h0) (And.intro (Zma hk1) (And.intro @e1 ff)))
   refine dw_skip ?_
   show DW _ _ _ _ _
   refine Zaa ?_
   refine Zda ?_
   refine stp Lun ?_
   refine Zaa ?_
   refine stp Lun ?_ (hok := by (try simp only [go_sem, ff]); all_goals (exact Zgc _))
   refine cd (fun c3 => ?_) (fun c3 => ?_)
   ·
    refine stp Lun ?_
    refine Zba ?_
    exact fin 0 (hr := by (try simp only [go_sem, ff]); all_goals (have hF : (Znk z.apex z.sets) k = false := (by simp only [Znk]; grind [Sgd.q]); simp only [ordered]; rw [hv, Zpa hk2 hF]; try simp))
   ·
    refine dw_skip ?_
    show DW _ _ _ _ _
    refine Zaa ?_
    refine stp Lun ?_ (hok := by (try simp only [go_sem, ff]); all_goals (exact Zwl _ _))
    refine stp Lun ?_
    refine cd (fun c4 => ?_) (fun c4 => ?_)
    ·
     refine stp Lun ?_
     refine Zba ?_
     exact fin 0 (hr := by (try simp only [go_sem, ff]); all_goals (have hF : (Znk z.apex z.sets) k = false := (by simp only [Znk]; grind [Sgd.q]); simp only [ordered]; rw [hv, Zpa hk2 hF]; try simp))
    ·
     refine dw_skip ?_
     show DW _ _ _ _ _
     refine Zaa ?_
     refine stp Lun ?_
     refine cd (fun c5 => ?_) (fun c5 => ?_)
     ·
      refine Zka ?_
      show DW _ _ _ _ _
      refine rgn Lun ?_
      show ∃ _, _
      have h8 : (Znk z.apex z.sets) k = true := by simp only [Znk]; grind [Sgd.q]
      exact rnd (k + 1, _) (h1 := ⟨iv, (by first | (rw [hv, Zha hk2 h8]) | (dsimp only; rw [hv, Zha hk2 h8])), iv, trivial⟩)
     ·
      refine dw_skip ?_
      show DW _ _ _ _ _
      refine stp Lun ?_
      refine stp Lun ?_ (hok := by (try simp only [go_sem, ff]); all_goals (exact Zlw _ _ _ _))
      refine cd (fun c6 => ?_) (fun c6 => ?_)
      ·
       refine stp Lun ?_
       refine Zba ?_
       exact fin 0 (hr := by (try simp only [go_sem, ff]); all_goals (have hF : (Znk z.apex z.sets) k = false := (by simp only [Znk]; grind [Sgd.q]); simp only [ordered]; rw [hv, Zpa hk2 hF]; try simp))
      ·
       refine dw_skip ?_
       show DW _ _ _ _ _
       refine rgn Lun ?_
       show ∃ _, _
       have h8 : (Znk z.apex z.sets) k = true := by simp only [Znk]; grind [Sgd.q]
       exact rnd (k + 1, _) (h1 := ⟨iv, (by first | (rw [hv, Zha hk2 h8]) | (dsimp only; rw [hv, Zha hk2 h8])), iv, trivial⟩)
  ·
   refine Zka ?_
   show DW _ _ _ _ _
   refine stp Lun ?_
   refine Zba ?_
   exact fin 0 (hr := by (try simp only [go_sem, ff]); all_goals (simp only [ordered]; rw [Zvu] at *; rw [hv, Zua (by omega)]; grind))
theorem bo57 : Zea Tryz.prog 57 = true := by kernel_rfl
theorem zapex_ct (z : Zon) (hl : z.sets.length ≤ 1000000) : PureCt Tryz.prog 57 [.agg z.d] (.b (apexHolds z)) := by
 refine Zca Tryz.func57 rfl bo57 (by simp [go_sem, D.nr, nrs, nrr]) (by simp [Tryz.f57]) ?_
 unfold Tryz.f57
 simp only [Zfa]
 have ff := True.intro
 refine stp Lun ?_
 refine Zaa ?_
 refine stp Lun ?_
 refine Zda ?_
 refine lp (α := (Nat) × Nat) [1, 9, 10] (fun ⟨k, nx⟩ => (k ≤ 2) ∧ (Zya 2 (Zmg z) 0 = Zya 2 (Zmg z) k) ∧ (0 < nx) ∧ True) (fun ⟨k, nx⟩ => 2 - k) (fun ⟨k, nx⟩ => [(11, .i k)]) (fun ⟨k, nx⟩ => [(0, ⟨82, [z.d]⟩)]) (fun ⟨k, nx⟩ => nx) (0, _) (hA := ⟨iv, rfl, iv, trivial⟩) (round := ?_)
 rintro ⟨k, nx⟩ ⟨hk, hv1, hx, -⟩
 show DW _ _ _ _ { n := _, t := tab _, h := _, nx := _, e := _ }
 simp only [List.cons_append, List.nil_append]
 have ff := And.intro @hx ff
 refine stp Lun ?_
 refine Zaa ?_
 refine cd (fun c1 => ?_) (fun c1 => ?_) (hp := rfl)
 ·
  have hk2 : k < 2 := by have h9 : (k:Int) < 2 := (by simpa using c1); omega
  refine dw_skip ?_
  show DW _ _ _ _ _
  refine Zaa ?_
  refine Zda ?_
  have h01 : k = 0 ∨ k = 1 := by omega
  rcases h01 with e0 | e0
  ·
   have ff := And.intro @e0 ff
   refine stp Lun ?_
   refine stp Lun ?_ (hok := by (try simp only [go_sem, ff]); all_goals (first | done | ((repeat' (with_reducible apply And.intro)) <;> first | exact Zsf z ⟨z.apex, 4⟩ hl | (intros; exact Zsf z ⟨z.apex, 4⟩ hl) | exact Zsf z ⟨z.apex, 2⟩ hl | (intros; exact Zsf z ⟨z.apex, 2⟩ hl) | skip)))
   refine stp Lun ?_
   refine cd (fun c2 => ?_) (fun c2 => ?_)
   ·
    refine stp Lun ?_
    refine Zba ?_
    exact fin 0 (hr := by (try simp only [go_sem, ff]); all_goals (have hF : (Zmg z) k = false := (by simpa [Zmg, e0] using c2); simp only [apexHolds]; rw [hv1, Zpa hk2 hF]; try simp))
   ·
    refine dw_skip ?_
    show DW _ _ _ _ _
    refine rgn Lun ?_
    show ∃ _, _
    have h8 : (Zmg z) k = true := by simpa [Zmg, e0] using c2
    exact rnd (k + 1, _) (h1 := ⟨iv, (by first | (rw [hv1, Zha hk2 h8]) | (dsimp only; rw [hv1, Zha hk2 h8])), iv, trivial⟩)
  ·
   have ff := And.intro @e0 ff
   refine stp Lun ?_
   refine stp Lun ?_ (hok := by (try simp only [go_sem, ff]); all_goals (first | done | ((repeat' (with_reducible apply And.intro)) <;> first | exact Zsf z ⟨z.apex, 4⟩ hl | (intros; exact Zsf z ⟨z.apex, 4⟩ hl) | exact Zsf z ⟨z.apex, 2⟩ hl | (intros; exact Zsf z ⟨z.apex, 2⟩ hl) | skip)))
   refine stp Lun ?_
   refine cd (fun c2 => ?_) (fun c2 => ?_)
   ·
    refine stp Lun ?_
    refine Zba ?_
    exact fin 0 (hr := by (try simp only [go_sem, ff]); all_goals (have hF : (Zmg z) k = false := (by simpa [Zmg, e0] using c2); simp only [apexHolds]; rw [hv1, Zpa hk2 hF]; try simp))
   ·
    refine dw_skip ?_
    show DW _ _ _ _ _
    refine rgn Lun ?_
    show ∃ _, _
    have h8 : (Zmg z) k = true := by simpa [Zmg, e0] using c2
    exact rnd (k + 1, _) (h1 := ⟨iv, (by first | (rw [hv1, Zha hk2 h8]) | (dsimp only; rw [hv1, Zha hk2 h8])), iv, trivial⟩)
 ·
  refine Zka ?_
  show DW _ _ _ _ _
  refine Zaa ?_
  refine stp Lun ?_
  refine Zda ?_
  refine lp (α := (Nat) × Nat) [1, 30, 31] (fun ⟨k, nx⟩ => (k ≤ z.sets.length) ∧ (Zya z.sets.length (Zvk z.apex z.sets) 0 = Zya z.sets.length (Zvk z.apex z.sets) k) ∧ (0 < nx) ∧ True) (fun ⟨k, nx⟩ => z.sets.length - k) (fun ⟨k, nx⟩ => [(32, .i k)]) (fun ⟨k, nx⟩ => [(0, ⟨82, [z.d]⟩)]) (fun ⟨k, nx⟩ => nx) (0, _) (hA := ⟨iv, rfl, iv, trivial⟩) (round := ?_)
  rintro ⟨k, nx⟩ ⟨hk, hv, hx, -⟩
  show DW _ _ _ _ { n := _, t := tab _, h := _, nx := _, e := _ }
  simp only [List.cons_append, List.nil_append]
  have ff := And.intro @hx ff
  refine stp Lun ?_
  refine Zaa ?_
  refine cd (fun c3 => ?_) (fun c3 => ?_) (hp := rfl)
  ·
   have hk2 : k < z.sets.length := by simpa using c3
   have ff := And.intro (Zma hk2) ff
   refine dw_skip ?_
   show DW _ _ _ _ _
   refine Zaa ?_
   refine Zda ?_
   refine stp Lun ?_
   refine stp Lun ?_ (hok := by (try simp only [go_sem, ff]); all_goals (exact Zh1 _ _))
   refine cd (fun c4 => ?_) (fun c4 => ?_)
   ·
    refine stp Lun ?_
    refine Zba ?_
    exact fin 0 (hr := by (try simp only [go_sem, ff]); all_goals (have hF : (Zvk z.apex z.sets) k = false := (by simp only [Zvk]; grind); simp only [apexHolds]; rw [hv, Zpa hk2 hF]; try simp))
   ·
    refine dw_skip ?_
    show DW _ _ _ _ _
    refine rgn Lun ?_
    show ∃ _, _
    have h8 : (Zvk z.apex z.sets) k = true := by simp only [Zvk]; grind
    exact rnd (k + 1, _) (h1 := ⟨iv, (by first | (rw [hv, Zha hk2 h8]) | (dsimp only; rw [hv, Zha hk2 h8])), iv, trivial⟩)
  ·
   refine Zka ?_
   show DW _ _ _ _ _
   refine stp Lun ?_
   refine Zba ?_
   exact fin 0 (hr := by (try simp only [go_sem, ff]); all_goals (simp only [apexHolds]; rw [hv1, hv, Zua (n := 2) (by omega), Zua (by omega)]; rfl))
set_option maxRecDepth 10000
@[go_sem] theorem keysOk_T {m : List Str} : Zwi Tryz.prog 9 (kvT m) = true := by
 induction m with
 | nil => rfl
 | cons s m ih => rw [Zji]; simp only [Zwi, ih, ko9, Bool.and_self]
theorem bo59 : Zea Tryz.prog 59 = true := by kernel_rfl
theorem Znw (x : Lay) (hl : x.z.sets.length ≤ 1000000) : PureCt Tryz.prog 59 [.agg x.d] (.b (aliasB x)) := by
 refine Zca Tryz.func59 rfl bo59 (by simp [go_sem, D.nr, nrs, nrr]) (by simp [Tryz.f59]) ?_
 unfold Tryz.f59
 simp only [Zfa]
 have ff := True.intro
 refine stp Lun ?_
 refine Zaa ?_
 refine stp Lun ?_
 refine Zda ?_
 refine lp (α := (Nat) × Nat) [1, 8, 9] (fun ⟨k, nx⟩ => (k ≤ x.z.sets.length) ∧ (Zya x.z.sets.length (Zed x.z.sets) 0 = Zya x.z.sets.length (Zed x.z.sets) k) ∧ (0 < nx) ∧ True) (fun ⟨k, nx⟩ => x.z.sets.length - k) (fun ⟨k, nx⟩ => [(10, .i k)]) (fun ⟨k, nx⟩ => [(0, ⟨85, [x.d]⟩)]) (fun ⟨k, nx⟩ => nx) (0, _) (hA := ⟨iv, rfl, iv, trivial⟩) (round := ?_)
 rintro ⟨k, nx⟩ ⟨hk, hv, hx, -⟩
 show DW _ _ _ _ { n := _, t := tab _, h := _, nx := _, e := _ }
 simp only [List.cons_append, List.nil_append]
 have ff := And.intro @hx ff
 refine stp Lun ?_
 refine Zaa ?_
 refine cd (fun c1 => ?_) (fun c1 => ?_) (hp := rfl)
 ·
  have hk2 : k < x.z.sets.length := by simpa using c1
  have hk1 : k - 1 < x.z.sets.length := by omega
  have e1 : ((k:Int) - 1).toNat = k - 1 := by omega
  have e2 : ((k:Int) + 1).toNat = k + 1 := by omega
  have ff := And.intro (Zma hk2) (And.intro (Zma hk1) (And.intro @e1 (And.intro @e2 ff)))
  refine dw_skip ?_
  show DW _ _ _ _ _
  refine Zaa ?_
  refine Zda ?_
  refine stp Lun ?_
  refine Zaa ?_
  refine stp Lun ?_
  refine cd (fun c2 => ?_) (fun c2 => ?_)
  ·
   refine Zka ?_
   show DW _ _ _ _ _
   refine rgn Lun ?_
   show ∃ _, _
   have h8 : (Zed x.z.sets) k = true := by simp only [Zed]; grind
   exact rnd (k + 1, _) (h1 := ⟨iv, (by first | (rw [hv, Zha hk2 h8]) | (dsimp only; rw [hv, Zha hk2 h8])), iv, trivial⟩)
  ·
   refine dw_skip ?_
   show DW _ _ _ _ _
   refine Zaa ?_
   refine stp Lun ?_
   refine cd (fun c3 => ?_) (fun c3 => ?_)
   ·
    refine stp Lun ?_
    refine Zba ?_
    exact fin 0 (hr := by (try simp only [go_sem, ff]); all_goals (have hF : (Zed x.z.sets) k = false := (by simp only [Zed]; grind); simp only [aliasB]; rw [hv, Zpa hk2 hF]; try simp))
   ·
    refine dw_skip ?_
    show DW _ _ _ _ _
    by_cases hk4 : k + 1 < x.z.sets.length
    ·
     have ff := And.intro (Zma hk4) ff
     refine stp Lun ?_
     refine cd (fun c4 => ?_) (fun c4 => ?_)
     ·
      refine stp Lun ?_
      refine Zba ?_
      exact fin 0 (hr := by (try simp only [go_sem, ff]); all_goals (have hF : (Zed x.z.sets) k = false := (by simp only [Zed]; grind); simp only [aliasB]; rw [hv, Zpa hk2 hF]; try simp))
     ·
      refine dw_skip ?_
      show DW _ _ _ _ _
      refine rgn Lun ?_
      show ∃ _, _
      have h8 : (Zed x.z.sets) k = true := by simp only [Zed]; grind
      exact rnd (k + 1, _) (h1 := ⟨iv, (by first | (rw [hv, Zha hk2 h8]) | (dsimp only; rw [hv, Zha hk2 h8])), iv, trivial⟩)
    ·
     have e9 : decide (((k + 1 : Nat) : Int) < x.z.sets.length) = false := decide_eq_false (by omega)
     have ff := And.intro (Zsv (f := Sgd.d) (Nat.le_of_not_lt hk4)) ff
     refine stp Lun ?_
     refine cd (fun c5 => ?_) (fun c5 => ?_)
     ·
      refine stp Lun ?_
      refine Zba ?_
      exact fin 0 (hr := by (try simp only [go_sem, ff]); all_goals (have hF : (Zed x.z.sets) k = false := (by simp only [Zed]; grind); simp only [aliasB]; rw [hv, Zpa hk2 hF]; try simp))
     ·
      refine dw_skip ?_
      show DW _ _ _ _ _
      refine rgn Lun ?_
      show ∃ _, _
      have h8 : (Zed x.z.sets) k = true := by simp only [Zed]; grind
      exact rnd (k + 1, _) (h1 := ⟨iv, (by first | (rw [hv, Zha hk2 h8]) | (dsimp only; rw [hv, Zha hk2 h8])), iv, trivial⟩)
 ·
  refine Zka ?_
  show DW _ _ _ _ _
  refine stp Lun ?_
  refine Zba ?_
  exact fin 0 (hr := by (try simp only [go_sem, ff]); all_goals (simp only [aliasB]; rw [hv, Zua (by omega)]))
theorem bo60 : Zea Tryz.prog 60 = true := by kernel_rfl
theorem Zo2 (x : Lay) (hl : x.z.sets.length ≤ 1000000) (hb : x.b.length = x.z.sets.length) : PureCt Tryz.prog 60 [.agg x.d] (.b (cutB x)) := by
 refine Zca Tryz.func60 rfl bo60 (by simp [go_sem, D.nr, nrs, nrr]) (by simp [Tryz.f60]) ?_
 unfold Tryz.f60
 simp only [Zfa]
 have ff := True.intro
 refine stp Lun ?_
 refine Zaa ?_
 refine stp Lun ?_
 refine Zda ?_
 refine lp (α := (Nat) × Nat) [1, 9, 10] (fun ⟨k, nx⟩ => (k ≤ x.z.sets.length) ∧ (Zya x.z.sets.length (cutAt x) 0 = Zya x.z.sets.length (cutAt x) k) ∧ (0 < nx) ∧ True) (fun ⟨k, nx⟩ => x.z.sets.length - k) (fun ⟨k, nx⟩ => [(11, .i k)]) (fun ⟨k, nx⟩ => [(0, ⟨85, [x.d]⟩)]) (fun ⟨k, nx⟩ => nx) (0, _) (hA := ⟨iv, rfl, iv, trivial⟩) (round := ?_)
 rintro ⟨k, nx⟩ ⟨hk, hv, hx, -⟩
 show DW _ _ _ _ { n := _, t := tab _, h := _, nx := _, e := _ }
 simp only [List.cons_append, List.nil_append]
 have ff := And.intro @hx ff
 refine stp Lun ?_
 refine Zaa ?_
 refine cd (fun c1 => ?_) (fun c1 => ?_) (hp := rfl)
 ·
  have hk2 : k < x.z.sets.length := by simpa using c1
  have hk3 : k < x.b.length := by omega
  have ff := And.intro (Zma hk2) (And.intro (Zad hk3) ff)
  refine dw_skip ?_
  show DW _ _ _ _ _
  refine Zaa ?_
  refine Zda ?_
  refine stp Lun ?_
  refine stp Lun ?_
  refine stp Lun ?_
  refine Zda ?_
  refine stp Lun ?_
  refine cd (fun c2 => ?_) (fun c2 => ?_)
  ·
   refine stp Lun ?_
   refine cd (fun c3 => ?_) (fun c3 => ?_)
   ·
    refine stp Lun ?_
    refine Zba ?_
    exact fin 0 (hr := by (try simp only [go_sem, ff]); all_goals (have hF : (cutAt x) k = false := (by simp only [cutAt]; grind); simp only [cutB]; rw [hv, Zpa hk2 hF]; try simp))
   ·
    refine dw_skip ?_
    show DW _ _ _ _ _
    refine rgn Lun ?_
    show ∃ _, _
    have h8 : (cutAt x) k = true := by simp only [cutAt]; grind
    exact rnd (k + 1, _) (h1 := ⟨iv, (by first | (rw [hv, Zha hk2 h8]) | (dsimp only; rw [hv, Zha hk2 h8])), iv, trivial⟩)
  ·
   refine stp Lun ?_
   refine cd (fun c4 => ?_) (fun c4 => ?_)
   ·
    refine stp Lun ?_
    refine cd (fun c5 => ?_) (fun c5 => ?_)
    ·
     refine stp Lun ?_
     refine Zba ?_
     exact fin 0 (hr := by (try simp only [go_sem, ff]); all_goals (have hF : (cutAt x) k = false := (by simp only [cutAt]; grind); simp only [cutB]; rw [hv, Zpa hk2 hF]; try simp))
    ·
     refine dw_skip ?_
     show DW _ _ _ _ _
     refine rgn Lun ?_
     show ∃ _, _
     have h8 : (cutAt x) k = true := by simp only [cutAt]; grind
     exact rnd (k + 1, _) (h1 := ⟨iv, (by first | (rw [hv, Zha hk2 h8]) | (dsimp only; rw [hv, Zha hk2 h8])), iv, trivial⟩)
   ·
    refine stp Lun ?_
    refine cd (fun c6 => ?_) (fun c6 => ?_)
    ·
     refine stp Lun ?_
     refine Zba ?_
     exact fin 0 (hr := by (try simp only [go_sem, ff]); all_goals (have hF : (cutAt x) k = false := (by simp only [cutAt]; grind); simp only [cutB]; rw [hv, Zpa hk2 hF]; try simp))
    ·
     refine dw_skip ?_
     show DW _ _ _ _ _
     refine rgn Lun ?_
     show ∃ _, _
     have h8 : (cutAt x) k = true := by simp only [cutAt]; grind
     exact rnd (k + 1, _) (h1 := ⟨iv, (by first | (rw [hv, Zha hk2 h8]) | (dsimp only; rw [hv, Zha hk2 h8])), iv, trivial⟩)
 ·
  refine Zka ?_
  show DW _ _ _ _ _
  refine stp Lun ?_
  refine Zba ?_
  exact fin 0 (hr := by (try simp only [go_sem, ff]); all_goals (simp only [cutB]; rw [hv, Zua (by omega)]))
theorem bo61 : Zea Tryz.prog 61 = true := by kernel_rfl
theorem Zm2 (x : Lay) (hl : x.z.sets.length ≤ 1000000) (hb : x.b.length = x.z.sets.length) : PureCt Tryz.prog 61 [.agg x.d] (.b (glueB x)) := by
 refine Zca Tryz.func61 rfl bo61 (by simp [go_sem, D.nr, nrs, nrr]) (by simp [Tryz.f61]) ?_
 unfold Tryz.f61
 simp only [Zfa]
 have ff := True.intro
 refine stp Lun ?_
 refine Zaa ?_
 refine stp Lun ?_
 refine Zda ?_
 refine lp (α := (Nat) × Nat) [1, 9, 10] (fun ⟨k, nx⟩ => (k ≤ x.z.sets.length) ∧ (Zya x.z.sets.length (Zmj x) 0 = Zya x.z.sets.length (Zmj x) k) ∧ (0 < nx) ∧ True) (fun ⟨k, nx⟩ => x.z.sets.length - k) (fun ⟨k, nx⟩ => [(11, .i k)]) (fun ⟨k, nx⟩ => [(0, ⟨85, [x.d]⟩)]) (fun ⟨k, nx⟩ => nx) (0, _) (hA := ⟨iv, rfl, iv, trivial⟩) (round := ?_)
 rintro ⟨k, nx⟩ ⟨hk, hv, hx, -⟩
 show DW _ _ _ _ { n := _, t := tab _, h := _, nx := _, e := _ }
 simp only [List.cons_append, List.nil_append]
 have ff := And.intro @hx ff
 refine stp Lun ?_
 refine Zaa ?_
 refine cd (fun c1 => ?_) (fun c1 => ?_) (hp := rfl)
 ·
  have hk2 : k < x.z.sets.length := by simpa using c1
  have hk3 : k < x.b.length := by omega
  have ff := And.intro (Zma hk2) (And.intro (Zad hk3) ff)
  refine dw_skip ?_
  show DW _ _ _ _ _
  refine Zaa ?_
  refine Zda ?_
  refine stp Lun ?_
  refine stp Lun ?_
  refine stp Lun ?_
  refine cd (fun c2 => ?_) (fun c2 => ?_)
  ·
   refine stp Lun ?_
   refine Zba ?_
   exact fin 0 (hr := by (try simp only [go_sem, ff]); all_goals (have hF : (Zmj x) k = false := (by simp only [Zmj]; grind); simp only [glueB]; rw [hv, Zpa hk2 hF]; try simp))
  ·
   refine dw_skip ?_
   show DW _ _ _ _ _
   refine rgn Lun ?_
   show ∃ _, _
   have h8 : (Zmj x) k = true := by simp only [Zmj]; grind
   exact rnd (k + 1, _) (h1 := ⟨iv, (by first | (rw [hv, Zha hk2 h8]) | (dsimp only; rw [hv, Zha hk2 h8])), iv, trivial⟩)
 ·
  refine Zka ?_
  show DW _ _ _ _ _
  refine stp Lun ?_
  refine Zba ?_
  exact fin 0 (hr := by (try simp only [go_sem, ff]); all_goals (simp only [glueB]; rw [hv, Zua (by omega)]))
theorem bo62 : Zea Tryz.prog 62 = true := by kernel_rfl
theorem Zn2 (x : Lay) (hl : x.z.sets.length ≤ 1000000) : PureCt Tryz.prog 62 [.agg x.d] (.b (formB x)) := by
 refine Zca Tryz.func62 rfl bo62 (by simp [go_sem, D.nr, nrs, nrr]) (by simp [Tryz.f62]) ?_
 unfold Tryz.f62
 simp only [Zfa]
 have ff := True.intro
 refine stp Lun ?_
 refine Zaa ?_
 refine stp Lun ?_
 refine Zda ?_
 refine lp (α := (Nat) × Nat) [1, 8, 9] (fun ⟨k, nx⟩ => (k ≤ x.z.sets.length) ∧ (Zya x.z.sets.length (Zxi x.z) 0 = Zya x.z.sets.length (Zxi x.z) k) ∧ (0 < nx) ∧ True) (fun ⟨k, nx⟩ => x.z.sets.length - k) (fun ⟨k, nx⟩ => [(10, .i k)]) (fun ⟨k, nx⟩ => [(0, ⟨85, [x.d]⟩)]) (fun ⟨k, nx⟩ => nx) (0, _) (hA := ⟨iv, rfl, iv, trivial⟩) (round := ?_)
 rintro ⟨k, nx⟩ ⟨hk, hv, hx, -⟩
 show DW _ _ _ _ { n := _, t := tab _, h := _, nx := _, e := _ }
 simp only [List.cons_append, List.nil_append]
 have ff := And.intro @hx ff
 refine stp Lun ?_
 refine Zaa ?_
 refine cd (fun c1 => ?_) (fun c1 => ?_) (hp := rfl)
 ·
  have hk2 : k < x.z.sets.length := by simpa using c1
  have ff := And.intro (Zma hk2) ff
  refine dw_skip ?_
  show DW _ _ _ _ _
  refine Zaa ?_
  refine Zda ?_
  refine stp Lun ?_
  refine stp Lun ?_ (hok := by (try simp only [go_sem, ff]); all_goals (exact Zm4 _ _))
  refine cd (fun c2 => ?_) (fun c2 => ?_)
  ·
   refine stp Lun ?_
   refine Zba ?_
   exact fin 0 (hr := by (try simp only [go_sem, ff]); all_goals (have hF : (Zxi x.z) k = false := (by simpa only [Zxi] using c2); simp only [formB]; rw [hv, Zpa hk2 hF]; try simp))
  ·
   refine dw_skip ?_
   show DW _ _ _ _ _
   refine rgn Lun ?_
   show ∃ _, _
   have h8 : (Zxi x.z) k = true := by simpa only [Zxi] using c2
   exact rnd (k + 1, _) (h1 := ⟨iv, (by first | (rw [hv, Zha hk2 h8]) | (dsimp only; rw [hv, Zha hk2 h8])), iv, trivial⟩)
 ·
  refine Zka ?_
  show DW _ _ _ _ _
  refine stp Lun ?_
  refine Zba ?_
  exact fin 0 (hr := by (try simp only [go_sem, ff]); all_goals (simp only [formB]; rw [hv, Zua (by omega)]))
set_option maxRecDepth 10000
theorem bo58 : Zea Tryz.prog 58 = true := by kernel_rfl
theorem zlay_ct (z : Zon) (hl : z.sets.length ≤ 1000000) : PureCt Tryz.prog 58 [.agg z.d] (.agg (layOf z).d) := by
 refine Zca Tryz.func58 rfl bo58 (by simp [go_sem, D.nr, nrs, nrr]) (by simp [Tryz.f58]) ?_
 unfold Tryz.f58
 simp only [Zfa]
 have ff := True.intro
 refine stp Lun ?_
 refine stp Lun ?_
 refine Zaa ?_
 refine stp Lun ?_
 refine Zda ?_
 refine lp (α := (Nat) × Nat) [1, 2, 3, 16, 17] (fun ⟨k, nx⟩ => (k ≤ z.sets.length) ∧ (2 < nx) ∧ True) (fun ⟨k, nx⟩ => z.sets.length - k) (fun ⟨k, nx⟩ => [(18, .i k)]) (fun ⟨k, nx⟩ => [(0, ⟨82, [z.d]⟩), (1, ⟨85, [[.v (.string (bs [])), .list true [], .list true []]]⟩), (2, ⟨121, Ztc (kvT (Zhb z (k)))⟩)]) (fun ⟨k, nx⟩ => nx) (0, _) (hA := ⟨iv, iv, trivial⟩) (round := ?_)
 rintro ⟨k, nx⟩ ⟨hk, hx, -⟩
 show DW _ _ _ _ { n := _, t := tab _, h := _, nx := _, e := _ }
 simp only [List.cons_append, List.nil_append]
 have n0 : 0 < nx := by omega
 have n1 : 1 < nx := by omega
 have ff := And.intro @hx (And.intro @n0 (And.intro @n1 ff))
 refine stp Lun ?_
 refine Zaa ?_
 refine cd (fun c1 => ?_) (fun c1 => ?_) (hp := rfl)
 ·
  have hk2 : k < z.sets.length := by simpa using c1
  have ff := And.intro (Zma hk2) ff
  refine dw_skip ?_
  show DW _ _ _ _ _
  refine Zaa ?_
  refine Zda ?_
  refine stp Lun ?_
  refine stp Lun ?_
  refine cd (fun c2 => ?_) (fun c2 => ?_)
  ·
   refine rgn Lun ?_
   show DW _ _ _ _ _
   refine rgn Lun ?_
   show ∃ _, _
   have ff := And.intro (Zc4 (z := z) (k := k) (by grind)) ff
   exact rnd (k + 1, _) (h1 := ⟨iv, iv, trivial⟩)
  ·
   refine dw_skip ?_
   show DW _ _ _ _ _
   refine rgn Lun ?_
   show ∃ _, _
   have ff := And.intro (Yob (z := z) (k := k) (by grind)) ff
   exact rnd (k + 1, _) (h1 := ⟨iv, iv, trivial⟩)
 ·
  refine Zka ?_
  show DW _ _ _ _ _
  refine Zn6 3 2 ev ev rfl nrs_kvT ?_
  refine stp Lun ?_
  refine stp Lun ?_
  refine Zaa ?_
  refine stp Lun ?_
  refine Zda ?_
  refine lp (α := (Nat) × (Str) × (Nat) × (Nat) × Nat) [2, 3, 49, 50] (fun ⟨k, cut, r6, rb, nx⟩ => (k ≤ z.sets.length) ∧ (rb < nx) ∧ (r6 < nx) ∧ (2 < rb ∧ rb < r6) ∧ (cut = (Zmc (Zhb z z.sets.length) z.sets k).2) ∧ True) (fun ⟨k, cut, r6, rb, nx⟩ => z.sets.length - k) (fun ⟨k, cut, r6, rb, nx⟩ => [(6, .mptr r6 0 0), (7, .v (.string (bs cut))), (51, .i k)]) (fun ⟨k, cut, r6, rb, nx⟩ => [(0, ⟨82, [z.d]⟩), (1, ⟨85, [[.v (.string (bs [])), .list true [], .list true []]]⟩), (r6, ⟨85, [[.v (.string (bs z.apex)), .list false (z.sets.map Sgd.d), .mrow rb 0 z.sets.length]]⟩), (rb, ⟨9, (Znl (Zhb z z.sets.length) z.sets z.sets.length (k)).map sR⟩)]) (fun ⟨k, cut, r6, rb, nx⟩ => nx) (0, [], (nx + 8), (nx + 6), _) (hA := ⟨iv, iv, iv, iv, iv, trivial⟩) (round := ?_)
  rintro ⟨k, cut, r6, rb, nx⟩ ⟨hk, hx, hx6, hbr, hc, -⟩
  show DW _ _ _ _ { n := _, t := tab _, h := _, nx := _, e := _ }
  simp only [List.cons_append, List.nil_append]
  have n0 : 0 < nx := by omega
  have n1 : 1 < nx := by omega
  have zr6_rb : (r6 = rb) = False := eq_false (by omega)
  have yrb_r6 : (rb = r6) = False := eq_false (by omega)
  have z0_rb : (0 = rb) = False := eq_false (by omega)
  have yrb_0 : (rb = 0) = False := eq_false (by omega)
  have z1_rb : (1 = rb) = False := eq_false (by omega)
  have yrb_1 : (rb = 1) = False := eq_false (by omega)
  have z0_r6 : (0 = r6) = False := eq_false (by omega)
  have yr6_0 : (r6 = 0) = False := eq_false (by omega)
  have z1_r6 : (1 = r6) = False := eq_false (by omega)
  have yr6_1 : (r6 = 1) = False := eq_false (by omega)
  have ff := And.intro @hx (And.intro @hx6 (And.intro @n0 (And.intro @n1 (And.intro @zr6_rb (And.intro @yrb_r6 (And.intro @z0_rb (And.intro @yrb_0 (And.intro @z1_rb (And.intro @yrb_1 (And.intro @z0_r6 (And.intro @yr6_0 (And.intro @z1_r6 (And.intro @yr6_1 ff)))))))))))))
  refine stp Lun ?_
  refine Zaa ?_
  refine cd (fun c3 => ?_) (fun c3 => ?_) (hp := rfl)
  ·
   have hk2 : k < z.sets.length := by simpa using c3
   have ff := And.intro (Zma hk2) (And.intro (Zkq (m := (Zhb z z.sets.length)) (l := z.sets) hk) (And.intro (Zad (l := Znl (Zhb z z.sets.length) z.sets z.sets.length k) (n := k) (by rw [Zkq hk]; exact hk2)) ff))
   refine dw_skip ?_
   show DW _ _ _ _ _
   refine Zaa ?_
   refine Zda ?_
   refine stp Lun ?_
   refine stp Lun ?_
   refine Zaa ?_
   refine stp Lun ?_
   refine cd (fun c4 => ?_) (fun c4 => ?_)
   ·
    refine stp Lun ?_ (hok := by (try simp only [go_sem, ff]); all_goals (exact Zwl _ _))
    refine stp Lun ?_
    refine cd (fun c5 => ?_) (fun c5 => ?_)
    ·
     refine rgn Lun ?_
     show DW _ _ _ _ _
     refine Zaa ?_
     refine stp Lun ?_
     refine cd (fun c6 => ?_) (fun c6 => ?_)
     ·
      refine rgn Lun ?_
      show DW _ _ _ _ _
      refine rgn Lun ?_
      show DW _ _ _ _ _
      refine rgn Lun ?_
      show ∃ _, _
      have hcc : (Zmc (Zhb z z.sets.length) z.sets (k + 1)).2 = z.sets[k]!.set.name := by show Zmk _ (Zmc _ _ k).2 _ = _; rw [← hc]; simp only [Zmk]; grind
      have ff := And.intro (Zzf hk2 hcc) (And.intro hcc ff)
      exact rnd (k + 1, (Zmc (Zhb z z.sets.length) z.sets (k + 1)).2, r6, rb, _) (h1 := ⟨iv, iv, iv, iv, iv, trivial⟩)
     ·
      refine dw_skip ?_
      show DW _ _ _ _ _
      refine rgn Lun ?_
      show DW _ _ _ _ _
      refine rgn Lun ?_
      show ∃ _, _
      have hcc : (Zmc (Zhb z z.sets.length) z.sets (k + 1)).2 = [] := by show Zmk _ (Zmc _ _ k).2 _ = _; rw [← hc]; simp only [Zmk]; grind
      have ff := And.intro (Zzf hk2 hcc) (And.intro hcc ff)
      exact rnd (k + 1, (Zmc (Zhb z z.sets.length) z.sets (k + 1)).2, r6, rb, _) (h1 := ⟨iv, iv, iv, iv, iv, trivial⟩)
    ·
     refine dw_skip ?_
     show DW _ _ _ _ _
     refine Zaa ?_
     refine stp Lun ?_
     refine cd (fun c6 => ?_) (fun c6 => ?_)
     ·
      refine rgn Lun ?_
      show DW _ _ _ _ _
      refine rgn Lun ?_
      show DW _ _ _ _ _
      refine rgn Lun ?_
      show ∃ _, _
      have hcc : (Zmc (Zhb z z.sets.length) z.sets (k + 1)).2 = z.sets[k]!.set.name := by show Zmk _ (Zmc _ _ k).2 _ = _; rw [← hc]; simp only [Zmk]; grind
      have ff := And.intro (Zzf hk2 hcc) (And.intro hcc ff)
      exact rnd (k + 1, (Zmc (Zhb z z.sets.length) z.sets (k + 1)).2, r6, rb, _) (h1 := ⟨iv, iv, iv, iv, iv, trivial⟩)
     ·
      refine dw_skip ?_
      show DW _ _ _ _ _
      refine rgn Lun ?_
      show DW _ _ _ _ _
      refine rgn Lun ?_
      show ∃ _, _
      have hcc : (Zmc (Zhb z z.sets.length) z.sets (k + 1)).2 = cut := by show Zmk _ (Zmc _ _ k).2 _ = _; rw [← hc]; simp only [Zmk]; grind
      have ff := And.intro (Zzf hk2 hcc) (And.intro hcc ff)
      exact rnd (k + 1, (Zmc (Zhb z z.sets.length) z.sets (k + 1)).2, r6, rb, _) (h1 := ⟨iv, iv, iv, iv, iv, trivial⟩)
   ·
    refine dw_skip ?_
    show DW _ _ _ _ _
    refine Zaa ?_
    refine stp Lun ?_
    refine cd (fun c6 => ?_) (fun c6 => ?_)
    ·
     refine rgn Lun ?_
     show DW _ _ _ _ _
     refine rgn Lun ?_
     show DW _ _ _ _ _
     refine rgn Lun ?_
     show ∃ _, _
     have hcc : (Zmc (Zhb z z.sets.length) z.sets (k + 1)).2 = z.sets[k]!.set.name := by show Zmk _ (Zmc _ _ k).2 _ = _; rw [← hc]; simp only [Zmk]; grind
     have ff := And.intro (Zzf hk2 hcc) (And.intro hcc ff)
     exact rnd (k + 1, (Zmc (Zhb z z.sets.length) z.sets (k + 1)).2, r6, rb, _) (h1 := ⟨iv, iv, iv, iv, iv, trivial⟩)
    ·
     refine dw_skip ?_
     show DW _ _ _ _ _
     refine rgn Lun ?_
     show DW _ _ _ _ _
     refine rgn Lun ?_
     show ∃ _, _
     have hcc : (Zmc (Zhb z z.sets.length) z.sets (k + 1)).2 = cut := by show Zmk _ (Zmc _ _ k).2 _ = _; rw [← hc]; simp only [Zmk]; grind
     have ff := And.intro (Zzf hk2 hcc) (And.intro hcc ff)
     exact rnd (k + 1, (Zmc (Zhb z z.sets.length) z.sets (k + 1)).2, r6, rb, _) (h1 := ⟨iv, iv, iv, iv, iv, trivial⟩)
  ·
   refine Zka ?_
   show DW _ _ _ _ _
   have e9 : k = z.sets.length := by omega
   subst e9
   have tk : List.take z.sets.length ((Znl (Zhb z z.sets.length) z.sets z.sets.length z.sets.length).map sR) = (Zy6 z).map sR := by rw [rowsB_n]; exact List.take_of_length_le (by rw [List.length_map, Zkf]; exact Nat.le_refl _)
   have ff := And.intro @tk (And.intro (Zkq (m := (Zhb z z.sets.length)) (l := z.sets) (Nat.le_refl z.sets.length)) ff)
   refine stp Lun ?_
   refine Zba ?_
   exact fin 2 (hr := by (try simp only [go_sem, ff]); all_goals (rfl)) (hk := by (try simp only [go_sem, ff]); all_goals (exact Zrj z))
theorem bo25 : Zea Tryz.prog 25 = true := by kernel_rfl
theorem Zac (z : Zon) : PureCt Tryz.prog 25 [.agg z.d] (.b (zoneOk z)) := by
 refine Zca Tryz.func25 rfl bo25 (by simp [go_sem, D.nr, nrs, nrr]) (by simp [Tryz.f25]) ?_
 unfold Tryz.f25
 simp only [Zfa]
 have ff := True.intro
 refine stp Lun ?_
 refine stp Lun ?_
 refine Zaa ?_
 refine stp Lun ?_ (hok := by (try simp only [go_sem, ff]); all_goals (first | done | ((repeat' (with_reducible apply And.intro)) <;> first | exact Zsp z | (intros; exact Zsp z) | (intro h; exact zapex_ct z (Ze9 h)) | (intros; simp_all; done) | skip)))
 refine cd (fun c1 => ?_) (fun c1 => ?_)
 ·
  refine stp Lun ?_
  refine Zba ?_
  exact fin 0 (hr := by (try simp only [go_sem, ff]); all_goals (simp only [zoneOk]; grind))
 ·
  refine dw_skip ?_
  show DW _ _ _ _ _
  have ho := Ze9 c1.1
  refine stp Lun ?_ (hok := by (try simp only [go_sem, ff]); all_goals (exact zlay_ct z ho))
  refine stp Lun ?_ (hok := by (try simp only [go_sem, ff]); all_goals (first | done | ((repeat' (with_reducible apply And.intro)) <;> first | exact Znw (layOf z) ho | (intros; exact Znw (layOf z) ho) | exact Zo2 (layOf z) ho (Zrj z) | (intros; exact Zo2 (layOf z) ho (Zrj z)) | exact Zm2 (layOf z) ho (Zrj z) | (intros; exact Zm2 (layOf z) ho (Zrj z)) | exact Zn2 (layOf z) ho | (intros; exact Zn2 (layOf z) ho) | skip)))
  refine Zba ?_
  exact fin 0 (hr := by (try simp only [go_sem, ff]); all_goals (simp only [zoneOk]; rw [c1.1, c1.2]; simp [Bool.and_assoc]))
set_option maxRecDepth 10000
theorem sig_eqF {x y : RSig} (h : x.zone = y.zone ∧ x.key = y.key ∧ x.alg = y.alg ∧ x.frm = y.frm ∧ x.unt = y.unt ∧ x.sum = y.sum) : x = y := by
 obtain ⟨a, b, c, d, e, f⟩ := x
 obtain ⟨g, i, j, k, l, m⟩ := y
 simp at h
 simp [h]
theorem sig_neF {x y : RSig} (h : ¬x.zone = y.zone ∨ ¬x.key = y.key ∨ ¬x.alg = y.alg ∨ ¬x.frm = y.frm ∨ ¬x.unt = y.unt ∨ ¬x.sum = y.sum) : x ≠ y := by
 rintro rfl
 simp at h
theorem bo42 : Zea Tryz.prog 42 = true := by kernel_rfl
theorem Zqc (a : Sgd) (b : Sgd) (ha : fit1 a) : PureCt Tryz.prog 42 [.agg a.d, .agg b.d] (.b (sameSgd a b)) := by
 refine Zca Tryz.func42 rfl bo42 (by simp [go_sem, D.nr, nrs, nrr]) (by simp [Tryz.f42]) ?_
 unfold Tryz.f42
 simp only [Zfa]
 have ff := True.intro
 have ha2 := ha.2
 refine stp Lun ?_
 refine Zaa ?_
 refine stp Lun ?_ (hok := by (try simp only [go_sem, ff]); all_goals (first | done | ((repeat' (with_reducible apply And.intro)) <;> first | exact Zet _ _ ha.1 | (intros; exact Zet _ _ ha.1) | skip)))
 refine cd (fun c1 => ?_) (fun c1 => ?_)
 ·
  refine stp Lun ?_
  refine Zba ?_
  exact fin 0 (hr := by (try simp only [go_sem, ff]); all_goals (rw [sgd_not1 (by grind [sameB])]))
 ·
  refine dw_skip ?_
  show DW _ _ _ _ _
  refine Zaa ?_
  refine stp Lun ?_
  refine Zda ?_
  refine lp (α := (Nat) × Nat) [2, 3] (fun ⟨k, nx⟩ => (k ≤ a.sigs.length) ∧ (1 < nx) ∧ (∀ i, i < k → a.sigs[i]! = b.sigs[i]!) ∧ True) (fun ⟨k, nx⟩ => a.sigs.length - k) (fun ⟨k, nx⟩ => [(5, .i k)]) (fun ⟨k, nx⟩ => [(0, ⟨52, [a.d]⟩), (1, ⟨52, [b.d]⟩)]) (fun ⟨k, nx⟩ => nx) (0, _) (hA := ⟨iv, iv, (by first | (intro i hi; omega) | (dsimp only; intro i hi; omega)), trivial⟩) (round := ?_)
  rintro ⟨k, nx⟩ ⟨hk, hx, hv, -⟩
  show DW _ _ _ _ { n := _, t := tab _, h := _, nx := _, e := _ }
  simp only [List.cons_append, List.nil_append]
  have n0 : 0 < nx := by omega
  have ff := And.intro @hx (And.intro @n0 ff)
  refine Zaa ?_
  refine stp Lun ?_
  refine cd (fun c2 => ?_) (fun c2 => ?_) (hp := rfl)
  ·
   have hk2 : k < a.sigs.length := by simpa using c2
   have hk3 : k < b.sigs.length := by grind
   have ff := And.intro (Ztg hk2) (And.intro (Ztg hk3) ff)
   refine dw_skip ?_
   show DW _ _ _ _ _
   refine Zaa ?_
   refine Zda ?_
   refine stp Lun ?_
   refine cd (fun c3 => ?_) (fun c3 => ?_)
   ·
    refine stp Lun ?_
    refine Zba ?_
    exact fin 0 (hr := by (try simp only [go_sem, ff]); all_goals (rw [sgd_not2 (sig_neF c3)]))
   ·
    refine dw_skip ?_
    show DW _ _ _ _ _
    refine rgn Lun ?_
    show ∃ _, _
    exact rnd (k + 1, _) (h1 := ⟨iv, iv, (by (try dsimp only); intro i hi; by_cases e : i = k; subst e; exact sig_eqF c3; exact hv i (by omega)), trivial⟩)
  ·
   refine Zka ?_
   show DW _ _ _ _ _
   refine stp Lun ?_
   refine Zba ?_
   exact fin 0 (hr := by (try simp only [go_sem, ff]); all_goals (rw [sgd_same (by grind [sameB]) (by grind) fun i hi => hv i (by omega)]))
theorem bo46 : Zea Tryz.prog 46 = true := by kernel_rfl
theorem Zex (a : List Sgd) (b : List Sgd) (ha : Zu3 a) : PureCt Tryz.prog 46 [.list false (a.map Sgd.d), .list false (b.map Sgd.d)] (.b (sameList a b)) := by
 refine Zca Tryz.func46 rfl bo46 (by simp [go_sem, D.nr, nrs, nrr]) (by simp [Tryz.f46]) ?_
 unfold Tryz.f46
 simp only [Zfa]
 have ff := True.intro
 have ha1 := ha.1
 refine stp Lun ?_
 refine Zaa ?_
 refine stp Lun ?_
 refine cd (fun c1 => ?_) (fun c1 => ?_)
 ·
  refine stp Lun ?_
  refine Zba ?_
  exact fin 0 (hr := by (try simp only [go_sem, ff]); all_goals (rw [sgds_len (by grind)]))
 ·
  refine dw_skip ?_
  show DW _ _ _ _ _
  refine Zaa ?_
  refine stp Lun ?_
  refine Zda ?_
  refine lp (α := (Nat) × Nat) [0, 1] (fun ⟨k, nx⟩ => (k ≤ a.length) ∧ (∀ i, i < k → sameSgd a[i]! b[i]! = true) ∧ True) (fun ⟨k, nx⟩ => a.length - k) (fun ⟨k, nx⟩ => [(5, .i k)]) (fun ⟨k, nx⟩ => []) (fun ⟨k, nx⟩ => nx) (0, _) (hA := ⟨iv, (by first | (intro i hi; omega) | (dsimp only; intro i hi; omega)), trivial⟩) (round := ?_)
  rintro ⟨k, nx⟩ ⟨hk, hv, -⟩
  show DW _ _ _ _ { n := _, t := tab _, h := _, nx := _, e := _ }
  simp only [List.cons_append, List.nil_append]
  refine Zaa ?_
  refine stp Lun ?_
  refine cd (fun c2 => ?_) (fun c2 => ?_) (hp := rfl)
  ·
   have hk2 : k < a.length := by simpa using c2
   have hk3 : k < b.length := by grind
   have ff := And.intro (Zma hk2) (And.intro (Zma hk3) ff)
   refine dw_skip ?_
   show DW _ _ _ _ _
   refine Zaa ?_
   refine Zda ?_
   refine stp Lun ?_ (hok := by (try simp only [go_sem, ff]); all_goals (first | done | ((repeat' (with_reducible apply And.intro)) <;> first | exact Zqc _ _ (ha.2 k hk2) | (intros; exact Zqc _ _ (ha.2 k hk2)) | omega | skip)))
   refine cd (fun c3 => ?_) (fun c3 => ?_)
   ·
    refine stp Lun ?_
    refine Zba ?_
    exact fin 0 (hr := by (try simp only [go_sem, ff]); all_goals (rw [sgd_not3 (k := k) (by grind)]))
   ·
    refine dw_skip ?_
    show DW _ _ _ _ _
    refine rgn Lun ?_
    show ∃ _, _
    exact rnd (k + 1, _) (h1 := ⟨iv, (by (try dsimp only); intro i hi; by_cases e : i = k; subst e; grind; exact hv i (by omega)), trivial⟩)
  ·
   refine Zka ?_
   show DW _ _ _ _ _
   refine stp Lun ?_
   refine Zba ?_
   exact fin 0 (hr := by (try simp only [go_sem, ff]); all_goals (rw [Zg8 (by grind) fun i hi => hv i (by omega)]))
theorem bo17 : Zea Tryz.prog 17 = true := by kernel_rfl
theorem Zk8 (a : Zon) (b : Zon) (ha : Zu3 a.sets) : PureCt Tryz.prog 17 [.agg a.d, .agg b.d] (.b (sameZ a b)) := by
 refine Zca Tryz.func17 rfl bo17 (by simp [go_sem, D.nr, nrs, nrr]) (by simp [Tryz.f17]) ?_
 unfold Tryz.f17
 simp only [Zfa]
 have ff := True.intro
 refine stp Lun ?_
 refine stp Lun ?_ (hok := by (try simp only [go_sem, ff]); all_goals (first | done | ((repeat' (with_reducible apply And.intro)) <;> first | exact Zex _ _ ha | (intros; exact Zex _ _ ha) | skip)))
 refine Zba ?_
 exact fin 0 (hr := by (try simp only [go_sem, ff]); all_goals (simp [sameZ_eq]))
theorem bo66 : Zea Tryz.prog 66 = true := by kernel_rfl
theorem Zxj (z : Zon) (q : Qst) (hl : z.sets.length ≤ 1000000) : PureCt Tryz.prog 66 [.agg z.d, .agg q.d] (.i (atF z.sets q)) := by
 refine Zca Tryz.func66 rfl bo66 (by simp [go_sem, D.nr, nrs, nrr]) (by simp [Tryz.f66]) ?_
 unfold Tryz.f66
 simp only [Zfa]
 have ff := True.intro
 refine stp Lun ?_
 refine Zaa ?_
 refine stp Lun ?_
 refine Zda ?_
 refine lp (α := (Nat) × Nat) [2, 3] (fun ⟨k, nx⟩ => (k ≤ z.sets.length) ∧ (1 < nx) ∧ (atF z.sets q = Zsg z.sets q k) ∧ True) (fun ⟨k, nx⟩ => z.sets.length - k) (fun ⟨k, nx⟩ => [(5, .i k)]) (fun ⟨k, nx⟩ => [(0, ⟨24, [z.d]⟩), (1, ⟨58, [q.d]⟩)]) (fun ⟨k, nx⟩ => nx) (0, _) (hA := ⟨iv, iv, rfl, trivial⟩) (round := ?_)
 rintro ⟨k, nx⟩ ⟨hk, hx, hv, -⟩
 show DW _ _ _ _ { n := _, t := tab _, h := _, nx := _, e := _ }
 simp only [List.cons_append, List.nil_append]
 have n0 : 0 < nx := by omega
 have ff := And.intro @hx (And.intro @n0 ff)
 refine Zaa ?_
 refine stp Lun ?_
 refine cd (fun c1 => ?_) (fun c1 => ?_) (hp := rfl)
 ·
  have hk2 : k < z.sets.length := by simpa using c1
  have ff := And.intro (Zma hk2) ff
  refine dw_skip ?_
  show DW _ _ _ _ _
  refine Zaa ?_
  refine Zda ?_
  refine stp Lun ?_
  refine cd (fun c2 => ?_) (fun c2 => ?_)
  ·
   refine stp Lun ?_
   refine Zba ?_
   exact fin 0 (hr := by (try simp only [go_sem, ff]); all_goals (rw [hv, Zxc, if_pos hk2, if_pos (by cases q; simp_all [Sgd.q])]))
  ·
   refine dw_skip ?_
   show DW _ _ _ _ _
   refine rgn Lun ?_
   show ∃ _, _
   exact rnd (k + 1, _) (h1 := ⟨iv, iv, (by (try dsimp only); rw [hv, Zxc, if_pos hk2, if_neg (by intro e; rw [← e] at c2; simp [Sgd.q] at c2)]), trivial⟩)
 ·
  refine Zka ?_
  show DW _ _ _ _ _
  refine stp Lun ?_
  refine Zba ?_
  exact fin 0 (hr := by (try simp only [go_sem, ff]); all_goals (rw [hv, Zxc, if_neg (by omega)]))
theorem bo51 : Zea Tryz.prog 51 = true := by kernel_rfl
theorem Zlx (z : Zon) (hl : z.sets.length ≤ 1000000) : PureCt Tryz.prog 51 [.agg z.d] (.b (twoB z)) := by
 refine Zca Tryz.func51 rfl bo51 (by simp [go_sem, D.nr, nrs, nrr]) (by simp [Tryz.f51]) ?_
 unfold Tryz.f51
 simp only [Zfa]
 have ff := True.intro
 refine stp Lun ?_
 refine Zaa ?_
 refine stp Lun ?_ (hok := by (try simp only [go_sem, ff]); all_goals (first | done | ((repeat' (with_reducible apply And.intro)) <;> first | exact Zxj z ⟨z.apex, 4⟩ hl | (intros; exact Zxj z ⟨z.apex, 4⟩ hl) | exact Zxj z ⟨z.apex, 2⟩ hl | (intros; exact Zxj z ⟨z.apex, 2⟩ hl) | skip)))
 refine cd (fun c1 => ?_) (fun c1 => ?_)
 ·
  refine stp Lun ?_
  refine Zba ?_
  exact fin 0 (hr := by (try simp only [go_sem, ff]); all_goals (simp only [twoB]; grind))
 ·
  refine dw_skip ?_
  show DW _ _ _ _ _
  refine Zaa ?_
  refine stp Lun ?_
  refine Zda ?_
  refine lp (α := (Nat) × Nat) [1] (fun ⟨k, nx⟩ => (k ≤ z.sets.length) ∧ (Zya z.sets.length (Zvk z.apex z.sets) 0 = Zya z.sets.length (Zvk z.apex z.sets) k) ∧ (0 < nx) ∧ True) (fun ⟨k, nx⟩ => z.sets.length - k) (fun ⟨k, nx⟩ => [(3, .i k)]) (fun ⟨k, nx⟩ => [(0, ⟨24, [z.d]⟩)]) (fun ⟨k, nx⟩ => nx) (0, _) (hA := ⟨iv, rfl, iv, trivial⟩) (round := ?_)
  rintro ⟨k, nx⟩ ⟨hk, hv, hx, -⟩
  show DW _ _ _ _ { n := _, t := tab _, h := _, nx := _, e := _ }
  simp only [List.cons_append, List.nil_append]
  have ff := And.intro @hx ff
  refine Zaa ?_
  refine stp Lun ?_
  refine cd (fun c2 => ?_) (fun c2 => ?_) (hp := rfl)
  ·
   have hk2 : k < z.sets.length := by simpa using c2
   have ff := And.intro (Zma hk2) ff
   refine dw_skip ?_
   show DW _ _ _ _ _
   refine Zaa ?_
   refine Zda ?_
   refine stp Lun ?_ (hok := by (try simp only [go_sem, ff]); all_goals (first | done | ((repeat' (with_reducible apply And.intro)) <;> first | exact Zgt _ _ | (intros; exact Zgt _ _) | omega | skip)))
   refine cd (fun c3 => ?_) (fun c3 => ?_)
   ·
    refine stp Lun ?_
    refine Zba ?_
    exact fin 0 (hr := by (try simp only [go_sem, ff]); all_goals (have hF : (Zvk z.apex z.sets) k = false := (by simp only [Zvk]; grind); simp only [twoB]; rw [hv, Zpa hk2 hF]; try simp))
   ·
    refine dw_skip ?_
    show DW _ _ _ _ _
    refine rgn Lun ?_
    show ∃ _, _
    have h8 : (Zvk z.apex z.sets) k = true := by simp only [Zvk]; grind
    exact rnd (k + 1, _) (h1 := ⟨iv, (by first | (rw [hv, Zha hk2 h8]) | (dsimp only; rw [hv, Zha hk2 h8])), iv, trivial⟩)
  ·
   refine Zka ?_
   show DW _ _ _ _ _
   refine stp Lun ?_
   refine Zba ?_
   exact fin 0 (hr := by (try simp only [go_sem, ff]); all_goals (simp only [twoB]; rw [hv, Zua (by omega)]; grind))
theorem bo50 : Zea Tryz.prog 50 = true := by kernel_rfl
theorem Zmx (z : Zon) : PureCt Tryz.prog 50 [.agg z.d] (.b (oneB z)) := by
 refine Zca Tryz.func50 rfl bo50 (by simp [go_sem, D.nr, nrs, nrr]) (by simp [Tryz.f50]) ?_
 unfold Tryz.f50
 simp only [Zfa]
 have ff := True.intro
 refine stp Lun ?_
 refine Zaa ?_
 refine stp Lun ?_ (hok := by (try simp only [go_sem, ff]); all_goals (first | done | ((repeat' (with_reducible apply And.intro)) <;> first | exact Zra _ | (intros; exact Zra _) | exact (fun _ => Zkl _ (by have := Zeb (by assumption); omega)) | (intros; exact (fun _ => Zkl _ (by have := Zeb (by assumption); omega))) | exact (fun h => Zkl _ (by have := Zeb (by simpa using h); omega)) | (intros; exact (fun h => Zkl _ (by have := Zeb (by simpa using h); omega))) | skip)))
 refine cd (fun c1 => ?_) (fun c1 => ?_)
 ·
  refine stp Lun ?_
  refine Zba ?_
  exact fin 0 (hr := by (try simp only [go_sem, ff]); all_goals (simp only [oneB]; grind))
 ·
  refine dw_skip ?_
  show DW _ _ _ _ _
  refine Zaa ?_
  refine stp Lun ?_
  refine Zda ?_
  refine lp (α := (Nat) × Nat) [1] (fun ⟨k, nx⟩ => (k ≤ z.sets.length) ∧ (Zya z.sets.length (Zto z.apex z.sets) 0 = Zya z.sets.length (Zto z.apex z.sets) k) ∧ (0 < nx) ∧ True) (fun ⟨k, nx⟩ => z.sets.length - k) (fun ⟨k, nx⟩ => [(3, .i k)]) (fun ⟨k, nx⟩ => [(0, ⟨24, [z.d]⟩)]) (fun ⟨k, nx⟩ => nx) (0, _) (hA := ⟨iv, rfl, iv, trivial⟩) (round := ?_)
  rintro ⟨k, nx⟩ ⟨hk, hv, hx, -⟩
  show DW _ _ _ _ { n := _, t := tab _, h := _, nx := _, e := _ }
  simp only [List.cons_append, List.nil_append]
  have ff := And.intro @hx ff
  refine Zaa ?_
  refine stp Lun ?_
  refine cd (fun c2 => ?_) (fun c2 => ?_) (hp := rfl)
  ·
   have hk2 : k < z.sets.length := by simpa using c2
   have hk1 : k - 1 < z.sets.length := by omega
   have e1 : ((k:Int) - 1).toNat = k - 1 := by omega
   have ff := And.intro (Zma hk2) (And.intro (Zma hk1) (And.intro @e1 ff))
   refine dw_skip ?_
   show DW _ _ _ _ _
   refine Zaa ?_
   refine Zda ?_
   refine stp Lun ?_
   refine stp Lun ?_ (hok := by (try simp only [go_sem, ff]); all_goals (first | done | ((repeat' (with_reducible apply And.intro)) <;> first | exact Zft _ | (intros; exact Zft _) | exact Zfx _ _ | (intros; exact Zfx _ _) | exact (fun h => Zhe _ _ (set_nm (by simpa using h)) (by have := Zeb c1.1.1; omega)) | (intros; exact (fun h => Zhe _ _ (set_nm (by simpa using h)) (by have := Zeb c1.1.1; omega))) | omega | (intro h; simp only [Bool.and_eq_true, decide_eq_true_eq] at h; omega) | (intros; simp_all; done) | skip)))
   refine cd (fun c3 => ?_) (fun c3 => ?_)
   ·
    refine stp Lun ?_
    refine Zba ?_
    exact fin 0 (hr := by (try simp only [go_sem, ff]); all_goals (have hF : (Zto z.apex z.sets) k = false := (by simp only [Zto]; grind); simp only [oneB]; rw [hv, Zpa hk2 hF]; try simp))
   ·
    refine dw_skip ?_
    show DW _ _ _ _ _
    refine rgn Lun ?_
    show ∃ _, _
    have h8 : (Zto z.apex z.sets) k = true := by simp only [Zto]; grind
    exact rnd (k + 1, _) (h1 := ⟨iv, (by first | (rw [hv, Zha hk2 h8]) | (dsimp only; rw [hv, Zha hk2 h8])), iv, trivial⟩)
  ·
   refine Zka ?_
   show DW _ _ _ _ _
   refine stp Lun ?_
   refine Zba ?_
   exact fin 0 (hr := by (try simp only [go_sem, ff]); all_goals (simp only [oneB]; rw [hv, Zua (by omega)]; grind))
theorem bo11 : Zea Tryz.prog 11 = true := by kernel_rfl
theorem Znx (z : Zon) : PureCt Tryz.prog 11 [.agg z.d] (.b (fewZ z)) := by
 refine Zca Tryz.func11 rfl bo11 (by simp [go_sem, D.nr, nrs, nrr]) (by simp [Tryz.f11]) ?_
 unfold Tryz.f11
 simp only [Zfa]
 have ff := True.intro
 refine stp Lun ?_
 refine Zaa ?_
 refine stp Lun ?_
 refine Zda ?_
 refine lp (α := (Nat) × Nat) [1] (fun ⟨k, nx⟩ => (k ≤ z.sets.length) ∧ (Zya z.sets.length (fun i => decide (z.sets[i]!.set.data.length ≤ 20) && decide (z.sets[i]!.sigs.length ≤ 20)) 0 = Zya z.sets.length (fun i => decide (z.sets[i]!.set.data.length ≤ 20) && decide (z.sets[i]!.sigs.length ≤ 20)) k) ∧ (0 < nx) ∧ (k ≤ 101) ∧ True) (fun ⟨k, nx⟩ => z.sets.length - k) (fun ⟨k, nx⟩ => [(3, .i k)]) (fun ⟨k, nx⟩ => [(0, ⟨24, [z.d]⟩)]) (fun ⟨k, nx⟩ => nx) (0, _) (hA := ⟨iv, rfl, iv, iv, trivial⟩) (round := ?_)
 rintro ⟨k, nx⟩ ⟨hk, hv, hx, hk7, -⟩
 show DW _ _ _ _ { n := _, t := tab _, h := _, nx := _, e := _ }
 simp only [List.cons_append, List.nil_append]
 have ff := And.intro @hx ff
 refine Zaa ?_
 refine stp Lun ?_
 refine cd (fun c1 => ?_) (fun c1 => ?_)
 ·
  have hk2 : k < z.sets.length := by grind
  have hk9 : k ≤ 100 := by grind
  have ff := And.intro (Zma hk2) ff
  refine dw_skip ?_
  show DW _ _ _ _ _
  refine Zaa ?_
  refine Zda ?_
  refine stp Lun ?_
  refine cd (fun c2 => ?_) (fun c2 => ?_)
  ·
   refine stp Lun ?_
   refine Zba ?_
   exact fin 0 (hr := by (try simp only [go_sem, ff]); all_goals (have hF : (fun i => decide (z.sets[i]!.set.data.length ≤ 20) && decide (z.sets[i]!.sigs.length ≤ 20)) k = false := (by grind); simp only [fewZ]; rw [hv, Zpa hk2 hF]; try simp))
  ·
   refine dw_skip ?_
   show DW _ _ _ _ _
   refine rgn Lun ?_
   show ∃ _, _
   have h8 : (fun i => decide (z.sets[i]!.set.data.length ≤ 20) && decide (z.sets[i]!.sigs.length ≤ 20)) k = true := by grind
   exact rnd (k + 1, _) (h1 := ⟨iv, (by first | (rw [hv, Zha hk2 h8]) | (dsimp only; rw [hv, Zha hk2 h8])), iv, iv, trivial⟩)
 ·
  refine Zka ?_
  show DW _ _ _ _ _
  refine stp Lun ?_
  refine Zba ?_
  exact fin 0 (hr := by (try simp only [go_sem, ff]); all_goals (simp only [fewZ]; by_cases h100 : z.sets.length ≤ 100; rw [hv, Zua (by grind)]; simp; omega; simp [h100]; omega))
theorem bo52 : Zea Tryz.prog 52 = true := by kernel_rfl
theorem Zoq (z : Zon) (hl : z.sets.length ≤ 1000000) : PureCt Tryz.prog 52 [.agg z.d] (.b (threeB z)) := by
 refine Zca Tryz.func52 rfl bo52 (by simp [go_sem, D.nr, nrs, nrr]) (by simp [Tryz.f52]) ?_
 unfold Tryz.f52
 simp only [Zfa]
 have ff := True.intro
 refine stp Lun ?_
 refine stp Lun ?_
 refine Zaa ?_
 refine stp Lun ?_
 refine Zda ?_
 refine lp (α := (Nat) × (Str) × Nat) [1] (fun ⟨k, al, nx⟩ => (k ≤ z.sets.length) ∧ (0 < nx) ∧ (al = Zib z.sets k) ∧ (Zya z.sets.length (Zyb z.sets) 0 = Zya z.sets.length (Zyb z.sets) k) ∧ True) (fun ⟨k, al, nx⟩ => z.sets.length - k) (fun ⟨k, al, nx⟩ => [(3, .v (.string (bs al))), (4, .i k)]) (fun ⟨k, al, nx⟩ => [(0, ⟨24, [z.d]⟩)]) (fun ⟨k, al, nx⟩ => nx) (0, [], _) (hA := ⟨iv, iv, rfl, rfl, trivial⟩) (round := ?_)
 rintro ⟨k, al, nx⟩ ⟨hk, hx, ha, hv, -⟩
 show DW _ _ _ _ { n := _, t := tab _, h := _, nx := _, e := _ }
 simp only [List.cons_append, List.nil_append]
 have ff := And.intro @hx ff
 refine Zaa ?_
 refine stp Lun ?_
 refine cd (fun c1 => ?_) (fun c1 => ?_) (hp := rfl)
 ·
  have hk2 : k < z.sets.length := by simpa using c1
  have hk1 : k - 1 < z.sets.length := by omega
  have e1 : ((k:Int) - 1).toNat = k - 1 := by omega
  have ff := And.intro (Zma hk2) (And.intro (Zma hk1) (And.intro @e1 ff))
  refine dw_skip ?_
  show DW _ _ _ _ _
  refine Zaa ?_
  refine Zda ?_
  refine Zaa ?_
  refine stp Lun ?_
  refine cd (fun c2 => ?_) (fun c2 => ?_)
  ·
   refine rgn Lun ?_
   show DW _ _ _ _ _
   refine stp Lun ?_
   refine stp Lun ?_
   refine Zaa ?_
   refine stp Lun ?_
   refine cd (fun c3 => ?_) (fun c3 => ?_)
   ·
    refine rgn Lun ?_
    show DW _ _ _ _ _
    refine stp Lun ?_ (hok := by (try simp only [go_sem, ff]); all_goals (first | done | grind | (simp; grind)))
    refine cd (fun c4 => ?_) (fun c4 => ?_)
    ·
     refine stp Lun ?_
     refine Zba ?_
     exact fin 0 (hr := by (try simp only [go_sem, ff]); all_goals (have hF : (Zyb z.sets) k = false := (by simp only [Zyb, Zch, Zib]; grind); simp only [threeB]; rw [hv, Zpa hk2 hF]; try simp))
    ·
     refine dw_skip ?_
     show DW _ _ _ _ _
     refine rgn Lun ?_
     show ∃ _, _
     have hal : Zib z.sets (k + 1) = z.sets[k]!.set.name := by simp only [Zib]; grind
     have ff := And.intro hal ff
     have h8 : Zyb z.sets k = true := by simp only [Zyb, Zch, hal]; grind
     exact rnd (k + 1, Zib z.sets (k + 1), _) (h1 := ⟨iv, iv, rfl, (by first | (rw [hv, Zha hk2 h8]) | (dsimp only; rw [hv, Zha hk2 h8])), trivial⟩)
   ·
    refine dw_skip ?_
    show DW _ _ _ _ _
    refine stp Lun ?_ (hok := by (try simp only [go_sem, ff]); all_goals (first | done | grind | (simp; grind)))
    refine cd (fun c4 => ?_) (fun c4 => ?_)
    ·
     refine stp Lun ?_
     refine Zba ?_
     exact fin 0 (hr := by (try simp only [go_sem, ff]); all_goals (have hF : (Zyb z.sets) k = false := (by simp only [Zyb, Zch, Zib]; grind); simp only [threeB]; rw [hv, Zpa hk2 hF]; try simp))
    ·
     refine dw_skip ?_
     show DW _ _ _ _ _
     refine rgn Lun ?_
     show ∃ _, _
     have hal : Zib z.sets (k + 1) = z.sets[k]!.set.name := by simp only [Zib]; grind
     have ff := And.intro hal ff
     have h8 : Zyb z.sets k = true := by simp only [Zyb, Zch, hal]; grind
     exact rnd (k + 1, Zib z.sets (k + 1), _) (h1 := ⟨iv, iv, rfl, (by first | (rw [hv, Zha hk2 h8]) | (dsimp only; rw [hv, Zha hk2 h8])), trivial⟩)
  ·
   refine dw_skip ?_
   show DW _ _ _ _ _
   refine stp Lun ?_
   refine stp Lun ?_
   refine Zaa ?_
   refine stp Lun ?_
   refine cd (fun c3 => ?_) (fun c3 => ?_)
   ·
    refine rgn Lun ?_
    show DW _ _ _ _ _
    refine stp Lun ?_ (hok := by (try simp only [go_sem, ff]); all_goals (first | done | grind | (simp; grind)))
    refine cd (fun c4 => ?_) (fun c4 => ?_)
    ·
     refine stp Lun ?_
     refine Zba ?_
     exact fin 0 (hr := by (try simp only [go_sem, ff]); all_goals (have hF : (Zyb z.sets) k = false := (by simp only [Zyb, Zch, Zib]; grind); simp only [threeB]; rw [hv, Zpa hk2 hF]; try simp))
    ·
     refine dw_skip ?_
     show DW _ _ _ _ _
     refine rgn Lun ?_
     show ∃ _, _
     have hal : Zib z.sets (k + 1) = al := by simp only [Zib]; grind
     have ff := And.intro hal ff
     have h8 : Zyb z.sets k = true := by simp only [Zyb, Zch, hal]; grind
     exact rnd (k + 1, Zib z.sets (k + 1), _) (h1 := ⟨iv, iv, rfl, (by first | (rw [hv, Zha hk2 h8]) | (dsimp only; rw [hv, Zha hk2 h8])), trivial⟩)
   ·
    refine dw_skip ?_
    show DW _ _ _ _ _
    refine stp Lun ?_ (hok := by (try simp only [go_sem, ff]); all_goals (first | done | grind | (simp; grind)))
    refine cd (fun c4 => ?_) (fun c4 => ?_)
    ·
     refine stp Lun ?_
     refine Zba ?_
     exact fin 0 (hr := by (try simp only [go_sem, ff]); all_goals (have hF : (Zyb z.sets) k = false := (by simp only [Zyb, Zch, Zib]; grind); simp only [threeB]; rw [hv, Zpa hk2 hF]; try simp))
    ·
     refine dw_skip ?_
     show DW _ _ _ _ _
     refine rgn Lun ?_
     show ∃ _, _
     have hal : Zib z.sets (k + 1) = al := by simp only [Zib]; grind
     have ff := And.intro hal ff
     have h8 : Zyb z.sets k = true := by simp only [Zyb, Zch, hal]; grind
     exact rnd (k + 1, Zib z.sets (k + 1), _) (h1 := ⟨iv, iv, rfl, (by first | (rw [hv, Zha hk2 h8]) | (dsimp only; rw [hv, Zha hk2 h8])), trivial⟩)
 ·
  refine Zka ?_
  show DW _ _ _ _ _
  refine stp Lun ?_
  refine Zba ?_
  exact fin 0 (hr := by (try simp only [go_sem, ff]); all_goals (simp only [threeB]; rw [hv, Zua (by omega)]))
set_option maxRecDepth 10000
@[go_sem] theorem cutsR_0 {z : Zon} : Zvh z 0 = [] := rfl
@[go_sem] theorem highTo_0 {cs : List Str} : Zsa cs 0 = [] := rfl
@[go_sem] theorem sR_snoc {l : List Str} {x : Str} : (l ++ [x]).map sR = l.map sR ++ [[.v (.string (bs x))]] := by simp [sR]
theorem Zwr {z : Zon} {k : Nat} (h : z.sets[k]!.set.ty = 2 ∧ ¬ z.sets[k]!.set.name = z.apex) : Zvh z (k + 1) = Zvh z k ++ [z.sets[k]!.set.name] := if_pos h
theorem Zdw {z : Zon} {k : Nat} (h : ¬ (z.sets[k]!.set.ty = 2 ∧ ¬ z.sets[k]!.set.name = z.apex)) : Zvh z (k + 1) = Zvh z k := if_neg h
theorem Zxr (z : Zon) : ∀ k, (Zvh z k).length ≤ k
 | 0 => Nat.le_refl _
 | k + 1 => by
  have := Zxr z k
  by_cases h : z.sets[k]!.set.ty = 2 ∧ ¬ z.sets[k]!.set.name = z.apex
  ·
   rw [Zwr h, List.length_append]; simp; omega
  ·
   rw [Zdw h]; omega
theorem Zpp {z : Zon} (hn : Zuo z) : ∀ k, k ≤ z.sets.length → ∀ x ∈ Zvh z k, x.length ≤ 1000
 | 0, _, x, hx => by cases hx
 | k + 1, h, x, hx => by
  by_cases h2 : z.sets[k]!.set.ty = 2 ∧ ¬ z.sets[k]!.set.name = z.apex
  ·
   rw [Zwr h2, List.mem_append, List.mem_singleton] at hx
   rcases hx with hx | hx
   ·
    exact Zpp hn k (by omega) x hx
   ·
    subst hx; exact hn.2 k (by omega)
  ·
   rw [Zdw h2] at hx; exact Zpp hn k (by omega) x hx
theorem Zez {z : Zon} (hn : Zuo z) : (cutsF z).length ≤ 1000000 := Nat.le_trans (Zxr z _) hn.1
theorem Zqp {z : Zon} (hn : Zuo z) {k : Nat} (h : k < (cutsF z).length) : (cutsF z)[k]!.length ≤ 1000 := by
 refine Zpp hn _ (Nat.le_refl _) _ ?_
 show (cutsF z)[k]! ∈ cutsF z
 rw [getElem!_pos (cutsF z) k h]; exact List.getElem_mem h
theorem Zhn {cs : List Str} {k : Nat} (h : Zsa cs k = [] ∨ inB cs[k]! (Zsa cs k)[(Zsa cs k).length - 1]! = false) : Zsa cs (k + 1) = Zsa cs k ++ [cs[k]!] := if_pos h
theorem Zsy {cs : List Str} {k : Nat} (h : ¬ (Zsa cs k = [] ∨ inB cs[k]! (Zsa cs k)[(Zsa cs k).length - 1]! = false)) : Zsa cs (k + 1) = Zsa cs k := if_neg h
theorem Zdk (cs : List Str) : ∀ k, k ≤ cs.length → (Zsa cs k).length ≤ k ∧ ∀ x ∈ Zsa cs k, x ∈ cs
 | 0, _ => ⟨Nat.le_refl _, fun x hx => by cases hx⟩
 | k + 1, h => by
  have ih := Zdk cs k (by omega)
  by_cases h2 : Zsa cs k = [] ∨ inB cs[k]! (Zsa cs k)[(Zsa cs k).length - 1]! = false
  ·
   rw [Zhn h2]
   refine ⟨by rw [List.length_append]; simp; omega, fun x hx => ?_⟩
   rcases List.mem_append.1 hx with hx | hx
   ·
    exact ih.2 x hx
   ·
    rw [List.mem_singleton] at hx; subst hx; rw [getElem!_pos _ _ (by omega)]; exact List.getElem_mem _
  ·
   rw [Zsy h2]; exact ⟨by omega, ih.2⟩
theorem Zlj {z : Zon} (hn : Zuo z) {k i : Nat} (hk : k ≤ (cutsF z).length) (h : i < (Zsa (cutsF z) k).length) : (Zsa (cutsF z) k)[i]!.length ≤ 1000 := by
 refine Zpp hn _ (Nat.le_refl _) _ ((Zdk _ k hk).2 _ ?_)
 rw [getElem!_pos (Zsa (cutsF z) k) i h]; exact List.getElem_mem h
theorem Yja {z : Zon} (hn : Zuo z) : (highF z).length ≤ 1000000 := Nat.le_trans (Zdk _ _ (Nat.le_refl _)).1 (Zez hn)
theorem Zwd {z : Zon} (hn : Zuo z) {i : Nat} (h : i < (highF z).length) : (highF z)[i]!.length ≤ 1000 := Zlj hn (Nat.le_refl _) h
theorem bo153 : Zea Tryz.prog 153 = true := by kernel_rfl
theorem Zh5 (z : Zon) (hl : z.sets.length ≤ 1000000) : PureCt Tryz.prog 153 [.agg z.d] (.list false ((cutsF z).map sR)) := by
 refine Zca Tryz.func153 rfl bo153 (by simp [go_sem, D.nr, nrs, nrr]) (by simp [Tryz.f153]) ?_
 unfold Tryz.f153
 simp only [Zfa]
 have ff := True.intro
 refine stp Lun ?_
 refine stp Lun ?_
 refine Zaa ?_
 refine dw_own 3 9 (by simp only [go_sem, ff]) (by simp only [go_sem, ff]) ?_
 refine stp Lun ?_
 refine Zda ?_
 refine lp (α := (Nat) × (Nat) × Nat) [1] (fun ⟨k, r, nx⟩ => (k ≤ z.sets.length) ∧ (r < nx) ∧ (0 < r) ∧ True) (fun ⟨k, r, nx⟩ => z.sets.length - k) (fun ⟨k, r, nx⟩ => [(3, .mrow r 0 (Zvh z k).length), (4, .i k)]) (fun ⟨k, r, nx⟩ => [(0, ⟨24, [z.d]⟩), (r, ⟨9, (Zvh z k).map sR⟩)]) (fun ⟨k, r, nx⟩ => nx) (0, 3, _) (hA := ⟨iv, iv, iv, trivial⟩) (round := ?_)
 rintro ⟨k, r, nx⟩ ⟨hk, hr, hr0, -⟩
 show DW _ _ _ _ { n := _, t := tab _, h := _, nx := _, e := _ }
 simp only [List.cons_append, List.nil_append]
 have hcl := Zxr z k
 have n0 : 0 < nx := by omega
 have z0_r : (0 = r) = False := eq_false (by omega)
 have yr_0 : (r = 0) = False := eq_false (by omega)
 have ff := And.intro @hr (And.intro @n0 (And.intro @z0_r (And.intro @yr_0 ff)))
 refine Zaa ?_
 refine stp Lun ?_
 refine cd (fun c1 => ?_) (fun c1 => ?_) (hp := rfl)
 ·
  have hk2 : k < z.sets.length := by simpa using c1
  have ff := And.intro (Zma hk2) ff
  refine dw_skip ?_
  show DW _ _ _ _ _
  refine Zaa ?_
  refine Zda ?_
  refine stp Lun ?_
  refine stp Lun ?_
  refine cd (fun c2 => ?_) (fun c2 => ?_)
  ·
   refine rgn Lun ?_
   show DW _ _ _ _ _
   refine rgn Lun ?_
   show ∃ _, _
   have ff := And.intro (Zwr (z := z) (k := k) (by grind)) ff
   exact rnd (k + 1, (nx + 27), _) (h1 := ⟨iv, iv, iv, trivial⟩)
  ·
   refine dw_skip ?_
   show DW _ _ _ _ _
   refine rgn Lun ?_
   show ∃ _, _
   have ff := And.intro (Zdw (z := z) (k := k) (by grind)) ff
   exact rnd (k + 1, r, _) (h1 := ⟨iv, iv, iv, trivial⟩)
 ·
  refine Zka ?_
  show DW _ _ _ _ _
  have e9 : k = z.sets.length := by omega
  subst e9
  refine stp Lun ?_
  refine Zba ?_
  exact fin 1 (hr := by (try simp only [go_sem, ff]); all_goals (rfl))
theorem bo134 : Zea Tryz.prog 134 = true := by kernel_rfl
theorem Zg5 (z : Zon) (hn : Zuo z) : PureCt Tryz.prog 134 [.agg z.d] (.list false ((highF z).map sR)) := by
 refine Zca Tryz.func134 rfl bo134 (by simp [go_sem, D.nr, nrs, nrr]) (by simp [Tryz.f134]) ?_
 unfold Tryz.f134
 simp only [Zfa]
 have ff := True.intro
 have hl := hn.1
 have hcl := Zez hn
 refine stp Lun ?_
 refine stp Lun ?_ (hok := by (try simp only [go_sem, ff]); all_goals (exact Zh5 z hl))
 refine stp Lun ?_
 refine Zaa ?_
 refine dw_own 4 9 (by simp only [go_sem, ff]) (by simp only [go_sem, ff]) ?_
 refine stp Lun ?_
 refine Zda ?_
 refine lp (α := (Nat) × (Nat) × Nat) [3] (fun ⟨k, r, nx⟩ => (k ≤ (cutsF z).length) ∧ (r < nx) ∧ True) (fun ⟨k, r, nx⟩ => (cutsF z).length - k) (fun ⟨k, r, nx⟩ => [(4, .mrow r 0 (Zsa (cutsF z) k).length), (5, .i k)]) (fun ⟨k, r, nx⟩ => [(r, ⟨9, (Zsa (cutsF z) k).map sR⟩)]) (fun ⟨k, r, nx⟩ => nx) (0, 6, _) (hA := ⟨iv, iv, trivial⟩) (round := ?_)
 rintro ⟨k, r, nx⟩ ⟨hk, hr, -⟩
 show DW _ _ _ _ { n := _, t := tab _, h := _, nx := _, e := _ }
 simp only [List.cons_append, List.nil_append]
 have hhl := (Zdk (cutsF z) k hk).1
 have ff := And.intro @hr ff
 refine Zaa ?_
 refine stp Lun ?_
 refine cd (fun c1 => ?_) (fun c1 => ?_) (hp := rfl)
 ·
  have hk2 : k < (cutsF z).length := by simpa using c1
  have e1 : (((Zsa (cutsF z) k).length : Int) - 1).toNat = (Zsa (cutsF z) k).length - 1 := by omega
  have ff := And.intro (Zad hk2) (And.intro @e1 ff)
  refine dw_skip ?_
  show DW _ _ _ _ _
  refine Zaa ?_
  refine Zda ?_
  by_cases h0 : (Zsa (cutsF z) k).length = 0
  ·
   have hnil := List.eq_nil_of_length_eq_zero h0
   have ff := And.intro @h0 (And.intro @hnil ff)
   refine stp Lun ?_ (hok := by (try simp only [go_sem, ff]); all_goals (first | done | ((repeat' (with_reducible apply And.intro)) <;> first | exact (fun _ => Zhe _ _ (Zqp hn hk2) (Zlj hn hk h9)) | (intros; exact (fun _ => Zhe _ _ (Zqp hn hk2) (Zlj hn hk h9))) | omega | (intros; omega) | (intro h; simp at h; done) | skip)))
   refine cd (fun c2 => ?_) (fun c2 => ?_) (hq := rfl)
   ·
    refine rgn Lun ?_
    show DW _ _ _ _ _
    refine rgn Lun ?_
    show ∃ _, _
    have ff := And.intro (Zhn (cs := cutsF z) (k := k) (by first | exact .inl (List.eq_nil_of_length_eq_zero h0) | grind)) ff
    exact rnd (k + 1, (nx + 27), _) (h1 := ⟨iv, iv, trivial⟩)
   ·
    grind
  ·
   have h9 : (Zsa (cutsF z) k).length - 1 < (Zsa (cutsF z) k).length := by omega
   have ff := And.intro (Zad h9) ff
   refine stp Lun ?_ (hok := by (try simp only [go_sem, ff]); all_goals (first | done | ((repeat' (with_reducible apply And.intro)) <;> first | exact (fun _ => Zhe _ _ (Zqp hn hk2) (Zlj hn hk h9)) | (intros; exact (fun _ => Zhe _ _ (Zqp hn hk2) (Zlj hn hk h9))) | omega | (intros; omega) | (intro h; simp at h; done) | skip)))
   refine cd (fun c2 => ?_) (fun c2 => ?_)
   ·
    refine rgn Lun ?_
    show DW _ _ _ _ _
    refine rgn Lun ?_
    show ∃ _, _
    have ff := And.intro (Zhn (cs := cutsF z) (k := k) (by first | exact .inl (List.eq_nil_of_length_eq_zero h0) | grind)) ff
    exact rnd (k + 1, (nx + 27), _) (h1 := ⟨iv, iv, trivial⟩)
   ·
    refine dw_skip ?_
    show DW _ _ _ _ _
    refine rgn Lun ?_
    show ∃ _, _
    have ff := And.intro (Zsy (cs := cutsF z) (k := k) (by grind)) ff
    exact rnd (k + 1, r, _) (h1 := ⟨iv, iv, trivial⟩)
 ·
  refine Zka ?_
  show DW _ _ _ _ _
  have e9 : k = (cutsF z).length := by omega
  subst e9
  refine stp Lun ?_
  refine Zba ?_
  exact fin 1 (hr := by (try simp only [go_sem, ff]); all_goals (rfl))
theorem bo91 : Zea Tryz.prog 91 = true := by kernel_rfl
theorem Zox (z : Zon) (hn : Zuo z) : PureCt Tryz.prog 91 [.agg z.d] (.list false ((behR z).map sR)) := by
 refine Zca Tryz.func91 rfl bo91 (by simp [go_sem, D.nr, nrs, nrr]) (by simp [Tryz.f91]) ?_
 unfold Tryz.f91
 simp only [Zfa]
 have ff := True.intro
 have hl := hn.1
 have hcl := Yja hn
 refine stp Lun ?_
 refine stp Lun ?_ (hok := by (try simp only [go_sem, ff]); all_goals (exact Zg5 z hn))
 refine stp Lun ?_
 refine stp Lun ?_
 refine Zaa ?_
 refine stp Lun ?_
 refine Zda ?_
 refine lp (α := (Nat) × (Nat) × (Nat) × Nat) [1, 3] (fun ⟨k, j, rb, nx⟩ => (k ≤ z.sets.length) ∧ (rb < nx) ∧ (0 < rb) ∧ (j = Zqe (highF z) z.sets k) ∧ (j ≤ (highF z).length) ∧ True) (fun ⟨k, j, rb, nx⟩ => z.sets.length - k) (fun ⟨k, j, rb, nx⟩ => [(4, .mrow rb 0 z.sets.length), (5, .i j), (6, .i k)]) (fun ⟨k, j, rb, nx⟩ => [(0, ⟨24, [z.d]⟩), (rb, ⟨9, (Zyi (highF z) z.sets z.sets.length (k)).map sR⟩)]) (fun ⟨k, j, rb, nx⟩ => nx) (0, 0, 8, _) (hA := ⟨iv, iv, iv, rfl, iv, trivial⟩) (round := ?_)
 rintro ⟨k, j, rb, nx⟩ ⟨hk, hx, hb0, hj, hj2, -⟩
 show DW _ _ _ _ { n := _, t := tab _, h := _, nx := _, e := _ }
 simp only [List.cons_append, List.nil_append]
 have n0 : 0 < nx := by omega
 have z0_rb : (0 = rb) = False := eq_false (by omega)
 have yrb_0 : (rb = 0) = False := eq_false (by omega)
 have ff := And.intro @hx (And.intro @n0 (And.intro @z0_rb (And.intro @yrb_0 ff)))
 refine Zaa ?_
 refine stp Lun ?_
 refine cd (fun c1 => ?_) (fun c1 => ?_) (hp := rfl)
 ·
  have hk2 : k < z.sets.length := by simpa using c1
  have ff := And.intro (Zma hk2) (And.intro (Zgq (hs := highF z) (l := z.sets) hk) (And.intro (Zad (l := Zyi (highF z) z.sets z.sets.length k) (n := k) (by rw [Zgq hk]; exact hk2)) ff))
  refine dw_skip ?_
  show DW _ _ _ _ _
  refine Zaa ?_
  refine Zda ?_
  refine stp Lun ?_
  refine Zaa ?_
  refine Zda ?_
  refine lp (α := (Nat) × Nat) [1, 3, 4, 6, 7] (fun ⟨i, nx⟩ => (i ≤ (highF z).length) ∧ (rb < nx) ∧ (adv (highF z) z.sets[k]!.set.name j = adv (highF z) z.sets[k]!.set.name i) ∧ True) (fun ⟨i, nx⟩ => (highF z).length - i) (fun ⟨i, nx⟩ => [(5, .i i)]) (fun ⟨i, nx⟩ => [(0, ⟨24, [z.d]⟩), (rb, ⟨9, (Zyi (highF z) z.sets z.sets.length (k)).map sR⟩)]) (fun ⟨i, nx⟩ => nx) (j, _) (hA := ⟨iv, iv, rfl, trivial⟩) (round := ?_)
  rintro ⟨i, nx⟩ ⟨hi, hx, hv2, -⟩
  show DW _ _ _ _ { n := _, t := tab _, h := _, nx := _, e := _ }
  simp only [List.cons_append, List.nil_append]
  have n0 : 0 < nx := by omega
  have ff := And.intro @hx (And.intro @n0 (And.intro @z0_rb (And.intro @yrb_0 ff)))
  refine Zaa ?_
  by_cases hk4 : i < (highF z).length
  ·
   have ff := And.intro (Zad hk4) ff
   refine stp Lun ?_ (hok := by (try simp only [go_sem, ff]); all_goals (first | done | ((repeat' (with_reducible apply And.intro)) <;> first | exact (fun _ => Zdj _ _ (Zwd hn hk4) (hn.2 _ hk2)) | (intros; exact (fun _ => Zdj _ _ (Zwd hn hk4) (hn.2 _ hk2))) | omega | (intros; omega) | skip)))
   refine cd (fun c2 => ?_) (fun c2 => ?_) (hq := rfl)
   ·
    refine dw_skip ?_
    show DW _ _ _ _ _
    refine Zda ?_
    refine rgn Lun ?_
    show ∃ _, _
    exact rnd (i + 1, _) (h1 := ⟨iv, iv, (by first | (rw [hv2, Zoo]; grind) | (dsimp only; rw [hv2, Zoo]; grind)), trivial⟩)
   ·
    have hav : Zqe (highF z) z.sets (k + 1) = i := by show adv _ _ _ = _; rw [← hj, hv2, Zoo]; grind
    refine Zka ?_
    show DW _ _ _ _ _
    by_cases hi0 : i = 0
    ·
     have ff := And.intro @hi0 ff
     refine stp Lun ?_ (hok := by (try simp only [go_sem, ff]); all_goals (first | done | ((repeat' (with_reducible apply And.intro)) <;> first | exact (fun _ => Zhe _ _ (hn.2 _ hk2) (Zwd hn hi9)) | (intros; exact (fun _ => Zhe _ _ (hn.2 _ hk2) (Zwd hn hi9))) | omega | (intros; omega) | (intro h; simp at h; done) | skip)))
     refine cd (fun c3 => ?_) (fun c3 => ?_)
     ·
      refine rgn Lun ?_
      show DW _ _ _ _ _
      refine rgn Lun ?_
      show ∃ _, _
      have hcc : Zpf (highF z) z.sets[k]!.set.name (Zqe (highF z) z.sets (k + 1)) = (highF z)[i - 1]! := by rw [hav]; simp only [Zpf]; grind
      have ff := And.intro (Zuj hk2 hcc) ff
      exact rnd (k + 1, i, rb, _) (h1 := ⟨iv, iv, iv, (by first | (exact hav.symm) | (dsimp only; exact hav.symm)), iv, trivial⟩)
     ·
      refine dw_skip ?_
      show DW _ _ _ _ _
      refine rgn Lun ?_
      show ∃ _, _
      have hcc : Zpf (highF z) z.sets[k]!.set.name (Zqe (highF z) z.sets (k + 1)) = [] := by rw [hav]; simp only [Zpf]; grind
      have ff := And.intro (Zvj hk2 hcc) ff
      exact rnd (k + 1, i, rb, _) (h1 := ⟨iv, iv, iv, (by first | (exact hav.symm) | (dsimp only; exact hav.symm)), iv, trivial⟩)
    ·
     have hi9 : i - 1 < (highF z).length := by omega
     have e1 : ((i:Int) - 1).toNat = i - 1 := by omega
     have ff := And.intro @e1 (And.intro (Zad hi9) ff)
     refine stp Lun ?_ (hok := by (try simp only [go_sem, ff]); all_goals (first | done | ((repeat' (with_reducible apply And.intro)) <;> first | exact (fun _ => Zhe _ _ (hn.2 _ hk2) (Zwd hn hi9)) | (intros; exact (fun _ => Zhe _ _ (hn.2 _ hk2) (Zwd hn hi9))) | omega | (intros; omega) | (intro h; simp at h; done) | skip)))
     refine cd (fun c3 => ?_) (fun c3 => ?_)
     ·
      refine rgn Lun ?_
      show DW _ _ _ _ _
      refine rgn Lun ?_
      show ∃ _, _
      have hcc : Zpf (highF z) z.sets[k]!.set.name (Zqe (highF z) z.sets (k + 1)) = (highF z)[i - 1]! := by rw [hav]; simp only [Zpf]; grind
      have ff := And.intro (Zuj hk2 hcc) ff
      exact rnd (k + 1, i, rb, _) (h1 := ⟨iv, iv, iv, (by first | (exact hav.symm) | (dsimp only; exact hav.symm)), iv, trivial⟩)
     ·
      refine dw_skip ?_
      show DW _ _ _ _ _
      refine rgn Lun ?_
      show ∃ _, _
      have hcc : Zpf (highF z) z.sets[k]!.set.name (Zqe (highF z) z.sets (k + 1)) = [] := by rw [hav]; simp only [Zpf]; grind
      have ff := And.intro (Zvj hk2 hcc) ff
      exact rnd (k + 1, i, rb, _) (h1 := ⟨iv, iv, iv, (by first | (exact hav.symm) | (dsimp only; exact hav.symm)), iv, trivial⟩)
  ·
   have e9 : decide ((i : Int) < ((highF z).length : Int)) = false := decide_eq_false (by omega)
   have ff := And.intro @e9 ff
   refine stp Lun ?_ (hok := by (try simp only [go_sem, ff]); all_goals (first | done | ((repeat' (with_reducible apply And.intro)) <;> first | exact (fun _ => Zdj _ _ (Zwd hn hk4) (hn.2 _ hk2)) | (intros; exact (fun _ => Zdj _ _ (Zwd hn hk4) (hn.2 _ hk2))) | omega | (intros; omega) | skip)))
   refine cd (fun c2 => ?_) (fun c2 => ?_) (hp := rfl) (hq := rfl)
   ·
    grind
   ·
    have hav : Zqe (highF z) z.sets (k + 1) = i := by show adv _ _ _ = _; rw [← hj, hv2, Zoo]; grind
    refine Zka ?_
    show DW _ _ _ _ _
    by_cases hi0 : i = 0
    ·
     have ff := And.intro @hi0 ff
     refine stp Lun ?_ (hok := by (try simp only [go_sem, ff]); all_goals (first | done | ((repeat' (with_reducible apply And.intro)) <;> first | exact (fun _ => Zhe _ _ (hn.2 _ hk2) (Zwd hn hi9)) | (intros; exact (fun _ => Zhe _ _ (hn.2 _ hk2) (Zwd hn hi9))) | omega | (intros; omega) | (intro h; simp at h; done) | skip)))
     refine cd (fun c3 => ?_) (fun c3 => ?_)
     ·
      refine rgn Lun ?_
      show DW _ _ _ _ _
      refine rgn Lun ?_
      show ∃ _, _
      have hcc : Zpf (highF z) z.sets[k]!.set.name (Zqe (highF z) z.sets (k + 1)) = (highF z)[i - 1]! := by rw [hav]; simp only [Zpf]; grind
      have ff := And.intro (Zuj hk2 hcc) ff
      exact rnd (k + 1, i, rb, _) (h1 := ⟨iv, iv, iv, (by first | (exact hav.symm) | (dsimp only; exact hav.symm)), iv, trivial⟩)
     ·
      refine dw_skip ?_
      show DW _ _ _ _ _
      refine rgn Lun ?_
      show ∃ _, _
      have hcc : Zpf (highF z) z.sets[k]!.set.name (Zqe (highF z) z.sets (k + 1)) = [] := by rw [hav]; simp only [Zpf]; grind
      have ff := And.intro (Zvj hk2 hcc) ff
      exact rnd (k + 1, i, rb, _) (h1 := ⟨iv, iv, iv, (by first | (exact hav.symm) | (dsimp only; exact hav.symm)), iv, trivial⟩)
    ·
     have hi9 : i - 1 < (highF z).length := by omega
     have e1 : ((i:Int) - 1).toNat = i - 1 := by omega
     have ff := And.intro @e1 (And.intro (Zad hi9) ff)
     refine stp Lun ?_ (hok := by (try simp only [go_sem, ff]); all_goals (first | done | ((repeat' (with_reducible apply And.intro)) <;> first | exact (fun _ => Zhe _ _ (hn.2 _ hk2) (Zwd hn hi9)) | (intros; exact (fun _ => Zhe _ _ (hn.2 _ hk2) (Zwd hn hi9))) | omega | (intros; omega) | (intro h; simp at h; done) | skip)))
     refine cd (fun c3 => ?_) (fun c3 => ?_)
     ·
      refine rgn Lun ?_
      show DW _ _ _ _ _
      refine rgn Lun ?_
      show ∃ _, _
      have hcc : Zpf (highF z) z.sets[k]!.set.name (Zqe (highF z) z.sets (k + 1)) = (highF z)[i - 1]! := by rw [hav]; simp only [Zpf]; grind
      have ff := And.intro (Zuj hk2 hcc) ff
      exact rnd (k + 1, i, rb, _) (h1 := ⟨iv, iv, iv, (by first | (exact hav.symm) | (dsimp only; exact hav.symm)), iv, trivial⟩)
     ·
      refine dw_skip ?_
      show DW _ _ _ _ _
      refine rgn Lun ?_
      show ∃ _, _
      have hcc : Zpf (highF z) z.sets[k]!.set.name (Zqe (highF z) z.sets (k + 1)) = [] := by rw [hav]; simp only [Zpf]; grind
      have ff := And.intro (Zvj hk2 hcc) ff
      exact rnd (k + 1, i, rb, _) (h1 := ⟨iv, iv, iv, (by first | (exact hav.symm) | (dsimp only; exact hav.symm)), iv, trivial⟩)
 ·
  refine Zka ?_
  show DW _ _ _ _ _
  have e9 : k = z.sets.length := by omega
  subst e9
  have tk : List.take z.sets.length ((Zyi (highF z) z.sets z.sets.length z.sets.length).map sR) = (behR z).map sR := by rw [rowsR_n]; exact List.take_of_length_le (by rw [List.length_map, Zkd]; exact Nat.le_refl _)
  have ff := And.intro @tk (And.intro (Zgq (hs := highF z) (l := z.sets) (Nat.le_refl z.sets.length)) ff)
  refine stp Lun ?_
  refine Zba ?_
  exact fin 1 (hr := by (try simp only [go_sem, ff]); all_goals (rfl)) (hk := by (try simp only [go_sem, ff]); all_goals (exact Zkd _ _ _))
set_option maxRecDepth 10000
theorem Zgw (z : Zon) : (behR z).length = z.sets.length := Zkd _ _ _
theorem Zh3 (z : Zon) : (ownF z).length = z.sets.length := Zeg _ _
theorem bo53 : Zea Tryz.prog 53 = true := by kernel_rfl
theorem Zit (z : Zon) (hn : Zuo z) : PureCt Tryz.prog 53 [.agg z.d] (.b (fourB z)) := by
 refine Zca Tryz.func53 rfl bo53 (by simp [go_sem, D.nr, nrs, nrr]) (by simp [Tryz.f53]) ?_
 unfold Tryz.f53
 simp only [Zfa]
 have ff := True.intro
 have hl := hn.1
 have hbl := Zgw z
 refine stp Lun ?_
 refine stp Lun ?_ (hok := by (try simp only [go_sem, ff]); all_goals (exact Zox z hn))
 refine Zaa ?_
 refine stp Lun ?_
 refine Zda ?_
 refine lp (α := (Nat) × Nat) [1, 3] (fun ⟨k, nx⟩ => (k ≤ z.sets.length) ∧ (Zya z.sets.length (cutAt ⟨z, behR z⟩) 0 = Zya z.sets.length (cutAt ⟨z, behR z⟩) k) ∧ (0 < nx) ∧ True) (fun ⟨k, nx⟩ => z.sets.length - k) (fun ⟨k, nx⟩ => [(4, .i k)]) (fun ⟨k, nx⟩ => [(0, ⟨24, [z.d]⟩)]) (fun ⟨k, nx⟩ => nx) (0, _) (hA := ⟨iv, rfl, iv, trivial⟩) (round := ?_)
 rintro ⟨k, nx⟩ ⟨hk, hv, hx, -⟩
 show DW _ _ _ _ { n := _, t := tab _, h := _, nx := _, e := _ }
 simp only [List.cons_append, List.nil_append]
 have ff := And.intro @hx ff
 refine Zaa ?_
 refine stp Lun ?_
 refine cd (fun c1 => ?_) (fun c1 => ?_) (hp := rfl)
 ·
  have hk2 : k < z.sets.length := by simpa using c1
  have hk3 : k < (behR z).length := by omega
  have ff := And.intro (Zma hk2) (And.intro (Zad hk3) ff)
  refine dw_skip ?_
  show DW _ _ _ _ _
  refine Zaa ?_
  refine Zda ?_
  refine stp Lun ?_
  refine stp Lun ?_
  refine Zaa ?_
  refine stp Lun ?_
  refine cd (fun c2 => ?_) (fun c2 => ?_)
  ·
   refine stp Lun ?_
   refine Zba ?_
   exact fin 0 (hr := by (try simp only [go_sem, ff]); all_goals (have hF : (cutAt ⟨z, behR z⟩) k = false := (by simp only [cutAt]; grind); simp only [fourB, cutB]; rw [hv, Zpa hk2 hF]; try simp))
  ·
   refine dw_skip ?_
   show DW _ _ _ _ _
   refine Zaa ?_
   refine stp Lun ?_
   refine cd (fun c3 => ?_) (fun c3 => ?_)
   ·
    refine stp Lun ?_
    refine Zba ?_
    exact fin 0 (hr := by (try simp only [go_sem, ff]); all_goals (have hF : (cutAt ⟨z, behR z⟩) k = false := (by simp only [cutAt]; grind); simp only [fourB, cutB]; rw [hv, Zpa hk2 hF]; try simp))
   ·
    refine dw_skip ?_
    show DW _ _ _ _ _
    refine stp Lun ?_
    refine cd (fun c4 => ?_) (fun c4 => ?_)
    ·
     refine stp Lun ?_
     refine Zba ?_
     exact fin 0 (hr := by (try simp only [go_sem, ff]); all_goals (have hF : (cutAt ⟨z, behR z⟩) k = false := (by simp only [cutAt]; grind); simp only [fourB, cutB]; rw [hv, Zpa hk2 hF]; try simp))
    ·
     refine dw_skip ?_
     show DW _ _ _ _ _
     refine rgn Lun ?_
     show ∃ _, _
     have h8 : (cutAt ⟨z, behR z⟩) k = true := by simp only [cutAt]; grind
     exact rnd (k + 1, _) (h1 := ⟨iv, (by first | (rw [hv, Zha hk2 h8]) | (dsimp only; rw [hv, Zha hk2 h8])), iv, trivial⟩)
 ·
  refine Zka ?_
  show DW _ _ _ _ _
  refine stp Lun ?_
  refine Zba ?_
  exact fin 0 (hr := by (try simp only [go_sem, ff]); all_goals (simp only [fourB, cutB]; rw [hv, Zua (by omega)]))
theorem bo92 : Zea Tryz.prog 92 = true := by kernel_rfl
theorem Zs8 (z : Zon) (hn : Zuo z) : PureCt Tryz.prog 92 [.agg z.d] (.list false ((ownF z).map bR)) := by
 refine Zca Tryz.func92 rfl bo92 (by simp [go_sem, D.nr, nrs, nrr]) (by simp [Tryz.f92]) ?_
 unfold Tryz.f92
 simp only [Zfa]
 have ff := True.intro
 have hl := hn.1
 have hbl := Zgw z
 refine stp Lun ?_
 refine stp Lun ?_ (hok := by (try simp only [go_sem, ff]); all_goals (exact Zox z hn))
 refine stp Lun ?_
 refine Zaa ?_
 refine stp Lun ?_
 refine Zda ?_
 refine lp (α := (Nat) × (Nat) × Nat) [1, 3] (fun ⟨k, rb, nx⟩ => (k ≤ z.sets.length) ∧ (rb < nx) ∧ (0 < rb) ∧ True) (fun ⟨k, rb, nx⟩ => z.sets.length - k) (fun ⟨k, rb, nx⟩ => [(4, .mrow rb 0 z.sets.length), (5, .i k)]) (fun ⟨k, rb, nx⟩ => [(0, ⟨24, [z.d]⟩), (rb, ⟨4, (Zml ⟨z, behR z⟩ z.sets.length (k)).map bR⟩)]) (fun ⟨k, rb, nx⟩ => nx) (0, 8, _) (hA := ⟨iv, iv, iv, trivial⟩) (round := ?_)
 rintro ⟨k, rb, nx⟩ ⟨hk, hx, hb0, -⟩
 show DW _ _ _ _ { n := _, t := tab _, h := _, nx := _, e := _ }
 simp only [List.cons_append, List.nil_append]
 have n0 : 0 < nx := by omega
 have z0_rb : (0 = rb) = False := eq_false (by omega)
 have yrb_0 : (rb = 0) = False := eq_false (by omega)
 have ff := And.intro @hx (And.intro @n0 (And.intro @z0_rb (And.intro @yrb_0 ff)))
 refine Zaa ?_
 refine stp Lun ?_
 refine cd (fun c1 => ?_) (fun c1 => ?_) (hp := rfl)
 ·
  have hk2 : k < z.sets.length := by simpa using c1
  have hk3 : k < (behR z).length := by omega
  have ff := And.intro (Zma hk2) (And.intro (Zad hk3) (And.intro (Zjq (x := ⟨z, behR z⟩) hk) (And.intro (Yma (l := Zml ⟨z, behR z⟩ z.sets.length k) (n := k) (by rw [Zjq hk]; exact hk2)) ff)))
  refine dw_skip ?_
  show DW _ _ _ _ _
  refine Zaa ?_
  refine Zda ?_
  refine stp Lun ?_
  refine rgn Lun ?_
  show DW _ _ _ _ _
  refine rgn Lun ?_
  show ∃ _, _
  exact rnd (k + 1, rb, _) (h1 := ⟨iv, iv, iv, trivial⟩) (h3 := by (try simp only [go_sem, ff]); all_goals (first | done | exact congrArg (fun q => some (Blk.mk 4 q)) (Zan hk2 (by simp only [Zjv]; grind)) | (simp; done))) (h4 := by (try simp only [go_sem, ff]); all_goals (first | done | exact congrArg (fun q => some (Blk.mk 4 q)) (Zan hk2 (by simp only [Zjv]; grind)) | (simp; done))) (h5 := by (try simp only [go_sem, ff]); all_goals (first | done | exact congrArg (fun q => some (Blk.mk 4 q)) (Zan hk2 (by simp only [Zjv]; grind)) | (simp; done)))
 ·
  refine Zka ?_
  show DW _ _ _ _ _
  have e9 : k = z.sets.length := by omega
  subst e9
  have tk : List.take z.sets.length ((Zml ⟨z, behR z⟩ z.sets.length (z.sets.length)).map bR) = (ownF z).map bR := by rw [rowsO_n]; exact List.take_of_length_le (by rw [List.length_map, Zeg]; exact Nat.le_refl _)
  have ff := And.intro @tk (And.intro (Zjq (x := ⟨z, behR z⟩) (Nat.le_refl z.sets.length)) ff)
  refine stp Lun ?_
  refine Zba ?_
  exact fin 1 (hr := by (try simp only [go_sem, ff]); all_goals (rfl)) (hk := by (try simp only [go_sem, ff]); all_goals (exact Zh3 z))
theorem bo54 : Zea Tryz.prog 54 = true := by kernel_rfl
theorem Zjt (z : Zon) (hn : Zuo z) : PureCt Tryz.prog 54 [.agg z.d] (.b (fiveB z)) := by
 refine Zca Tryz.func54 rfl bo54 (by simp [go_sem, D.nr, nrs, nrr]) (by simp [Tryz.f54]) ?_
 unfold Tryz.f54
 simp only [Zfa]
 have ff := True.intro
 have hl := hn.1
 have hbl := Zgw z
 have hol := Zh3 z
 refine stp Lun ?_
 refine stp Lun ?_ (hok := by (try simp only [go_sem, ff]); all_goals (exact Zs8 z hn))
 refine Zaa ?_
 refine stp Lun ?_
 refine Zda ?_
 refine lp (α := (Nat) × Nat) [1, 3] (fun ⟨k, nx⟩ => (k ≤ z.sets.length) ∧ (Zya z.sets.length (Zhk ⟨z, behR z⟩) 0 = Zya z.sets.length (Zhk ⟨z, behR z⟩) k) ∧ (0 < nx) ∧ True) (fun ⟨k, nx⟩ => z.sets.length - k) (fun ⟨k, nx⟩ => [(4, .i k)]) (fun ⟨k, nx⟩ => [(0, ⟨24, [z.d]⟩)]) (fun ⟨k, nx⟩ => nx) (0, _) (hA := ⟨iv, rfl, iv, trivial⟩) (round := ?_)
 rintro ⟨k, nx⟩ ⟨hk, hv, hx, -⟩
 show DW _ _ _ _ { n := _, t := tab _, h := _, nx := _, e := _ }
 simp only [List.cons_append, List.nil_append]
 have ff := And.intro @hx ff
 refine Zaa ?_
 refine stp Lun ?_
 refine cd (fun c1 => ?_) (fun c1 => ?_) (hp := rfl)
 ·
  have hk2 : k < z.sets.length := by simpa using c1
  have hk3 : k < (ownF z).length := by omega
  have ho : (ownF z)[k]! = Zjv ⟨z, behR z⟩ k := Za9 _ _ _ hk2
  have ff := And.intro (Zma hk2) (And.intro (Yma hk3) ff)
  refine dw_skip ?_
  show DW _ _ _ _ _
  refine Zaa ?_
  refine Zda ?_
  refine stp Lun ?_ (hok := by (try simp only [go_sem, ff]); all_goals (first | done | ((repeat' (with_reducible apply And.intro)) <;> first | exact Zb3 _ _ | (intros; exact Zb3 _ _) | omega | (intros; omega) | (intros; simp_all; done) | skip)))
  refine cd (fun c2 => ?_) (fun c2 => ?_)
  ·
   refine stp Lun ?_
   refine Zba ?_
   exact fin 0 (hr := by (try simp only [go_sem, ff]); all_goals (have hF : (Zhk ⟨z, behR z⟩) k = false := (by simp only [Zhk, Zxi, Zmj, Zjv] at *; grind); simp only [fiveB]; rw [hv, Zpa hk2 hF]; try simp))
  ·
   refine dw_skip ?_
   show DW _ _ _ _ _
   refine rgn Lun ?_
   show ∃ _, _
   have h8 : (Zhk ⟨z, behR z⟩) k = true := by simp only [Zhk, Zxi, Zmj, Zjv] at *; grind
   exact rnd (k + 1, _) (h1 := ⟨iv, (by first | (rw [hv, Zha hk2 h8]) | (dsimp only; rw [hv, Zha hk2 h8])), iv, trivial⟩)
 ·
  refine Zka ?_
  show DW _ _ _ _ _
  refine stp Lun ?_
  refine Zba ?_
  exact fin 0 (hr := by (try simp only [go_sem, ff]); all_goals (simp only [fiveB]; rw [hv, Zua (by omega)]))
theorem bo22 : Zea Tryz.prog 22 = true := by kernel_rfl
theorem Znq (z : Zon) : PureCt Tryz.prog 22 [.agg z.d] (.b (refOk z)) := by
 refine Zca Tryz.func22 rfl bo22 (by simp [go_sem, D.nr, nrs, nrr]) (by simp [Tryz.f22]) ?_
 unfold Tryz.f22
 simp only [Zfa]
 have ff := True.intro
 refine stp Lun ?_
 refine stp Lun ?_ (hok := by (try simp only [go_sem, ff]); all_goals (first | done | ((repeat' (with_reducible apply And.intro)) <;> first | exact Zmx z | (intros; exact Zmx z) | exact (fun h => Zlx z (Zgj (by simp_all)).1) | (intros; exact (fun h => Zlx z (Zgj (by simp_all)).1)) | exact (fun h => Zoq z (Zgj (by simp_all)).1) | (intros; exact (fun h => Zoq z (Zgj (by simp_all)).1)) | exact (fun h => Zit z (Zgj (by simp_all))) | (intros; exact (fun h => Zit z (Zgj (by simp_all)))) | exact (fun h => Zjt z (Zgj (by simp_all))) | (intros; exact (fun h => Zjt z (Zgj (by simp_all)))) | (intros; simp_all; done) | skip)))
 refine Zba ?_
 exact fin 0 (hr := by (try simp only [go_sem, ff]); all_goals (simp [refOk, Bool.and_assoc]))
set_option maxRecDepth 10000
theorem Zk6 {α : Type} (l : List α) (i : Nat) (h : i < l.length) : (l.take (0 + i) ++ (l.drop (i + 1)).take (l.length - (i + 1)) ++ l.drop (0 + i + (l.length - (i + 1)))).take (l.length - 1) = l.eraseIdx i := by
 have e1 : (l.drop (i + 1)).take (l.length - (i + 1)) = l.drop (i + 1) := List.take_of_length_le (by simp)
 rw [e1, Nat.zero_add, List.eraseIdx_eq_take_drop_succ, List.take_append_of_le_length (by simp; omega), List.take_of_length_le (by simp; omega)]
theorem Yya {α : Type} (l : List α) (i : Nat) (h : i < l.length) : (l.take (0 + i) ++ (l.drop (i + 1)).take (l.length - (i + 1)) ++ l.drop (0 + i + (l.length - (i + 1)))).length = l.length := by
 simp; omega
theorem ins_a {α : Type} (l : List α) (x : α) (i : Nat) (h : i < l.length) : (l.take (i + 1) ++ ((l.drop i).take (l.length - i) ++ l.drop (i + (1 + (l.length - i))))).take i ++ x :: (l.take (i + 1) ++ ((l.drop i).take (l.length - i) ++ l.drop (i + (1 + (l.length - i))))).drop (i + 1) = l.take i ++ x :: l.drop i := by
 have e1 : (l.drop i).take (l.length - i) = l.drop i := List.take_of_length_le (by simp)
 have e2 : l.drop (i + (1 + (l.length - i))) = [] := List.drop_of_length_le (by omega)
 rw [e1, e2, List.append_nil, List.take_append_of_le_length (by simp; omega), List.take_take, List.drop_append_of_le_length (by simp; omega), List.drop_of_length_le (l := l.take (i + 1)) (by simp; omega)]
 rw [show min i (i + 1) = i from by omega]
 simp
theorem ins_c {α : Type} (l z : List α) (x : α) (i : Nat) (h : i < l.length) (hz : z.length = l.length + 1 - i) : (((l.take i ++ z).take i ++ x :: (l.take i ++ z).drop (i + 1)).take (i + 1)) ++ ((l.drop i).take (l.length - i) ++ ((l.take i ++ z).take i ++ x :: (l.take i ++ z).drop (i + 1)).drop (i + 1 + (l.length - i))) = l.take i ++ x :: l.drop i := by
 have e1 : (l.drop i).take (l.length - i) = l.drop i := List.take_of_length_le (by simp)
 have e0 : (l.take i).length = i := by simp; omega
 have e2 : ((l.take i ++ z).take i) = l.take i := by rw [List.take_append_of_le_length (by omega), List.take_of_length_le (by omega)]
 have e3 : l.take i ++ x :: (l.take i ++ z).drop (i + 1) = l.take i ++ [x] ++ (l.take i ++ z).drop (i + 1) := by simp
 simp only [e1, e2, e3]
 have e4 : (l.take i ++ [x]).length = i + 1 := by simp; omega
 rw [List.take_append_of_le_length (by omega), List.take_of_length_le (by omega)]
 have e5 : (l.take i ++ [x] ++ (l.take i ++ z).drop (i + 1)).length = l.length + 1 := by simp [hz]; omega
 rw [List.drop_of_length_le (l := l.take i ++ [x] ++ (l.take i ++ z).drop (i + 1)) (by omega)]
 simp
theorem bo110 : Zea Tryz.prog 110 = true := by kernel_rfl
theorem del_ct (l : List (List D)) (i m n0 : Nat) (h : H) (n r : Nat) (hm : m = l.length) (hi : i < l.length) (hi2 : n0 = i + 1) (hl : l.length ≤ 1000000) (hr : h r = some ⟨52, l⟩) (hc : ∀ q ∈ l, q.length = 5) : RCt Tryz.prog 110 [.mrow r 0 m, .i i, .i n0] h n (fun d h' n' => d = .mrow r 0 (l.length - 1) ∧ h' = upd h r (some ⟨52, l.eraseIdx i⟩) ∧ n ≤ n') := by
 refine Zlb Tryz.func110 rfl bo110 (by simp [Tryz.f110]) (fun hnone => ?_)
 unfold Tryz.f110
 have ff := True.intro
 subst hm
 subst hi2
 have hE1 : ((l.length:Int) - ((i + 1 : Nat):Int)).toNat = l.length - (i + 1) := by omega
 have hE2 : ((i:Int) - ((0:Nat):Int)).toNat = i := by omega
 have hE3 : (List.take (l.length - (i + 1)) (List.drop (i + 1) l)).length = l.length - (i + 1) := by simp
 have hE4 : i + (l.length - (i + 1)) = l.length - 1 := by omega
 have hE5 := Zk6 l i hi
 have hE6 := Yya l i hi
 have ff := And.intro @hr (And.intro @hE1 (And.intro @hE2 (And.intro @hE3 (And.intro @hE4 ff))))
 refine stp Lun ?_
 refine sgq ?_
 refine gslice3 Lun 5 ?_
 refine Zke Lun ?_
 try simp only [Zna]
 refine Zaa ?_
 refine stp Lun ?_
 refine cd (fun c1 => ?_) (fun c1 => ?_) (hp := rfl)
 ·
  exfalso; simp at c1; omega
 ·
  refine dw_skip ?_
  show DW _ _ _ _ _
  refine stp Lun ?_
  refine dr0q Lun 6 ?_
  refine gappin Lun 6 (news := (l.drop (i + 1)).take (l.length - (i + 1))) (hrl := by intro q hq; rw [hc q (List.mem_of_mem_drop (List.mem_of_mem_take hq))]; rfl) ?_
  refine Zke Lun ?_
  try simp only [Zna]
  refine sgq ?_
  refine gresl2 Lun 4 (l.length - 1) l.length ?_
  refine gclear Lun 5 ?_
  refine Zke Lun ?_
  try simp only [Zna]
  refine stp Lun ?_
  refine Zba ?_
  exact Zik (upd h r (some ⟨52, l.eraseIdx i⟩)) (hr := by (try simp only [go_sem, ff]); all_goals (first | omega | exact ⟨rfl, rfl, by omega⟩ | exact ⟨rfl, by omega⟩)) (hh := by rw [← hE5]; intro q; left; simp only [upd]; split <;> simp_all)
theorem bo112 : Zea Tryz.prog 112 = true := by kernel_rfl
theorem ins_ct (l : List (List D)) (x : List D) (i m : Nat) (h : H) (n r r2 : Nat) (hm : m = l.length) (hi : i ≤ l.length) (hl : l.length ≤ 1000000) (hr : h r = some ⟨52, l⟩) (hr2 : h r2 = some ⟨52, [x]⟩) (hne : r ≠ r2) (hx : x.length = 5) (hc : ∀ q ∈ l, q.length = 5) : RCt Tryz.prog 112 [.mrow r 0 m, .i i, .mrow r2 0 1] h n (fun d h' n' => ∃ r', d = .mrow r' 0 (l.length + 1) ∧ h' r' = some ⟨52, (l.take i ++ x :: l.drop i)⟩ ∧ (r' = r ∨ n ≤ r' ∧ r' < n') ∧ (∀ q, q ≠ r → q < n → h' q = h q) ∧ n ≤ n') := by
 refine Zlb Tryz.func112 rfl bo112 (by simp [Tryz.f112]) (fun hnone => ?_)
 unfold Tryz.f112
 have ff := True.intro
 subst hm
 have hrn : r < n := by rcases Nat.lt_or_ge r n with q | q; exact q; rw [hnone r q] at hr; cases hr
 have hrn2 : r2 < n := by rcases Nat.lt_or_ge r2 n with q | q; exact q; rw [hnone r2 q] at hr2; cases hr2
 have hf1 : ∀ k, r ≠ n + k := fun k => by omega
 have hf2 : ∀ k, r2 ≠ n + k := fun k => by omega
 have hne2 : r2 ≠ r := fun q => hne q.symm
 have hE0 : ((1:Nat):Int) = 1 := rfl
 have hE1 : ((l.length:Int) - (i:Int)).toNat = l.length - i := by omega
 have hE2 : ((i:Int) - ((0:Nat):Int)).toNat = i := by omega
 have hE3 : ((l.length:Int) + 1 - (i:Int)) = ((l.length + 1 - i : Nat) : Int) := by omega
 have hE4 : ((i:Int) + 1).toNat = i + 1 := by omega
 have hE5 : i + (l.length + 1 - i) = l.length + 1 := by omega
 have hE6 : ((l.length:Int) + 1) = ((l.length + 1 : Nat) : Int) := by omega
 have hE7 : ((i:Int) + 1) = ((i + 1 : Nat) : Int) := by omega
 have hE8 : (((l.length + 1 : Nat):Int) - ((i + 1 : Nat) : Int)).toNat = l.length - i := by omega
 have hE9 : (((l.length + 1 : Nat):Int) - (i : Int)).toNat = l.length + 1 - i := by omega
 have ff := And.intro @hr (And.intro @hr2 (And.intro @hne (And.intro @hne2 (And.intro @hf1 (And.intro @hf2 (And.intro @hE1 (And.intro @hE2 ff)))))))
 refine stp Lun ?_
 refine stp Lun ?_
 refine stp Lun ?_
 refine Zaa ?_
 refine stp Lun ?_
 refine cd (fun c1 => ?_) (fun c1 => ?_) (hp := rfl)
 ·
  exfalso; simp at c1
 ·
  refine dw_skip ?_
  show DW _ _ _ _ _
  refine stp Lun ?_
  refine Zaa ?_
  refine stp Lun ?_
  refine cd (fun c2 => ?_) (fun c2 => ?_) (hp := rfl) (hq := rfl)
  ·
   have hi9 : i = l.length := by have : (i:Int) = (l.length:Int) := (by simpa using c2); omega
   refine sgq ?_
   refine Yna Lun 2 (r := r) (by dsimp only; omega) (hrl := by intro q hq; simp at hq; subst hq; exact hx) (hby := by rw [show (Tryz.prog).bytesOf 52 = 80 from rfl]; simp; omega) (h63 := by simp; omega) ?_
   refine Zke Lun ?_
   try simp only [Zna]
   refine Zba ?_
   exact Zik (_) (hh := fun _ => .inl rfl) (hr := by (try simp only [go_sem, ff]); all_goals (exact ⟨_, rfl, by rw [hi9]; simp [upd], .inr (by omega), fun q h1 h2 => by simp only [upd]; repeat rw [if_neg (by omega)], by omega⟩))
  ·
   have hi9 : i < l.length := by have : ¬ (i:Int) = (l.length:Int) := (by simpa using c2); omega
   refine dw_skip ?_
   show DW _ _ _ _ _
   refine Zaa ?_
   refine sgq ?_
   refine gcap Lun 4 (fun c hc1 hc2 => ?_)
   refine Zke Lun ?_
   try simp only [Zna]
   refine cd (fun c3 => ?_) (fun c3 => ?_)
   ·
    have ff := And.intro @hE0 (And.intro @hE3 ff)
    refine sgq ?_
    refine gappmk Lun 8 (r := r) (off := 0) (n := i) (c := c) (kk := .i64) (l.length + 1 - i) rfl (by omega) (by rw [show (Tryz.prog).bytesOf 52 = 80 from rfl]; omega) (by omega) ?_
    refine Zke Lun ?_
    try simp only [Zna]
    refine sgq ?_
    refine gcopy Lun 4 1 ?_
    refine Zke Lun ?_
    try simp only [Zna]
    have ff := And.intro @hE0 ff
    refine dr0q Lun 8 ?_
    refine gcopy Lun 8 (l.length - i) ?_
    refine Zke Lun ?_
    try simp only [Zna]
    refine stp Lun ?_
    refine Zba ?_
    exact Zik (_) (hh := fun _ => .inl rfl) (hr := by (try simp only [go_sem, ff]); all_goals (exact ⟨n + 29, by simp [hE5], by simp [upd]; exact ins_c l _ x i hi9 (by simp), .inr (by omega), fun q h1 h2 => by simp only [upd]; repeat rw [if_neg (by omega)], by omega⟩))
   ·
    refine dw_skip ?_
    show DW _ _ _ _ _
    have ff := And.intro @hE6 ff
    refine sgq ?_
    refine gresl Lun 4 (r := r) (off := 0) (c := c) (l.length + 1) rfl (by have : (l.length:Int) + 1 ≤ (c:Int) := (by simpa using c3); omega) ?_
    refine Zke Lun ?_
    try simp only [Zna]
    refine Zaa ?_
    have ff := And.intro @hE0 (And.intro @hE7 (And.intro @hE8 ff))
    refine sgq ?_
    refine gapart Lun 6 (fid := 143) (t := 22) (u := 4) (r := r2) (r2 := r) (fun q => hne q.symm) ?_
    refine Zke Lun ?_
    try simp only [Zna]
    refine cd (fun c4 => ?_) (fun c4 => ?_) (hq := rfl)
    ·
     have ff := And.intro @hE9 ff
     refine dr0q Lun 8 ?_
     refine gcopy Lun 8 (l.length - i) ?_
     refine Zke Lun ?_
     try simp only [Zna]
     refine sgq ?_
     refine gcopy Lun 4 1 ?_
     refine Zke Lun ?_
     try simp only [Zna]
     refine stp Lun ?_
     refine Zba ?_
     exact Zik (_) (hh := fun _ => .inl rfl) (hr := by (try simp only [go_sem, ff]); all_goals (exact ⟨r, rfl, by simp [upd]; exact ins_a l x i hi9, .inl rfl, fun q h1 h2 => by simp only [upd]; repeat rw [if_neg (by omega)], by omega⟩))
    ·
     exfalso; simp at c4
set_option maxRecDepth 10000
theorem bo69 : Zea Tryz.prog 69 = true := by kernel_rfl
theorem Zts (s : Sgd) : PureCt Tryz.prog 69 [.agg s.d] (.b (notPl s)) := by
 refine Zca Tryz.func69 rfl bo69 (by simp [go_sem, D.nr, nrs, nrr]) (by simp [Tryz.f69]) ?_
 unfold Tryz.f69
 simp only [Zfa]
 have ff := True.intro
 refine stp Lun ?_
 refine stp Lun ?_
 refine Zba ?_
 exact fin 2 (hr := by (try simp only [go_sem, ff]); all_goals (simp [notPl, isNm]; rw [Bool.eq_iff_iff]; simp))
theorem bo71 : Zea Tryz.prog 71 = true := by kernel_rfl
theorem Zqw (s : Sgd) (n : Chg) : PureCt Tryz.prog 71 [.agg s.d, .eptr n.d] (.b (isNm n.set.name s)) := by
 refine Zca Tryz.func71 rfl bo71 (by simp [go_sem, D.nr, nrs, nrr]) (by simp [Tryz.f71]) ?_
 unfold Tryz.f71
 simp only [Zfa]
 have ff := True.intro
 refine stp Lun ?_
 refine stp Lun ?_
 refine Zba ?_
 exact fin 2 (hr := by (try simp only [go_sem, ff]); all_goals (simp [notPl, isNm]; rw [Bool.eq_iff_iff]; simp))
theorem bo123 : Zea Tryz.prog 123 = true := by kernel_rfl
theorem Zxp (s : Sgd) (t : RSet) : PureCt Tryz.prog 123 [.agg s.d, .eptr t.d] (.b (isNm t.name s)) := by
 refine Zca Tryz.func123 rfl bo123 (by simp [go_sem, D.nr, nrs, nrr]) (by simp [Tryz.f123]) ?_
 unfold Tryz.f123
 simp only [Zfa]
 have ff := True.intro
 refine stp Lun ?_
 refine stp Lun ?_
 refine Zba ?_
 exact fin 2 (hr := by (try simp only [go_sem, ff]); all_goals (simp [notPl, isNm]; rw [Bool.eq_iff_iff]; simp))
theorem bo102 : Zea Tryz.prog 102 = true := by kernel_rfl
theorem Zq2 (l : List Sgd) (hl : l.length ≤ 1000000) : PureCt Tryz.prog 102 [.list false (l.map Sgd.d), .fn (.func 69) [] []] (.i (firstAt (notPl) l 0)) := by
 refine Zca Tryz.func102 rfl bo102 (by simp [go_sem, D.nr, nrs, nrr]) (by simp [Tryz.f102]) ?_
 unfold Tryz.f102
 simp only [Zfa]
 have ff := True.intro
 refine stp Lun ?_
 refine Zaa ?_
 refine stp Lun ?_
 refine Zda ?_
 refine lp (α := (Nat) × Nat) [0, 1, 7] (fun ⟨k, nx⟩ => (k ≤ l.length) ∧ (firstAt (notPl) l 0 = firstAt (notPl) l k) ∧ True) (fun ⟨k, nx⟩ => l.length - k) (fun ⟨k, nx⟩ => [(8, .i k)]) (fun ⟨k, nx⟩ => []) (fun ⟨k, nx⟩ => nx) (0, _) (hA := ⟨iv, rfl, trivial⟩) (round := ?_)
 rintro ⟨k, nx⟩ ⟨hk, hv, -⟩
 show DW _ _ _ _ { n := _, t := tab _, h := _, nx := _, e := _ }
 simp only [List.cons_append, List.nil_append]
 refine stp Lun ?_
 refine Zaa ?_
 refine cd (fun c1 => ?_) (fun c1 => ?_) (hp := rfl)
 ·
  have hk2 : k < l.length := by simpa using c1
  have ff := And.intro (Zma hk2) ff
  refine dw_skip ?_
  show DW _ _ _ _ _
  refine Zaa ?_
  refine Zda ?_
  refine stp Lun ?_
  refine stp Lun ?_ (hok := by (try simp only [go_sem, ff]); all_goals (first | done | ((repeat' (with_reducible apply And.intro)) <;> first | exact Zts l[k]! | (intros; exact Zts l[k]!) | omega | skip)))
  refine cd (fun c2 => ?_) (fun c2 => ?_)
  ·
   refine stp Lun ?_
   refine Zba ?_
   exact fin 0 (hr := by (try simp only [go_sem, ff]); all_goals (rw [hv, Zzy hk2 c2]))
  ·
   refine dw_skip ?_
   show DW _ _ _ _ _
   refine rgn Lun ?_
   show ∃ _, _
   exact rnd (k + 1, _) (h1 := ⟨iv, (by (try dsimp only); rw [hv, Ywa hk2 (by simpa using c2)]), trivial⟩)
 ·
  refine Zka ?_
  show DW _ _ _ _ _
  refine stp Lun ?_
  refine Zba ?_
  exact fin 0 (hr := by (try simp only [go_sem, ff]); all_goals (rw [hv, Zaz (by omega)]))
theorem Zr2 (l : List Sgd) (hl : l.length ≤ 1000000) (n : Chg) : PureCt Tryz.prog 102 [.list false (l.map Sgd.d), .fn (.func 71) [] [.eptr n.d]] (.i (firstAt (isNm n.set.name) l 0)) := by
 refine Zca Tryz.func102 rfl bo102 (by simp [go_sem, D.nr, nrs, nrr]) (by simp [Tryz.f102]) ?_
 unfold Tryz.f102
 simp only [Zfa]
 have ff := True.intro
 refine stp Lun ?_
 refine Zaa ?_
 refine stp Lun ?_
 refine Zda ?_
 refine lp (α := (Nat) × Nat) [0, 1, 7] (fun ⟨k, nx⟩ => (k ≤ l.length) ∧ (firstAt (isNm n.set.name) l 0 = firstAt (isNm n.set.name) l k) ∧ True) (fun ⟨k, nx⟩ => l.length - k) (fun ⟨k, nx⟩ => [(8, .i k)]) (fun ⟨k, nx⟩ => []) (fun ⟨k, nx⟩ => nx) (0, _) (hA := ⟨iv, rfl, trivial⟩) (round := ?_)
 rintro ⟨k, nx⟩ ⟨hk, hv, -⟩
 show DW _ _ _ _ { n := _, t := tab _, h := _, nx := _, e := _ }
 simp only [List.cons_append, List.nil_append]
 refine stp Lun ?_
 refine Zaa ?_
 refine cd (fun c1 => ?_) (fun c1 => ?_) (hp := rfl)
 ·
  have hk2 : k < l.length := by simpa using c1
  have ff := And.intro (Zma hk2) ff
  refine dw_skip ?_
  show DW _ _ _ _ _
  refine Zaa ?_
  refine Zda ?_
  refine stp Lun ?_
  refine stp Lun ?_ (hok := by (try simp only [go_sem, ff]); all_goals (first | done | ((repeat' (with_reducible apply And.intro)) <;> first | exact Zqw l[k]! n | (intros; exact Zqw l[k]! n) | omega | skip)))
  refine cd (fun c2 => ?_) (fun c2 => ?_)
  ·
   refine stp Lun ?_
   refine Zba ?_
   exact fin 0 (hr := by (try simp only [go_sem, ff]); all_goals (rw [hv, Zzy hk2 c2]))
  ·
   refine dw_skip ?_
   show DW _ _ _ _ _
   refine rgn Lun ?_
   show ∃ _, _
   exact rnd (k + 1, _) (h1 := ⟨iv, (by (try dsimp only); rw [hv, Ywa hk2 (by simpa using c2)]), trivial⟩)
 ·
  refine Zka ?_
  show DW _ _ _ _ _
  refine stp Lun ?_
  refine Zba ?_
  exact fin 0 (hr := by (try simp only [go_sem, ff]); all_goals (rw [hv, Zaz (by omega)]))
theorem uixNa_ct (l : List Sgd) (hl : l.length ≤ 1000000) (t : RSet) : PureCt Tryz.prog 102 [.list false (l.map Sgd.d), .fn (.func 123) [] [.eptr t.d]] (.i (firstAt (isNm t.name) l 0)) := by
 refine Zca Tryz.func102 rfl bo102 (by simp [go_sem, D.nr, nrs, nrr]) (by simp [Tryz.f102]) ?_
 unfold Tryz.f102
 simp only [Zfa]
 have ff := True.intro
 refine stp Lun ?_
 refine Zaa ?_
 refine stp Lun ?_
 refine Zda ?_
 refine lp (α := (Nat) × Nat) [0, 1, 7] (fun ⟨k, nx⟩ => (k ≤ l.length) ∧ (firstAt (isNm t.name) l 0 = firstAt (isNm t.name) l k) ∧ True) (fun ⟨k, nx⟩ => l.length - k) (fun ⟨k, nx⟩ => [(8, .i k)]) (fun ⟨k, nx⟩ => []) (fun ⟨k, nx⟩ => nx) (0, _) (hA := ⟨iv, rfl, trivial⟩) (round := ?_)
 rintro ⟨k, nx⟩ ⟨hk, hv, -⟩
 show DW _ _ _ _ { n := _, t := tab _, h := _, nx := _, e := _ }
 simp only [List.cons_append, List.nil_append]
 refine stp Lun ?_
 refine Zaa ?_
 refine cd (fun c1 => ?_) (fun c1 => ?_) (hp := rfl)
 ·
  have hk2 : k < l.length := by simpa using c1
  have ff := And.intro (Zma hk2) ff
  refine dw_skip ?_
  show DW _ _ _ _ _
  refine Zaa ?_
  refine Zda ?_
  refine stp Lun ?_
  refine stp Lun ?_ (hok := by (try simp only [go_sem, ff]); all_goals (first | done | ((repeat' (with_reducible apply And.intro)) <;> first | exact Zxp l[k]! t | (intros; exact Zxp l[k]! t) | omega | skip)))
  refine cd (fun c2 => ?_) (fun c2 => ?_)
  ·
   refine stp Lun ?_
   refine Zba ?_
   exact fin 0 (hr := by (try simp only [go_sem, ff]); all_goals (rw [hv, Zzy hk2 c2]))
  ·
   refine dw_skip ?_
   show DW _ _ _ _ _
   refine rgn Lun ?_
   show ∃ _, _
   exact rnd (k + 1, _) (h1 := ⟨iv, (by (try dsimp only); rw [hv, Ywa hk2 (by simpa using c2)]), trivial⟩)
 ·
  refine Zka ?_
  show DW _ _ _ _ _
  refine stp Lun ?_
  refine Zba ?_
  exact fin 0 (hr := by (try simp only [go_sem, ff]); all_goals (rw [hv, Zaz (by omega)]))
theorem bo68 : Zea Tryz.prog 68 = true := by kernel_rfl
theorem Zu2 (l : List Sgd) (hl : l.length ≤ 1000000) : PureCt Tryz.prog 68 [.list false (l.map Sgd.d), .fn (.func 69) [] []] (.b (decide (0 ≤ firstAt (notPl) l 0))) := by
 refine Zca Tryz.func68 rfl bo68 (by simp [go_sem, D.nr, nrs, nrr]) (by simp [Tryz.f68]) ?_
 unfold Tryz.f68
 simp only [Zfa]
 have ff := True.intro
 refine stp Lun ?_
 refine stp Lun ?_ (hok := by (try simp only [go_sem, ff]); all_goals (first | done | ((repeat' (with_reducible apply And.intro)) <;> first | exact Zq2 l hl | (intros; exact Zq2 l hl) | skip)))
 refine Zba ?_
 exact fin 0 (hr := by (try simp only [go_sem, ff]); all_goals (rfl))
theorem Zgp (l : List Sgd) (hl : l.length ≤ 1000000) (n : Chg) : PureCt Tryz.prog 68 [.list false (l.map Sgd.d), .fn (.func 71) [] [.eptr n.d]] (.b (decide (0 ≤ firstAt (isNm n.set.name) l 0))) := by
 refine Zca Tryz.func68 rfl bo68 (by simp [go_sem, D.nr, nrs, nrr]) (by simp [Tryz.f68]) ?_
 unfold Tryz.f68
 simp only [Zfa]
 have ff := True.intro
 refine stp Lun ?_
 refine stp Lun ?_ (hok := by (try simp only [go_sem, ff]); all_goals (first | done | ((repeat' (with_reducible apply And.intro)) <;> first | exact Zr2 l hl n | (intros; exact Zr2 l hl n) | skip)))
 refine Zba ?_
 exact fin 0 (hr := by (try simp only [go_sem, ff]); all_goals (rfl))
theorem bo33 : Zea Tryz.prog 33 = true := by kernel_rfl
theorem Zpw (z : Zon) (hl : z.sets.length ≤ 1000000) : PureCt Tryz.prog 33 [.agg z.d] (.b (plainB z)) := by
 refine Zca Tryz.func33 rfl bo33 (by simp [go_sem, D.nr, nrs, nrr]) (by simp [Tryz.f33]) ?_
 unfold Tryz.f33
 simp only [Zfa]
 have ff := True.intro
 refine stp Lun ?_
 refine stp Lun ?_ (hok := by (try simp only [go_sem, ff]); all_goals (first | done | ((repeat' (with_reducible apply And.intro)) <;> first | exact Zu2 _ hl | (intros; exact Zu2 _ hl) | skip)))
 refine Zba ?_
 exact fin 0 (hr := by (try simp only [go_sem, ff]); all_goals (rw [Zn0]))
theorem bo45 : Zea Tryz.prog 45 = true := by kernel_rfl
theorem Zep (n : Chg) : PureCt Tryz.prog 45 [.agg n.d] (.b (needOk n)) := by
 refine Zca Tryz.func45 rfl bo45 (by simp [go_sem, D.nr, nrs, nrr]) (by simp [Tryz.f45]) ?_
 unfold Tryz.f45
 simp only [Zfa]
 have ff := True.intro
 refine stp Lun ?_
 refine Zaa ?_
 refine stp Lun ?_ (hok := by (try simp only [go_sem, ff]); all_goals (first | done | ((repeat' (with_reducible apply And.intro)) <;> first | exact Zic _ | (intros; exact Zic _) | skip)))
 refine cd (fun c1 => ?_) (fun c1 => ?_)
 ·
  refine stp Lun ?_
  refine Zba ?_
  exact fin 0 (hr := by (try simp only [go_sem, ff]); all_goals (simp only [needOk]; grind [inR]))
 ·
  refine dw_skip ?_
  show DW _ _ _ _ _
  refine Zaa ?_
  refine stp Lun ?_
  refine Zda ?_
  refine Zaa ?_
  refine stp Lun ?_
  refine cd (fun c2 => ?_) (fun c2 => ?_)
  ·
   refine dw_skip ?_
   show DW _ _ _ _ _
   refine cd (fun c3 => ?_) (fun c3 => ?_)
   ·
    refine stp Lun ?_
    refine Zba ?_
    exact fin 0 (hr := by (try simp only [go_sem, ff]); all_goals (simp only [needOk]; grind [inR]))
   ·
    refine Zaa ?_
    refine stp Lun ?_
    refine cd (fun c4 => ?_) (fun c4 => ?_)
    ·
     refine dw_skip ?_
     show DW _ _ _ _ _
     refine cd (fun c5 => ?_) (fun c5 => ?_)
     ·
      refine stp Lun ?_
      refine Zba ?_
      exact fin 0 (hr := by (try simp only [go_sem, ff]); all_goals (simp only [needOk]; grind [inR]))
     ·
      refine stp Lun ?_
      refine cd (fun c6 => ?_) (fun c6 => ?_)
      ·
       refine stp Lun ?_ (hok := by (try simp only [go_sem, ff]); all_goals (first | exact ok0 | (apply Zgc <;> omega) | (intros; apply Zgc <;> omega)))
       refine Zba ?_
       exact fin 0 (hr := by (try simp only [go_sem, ff]); all_goals (simp only [needOk]; grind [inR]))
      ·
       refine dw_skip ?_
       show DW _ _ _ _ _
       refine stp Lun ?_
       refine Zba ?_
       exact fin 0 (hr := by (try simp only [go_sem, ff]); all_goals (simp only [needOk]; grind [inR]))
    ·
     refine rgn Lun ?_
     show DW _ _ _ _ _
     refine cd (fun c7 => ?_) (fun c7 => ?_)
     ·
      refine stp Lun ?_
      refine Zba ?_
      exact fin 0 (hr := by (try simp only [go_sem, ff]); all_goals (simp only [needOk]; grind [inR]))
     ·
      refine stp Lun ?_
      refine cd (fun c8 => ?_) (fun c8 => ?_)
      ·
       refine stp Lun ?_ (hok := by (try simp only [go_sem, ff]); all_goals (first | exact ok0 | (apply Zgc <;> omega) | (intros; apply Zgc <;> omega)))
       refine Zba ?_
       exact fin 0 (hr := by (try simp only [go_sem, ff]); all_goals (simp only [needOk]; grind [inR]))
      ·
       refine dw_skip ?_
       show DW _ _ _ _ _
       refine stp Lun ?_
       refine Zba ?_
       exact fin 0 (hr := by (try simp only [go_sem, ff]); all_goals (simp only [needOk]; grind [inR]))
  ·
   refine rgn Lun ?_
   show DW _ _ _ _ _
   refine cd (fun c9 => ?_) (fun c9 => ?_)
   ·
    refine stp Lun ?_
    refine Zba ?_
    exact fin 0 (hr := by (try simp only [go_sem, ff]); all_goals (simp only [needOk]; grind [inR]))
   ·
    refine Zaa ?_
    refine stp Lun ?_
    refine cd (fun c10 => ?_) (fun c10 => ?_)
    ·
     refine dw_skip ?_
     show DW _ _ _ _ _
     refine cd (fun c11 => ?_) (fun c11 => ?_)
     ·
      refine stp Lun ?_
      refine Zba ?_
      exact fin 0 (hr := by (try simp only [go_sem, ff]); all_goals (simp only [needOk]; grind [inR]))
     ·
      refine stp Lun ?_
      refine cd (fun c12 => ?_) (fun c12 => ?_)
      ·
       refine stp Lun ?_ (hok := by (try simp only [go_sem, ff]); all_goals (first | exact ok0 | (apply Zgc <;> omega) | (intros; apply Zgc <;> omega)))
       refine Zba ?_
       exact fin 0 (hr := by (try simp only [go_sem, ff]); all_goals (simp only [needOk]; grind [inR]))
      ·
       refine dw_skip ?_
       show DW _ _ _ _ _
       refine stp Lun ?_
       refine Zba ?_
       exact fin 0 (hr := by (try simp only [go_sem, ff]); all_goals (simp only [needOk]; grind [inR]))
    ·
     refine rgn Lun ?_
     show DW _ _ _ _ _
     refine cd (fun c13 => ?_) (fun c13 => ?_)
     ·
      refine stp Lun ?_
      refine Zba ?_
      exact fin 0 (hr := by (try simp only [go_sem, ff]); all_goals (simp only [needOk]; grind [inR]))
     ·
      refine stp Lun ?_
      refine cd (fun c14 => ?_) (fun c14 => ?_)
      ·
       refine stp Lun ?_ (hok := by (try simp only [go_sem, ff]); all_goals (first | exact ok0 | (apply Zgc <;> omega) | (intros; apply Zgc <;> omega)))
       refine Zba ?_
       exact fin 0 (hr := by (try simp only [go_sem, ff]); all_goals (simp only [needOk]; grind [inR]))
      ·
       refine dw_skip ?_
       show DW _ _ _ _ _
       refine stp Lun ?_
       refine Zba ?_
       exact fin 0 (hr := by (try simp only [go_sem, ff]); all_goals (simp only [needOk]; grind [inR]))
theorem bo67 : Zea Tryz.prog 67 = true := by kernel_rfl
theorem Zv7 (c : Chg) : PureCt Tryz.prog 67 [.agg c.d] (.b (chgOk c)) := by
 refine Zca Tryz.func67 rfl bo67 (by simp [go_sem, D.nr, nrs, nrr]) (by simp [Tryz.f67]) ?_
 unfold Tryz.f67
 simp only [Zfa]
 have ff := True.intro
 refine stp Lun ?_
 refine Zaa ?_
 refine stp Lun ?_ (hok := by (try simp only [go_sem, ff]); all_goals (first | done | ((repeat' (with_reducible apply And.intro)) <;> first | exact Zic _ | (intros; exact Zic _) | skip)))
 refine cd (fun c1 => ?_) (fun c1 => ?_)
 ·
  refine stp Lun ?_
  refine Zba ?_
  exact fin 0 (hr := by (try simp only [go_sem, ff]); all_goals (simp only [chgOk]; grind [inR]))
 ·
  refine dw_skip ?_
  show DW _ _ _ _ _
  refine Zaa ?_
  refine stp Lun ?_
  refine Zda ?_
  refine Zaa ?_
  refine stp Lun ?_
  refine cd (fun c2 => ?_) (fun c2 => ?_)
  ·
   refine dw_skip ?_
   show DW _ _ _ _ _
   refine cd (fun c3 => ?_) (fun c3 => ?_)
   ·
    refine stp Lun ?_ (hok := by (try simp only [go_sem, ff]); all_goals (first | done | ((repeat' (with_reducible apply And.intro)) <;> first | exact Zgc _ | (intros; exact Zgc _) | skip)))
    refine Zba ?_
    exact fin 0 (hr := by (try simp only [go_sem, ff]); all_goals (simp only [chgOk]; grind [inR]))
   ·
    refine stp Lun ?_
    refine cd (fun c4 => ?_) (fun c4 => ?_)
    ·
     refine stp Lun ?_
     refine Zba ?_
     exact fin 0 (hr := by (try simp only [go_sem, ff]); all_goals (simp only [chgOk]; grind [inR]))
    ·
     refine stp Lun ?_
     refine cd (fun c5 => ?_) (fun c5 => ?_)
     ·
      refine stp Lun ?_
      refine Zba ?_
      exact fin 0 (hr := by (try simp only [go_sem, ff]); all_goals (simp only [chgOk]; grind [inR]))
     ·
      refine dw_skip ?_
      show DW _ _ _ _ _
      refine stp Lun ?_
      refine Zba ?_
      exact fin 0 (hr := by (try simp only [go_sem, ff]); all_goals (simp only [chgOk]; grind [inR]))
  ·
   refine rgn Lun ?_
   show DW _ _ _ _ _
   refine cd (fun c6 => ?_) (fun c6 => ?_)
   ·
    refine stp Lun ?_ (hok := by (try simp only [go_sem, ff]); all_goals (first | done | ((repeat' (with_reducible apply And.intro)) <;> first | exact Zgc _ | (intros; exact Zgc _) | skip)))
    refine Zba ?_
    exact fin 0 (hr := by (try simp only [go_sem, ff]); all_goals (simp only [chgOk]; grind [inR]))
   ·
    refine stp Lun ?_
    refine cd (fun c7 => ?_) (fun c7 => ?_)
    ·
     refine stp Lun ?_
     refine Zba ?_
     exact fin 0 (hr := by (try simp only [go_sem, ff]); all_goals (simp only [chgOk]; grind [inR]))
    ·
     refine stp Lun ?_
     refine cd (fun c8 => ?_) (fun c8 => ?_)
     ·
      refine stp Lun ?_
      refine Zba ?_
      exact fin 0 (hr := by (try simp only [go_sem, ff]); all_goals (simp only [chgOk]; grind [inR]))
     ·
      refine dw_skip ?_
      show DW _ _ _ _ _
      refine stp Lun ?_
      refine Zba ?_
      exact fin 0 (hr := by (try simp only [go_sem, ff]); all_goals (simp only [chgOk]; grind [inR]))
theorem bo34 : Zea Tryz.prog 34 = true := by kernel_rfl
theorem Zgh (n : Str) (a : Str) : PureCt Tryz.prog 34 [.v (.string (bs n)), .v (.string (bs a))] (.b (underV n a)) := by
 refine Zca Tryz.func34 rfl bo34 (by simp [go_sem, D.nr, nrs, nrr]) (by simp [Tryz.f34]) ?_
 unfold Tryz.f34
 simp only [Zfa]
 have ff := True.intro
 refine stp Lun ?_
 refine stp Lun ?_ (hok := by (try simp only [go_sem, ff]); all_goals (first | done | ((repeat' (with_reducible apply And.intro)) <;> first | exact Zwl _ _ | (intros; exact Zwl _ _) | skip)))
 refine stp Lun ?_
 refine Zba ?_
 exact fin 1 (hr := by (try simp only [go_sem, ff]); all_goals (rfl))
theorem bo106 : Zea Tryz.prog 106 = true := by kernel_rfl
theorem Zjh (s : Sgd) (n : Str) (t : Int) : PureCt Tryz.prog 106 [.agg s.d, .v (.string (bs n)), .eptr [.i t]] (.i (qC s.q ⟨n, t⟩)) := by
 refine Zca Tryz.func106 rfl bo106 (by simp [go_sem, D.nr, nrs, nrr]) (by simp [Tryz.f106]) ?_
 unfold Tryz.f106
 simp only [Zfa]
 have ff := True.intro
 refine stp Lun ?_
 refine Zaa ?_
 refine stp Lun ?_
 refine cd (fun c1 => ?_) (fun c1 => ?_)
 ·
  refine stp Lun ?_ (hok := by (try simp only [go_sem, ff]); all_goals (first | done | ((repeat' (with_reducible apply And.intro)) <;> first | exact Zpk _ _ | (intros; exact Zpk _ _) | skip)))
  refine stp Lun ?_
  refine Zba ?_
  exact fin 2 (hr := by (try simp only [go_sem, ff]); all_goals (simp [qC, Sgd.q]; grind))
 ·
  refine dw_skip ?_
  show DW _ _ _ _ _
  refine stp Lun ?_ (hok := by (try simp only [go_sem, ff]); all_goals (first | done | ((repeat' (with_reducible apply And.intro)) <;> first | exact Zwh _ _ | (intros; exact Zwh _ _) | skip)))
  refine Zba ?_
  exact fin 2 (hr := by (try simp only [go_sem, ff]); all_goals (simp [qC, Sgd.q]; grind))
set_option maxRecDepth 10000
theorem bo105 : Zea Tryz.prog 105 = true := by kernel_rfl
theorem Zw7 (l : List Sgd) (n : Str) (t : Int) (hl : l.length ≤ 1000000) : PureCt Tryz.prog 105 [.list false (l.map Sgd.d), .v (.string (bs n)), .fn (.func 106) [] [.eptr [.i t]]] (.tuple [.i (findIx l ⟨n, t⟩), .b (findOk l ⟨n, t⟩)]) := by
 refine Zca Tryz.func105 rfl bo105 (by simp [go_sem, D.nr, nrs, nrr]) (by simp [Tryz.f105]) ?_
 unfold Tryz.f105
 simp only [Zfa]
 have ff := True.intro
 refine stp Lun ?_
 refine stp Lun ?_
 refine stp Lun ?_
 refine Zaa ?_
 refine Zda ?_
 refine lp (α := (Nat) × (Nat) × Nat) [0, 1, 2, 8] (fun ⟨i, j, nx⟩ => (i ≤ j) ∧ (j ≤ l.length) ∧ (findIx l ⟨n, t⟩ = Zmz (fun k => qC l[k]!.q ⟨n, t⟩) i j) ∧ True) (fun ⟨i, j, nx⟩ => j - i) (fun ⟨i, j, nx⟩ => [(9, .i i), (10, .i j)]) (fun ⟨i, j, nx⟩ => []) (fun ⟨i, j, nx⟩ => nx) (0, l.length, _) (hA := ⟨iv, iv, rfl, trivial⟩) (round := ?_)
 rintro ⟨i, j, nx⟩ ⟨hij, hj, hv, -⟩
 show DW _ _ _ _ { n := _, t := tab _, h := _, nx := _, e := _ }
 simp only [List.cons_append, List.nil_append]
 refine Zaa ?_
 refine stp Lun ?_
 refine cd (fun c1 => ?_) (fun c1 => ?_) (hp := rfl)
 ·
  have hk2 : i < j := by simpa using c1
  have hm : (i + j) / 2 < l.length := by omega
  have ff := And.intro (mid_eq (i := i) (j := j) (by omega)) (And.intro (Zma hm) ff)
  refine dw_skip ?_
  show DW _ _ _ _ _
  refine Zda ?_
  refine stp Lun ?_
  refine stp Lun ?_ (hok := by (try simp only [go_sem, ff]); all_goals (first | done | ((repeat' (with_reducible apply And.intro)) <;> first | exact Zjh l[(i + j) / 2]! n t | (intros; exact Zjh l[(i + j) / 2]! n t) | omega)))
  refine cd (fun c2 => ?_) (fun c2 => ?_)
  ·
   refine rgn Lun ?_
   show ∃ _, _
   exact rnd ((i + j) / 2 + 1, j, _) (h1 := ⟨iv, iv, (by first | (exact (Zrh hv hk2).1 c2) | (dsimp only; exact (Zrh hv hk2).1 c2)), trivial⟩)
  ·
   refine rgn Lun ?_
   show ∃ _, _
   exact rnd (i, (i + j) / 2, _) (h1 := ⟨iv, iv, (by (try dsimp only); exact (Zrh hv hk2).2 (by omega)), trivial⟩)
 ·
  refine Zka ?_
  show DW _ _ _ _ _
  have hij2 : i = j := by have h9 : ¬ i < j := (by simpa using c1); omega
  have hv2 : findIx l ⟨n, t⟩ = i := by rw [hv, Zzk, if_neg (by omega)]
  by_cases hk4 : i < l.length
  ·
   have ff := And.intro (Zma hk4) ff
   refine stp Lun ?_ (hok := by (try simp only [go_sem, ff]); all_goals (first | done | ((repeat' (with_reducible apply And.intro)) <;> first | exact Zjh l[i]! n t | (intros; exact Zjh l[i]! n t) | omega | (intro h; have h := of_decide_eq_true h; omega))))
   refine Zba ?_
   exact fin 2 (hr := by (try simp only [go_sem, ff]); all_goals (simp only [findOk]; rw [hv2]; simp [hk4]))
  ·
   have ff := And.intro (Zsv (f := Sgd.d) (Nat.le_of_not_lt hk4)) ff
   refine stp Lun ?_ (hok := by (try simp only [go_sem, ff]); all_goals (first | done | ((repeat' (with_reducible apply And.intro)) <;> first | exact Zjh l[i]! n t | (intros; exact Zjh l[i]! n t) | omega | (intro h; have h := of_decide_eq_true h; omega))))
   refine Zba ?_
   exact fin 2 (hr := by (try simp only [go_sem, ff]); all_goals (simp only [findOk]; rw [hv2]; simp [hk4]))
theorem bo72 : Zea Tryz.prog 72 = true := by kernel_rfl
theorem Zuc (z : Zon) (n : Str) (t : Int) (hl : z.sets.length ≤ 1000000) : PureCt Tryz.prog 72 [.agg z.d, .v (.string (bs n)), .i t] (.tuple [.i (findIx z.sets ⟨n, t⟩), .b (findOk z.sets ⟨n, t⟩)]) := by
 refine Zca Tryz.func72 rfl bo72 (by simp [go_sem, D.nr, nrs, nrr]) (by simp [Tryz.f72]) ?_
 unfold Tryz.f72
 simp only [Zfa]
 have ff := True.intro
 refine stp Lun ?_
 refine Zth 5 1 ev ev (by rfl) ?_
 refine stp Lun ?_ (hok := by (try simp only [go_sem, ff]); all_goals (first | done | ((repeat' (with_reducible apply And.intro)) <;> first | exact Zw7 _ n t hl | (intros; exact Zw7 _ n t hl) | skip)))
 refine Zba ?_
 exact fin 2 (hr := by (try simp only [go_sem, ff]); all_goals (rfl))
theorem bo73 : Zea Tryz.prog 73 = true := by kernel_rfl
theorem Zfe (a : List Dat) (b : List Dat) (hl : a.length ≤ 1000000) : PureCt Tryz.prog 73 [.list false (a.map Dat.d), .list false (b.map Dat.d)] (.b (decide (a = b))) := by
 refine Zca Tryz.func73 rfl bo73 (by simp [go_sem, D.nr, nrs, nrr]) (by simp [Tryz.f73]) ?_
 unfold Tryz.f73
 simp only [Zfa]
 have ff := True.intro
 refine stp Lun ?_
 refine Zaa ?_
 refine stp Lun ?_
 refine cd (fun c1 => ?_) (fun c1 => ?_)
 ·
  refine stp Lun ?_
  refine Zba ?_
  exact fin 0 (hr := by (try simp only [go_sem, ff]); all_goals (rw [decide_eq_false (eq_len (by omega))]))
 ·
  have hab : a.length = b.length := by omega
  refine dw_skip ?_
  show DW _ _ _ _ _
  refine Zaa ?_
  refine stp Lun ?_
  refine Zda ?_
  refine lp (α := (Nat) × Nat) [0, 1, 12] (fun ⟨k, nx⟩ => (k ≤ a.length) ∧ (∀ i, i < k → a[i]! = b[i]!) ∧ True) (fun ⟨k, nx⟩ => a.length - k) (fun ⟨k, nx⟩ => [(13, .i k)]) (fun ⟨k, nx⟩ => []) (fun ⟨k, nx⟩ => nx) (0, _) (hA := ⟨iv, (by first | (intro i hi; omega) | (dsimp only; intro i hi; omega)), trivial⟩) (round := ?_)
  rintro ⟨k, nx⟩ ⟨hk, hv, -⟩
  show DW _ _ _ _ { n := _, t := tab _, h := _, nx := _, e := _ }
  simp only [List.cons_append, List.nil_append]
  refine stp Lun ?_
  refine Zaa ?_
  refine cd (fun c2 => ?_) (fun c2 => ?_) (hp := rfl)
  ·
   have hk2 : k < a.length := by simpa using c2
   have hk3 : k < b.length := by omega
   have ff := And.intro (Zec hk2) (And.intro (Zec hk3) ff)
   refine dw_skip ?_
   show DW _ _ _ _ _
   refine Zaa ?_
   refine Zda ?_
   refine stp Lun ?_
   refine stp Lun ?_
   refine cd (fun c3 => ?_) (fun c3 => ?_)
   ·
    refine stp Lun ?_
    refine Zba ?_
    exact fin 0 (hr := by (try simp only [go_sem, ff]); all_goals (rw [decide_eq_false fun e => by subst e; simp at c3]))
   ·
    refine dw_skip ?_
    show DW _ _ _ _ _
    refine rgn Lun ?_
    show ∃ _, _
    exact rnd (k + 1, _) (h1 := ⟨iv, (by (try dsimp only); intro i hi; by_cases e : i = k; subst e; exact Zvr c3; exact hv i (by omega)), trivial⟩)
  ·
   refine Zka ?_
   show DW _ _ _ _ _
   refine stp Lun ?_
   refine Zba ?_
   exact fin 0 (hr := by (try simp only [go_sem, ff]); all_goals (rw [decide_eq_true (Zcm! hab fun i hi => hv i (by omega))]))
theorem bo78 : Zea Tryz.prog 78 = true := by kernel_rfl
theorem Zcp (a : Sgd) (b : Sgd) (ha : a.set.data.length ≤ 1000000) : PureCt Tryz.prog 78 [.agg a.d, .agg b.d] (.b (decide (a.set = b.set))) := by
 refine Zca Tryz.func78 rfl bo78 (by simp [go_sem, D.nr, nrs, nrr]) (by simp [Tryz.f78]) ?_
 unfold Tryz.f78
 simp only [Zfa]
 have ff := True.intro
 refine stp Lun ?_
 refine stp Lun ?_ (hok := by (try simp only [go_sem, ff]); all_goals (first | done | ((repeat' (with_reducible apply And.intro)) <;> first | exact Zfe _ _ ha | (intros; exact Zfe _ _ ha) | skip)))
 refine Zba ?_
 exact fin 0 (hr := by (try simp only [go_sem, ff]); all_goals (rw [eqSet_eq]))
theorem bo150 : Zea Tryz.prog 150 = true := by kernel_rfl
theorem Zr7 (l : List Dat) (x : Dat) (hl : l.length ≤ 1000000) : PureCt Tryz.prog 150 [.list false (l.map Dat.d), .agg x.d] (.i (firstAt (fun y => decide (x = y)) l 0)) := by
 refine Zca Tryz.func150 rfl bo150 (by simp [go_sem, D.nr, nrs, nrr]) (by simp [Tryz.f150]) ?_
 unfold Tryz.f150
 simp only [Zfa]
 have ff := True.intro
 refine stp Lun ?_
 refine Zaa ?_
 refine stp Lun ?_
 refine Zda ?_
 refine lp (α := (Nat) × Nat) [0, 3, 7] (fun ⟨k, nx⟩ => (k ≤ l.length) ∧ (0 < nx) ∧ (firstAt (fun y => decide (x = y)) l 0 = firstAt (fun y => decide (x = y)) l k) ∧ True) (fun ⟨k, nx⟩ => l.length - k) (fun ⟨k, nx⟩ => [(8, .i k)]) (fun ⟨k, nx⟩ => [(0, ⟨63, [x.d]⟩)]) (fun ⟨k, nx⟩ => nx) (0, _) (hA := ⟨iv, iv, rfl, trivial⟩) (round := ?_)
 rintro ⟨k, nx⟩ ⟨hk, hx, hv, -⟩
 show DW _ _ _ _ { n := _, t := tab _, h := _, nx := _, e := _ }
 simp only [List.cons_append, List.nil_append]
 have ff := And.intro @hx ff
 refine stp Lun ?_
 refine Zaa ?_
 refine cd (fun c1 => ?_) (fun c1 => ?_) (hp := rfl)
 ·
  have hk2 : k < l.length := by simpa using c1
  have ff := And.intro (Zec hk2) ff
  refine dw_skip ?_
  show DW _ _ _ _ _
  refine Zaa ?_
  refine Zda ?_
  refine stp Lun ?_
  refine stp Lun ?_
  refine cd (fun c2 => ?_) (fun c2 => ?_)
  ·
   refine stp Lun ?_
   refine Zba ?_
   exact fin 0 (hr := by (try simp only [go_sem, ff]); all_goals (rw [hv, Zzy hk2 (decide_eq_true (Zvr c2))]))
  ·
   refine dw_skip ?_
   show DW _ _ _ _ _
   refine rgn Lun ?_
   show ∃ _, _
   exact rnd (k + 1, _) (h1 := ⟨iv, iv, (by (try dsimp only); rw [hv, Ywa hk2 (by rw [decide_eq_false_iff_not]; rintro rfl; simp at c2)]), trivial⟩)
 ·
  refine Zka ?_
  show DW _ _ _ _ _
  refine stp Lun ?_
  refine Zba ?_
  exact fin 0 (hr := by (try simp only [go_sem, ff]); all_goals (rw [hv, Zaz (by omega)]))
theorem bo119 : Zea Tryz.prog 119 = true := by kernel_rfl
theorem Zt2 (l : List Dat) (x : Dat) (hl : l.length ≤ 1000000) : PureCt Tryz.prog 119 [.list false (l.map Dat.d), .agg x.d] (.b (hasD l x)) := by
 refine Zca Tryz.func119 rfl bo119 (by simp [go_sem, D.nr, nrs, nrr]) (by simp [Tryz.f119]) ?_
 unfold Tryz.f119
 simp only [Zfa]
 have ff := True.intro
 refine stp Lun ?_
 refine stp Lun ?_ (hok := by (try simp only [go_sem, ff]); all_goals (first | done | ((repeat' (with_reducible apply And.intro)) <;> first | exact Zr7 l x hl | (intros; exact Zr7 l x hl) | skip)))
 refine Zba ?_
 exact fin 0 (hr := by (try simp only [go_sem, ff]); all_goals (rw [Zf6]))
theorem bo118 : Zea Tryz.prog 118 = true := by kernel_rfl
theorem Zvp (x : Dat) (s : RSet) (hl : s.data.length ≤ 1000000) : PureCt Tryz.prog 118 [.agg x.d, .eptr s.d] (.b (hasD s.data x)) := by
 refine Zca Tryz.func118 rfl bo118 (by simp [go_sem, D.nr, nrs, nrr]) (by simp [Tryz.f118]) ?_
 unfold Tryz.f118
 simp only [Zfa]
 have ff := True.intro
 refine stp Lun ?_
 refine stp Lun ?_ (hok := by (try simp only [go_sem, ff]); all_goals (first | done | ((repeat' (with_reducible apply And.intro)) <;> first | exact Zt2 s.data x hl | (intros; exact Zt2 s.data x hl) | skip)))
 refine Zba ?_
 exact fin 2 (hr := by (try simp only [go_sem, ff]); all_goals (rfl))
theorem bo149 : Zea Tryz.prog 149 = true := by kernel_rfl
theorem uixd_ct (l : List Dat) (s : RSet) (hl : l.length ≤ 1000000) (hs : s.data.length ≤ 1000000) : PureCt Tryz.prog 149 [.list false (l.map Dat.d), .fn (.func 118) [] [.eptr s.d]] (.i (firstAt (hasD s.data) l 0)) := by
 refine Zca Tryz.func149 rfl bo149 (by simp [go_sem, D.nr, nrs, nrr]) (by simp [Tryz.f149]) ?_
 unfold Tryz.f149
 simp only [Zfa]
 have ff := True.intro
 refine stp Lun ?_
 refine Zaa ?_
 refine stp Lun ?_
 refine Zda ?_
 refine lp (α := (Nat) × Nat) [0, 1, 7] (fun ⟨k, nx⟩ => (k ≤ l.length) ∧ (firstAt (hasD s.data) l 0 = firstAt (hasD s.data) l k) ∧ True) (fun ⟨k, nx⟩ => l.length - k) (fun ⟨k, nx⟩ => [(8, .i k)]) (fun ⟨k, nx⟩ => []) (fun ⟨k, nx⟩ => nx) (0, _) (hA := ⟨iv, rfl, trivial⟩) (round := ?_)
 rintro ⟨k, nx⟩ ⟨hk, hv, -⟩
 show DW _ _ _ _ { n := _, t := tab _, h := _, nx := _, e := _ }
 simp only [List.cons_append, List.nil_append]
 refine stp Lun ?_
 refine Zaa ?_
 refine cd (fun c1 => ?_) (fun c1 => ?_) (hp := rfl)
 ·
  have hk2 : k < l.length := by simpa using c1
  have ff := And.intro (Zec hk2) ff
  refine dw_skip ?_
  show DW _ _ _ _ _
  refine Zaa ?_
  refine Zda ?_
  refine stp Lun ?_
  refine stp Lun ?_ (hok := by (try simp only [go_sem, ff]); all_goals (first | done | ((repeat' (with_reducible apply And.intro)) <;> first | exact Zvp l[k]! s hs | (intros; exact Zvp l[k]! s hs) | omega | skip)))
  refine cd (fun c2 => ?_) (fun c2 => ?_)
  ·
   refine stp Lun ?_
   refine Zba ?_
   exact fin 2 (hr := by (try simp only [go_sem, ff]); all_goals (rw [hv, Zzy hk2 c2]))
  ·
   refine dw_skip ?_
   show DW _ _ _ _ _
   refine rgn Lun ?_
   show ∃ _, _
   exact rnd (k + 1, _) (h1 := ⟨iv, (by (try dsimp only); rw [hv, Ywa hk2 (by simpa using c2)]), trivial⟩)
 ·
  refine Zka ?_
  show DW _ _ _ _ _
  refine stp Lun ?_
  refine Zba ?_
  exact fin 2 (hr := by (try simp only [go_sem, ff]); all_goals (rw [hv, Zaz (by omega)]))
theorem bo114 : Zea Tryz.prog 114 = true := by kernel_rfl
theorem ucmpd_ct (a : Dat) (b : Dat) : PureCt Tryz.prog 114 [.agg a.d, .agg b.d] (.i (datC a b)) := by
 refine Zca Tryz.func114 rfl bo114 (by simp [go_sem, D.nr, nrs, nrr]) (by simp [Tryz.f114]) ?_
 unfold Tryz.f114
 simp only [Zfa]
 have ff := True.intro
 refine stp Lun ?_
 refine stp Lun ?_ (hok := by (try simp only [go_sem, ff]); all_goals (first | done | ((repeat' (with_reducible apply And.intro)) <;> first | exact Zfz _ _ | exact Zwh _ _ | exact Ze4 [_, _, _] | omega)))
 refine Zba ?_
 exact fin 0 (hr := by (try simp only [go_sem, ff]); all_goals (rw [← Zpt]; rfl))
set_option maxRecDepth 10000
theorem Zqf {l : List Sgd} {k : Nat} (h : k < l.length) : l[k]! ∈ l := mem_ix.2 ⟨k, h, rfl⟩
theorem bo32 : Zea Tryz.prog 32 = true := by kernel_rfl
theorem Zk7 (u : Upd) : PureCt Tryz.prog 32 [.agg u.d] (.b (updOk u)) := by
 refine Zca Tryz.func32 rfl bo32 (by simp [go_sem, D.nr, nrs, nrr]) (by simp [Tryz.f32]) ?_
 unfold Tryz.f32
 simp only [Zfa]
 have ff := True.intro
 refine stp Lun ?_
 refine Zaa ?_
 refine stp Lun ?_
 refine cd (fun c1 => ?_) (fun c1 => ?_)
 ·
  refine stp Lun ?_
  refine Zba ?_
  exact fin 0 (hr := by (try simp only [go_sem, ff]); all_goals (simp only [updOk]; grind))
 ·
  refine dw_skip ?_
  show DW _ _ _ _ _
  refine Zaa ?_
  refine stp Lun ?_
  refine Zda ?_
  refine lp (α := (Nat) × Nat) [1, 18, 19] (fun ⟨k, nx⟩ => (k ≤ u.needs.length) ∧ (Zya u.needs.length ((fun i => needOk u.needs[i]!)) 0 = Zya u.needs.length ((fun i => needOk u.needs[i]!)) k) ∧ (0 < nx) ∧ True) (fun ⟨k, nx⟩ => u.needs.length - k) (fun ⟨k, nx⟩ => [(20, .i k)]) (fun ⟨k, nx⟩ => [(0, ⟨28, [u.d]⟩)]) (fun ⟨k, nx⟩ => nx) (0, _) (hA := ⟨iv, rfl, iv, trivial⟩) (round := ?_)
  rintro ⟨k, nx⟩ ⟨hk, hv1, hx, -⟩
  show DW _ _ _ _ { n := _, t := tab _, h := _, nx := _, e := _ }
  simp only [List.cons_append, List.nil_append]
  have ff := And.intro @hx ff
  refine stp Lun ?_
  refine Zaa ?_
  refine cd (fun c2 => ?_) (fun c2 => ?_) (hp := rfl)
  ·
   have hk2 : k < u.needs.length := by simpa using c2
   have ff := And.intro (Zug hk2) ff
   refine dw_skip ?_
   show DW _ _ _ _ _
   refine Zaa ?_
   refine Zda ?_
   refine stp Lun ?_
   refine stp Lun ?_ (hok := by (try simp only [go_sem, ff]); all_goals (first | done | ((repeat' (with_reducible apply And.intro)) <;> first | exact Zep u.needs[k]! | (intros; exact Zep u.needs[k]!) | omega | skip)))
   refine cd (fun c3 => ?_) (fun c3 => ?_)
   ·
    refine stp Lun ?_
    refine Zba ?_
    exact fin 0 (hr := by (try simp only [go_sem, ff]); all_goals (have hF : ((fun i => needOk u.needs[i]!)) k = false := (by simpa using c3); simp only [updOk]; rw [hv1, Zpa hk2 hF]; try simp))
   ·
    refine dw_skip ?_
    show DW _ _ _ _ _
    refine rgn Lun ?_
    show ∃ _, _
    have h8 : ((fun i => needOk u.needs[i]!)) k = true := by simpa using c3
    exact rnd (k + 1, _) (h1 := ⟨iv, (by first | (rw [hv1, Zha hk2 h8]) | (dsimp only; rw [hv1, Zha hk2 h8])), iv, trivial⟩)
  ·
   refine Zka ?_
   show DW _ _ _ _ _
   refine Zaa ?_
   refine stp Lun ?_
   refine Zda ?_
   refine lp (α := (Nat) × Nat) [29, 30] (fun ⟨k, nx⟩ => (k ≤ u.chgs.length) ∧ (Zya u.chgs.length ((fun i => chgOk u.chgs[i]!)) 0 = Zya u.chgs.length ((fun i => chgOk u.chgs[i]!)) k) ∧ (0 < nx) ∧ True) (fun ⟨k, nx⟩ => u.chgs.length - k) (fun ⟨k, nx⟩ => [(31, .i k)]) (fun ⟨k, nx⟩ => [(0, ⟨28, [u.d]⟩)]) (fun ⟨k, nx⟩ => nx) (0, _) (hA := ⟨iv, rfl, iv, trivial⟩) (round := ?_)
   rintro ⟨k, nx⟩ ⟨hk, hv, hx, -⟩
   show DW _ _ _ _ { n := _, t := tab _, h := _, nx := _, e := _ }
   simp only [List.cons_append, List.nil_append]
   have ff := And.intro @hx ff
   refine stp Lun ?_
   refine Zaa ?_
   refine cd (fun c4 => ?_) (fun c4 => ?_) (hp := rfl)
   ·
    have hk2 : k < u.chgs.length := by simpa using c4
    have ff := And.intro (Zug hk2) ff
    refine dw_skip ?_
    show DW _ _ _ _ _
    refine Zaa ?_
    refine Zda ?_
    refine stp Lun ?_
    refine stp Lun ?_ (hok := by (try simp only [go_sem, ff]); all_goals (first | done | ((repeat' (with_reducible apply And.intro)) <;> first | exact Zv7 u.chgs[k]! | (intros; exact Zv7 u.chgs[k]!) | omega | skip)))
    refine cd (fun c5 => ?_) (fun c5 => ?_)
    ·
     refine stp Lun ?_
     refine Zba ?_
     exact fin 0 (hr := by (try simp only [go_sem, ff]); all_goals (have hF : ((fun i => chgOk u.chgs[i]!)) k = false := (by simpa using c5); simp only [updOk]; rw [hv, Zpa hk2 hF]; try simp))
    ·
     refine dw_skip ?_
     show DW _ _ _ _ _
     refine rgn Lun ?_
     show ∃ _, _
     have h8 : ((fun i => chgOk u.chgs[i]!)) k = true := by simpa using c5
     exact rnd (k + 1, _) (h1 := ⟨iv, (by first | (rw [hv, Zha hk2 h8]) | (dsimp only; rw [hv, Zha hk2 h8])), iv, trivial⟩)
   ·
    refine Zka ?_
    show DW _ _ _ _ _
    refine stp Lun ?_
    refine Zba ?_
    exact fin 0 (hr := by (try simp only [go_sem, ff]); all_goals (simp only [updOk]; rw [hv1, hv, Zua (n := u.needs.length) (by omega), Zua (by omega)]; simp; grind))
theorem bo35 : Zea Tryz.prog 35 = true := by kernel_rfl
theorem Zfp (z : Zon) (n : Chg) (hl : z.sets.length ≤ 1000000) (hd : ∀ s ∈ z.sets, s.set.data.length ≤ 1000000) : PureCt Tryz.prog 35 [.agg z.d, .agg n.d] (.b (holdP z n)) := by
 refine Zca Tryz.func35 rfl bo35 (by simp [go_sem, D.nr, nrs, nrr]) (by simp [Tryz.f35]) ?_
 unfold Tryz.f35
 simp only [Zfa]
 have ff := True.intro
 refine stp Lun ?_
 refine Zaa ?_
 refine stp Lun ?_
 refine Zda ?_
 refine Zaa ?_
 refine stp Lun ?_
 refine cd (fun c1 => ?_) (fun c1 => ?_)
 ·
  refine dw_skip ?_
  show DW _ _ _ _ _
  refine cd (fun c2 => ?_) (fun c2 => ?_)
  ·
   refine Zth 3 1 ev ev (by simp [nrs, D.nr, Zmf]) ?_
   refine stp Lun ?_ (hok := by (try simp only [go_sem, ff]); all_goals (first | done | ((repeat' (with_reducible apply And.intro)) <;> first | exact Zgp _ hl n | (intros; exact Zgp _ hl n) | skip)))
   refine stp Lun ?_
   refine Zba ?_
   exact fin 2 (hr := by (try simp only [go_sem, ff]); all_goals (simp only [holdP, show n.q = ⟨n.set.name, n.set.ty⟩ from rfl]; grind))
  ·
   refine dw_skip ?_
   show DW _ _ _ _ _
   refine stp Lun ?_ (hok := by (try simp only [go_sem, ff]); all_goals (first | done | ((repeat' (with_reducible apply And.intro)) <;> first | exact Zuc z n.set.name n.set.ty hl | (intros; exact Zuc z n.set.name n.set.ty hl) | skip)))
   refine Zaa ?_
   refine stp Lun ?_
   refine Zda ?_
   refine stp Lun ?_
   refine cd (fun c3 => ?_) (fun c3 => ?_)
   ·
    refine stp Lun ?_
    refine Zba ?_
    exact fin 2 (hr := by (try simp only [go_sem, ff]); all_goals (simp only [holdP, show n.q = ⟨n.set.name, n.set.ty⟩ from rfl]; grind))
   ·
    refine stp Lun ?_
    refine cd (fun c4 => ?_) (fun c4 => ?_)
    ·
     refine stp Lun ?_
     refine Zba ?_
     exact fin 2 (hr := by (try simp only [go_sem, ff]); all_goals (simp only [holdP, show n.q = ⟨n.set.name, n.set.ty⟩ from rfl]; grind))
    ·
     refine dw_skip ?_
     show DW _ _ _ _ _
     rcases hf : findOk z.sets ⟨n.set.name, n.set.ty⟩ with _ | _
     ·
      have ff := And.intro @hf ff
      refine stp Lun ?_ (hok := by (try simp only [go_sem, ff]); all_goals (first | done | ((repeat' (with_reducible apply And.intro)) <;> first | exact Zfe _ _ (hd _ (Zqf hf2)) | (intros; exact Zfe _ _ (hd _ (Zqf hf2))) | (intros; exact Zfe _ _ (hd _ (Zqf hf2))) | omega | (intro h; cases h) | skip)))
      refine Zba ?_
      exact fin 2 (hr := by (try simp only [go_sem, ff]); all_goals (simp only [holdP, show n.q = ⟨n.set.name, n.set.ty⟩ from rfl]; grind))
     ·
      have hf2 := Zk1 hf
      have ff := And.intro @hf (And.intro (Zma hf2) ff)
      refine stp Lun ?_ (hok := by (try simp only [go_sem, ff]); all_goals (first | done | ((repeat' (with_reducible apply And.intro)) <;> first | exact Zfe _ _ (hd _ (Zqf hf2)) | (intros; exact Zfe _ _ (hd _ (Zqf hf2))) | (intros; exact Zfe _ _ (hd _ (Zqf hf2))) | omega | (intro h; cases h) | skip)))
      refine Zba ?_
      exact fin 2 (hr := by (try simp only [go_sem, ff]); all_goals (simp only [holdP, show n.q = ⟨n.set.name, n.set.ty⟩ from rfl]; grind))
 ·
  refine rgn Lun ?_
  show DW _ _ _ _ _
  refine cd (fun c5 => ?_) (fun c5 => ?_)
  ·
   refine Zth 3 1 ev ev (by simp [nrs, D.nr, Zmf]) ?_
   refine stp Lun ?_ (hok := by (try simp only [go_sem, ff]); all_goals (first | done | ((repeat' (with_reducible apply And.intro)) <;> first | exact Zgp _ hl n | (intros; exact Zgp _ hl n) | skip)))
   refine stp Lun ?_
   refine Zba ?_
   exact fin 2 (hr := by (try simp only [go_sem, ff]); all_goals (simp only [holdP, show n.q = ⟨n.set.name, n.set.ty⟩ from rfl]; grind))
  ·
   refine dw_skip ?_
   show DW _ _ _ _ _
   refine stp Lun ?_ (hok := by (try simp only [go_sem, ff]); all_goals (first | done | ((repeat' (with_reducible apply And.intro)) <;> first | exact Zuc z n.set.name n.set.ty hl | (intros; exact Zuc z n.set.name n.set.ty hl) | skip)))
   refine Zaa ?_
   refine stp Lun ?_
   refine Zda ?_
   refine stp Lun ?_
   refine cd (fun c6 => ?_) (fun c6 => ?_)
   ·
    refine stp Lun ?_
    refine Zba ?_
    exact fin 2 (hr := by (try simp only [go_sem, ff]); all_goals (simp only [holdP, show n.q = ⟨n.set.name, n.set.ty⟩ from rfl]; grind))
   ·
    refine stp Lun ?_
    refine cd (fun c7 => ?_) (fun c7 => ?_)
    ·
     refine stp Lun ?_
     refine Zba ?_
     exact fin 2 (hr := by (try simp only [go_sem, ff]); all_goals (simp only [holdP, show n.q = ⟨n.set.name, n.set.ty⟩ from rfl]; grind))
    ·
     refine dw_skip ?_
     show DW _ _ _ _ _
     rcases hf : findOk z.sets ⟨n.set.name, n.set.ty⟩ with _ | _
     ·
      have ff := And.intro @hf ff
      refine stp Lun ?_ (hok := by (try simp only [go_sem, ff]); all_goals (first | done | ((repeat' (with_reducible apply And.intro)) <;> first | exact Zfe _ _ (hd _ (Zqf hf2)) | (intros; exact Zfe _ _ (hd _ (Zqf hf2))) | (intros; exact Zfe _ _ (hd _ (Zqf hf2))) | omega | (intro h; cases h) | skip)))
      refine Zba ?_
      exact fin 2 (hr := by (try simp only [go_sem, ff]); all_goals (simp only [holdP, show n.q = ⟨n.set.name, n.set.ty⟩ from rfl]; grind))
     ·
      have hf2 := Zk1 hf
      have ff := And.intro @hf (And.intro (Zma hf2) ff)
      refine stp Lun ?_ (hok := by (try simp only [go_sem, ff]); all_goals (first | done | ((repeat' (with_reducible apply And.intro)) <;> first | exact Zfe _ _ (hd _ (Zqf hf2)) | (intros; exact Zfe _ _ (hd _ (Zqf hf2))) | (intros; exact Zfe _ _ (hd _ (Zqf hf2))) | omega | (intro h; cases h) | skip)))
      refine Zba ?_
      exact fin 2 (hr := by (try simp only [go_sem, ff]); all_goals (simp only [holdP, show n.q = ⟨n.set.name, n.set.ty⟩ from rfl]; grind))
theorem bo77 : Zea Tryz.prog 77 = true := by kernel_rfl
theorem Zs7 (a : List Sgd) (b : List Sgd) (hl : a.length ≤ 1000000) (hd : ∀ s ∈ a, s.set.data.length ≤ 1000000) : PureCt Tryz.prog 77 [.list false (a.map Sgd.d), .list false (b.map Sgd.d), .fn (.func 78) [] []] (.b (eqSets a b)) := by
 refine Zca Tryz.func77 rfl bo77 (by simp [go_sem, D.nr, nrs, nrr]) (by simp [Tryz.f77]) ?_
 unfold Tryz.f77
 simp only [Zfa]
 have ff := True.intro
 refine stp Lun ?_
 refine Zaa ?_
 refine stp Lun ?_
 refine cd (fun c1 => ?_) (fun c1 => ?_)
 ·
  refine stp Lun ?_
  refine Zba ?_
  exact fin 0 (hr := by (try simp only [go_sem, ff]); all_goals (simp only [eqSets]; rw [decide_eq_false (by omega)]; rfl))
 ·
  have hab : a.length = b.length := by omega
  refine dw_skip ?_
  show DW _ _ _ _ _
  refine Zaa ?_
  refine stp Lun ?_
  refine Zda ?_
  refine lp (α := (Nat) × Nat) [1, 2, 15, 16] (fun ⟨k, nx⟩ => (k ≤ a.length) ∧ (Zya a.length ((fun i => decide (a[i]!.set = b[i]!.set))) 0 = Zya a.length ((fun i => decide (a[i]!.set = b[i]!.set))) k) ∧ True) (fun ⟨k, nx⟩ => a.length - k) (fun ⟨k, nx⟩ => [(17, .i k)]) (fun ⟨k, nx⟩ => []) (fun ⟨k, nx⟩ => nx) (0, _) (hA := ⟨iv, rfl, trivial⟩) (round := ?_)
  rintro ⟨k, nx⟩ ⟨hk, hv, -⟩
  show DW _ _ _ _ { n := _, t := tab _, h := _, nx := _, e := _ }
  simp only [List.cons_append, List.nil_append]
  refine stp Lun ?_
  refine Zaa ?_
  refine cd (fun c2 => ?_) (fun c2 => ?_) (hp := rfl)
  ·
   have hk2 : k < a.length := by simpa using c2
   have hk3 : k < b.length := by omega
   have ff := And.intro (Zma hk2) (And.intro (Zma hk3) ff)
   refine dw_skip ?_
   show DW _ _ _ _ _
   refine Zaa ?_
   refine Zda ?_
   refine stp Lun ?_
   refine stp Lun ?_
   refine stp Lun ?_ (hok := by (try simp only [go_sem, ff]); all_goals (first | done | ((repeat' (with_reducible apply And.intro)) <;> first | exact Zcp a[k]! b[k]! (hd _ (Zqf hk2)) | (intros; exact Zcp a[k]! b[k]! (hd _ (Zqf hk2))) | omega | skip)))
   refine cd (fun c3 => ?_) (fun c3 => ?_)
   ·
    refine stp Lun ?_
    refine Zba ?_
    exact fin 0 (hr := by (try simp only [go_sem, ff]); all_goals (have hF : (fun i => decide (a[i]!.set = b[i]!.set)) k = false := (by simpa using c3); simp only [eqSets]; rw [hv, Zpa hk2 hF]; simp))
   ·
    refine dw_skip ?_
    show DW _ _ _ _ _
    refine rgn Lun ?_
    show ∃ _, _
    have h8 : ((fun i => decide (a[i]!.set = b[i]!.set))) k = true := by simpa using c3
    exact rnd (k + 1, _) (h1 := ⟨iv, (by first | (rw [hv, Zha hk2 h8]) | (dsimp only; rw [hv, Zha hk2 h8])), trivial⟩)
  ·
   refine Zka ?_
   show DW _ _ _ _ _
   refine stp Lun ?_
   refine Zba ?_
   exact fin 0 (hr := by (try simp only [go_sem, ff]); all_goals (simp only [eqSets]; rw [hv, Zua (by omega)]; simp [hab]))
set_option maxRecDepth 10000
@[go_sem] theorem all_dat6 {l : List Dat} : (∀ r ∈ l.map Dat.d, r.length = 3) = True := by
 apply eq_true
 intro r hr
 obtain ⟨x, _, rfl⟩ := List.mem_map.1 hr
 rfl
theorem bo100 : Zea Tryz.prog 100 = true := by kernel_rfl
theorem Zvn (l : List Dat) (h0 : 0 < l.length) (hl : l.length ≤ 100000) (h : H) (n : Nat) : RCt Tryz.prog 100 [.list false (l.map Dat.d)] h n (fun d h' n' => ∃ r', d = .mrow r' 0 l.length ∧ h' = upd h r' (some ⟨63, (l).map Dat.d⟩) ∧ n ≤ r' ∧ r' < n') := by
 refine Zlb Tryz.func100 rfl bo100 (by simp [Tryz.f100]) (fun hnone => ?_)
 unfold Tryz.f100
 have ff := True.intro
 refine stp Lun ?_
 refine Zaa ?_
 refine Zaa (Zfo ?_)
 refine Zdq (C := Lun) 1 (e := 63) (by omega) (Zqb rfl) rfl rfl (by kernel_rfl) (by simp only [List.drop_succ_cons, List.drop_zero, List.take_succ_cons, List.take_zero, S.put, Nat.sub_self, go_sem, ff]; exact rfl) ?_ (by rfl) (by simp only [go_sem, ff]; exact rfl) (fun y hy => ?_)
 ·
  try simp only [go_sem, ff]
  all_goals (first | done | (repeat' (with_reducible apply And.intro)) <;> first | omega | (with_reducible assumption) | (intros; omega) | (intros; simp only [decide_eq_true_eq, decide_eq_false_iff_not, Bool.or_eq_true, Bool.and_eq_true, Bool.or_eq_false_iff, Bool.not_eq_true', Bool.not_eq_false'] at *; omega) | (simp_all; done) | (simp_all; omega))
 refine Zei (C := Lun) (by first | decide | simp) (by simp only [List.drop_succ_cons, List.drop_zero, List.take_succ_cons, List.take_zero, S.put, Nat.sub_self, go_sem, ff]; exact rfl) ?_ rfl ?_
 ·
  try simp only [go_sem, ff]
  all_goals (first | done | (repeat' (with_reducible apply And.intro)) <;> first | omega | (with_reducible assumption) | (intros; omega) | (intros; simp only [decide_eq_true_eq, decide_eq_false_iff_not, Bool.or_eq_true, Bool.and_eq_true, Bool.or_eq_false_iff, Bool.not_eq_true', Bool.not_eq_false'] at *; omega) | (simp_all; done) | (simp_all; omega))
 try simp only [Zna]
 refine cd (fun c1 => ?_) (fun c1 => ?_) (hp := rfl) (hq := rfl)
 ·
  exact absurd (hy c1) (by cases l with | nil => simp at h0 | cons a b => simp)
 ·
  refine dw_skip ?_
  show DW _ _ _ _ _
  refine stp Lun ?_
  refine Zba ?_
  exact Zik (upd h (n + 5) (some ⟨63, (l).map Dat.d⟩)) (hr := by (try simp only [go_sem, ff]); all_goals (exact ⟨n + 5, by simp, by simp, by omega, by omega⟩))
theorem bo75 : Zea Tryz.prog 75 = true := by kernel_rfl
theorem Zu7 (z : Zon) (hl : z.sets.length ≤ 100000) (hd : ∀ s ∈ z.sets, 0 < s.set.data.length ∧ s.set.data.length ≤ 100000) (h : H) (n : Nat) : RCt Tryz.prog 75 [.agg z.d] h n (fun d h' n' => ∃ rs p, d = .agg [.v (.string (bs z.apex)), .mrow rs 0 p.length] ∧ lP p = z.sets.map Sgd.bare ∧ h' rs = some ⟨52, p.map rowP⟩ ∧ (∀ x ∈ p, h' x.1 = some ⟨63, x.2.set.data.map Dat.d⟩) ∧ (p.map (·.1)).Nodup ∧ (∀ x ∈ p, x.1 ≠ rs ∧ n ≤ x.1 ∧ x.1 < n') ∧ n ≤ rs ∧ rs < n' ∧ (∀ q, q < n → h' q = h q)) := by
 refine Zlb Tryz.func75 rfl bo75 (by simp [Tryz.f75]) (fun hnone => ?_)
 unfold Tryz.f75
 have ff := True.intro
 refine stp Lun ?_
 refine stp Lun ?_
 refine Zaa ?_
 refine stp Lun ?_
 refine Zda ?_
 refine lph (α := (Nat) × (List PS) × Nat) [1, 2, 3, 11, 12] (fun ⟨k, p, nx⟩ => (k ≤ z.sets.length) ∧ (n + 5 < nx) ∧ (lP p = (z.sets.take k).map Sgd.bare) ∧ ((p.map (·.1)).Nodup) ∧ (∀ x ∈ p, n + 5 < x.1 ∧ x.1 < nx) ∧ True) (fun ⟨k, p, nx⟩ => z.sets.length - k) (fun ⟨k, p, nx⟩ => [(13, .i k)]) (fun ⟨k, p, nx⟩ => upd (upd (upd (hpP 63 h p) n (some ⟨24, [z.d]⟩)) (n + 1) (some ⟨24, [[.v (.string (bs [])), .list true []]]⟩)) (n + 5) (some ⟨52, p.map rowP ++ List.replicate (z.sets.length - k) [.v (.string (bs [])), .i 0, .i 0, .list true [], .list true []]⟩)) (fun ⟨k, p, nx⟩ => nx) (0, [], _) (hA := ⟨iv, iv, rfl, (by first | (exact List.nodup_nil) | (dsimp only; exact List.nodup_nil)), (by first | (intro x hx9; cases hx9) | (dsimp only; intro x hx9; cases hx9)), trivial⟩) (round := ?_)
 rintro ⟨k, p, nx⟩ ⟨hk, hx, hp, hnd, hpn, -⟩
 show DW _ _ _ _ { n := _, t := tab _, h := _, nx := _, e := _ }
 simp only [List.cons_append, List.nil_append]
 have hpl := lP_take hp hk
 have zn_n1 : (n = n + 1) = False := eq_false (by omega)
 have yn1_n : (n + 1 = n) = False := eq_false (by omega)
 have zn_n5 : (n = n + 5) = False := eq_false (by omega)
 have yn5_n : (n + 5 = n) = False := eq_false (by omega)
 have zn_nx4 : (n = nx + 4) = False := eq_false (by omega)
 have ynx4_n : (nx + 4 = n) = False := eq_false (by omega)
 have zn1_n5 : (n + 1 = n + 5) = False := eq_false (by omega)
 have yn5_n1 : (n + 5 = n + 1) = False := eq_false (by omega)
 have zn1_nx4 : (n + 1 = nx + 4) = False := eq_false (by omega)
 have ynx4_n1 : (nx + 4 = n + 1) = False := eq_false (by omega)
 have zn5_nx4 : (n + 5 = nx + 4) = False := eq_false (by omega)
 have ynx4_n5 : (nx + 4 = n + 5) = False := eq_false (by omega)
 have ff := And.intro @hx (And.intro @hpl (And.intro @zn_n1 (And.intro @yn1_n (And.intro @zn_n5 (And.intro @yn5_n (And.intro @zn_nx4 (And.intro @ynx4_n (And.intro @zn1_n5 (And.intro @yn5_n1 (And.intro @zn1_nx4 (And.intro @ynx4_n1 (And.intro @zn5_nx4 (And.intro @ynx4_n5 ff)))))))))))))
 refine stp Lun ?_
 refine Zaa ?_
 refine cd (fun c1 => ?_) (fun c1 => ?_) (hp := rfl) (hq := rfl)
 ·
  have hk2 : k < z.sets.length := by simpa using c1
  have ff := And.intro (Zma hk2) (And.intro (rows_at (z := [.v (.string (bs [])), .i 0, .i 0, .list true [], .list true []]) hpl hk2) ff)
  refine dw_skip ?_
  show DW _ _ _ _ _
  refine Zaa ?_
  refine Zda ?_
  refine stp Lun ?_
  refine Zaa (Ze2 Lun 3 (hct := by exact Zvn _ (hd _ (Zqf hk2)).1 (hd _ (Zqf hk2)).2 _ _) (hk := ?_))
  rintro res h2 n2 ⟨r1, rfl, rfl, a1, b1⟩
  try dsimp only at a1 b1
  have zn_n1 : (n = n + 1) = False := eq_false (by omega)
  have yn1_n : (n + 1 = n) = False := eq_false (by omega)
  have zn_n5 : (n = n + 5) = False := eq_false (by omega)
  have yn5_n : (n + 5 = n) = False := eq_false (by omega)
  have zn_nx4 : (n = nx + 4) = False := eq_false (by omega)
  have ynx4_n : (nx + 4 = n) = False := eq_false (by omega)
  have zn_r1 : (n = r1) = False := eq_false (by omega)
  have yr1_n : (r1 = n) = False := eq_false (by omega)
  have zn1_n5 : (n + 1 = n + 5) = False := eq_false (by omega)
  have yn5_n1 : (n + 5 = n + 1) = False := eq_false (by omega)
  have zn1_nx4 : (n + 1 = nx + 4) = False := eq_false (by omega)
  have ynx4_n1 : (nx + 4 = n + 1) = False := eq_false (by omega)
  have zn1_r1 : (n + 1 = r1) = False := eq_false (by omega)
  have yr1_n1 : (r1 = n + 1) = False := eq_false (by omega)
  have zn5_nx4 : (n + 5 = nx + 4) = False := eq_false (by omega)
  have ynx4_n5 : (nx + 4 = n + 5) = False := eq_false (by omega)
  have zn5_r1 : (n + 5 = r1) = False := eq_false (by omega)
  have yr1_n5 : (r1 = n + 5) = False := eq_false (by omega)
  have znx4_r1 : (nx + 4 = r1) = False := eq_false (by omega)
  have yr1_nx4 : (r1 = nx + 4) = False := eq_false (by omega)
  have ff := And.intro @b1 (And.intro @zn_n1 (And.intro @yn1_n (And.intro @zn_n5 (And.intro @yn5_n (And.intro @zn_nx4 (And.intro @ynx4_n (And.intro @zn_r1 (And.intro @yr1_n (And.intro @zn1_n5 (And.intro @yn5_n1 (And.intro @zn1_nx4 (And.intro @ynx4_n1 (And.intro @zn1_r1 (And.intro @yr1_n1 (And.intro @zn5_nx4 (And.intro @ynx4_n5 (And.intro @zn5_r1 (And.intro @yr1_n5 (And.intro @znx4_r1 (And.intro @yr1_nx4 ff))))))))))))))))))))
  refine Zd2 Lun ?_
  show DW _ _ _ _ _
  refine stp Lun ?_
  refine rgn Lun ?_
  show DW _ _ _ _ _
  refine rgn Lun ?_
  show ∃ _, _
  refine rnd (k + 1, p ++ [(r1, z.sets[k]!.bare)], _) (h1 := ⟨iv, iv, (by (try dsimp only); rw [bare_to hk2, ← hp]; simp [lP]), (by (try dsimp only); exact Zn5 hnd fun y hy => by have := hpn y hy; dsimp only; omega), (by (try dsimp only); intro x hx9; rcases List.mem_append.1 hx9 with q | q; have := hpn x q; omega; rw [List.mem_singleton] at q; subst q; dsimp only; omega), trivial⟩) (h5 := ?_)
  have hst := Zl8 (x := (r1, z.sets[k]!.bare)) (z := [.v (.string (bs [])), .i 0, .i 0, .list true [], .list true []]) hpl hk2
  intro q
  dsimp only
  simp only [go_sem, ff, hpP_snoc]
  by_cases e4 : q = nx + 4
  ·
   right; subst e4; simp only [upd]; repeat rw [if_neg (by omega)]
   rw [Zrv (fun x hx9 => by have := hpn x hx9; omega)]; exact hnone _ (by omega)
  ·
   left; by_cases e5 : q = n + 5
   ·
    subst e5; simp only [upd, if_true, if_neg e4]; rw [← hst]; first | rfl | simp [rowP, Sgd.bare]
   ·
    simp only [upd, if_neg e4, if_neg e5]; repeat (first | rfl | (split; first | rfl | omega | skip))
 ·
  have hk3 : k = z.sets.length := by have : ¬ k < z.sets.length := (by simpa using c1); omega
  refine Zka ?_
  show DW _ _ _ _ _
  subst hk3
  refine stp Lun ?_
  refine stp Lun ?_
  refine Zba ?_
  exact Zik (_) (hh := fun _ => .inl rfl) (hr := by (try simp only [go_sem, ff]); all_goals (refine ⟨n + 5, p, by rw [hpl], by rw [hp, List.take_length], by simp [upd], fun x hx9 => ?_, hnd, fun x hx9 => ⟨?_, ?_, ?_⟩, ?_, ?_, fun q hq => ?_⟩; (have := hpn x hx9; simp only [upd]; repeat rw [if_neg (by omega)]); exact hpP_on hnd x hx9; (have := hpn x hx9; omega); (have := hpn x hx9; omega); (have := hpn x hx9; omega); omega; omega; simp only [upd]; (repeat rw [if_neg (by omega)]); exact Zrv fun x hx9 => by have := hpn x hx9; omega))
set_option maxRecDepth 10000
def srtU_ren : Go.Shelf.Ren := { f := fun x => match x with | 6 => 113 | 15 => 146 | 14 => 145 | 28 => 166 | 29 => 167 | 20 => 158 | 21 => 159 | 22 => 160 | 23 => 161 | 24 => 162 | 25 => 163 | 26 => 164 | 27 => 165 | 46 => 173 | 47 => 174 | 48 => 175 | 49 => 176 | 50 => 177 | 57 => 178 | n => n, t := fun x => match x with | 22 => 29 | 24 => 63 | 25 => 134 | 3 => 3 | 39 => 148 | 0 => 0 | 53 => 168 | 55 => 109 | 4 => 4 | 46 => 162 | 45 => 161 | 50 => 80 | 5 => 5 | 9 => 9 | 66 => 172 | 70 => 176 | 76 => 178 | 77 => 179 | n => n, g := fun n => n }
theorem srtU : Go.Proofs.SlLaysF0.n6 Tryz.prog srtU_ren := {
 mixed := by kernel_rfl
 f6 := ⟨Tryz.f113.name, by decide, Tryz.func113.trans (by kernel_rfl)⟩
 f14 := ⟨Tryz.f145.name, by decide, Tryz.func145.trans (by kernel_rfl)⟩
 f15 := Tryz.func146.trans (by kernel_rfl)
 f20 := ⟨Tryz.f158.name, by decide, Tryz.func158.trans (by kernel_rfl)⟩
 f21 := ⟨Tryz.f159.name, by decide, Tryz.func159.trans (by kernel_rfl)⟩
 f22 := ⟨Tryz.f160.name, by decide, Tryz.func160.trans (by kernel_rfl)⟩
 f23 := ⟨Tryz.f161.name, by decide, Tryz.func161.trans (by kernel_rfl)⟩
 f24 := ⟨Tryz.f162.name, by decide, Tryz.func162.trans (by kernel_rfl)⟩
 f25 := ⟨Tryz.f163.name, by decide, Tryz.func163.trans (by kernel_rfl)⟩
 f26 := ⟨Tryz.f164.name, by decide, Tryz.func164.trans (by kernel_rfl)⟩
 f27 := ⟨Tryz.f165.name, by decide, Tryz.func165.trans (by kernel_rfl)⟩
 f28 := Tryz.func166.trans (by kernel_rfl)
 f29 := Tryz.func167.trans (by kernel_rfl)
 f46 := ⟨Tryz.f173.name, by decide, Tryz.func173.trans (by kernel_rfl)⟩
 f47 := Tryz.func174.trans (by kernel_rfl)
 f48 := Tryz.func175.trans (by kernel_rfl)
 f49 := ⟨Tryz.f176.name, by decide, Tryz.func176.trans (by kernel_rfl)⟩
 f50 := ⟨Tryz.f177.name, by decide, Tryz.func177.trans (by kernel_rfl)⟩
 f57 := ⟨Tryz.f178.name, by decide, Tryz.func178.trans (by kernel_rfl)⟩
 t0 := Tryz.underlying0
 a0 := Tryz.isAgg0
 z0 := Tryz.sizeOf0
 v0 := Tryz.zeroValue0
 t3 := Tryz.underlying3
 a3 := Tryz.isAgg3
 z3 := Tryz.sizeOf3
 v3 := Tryz.zeroValue3
 t4 := Tryz.underlying4
 a4 := Tryz.isAgg4
 z4 := Tryz.sizeOf4
 v4 := Tryz.zeroValue4
 t5 := Tryz.underlying5
 a5 := Tryz.isAgg5
 z5 := Tryz.sizeOf5
 v5 := Tryz.zeroValue5
 t9 := Tryz.underlying9
 a9 := Tryz.isAgg9
 z9 := Tryz.sizeOf9
 v9 := Tryz.zeroValue9
 t22 := Tryz.underlying29
 a22 := Tryz.isAgg29
 z22 := Tryz.sizeOf29
 v22 := Tryz.zeroValue29
 t25 := Tryz.underlying134
 a25 := Tryz.isAgg134
 z25 := Tryz.sizeOf134
 v25 := Tryz.zeroValue134
 t39 := Tryz.underlying148
 a39 := Tryz.isAgg148
 z39 := Tryz.sizeOf148
 v39 := Tryz.zeroValue148
 t45 := Tryz.underlying161
 a45 := Tryz.isAgg161
 z45 := Tryz.sizeOf161
 v45 := Tryz.zeroValue161
 t46 := Tryz.underlying162
 a46 := Tryz.isAgg162
 z46 := Tryz.sizeOf162
 v46 := Tryz.zeroValue162
 t50 := Tryz.underlying80
 a50 := Tryz.isAgg80
 z50 := Tryz.sizeOf80
 v50 := Tryz.zeroValue80
 t53 := Tryz.underlying168
 a53 := Tryz.isAgg168
 z53 := Tryz.sizeOf168
 v53 := Tryz.zeroValue168
 t55 := Tryz.underlying109
 a55 := Tryz.isAgg109
 z55 := Tryz.sizeOf109
 v55 := Tryz.zeroValue109
 t66 := Tryz.underlying172
 a66 := Tryz.isAgg172
 z66 := Tryz.sizeOf172
 v66 := Tryz.zeroValue172
 t70 := Tryz.underlying176
 a70 := Tryz.isAgg176
 z70 := Tryz.sizeOf176
 v70 := Tryz.zeroValue176
 t76 := Tryz.underlying178
 a76 := Tryz.isAgg178
 z76 := Tryz.sizeOf178
 v76 := Tryz.zeroValue178
 t77 := Tryz.underlying179
 a77 := Tryz.isAgg179
 z77 := Tryz.sizeOf179
 v77 := Tryz.zeroValue179 }
theorem Zcw {x : List D} {l : List Dat} (h : x ∈ l.map Dat.d) : Dat.d (Dat.of x) = x := by
 obtain ⟨s, _, rfl⟩ := List.mem_map.1 h
 rw [Ztx]
theorem usort_ct (l : List Dat) (m : Nat) (h : H) (n r : Nat) (hm : m = l.length) (hl : l.length ≤ 100000) (hr : h r = some ⟨63, l.map Dat.d⟩) :
  RCt Tryz.prog 113 [.mrow r 0 m, .fn (.func 114) [] []] h n (fun d h' n' => d = .tuple [] ∧ n' = n ∧ ∃ l' : List Dat, l'.Perm l ∧ Sorted datC l' ∧ h' = upd h r (some ⟨63, l'.map Dat.d⟩)) := by
 have e : m = (l.map Dat.d).length := by simp [hm]
 rw [e]
 refine (sort_rct (ty := 63) srtU rfl rfl Tryz.isAgg63 Tryz.sizeOf63 (fun x y => datC (Dat.of x) (Dat.of y)) (by kernel_rfl) hr Zmf rfl (by simp; omega) (fun x hx y hy => ?_) ⟨fun x _ => ?_, fun x _ y _ z _ => ?_, fun x _ y _ z _ => ?_⟩).mono ?_
 ·
  have := ucmpd_ct (Dat.of x) (Dat.of y)
  rw [Zcw hx, Zcw hy] at this
  exact this
 ·
  have := cm_dat.self (Dat.of x); omega
 ·
  intro a b; exact cm_dat.lt_le a (by omega)
 ·
  intro a b
  have h1 := cm_dat.anti (Dat.of x) (Dat.of y); have h2 := cm_dat.anti (Dat.of y) (Dat.of z); have h3 := cm_dat.anti (Dat.of x) (Dat.of z)
  have := cm_dat.tr (Dat.of z) (Dat.of y) (Dat.of x) (by omega) (by omega)
  omega
 ·
  rintro d h' n' ⟨rfl, rfl, rows', hp, hs, rfl⟩
  have hback : (rows'.map Dat.of).map Dat.d = rows' := by
   rw [List.map_map]
   conv => rhs; rw [← List.map_id rows']
   exact List.map_congr_left fun x hx => Zcw (hp.mem_iff.1 hx)
  refine ⟨rfl, rfl, rows'.map Dat.of, ?_, ?_, by rw [hback]⟩
  ·
   have := hp.map Dat.of
   rwa [Zrd Ztx] at this
  ·
   unfold Sorted
   rw [List.pairwise_map]
   refine hs.imp fun {x y} h => ?_
   have h : ¬ datC (Dat.of y) (Dat.of x) < 0 := h
   have := cm_dat.anti (Dat.of x) (Dat.of y)
   omega
theorem Ylb {x y : Dat} (h : ¬x.t = y.t ∨ ¬x.n = y.n ∨ ¬x.m = y.m) : x ≠ y := by
 rintro rfl
 simp at h
theorem bo115 : Zea Tryz.prog 115 = true := by kernel_rfl
theorem Zuz (l : List Dat) (m : Nat) (h : H) (n r : Nat) (hm : m = l.length) (hl : l.length ≤ 1000000) (hr : h r = some ⟨63, l.map Dat.d⟩) : RCt Tryz.prog 115 [.mrow r 0 m] h n (fun d h' n' => d = .mrow r 0 (dpF l).length ∧ h' = upd h r (some ⟨63, (dpF l).map Dat.d⟩) ∧ n ≤ n') := by
 refine Zlb Tryz.func115 rfl bo115 (by simp [Tryz.f115]) (fun hnone => ?_)
 unfold Tryz.f115
 have ff := True.intro
 subst hm
 have ff := And.intro @hr ff
 refine stp Lun ?_
 refine Zaa ?_
 refine stp Lun ?_
 refine cd (fun c1 => ?_) (fun c1 => ?_)
 ·
  refine stp Lun ?_
  refine Zba ?_
  exact Zik (upd h r (some ⟨63, (dpF l).map Dat.d⟩)) (hr := by (try simp only [go_sem, ff]); all_goals (rw [Zop (by intro i h1 h2; omega)]; first | exact ⟨rfl, by omega⟩ | exact ⟨rfl, rfl, by omega⟩ | omega)) (hh := by rw [Zop (by intro i h1 h2; omega)]; intro q; left; unfold upd; split; rename_i e; subst e; exact hr.symm; rfl)
 ·
  refine dw_skip ?_
  show DW _ _ _ _ _
  refine Zaa ?_
  refine stp Lun ?_
  refine Zda ?_
  refine lph (α := (Nat) × Nat) [0] (fun ⟨k, nx⟩ => (k ≤ l.length) ∧ (1 ≤ k) ∧ (n ≤ nx) ∧ (∀ i, 0 < i → i < k → l[i]! ≠ l[i - 1]!) ∧ True) (fun ⟨k, nx⟩ => l.length - k) (fun ⟨k, nx⟩ => [(3, .i k)]) (fun ⟨k, nx⟩ => h) (fun ⟨k, nx⟩ => nx) (1, _) (hA := ⟨(by first | (omega) | (dsimp only; omega)), (by first | (omega) | (dsimp only; omega)), iv, (by first | (intro i h1 h2; omega) | (dsimp only; intro i h1 h2; omega)), trivial⟩) (round := ?_)
  rintro ⟨k, nx⟩ ⟨hk, hk1, hn, hv, -⟩
  show DW _ _ _ _ { n := _, t := tab _, h := _, nx := _, e := _ }
  simp only [List.cons_append, List.nil_append]
  refine Zaa ?_
  refine stp Lun ?_
  refine cd (fun c2 => ?_) (fun c2 => ?_)
  ·
   have hk2 : k < l.length := by omega
   have hk3 : k - 1 < l.length := by omega
   have e1 : ((k:Int) - 1).toNat = k - 1 := by omega
   have ff := And.intro (Zec hk2) (And.intro (Zec hk3) (And.intro @e1 ff))
   refine dw_skip ?_
   show DW _ _ _ _ _
   refine Zaa ?_
   refine Zda ?_
   refine stp Lun ?_
   refine cd (fun c3 => ?_) (fun c3 => ?_)
   ·
    have heq : ¬ (k = 0 ∨ l[k]! ≠ l[k - 1]!) := by rintro (q | q); omega; exact q (Zvr c3)
    have hcp : Zyk l (k + 1) = l.take k := by rw [Zt1 heq, Zbw k (by omega) hv]
    have hcr : dpR l (k + 1) = l.map Dat.d := by rw [Zb4 heq, dpR_same (by omega) hv]
    have hcl : (l.take k).length = k := by rw [List.length_take]; omega
    refine stp Lun ?_
    refine Zaa ?_
    refine stp Lun ?_
    refine Zda ?_
    have ff := And.intro @hcp (And.intro @hcr (And.intro @hcl ff))
    refine lph (α := (Nat) × Nat) [0, 4] (fun ⟨k2, nx⟩ => (k + k2 ≤ l.length) ∧ (1 ≤ k2) ∧ (n ≤ nx) ∧ ((Zyk l (k + k2)).length < k + k2) ∧ True) (fun ⟨k2, nx⟩ => l.length - k - k2) (fun ⟨k2, nx⟩ => [(3, .i (Zyk l (k + k2)).length), (5, .i k2)]) (fun ⟨k2, nx⟩ => upd h r (some ⟨63, dpR l (k + k2)⟩)) (fun ⟨k2, nx⟩ => nx) (1, _) (hA := ⟨(by first | (omega) | (dsimp only; omega)), iv, iv, (by first | (rw [hcp, hcl]; omega) | (dsimp only; rw [hcp, hcl]; omega)), trivial⟩) (round := ?_) (hhh := by intro q; left; dsimp only; rw [hcr]; unfold upd; split; rename_i e; subst e; exact hr.symm; rfl)
    rintro ⟨k2, nx⟩ ⟨hk2b, hk21, hn2, hcl2, -⟩
    show DW _ _ _ _ { n := _, t := tab _, h := _, nx := _, e := _ }
    simp only [List.cons_append, List.nil_append]
    refine Zaa ?_
    refine stp Lun ?_
    refine cd (fun c4 => ?_) (fun c4 => ?_)
    ·
     have hj : k + k2 < l.length := by omega
     have hcl := Zu1 (l := l) (k := k + k2) (by omega)
     have e1 : ((k2:Int) - 1).toNat = k2 - 1 := by omega
     have e2 : k + (k2 - 1) = k + k2 - 1 := by omega
     have ga := Ygb (l := l) (k := k + k2) (i := k + k2) (by omega) hj
     have gb := Ygb (l := l) (k := k + k2) (i := k + k2 - 1) (by omega) (by omega)
     have gc := Ygb (l := l) (k := k + k2) (i := (Zyk l (k + k2)).length) (Nat.le_refl _) (by omega)
     have ff := And.intro @e1 (And.intro @e2 (And.intro @ga (And.intro @gb (And.intro @gc (And.intro @hcl ff)))))
     refine dw_skip ?_
     show DW _ _ _ _ _
     refine Zaa ?_
     refine Zda ?_
     refine stp Lun ?_
     refine cd (fun c5 => ?_) (fun c5 => ?_)
     ·
      refine stp Lun ?_
      refine rgn Lun ?_
      show DW _ _ _ _ _
      refine rgn Lun ?_
      show ∃ _, _
      have hst : k + k2 = 0 ∨ l[k + k2]! ≠ l[k + k2 - 1]! := .inr (Ylb c5)
      have hs1 := dpR_set hst hj
      have hs2 : Zyk l (k + (k2 + 1)) = Zyk l (k + k2) ++ [l[k + k2]!] := Ztr hst
      have hs3 : dpR l (k + (k2 + 1)) = dpR l (k + k2 + 1) := rfl
      have hs4 : (Zyk l (k + (k2 + 1))).length = (Zyk l (k + k2)).length + 1 := by rw [hs2]; simp
      have ff := And.intro hs1 (And.intro hs3 (And.intro hs4 ff))
      refine rnd (k2 + 1, _) (h1 := ⟨iv, iv, iv, (by (try dsimp only); rw [show k + (k2 + 1) = k + k2 + 1 from by omega]; first | (rw [Ztr hst, List.length_append, List.length_singleton]; omega) | (rw [Zt1 hst]; omega)), trivial⟩) (h5 := ?_)
      intro q; left; simp only [upd]; split <;> simp_all
     ·
      refine dw_skip ?_
      show DW _ _ _ _ _
      refine rgn Lun ?_
      show ∃ _, _
      have hst : ¬ (k + k2 = 0 ∨ l[k + k2]! ≠ l[k + k2 - 1]!) := by rintro (q | q); omega; exact q (Zvr (by grind))
      have hs3 : dpR l (k + (k2 + 1)) = dpR l (k + k2) := Zb4 hst
      have hs4 : Zyk l (k + (k2 + 1)) = Zyk l (k + k2) := Zt1 hst
      have ff := And.intro hs3 (And.intro hs4 ff)
      refine rnd (k2 + 1, _) (h1 := ⟨iv, iv, iv, (by (try dsimp only); rw [show k + (k2 + 1) = k + k2 + 1 from by omega]; first | (rw [Ztr hst, List.length_append, List.length_singleton]; omega) | (rw [Zt1 hst]; omega)), trivial⟩) (h5 := ?_)
      intro q; left; simp only [upd]; split <;> simp_all
    ·
     have e9 : k + k2 = l.length := by omega
     have hcl := Zu1 (l := l) (k := l.length) (Nat.le_refl _)
     have hcq := Za4 l l.length
     have ff := And.intro @e9 (And.intro @hcl ff)
     refine Zka ?_
     show DW _ _ _ _ _
     refine Zaa (Zfo ?_)
     refine Zjl (C := Lun) 3 (by omega) (Zqb rfl) rfl rfl (by kernel_rfl) (by kernel_rfl) (by kernel_rfl) (by simp only [List.drop_succ_cons, List.drop_zero, List.take_succ_cons, List.take_zero, S.put, Nat.sub_self, go_sem, ff]; exact rfl) ?_ (by rfl) (by simp only [go_sem, ff]; exact rfl) (by simp only [go_sem, ff]; exact rfl) (by rw [Zu1 (by omega)]; omega) ?_
     ·
      try simp only [go_sem, ff]
      all_goals exact ok0
     refine Zei (C := Lun) (by first | decide | simp) (by simp only [List.drop_succ_cons, List.drop_zero, List.take_succ_cons, List.take_zero, S.put, Nat.sub_self, go_sem, ff]; exact rfl) ?_ rfl ?_
     ·
      try simp only [go_sem, ff]
      all_goals exact ok0
     try simp only [Zna]
     refine stp Lun ?_
     refine Zba ?_
     exact Zik (upd h r (some ⟨63, (dpF l).map Dat.d⟩)) (hr := by (try simp only [go_sem, ff]); all_goals (first | omega | exact ⟨by simp_all [dpF], by omega⟩ | exact ⟨by simp_all [dpF], rfl, by omega⟩)) (hh := by intro q; left; simp only [upd]; split <;> simp_all [dpR_take, dpF])
   ·
    refine dw_skip ?_
    show DW _ _ _ _ _
    refine rgn Lun ?_
    show ∃ _, _
    exact rnd (k + 1, _) (h1 := ⟨iv, iv, iv, (by (try dsimp only); intro i h1 h2; by_cases e : i = k; subst e; exact Ylb (by grind); exact hv i h1 (by omega)), trivial⟩)
  ·
   have e9 : k = l.length := by omega
   subst e9
   refine Zka ?_
   show DW _ _ _ _ _
   refine stp Lun ?_
   refine Zba ?_
   exact Zik (upd h r (some ⟨63, (dpF l).map Dat.d⟩)) (hr := by (try simp only [go_sem, ff]); all_goals (rw [Zop hv]; first | exact ⟨rfl, by omega⟩ | exact ⟨rfl, rfl, by omega⟩ | omega)) (hh := by rw [Zop hv]; intro q; left; unfold upd; split; rename_i e; subst e; exact hr.symm; rfl)
set_option maxRecDepth 10000
theorem Zt3 {q : Sgd → Bool} {p : List PS} : ∀ n k, p.length - k ≤ n → firstAt q (lP p) k = firstAt (fun x => q x.2) p k := by
 intro n
 induction n with
 | zero => intro k h; rw [Zjd q, Zjd (fun x : PS => q x.2), if_neg (by rw [Zse]; omega), if_neg (by omega)]
 | succ n ih =>
  intro k h
  rw [Zjd q, Zjd (fun x : PS => q x.2), Zse]
  by_cases hk : k < p.length
  ·
   rw [if_pos hk, if_pos hk, Zb6 hk, ih (k + 1) (by omega)]
  ·
   rw [if_neg hk, if_neg hk]
theorem Zg6 {q : Sgd → Bool} {p : List PS} (h : ¬ firstAt q (lP p) 0 = -1) : ∃ j : Nat, firstAt q (lP p) 0 = (j : Int) ∧ j < p.length ∧ q p[j]!.2 = true ∧ ∀ i, i < j → q p[i]!.2 = false := by
 rw [Zt3 _ 0 (Nat.le_refl _)] at h ⊢
 rcases Zhf (fun x : PS => q x.2) p _ 0 (Nat.le_refl _) with ⟨g1, _⟩ | ⟨j, g1, _, g3, g4, g5⟩
 ·
  exact absurd g1 h
 ·
  exact ⟨j, g1, g3, g4, fun i hi => g5 i (Nat.zero_le _) hi⟩
theorem Zh6 {q : Sgd → Bool} {p : List PS} (h : firstAt q (lP p) 0 = -1) : p.filter (fun x => !q x.2) = p := by
 rw [Zt3 _ 0 (Nat.le_refl _)] at h
 rcases Zhf (fun x : PS => q x.2) p _ 0 (Nat.le_refl _) with ⟨_, g2⟩ | ⟨j, g1, _, g3, g4, g5⟩
 ·
  refine List.filter_eq_self.2 fun x hx => ?_
  obtain ⟨i, hi, rfl⟩ := mem_ix.1 hx
  have : q p[i]!.2 = false := g2 i (Nat.zero_le _) hi
  rw [this]; rfl
 ·
  rw [h] at g1; omega
theorem Zbh {p : List PS} {k : Nat} (h : k < p.length) : p[k]! ∈ p := mem_ix.2 ⟨k, h, rfl⟩
theorem bo122 : Zea Tryz.prog 122 = true := by kernel_rfl
theorem udelf_ct (p : List PS) (t : RSet) (m : Nat) (h : H) (n rs : Nat) (hm : m = p.length) (hl : p.length ≤ 1000000) (hr : h rs = some ⟨52, p.map rowP⟩) (hp : ∀ x ∈ p, Zjo 63 h x ∧ x.1 ≠ rs) : RCt Tryz.prog 122 [.mrow rs 0 m, .fn (.func 123) [] [.eptr t.d]] h n (fun d h' n' => d = .mrow rs 0 (p.filter (fun x : PS => !isNm t.name x.2)).length ∧ h' = upd h rs (some ⟨52, (p.filter (fun x : PS => !isNm t.name x.2)).map rowP⟩) ∧ n ≤ n') := by
 refine Zlb Tryz.func122 rfl bo122 (by simp [Tryz.f122]) (fun hnone => ?_)
 unfold Tryz.f122
 have ff := True.intro
 subst hm
 have hsn := Zuw hr fun x hx => (hp x hx).1
 have hrn : rs < n := by rcases Nat.lt_or_ge rs n with q | q; exact q; rw [hnone rs q] at hr; cases hr
 have hpn : ∀ x ∈ p, x.1 < n := fun x hx => by rcases Nat.lt_or_ge x.1 n with q | q; exact q; have := (hp x hx).1.1; rw [hnone x.1 q] at this; cases this
 have ff := And.intro @hr ff
 refine stp Lun ?_
 refine sgq ?_
 refine gpure Lun 2 4 (hct := uixNa_ct (lP p) (by rw [Zse]; exact hl) t) (hso := ?_) (hz := ?_) (hk := ?_)
 ·
  intro d hd
  simp only [List.nil_append, List.append_nil, List.mem_cons, List.not_mem_nil, or_false] at hd
  rcases hd with rfl | rfl
  ·
   exact hsn.2
  ·
   refine ⟨fun c hc => by simp at hc, fun c hc => ?_⟩; rw [List.mem_singleton] at hc; subst hc; simp [Zqa, D.nr, nrs, Zmf, RSet.d]
 ·
  simp only [List.nil_append, List.append_nil, List.map_cons, List.map_nil]
  rw [hsn.1]
  simp [Zd8, Zil, wk, wks, RSet.d, Zxg]
 refine Zke Lun ?_
 try simp only [Zna]
 refine Zaa ?_
 refine stp Lun ?_
 refine cd (fun c1 => ?_) (fun c1 => ?_) (hp := rfl) (hq := rfl)
 ·
  have hfil := Zh6 (by simpa using c1)
  refine stp Lun ?_
  refine Zba ?_
  exact Zik (upd h rs (some ⟨52, (p.filter (fun x : PS => !isNm t.name x.2)).map rowP⟩)) (hr := by (try simp only [go_sem, ff]); all_goals (rw [hfil]; first | exact ⟨rfl, rfl, by omega⟩ | exact ⟨rfl, by omega⟩)) (hh := by rw [hfil]; intro q; left; unfold upd; split; rename_i e; subst e; exact hr.symm; rfl)
 ·
  obtain ⟨j, g1, g3, g4, g5⟩ := Zg6 (by simpa using c1)
  have gy := kr_all (g := rowP) (keep := (fun x : PS => !isNm t.name x.2)) (l := p) (k := j) (by omega) (fun i hi => by show (!isNm t.name p[i]!.2) = true; rw [g5 i hi]; rfl)
  have gn := kr_no (g := rowP) (keep := (fun x : PS => !isNm t.name x.2)) g3 (by show (!isNm t.name p[j]!.2) = false; rw [g4]; rfl)
  have hkn : Zhg (fun x : PS => !isNm t.name x.2) p (j + 1) = j := by rw [gn.1, gy.1]
  have hkr : Ztd rowP (fun x : PS => !isNm t.name x.2) p (j + 1) = p.map rowP := by rw [gn.2, gy.2]
  refine dw_skip ?_
  show DW _ _ _ _ _
  refine Zaa ?_
  refine stp Lun ?_
  refine Zda ?_
  have ff := And.intro @hkn (And.intro @g1 ff)
  refine lph (α := (Nat) × Nat) [0, 1] (fun ⟨k, nx⟩ => (k ≤ p.length) ∧ (n ≤ nx) ∧ True) (fun ⟨k, nx⟩ => p.length - k) (fun ⟨k, nx⟩ => [(5, .i (Zhg (fun x : PS => !isNm t.name x.2) p k)), (6, .i k)]) (fun ⟨k, nx⟩ => upd h rs (some ⟨52, Ztd rowP (fun x : PS => !isNm t.name x.2) p k⟩)) (fun ⟨k, nx⟩ => nx) (j + 1, _) (hA := ⟨iv, iv, trivial⟩) (round := ?_) (hhh := by intro q; left; dsimp only; rw [hkr]; unfold upd; split; rename_i e; subst e; exact hr.symm; rfl)
  rintro ⟨k, nx⟩ ⟨hk, hx, -⟩
  show DW _ _ _ _ { n := _, t := tab _, h := _, nx := _, e := _ }
  simp only [List.cons_append, List.nil_append]
  refine Zaa ?_
  refine stp Lun ?_
  refine cd (fun c2 => ?_) (fun c2 => ?_) (hp := rfl) (hq := rfl)
  ·
   have hk2 : k < p.length := by simpa [Zbo hk] using c2
   have hle := Zki (fun x : PS => !isNm t.name x.2) p k
   have hat : (Ztd rowP (fun x : PS => !isNm t.name x.2) p k).getD k [] = [.v (.string (bs p[k]!.2.set.name)), .i p[k]!.2.set.ty, .i p[k]!.2.set.life, .mrow p[k]!.1 0 p[k]!.2.set.data.length, .list true []] := kr_at hk2
   have hlen : (Ztd rowP (fun x : PS => !isNm t.name x.2) p k).length = p.length := Zbo (by omega)
   have hg5 : ((Ztd rowP (fun x : PS => !isNm t.name x.2) p k).getD (Zhg (fun x : PS => !isNm t.name x.2) p k) []).length = 5 := kr_row (fun _ => rfl) (by omega)
   have zrs_nx8 : (rs = nx + 8) = False := eq_false (by omega)
   have ynx8_rs : (nx + 8 = rs) = False := eq_false (by omega)
   have ff := And.intro @hat (And.intro @hlen (And.intro @hg5 (And.intro @zrs_nx8 (And.intro @ynx8_rs ff))))
   refine dw_skip ?_
   show DW _ _ _ _ _
   refine Zaa ?_
   refine Zda ?_
   refine stp Lun ?_
   refine sgq ?_
   have hin := Zbh hk2
   have hq1 := hp _ hin
   have hq2 := hpn _ hin
   refine gpure Lun 2 4 (hct := Zxp p[k]!.2 t) (hso := ?_) (hz := ?_) (hk := ?_)
   ·
    intro d hd
    simp only [List.nil_append, List.cons_append, List.mem_cons, List.not_mem_nil, or_false] at hd
    rcases hd with rfl | rfl
    ·
     refine (Zy2 (td := 63) (x := p[k]!) ⟨?_, hq1.1.2⟩).2; simp only [upd]; (repeat rw [if_neg (by omega)]); exact hq1.1.1
    ·
     simp [Zqa, D.nr, nrs, Zmf, RSet.d]
   ·
    simp only [List.nil_append, List.cons_append, List.map_cons, List.map_nil]
    refine congr (congrArg List.cons ((Zy2 (td := 63) (x := p[k]!) ⟨?_, hq1.1.2⟩).1)) ?_
    ·
     simp only [upd]; (repeat rw [if_neg (by omega)]); exact hq1.1.1
    ·
     simp [Zil, wk, wks, RSet.d, Zxg]
   refine Zke Lun ?_
   try simp only [Zna]
   refine cd (fun c3 => ?_) (fun c3 => ?_)
   ·
    refine stp Lun ?_
    refine rgn Lun ?_
    show DW _ _ _ _ _
    refine rgn Lun ?_
    show ∃ _, _
    have hst := kr_yes (g := rowP) (keep := (fun x : PS => !isNm t.name x.2)) hk2 (by simpa using c3)
    have ff := And.intro hst.1 (And.intro hst.2 ff)
    refine rnd (k + 1, _) (h1 := ⟨iv, iv, trivial⟩) (h5 := ?_)
    intro q
    by_cases e4 : q = nx + 8
    ·
     right; subst e4; simp only [upd]; (repeat rw [if_neg (by omega)]); exact hnone _ (by omega)
    ·
     left; simp only [upd]; by_cases e5 : q = rs
     ·
      subst e5; simp only [if_true, if_neg e4]; first | (rw [hst.2]; done) | (rw [List.drop_of_length_le (by omega), ← hst.2]; rfl)
     ·
      simp only [if_neg e4, if_neg e5]
   ·
    refine dw_skip ?_
    show DW _ _ _ _ _
    refine rgn Lun ?_
    show ∃ _, _
    have hst := kr_no (g := rowP) (keep := (fun x : PS => !isNm t.name x.2)) hk2 (by simpa using c3)
    have ff := And.intro hst.1 (And.intro hst.2 ff)
    refine rnd (k + 1, _) (h1 := ⟨iv, iv, trivial⟩) (h5 := ?_)
    intro q
    by_cases e4 : q = nx + 8
    ·
     right; subst e4; simp only [upd]; (repeat rw [if_neg (by omega)]); exact hnone _ (by omega)
    ·
     left; simp only [upd]; by_cases e5 : q = rs
     ·
      subst e5; simp only [if_true, if_neg e4]; first | (rw [hst.2]; done) | (rw [List.drop_of_length_le (by omega), ← hst.2]; rfl)
     ·
      simp only [if_neg e4, if_neg e5]
  ·
   have hk3 : k = p.length := by have : ¬ k < p.length := (by simpa using c2); omega
   subst hk3
   have hle := Zki (fun x : PS => !isNm t.name x.2) p p.length
   have hend := kr_end (g := rowP) (keep := (fun x : PS => !isNm t.name x.2)) (l := p)
   have hlen : (Ztd rowP (fun x : PS => !isNm t.name x.2) p p.length).length = p.length := Zbo (Nat.le_refl _)
   have ff := And.intro @hlen ff
   refine Zka ?_
   show DW _ _ _ _ _
   refine Zaa (Zfo ?_)
   refine Zjl (C := Lun) 3 (by omega) (Zqb rfl) rfl rfl (by kernel_rfl) (by kernel_rfl) (by kernel_rfl) (by simp only [List.drop_succ_cons, List.drop_zero, List.take_succ_cons, List.take_zero, S.put, Nat.sub_self, go_sem, ff]; exact rfl) ?_ (by rfl) (by simp only [go_sem, ff]; exact rfl) (by simp only [go_sem, ff]; exact rfl) (by rw [Zbo (by omega)]; omega) ?_
   ·
    try simp only [go_sem, ff]
    all_goals exact ok0
   refine Zei (C := Lun) (by first | decide | simp) (by simp only [List.drop_succ_cons, List.drop_zero, List.take_succ_cons, List.take_zero, S.put, Nat.sub_self, go_sem, ff]; exact rfl) ?_ rfl ?_
   ·
    try simp only [go_sem, ff]
    all_goals exact ok0
   try simp only [Zna]
   refine stp Lun ?_
   refine Zba ?_
   exact Zik (upd h rs (some ⟨52, (p.filter (fun x : PS => !isNm t.name x.2)).map rowP⟩)) (hr := by (try simp only [go_sem, ff]); all_goals (first | omega | exact ⟨by first | (rw [hend.2]; done) | (rw [hend.2]; congr 1; done) | (rw [hend.2]; congr 1; omega), rfl, by omega⟩ | exact ⟨by first | (rw [hend.2]; done) | (rw [hend.2]; congr 1; done) | (rw [hend.2]; congr 1; omega), by omega⟩)) (hh := by rw [← hend.1]; intro q; left; simp only [upd]; split <;> simp_all)
theorem bo117 : Zea Tryz.prog 117 = true := by kernel_rfl
theorem udeld_ct (l : List Dat) (s : RSet) (m : Nat) (h : H) (n rs : Nat) (hm : m = l.length) (hl : l.length ≤ 1000000) (hs : s.data.length ≤ 1000000) (hr : h rs = some ⟨63, l.map Dat.d⟩) : RCt Tryz.prog 117 [.mrow rs 0 m, .fn (.func 118) [] [.eptr s.d]] h n (fun d h' n' => d = .mrow rs 0 (l.filter (fun x : Dat => !hasD s.data x)).length ∧ h' = upd h rs (some ⟨63, (l.filter (fun x : Dat => !hasD s.data x)).map Dat.d⟩) ∧ n ≤ n') := by
 refine Zlb Tryz.func117 rfl bo117 (by simp [Tryz.f117]) (fun hnone => ?_)
 unfold Tryz.f117
 have ff := True.intro
 subst hm
 have hsn := Ze8 hr
 have hrn : rs < n := by rcases Nat.lt_or_ge rs n with q | q; exact q; rw [hnone rs q] at hr; cases hr
 have ff := And.intro @hr ff
 refine stp Lun ?_
 refine sgq ?_
 refine gpure Lun 2 2 (hct := uixd_ct l s hl hs) (hso := ?_) (hz := ?_) (hk := ?_)
 ·
  intro d hd
  simp only [List.nil_append, List.append_nil, List.mem_cons, List.not_mem_nil, or_false] at hd
  rcases hd with rfl | rfl
  ·
   exact hsn.2
  ·
   refine ⟨fun c hc => by simp at hc, fun c hc => ?_⟩; rw [List.mem_singleton] at hc; subst hc; simp [Zqa, D.nr, nrs, Zmf, RSet.d]
 ·
  simp only [List.nil_append, List.append_nil, List.map_cons, List.map_nil]
  rw [hsn.1]
  simp [Zd8, Zil, wk, wks, RSet.d, Zxg]
 refine Zke Lun ?_
 try simp only [Zna]
 refine Zaa ?_
 refine stp Lun ?_
 refine cd (fun c1 => ?_) (fun c1 => ?_) (hp := rfl) (hq := rfl)
 ·
  have hfil := Zj1 (by simpa using c1)
  refine stp Lun ?_
  refine Zba ?_
  exact Zik (upd h rs (some ⟨63, (l.filter (fun x : Dat => !hasD s.data x)).map Dat.d⟩)) (hr := by (try simp only [go_sem, ff]); all_goals (rw [hfil]; first | exact ⟨rfl, rfl, by omega⟩ | exact ⟨rfl, by omega⟩)) (hh := by rw [hfil]; intro q; left; unfold upd; split; rename_i e; subst e; exact hr.symm; rfl)
 ·
  obtain ⟨j, g1, g3, g4, g5⟩ := Zi1 (by simpa using c1)
  have gy := kr_all (g := Dat.d) (keep := (fun x : Dat => !hasD s.data x)) (l := l) (k := j) (by omega) (fun i hi => by show (!hasD s.data l[i]!) = true; rw [g5 i hi]; rfl)
  have gn := kr_no (g := Dat.d) (keep := (fun x : Dat => !hasD s.data x)) g3 (by show (!hasD s.data l[j]!) = false; rw [g4]; rfl)
  have hkn : Zhg (fun x : Dat => !hasD s.data x) l (j + 1) = j := by rw [gn.1, gy.1]
  have hkr : Ztd Dat.d (fun x : Dat => !hasD s.data x) l (j + 1) = l.map Dat.d := by rw [gn.2, gy.2]
  refine dw_skip ?_
  show DW _ _ _ _ _
  refine Zaa ?_
  refine stp Lun ?_
  refine Zda ?_
  have ff := And.intro @hkn (And.intro @g1 ff)
  refine lph (α := (Nat) × Nat) [0, 1] (fun ⟨k, nx⟩ => (k ≤ l.length) ∧ (n ≤ nx) ∧ True) (fun ⟨k, nx⟩ => l.length - k) (fun ⟨k, nx⟩ => [(5, .i (Zhg (fun x : Dat => !hasD s.data x) l k)), (6, .i k)]) (fun ⟨k, nx⟩ => upd h rs (some ⟨63, Ztd Dat.d (fun x : Dat => !hasD s.data x) l k⟩)) (fun ⟨k, nx⟩ => nx) (j + 1, _) (hA := ⟨iv, iv, trivial⟩) (round := ?_) (hhh := by intro q; left; dsimp only; rw [hkr]; unfold upd; split; rename_i e; subst e; exact hr.symm; rfl)
  rintro ⟨k, nx⟩ ⟨hk, hx, -⟩
  show DW _ _ _ _ { n := _, t := tab _, h := _, nx := _, e := _ }
  simp only [List.cons_append, List.nil_append]
  refine Zaa ?_
  refine stp Lun ?_
  refine cd (fun c2 => ?_) (fun c2 => ?_) (hp := rfl) (hq := rfl)
  ·
   have hk2 : k < l.length := by simpa [Zbo hk] using c2
   have hle := Zki (fun x : Dat => !hasD s.data x) l k
   have hat : (Ztd Dat.d (fun x : Dat => !hasD s.data x) l k).getD k [] = [.v (.string (bs l[k]!.t)), .i l[k]!.n, .i l[k]!.m] := kr_at hk2
   have hlen : (Ztd Dat.d (fun x : Dat => !hasD s.data x) l k).length = l.length := Zbo (by omega)
   have hg5 : ((Ztd Dat.d (fun x : Dat => !hasD s.data x) l k).getD (Zhg (fun x : Dat => !hasD s.data x) l k) []).length = 3 := kr_row (fun _ => rfl) (by omega)
   have zrs_nx8 : (rs = nx + 8) = False := eq_false (by omega)
   have ynx8_rs : (nx + 8 = rs) = False := eq_false (by omega)
   have ff := And.intro @hat (And.intro @hlen (And.intro @hg5 (And.intro @zrs_nx8 (And.intro @ynx8_rs ff))))
   refine dw_skip ?_
   show DW _ _ _ _ _
   refine Zaa ?_
   refine Zda ?_
   refine stp Lun ?_
   refine sgq ?_
   refine gpure Lun 2 2 (hct := Zvp l[k]! s hs) (hso := ?_) (hz := ?_) (hk := ?_)
   ·
    intro d hd
    simp only [List.nil_append, List.cons_append, List.mem_cons, List.not_mem_nil, or_false] at hd
    rcases hd with rfl | rfl
    ·
     simp [Zqa, D.nr, Dat.d]
    ·
     simp [Zqa, D.nr, nrs, Zmf, RSet.d]
   ·
    simp [Zil, Go.DL.snap_agg, Go.DL.snap_v, wk, wks, RSet.d, Dat.d, Zxg]
   refine Zke Lun ?_
   try simp only [Zna]
   refine cd (fun c3 => ?_) (fun c3 => ?_)
   ·
    refine stp Lun ?_
    refine rgn Lun ?_
    show DW _ _ _ _ _
    refine rgn Lun ?_
    show ∃ _, _
    have hst := kr_yes (g := Dat.d) (keep := (fun x : Dat => !hasD s.data x)) hk2 (by simpa using c3)
    have ff := And.intro hst.1 (And.intro hst.2 ff)
    refine rnd (k + 1, _) (h1 := ⟨iv, iv, trivial⟩) (h5 := ?_)
    intro q
    by_cases e4 : q = nx + 8
    ·
     right; subst e4; simp only [upd]; (repeat rw [if_neg (by omega)]); exact hnone _ (by omega)
    ·
     left; simp only [upd]; by_cases e5 : q = rs
     ·
      subst e5; simp only [if_true, if_neg e4]; first | (rw [hst.2]; done) | (rw [List.drop_of_length_le (by omega), ← hst.2]; rfl)
     ·
      simp only [if_neg e4, if_neg e5]
   ·
    refine dw_skip ?_
    show DW _ _ _ _ _
    refine rgn Lun ?_
    show ∃ _, _
    have hst := kr_no (g := Dat.d) (keep := (fun x : Dat => !hasD s.data x)) hk2 (by simpa using c3)
    have ff := And.intro hst.1 (And.intro hst.2 ff)
    refine rnd (k + 1, _) (h1 := ⟨iv, iv, trivial⟩) (h5 := ?_)
    intro q
    by_cases e4 : q = nx + 8
    ·
     right; subst e4; simp only [upd]; (repeat rw [if_neg (by omega)]); exact hnone _ (by omega)
    ·
     left; simp only [upd]; by_cases e5 : q = rs
     ·
      subst e5; simp only [if_true, if_neg e4]; first | (rw [hst.2]; done) | (rw [List.drop_of_length_le (by omega), ← hst.2]; rfl)
     ·
      simp only [if_neg e4, if_neg e5]
  ·
   have hk3 : k = l.length := by have : ¬ k < l.length := (by simpa using c2); omega
   subst hk3
   have hle := Zki (fun x : Dat => !hasD s.data x) l l.length
   have hend := kr_end (g := Dat.d) (keep := (fun x : Dat => !hasD s.data x)) (l := l)
   have hlen : (Ztd Dat.d (fun x : Dat => !hasD s.data x) l l.length).length = l.length := Zbo (Nat.le_refl _)
   have ff := And.intro @hlen ff
   refine Zka ?_
   show DW _ _ _ _ _
   refine Zaa (Zfo ?_)
   refine Zjl (C := Lun) 3 (by omega) (Zqb rfl) rfl rfl (by kernel_rfl) (by kernel_rfl) (by kernel_rfl) (by simp only [List.drop_succ_cons, List.drop_zero, List.take_succ_cons, List.take_zero, S.put, Nat.sub_self, go_sem, ff]; exact rfl) ?_ (by rfl) (by simp only [go_sem, ff]; exact rfl) (by simp only [go_sem, ff]; exact rfl) (by rw [Zbo (by omega)]; omega) ?_
   ·
    try simp only [go_sem, ff]
    all_goals exact ok0
   refine Zei (C := Lun) (by first | decide | simp) (by simp only [List.drop_succ_cons, List.drop_zero, List.take_succ_cons, List.take_zero, S.put, Nat.sub_self, go_sem, ff]; exact rfl) ?_ rfl ?_
   ·
    try simp only [go_sem, ff]
    all_goals exact ok0
   try simp only [Zna]
   refine stp Lun ?_
   refine Zba ?_
   exact Zik (upd h rs (some ⟨63, (l.filter (fun x : Dat => !hasD s.data x)).map Dat.d⟩)) (hr := by (try simp only [go_sem, ff]); all_goals (first | omega | exact ⟨by first | (rw [hend.2]; done) | (rw [hend.2]; congr 1; done) | (rw [hend.2]; congr 1; omega), rfl, by omega⟩ | exact ⟨by first | (rw [hend.2]; done) | (rw [hend.2]; congr 1; done) | (rw [hend.2]; congr 1; omega), by omega⟩)) (hh := by rw [← hend.1]; intro q; left; simp only [upd]; split <;> simp_all)
set_option maxRecDepth 10000
theorem bo109 : Zea Tryz.prog 109 = true := by kernel_rfl
theorem Zs2 (zc rs cc i : Nat) (a : Str) (p : List PS) (h : H) (n : Nat) (hz : ZM 24 52 63 zc rs a p h) (hcc : h cc = some ⟨102, [[.mptr zc 0 0]]⟩) (hl : p.length ≤ 100000) (hi : i < p.length) : RCt Tryz.prog 109 [.i i, .mptr cc 0 0] h n (fun d h' n' => d = .tuple [] ∧ StepR 24 52 63 zc a ((lP p).eraseIdx i) h h' n n') := by
 refine Zlb Tryz.func109 rfl bo109 (by simp [Tryz.f109]) (fun hnone => ?_)
 unfold Tryz.f109
 have ff := True.intro
 have hzz := hz.z
 have hzr := hz.r
 have hzn := hz.zr
 have hc1 : cc ≠ zc := fun e => by rw [e, hzz] at hcc; cases hcc
 have hc2 : cc ≠ rs := fun e => by rw [e, hzr] at hcc; cases hcc
 have hc3 : zc ≠ cc := fun e => hc1 e.symm
 have hc4 : rs ≠ cc := fun e => hc2 e.symm
 have hzn2 : rs ≠ zc := fun e => hzn e.symm
 have ff := And.intro @hzz (And.intro @hzr (And.intro @hzn (And.intro @hcc (And.intro @hc1 (And.intro @hc2 (And.intro @hc3 (And.intro @hc4 (And.intro @hzn2 ff))))))))
 refine dr1 Lun 8 11 [(0, 1)] (hct := by exact del_ct (p.map rowP) i p.length (i + 1) _ _ rs (by simp) (by simpa using hi) rfl (by simp; omega) (by simp only [go_sem, ff]) Zj4) (hkeep := ?_) (hk := ?_)
 ·
  rintro res h2 n2 ⟨rfl, rfl, a1⟩ q hq r hrr
  simp only [List.mem_singleton] at hq; subst hq
  simp only [go_sem, ff, sd, named, beq_iff_eq] at hrr ⊢; subst hrr; simp only [upd, if_neg hc2]
 rintro res h2 n2 ⟨rfl, rfl, a1⟩
 refine Zke Lun ?_
 try simp only [Zna]
 exact Zik (_) (hh := fun _ => .inl rfl) (hr := by (try simp only [go_sem, ff]); all_goals ((try dsimp only at a1); rw [Zp9, show p.length - 1 = (p.eraseIdx i).length from by simp [List.length_eraseIdx, hi], ← lP_erase]; exact Zw2 hz (List.eraseIdx_sublist _ _) (by first | omega | (dsimp only; omega))))
theorem bo121 : Zea Tryz.prog 121 = true := by kernel_rfl
theorem uname_ct (t : RSet) (zc rs cc : Nat) (a : Str) (p : List PS) (h : H) (n : Nat) (hz : ZM 24 52 63 zc rs a p h) (hcc : h cc = some ⟨102, [[.mptr zc 0 0]]⟩) (hl : p.length ≤ 100000) : RCt Tryz.prog 121 [.agg t.d, .mptr cc 0 0] h n (fun d h' n' => d = .tuple [] ∧ StepR 24 52 63 zc a (lP (p.filter (fun x : PS => !isNm t.name x.2))) h h' n n') := by
 refine Zlb Tryz.func121 rfl bo121 (by simp [Tryz.f121]) (fun hnone => ?_)
 unfold Tryz.f121
 have ff := True.intro
 have hzz := hz.z
 have hzr := hz.r
 have hzn := hz.zr
 have hc1 : cc ≠ zc := fun e => by rw [e, hzz] at hcc; cases hcc
 have hc2 : cc ≠ rs := fun e => by rw [e, hzr] at hcc; cases hcc
 have hc3 : zc ≠ cc := fun e => hc1 e.symm
 have hc4 : rs ≠ cc := fun e => hc2 e.symm
 have hzn2 : rs ≠ zc := fun e => hzn e.symm
 have hrn : rs < n := by rcases Nat.lt_or_ge rs n with q | q; exact q; rw [hnone rs q] at hzr; cases hzr
 have hzcn : zc < n := by rcases Nat.lt_or_ge zc n with q | q; exact q; rw [hnone zc q] at hzz; cases hzz
 have hccn : cc < n := by rcases Nat.lt_or_ge cc n with q | q; exact q; rw [hnone cc q] at hcc; cases hcc
 have zn_rs : (n = rs) = False := eq_false (by omega)
 have yrs_n : (rs = n) = False := eq_false (by omega)
 have zn_zc : (n = zc) = False := eq_false (by omega)
 have yzc_n : (zc = n) = False := eq_false (by omega)
 have zn_cc : (n = cc) = False := eq_false (by omega)
 have ycc_n : (cc = n) = False := eq_false (by omega)
 have zrs_zc : (rs = zc) = False := eq_false (by omega)
 have yzc_rs : (zc = rs) = False := eq_false (by omega)
 have zrs_cc : (rs = cc) = False := eq_false (by omega)
 have ycc_rs : (cc = rs) = False := eq_false (by omega)
 have zzc_cc : (zc = cc) = False := eq_false (by omega)
 have ycc_zc : (cc = zc) = False := eq_false (by omega)
 have ff := And.intro @hzz (And.intro @hzr (And.intro @hzn (And.intro @hcc (And.intro @hc1 (And.intro @hc2 (And.intro @hc3 (And.intro @hc4 (And.intro @hzn2 (And.intro @zn_rs (And.intro @yrs_n (And.intro @zn_zc (And.intro @yzc_n (And.intro @zn_cc (And.intro @ycc_n (And.intro @zrs_zc (And.intro @yzc_rs (And.intro @zrs_cc (And.intro @ycc_rs (And.intro @zzc_cc (And.intro @ycc_zc ff))))))))))))))))))))
 refine stp Lun ?_
 refine Zth 2 n ev ev (by simp [nrs, D.nr, Zmf]) ?_
 refine dr1 Lun 6 7 [(0, 1)] (hct := by exact udelf_ct p t p.length _ _ rs rfl (by omega) (by simp only [go_sem, ff]) (fun x hx => ⟨⟨by have := hz.ne x hx; simp only [upd]; (repeat rw [if_neg (by first | omega | (intro e; have := hz.d x hx; rw [e, hnone _ (Nat.le_refl _)] at this; cases this))]); exact hz.d x hx, hz.sig x hx⟩, (hz.ne x hx).2⟩)) (hkeep := ?_) (hk := ?_)
 ·
  rintro res h2 n2 ⟨rfl, rfl, a1⟩ q hq r hrr
  simp only [List.mem_singleton] at hq; subst hq
  simp only [go_sem, ff, sd, named, beq_iff_eq] at hrr ⊢; subst hrr; simp only [upd, if_neg hc2]
 rintro res h2 n2 ⟨rfl, rfl, a1⟩
 refine Zke Lun ?_
 try simp only [Zna]
 exact Zik (upd (upd h rs (some ⟨52, (p.filter (fun x : PS => !isNm t.name x.2)).map rowP⟩)) zc (some ⟨24, [[.v (.string (bs a)), .mrow rs 0 (p.filter (fun x : PS => !isNm t.name x.2)).length]]⟩)) (hr := by (try simp only [go_sem, ff]); all_goals ((try dsimp only at a1); exact Zw2 hz List.filter_sublist (by first | omega | (dsimp only; omega)))) (hh := by intro q; simp only [upd]; by_cases e : q = n; right; subst e; (repeat rw [if_neg (by omega)]); exact hnone _ (Nat.le_refl _); left; (repeat (first | rfl | (split <;> first | rfl | omega))))
set_option maxRecDepth 10000
@[go_sem] theorem snapW_v9 {h : H} {x : Value} : Zre h (.v x) = .v x := rfl
@[go_sem] theorem snapOk_v9 {h : H} {x : Value} : Zqa h 5 (.v x) = True := eq_true rfl
theorem Zxv {p : List PS} {q : Qst} (h : findOk (lP p) q = true) : findIx (lP p) q < p.length := by
 have := Zk1 h
 rwa [Zse] at this
theorem bo120 : Zea Tryz.prog 120 = true := by kernel_rfl
theorem uset_ct (t : RSet) (zc rs cc ce : Nat) (a : Str) (p : List PS) (h : H) (n : Nat) (hz : ZM 24 52 63 zc rs a p h) (hcc : h cc = some ⟨102, [[.mptr zc 0 0]]⟩) (hcd : h ce = some ⟨131, [[.fn (.func 109) [] [.mptr cc 0 0]]]⟩) (hl : p.length ≤ 100000) : RCt Tryz.prog 120 [.agg t.d, .mptr cc 0 0, .mptr ce 0 0] h n (fun d h' n' => d = .tuple [] ∧ StepR 24 52 63 zc a (setL (lP p) t) h h' n n') := by
 refine Zlb Tryz.func120 rfl bo120 (by simp [Tryz.f120]) (fun hnone => ?_)
 unfold Tryz.f120
 have ff := True.intro
 have hzz := hz.z
 have hzr := hz.r
 have hnn : h n = none := hnone _ (Nat.le_refl _)
 have hz2 := hz.fresh (b := some ⟨31, [t.d]⟩) hnn
 have lrs : rs < n := by rcases Nat.lt_or_ge rs n with q | q; exact q; rw [hnone rs q] at hzr; cases hzr
 have lzc : zc < n := by rcases Nat.lt_or_ge zc n with q | q; exact q; rw [hnone zc q] at hzz; cases hzz
 have lcc : cc < n := by rcases Nat.lt_or_ge cc n with q | q; exact q; rw [hnone cc q] at hcc; cases hcc
 have lce : ce < n := by rcases Nat.lt_or_ge ce n with q | q; exact q; rw [hnone ce q] at hcd; cases hcd
 have hn1 : (n = rs) = False := eq_false (by omega)
 have hn2 : (n = zc) = False := eq_false (by omega)
 have hn3 : (n = cc) = False := eq_false (by omega)
 have hn4 : (n = ce) = False := eq_false (by omega)
 have hm1 : (rs = n) = False := eq_false (by omega)
 have hm2 : (zc = n) = False := eq_false (by omega)
 have hm3 : (cc = n) = False := eq_false (by omega)
 have hm4 : (ce = n) = False := eq_false (by omega)
 have ff := And.intro @hzz (And.intro @hzr (And.intro @hcc (And.intro @hcd (And.intro @hn1 (And.intro @hn2 (And.intro @hn3 (And.intro @hn4 (And.intro @hm1 (And.intro @hm2 (And.intro @hm3 (And.intro @hm4 ff)))))))))))
 refine stp Lun ?_
 have hsw := hz2.snap
 have hsw1 : Zre (upd h n (some ⟨31, [[.v (.string (bs t.name)), .i t.ty, .i t.life, .list false (t.data.map Dat.d)]]⟩)) (.agg [.v (.string (bs a)), .mrow rs 0 p.length]) = .agg [.v (.string (bs a)), .list false ((lP p).map Sgd.d)] := hsw.1
 have ff := And.intro @hsw1 ff
 refine stp LunS ?_ (hok := by (try simp only [go_sem, ff]); all_goals (first | done | ((repeat' (with_reducible apply And.intro)) <;> first | exact Zuc ⟨a, lP p⟩ t.name t.ty (by rw [Zse]; omega) | (intros; exact Zuc ⟨a, lP p⟩ t.name t.ty (by rw [Zse]; omega)) | exact hsw.2 | (intros; exact hsw.2) | exact (fun row hrow c hc => by obtain ⟨x, hx, rfl⟩ := List.mem_map.1 hrow; exact (Zwa (hz2.data x hx) 1).2 c hc) | (intros; exact (fun row hrow c hc => by obtain ⟨x, hx, rfl⟩ := List.mem_map.1 hrow; exact (Zwa (hz2.data x hx) 1).2 c hc)) | rfl | skip)))
 refine stp Lun ?_
 refine cd (fun c1 => ?_) (fun c1 => ?_) (hp := rfl) (hq := rfl)
 ·
  have hf : findOk (lP p) ⟨t.name, t.ty⟩ = true := by simpa using c1
  have hi := Zxv hf
  refine Ze2 Lun 2 (hct := by exact Zs2 zc rs cc (findIx (lP p) ⟨t.name, t.ty⟩) a p _ _ hz2 (by simp only [go_sem, ff]) hl hi) (hk := ?_)
  rintro res h2 n2 ⟨rfl, hst⟩
  refine Zd2 Lun ?_
  exact Zik (_) (hh := fun _ => .inl rfl) (hr := by (try simp only [go_sem, ff]); all_goals (first | (rw [setL, if_pos hf]; exact hst.of_fresh hnn (by first | omega | (dsimp only; omega)) (by first | omega | (dsimp only; omega))) | (rw [setL, if_neg (by rw [hf]; exact Bool.false_ne_true)]; exact (StepR.same hz2 (Nat.le_refl n)).of_fresh hnn (by omega) (by omega))))
 ·
  have hf : findOk (lP p) ⟨t.name, t.ty⟩ = false := by simpa using c1
  refine dw_skip ?_
  exact Zik (_) (hh := fun _ => .inl rfl) (hr := by (try simp only [go_sem, ff]); all_goals (first | (rw [setL, if_pos hf]; exact hst.of_fresh hnn (by first | omega | (dsimp only; omega)) (by first | omega | (dsimp only; omega))) | (rw [setL, if_neg (by rw [hf]; exact Bool.false_ne_true)]; exact (StepR.same hz2 (Nat.le_refl n)).of_fresh hnn (by omega) (by omega))))
set_option maxRecDepth 10000
theorem bo116 : Zea Tryz.prog 116 = true := by kernel_rfl
theorem utake_ct (t : RSet) (zc rs cc ce : Nat) (a : Str) (p : List PS) (h : H) (n : Nat) (hz : ZM 24 52 63 zc rs a p h) (hcc : h cc = some ⟨102, [[.mptr zc 0 0]]⟩) (hcd : h ce = some ⟨131, [[.fn (.func 109) [] [.mptr cc 0 0]]]⟩) (hl : p.length ≤ 100000) (hdl : ∀ x ∈ p, x.2.set.data.length ≤ 100000) (htl : t.data.length ≤ 100000) : RCt Tryz.prog 116 [.agg t.d, .mptr cc 0 0, .mptr ce 0 0] h n (fun d h' n' => d = .tuple [] ∧ StepR 24 52 63 zc a (Zxu (lP p) t) h h' n n') := by
 refine Zlb Tryz.func116 rfl bo116 (by simp [Tryz.f116]) (fun hnone => ?_)
 unfold Tryz.f116
 have ff := True.intro
 have hzz := hz.z
 have hzr := hz.r
 have hnn : h n = none := hnone _ (Nat.le_refl _)
 have hz2 := hz.fresh (b := some ⟨31, [t.d]⟩) hnn
 have lrs : rs < n := by rcases Nat.lt_or_ge rs n with q | q; exact q; rw [hnone rs q] at hzr; cases hzr
 have lzc : zc < n := by rcases Nat.lt_or_ge zc n with q | q; exact q; rw [hnone zc q] at hzz; cases hzz
 have lcc : cc < n := by rcases Nat.lt_or_ge cc n with q | q; exact q; rw [hnone cc q] at hcc; cases hcc
 have lce : ce < n := by rcases Nat.lt_or_ge ce n with q | q; exact q; rw [hnone ce q] at hcd; cases hcd
 have hn1 : (n = rs) = False := eq_false (by omega)
 have hn2 : (n = zc) = False := eq_false (by omega)
 have hn3 : (n = cc) = False := eq_false (by omega)
 have hn4 : (n = ce) = False := eq_false (by omega)
 have hm1 : (rs = n) = False := eq_false (by omega)
 have hm2 : (zc = n) = False := eq_false (by omega)
 have hm3 : (cc = n) = False := eq_false (by omega)
 have hm4 : (ce = n) = False := eq_false (by omega)
 have hc1 : (cc = rs) = False := eq_false fun e => by rw [e, hzr] at hcc; cases hcc
 have hc2 : (ce = rs) = False := eq_false fun e => by rw [e, hzr] at hcd; cases hcd
 have hc3 : (zc = rs) = False := eq_false hz.zr
 have ff := And.intro @hzz (And.intro @hzr (And.intro @hcc (And.intro @hcd (And.intro @hc1 (And.intro @hc2 (And.intro @hc3 (And.intro @hn1 (And.intro @hn2 (And.intro @hn3 (And.intro @hn4 (And.intro @hm1 (And.intro @hm2 (And.intro @hm3 (And.intro @hm4 ff))))))))))))))
 refine stp Lun ?_
 have hsw := hz2.snap
 have hsw1 : Zre (upd h n (some ⟨31, [[.v (.string (bs t.name)), .i t.ty, .i t.life, .list false (t.data.map Dat.d)]]⟩)) (.agg [.v (.string (bs a)), .mrow rs 0 p.length]) = .agg [.v (.string (bs a)), .list false ((lP p).map Sgd.d)] := hsw.1
 have ff := And.intro @hsw1 ff
 refine stp LunS ?_ (hok := by (try simp only [go_sem, ff]); all_goals (first | done | ((repeat' (with_reducible apply And.intro)) <;> first | exact Zuc ⟨a, lP p⟩ t.name t.ty (by rw [Zse]; omega) | (intros; exact Zuc ⟨a, lP p⟩ t.name t.ty (by rw [Zse]; omega)) | exact hsw.2 | (intros; exact hsw.2) | exact (fun row hrow c hc => by obtain ⟨x, hx, rfl⟩ := List.mem_map.1 hrow; exact (Zwa (hz2.data x hx) 1).2 c hc) | (intros; exact (fun row hrow c hc => by obtain ⟨x, hx, rfl⟩ := List.mem_map.1 hrow; exact (Zwa (hz2.data x hx) 1).2 c hc)) | rfl | skip)))
 refine Zaa ?_
 refine stp Lun ?_
 refine cd (fun c1 => ?_) (fun c1 => ?_) (hp := rfl) (hq := rfl)
 ·
  have hf : findOk (lP p) ⟨t.name, t.ty⟩ = false := by simpa using c1
  refine Zba ?_
  exact Zik (_) (hh := fun _ => .inl rfl) (hr := by (try simp only [go_sem, ff]); all_goals (first | (rw [Zwm hf]; exact (StepR.same hz2 (Nat.le_refl n)).of_fresh hnn (by omega) (by omega)) | (rw [← Zym hf hix hi (by simpa using c2) _]; exact hst.after (fun q b e1 e2 e3 e4 => by have q1 : q ≠ rs := (fun e => e2 (by rw [e, hz.r] at e1; cases e1; rfl)); have q2 : q ≠ p[ix]!.1 := (fun e => e3 (by rw [e, hz.d _ (Zbh hi)] at e1; cases e1; rfl)); have q3 : q ≠ n := (fun e => by rw [e, hnn] at e1; cases e1); simp only [upd, if_neg q1, if_neg q2, if_neg q3]; exact e1) (by first | omega | (dsimp only; omega)) (by first | omega | (dsimp only; omega))) | (rw [← Zxm hf hix hi (by simpa using c2)]; exact (StepR.same hz3 (Nat.le_refl n)).after (fun q b e1 e2 e3 e4 => by have q1 : q ≠ rs := (fun e => e2 (by rw [e, hz.r] at e1; cases e1; rfl)); have q2 : q ≠ p[ix]!.1 := (fun e => e3 (by rw [e, hz.d _ (Zbh hi)] at e1; cases e1; rfl)); have q3 : q ≠ n := (fun e => by rw [e, hnn] at e1; cases e1); simp only [upd, if_neg q1, if_neg q2, if_neg q3]; exact e1) (by omega) (by first | omega | (dsimp only; omega)))))
 ·
  have hf : findOk (lP p) ⟨t.name, t.ty⟩ = true := by simpa using c1
  have hi := Zxv hf
  obtain ⟨ix, hix⟩ : ∃ ix, ix = findIx (lP p) ⟨t.name, t.ty⟩ := ⟨_, rfl⟩
  rw [← hix] at hi
  have hix2 := hix.symm
  have hrow : (p.map rowP).getD ix [] = [.v (.string (bs p[ix]!.2.set.name)), .i p[ix]!.2.set.ty, .i p[ix]!.2.set.life, .mrow p[ix]!.1 0 p[ix]!.2.set.data.length, .list true []] := Zev hi
  have hrow2 : ((p.map rowP).set ix [.v (.string (bs p[ix]!.2.set.name)), .i p[ix]!.2.set.ty, .i p[ix]!.2.set.life, .mrow p[ix]!.1 0 (p[ix]!.2.set.data.filter fun x => !hasD t.data x).length, .list true []]).getD ix [] = [.v (.string (bs p[ix]!.2.set.name)), .i p[ix]!.2.set.ty, .i p[ix]!.2.set.life, .mrow p[ix]!.1 0 (p[ix]!.2.set.data.filter fun x => !hasD t.data x).length, .list true []] := rows_got (by simpa using hi)
  have hxd := hz.d p[ix]! (Zbh hi)
  have hxe := hz.ne p[ix]! (Zbh hi)
  have hxl := hdl p[ix]! (Zbh hi)
  have hxn : p[ix]!.1 < n := by rcases Nat.lt_or_ge p[ix]!.1 n with q | q; exact q; rw [hnone _ q] at hxd; cases hxd
  have hx1 : (p[ix]!.1 = n) = False := eq_false (by omega)
  have hx2 : (n = p[ix]!.1) = False := eq_false (by omega)
  have hx3 : (p[ix]!.1 = rs) = False := eq_false hxe.2
  have hx4 : (rs = p[ix]!.1) = False := eq_false (fun e => hxe.2 e.symm)
  have hx5 : (p[ix]!.1 = zc) = False := eq_false hxe.1
  have hx6 : (zc = p[ix]!.1) = False := eq_false (fun e => hxe.1 e.symm)
  have hx7 : (cc = p[ix]!.1) = False := eq_false fun e => by rw [e, hxd] at hcc; cases hcc
  have hx8 : (ce = p[ix]!.1) = False := eq_false fun e => by rw [e, hxd] at hcd; cases hcd
  have hlr : (p.map rowP).length = p.length := by simp
  have hz3 : ZM 24 52 63 zc rs a (p.set ix (p[ix]!.1, p[ix]!.2.withD (p[ix]!.2.set.data.filter fun x => !hasD t.data x))) (upd (upd (upd (upd h n (some ⟨31, [t.d]⟩)) n none) p[ix]!.1 (some ⟨63, (p[ix]!.2.set.data.filter fun x => !hasD t.data x).map Dat.d⟩)) rs (some ⟨52, (p.map rowP).set ix [.v (.string (bs p[ix]!.2.set.name)), .i p[ix]!.2.set.ty, .i p[ix]!.2.set.life, .mrow p[ix]!.1 0 (p[ix]!.2.set.data.filter fun x => !hasD t.data x).length, .list true []]⟩)) := hz.setD hi (p[ix]!.2.set.data.filter fun x => !hasD t.data x) (by simp only [upd, hc3, hx6, hm2, if_false]) (upd_same _ _ _) (by simp only [upd, hx3, if_false, if_true]) (fun x hx hne => by have q1 := (hz.ne x hx).2; have q2 : x.1 ≠ n := (fun e => by have := hz.d x hx; rw [e, hnn] at this; cases this); simp only [upd, if_neg q1, if_neg hne, if_neg q2])
  have ff := And.intro @hix2 (And.intro @hrow (And.intro @hrow2 (And.intro @hxd (And.intro @hlr (And.intro @hx1 (And.intro @hx2 (And.intro @hx3 (And.intro @hx4 (And.intro @hx5 (And.intro @hx6 (And.intro @hx7 (And.intro @hx8 ff))))))))))))
  refine dw_skip ?_
  show DW _ _ _ _ _
  refine stp Lun ?_
  refine Zth 3 n ev ev (by simp [nrs, D.nr, Zmf]) ?_
  refine Zaa (Ze2 Lun 6 (hct := by exact udeld_ct p[ix]!.2.set.data t _ _ _ _ rfl (by omega) (by omega) (by simp only [go_sem, ff])) (hk := ?_))
  rintro res h2 n2 ⟨rfl, rfl, a1⟩
  try dsimp only at a1
  refine Zd2 Lun ?_
  show DW _ _ _ _ _
  refine stp Lun ?_
  refine cd (fun c2 => ?_) (fun c2 => ?_)
  ·
   refine Ze2 Lun 2 (hct := by exact Zs2 zc rs cc ix a _ _ _ hz3 (by simp only [go_sem, ff]) (by simpa using hl) (by simpa using hi)) (hk := ?_)
   rintro res h2 n2 ⟨rfl, hst⟩
   refine Zd2 Lun ?_
   exact Zik (_) (hh := fun _ => .inl rfl) (hr := by (try simp only [go_sem, ff]); all_goals (first | (rw [Zwm hf]; exact (StepR.same hz2 (Nat.le_refl n)).of_fresh hnn (by omega) (by omega)) | (rw [← Zym hf hix hi (by simpa using c2) _]; exact hst.after (fun q b e1 e2 e3 e4 => by have q1 : q ≠ rs := (fun e => e2 (by rw [e, hz.r] at e1; cases e1; rfl)); have q2 : q ≠ p[ix]!.1 := (fun e => e3 (by rw [e, hz.d _ (Zbh hi)] at e1; cases e1; rfl)); have q3 : q ≠ n := (fun e => by rw [e, hnn] at e1; cases e1); simp only [upd, if_neg q1, if_neg q2, if_neg q3]; exact e1) (by first | omega | (dsimp only; omega)) (by first | omega | (dsimp only; omega))) | (rw [← Zxm hf hix hi (by simpa using c2)]; exact (StepR.same hz3 (Nat.le_refl n)).after (fun q b e1 e2 e3 e4 => by have q1 : q ≠ rs := (fun e => e2 (by rw [e, hz.r] at e1; cases e1; rfl)); have q2 : q ≠ p[ix]!.1 := (fun e => e3 (by rw [e, hz.d _ (Zbh hi)] at e1; cases e1; rfl)); have q3 : q ≠ n := (fun e => by rw [e, hnn] at e1; cases e1); simp only [upd, if_neg q1, if_neg q2, if_neg q3]; exact e1) (by omega) (by first | omega | (dsimp only; omega)))))
  ·
   refine dw_skip ?_
   exact Zik (_) (hh := fun _ => .inl rfl) (hr := by (try simp only [go_sem, ff]); all_goals (first | (rw [Zwm hf]; exact (StepR.same hz2 (Nat.le_refl n)).of_fresh hnn (by omega) (by omega)) | (rw [← Zym hf hix hi (by simpa using c2) _]; exact hst.after (fun q b e1 e2 e3 e4 => by have q1 : q ≠ rs := (fun e => e2 (by rw [e, hz.r] at e1; cases e1; rfl)); have q2 : q ≠ p[ix]!.1 := (fun e => e3 (by rw [e, hz.d _ (Zbh hi)] at e1; cases e1; rfl)); have q3 : q ≠ n := (fun e => by rw [e, hnn] at e1; cases e1); simp only [upd, if_neg q1, if_neg q2, if_neg q3]; exact e1) (by first | omega | (dsimp only; omega)) (by first | omega | (dsimp only; omega))) | (rw [← Zxm hf hix hi (by simpa using c2)]; exact (StepR.same hz3 (Nat.le_refl n)).after (fun q b e1 e2 e3 e4 => by have q1 : q ≠ rs := (fun e => e2 (by rw [e, hz.r] at e1; cases e1; rfl)); have q2 : q ≠ p[ix]!.1 := (fun e => e3 (by rw [e, hz.d _ (Zbh hi)] at e1; cases e1; rfl)); have q3 : q ≠ n := (fun e => by rw [e, hnn] at e1; cases e1); simp only [upd, if_neg q1, if_neg q2, if_neg q3]; exact e1) (by omega) (by first | omega | (dsimp only; omega)))))
set_option maxRecDepth 10000
theorem bo76 : Zea Tryz.prog 76 = true := by kernel_rfl
theorem Zu4 (zc : Nat) (h : H) (n : Nat) (hzc : zc < n) : RCt Tryz.prog 76 [.mptr zc 0 0] h n (fun d h' n' => d = .agg [.v .nilFunc, .fn (.func 111) [] [.mptr n 0 0], .fn (.func 116) [] [.mptr n 0 0, .mptr (n + 3) 0 0], .fn (.func 120) [] [.mptr n 0 0, .mptr (n + 3) 0 0], .fn (.func 121) [] [.mptr n 0 0]] ∧ h' n = some ⟨102, [[.mptr zc 0 0]]⟩ ∧ h' (n + 3) = some ⟨131, [[.fn (.func 109) [] [.mptr n 0 0]]]⟩ ∧ (∀ q, q < n → h' q = h q) ∧ n + 3 < n') := by
 refine Zlb Tryz.func76 rfl bo76 (by simp [Tryz.f76]) (fun hnone => ?_)
 unfold Tryz.f76
 have ff := True.intro
 refine stp Lun ?_
 refine stp Lun ?_
 refine stp Lun ?_
 refine Zba ?_
 exact Zik (_) (hh := fun _ => .inl rfl) (hr := by (try simp only [go_sem, ff]); all_goals (refine ⟨fun q hq => ?_, by omega⟩; simp only [upd]; (repeat rw [if_neg (by omega)])))
set_option maxRecDepth 10000
theorem Zw3 {p : List PS} (q : Qst) : findIx (lP p) q ≤ p.length := by
 have h : findIx (lP p) q ≤ (lP p).length := (Zh2 _ _ 0 (lP p).length (Nat.le_refl _) (Nat.zero_le _)).1
 rw [Zse] at h
 exact h
theorem bo111 : Zea Tryz.prog 111 = true := by kernel_rfl
theorem uadd_ct (t : RSet) (zc rs cc : Nat) (a : Str) (p : List PS) (h : H) (n : Nat) (hz : ZM 24 52 63 zc rs a p h) (hcc : h cc = some ⟨102, [[.mptr zc 0 0]]⟩) (hl : p.length ≤ 90000) (hdl : ∀ x ∈ p, x.2.set.data.length ≤ 1000) (hps : ∀ x ∈ p, Zld datC x.2.set.data) (hts : Zld datC t.data) (ht0 : 0 < t.data.length) (htl : t.data.length ≤ 1000) : RCt Tryz.prog 111 [.agg t.d, .mptr cc 0 0] h n (fun d h' n' => d = .tuple [] ∧ StepR 24 52 63 zc a (addL (lP p) t) h h' n n') := by
 refine Zlb Tryz.func111 rfl bo111 (by simp [Tryz.f111]) (fun hnone => ?_)
 unfold Tryz.f111
 have ff := True.intro
 have hzz := hz.z
 have hzr := hz.r
 have hnn : h n = none := hnone _ (Nat.le_refl _)
 have hz2 := hz.fresh (b := some ⟨31, [t.d]⟩) hnn
 have lrs : rs < n := by rcases Nat.lt_or_ge rs n with q | q; exact q; rw [hnone rs q] at hzr; cases hzr
 have lzc : zc < n := by rcases Nat.lt_or_ge zc n with q | q; exact q; rw [hnone zc q] at hzz; cases hzz
 have lcc : cc < n := by rcases Nat.lt_or_ge cc n with q | q; exact q; rw [hnone cc q] at hcc; cases hcc
 have hn1 : (n = rs) = False := eq_false (by omega)
 have hn2 : (n = zc) = False := eq_false (by omega)
 have hn3 : (n = cc) = False := eq_false (by omega)
 have hm1 : (rs = n) = False := eq_false (by omega)
 have hm2 : (zc = n) = False := eq_false (by omega)
 have hm3 : (cc = n) = False := eq_false (by omega)
 have hc1 : (cc = rs) = False := eq_false fun e => by rw [e, hzr] at hcc; cases hcc
 have hc2 : (cc = zc) = False := eq_false fun e => by rw [e, hzz] at hcc; cases hcc
 have hc3 : (zc = rs) = False := eq_false hz.zr
 have hc4 : (rs = zc) = False := eq_false fun e => hz.zr e.symm
 have hc5 : (rs = cc) = False := eq_false fun e => by rw [← e, hzr] at hcc; cases hcc
 have hc6 : (zc = cc) = False := eq_false fun e => by rw [← e, hzz] at hcc; cases hcc
 have hd1 : cc ≠ rs := fun e => by rw [e, hzr] at hcc; cases hcc
 have hd2 : zc ≠ rs := hz.zr
 have hd3 : cc ≠ zc := fun e => by rw [e, hzz] at hcc; cases hcc
 have hpn : ∀ x ∈ p, x.1 < n := fun x hx => by have := hz.d x hx; rcases Nat.lt_or_ge x.1 n with q | q; exact q; rw [hnone x.1 q] at this; cases this
 have ff := And.intro @hzz (And.intro @hzr (And.intro @hcc (And.intro @hc1 (And.intro @hc2 (And.intro @hc3 (And.intro @hc4 (And.intro @hc5 (And.intro @hc6 (And.intro @hn1 (And.intro @hn2 (And.intro @hn3 (And.intro @hm1 (And.intro @hm2 (And.intro @hm3 ff))))))))))))))
 refine stp Lun ?_
 have hsw := hz2.snap
 have hsw1 : Zre (upd h n (some ⟨31, [[.v (.string (bs t.name)), .i t.ty, .i t.life, .list false (t.data.map Dat.d)]]⟩)) (.agg [.v (.string (bs a)), .mrow rs 0 p.length]) = .agg [.v (.string (bs a)), .list false ((lP p).map Sgd.d)] := hsw.1
 have ff := And.intro @hsw1 ff
 refine stp LunS ?_ (hok := by (try simp only [go_sem, ff]); all_goals (first | done | ((repeat' (with_reducible apply And.intro)) <;> first | exact Zuc ⟨a, lP p⟩ t.name t.ty (by rw [Zse]; omega) | (intros; exact Zuc ⟨a, lP p⟩ t.name t.ty (by rw [Zse]; omega)) | exact hsw.2 | (intros; exact hsw.2) | exact (fun row hrow c hc => by obtain ⟨x, hx, rfl⟩ := List.mem_map.1 hrow; exact (Zwa (hz2.data x hx) 1).2 c hc) | (intros; exact (fun row hrow c hc => by obtain ⟨x, hx, rfl⟩ := List.mem_map.1 hrow; exact (Zwa (hz2.data x hx) 1).2 c hc)) | rfl | skip)))
 refine Zaa (Ze2 Lun 2 (hct := by exact Zvn t.data ht0 (by omega) _ _) (hk := ?_))
 rintro res h2 n2 ⟨r1, rfl, rfl, a1, b1⟩
 try dsimp only at a1 b1
 have zr1_n : (r1 = n) = False := eq_false (by omega)
 have yn_r1 : (n = r1) = False := eq_false (by omega)
 have zr1_rs : (r1 = rs) = False := eq_false (by omega)
 have yrs_r1 : (rs = r1) = False := eq_false (by omega)
 have zr1_zc : (r1 = zc) = False := eq_false (by omega)
 have yzc_r1 : (zc = r1) = False := eq_false (by omega)
 have zr1_cc : (r1 = cc) = False := eq_false (by omega)
 have ycc_r1 : (cc = r1) = False := eq_false (by omega)
 have ff := And.intro @a1 (And.intro @b1 (And.intro @zr1_n (And.intro @yn_r1 (And.intro @zr1_rs (And.intro @yrs_r1 (And.intro @zr1_zc (And.intro @yzc_r1 (And.intro @zr1_cc (And.intro @ycc_r1 ff)))))))))
 refine Zd2 Lun ?_
 show DW _ _ _ _ _
 refine Zaa ?_
 refine stp Lun ?_
 refine cd (fun c1 => ?_) (fun c1 => ?_) (hp := rfl) (hq := rfl)
 ·
  have hf : findOk (lP p) ⟨t.name, t.ty⟩ = false := by simpa using c1
  have zn215_n : (n2 + 15 = n) = False := eq_false (by omega)
  have yn_n215 : (n = n2 + 15) = False := eq_false (by omega)
  have zn215_rs : (n2 + 15 = rs) = False := eq_false (by omega)
  have yrs_n215 : (rs = n2 + 15) = False := eq_false (by omega)
  have zn215_zc : (n2 + 15 = zc) = False := eq_false (by omega)
  have yzc_n215 : (zc = n2 + 15) = False := eq_false (by omega)
  have zn215_cc : (n2 + 15 = cc) = False := eq_false (by omega)
  have ycc_n215 : (cc = n2 + 15) = False := eq_false (by omega)
  have zn215_r1 : (n2 + 15 = r1) = False := eq_false (by omega)
  have yr1_n215 : (r1 = n2 + 15) = False := eq_false (by omega)
  have ff := And.intro @zn215_n (And.intro @yn_n215 (And.intro @zn215_rs (And.intro @yrs_n215 (And.intro @zn215_zc (And.intro @yzc_n215 (And.intro @zn215_cc (And.intro @ycc_n215 (And.intro @zn215_r1 (And.intro @yr1_n215 ff)))))))))
  refine dr1q LunB 9 10 [(0, 1)] (hct := by exact ins_ct (p.map rowP) [.v (.string (bs t.name)), .i t.ty, .i t.life, .mrow r1 0 t.data.length, .list true []] (findIx (lP p) ⟨t.name, t.ty⟩) p.length _ _ rs (n2 + 15) (by simp) (by simpa using Zw3 _) (by simp; omega) (by simp only [go_sem, ff]) (by simp only [go_sem, ff]) (by omega) rfl Zj4) (hkeep := ?_) (hk := ?_)
  ·
   rintro res h3 n3 ⟨r2, rfl, e1, e2, e3, e4⟩ q hq r hrr
   try dsimp only at e2 e3 e4
   simp only [List.mem_singleton] at hq; subst hq
   simp only [go_sem, ff, sd, named, beq_iff_eq] at hrr ⊢; subst hrr; rw [e3 cc (by omega) (by omega)]; try simp only [go_sem, ff]
  rintro res h3 n3 ⟨r2, rfl, e1, e2, e3, e4⟩
  try dsimp only at e2 e3 e4
  simp only [List.length_map] at e1 e2 e3 e4 ⊢
  have e5 : h3 zc = some ⟨24, [[.v (.string (bs a)), .mrow rs 0 p.length]]⟩ := by rw [e3 zc (by omega) (by omega)]; simp only [go_sem, ff]
  have ff := And.intro e5 ff
  refine Zke LunB ?_
  try simp only [Zna]
  refine Zba ?_
  refine Zik (_) (hh := fun _ => .inl rfl) (hr := ?_)
  try simp only [go_sem, ff]
  rw [addL_no hf]
  have hq : ∀ q, q ≠ rs → q < n → h3 q = h q := fun q q1 q2 => by rw [e3 q q1 (by omega)]; simp only [upd]; repeat rw [if_neg (by omega)]
  have hr2z : r2 ≠ zc := by rcases e2 with e | e; rw [e]; exact fun e => hz.zr e.symm; omega
  have hr21 : r2 ≠ r1 := by rcases e2 with e | e; rw [e]; omega; omega
  refine ⟨r2, _, hz.insP (rs' := r2) (i := (findIx (lP p) ⟨t.name, t.ty⟩)) (Zw3 _) (r := r1) (s := t) (by simp [upd]) ?_ ?_ (fun x hx e => by have := hpn x hx; omega) ⟨by omega, fun e => hr21 e.symm⟩ (fun e => hr2z e.symm) (fun x hx e => by rcases e2 with k | k; rw [k] at e; exact (hz.ne x hx).2 e; have := hpn x hx; omega) (fun x hx => by simp only [upd]; rw [if_neg (hz.ne x hx).1, hq _ (hz.ne x hx).2 (hpn x hx)]), lP_insP, fun q b k1 k2 k3 k4 => ?_, by first | omega | (dsimp only; omega)⟩
  ·
   simp only [upd]; rw [if_neg hr2z, e1]; rfl
  ·
   simp only [upd]; rw [if_neg (by omega), e3 r1 (by omega) (by omega)]; simp only [upd]; repeat (first | rfl | rw [if_neg (by omega)] | rw [if_pos rfl])
  ·
   have q1 : q ≠ rs := (fun e => k2 (by rw [e, hzr] at k1; cases k1; rfl)); have q2 : q < n := (by rcases Nat.lt_or_ge q n with w | w; exact w; rw [hnone q w] at k1; cases k1); simp only [upd]; rw [if_neg k4, hq q q1 q2]; exact k1
 ·
  have hf : findOk (lP p) ⟨t.name, t.ty⟩ = true := by simpa using c1
  have hi := Zxv hf
  obtain ⟨ix, hix⟩ : ∃ ix, ix = findIx (lP p) ⟨t.name, t.ty⟩ := ⟨_, rfl⟩
  rw [← hix] at hi
  have hix2 := hix.symm
  have hrow : (p.map rowP).getD ix [] = [.v (.string (bs p[ix]!.2.set.name)), .i p[ix]!.2.set.ty, .i p[ix]!.2.set.life, .mrow p[ix]!.1 0 p[ix]!.2.set.data.length, .list true []] := Zev hi
  have hxd := hz.d p[ix]! (Zbh hi)
  have hxe := hz.ne p[ix]! (Zbh hi)
  have hxl := hdl p[ix]! (Zbh hi)
  have hxn := hpn p[ix]! (Zbh hi)
  have hlr : (p.map rowP).length = p.length := by simp
  have hx1 : (p[ix]!.1 = n) = False := eq_false (by omega)
  have hx2 : (p[ix]!.1 = r1) = False := eq_false (by omega)
  have hx3 : (p[ix]!.1 = rs) = False := eq_false (by exact hxe.2)
  have hx4 : (p[ix]!.1 = zc) = False := eq_false (by exact hxe.1)
  have hy1 : (n = p[ix]!.1) = False := eq_false (by omega)
  have hy2 : (r1 = p[ix]!.1) = False := eq_false (by omega)
  have hy3 : (rs = p[ix]!.1) = False := eq_false (by exact fun e => hxe.2 e.symm)
  have hy4 : (zc = p[ix]!.1) = False := eq_false (by exact fun e => hxe.1 e.symm)
  have ff := And.intro @hix2 (And.intro @hrow (And.intro @hxd (And.intro @hlr (And.intro @hx1 (And.intro @hx2 (And.intro @hx3 (And.intro @hx4 (And.intro @hy1 (And.intro @hy2 (And.intro @hy3 (And.intro @hy4 ff)))))))))))
  refine dw_skip ?_
  show DW _ _ _ _ _
  refine Zaa ?_
  refine stp Lun ?_
  refine cd (fun c2 => ?_) (fun c2 => ?_)
  ·
   have zn226_n : (n2 + 26 = n) = False := eq_false (by omega)
   have yn_n226 : (n = n2 + 26) = False := eq_false (by omega)
   have zn226_rs : (n2 + 26 = rs) = False := eq_false (by omega)
   have yrs_n226 : (rs = n2 + 26) = False := eq_false (by omega)
   have zn226_zc : (n2 + 26 = zc) = False := eq_false (by omega)
   have yzc_n226 : (zc = n2 + 26) = False := eq_false (by omega)
   have zn226_cc : (n2 + 26 = cc) = False := eq_false (by omega)
   have ycc_n226 : (cc = n2 + 26) = False := eq_false (by omega)
   have zn226_r1 : (n2 + 26 = r1) = False := eq_false (by omega)
   have yr1_n226 : (r1 = n2 + 26) = False := eq_false (by omega)
   have ff := And.intro @zn226_n (And.intro @yn_n226 (And.intro @zn226_rs (And.intro @yrs_n226 (And.intro @zn226_zc (And.intro @yzc_n226 (And.intro @zn226_cc (And.intro @ycc_n226 (And.intro @zn226_r1 (And.intro @yr1_n226 ff)))))))))
   refine dr0q Lun 11 ?_
   refine Yna Lun 11 (r := r1) (n := t.data.length) (rows := t.data.map Dat.d) (news := p[ix]!.2.set.data.map Dat.d) (by dsimp only; omega) (hrl := by intro q hq; obtain ⟨x, _, rfl⟩ := List.mem_map.1 hq; rfl) (hby := by rw [show (Tryz.prog).bytesOf 63 = 32 from rfl, List.length_map]; omega) (h63 := by rw [List.length_map]; omega) ?_
   refine Zke Lun ?_
   try simp only [Zna]
   obtain ⟨r6, hr6⟩ : ∃ q, q = n2 + 26 := ⟨_, rfl⟩
   simp only [← hr6]
   have zr6_n : (r6 = n) = False := eq_false (by omega)
   have yn_r6 : (n = r6) = False := eq_false (by omega)
   have zr6_rs : (r6 = rs) = False := eq_false (by omega)
   have yrs_r6 : (rs = r6) = False := eq_false (by omega)
   have zr6_zc : (r6 = zc) = False := eq_false (by omega)
   have yzc_r6 : (zc = r6) = False := eq_false (by omega)
   have zr6_cc : (r6 = cc) = False := eq_false (by omega)
   have ycc_r6 : (cc = r6) = False := eq_false (by omega)
   have zr6_r1 : (r6 = r1) = False := eq_false (by omega)
   have yr1_r6 : (r1 = r6) = False := eq_false (by omega)
   have zr6_pix1 : (r6 = p[ix]!.1) = False := eq_false (by omega)
   have ypix1_r6 : (p[ix]!.1 = r6) = False := eq_false (by omega)
   have ff := And.intro @zr6_n (And.intro @yn_r6 (And.intro @zr6_rs (And.intro @yrs_r6 (And.intro @zr6_zc (And.intro @yzc_r6 (And.intro @zr6_cc (And.intro @ycc_r6 (And.intro @zr6_r1 (And.intro @yr1_r6 (And.intro @zr6_pix1 (And.intro @ypix1_r6 ff)))))))))))
   refine Zaa (Ze2 Lun 2 (hct := by exact usort_ct (t.data ++ p[ix]!.2.set.data) _ _ _ r6 (by rw [List.length_append]) (by rw [List.length_append]; omega) (by simp only [go_sem, ff, List.map_append])) (hk := ?_))
   rintro res h2 n2 ⟨rfl, rfl, l9, hpm, hso, rfl⟩
   have hl9 := hpm.length_eq
   rw [List.length_append] at hl9
   refine Zd2 Lun ?_
   show DW _ _ _ _ _
   refine Ze2 Lun 2 (hct := by exact Zuz l9 _ _ _ r6 (by omega) (by omega) (by simp only [go_sem, ff])) (hk := ?_)
   rintro res h2 n2 ⟨rfl, rfl, a8⟩
   try dsimp only at a8
   refine Zd2 Lun ?_
   show DW _ _ _ _ _
   refine dr0 Lun 8 ?_
   refine Zke Lun ?_
   try simp only [Zna]
   refine Zik (_) (hh := fun _ => .inl rfl) (hr := ?_)
   try simp only [go_sem, ff]
   rw [← Zk4 (d := dpF l9) hf hix hi (by unfold addD; rw [if_pos (by grind)]; exact dp_mrg (hps _ (Zbh hi)) hts hpm hso) r6]
   refine ⟨rs, _, hz.setP hi (r := r6) (s := { t with data := dpF l9 }) ?_ ?_ ?_ (fun x hx e => by have := hpn x hx; omega) ⟨by omega, by omega⟩ (fun x hx => ?_), rfl, fun q b k1 k2 k3 k4 => ?_, by first | omega | (dsimp only; omega)⟩
   ·
    simp only [upd]; repeat (first | rfl | rw [if_neg (by omega)] | rw [if_neg hz.zr])
   ·
    simp only [upd, if_true]; rfl
   ·
    simp only [upd]; repeat (first | rfl | rw [if_neg (by omega)] | rw [if_pos rfl])
   ·
    have q1 := hz.ne x hx; have q2 := hpn x hx; simp only [upd]; repeat (first | rfl | rw [if_neg q1.2] | rw [if_neg (by omega)])
   ·
    have q1 : q ≠ rs := (fun e => k2 (by rw [e, hzr] at k1; cases k1; rfl)); have q2 : q < n := (by rcases Nat.lt_or_ge q n with w | w; exact w; rw [hnone q w] at k1; cases k1); simp only [upd]; repeat (first | exact k1 | rw [if_neg q1] | rw [if_neg (by omega)])
  ·
   refine dw_skip ?_
   show DW _ _ _ _ _
   refine dr0 Lun 8 ?_
   refine Zke Lun ?_
   try simp only [Zna]
   refine Zik (_) (hh := fun _ => .inl rfl) (hr := ?_)
   try simp only [go_sem, ff]
   rw [← Zk4 (d := t.data) hf hix hi (by unfold addD; rw [if_neg (by grind)]) r1]
   refine ⟨rs, _, hz.setP hi (r := r1) (s := { t with data := t.data }) ?_ ?_ ?_ (fun x hx e => by have := hpn x hx; omega) ⟨by omega, by omega⟩ (fun x hx => ?_), rfl, fun q b k1 k2 k3 k4 => ?_, by first | omega | (dsimp only; omega)⟩
   ·
    simp only [upd]; repeat (first | rfl | rw [if_neg (by omega)] | rw [if_neg hz.zr])
   ·
    simp only [upd, if_true]; rfl
   ·
    simp only [upd]; repeat (first | rfl | rw [if_neg (by omega)] | rw [if_pos rfl])
   ·
    have q1 := hz.ne x hx; have q2 := hpn x hx; simp only [upd]; repeat (first | rfl | rw [if_neg q1.2] | rw [if_neg (by omega)])
   ·
    have q1 : q ≠ rs := (fun e => k2 (by rw [e, hzr] at k1; cases k1; rfl)); have q2 : q < n := (by rcases Nat.lt_or_ge q n with w | w; exact w; rw [hnone q w] at k1; cases k1); simp only [upd]; repeat (first | exact k1 | rw [if_neg q1] | rw [if_neg (by omega)])
set_option maxRecDepth 10000
theorem bo74 : Zea Tryz.prog 74 = true := by kernel_rfl
theorem uch1_ret (cz ce : Nat) (h : H) (n : Nat) : DCt Tryz.prog 74 [.mptr cz 0 0, .mptr ce 0 0] h n .returning .returning (fun h' n' => (∀ q, q < n → h' q = h q) ∧ n ≤ n') := by
 refine Zdz (d := .v .nilIface) (v := .nilIface) Tryz.func74 rfl bo74 (by simp [Tryz.f74]) (Zqb rfl) rfl rfl (by decide) (.inl ⟨rfl, rfl, rfl⟩) (fun _ _ => .v _) (fun hnone => ?_)
 have ff := True.intro
 refine Zct (C := Lun) 1 (.agg #[.int .i64 0]) (d := .v .nilIface) (r := .tuple [.agg [.i 0], .b false]) (v := .nilIface) (by omega) (Zqb rfl) rfl rfl (by kernel_rfl) (by kernel_rfl) (by simp only [List.drop_succ_cons, List.drop_zero, List.take_succ_cons, List.take_zero, S.put, Nat.sub_self, Nat.reduceSub, go_sem, ff]; first | done | exact rfl) trivial (by rfl) (by simp only [go_sem, ff]) (fun w g q hq => by cases hq; rfl) (.inl ⟨rfl, fun w g => ?_⟩) ?_
 ·
  exact .tuple _ _ rfl (fun i d x h1 h2 => by
   match i with
   | 0 => cases h1; cases h2; exact .agg _ _ rfl (fun i d x h1 h2 => by
     match i with
     | 0 => cases h1; cases h2; exact .v _
     | i + 1 => simp at h1)
   | 1 => cases h1; cases h2; exact .v _
   | i + 2 => simp at h1)
 refine Zke Lun ?_
 try simp only [Zna]
 show DW _ _ _ _ _
 refine stp Lun ?_
 refine cd (fun c1 => ?_) (fun c1 => ?_)
 ·
  simp at c1
 ·
  refine dw_skip ?_
  refine ⟨(by trivial), h, _, ?_, Nat.le_refl _, fun q hq => rfl, by dsimp only; omega⟩
  intro r
  dsimp only
  by_cases e : r < n
  ·
   left; simp only [upd]; repeat (first | rfl | rw [if_neg (by omega)])
  ·
   right; exact hnone r (by omega)
theorem Zel (cz ce : Nat) (h : H) (n : Nat) (a0 b0 c0 : D) (hz : h cz = some ⟨24, [[a0, b0]]⟩) (he : h ce = some ⟨37, [[c0]]⟩) (k : Int) (hne : cz ≠ ce) (hcz : cz < n) (hce : ce < n) : DCt Tryz.prog 74 [.mptr cz 0 0, .mptr ce 0 0] h n (.panicking [{ v := .iface 97 (.agg #[.int .i64 k]), recovered := false }]) (.panicking [{ v := .iface 97 (.agg #[.int .i64 k]), recovered := true }]) (fun h' n' => h' cz = some ⟨24, [[.v (.string (bs [])), .list true []]]⟩ ∧ h' ce = some ⟨37, [[.i k]]⟩ ∧ n ≤ n' ∧ ∀ q, q < n → q ≠ cz → q ≠ ce → h' q = h q) := by
 have ragg : ∀ (w : World) (g : Mem), Rep w g (.agg [.i k]) (.agg #[.int .i64 k]) := fun w g => .agg _ _ rfl (fun i d x h1 h2 => by
  match i with
  | 0 => cases h1; cases h2; exact .v _
  | i + 1 => simp at h1)
 refine Zdz (d := .iface 97 (.agg [.i k])) (v := .iface 97 (.agg #[.int .i64 k])) Tryz.func74 rfl bo74 (by simp [Tryz.f74]) (Zqb rfl) rfl rfl (by decide) (.inr ⟨rfl, rfl⟩) (fun w g => .iface _ _ _ (ragg w g)) (fun hnone => ?_)
 have hn1 : ∀ k, (cz = n + k) = False := fun k => eq_false (by omega)
 have hn2 : ∀ k, (ce = n + k) = False := fun k => eq_false (by omega)
 have hn3 : ∀ k, (n + k = cz) = False := fun k => eq_false (by omega)
 have hn4 : ∀ k, (n + k = ce) = False := fun k => eq_false (by omega)
 have hn5 : (cz = ce) = False := eq_false hne
 have hn6 : (ce = cz) = False := eq_false fun e => hne e.symm
 have ff := And.intro hz (And.intro he (And.intro hn1 (And.intro hn2 (And.intro hn3 (And.intro hn4 (And.intro hn5 hn6))))))
 refine Zct (C := Lun) 1 (.agg #[.int .i64 0]) (d := .iface 97 (.agg [.i k])) (r := .tuple [.agg [.i k], .b true]) (v := .iface 97 (.agg #[.int .i64 k])) (by omega) (Zqb rfl) rfl rfl (by kernel_rfl) (by kernel_rfl) (by simp only [List.drop_succ_cons, List.drop_zero, List.take_succ_cons, List.take_zero, S.put, Nat.sub_self, Nat.reduceSub, go_sem, ff]; first | done | exact rfl) trivial (by rfl) (by simp only [go_sem, ff]) (fun w g q hq => ?_) (.inr ⟨_, rfl, fun w g => ?_⟩) ?_
 ·
  cases hq with | iface _ _ x hx =>
  cases hx with | agg _ vs hn h2 =>
  obtain ⟨vs⟩ := vs
  match vs, hn with
  | [y], _ =>
   have := h2 0 (.i k) y rfl rfl
   cases this
   rfl
 ·
  exact .tuple _ _ rfl (fun i d x h1 h2 => by
   match i with
   | 0 => cases h1; cases h2; exact ragg w g
   | 1 => cases h1; cases h2; exact .v _
   | i + 2 => simp at h1)
 refine Zke Lun ?_
 try simp only [Zna]
 show DW _ _ _ _ _
 refine stp Lun ?_
 refine cd (fun c1 => ?_) (fun c1 => ?_)
 ·
  refine dw_reg3 (C := Lun) [⟨2, 3, 11, 0⟩] (by simp only [go_sem, ff]; exact rfl) ⟨mix, by kernel_rfl, by kernel_rfl⟩ (by intro p hp; simp only [List.mem_cons, List.not_mem_nil, or_false] at hp; subst hp; intro r hr; simp only [go_sem, ff, sd, named, beq_iff_eq] at hr ⊢; first | done | omega | (simp at hr ⊢; omega)) ?_ ?_
  ·
   try simp only [go_sem, ff]
   all_goals exact ok0
  refine ⟨(by trivial), _, _, fun _ => .inl rfl, Nat.le_refl _, ?_, ?_, by dsimp only; omega, fun q q1 q2 q3 => ?_⟩
  ·
   dsimp only; simp only [upd]; repeat (first | rfl | rw [if_neg (by omega)] | rw [if_pos rfl])
  ·
   dsimp only; simp only [upd]; repeat (first | rfl | rw [if_neg (by omega)] | rw [if_pos rfl])
  ·
   dsimp only; simp only [upd]; repeat (first | rfl | rw [if_neg q2] | rw [if_neg q3] | rw [if_neg (by omega)])
 ·
  simp at c1
set_option maxRecDepth 10000
theorem bo36 : Zea Tryz.prog 36 = true := by kernel_rfl
theorem Zus (z : Zon) (l : List Chg) (h : H) (n : Nat) (hz : PlainZ z) (hcs : ∀ c ∈ l, chgOk c = true) (hll : l.length ≤ 1000) : RCt Tryz.prog 36 [.agg z.d, .list false (l.map Chg.d)] h n (fun d h' n' => ((Zxo z l = none ∧ d = .tuple [.agg [.v (.string (bs [])), .list true []], .i 6]) ∨ ∃ y zc rs p, Zxo z l = some y ∧ d = .tuple [.agg [.v (.string (bs z.apex)), .mrow rs 0 p.length], .i 0] ∧ ZM 24 52 63 zc rs z.apex p h' ∧ lP p = y.sets ∧ zc < n' ∧ rs < n' ∧ ∀ x ∈ p, x.1 < n') ∧ ∀ q b, q < n → h q = some b → b.ty ≠ 52 → b.ty ≠ 63 → h' q = some b) := by
 have ff := True.intro
 refine Zro (C := Lun) 1 Tryz.func36 rfl bo36 (by simp [Tryz.f36]) (by intro o ho; simp only [List.mem_cons, List.not_mem_nil, or_false] at ho; rcases ho with rfl | rfl | rfl <;> rfl) (by simp only [go_sem, ff]; exact rfl) (by (try simp only [go_sem, ff]); all_goals exact ok0) (Zqb rfl) rfl rfl (by intro o ho; simp only [List.take_succ_cons, List.take_zero, List.mem_cons, List.not_mem_nil, or_false] at ho; rcases ho with rfl <;> rfl) (by simp only [List.take_succ_cons, List.take_zero, go_sem, ff]; exact rfl) (by (try simp only [go_sem, ff]); all_goals exact ok0) (by (try simp only [go_sem, ff]); all_goals (first | done | rfl | decide | simp)) (by simp only [go_sem, ff]; exact rfl) (fun hnone => ?_)
 unfold Tryz.f36
 refine Zke Lun ?_
 try simp only [Zna]
 show DW _ _ _ _ _
 have zlen := hz.zo.len
 have zn_n1 : (n = n + 1) = False := eq_false (by omega)
 have yn1_n : (n + 1 = n) = False := eq_false (by omega)
 have zn_n2 : (n = n + 2) = False := eq_false (by omega)
 have yn2_n : (n + 2 = n) = False := eq_false (by omega)
 have zn1_n2 : (n + 1 = n + 2) = False := eq_false (by omega)
 have yn2_n1 : (n + 2 = n + 1) = False := eq_false (by omega)
 have ff := And.intro @zn_n1 (And.intro @yn1_n (And.intro @zn_n2 (And.intro @yn2_n (And.intro @zn1_n2 (And.intro @yn2_n1 ff)))))
 refine Zaa (Ze2 Lun 1 (hct := by exact Zu7 z (by omega) (fun s hs => by have := (hz.zo.ok s hs).len; omega) _ _) (hk := ?_))
 rintro res h2 n2 ⟨rs0, p0, rfl, d1, d2, d3, d4, d5, d6, d7, d8⟩
 try dsimp only at d5 d6 d7 d8
 have e1 : h2 n = some ⟨24, [z.d]⟩ := by rw [d8 _ (by omega)]; simp only [go_sem, ff]
 have e2 : h2 (n + 1) = some ⟨24, [[.v (.string (bs [])), .list true []]]⟩ := by rw [d8 _ (by omega)]; simp only [go_sem, ff]
 have e3 : h2 (n + 2) = some ⟨37, [[.i 0]]⟩ := by rw [d8 _ (by omega)]; simp only [go_sem, ff]
 have ff := And.intro @e1 (And.intro @e2 (And.intro @e3 ff))
 refine Zd2 Lun ?_
 show DW _ _ _ _ _
 refine Zaa (Ze2 Lun 0 (hct := by exact Zu4 (n + 1) _ _ (by dsimp only; omega)) (hk := ?_))
 rintro res hb nb ⟨rfl, g1, g2, g3, g4⟩
 try dsimp only at g1 g2 g3 g4
 refine Zd2 Lun ?_
 show DW _ _ _ _ _
 refine Zaa ?_
 refine stp Lun ?_
 refine Zda ?_
 refine dw_gen fun hq0 hhq0 => ?_
 dsimp only at hhq0
 obtain ⟨qc, hqc⟩ : ∃ q, q = n2 + 3 := ⟨_, rfl⟩
 obtain ⟨qd, hqd⟩ : ∃ q, q = n2 + 6 := ⟨_, rfl⟩
 obtain ⟨qa, hqa⟩ : ∃ q, q = nb + 1 := ⟨_, rfl⟩
 simp only [Nat.add_assoc, Nat.reduceAdd] at hhq0 g1 g2
 simp only [← hqc, ← hqd, ← hqa] at hhq0 g1 g2
 simp only [← hqa]
 have w0 : ∀ q, q < n2 + 3 → hq0 q = upd h2 (n + 1) (some ⟨24, [[.v (.string (bs z.apex)), .mrow rs0 0 p0.length]]⟩) q := fun q hq => by rw [hhq0]; simp only [upd]; rw [if_neg (by omega), if_neg (by omega)]; have := g3 q (by omega); simpa [upd] using this
 have i0 : hq0 n = some ⟨24, [z.d]⟩ := by rw [w0 n (by omega)]; simp only [upd]; rw [if_neg (by omega)]; exact e1
 have i1 : hq0 (n + 1) = some ⟨24, [[.v (.string (bs z.apex)), .mrow rs0 0 p0.length]]⟩ := by rw [w0 (n + 1) (by omega)]; simp only [upd, if_true]
 have i2 : hq0 (n + 2) = some ⟨37, [[.i 0]]⟩ := by rw [w0 (n + 2) (by omega)]; simp only [upd]; rw [if_neg (by omega)]; exact e3
 have ic : hq0 qc = some ⟨102, [[.mptr (n + 1) 0 0]]⟩ := by rw [hhq0]; simp only [upd]; rw [if_neg (by omega), if_neg (by omega)]; exact g1
 have id9 : hq0 qd = some ⟨131, [[.fn (.func 109) [] [.mptr qc 0 0]]]⟩ := by rw [hhq0]; simp only [upd]; rw [if_neg (by omega), if_neg (by omega)]; exact g2
 have ia : hq0 qa = some ⟨100, [[.v .nilFunc, .fn (.func 111) [] [.mptr qc 0 0], .fn (.func 116) [] [.mptr qc 0 0, .mptr qd 0 0], .fn (.func 120) [] [.mptr qc 0 0, .mptr qd 0 0], .fn (.func 121) [] [.mptr qc 0 0]]]⟩ := by rw [hhq0]; simp only [upd, if_true]
 have izm : ZM 24 52 63 (n + 1) rs0 z.apex p0 hq0 := ⟨i1, by rw [w0 rs0 (by omega)]; simp only [upd]; rw [if_neg (by omega)]; exact d2, fun x hx => by have := d5 x hx; rw [w0 x.1 (by omega)]; simp only [upd]; rw [if_neg (by omega)]; exact d3 x hx, by omega, fun x hx => by have := d5 x hx; exact ⟨by omega, this.1⟩, d4, fun x hx => by have h9 : x.2 ∈ lP p0 := List.mem_map.2 ⟨x, hx, rfl⟩; rw [d1] at h9; obtain ⟨s9, _, e9⟩ := List.mem_map.1 h9; rw [← e9]; rfl⟩
 have ilp : lP p0 = z.sets := by rw [d1, Zz6 hz]
 have ifr : ∀ q b, q < n → h q = some b → b.ty ≠ 52 → b.ty ≠ 63 → hq0 q = some b := fun q b q1 q2 _ _ => by rw [w0 q (by omega)]; simp only [upd]; rw [if_neg (by omega), d8 q (by omega)]; simp only [upd]; repeat (first | exact q2 | rw [if_neg (by omega)])
 refine lph (α := (Nat) × (Zon) × (Nat) × (List PS) × (H) × Nat) [2, 4, 5, 13, 14] (fun ⟨k, y, rs, p, hq, nx⟩ => (k ≤ l.length) ∧ (Zb7 z l k = some y) ∧ (PlainZ y) ∧ (y.apex = z.apex) ∧ (ZM 24 52 63 (n + 1) rs z.apex p hq) ∧ (lP p = y.sets) ∧ (hq n = some ⟨24, [z.d]⟩) ∧ (hq (n + 2) = some ⟨37, [[.i 0]]⟩) ∧ (hq qc = some ⟨102, [[.mptr (n + 1) 0 0]]⟩) ∧ (hq qd = some ⟨131, [[.fn (.func 109) [] [.mptr qc 0 0]]]⟩) ∧ (hq qa = some ⟨100, [[.v .nilFunc, .fn (.func 111) [] [.mptr qc 0 0], .fn (.func 116) [] [.mptr qc 0 0, .mptr qd 0 0], .fn (.func 120) [] [.mptr qc 0 0, .mptr qd 0 0], .fn (.func 121) [] [.mptr qc 0 0]]]⟩) ∧ (∀ q b, q < n → h q = some b → b.ty ≠ 52 → b.ty ≠ 63 → hq q = some b) ∧ (n + 2 < nx ∧ qc < nx ∧ qd < nx ∧ qa < nx) ∧ True) (fun ⟨k, y, rs, p, hq, nx⟩ => l.length - k) (fun ⟨k, y, rs, p, hq, nx⟩ => [(6, .mptr qa 0 0), (15, .i k)]) (fun ⟨k, y, rs, p, hq, nx⟩ => hq) (fun ⟨k, y, rs, p, hq, nx⟩ => nx) (0, z, rs0, p0, hq0, _) (hA := ⟨iv, rfl, (by first | (exact hz) | (dsimp only; exact hz)), rfl, (by first | (exact izm) | (dsimp only; exact izm)), (by first | (exact ilp) | (dsimp only; exact ilp)), (by first | (exact i0) | (dsimp only; exact i0)), (by first | (exact i2) | (dsimp only; exact i2)), (by first | (exact ic) | (dsimp only; exact ic)), (by first | (exact id9) | (dsimp only; exact id9)), (by first | (exact ia) | (dsimp only; exact ia)), (by first | (exact ifr) | (dsimp only; exact ifr)), (by first | (omega) | (dsimp only; omega)), trivial⟩) (round := ?_)
 rintro ⟨k, y, rs, p, hq, nx⟩ ⟨hk, hs, hpy, hay, hzm, hlp, b0, b2, bc, bd, ba, hfr, hnx, -⟩
 show DW _ _ _ _ { n := _, t := tab _, h := _, nx := _, e := _ }
 simp only [List.cons_append, List.nil_append]
 refine dw_none fun hno => ?_
 dsimp only at hno
 have zlt := hzm.lt hno
 have hzr := hzm.r
 have hzz := hzm.z
 have hlen : p.length = y.sets.length := by rw [← hlp, Zse]
 have ylen := hpy.zo.len
 have hrz := hzm.zr
 have hr0 : rs ≠ n := fun e => by rw [e, b0] at hzr; cases hzr
 have hr2 : rs ≠ n + 2 := fun e => by rw [e, b2] at hzr; cases hzr
 have hrc : rs ≠ qc := fun e => by rw [e, bc] at hzr; cases hzr
 have hrd : rs ≠ qd := fun e => by rw [e, bd] at hzr; cases hzr
 have hra : rs ≠ qa := fun e => by rw [e, ba] at hzr; cases hzr
 have hq1 : qc ≠ n + 1 := fun e => by rw [e, hzz] at bc; cases bc
 have hq2 : qd ≠ n + 1 := fun e => by rw [e, hzz] at bd; cases bd
 have hq3 : qa ≠ n + 1 := fun e => by rw [e, hzz] at ba; cases ba
 have hpd : ∀ x ∈ p, x.2.set.data.length ≤ 8 ∧ Zld datC x.2.set.data := fun x hx => by have h9 : x.2 ∈ y.sets := (by rw [← hlp]; exact List.mem_map.2 ⟨x, hx, rfl⟩); have h8 := hpy.zo.ok _ h9; exact ⟨h8.len.2, h8.sorted⟩
 have znx3_n : (nx + 3 = n) = False := eq_false (by omega)
 have yn_nx3 : (n = nx + 3) = False := eq_false (by omega)
 have znx3_n1 : (nx + 3 = n + 1) = False := eq_false (by omega)
 have yn1_nx3 : (n + 1 = nx + 3) = False := eq_false (by omega)
 have znx3_n2 : (nx + 3 = n + 2) = False := eq_false (by omega)
 have yn2_nx3 : (n + 2 = nx + 3) = False := eq_false (by omega)
 have znx3_qc : (nx + 3 = qc) = False := eq_false (by omega)
 have yqc_nx3 : (qc = nx + 3) = False := eq_false (by omega)
 have znx3_qd : (nx + 3 = qd) = False := eq_false (by omega)
 have yqd_nx3 : (qd = nx + 3) = False := eq_false (by omega)
 have znx3_qa : (nx + 3 = qa) = False := eq_false (by omega)
 have yqa_nx3 : (qa = nx + 3) = False := eq_false (by omega)
 have znx3_rs : (nx + 3 = rs) = False := eq_false (by omega)
 have yrs_nx3 : (rs = nx + 3) = False := eq_false (by omega)
 have zrs_n : (rs = n) = False := eq_false (by omega)
 have yn_rs : (n = rs) = False := eq_false (by omega)
 have zrs_n1 : (rs = n + 1) = False := eq_false (by omega)
 have yn1_rs : (n + 1 = rs) = False := eq_false (by omega)
 have zrs_n2 : (rs = n + 2) = False := eq_false (by omega)
 have yn2_rs : (n + 2 = rs) = False := eq_false (by omega)
 have zrs_qc : (rs = qc) = False := eq_false (by omega)
 have yqc_rs : (qc = rs) = False := eq_false (by omega)
 have zrs_qd : (rs = qd) = False := eq_false (by omega)
 have yqd_rs : (qd = rs) = False := eq_false (by omega)
 have zrs_qa : (rs = qa) = False := eq_false (by omega)
 have yqa_rs : (qa = rs) = False := eq_false (by omega)
 have ff := And.intro @b0 (And.intro @b2 (And.intro @bc (And.intro @bd (And.intro @ba (And.intro @hzr (And.intro @hzz (And.intro @znx3_n (And.intro @yn_nx3 (And.intro @znx3_n1 (And.intro @yn1_nx3 (And.intro @znx3_n2 (And.intro @yn2_nx3 (And.intro @znx3_qc (And.intro @yqc_nx3 (And.intro @znx3_qd (And.intro @yqd_nx3 (And.intro @znx3_qa (And.intro @yqa_nx3 (And.intro @znx3_rs (And.intro @yrs_nx3 (And.intro @zrs_n (And.intro @yn_rs (And.intro @zrs_n1 (And.intro @yn1_rs (And.intro @zrs_n2 (And.intro @yn2_rs (And.intro @zrs_qc (And.intro @yqc_rs (And.intro @zrs_qd (And.intro @yqd_rs (And.intro @zrs_qa (And.intro @yqa_rs ff))))))))))))))))))))))))))))))))
 refine stp Lun ?_
 refine Zaa ?_
 refine cd (fun c1 => ?_) (fun c1 => ?_) (hp := rfl) (hq := rfl)
 ·
  have hk2 : k < l.length := by simpa using c1
  have hc : chgOk l[k]! = true := hcs _ (mem_ix.2 ⟨k, hk2, rfl⟩)
  have ff := And.intro (Zug hk2) ff
  refine dw_skip ?_
  show DW _ _ _ _ _
  refine Zaa ?_
  refine Zda ?_
  refine stp Lun ?_
  refine Zaa ?_
  refine stp Lun ?_
  refine cd (fun c2 => ?_) (fun c2 => ?_)
  ·
   refine sgr ?_
   refine Zcj (C := Lun) 1 (by omega) (Zqb rfl) rfl rfl (by kernel_rfl) (by simp only [List.drop_succ_cons, List.drop_zero, List.take_succ_cons, List.take_zero, S.put, Nat.sub_self, Nat.reduceSub, go_sem, ff]; first | done | exact rfl) (by (try simp only [go_sem, ff]); all_goals exact ok0) (by rfl) (by simp only [go_sem, ff]; first | done | exact rfl) ?_
   refine Zuy Lun 2 (d := .iface 97 (.agg [.i 6])) (t := 97) (v := .agg #[.int .i64 6]) ?_ (fun w g q hrq => ?_)
   ·
    have hno9 := Zlg (by rw [Zud hs]; exact Zaj hpy hc (.inl (by rw [hay]; grind))) l.length (by omega)
    refine ⟨_, _, _, rfl, rfl, Zel (n + 1) (n + 2) _ _ _ _ (.i 0) (by simp only [go_sem, ff]; exact rfl) (by simp only [go_sem, ff]) 6 (by omega) (by dsimp only; omega) (by dsimp only; omega), fun h1 n1 ⟨w1, w2, w3, w4⟩ => ?_⟩
    have ff := And.intro w1 (And.intro w2 ff)
    exact ⟨by simp only [go_sem, ff], h1, n1, fun _ => .inl rfl, Nat.le_refl _, .inl ⟨hno9, by simp only [go_sem, ff]⟩, fun q b q1 q2 q3 q4 => by rw [w4 q (by dsimp only; omega) (by omega) (by omega)]; simp only [upd]; repeat (first | exact hfr q b q1 q2 q3 q4 | rw [if_neg (by omega)])⟩
   ·
    cases hrq with | iface _ _ x hx =>
    cases hx with | agg _ vs hn9 h29 =>
    obtain ⟨vs⟩ := vs
    match vs, hn9 with
    | [y9], _ =>
     have := h29 0 (.i 6) y9 rfl rfl
     cases this
     rfl
  ·
   have c2 : ¬ (l[k]!.kind = 4 ∧ l[k]!.set.name = y.apex) := by rw [hay]; grind
   refine dw_skip ?_
   show DW _ _ _ _ _
   have hkd9 := chg_kind hc
   rcases hkd9 with hkd | hkd | hkd | hkd
   ·
    have hk1 : l[k]!.kind = 1 := hkd
    have hso := Zas hc (.inl hk1)
    have ff := And.intro @hk1 ff
    refine dr1q Lun 6 7 [] (hct := by exact uadd_ct l[k]!.set (n + 1) rs qc z.apex p _ _ (hzm.keep (fun q hq9 => by have hqn : q < nx := (by rcases hq9 with rfl | rfl | ⟨x, hx, rfl⟩; omega; exact zlt.2.1; exact zlt.2.2 x hx); simp only [upd]; repeat (first | rfl | rw [if_neg (by omega)]))) (by simp only [go_sem, ff]) (by omega) (fun x hx => by have := (hpd x hx).1; omega) (fun x hx => (hpd x hx).2) hso.1.sorted (by have := hso.1.len; omega) (by have := hso.1.len; omega)) (hkeep := ?_) (hk := ?_)
    ·
     intro res h2 n2 _ q hq; cases hq
    rintro res h2 n2 ⟨rfl, hst⟩
    try dsimp only at hst
    obtain ⟨rs2, p2, hz2, hl2, hkeep, hn2⟩ := hst
    have hl3 : lP p2 = Zid y.sets l[k]! := by rw [hl2, hlp]; exact Yac hpy.zo (Zzr hc) hk1
    have g0 := hkeep n _ (by simp only [go_sem, ff]; exact rfl) (by dsimp only; decide) (by dsimp only; decide) (by omega)
    have g2 := hkeep (n + 2) _ (by simp only [go_sem, ff]; exact rfl) (by dsimp only; decide) (by dsimp only; decide) (by omega)
    have gc := hkeep qc _ (by simp only [go_sem, ff]; exact rfl) (by dsimp only; decide) (by dsimp only; decide) (by omega)
    have gd := hkeep qd _ (by simp only [go_sem, ff]; exact rfl) (by dsimp only; decide) (by dsimp only; decide) (by omega)
    have ga := hkeep qa _ (by simp only [go_sem, ff]; exact rfl) (by dsimp only; decide) (by dsimp only; decide) (by omega)
    have gt := hkeep (nx + 3) _ (by simp only [go_sem, ff]; exact rfl) (by dsimp only; decide) (by dsimp only; decide) (by omega)
    have hfr2 : ∀ q b, q < n → h q = some b → b.ty ≠ 52 → b.ty ≠ 63 → h2 q = some b := fun q b q1 q2 q3 q4 => hkeep q b (by simp only [upd]; repeat (first | exact hfr q b q1 q2 q3 q4 | rw [if_neg (by omega)])) q3 q4 (by omega)
    have gz := hz2.z
    have gr := hz2.r
    have ff := And.intro g0 (And.intro g2 (And.intro gc (And.intro gd (And.intro ga (And.intro gz (And.intro gr ff))))))
    refine Zke Lun ?_
    try simp only [Zna]
    have hsw := hz2.snap
    have hsw1 : Zre h2 (.agg [.v (.string (bs z.apex)), .mrow rs2 0 p2.length]) = .agg [.v (.string (bs z.apex)), .list false ((lP p2).map Sgd.d)] := hsw.1
    have ff := And.intro @hsw1 ff
    refine stp LunS ?_ (hok := by (try simp only [go_sem, ff]); all_goals (first | done | ((repeat' (with_reducible apply And.intro)) <;> first | exact Zac ⟨z.apex, lP p2⟩ | (intros; exact Zac ⟨z.apex, lP p2⟩) | exact hsw.2 | (intros; exact hsw.2) | exact (fun row hrow c hc => by obtain ⟨x, hx, rfl⟩ := List.mem_map.1 hrow; exact (Zwa (hz2.data x hx) 1).2 c hc) | (intros; exact (fun row hrow c hc => by obtain ⟨x, hx, rfl⟩ := List.mem_map.1 hrow; exact (Zwa (hz2.data x hx) 1).2 c hc)) | rfl | skip)))
    refine cd (fun c3 => ?_) (fun c3 => ?_)
    ·
     refine sgr ?_
     refine Zcj (C := Lun) 1 (by omega) (Zqb rfl) rfl rfl (by kernel_rfl) (by simp only [List.drop_succ_cons, List.drop_zero, List.take_succ_cons, List.take_zero, S.put, Nat.sub_self, Nat.reduceSub, go_sem, ff]; first | done | exact rfl) (by (try simp only [go_sem, ff]); all_goals exact ok0) (by rfl) (by simp only [go_sem, ff]; first | done | exact rfl) ?_
     refine Zuy Lun 2 (d := .iface 97 (.agg [.i 6])) (t := 97) (v := .agg #[.int .i64 6]) ?_ (fun w g q hrq => ?_)
     ·
      have hno9 := Zlg (by rw [Zud hs]; exact Zaj hpy hc (.inr (by rw [← hl3, hay]; exact c3))) l.length (by omega)
      refine ⟨_, _, _, rfl, rfl, Zel (n + 1) (n + 2) _ _ _ _ (.i 0) (by simp only [go_sem, ff]; exact rfl) (by simp only [go_sem, ff]) 6 (by omega) (by dsimp only; omega) (by dsimp only; omega), fun h1 n1 ⟨w1, w2, w3, w4⟩ => ?_⟩
      have ff := And.intro w1 (And.intro w2 ff)
      exact ⟨by simp only [go_sem, ff], h1, n1, fun _ => .inl rfl, Nat.le_refl _, .inl ⟨hno9, by simp only [go_sem, ff]⟩, fun q b q1 q2 q3 q4 => by rw [w4 q (by dsimp only; omega) (by omega) (by omega)]; exact hfr2 q b q1 q2 q3 q4⟩
     ·
      cases hrq with | iface _ _ x hx =>
      cases hx with | agg _ vs hn9 h29 =>
      obtain ⟨vs⟩ := vs
      match vs, hn9 with
      | [y9], _ =>
       have := h29 0 (.i 6) y9 rfl rfl
       cases this
       rfl
    ·
     refine dw_skip ?_
     show DW _ _ _ _ _
     have hzk : zoneOk ⟨y.apex, Zid y.sets l[k]!⟩ = true := by rw [← hl3, hay]; exact c3
     have hstep := Zgl hpy hc c2 hzk
     have hpn := (Zue hpy hc hstep).1
     refine rgn Lun ?_
     show ∃ _, _
     exact rnd (k + 1, ⟨y.apex, Zid y.sets l[k]!⟩, rs2, p2, h2, _) (h1 := ⟨iv, (by (try dsimp only); rw [Zud hs]; exact hstep), (by first | (exact hpn) | (dsimp only; exact hpn)), (by first | (exact hay) | (dsimp only; exact hay)), (by first | (exact hz2) | (dsimp only; exact hz2)), (by first | (exact hl3) | (dsimp only; exact hl3)), (by first | (exact g0) | (dsimp only; exact g0)), (by first | (exact g2) | (dsimp only; exact g2)), (by first | (exact gc) | (dsimp only; exact gc)), (by first | (exact gd) | (dsimp only; exact gd)), (by first | (exact ga) | (dsimp only; exact ga)), (by first | (exact hfr2) | (dsimp only; exact hfr2)), (by first | (omega) | (dsimp only; omega)), trivial⟩)
   ·
    have hk1 : l[k]!.kind = 2 := hkd
    have hso := Zas hc (.inr hk1)
    have ff := And.intro @hk1 ff
    refine dr1q Lun 6 7 [] (hct := by exact utake_ct l[k]!.set (n + 1) rs qc qd z.apex p _ _ (hzm.keep (fun q hq9 => by have hqn : q < nx := (by rcases hq9 with rfl | rfl | ⟨x, hx, rfl⟩; omega; exact zlt.2.1; exact zlt.2.2 x hx); simp only [upd]; repeat (first | rfl | rw [if_neg (by omega)]))) (by simp only [go_sem, ff]) (by simp only [go_sem, ff]) (by omega) (fun x hx => by have := (hpd x hx).1; omega) (by have := hso.1.len; omega)) (hkeep := ?_) (hk := ?_)
    ·
     intro res h2 n2 _ q hq; cases hq
    rintro res h2 n2 ⟨rfl, hst⟩
    try dsimp only at hst
    obtain ⟨rs2, p2, hz2, hl2, hkeep, hn2⟩ := hst
    have hl3 : lP p2 = Zid y.sets l[k]! := by rw [hl2, hlp]; exact Zw4 hpy.zo (Zzr hc) hk1
    have g0 := hkeep n _ (by simp only [go_sem, ff]; exact rfl) (by dsimp only; decide) (by dsimp only; decide) (by omega)
    have g2 := hkeep (n + 2) _ (by simp only [go_sem, ff]; exact rfl) (by dsimp only; decide) (by dsimp only; decide) (by omega)
    have gc := hkeep qc _ (by simp only [go_sem, ff]; exact rfl) (by dsimp only; decide) (by dsimp only; decide) (by omega)
    have gd := hkeep qd _ (by simp only [go_sem, ff]; exact rfl) (by dsimp only; decide) (by dsimp only; decide) (by omega)
    have ga := hkeep qa _ (by simp only [go_sem, ff]; exact rfl) (by dsimp only; decide) (by dsimp only; decide) (by omega)
    have gt := hkeep (nx + 3) _ (by simp only [go_sem, ff]; exact rfl) (by dsimp only; decide) (by dsimp only; decide) (by omega)
    have hfr2 : ∀ q b, q < n → h q = some b → b.ty ≠ 52 → b.ty ≠ 63 → h2 q = some b := fun q b q1 q2 q3 q4 => hkeep q b (by simp only [upd]; repeat (first | exact hfr q b q1 q2 q3 q4 | rw [if_neg (by omega)])) q3 q4 (by omega)
    have gz := hz2.z
    have gr := hz2.r
    have ff := And.intro g0 (And.intro g2 (And.intro gc (And.intro gd (And.intro ga (And.intro gz (And.intro gr ff))))))
    refine Zke Lun ?_
    try simp only [Zna]
    have hsw := hz2.snap
    have hsw1 : Zre h2 (.agg [.v (.string (bs z.apex)), .mrow rs2 0 p2.length]) = .agg [.v (.string (bs z.apex)), .list false ((lP p2).map Sgd.d)] := hsw.1
    have ff := And.intro @hsw1 ff
    refine stp LunS ?_ (hok := by (try simp only [go_sem, ff]); all_goals (first | done | ((repeat' (with_reducible apply And.intro)) <;> first | exact Zac ⟨z.apex, lP p2⟩ | (intros; exact Zac ⟨z.apex, lP p2⟩) | exact hsw.2 | (intros; exact hsw.2) | exact (fun row hrow c hc => by obtain ⟨x, hx, rfl⟩ := List.mem_map.1 hrow; exact (Zwa (hz2.data x hx) 1).2 c hc) | (intros; exact (fun row hrow c hc => by obtain ⟨x, hx, rfl⟩ := List.mem_map.1 hrow; exact (Zwa (hz2.data x hx) 1).2 c hc)) | rfl | skip)))
    refine cd (fun c3 => ?_) (fun c3 => ?_)
    ·
     refine sgr ?_
     refine Zcj (C := Lun) 1 (by omega) (Zqb rfl) rfl rfl (by kernel_rfl) (by simp only [List.drop_succ_cons, List.drop_zero, List.take_succ_cons, List.take_zero, S.put, Nat.sub_self, Nat.reduceSub, go_sem, ff]; first | done | exact rfl) (by (try simp only [go_sem, ff]); all_goals exact ok0) (by rfl) (by simp only [go_sem, ff]; first | done | exact rfl) ?_
     refine Zuy Lun 2 (d := .iface 97 (.agg [.i 6])) (t := 97) (v := .agg #[.int .i64 6]) ?_ (fun w g q hrq => ?_)
     ·
      have hno9 := Zlg (by rw [Zud hs]; exact Zaj hpy hc (.inr (by rw [← hl3, hay]; exact c3))) l.length (by omega)
      refine ⟨_, _, _, rfl, rfl, Zel (n + 1) (n + 2) _ _ _ _ (.i 0) (by simp only [go_sem, ff]; exact rfl) (by simp only [go_sem, ff]) 6 (by omega) (by dsimp only; omega) (by dsimp only; omega), fun h1 n1 ⟨w1, w2, w3, w4⟩ => ?_⟩
      have ff := And.intro w1 (And.intro w2 ff)
      exact ⟨by simp only [go_sem, ff], h1, n1, fun _ => .inl rfl, Nat.le_refl _, .inl ⟨hno9, by simp only [go_sem, ff]⟩, fun q b q1 q2 q3 q4 => by rw [w4 q (by dsimp only; omega) (by omega) (by omega)]; exact hfr2 q b q1 q2 q3 q4⟩
     ·
      cases hrq with | iface _ _ x hx =>
      cases hx with | agg _ vs hn9 h29 =>
      obtain ⟨vs⟩ := vs
      match vs, hn9 with
      | [y9], _ =>
       have := h29 0 (.i 6) y9 rfl rfl
       cases this
       rfl
    ·
     refine dw_skip ?_
     show DW _ _ _ _ _
     have hzk : zoneOk ⟨y.apex, Zid y.sets l[k]!⟩ = true := by rw [← hl3, hay]; exact c3
     have hstep := Zgl hpy hc c2 hzk
     have hpn := (Zue hpy hc hstep).1
     refine rgn Lun ?_
     show ∃ _, _
     exact rnd (k + 1, ⟨y.apex, Zid y.sets l[k]!⟩, rs2, p2, h2, _) (h1 := ⟨iv, (by (try dsimp only); rw [Zud hs]; exact hstep), (by first | (exact hpn) | (dsimp only; exact hpn)), (by first | (exact hay) | (dsimp only; exact hay)), (by first | (exact hz2) | (dsimp only; exact hz2)), (by first | (exact hl3) | (dsimp only; exact hl3)), (by first | (exact g0) | (dsimp only; exact g0)), (by first | (exact g2) | (dsimp only; exact g2)), (by first | (exact gc) | (dsimp only; exact gc)), (by first | (exact gd) | (dsimp only; exact gd)), (by first | (exact ga) | (dsimp only; exact ga)), (by first | (exact hfr2) | (dsimp only; exact hfr2)), (by first | (omega) | (dsimp only; omega)), trivial⟩)
   ·
    have hk1 : l[k]!.kind = 3 := hkd
    have ff := And.intro @hk1 ff
    refine dr1q Lun 6 7 [] (hct := by exact uset_ct l[k]!.set (n + 1) rs qc qd z.apex p _ _ (hzm.keep (fun q hq9 => by have hqn : q < nx := (by rcases hq9 with rfl | rfl | ⟨x, hx, rfl⟩; omega; exact zlt.2.1; exact zlt.2.2 x hx); simp only [upd]; repeat (first | rfl | rw [if_neg (by omega)]))) (by simp only [go_sem, ff]) (by simp only [go_sem, ff]) (by omega)) (hkeep := ?_) (hk := ?_)
    ·
     intro res h2 n2 _ q hq; cases hq
    rintro res h2 n2 ⟨rfl, hst⟩
    try dsimp only at hst
    obtain ⟨rs2, p2, hz2, hl2, hkeep, hn2⟩ := hst
    have hl3 : lP p2 = Zid y.sets l[k]! := by rw [hl2, hlp]; exact Zh8 hpy.zo (Zzr hc) hk1
    have g0 := hkeep n _ (by simp only [go_sem, ff]; exact rfl) (by dsimp only; decide) (by dsimp only; decide) (by omega)
    have g2 := hkeep (n + 2) _ (by simp only [go_sem, ff]; exact rfl) (by dsimp only; decide) (by dsimp only; decide) (by omega)
    have gc := hkeep qc _ (by simp only [go_sem, ff]; exact rfl) (by dsimp only; decide) (by dsimp only; decide) (by omega)
    have gd := hkeep qd _ (by simp only [go_sem, ff]; exact rfl) (by dsimp only; decide) (by dsimp only; decide) (by omega)
    have ga := hkeep qa _ (by simp only [go_sem, ff]; exact rfl) (by dsimp only; decide) (by dsimp only; decide) (by omega)
    have gt := hkeep (nx + 3) _ (by simp only [go_sem, ff]; exact rfl) (by dsimp only; decide) (by dsimp only; decide) (by omega)
    have hfr2 : ∀ q b, q < n → h q = some b → b.ty ≠ 52 → b.ty ≠ 63 → h2 q = some b := fun q b q1 q2 q3 q4 => hkeep q b (by simp only [upd]; repeat (first | exact hfr q b q1 q2 q3 q4 | rw [if_neg (by omega)])) q3 q4 (by omega)
    have gz := hz2.z
    have gr := hz2.r
    have ff := And.intro g0 (And.intro g2 (And.intro gc (And.intro gd (And.intro ga (And.intro gz (And.intro gr ff))))))
    refine Zke Lun ?_
    try simp only [Zna]
    have hsw := hz2.snap
    have hsw1 : Zre h2 (.agg [.v (.string (bs z.apex)), .mrow rs2 0 p2.length]) = .agg [.v (.string (bs z.apex)), .list false ((lP p2).map Sgd.d)] := hsw.1
    have ff := And.intro @hsw1 ff
    refine stp LunS ?_ (hok := by (try simp only [go_sem, ff]); all_goals (first | done | ((repeat' (with_reducible apply And.intro)) <;> first | exact Zac ⟨z.apex, lP p2⟩ | (intros; exact Zac ⟨z.apex, lP p2⟩) | exact hsw.2 | (intros; exact hsw.2) | exact (fun row hrow c hc => by obtain ⟨x, hx, rfl⟩ := List.mem_map.1 hrow; exact (Zwa (hz2.data x hx) 1).2 c hc) | (intros; exact (fun row hrow c hc => by obtain ⟨x, hx, rfl⟩ := List.mem_map.1 hrow; exact (Zwa (hz2.data x hx) 1).2 c hc)) | rfl | skip)))
    refine cd (fun c3 => ?_) (fun c3 => ?_)
    ·
     refine sgr ?_
     refine Zcj (C := Lun) 1 (by omega) (Zqb rfl) rfl rfl (by kernel_rfl) (by simp only [List.drop_succ_cons, List.drop_zero, List.take_succ_cons, List.take_zero, S.put, Nat.sub_self, Nat.reduceSub, go_sem, ff]; first | done | exact rfl) (by (try simp only [go_sem, ff]); all_goals exact ok0) (by rfl) (by simp only [go_sem, ff]; first | done | exact rfl) ?_
     refine Zuy Lun 2 (d := .iface 97 (.agg [.i 6])) (t := 97) (v := .agg #[.int .i64 6]) ?_ (fun w g q hrq => ?_)
     ·
      have hno9 := Zlg (by rw [Zud hs]; exact Zaj hpy hc (.inr (by rw [← hl3, hay]; exact c3))) l.length (by omega)
      refine ⟨_, _, _, rfl, rfl, Zel (n + 1) (n + 2) _ _ _ _ (.i 0) (by simp only [go_sem, ff]; exact rfl) (by simp only [go_sem, ff]) 6 (by omega) (by dsimp only; omega) (by dsimp only; omega), fun h1 n1 ⟨w1, w2, w3, w4⟩ => ?_⟩
      have ff := And.intro w1 (And.intro w2 ff)
      exact ⟨by simp only [go_sem, ff], h1, n1, fun _ => .inl rfl, Nat.le_refl _, .inl ⟨hno9, by simp only [go_sem, ff]⟩, fun q b q1 q2 q3 q4 => by rw [w4 q (by dsimp only; omega) (by omega) (by omega)]; exact hfr2 q b q1 q2 q3 q4⟩
     ·
      cases hrq with | iface _ _ x hx =>
      cases hx with | agg _ vs hn9 h29 =>
      obtain ⟨vs⟩ := vs
      match vs, hn9 with
      | [y9], _ =>
       have := h29 0 (.i 6) y9 rfl rfl
       cases this
       rfl
    ·
     refine dw_skip ?_
     show DW _ _ _ _ _
     have hzk : zoneOk ⟨y.apex, Zid y.sets l[k]!⟩ = true := by rw [← hl3, hay]; exact c3
     have hstep := Zgl hpy hc c2 hzk
     have hpn := (Zue hpy hc hstep).1
     refine rgn Lun ?_
     show ∃ _, _
     exact rnd (k + 1, ⟨y.apex, Zid y.sets l[k]!⟩, rs2, p2, h2, _) (h1 := ⟨iv, (by (try dsimp only); rw [Zud hs]; exact hstep), (by first | (exact hpn) | (dsimp only; exact hpn)), (by first | (exact hay) | (dsimp only; exact hay)), (by first | (exact hz2) | (dsimp only; exact hz2)), (by first | (exact hl3) | (dsimp only; exact hl3)), (by first | (exact g0) | (dsimp only; exact g0)), (by first | (exact g2) | (dsimp only; exact g2)), (by first | (exact gc) | (dsimp only; exact gc)), (by first | (exact gd) | (dsimp only; exact gd)), (by first | (exact ga) | (dsimp only; exact ga)), (by first | (exact hfr2) | (dsimp only; exact hfr2)), (by first | (omega) | (dsimp only; omega)), trivial⟩)
   ·
    have hk1 : l[k]!.kind = 4 := hkd
    have ff := And.intro @hk1 ff
    refine dr1q Lun 6 7 [] (hct := by exact uname_ct l[k]!.set (n + 1) rs qc z.apex p _ _ (hzm.keep (fun q hq9 => by have hqn : q < nx := (by rcases hq9 with rfl | rfl | ⟨x, hx, rfl⟩; omega; exact zlt.2.1; exact zlt.2.2 x hx); simp only [upd]; repeat (first | rfl | rw [if_neg (by omega)]))) (by simp only [go_sem, ff]) (by omega)) (hkeep := ?_) (hk := ?_)
    ·
     intro res h2 n2 _ q hq; cases hq
    rintro res h2 n2 ⟨rfl, hst⟩
    try dsimp only at hst
    rw [Yfa (q := fun x => !isNm l[k]!.set.name x)] at hst
    obtain ⟨rs2, p2, hz2, hl2, hkeep, hn2⟩ := hst
    have hl3 : lP p2 = Zid y.sets l[k]! := by rw [hl2, hlp]; exact Zp5 hk1
    have g0 := hkeep n _ (by simp only [go_sem, ff]; exact rfl) (by dsimp only; decide) (by dsimp only; decide) (by omega)
    have g2 := hkeep (n + 2) _ (by simp only [go_sem, ff]; exact rfl) (by dsimp only; decide) (by dsimp only; decide) (by omega)
    have gc := hkeep qc _ (by simp only [go_sem, ff]; exact rfl) (by dsimp only; decide) (by dsimp only; decide) (by omega)
    have gd := hkeep qd _ (by simp only [go_sem, ff]; exact rfl) (by dsimp only; decide) (by dsimp only; decide) (by omega)
    have ga := hkeep qa _ (by simp only [go_sem, ff]; exact rfl) (by dsimp only; decide) (by dsimp only; decide) (by omega)
    have gt := hkeep (nx + 3) _ (by simp only [go_sem, ff]; exact rfl) (by dsimp only; decide) (by dsimp only; decide) (by omega)
    have hfr2 : ∀ q b, q < n → h q = some b → b.ty ≠ 52 → b.ty ≠ 63 → h2 q = some b := fun q b q1 q2 q3 q4 => hkeep q b (by simp only [upd]; repeat (first | exact hfr q b q1 q2 q3 q4 | rw [if_neg (by omega)])) q3 q4 (by omega)
    have gz := hz2.z
    have gr := hz2.r
    have ff := And.intro g0 (And.intro g2 (And.intro gc (And.intro gd (And.intro ga (And.intro gz (And.intro gr ff))))))
    refine Zke Lun ?_
    try simp only [Zna]
    have hsw := hz2.snap
    have hsw1 : Zre h2 (.agg [.v (.string (bs z.apex)), .mrow rs2 0 p2.length]) = .agg [.v (.string (bs z.apex)), .list false ((lP p2).map Sgd.d)] := hsw.1
    have ff := And.intro @hsw1 ff
    refine stp LunS ?_ (hok := by (try simp only [go_sem, ff]); all_goals (first | done | ((repeat' (with_reducible apply And.intro)) <;> first | exact Zac ⟨z.apex, lP p2⟩ | (intros; exact Zac ⟨z.apex, lP p2⟩) | exact hsw.2 | (intros; exact hsw.2) | exact (fun row hrow c hc => by obtain ⟨x, hx, rfl⟩ := List.mem_map.1 hrow; exact (Zwa (hz2.data x hx) 1).2 c hc) | (intros; exact (fun row hrow c hc => by obtain ⟨x, hx, rfl⟩ := List.mem_map.1 hrow; exact (Zwa (hz2.data x hx) 1).2 c hc)) | rfl | skip)))
    refine cd (fun c3 => ?_) (fun c3 => ?_)
    ·
     refine sgr ?_
     refine Zcj (C := Lun) 1 (by omega) (Zqb rfl) rfl rfl (by kernel_rfl) (by simp only [List.drop_succ_cons, List.drop_zero, List.take_succ_cons, List.take_zero, S.put, Nat.sub_self, Nat.reduceSub, go_sem, ff]; first | done | exact rfl) (by (try simp only [go_sem, ff]); all_goals exact ok0) (by rfl) (by simp only [go_sem, ff]; first | done | exact rfl) ?_
     refine Zuy Lun 2 (d := .iface 97 (.agg [.i 6])) (t := 97) (v := .agg #[.int .i64 6]) ?_ (fun w g q hrq => ?_)
     ·
      have hno9 := Zlg (by rw [Zud hs]; exact Zaj hpy hc (.inr (by rw [← hl3, hay]; exact c3))) l.length (by omega)
      refine ⟨_, _, _, rfl, rfl, Zel (n + 1) (n + 2) _ _ _ _ (.i 0) (by simp only [go_sem, ff]; exact rfl) (by simp only [go_sem, ff]) 6 (by omega) (by dsimp only; omega) (by dsimp only; omega), fun h1 n1 ⟨w1, w2, w3, w4⟩ => ?_⟩
      have ff := And.intro w1 (And.intro w2 ff)
      exact ⟨by simp only [go_sem, ff], h1, n1, fun _ => .inl rfl, Nat.le_refl _, .inl ⟨hno9, by simp only [go_sem, ff]⟩, fun q b q1 q2 q3 q4 => by rw [w4 q (by dsimp only; omega) (by omega) (by omega)]; exact hfr2 q b q1 q2 q3 q4⟩
     ·
      cases hrq with | iface _ _ x hx =>
      cases hx with | agg _ vs hn9 h29 =>
      obtain ⟨vs⟩ := vs
      match vs, hn9 with
      | [y9], _ =>
       have := h29 0 (.i 6) y9 rfl rfl
       cases this
       rfl
    ·
     refine dw_skip ?_
     show DW _ _ _ _ _
     have hzk : zoneOk ⟨y.apex, Zid y.sets l[k]!⟩ = true := by rw [← hl3, hay]; exact c3
     have hstep := Zgl hpy hc c2 hzk
     have hpn := (Zue hpy hc hstep).1
     refine rgn Lun ?_
     show ∃ _, _
     exact rnd (k + 1, ⟨y.apex, Zid y.sets l[k]!⟩, rs2, p2, h2, _) (h1 := ⟨iv, (by (try dsimp only); rw [Zud hs]; exact hstep), (by first | (exact hpn) | (dsimp only; exact hpn)), (by first | (exact hay) | (dsimp only; exact hay)), (by first | (exact hz2) | (dsimp only; exact hz2)), (by first | (exact hl3) | (dsimp only; exact hl3)), (by first | (exact g0) | (dsimp only; exact g0)), (by first | (exact g2) | (dsimp only; exact g2)), (by first | (exact gc) | (dsimp only; exact gc)), (by first | (exact gd) | (dsimp only; exact gd)), (by first | (exact ga) | (dsimp only; exact ga)), (by first | (exact hfr2) | (dsimp only; exact hfr2)), (by first | (omega) | (dsimp only; omega)), trivial⟩)
 ·
  have hk3 : k = l.length := by have : ¬ k < l.length := (by simpa using c1); omega
  subst hk3
  refine Zka ?_
  show DW _ _ _ _ _
  refine stp Lun ?_
  refine Zba ?_
  refine ⟨.returning, .returning, _, rfl, rfl, uch1_ret (n + 1) (n + 2) _ _, fun h1 n1 ⟨w1, w2⟩ => ?_⟩
  have v1 : h1 (n + 1) = some ⟨24, [[.v (.string (bs z.apex)), .mrow rs 0 p.length]]⟩ := by rw [w1 _ (by dsimp only; omega)]; simp only [go_sem, ff]
  have v2 : h1 (n + 2) = some ⟨37, [[.i 0]]⟩ := by rw [w1 _ (by dsimp only; omega)]; simp only [go_sem, ff]
  have ff := And.intro v1 (And.intro v2 ff)
  refine ⟨by simp only [go_sem, ff], h1, n1, fun _ => .inl rfl, Nat.le_refl _, .inr ⟨y, n + 1, rs, p, hs, by simp only [go_sem, ff], hzm.keep (fun q hq => ?_), hlp, by dsimp only at w2; omega, by dsimp only at w2; omega, fun x hx => by have := zlt.2.2 x hx; dsimp only at w2; omega⟩, fun q b q1 q2 q3 q4 => by rw [w1 q (by dsimp only; omega)]; simp only [upd]; repeat (first | exact hfr q b q1 q2 q3 q4 | rw [if_neg (by omega)])⟩
  have hqn : q < nx := by rcases hq with rfl | rfl | ⟨x, hx, rfl⟩; omega; exact zlt.2.1; exact zlt.2.2 x hx
  have hq5 : q ≠ n + 2 := by rcases hq with rfl | rfl | ⟨x, hx, rfl⟩; omega; exact hr2; intro e; have := hzm.d x hx; rw [e, b2] at this; cases this
  rw [w1 q (by dsimp only; omega)]
  simp only [upd]
  rw [if_neg hq5]
  by_cases e9 : q = n + 1
  ·
   subst e9; simp only [if_true]; rw [hzz]
  ·
   simp only [if_neg e9]
set_option maxRecDepth 10000
theorem snapW_rs {td ts : TypeId} {h : H} {rs : Nat} {p : List PS} (hr : h rs = some ⟨ts, p.map rowP⟩) (hp : ∀ x ∈ p, Zjo td h x) : Zre h (.mrow rs 0 p.length) = .list false ((lP p).map Sgd.d) ∧ Zqa h 5 (.mrow rs 0 p.length) := by
 have hrw : rowsOf (.mrow rs 0 p.length) h = p.map rowP := by simp only [rowsOf, hr, List.drop_zero]; exact List.take_of_length_le (by simp)
 refine ⟨?_, ?_⟩
 ·
  show wk (snap h 5 (.mrow rs 0 p.length)) = _
  rw [Go.Zon.snap_mrow, hrw]
  simp only [wk, Zvw hp]
 ·
  refine ⟨⟨by rw [hr]; rfl, by rw [hrw]; simp⟩, ?_⟩
  rw [hrw]
  intro row hrow c hc
  obtain ⟨x, hx, rfl⟩ := List.mem_map.1 hrow
  exact (Zwa (hp x hx) 2).2 c hc
theorem Zf8 {td : TypeId} {h : H} {x : PS} (hx : Zjo td h x) : Zre h (.agg (rowP x)) = .agg x.2.d ∧ Zqa h 5 (.agg (rowP x)) := by
 refine ⟨?_, (Zwa hx 2).2⟩
 have := (Zwa hx 3).1
 show wk (snap h 5 (.agg (rowP x))) = _
 rw [Go.Zon.snap_agg]
 simp only [wk, Zbg]
 rw [this]
@[go_sem] theorem snapW_fn9 {h : H} {f : Fn} : Zre h (.fn f [] []) = .fn f [] [] := rfl
@[go_sem] theorem snapOk_fn9 {h : H} {f : Fn} : Zqa h 5 (.fn f [] []) = True := eq_true (by simp [Zqa])
@[go_sem] theorem snapW_list9 {h : H} {b : Bool} {l : List (List D)} : Zre h (.list b l) = wk (.list b l) := rfl
theorem Zqr {y z : Zon} (hz : PlainZ z) (hy : PlainZ y) (ha : y.apex = z.apex) : eqSets z.sets y.sets = sameZ y z := by
 unfold eqSets sameZ
 rw [Bool.eq_iff_iff, Bool.and_eq_true, decide_eq_true_eq, decide_eq_true_eq, Zoa]
 constructor
 ·
  rintro ⟨h1, h2⟩
  have hs : y.sets = z.sets := by
   refine Zcm! h1.symm fun i hi => ?_
   have h3 : z.sets[i]!.set = y.sets[i]!.set := of_decide_eq_true (h2 i (Nat.zero_le _) (by omega))
   have h4 := hz.sig _ (Zkb (show i < z.sets.length by omega))
   have h5 := hy.sig _ (Zkb hi)
   exact Zg0 h3.symm (by rw [h4, h5])
  cases y; cases z
  simp only at ha hs
  rw [ha, hs]
 ·
  rintro rfl
  exact ⟨rfl, fun i _ _ => decide_eq_true rfl⟩
theorem same_sgd {a b : Sgd} (ha : a.sigs = []) (hb : b.sigs = []) : decide (a.set = b.set) = sameSgd b a := by
 unfold sameSgd
 rw [Bool.eq_iff_iff, decide_eq_true_eq, decide_eq_true_eq]
 exact ⟨fun h => Zg0 h.symm (by rw [ha, hb]), fun h => by rw [h]⟩
theorem Zws {z : Zon} (h : PlainZ z) : findOk z.sets ⟨z.apex, 4⟩ = true ∧ findIx z.sets ⟨z.apex, 4⟩ < z.sets.length ∧ z.sets[findIx z.sets ⟨z.apex, 4⟩]! = Zfb z := by
 have h1 := Zaq h.ok
 have h2 := Zig h.zo.ord h.zo.nms (q := ⟨z.apex, 4⟩) h.zo.apex
 have h3 : Zmd z.sets ⟨z.apex, 4⟩ = some (Zfb z) := h1
 rw [h3] at h2
 cases hf : findOk z.sets ⟨z.apex, 4⟩ with
 | false => rw [hf] at h2; cases h2
 | true =>
  rw [hf, if_pos rfl] at h2
  exact ⟨rfl, (Zpm h.zo.nms (q := ⟨z.apex, 4⟩) h.zo.apex hf).1, (Option.some.inj h2).symm⟩
theorem bump_set {p : List PS} {a : Str} (hy : PlainZ ⟨a, lP p⟩) {ix : Nat} (hix : ix = findIx (lP p) ⟨a, 4⟩) : ix < p.length ∧ p[ix]!.2 = Zfb ⟨a, lP p⟩ ∧ ∀ r, lP (p.set ix (r, p[ix]!.2.withD [⟨[], nextN p[ix]!.2.set.data[0]!.n, p[ix]!.2.set.data[0]!.m⟩])) = (bumpR ⟨a, lP p⟩).sets := by
 obtain ⟨h1, h2, h3⟩ := Zws hy
 simp only at h1 h2 h3
 rw [← hix] at h2 h3
 rw [Zse] at h2
 rw [Zb6 h2] at h3
 refine ⟨h2, h3, fun r => ?_⟩
 rw [Zs3, Zh4 hy.ok]
 show (lP p).set ix _ = Zjs (lP p) (stN _ _)
 have e : (p[ix]!.2.withD [⟨[], nextN p[ix]!.2.set.data[0]!.n, p[ix]!.2.set.data[0]!.m⟩]) = stN ⟨a, lP p⟩ (nextN (Zwe ⟨a, lP p⟩)) := by
  rw [h3]
  rfl
 show (lP p).set ix (p[ix]!.2.withD [⟨[], nextN p[ix]!.2.set.data[0]!.n, p[ix]!.2.set.data[0]!.m⟩]) = _
 rw [e]
 refine Zh0 hy.ord (by rw [Zse]; exact h2) ?_
 rw [Zb6 h2, h3, stN_q hy.ok]
 exact (Zod hy.ok).2
theorem Zm8 {p : List PS} {i : Nat} (hi : i < p.length) {d : List Dat} (hd : p[i]!.2.set.data.length = d.length) : (p.map rowP).set i (rowP (p[i]!.1, p[i]!.2.withD d)) = p.map rowP := by
 have e : rowP (p[i]!.1, p[i]!.2.withD d) = (p.map rowP)[i]'(by simpa using hi) := by
  rw [List.getElem_map, getElem!_pos p i hi]
  rw [getElem!_pos p i hi] at hd
  simp only [rowP, Sgd.withD, hd]
 rw [e, List.set_getElem_self]
theorem bo37 : Zea Tryz.prog 37 = true := by kernel_rfl
theorem Zt7 (z : Zon) (zc rs : Nat) (p : List PS) (h : H) (n : Nat) (hz : PlainZ z) (hy : PlainZ (⟨z.apex, lP p⟩ : Zon)) (hm : ZM 24 52 63 zc rs z.apex p h) : RCt Tryz.prog 37 [.agg z.d, .agg [.v (.string (bs z.apex)), .mrow rs 0 p.length]] h n (fun d h' n' => d = .tuple [] ∧ ∃ p', ZM 24 52 63 zc rs z.apex p' h' ∧ p'.length = p.length ∧ lP p' = (Zwg z (⟨z.apex, lP p⟩ : Zon)).sets ∧ (∀ q, q < n → q ≠ zc → q ≠ rs → (∀ x ∈ p, q ≠ x.1) → h' q = h q)) := by
 refine Zlb Tryz.func37 rfl bo37 (by simp [Tryz.f37]) (fun hnone => ?_)
 unfold Tryz.f37
 have ff := True.intro
 have zlt := hm.lt hnone
 have hzz := hm.z
 have hzr := hm.r
 have zlen := hz.zo.len
 have plen : p.length ≤ 20000 := by have : (lP p).length ≤ 20000 := hy.zo.len; rwa [Zse] at this
 have hm2 : ZM 24 52 63 zc rs z.apex p (upd (upd h n (some ⟨24, [[.v (.string (bs z.apex)), .list false (z.sets.map Sgd.d)]]⟩)) (n + 1) (some ⟨24, [[.v (.string (bs z.apex)), .mrow rs 0 p.length]]⟩)) := (hm.fresh (hnone n (Nat.le_refl _))).fresh (by rw [upd_ne _ _ _ _ (by omega)]; exact hnone _ (by omega))
 obtain ⟨iz, hiz⟩ : ∃ q, q = findIx z.sets ⟨z.apex, 4⟩ := ⟨_, rfl⟩
 obtain ⟨ix, hix⟩ : ∃ q, q = findIx (lP p) ⟨z.apex, 4⟩ := ⟨_, rfl⟩
 obtain ⟨s1, s2, s3⟩ := Zws hz
 rw [← hiz] at s2 s3
 obtain ⟨b1, b2, b3⟩ := bump_set hy hix
 have hiz2 := hiz.symm
 have hix2 := hix.symm
 have hrow : (p.map rowP).getD ix [] = [.v (.string (bs p[ix]!.2.set.name)), .i p[ix]!.2.set.ty, .i p[ix]!.2.set.life, .mrow p[ix]!.1 0 p[ix]!.2.set.data.length, .list true []] := Zev b1
 have hxd := hm.d p[ix]! (Zbh b1)
 have hxe := hm.ne p[ix]! (Zbh b1)
 have hlr : (p.map rowP).length = p.length := by simp
 have hxn := zlt.2.2 p[ix]! (Zbh b1)
 obtain ⟨sd1, sd2, sd3, _, _⟩ := Zsj hy.ok
 rw [← b2] at sd1
 have hdl : p[ix]!.2.set.data.length = 1 := by rw [sd1]; rfl
 have hd0 : (p[ix]!.2.set.data.map Dat.d).getD 0 [] = [.v (.string (bs [])), .i p[ix]!.2.set.data[0]!.n, .i p[ix]!.2.set.data[0]!.m] := by rw [Zec (by omega)]; rw [sd1]; rfl
 have hdn : p[ix]!.2.set.data[0]!.n = Zwe (⟨z.apex, lP p⟩ : Zon) := by rw [sd1]; rfl
 have hdn2 := hdn
 have hsw := hm2.snap
 have hsw1 : Zre (upd (upd h n (some ⟨24, [[.v (.string (bs z.apex)), .list false (z.sets.map Sgd.d)]]⟩)) (n + 1) (some ⟨24, [[.v (.string (bs z.apex)), .mrow rs 0 p.length]]⟩)) (.agg [.v (.string (bs z.apex)), .mrow rs 0 p.length]) = .agg [.v (.string (bs z.apex)), .list false ((lP p).map Sgd.d)] := hsw.1
 have hsr := snapW_rs hm2.r hm2.data
 have hsr1 := hsr.1
 have hso := Zf8 (hm2.data _ (Zbh b1))
 have hso1 : Zre (upd (upd h n (some ⟨24, [[.v (.string (bs z.apex)), .list false (z.sets.map Sgd.d)]]⟩)) (n + 1) (some ⟨24, [[.v (.string (bs z.apex)), .mrow rs 0 p.length]]⟩)) (.agg [.v (.string (bs p[ix]!.2.set.name)), .i p[ix]!.2.set.ty, .i p[ix]!.2.set.life, .mrow p[ix]!.1 0 p[ix]!.2.set.data.length, .list true []]) = .agg [.v (.string (bs p[ix]!.2.set.name)), .i p[ix]!.2.set.ty, .i p[ix]!.2.set.life, .list false (p[ix]!.2.set.data.map Dat.d), .list false (p[ix]!.2.sigs.map RSig.d)] := hso.1
 have hx1 : (p[ix]!.1 = n) = False := eq_false (by omega)
 have hx2 : (n = p[ix]!.1) = False := eq_false (by omega)
 have hx3 : (p[ix]!.1 = n + 1) = False := eq_false (by omega)
 have hx4 : (n + 1 = p[ix]!.1) = False := eq_false (by omega)
 have hx5 : (p[ix]!.1 = rs) = False := eq_false hxe.2
 have hx6 : (rs = p[ix]!.1) = False := eq_false (fun e => hxe.2 e.symm)
 have hgz := Zma s2
 have hss : Zre (upd (upd h n (some ⟨24, [[.v (.string (bs z.apex)), .list false (z.sets.map Sgd.d)]]⟩)) (n + 1) (some ⟨24, [[.v (.string (bs z.apex)), .mrow rs 0 p.length]]⟩)) (.agg [.v (.string (bs z.sets[iz]!.set.name)), .i z.sets[iz]!.set.ty, .i z.sets[iz]!.set.life, .list false (z.sets[iz]!.set.data.map Dat.d), .list false (z.sets[iz]!.sigs.map RSig.d)]) = .agg [.v (.string (bs z.sets[iz]!.set.name)), .i z.sets[iz]!.set.ty, .i z.sets[iz]!.set.life, .list false (z.sets[iz]!.set.data.map Dat.d), .list false (z.sets[iz]!.sigs.map RSig.d)] := by simp only [Zre, Go.Zon.snap_agg, List.map_cons, List.map_nil, Go.Zon.snap_v, Go.Zon.snap_list, wk, wks, Zxg, Ze7]
 have zn_rs : (n = rs) = False := eq_false (by omega)
 have yrs_n : (rs = n) = False := eq_false (by omega)
 have zn_zc : (n = zc) = False := eq_false (by omega)
 have yzc_n : (zc = n) = False := eq_false (by omega)
 have zn1_rs : (n + 1 = rs) = False := eq_false (by omega)
 have yrs_n1 : (rs = n + 1) = False := eq_false (by omega)
 have zn1_zc : (n + 1 = zc) = False := eq_false (by omega)
 have yzc_n1 : (zc = n + 1) = False := eq_false (by omega)
 have ff := And.intro @hzz (And.intro @hzr (And.intro @hiz2 (And.intro @hix2 (And.intro @hrow (And.intro @hxd (And.intro @hlr (And.intro @hd0 (And.intro @hsw1 (And.intro @hss (And.intro @hsr1 (And.intro @hso1 (And.intro @hx1 (And.intro @hx2 (And.intro @hx3 (And.intro @hx4 (And.intro @hx5 (And.intro @hx6 (And.intro @hgz (And.intro @s1 (And.intro @zn_rs (And.intro @yrs_n (And.intro @zn_zc (And.intro @yzc_n (And.intro @zn1_rs (And.intro @yrs_n1 (And.intro @zn1_zc (And.intro @yzc_n1 ff)))))))))))))))))))))))))))
 refine stp Lun ?_
 refine Zaa ?_
 refine stp LunS ?_ (hok := by (try simp only [go_sem, ff]); all_goals (first | done | ((repeat' (with_reducible apply And.intro)) <;> first | exact Zs7 z.sets (lP p) (by omega) (fun s hs => by have := (hz.zo.ok s hs).len; omega) | (intros; exact Zs7 z.sets (lP p) (by omega) (fun s hs => by have := (hz.zo.ok s hs).len; omega)) | exact (fun row hrow c hc => by obtain ⟨x, hx, rfl⟩ := List.mem_map.1 hrow; exact (Zwa (hm2.data x hx) 2).2 c hc) | (intros; exact (fun row hrow c hc => by obtain ⟨x, hx, rfl⟩ := List.mem_map.1 hrow; exact (Zwa (hm2.data x hx) 2).2 c hc)) | exact hsr.2 | (intros; exact hsr.2) | rfl | skip)))
 refine cd (fun c1 => ?_) (fun c1 => ?_) (hp := rfl) (hq := rfl)
 ·
  refine Zba ?_
  refine Zik (_) (hh := fun _ => .inl rfl) (hr := ?_)
  try simp only [go_sem, ff]
  refine ⟨p, hm2, rfl, ?_, fun q q1 q2 q3 q4 => ?_⟩
  ·
   unfold Zwg; rw [if_neg (by rw [← Zqr hz hy rfl, c1]; simp)]
  ·
   simp only [upd]; rw [if_neg (by omega), if_neg (by omega)]
 ·
  refine dw_skip ?_
  show DW _ _ _ _ _
  refine stp Lun ?_ (hok := by (try simp only [go_sem, ff]); all_goals (first | done | ((repeat' (with_reducible apply And.intro)) <;> first | exact (by have h9 := Zuc z z.apex 4 (by omega); rw [← hiz, s1] at h9; exact h9) | (intros; exact (by have h9 := Zuc z z.apex 4 (by omega); rw [← hiz, s1] at h9; exact h9)) | skip)))
  refine stp LunS ?_ (hok := by (try simp only [go_sem, ff]); all_goals (first | done | ((repeat' (with_reducible apply And.intro)) <;> first | exact (by have h9 := Zuc ⟨z.apex, lP p⟩ z.apex 4 (by rw [Zse]; omega); rw [← hix] at h9; exact h9) | (intros; exact (by have h9 := Zuc ⟨z.apex, lP p⟩ z.apex 4 (by rw [Zse]; omega); rw [← hix] at h9; exact h9)) | exact (fun row hrow c hc => by obtain ⟨x, hx, rfl⟩ := List.mem_map.1 hrow; exact (Zwa (hm2.data x hx) 1).2 c hc) | (intros; exact (fun row hrow c hc => by obtain ⟨x, hx, rfl⟩ := List.mem_map.1 hrow; exact (Zwa (hm2.data x hx) 1).2 c hc)) | exact hsw.2 | (intros; exact hsw.2) | rfl | skip)))
  refine stp LunS ?_ (hok := by (try simp only [go_sem, ff]); all_goals (first | done | ((repeat' (with_reducible apply And.intro)) <;> first | exact Zcp z.sets[iz]! p[ix]!.2 (by have := (hz.zo.ok _ (Zkb s2)).len; omega) | (intros; exact Zcp z.sets[iz]! p[ix]!.2 (by have := (hz.zo.ok _ (Zkb s2)).len; omega)) | exact hso.2 | (intros; exact hso.2) | exact (fun row hrow c hc => by obtain ⟨x, hx, rfl⟩ := List.mem_map.1 hrow; simp only [Dat.d, List.mem_cons, List.not_mem_nil, or_false] at hc; rcases hc with rfl | rfl | rfl <;> rfl) | (intros; exact (fun row hrow c hc => by obtain ⟨x, hx, rfl⟩ := List.mem_map.1 hrow; simp only [Dat.d, List.mem_cons, List.not_mem_nil, or_false] at hc; rcases hc with rfl | rfl | rfl <;> rfl)) | omega | (intros; omega) | rfl | skip)))
  refine cd (fun c2 => ?_) (fun c2 => ?_) (hp := rfl) (hq := rfl)
  ·
   refine stp Lun ?_
   refine rgn Lun ?_
   refine Zik (_) (hh := fun _ => .inl rfl) (hr := ?_)
   try simp only [go_sem, ff]
   have hD : p[ix]!.2.set.data.map Dat.d = [[.v (.string (bs [])), .i p[ix]!.2.set.data[0]!.n, .i p[ix]!.2.set.data[0]!.m]] := by rw [sd1]; rfl
   refine ⟨p.set ix (p[ix]!.1, p[ix]!.2.withD [⟨[], nextN p[ix]!.2.set.data[0]!.n, p[ix]!.2.set.data[0]!.m⟩]), hm2.setD b1 _ ?_ ?_ ?_ (fun x hx hne => ?_), by simp, ?_, fun q q1 q2 q3 q4 => ?_⟩
   ·
    exact upd_ne _ _ _ _ (fun e => hxe.1 e.symm)
   ·
    rw [upd_ne _ _ _ _ (fun e => hxe.2 e.symm), Zm8 b1 (by rw [hdl]; rfl)]; exact hm2.r
   ·
    rw [upd_same, hD]; rfl
   ·
    exact upd_ne _ _ _ _ hne
   ·
    have k2 : sameSgd (Zfb (⟨z.apex, lP p⟩ : Zon)) (Zfb z) = true := (by rw [← b2, ← s3, ← same_sgd (hz.sig _ (Zkb s2)) (hm.sig _ (Zbh b1))]; exact c2)
    rw [b3]; unfold Zwg; rw [if_pos ⟨(Zqr hz hy rfl).symm.trans (by simpa using c1), k2⟩]
   ·
    have := q4 p[ix]! (Zbh b1); simp only [upd]; rw [if_neg this, if_neg (by omega), if_neg (by omega)]
  ·
   refine dw_skip ?_
   refine Zik (_) (hh := fun _ => .inl rfl) (hr := ?_)
   try simp only [go_sem, ff]
   refine ⟨p, hm2, rfl, ?_, fun q q1 q2 q3 q4 => ?_⟩
   ·
    unfold Zwg; rw [if_neg]; rintro ⟨k1, k2⟩; have k3 : z.sets[iz]!.set = p[ix]!.2.set := (by rw [s3, b2]; rw [of_decide_eq_true k2]); rw [decide_eq_true k3] at c2; cases c2
   ·
    simp only [upd]; rw [if_neg (by omega), if_neg (by omega)]
end Go.Proofs.YtmkblfajmnhccaaGreatDoor
