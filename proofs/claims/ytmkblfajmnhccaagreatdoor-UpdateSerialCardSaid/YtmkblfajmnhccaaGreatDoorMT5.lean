/-
  MANY TEXTS OF MINE IN ONE (a claim has a limit of files): ReW2, ReW3, UpW1, UpW2, UpW3, UpW4, UpW5, UpW6, UpW7, UpW8, UpW9, UpW10, UpW11, UpW12, UpW13, UpW14, UpW15, UpW16, UrW1, UrW2, UrW3, UrW4, UrW5, UrW6, UrW7, UrW8, UrW9, UlW1, UlW2, UlW3, UlW4, UlW5. Conditions: none.
-/
import Derived.Test.YtmkblfajmnhccaaGreatDoorMT4
set_option linter.unusedVariables false
set_option linter.unusedSimpArgs false
set_option linter.unusedSectionVars false
namespace Go.Proofs.YtmkblfajmnhccaaGreatDoor
open Go.DL Go.Str Go.Rec Go.Cmp Go.Zon
set_option maxRecDepth 10000
@[go_sem] theorem cutsR_0 {z : Zon} : Zuh z 0 = [] := rfl
@[go_sem] theorem highTo_0 {cs : List Str} : Zta cs 0 = [] := rfl
@[go_sem] theorem sR_snoc {l : List Str} {x : Str} : (l ++ [x]).map sR = l.map sR ++ [[.v (.string (bs x))]] := by simp [sR]
theorem Ztr {z : Zon} {k : Nat} (h : z.sets[k]!.set.ty = 2 ∧ ¬ z.sets[k]!.set.name = z.apex) : Zuh z (k + 1) = Zuh z k ++ [z.sets[k]!.set.name] := if_pos h
theorem Zhw {z : Zon} {k : Nat} (h : ¬ (z.sets[k]!.set.ty = 2 ∧ ¬ z.sets[k]!.set.name = z.apex)) : Zuh z (k + 1) = Zuh z k := if_neg h
theorem Zur (z : Zon) : ∀ k, (Zuh z k).length ≤ k
 | 0 => Nat.le_refl _
 | k + 1 => by
  have := Zur z k
  by_cases h : z.sets[k]!.set.ty = 2 ∧ ¬ z.sets[k]!.set.name = z.apex
  ·
   rw [Ztr h, List.length_append]; simp; omega
  ·
   rw [Zhw h]; omega
theorem Zop {z : Zon} (hn : Zyo z) : ∀ k, k ≤ z.sets.length → ∀ x ∈ Zuh z k, x.length ≤ 1000
 | 0, _, x, hx => by cases hx
 | k + 1, h, x, hx => by
  by_cases h2 : z.sets[k]!.set.ty = 2 ∧ ¬ z.sets[k]!.set.name = z.apex
  ·
   rw [Ztr h2, List.mem_append, List.mem_singleton] at hx
   rcases hx with hx | hx
   ·
    exact Zop hn k (by omega) x hx
   ·
    subst hx; exact hn.2 k (by omega)
  ·
   rw [Zhw h2] at hx; exact Zop hn k (by omega) x hx
theorem Zez {z : Zon} (hn : Zyo z) : (cutsF z).length ≤ 1000000 := Nat.le_trans (Zur z _) hn.1
theorem Zpp {z : Zon} (hn : Zyo z) {k : Nat} (h : k < (cutsF z).length) : (cutsF z)[k]!.length ≤ 1000 := by
 refine Zop hn _ (Nat.le_refl _) _ ?_
 show (cutsF z)[k]! ∈ cutsF z
 rw [getElem!_pos (cutsF z) k h]; exact List.getElem_mem h
theorem Znn {cs : List Str} {k : Nat} (h : Zta cs k = [] ∨ inB cs[k]! (Zta cs k)[(Zta cs k).length - 1]! = false) : Zta cs (k + 1) = Zta cs k ++ [cs[k]!] := if_pos h
theorem Zsy {cs : List Str} {k : Nat} (h : ¬ (Zta cs k = [] ∨ inB cs[k]! (Zta cs k)[(Zta cs k).length - 1]! = false)) : Zta cs (k + 1) = Zta cs k := if_neg h
theorem Zmk (cs : List Str) : ∀ k, k ≤ cs.length → (Zta cs k).length ≤ k ∧ ∀ x ∈ Zta cs k, x ∈ cs
 | 0, _ => ⟨Nat.le_refl _, fun x hx => by cases hx⟩
 | k + 1, h => by
  have ih := Zmk cs k (by omega)
  by_cases h2 : Zta cs k = [] ∨ inB cs[k]! (Zta cs k)[(Zta cs k).length - 1]! = false
  ·
   rw [Znn h2]
   refine ⟨by rw [List.length_append]; simp; omega, fun x hx => ?_⟩
   rcases List.mem_append.1 hx with hx | hx
   ·
    exact ih.2 x hx
   ·
    rw [List.mem_singleton] at hx; subst hx; rw [getElem!_pos _ _ (by omega)]; exact List.getElem_mem _
  ·
   rw [Zsy h2]; exact ⟨by omega, ih.2⟩
theorem Zsj {z : Zon} (hn : Zyo z) {k i : Nat} (hk : k ≤ (cutsF z).length) (h : i < (Zta (cutsF z) k).length) : (Zta (cutsF z) k)[i]!.length ≤ 1000 := by
 refine Zop hn _ (Nat.le_refl _) _ ((Zmk _ k hk).2 _ ?_)
 rw [getElem!_pos (Zta (cutsF z) k) i h]; exact List.getElem_mem h
theorem Zv9 {z : Zon} (hn : Zyo z) : (highF z).length ≤ 1000000 := Nat.le_trans (Zmk _ _ (Nat.le_refl _)).1 (Zez hn)
theorem Zud {z : Zon} (hn : Zyo z) {i : Nat} (h : i < (highF z).length) : (highF z)[i]!.length ≤ 1000 := Zsj hn (Nat.le_refl _) h
theorem bo153 : Zea Tryz.prog 153 = true := by kernel_rfl
theorem Za5 (z : Zon) (hl : z.sets.length ≤ 1000000) : PureCt Tryz.prog 153 [.agg z.d] (.list false ((cutsF z).map sR)) := by
 refine Zca Tryz.func153 rfl bo153 (by simp [go_sem, D.nr, nrs, nrr]) (by simp [Tryz.f153]) ?_
 unfold Tryz.f153
 simp only [Zfa]
 have ff := True.intro
 refine stp Lun ?_
 refine stp Lun ?_
 refine Zaa ?_
 refine dw_own 3 9 (by simp only [go_sem, ff]) (by simp only [go_sem, ff]) ?_
 refine stp Lun ?_
 refine Zda ?_
 refine lp (α := (Nat) × (Nat) × Nat) [1] (fun ⟨k, r, nx⟩ => (k ≤ z.sets.length) ∧ (r < nx) ∧ (0 < r) ∧ True) (fun ⟨k, r, nx⟩ => z.sets.length - k) (fun ⟨k, r, nx⟩ => [(3, .mrow r 0 (Zuh z k).length), (4, .i k)]) (fun ⟨k, r, nx⟩ => [(0, ⟨24, [z.d]⟩), (r, ⟨9, (Zuh z k).map sR⟩)]) (fun ⟨k, r, nx⟩ => nx) (0, 3, _) (hA := ⟨iv, iv, iv, trivial⟩) (round := ?_)
 rintro ⟨k, r, nx⟩ ⟨hk, hr, hr0, -⟩
 show DW _ _ _ _ { n := _, t := tab _, h := _, nx := _, e := _ }
 simp only [List.cons_append, List.nil_append]
 have hcl := Zur z k
 have n0 : 0 < nx := by omega
 have z0_r : (0 = r) = False := eq_false (by omega)
 have yr_0 : (r = 0) = False := eq_false (by omega)
 have ff := And.intro @hr (And.intro @n0 (And.intro @z0_r (And.intro @yr_0 ff)))
 refine Zaa ?_
 refine stp Lun ?_
 refine cd (fun c1 => ?_) (fun c1 => ?_) (hp := rfl)
 ·
  have hk2 : k < z.sets.length := by simpa using c1
  have ff := And.intro (Zla hk2) ff
  refine dw_skip ?_
  show DW _ _ _ _ _
  refine Zaa ?_
  refine Zda ?_
  refine stp Lun ?_
  refine stp Lun ?_
  refine cd (fun c2 => ?_) (fun c2 => ?_)
  ·
   refine rgn Lun ?_
   show DW _ _ _ _ _
   refine rgn Lun ?_
   show ∃ _, _
   have ff := And.intro (Ztr (z := z) (k := k) (by grind)) ff
   exact rnd (k + 1, (nx + 27), _) (h1 := ⟨iv, iv, iv, trivial⟩)
  ·
   refine dw_skip ?_
   show DW _ _ _ _ _
   refine rgn Lun ?_
   show ∃ _, _
   have ff := And.intro (Zhw (z := z) (k := k) (by grind)) ff
   exact rnd (k + 1, r, _) (h1 := ⟨iv, iv, iv, trivial⟩)
 ·
  refine Zja ?_
  show DW _ _ _ _ _
  have e9 : k = z.sets.length := by omega
  subst e9
  refine stp Lun ?_
  refine Zba ?_
  exact fin 1 (hr := by (try simp only [go_sem, ff]); all_goals (rfl))
theorem bo134 : Zea Tryz.prog 134 = true := by kernel_rfl
theorem Zz4 (z : Zon) (hn : Zyo z) : PureCt Tryz.prog 134 [.agg z.d] (.list false ((highF z).map sR)) := by
 refine Zca Tryz.func134 rfl bo134 (by simp [go_sem, D.nr, nrs, nrr]) (by simp [Tryz.f134]) ?_
 unfold Tryz.f134
 simp only [Zfa]
 have ff := True.intro
 have hl := hn.1
 have hcl := Zez hn
 refine stp Lun ?_
 refine stp Lun ?_ (hok := by (try simp only [go_sem, ff]); all_goals (exact Za5 z hl))
 refine stp Lun ?_
 refine Zaa ?_
 refine dw_own 4 9 (by simp only [go_sem, ff]) (by simp only [go_sem, ff]) ?_
 refine stp Lun ?_
 refine Zda ?_
 refine lp (α := (Nat) × (Nat) × Nat) [3] (fun ⟨k, r, nx⟩ => (k ≤ (cutsF z).length) ∧ (r < nx) ∧ True) (fun ⟨k, r, nx⟩ => (cutsF z).length - k) (fun ⟨k, r, nx⟩ => [(4, .mrow r 0 (Zta (cutsF z) k).length), (5, .i k)]) (fun ⟨k, r, nx⟩ => [(r, ⟨9, (Zta (cutsF z) k).map sR⟩)]) (fun ⟨k, r, nx⟩ => nx) (0, 6, _) (hA := ⟨iv, iv, trivial⟩) (round := ?_)
 rintro ⟨k, r, nx⟩ ⟨hk, hr, -⟩
 show DW _ _ _ _ { n := _, t := tab _, h := _, nx := _, e := _ }
 simp only [List.cons_append, List.nil_append]
 have hhl := (Zmk (cutsF z) k hk).1
 have ff := And.intro @hr ff
 refine Zaa ?_
 refine stp Lun ?_
 refine cd (fun c1 => ?_) (fun c1 => ?_) (hp := rfl)
 ·
  have hk2 : k < (cutsF z).length := by simpa using c1
  have e1 : (((Zta (cutsF z) k).length : Int) - 1).toNat = (Zta (cutsF z) k).length - 1 := by omega
  have ff := And.intro (Zzc hk2) (And.intro @e1 ff)
  refine dw_skip ?_
  show DW _ _ _ _ _
  refine Zaa ?_
  refine Zda ?_
  by_cases h0 : (Zta (cutsF z) k).length = 0
  ·
   have hnil := List.eq_nil_of_length_eq_zero h0
   have ff := And.intro @h0 (And.intro @hnil ff)
   refine stp Lun ?_ (hok := by (try simp only [go_sem, ff]); all_goals (first | done | ((repeat' (with_reducible apply And.intro)) <;> first | exact (fun _ => Zkd _ _ (Zpp hn hk2) (Zsj hn hk h9)) | (intros; exact (fun _ => Zkd _ _ (Zpp hn hk2) (Zsj hn hk h9))) | omega | (intros; omega) | (intro h; simp at h; done) | skip)))
   refine cd (fun c2 => ?_) (fun c2 => ?_) (hq := rfl)
   ·
    refine rgn Lun ?_
    show DW _ _ _ _ _
    refine rgn Lun ?_
    show ∃ _, _
    have ff := And.intro (Znn (cs := cutsF z) (k := k) (by first | exact .inl (List.eq_nil_of_length_eq_zero h0) | grind)) ff
    exact rnd (k + 1, (nx + 27), _) (h1 := ⟨iv, iv, trivial⟩)
   ·
    grind
  ·
   have h9 : (Zta (cutsF z) k).length - 1 < (Zta (cutsF z) k).length := by omega
   have ff := And.intro (Zzc h9) ff
   refine stp Lun ?_ (hok := by (try simp only [go_sem, ff]); all_goals (first | done | ((repeat' (with_reducible apply And.intro)) <;> first | exact (fun _ => Zkd _ _ (Zpp hn hk2) (Zsj hn hk h9)) | (intros; exact (fun _ => Zkd _ _ (Zpp hn hk2) (Zsj hn hk h9))) | omega | (intros; omega) | (intro h; simp at h; done) | skip)))
   refine cd (fun c2 => ?_) (fun c2 => ?_)
   ·
    refine rgn Lun ?_
    show DW _ _ _ _ _
    refine rgn Lun ?_
    show ∃ _, _
    have ff := And.intro (Znn (cs := cutsF z) (k := k) (by first | exact .inl (List.eq_nil_of_length_eq_zero h0) | grind)) ff
    exact rnd (k + 1, (nx + 27), _) (h1 := ⟨iv, iv, trivial⟩)
   ·
    refine dw_skip ?_
    show DW _ _ _ _ _
    refine rgn Lun ?_
    show ∃ _, _
    have ff := And.intro (Zsy (cs := cutsF z) (k := k) (by grind)) ff
    exact rnd (k + 1, r, _) (h1 := ⟨iv, iv, trivial⟩)
 ·
  refine Zja ?_
  show DW _ _ _ _ _
  have e9 : k = (cutsF z).length := by omega
  subst e9
  refine stp Lun ?_
  refine Zba ?_
  exact fin 1 (hr := by (try simp only [go_sem, ff]); all_goals (rfl))
theorem bo91 : Zea Tryz.prog 91 = true := by kernel_rfl
theorem Zqx (z : Zon) (hn : Zyo z) : PureCt Tryz.prog 91 [.agg z.d] (.list false ((behR z).map sR)) := by
 refine Zca Tryz.func91 rfl bo91 (by simp [go_sem, D.nr, nrs, nrr]) (by simp [Tryz.f91]) ?_
 unfold Tryz.f91
 simp only [Zfa]
 have ff := True.intro
 have hl := hn.1
 have hcl := Zv9 hn
 refine stp Lun ?_
 refine stp Lun ?_ (hok := by (try simp only [go_sem, ff]); all_goals (exact Zz4 z hn))
 refine stp Lun ?_
 refine stp Lun ?_
 refine Zaa ?_
 refine stp Lun ?_
 refine Zda ?_
 refine lp (α := (Nat) × (Nat) × (Nat) × Nat) [1, 3] (fun ⟨k, j, rb, nx⟩ => (k ≤ z.sets.length) ∧ (rb < nx) ∧ (0 < rb) ∧ (j = Zpe (highF z) z.sets k) ∧ (j ≤ (highF z).length) ∧ True) (fun ⟨k, j, rb, nx⟩ => z.sets.length - k) (fun ⟨k, j, rb, nx⟩ => [(4, .mrow rb 0 z.sets.length), (5, .i j), (6, .i k)]) (fun ⟨k, j, rb, nx⟩ => [(0, ⟨24, [z.d]⟩), (rb, ⟨9, (Zdj (highF z) z.sets z.sets.length (k)).map sR⟩)]) (fun ⟨k, j, rb, nx⟩ => nx) (0, 0, 8, _) (hA := ⟨iv, iv, iv, rfl, iv, trivial⟩) (round := ?_)
 rintro ⟨k, j, rb, nx⟩ ⟨hk, hx, hb0, hj, hj2, -⟩
 show DW _ _ _ _ { n := _, t := tab _, h := _, nx := _, e := _ }
 simp only [List.cons_append, List.nil_append]
 have n0 : 0 < nx := by omega
 have z0_rb : (0 = rb) = False := eq_false (by omega)
 have yrb_0 : (rb = 0) = False := eq_false (by omega)
 have ff := And.intro @hx (And.intro @n0 (And.intro @z0_rb (And.intro @yrb_0 ff)))
 refine Zaa ?_
 refine stp Lun ?_
 refine cd (fun c1 => ?_) (fun c1 => ?_) (hp := rfl)
 ·
  have hk2 : k < z.sets.length := by simpa using c1
  have ff := And.intro (Zla hk2) (And.intro (Zhq (hs := highF z) (l := z.sets) hk) (And.intro (Zzc (l := Zdj (highF z) z.sets z.sets.length k) (n := k) (by rw [Zhq hk]; exact hk2)) ff))
  refine dw_skip ?_
  show DW _ _ _ _ _
  refine Zaa ?_
  refine Zda ?_
  refine stp Lun ?_
  refine Zaa ?_
  refine Zda ?_
  refine lp (α := (Nat) × Nat) [1, 3, 4, 6, 7] (fun ⟨i, nx⟩ => (i ≤ (highF z).length) ∧ (rb < nx) ∧ (adv (highF z) z.sets[k]!.set.name j = adv (highF z) z.sets[k]!.set.name i) ∧ True) (fun ⟨i, nx⟩ => (highF z).length - i) (fun ⟨i, nx⟩ => [(5, .i i)]) (fun ⟨i, nx⟩ => [(0, ⟨24, [z.d]⟩), (rb, ⟨9, (Zdj (highF z) z.sets z.sets.length (k)).map sR⟩)]) (fun ⟨i, nx⟩ => nx) (j, _) (hA := ⟨iv, iv, rfl, trivial⟩) (round := ?_)
  rintro ⟨i, nx⟩ ⟨hi, hx, hv2, -⟩
  show DW _ _ _ _ { n := _, t := tab _, h := _, nx := _, e := _ }
  simp only [List.cons_append, List.nil_append]
  have n0 : 0 < nx := by omega
  have ff := And.intro @hx (And.intro @n0 (And.intro @z0_rb (And.intro @yrb_0 ff)))
  refine Zaa ?_
  by_cases hk4 : i < (highF z).length
  ·
   have ff := And.intro (Zzc hk4) ff
   refine stp Lun ?_ (hok := by (try simp only [go_sem, ff]); all_goals (first | done | ((repeat' (with_reducible apply And.intro)) <;> first | exact (fun _ => Zjj _ _ (Zud hn hk4) (hn.2 _ hk2)) | (intros; exact (fun _ => Zjj _ _ (Zud hn hk4) (hn.2 _ hk2))) | omega | (intros; omega) | skip)))
   refine cd (fun c2 => ?_) (fun c2 => ?_) (hq := rfl)
   ·
    refine dw_skip ?_
    show DW _ _ _ _ _
    refine Zda ?_
    refine rgn Lun ?_
    show ∃ _, _
    exact rnd (i + 1, _) (h1 := ⟨iv, iv, (by first | (rw [hv2, Zro]; grind) | (dsimp only; rw [hv2, Zro]; grind)), trivial⟩)
   ·
    have hav : Zpe (highF z) z.sets (k + 1) = i := by show adv _ _ _ = _; rw [← hj, hv2, Zro]; grind
    refine Zja ?_
    show DW _ _ _ _ _
    by_cases hi0 : i = 0
    ·
     have ff := And.intro @hi0 ff
     refine stp Lun ?_ (hok := by (try simp only [go_sem, ff]); all_goals (first | done | ((repeat' (with_reducible apply And.intro)) <;> first | exact (fun _ => Zkd _ _ (hn.2 _ hk2) (Zud hn hi9)) | (intros; exact (fun _ => Zkd _ _ (hn.2 _ hk2) (Zud hn hi9))) | omega | (intros; omega) | (intro h; simp at h; done) | skip)))
     refine cd (fun c3 => ?_) (fun c3 => ?_)
     ·
      refine rgn Lun ?_
      show DW _ _ _ _ _
      refine rgn Lun ?_
      show ∃ _, _
      have hcc : Zpf (highF z) z.sets[k]!.set.name (Zpe (highF z) z.sets (k + 1)) = (highF z)[i - 1]! := by rw [hav]; simp only [Zpf]; grind
      have ff := And.intro (Zek hk2 hcc) ff
      exact rnd (k + 1, i, rb, _) (h1 := ⟨iv, iv, iv, (by first | (exact hav.symm) | (dsimp only; exact hav.symm)), iv, trivial⟩)
     ·
      refine dw_skip ?_
      show DW _ _ _ _ _
      refine rgn Lun ?_
      show ∃ _, _
      have hcc : Zpf (highF z) z.sets[k]!.set.name (Zpe (highF z) z.sets (k + 1)) = [] := by rw [hav]; simp only [Zpf]; grind
      have ff := And.intro (Zfk hk2 hcc) ff
      exact rnd (k + 1, i, rb, _) (h1 := ⟨iv, iv, iv, (by first | (exact hav.symm) | (dsimp only; exact hav.symm)), iv, trivial⟩)
    ·
     have hi9 : i - 1 < (highF z).length := by omega
     have e1 : ((i:Int) - 1).toNat = i - 1 := by omega
     have ff := And.intro @e1 (And.intro (Zzc hi9) ff)
     refine stp Lun ?_ (hok := by (try simp only [go_sem, ff]); all_goals (first | done | ((repeat' (with_reducible apply And.intro)) <;> first | exact (fun _ => Zkd _ _ (hn.2 _ hk2) (Zud hn hi9)) | (intros; exact (fun _ => Zkd _ _ (hn.2 _ hk2) (Zud hn hi9))) | omega | (intros; omega) | (intro h; simp at h; done) | skip)))
     refine cd (fun c3 => ?_) (fun c3 => ?_)
     ·
      refine rgn Lun ?_
      show DW _ _ _ _ _
      refine rgn Lun ?_
      show ∃ _, _
      have hcc : Zpf (highF z) z.sets[k]!.set.name (Zpe (highF z) z.sets (k + 1)) = (highF z)[i - 1]! := by rw [hav]; simp only [Zpf]; grind
      have ff := And.intro (Zek hk2 hcc) ff
      exact rnd (k + 1, i, rb, _) (h1 := ⟨iv, iv, iv, (by first | (exact hav.symm) | (dsimp only; exact hav.symm)), iv, trivial⟩)
     ·
      refine dw_skip ?_
      show DW _ _ _ _ _
      refine rgn Lun ?_
      show ∃ _, _
      have hcc : Zpf (highF z) z.sets[k]!.set.name (Zpe (highF z) z.sets (k + 1)) = [] := by rw [hav]; simp only [Zpf]; grind
      have ff := And.intro (Zfk hk2 hcc) ff
      exact rnd (k + 1, i, rb, _) (h1 := ⟨iv, iv, iv, (by first | (exact hav.symm) | (dsimp only; exact hav.symm)), iv, trivial⟩)
  ·
   have e9 : decide ((i : Int) < ((highF z).length : Int)) = false := decide_eq_false (by omega)
   have ff := And.intro @e9 ff
   refine stp Lun ?_ (hok := by (try simp only [go_sem, ff]); all_goals (first | done | ((repeat' (with_reducible apply And.intro)) <;> first | exact (fun _ => Zjj _ _ (Zud hn hk4) (hn.2 _ hk2)) | (intros; exact (fun _ => Zjj _ _ (Zud hn hk4) (hn.2 _ hk2))) | omega | (intros; omega) | skip)))
   refine cd (fun c2 => ?_) (fun c2 => ?_) (hp := rfl) (hq := rfl)
   ·
    grind
   ·
    have hav : Zpe (highF z) z.sets (k + 1) = i := by show adv _ _ _ = _; rw [← hj, hv2, Zro]; grind
    refine Zja ?_
    show DW _ _ _ _ _
    by_cases hi0 : i = 0
    ·
     have ff := And.intro @hi0 ff
     refine stp Lun ?_ (hok := by (try simp only [go_sem, ff]); all_goals (first | done | ((repeat' (with_reducible apply And.intro)) <;> first | exact (fun _ => Zkd _ _ (hn.2 _ hk2) (Zud hn hi9)) | (intros; exact (fun _ => Zkd _ _ (hn.2 _ hk2) (Zud hn hi9))) | omega | (intros; omega) | (intro h; simp at h; done) | skip)))
     refine cd (fun c3 => ?_) (fun c3 => ?_)
     ·
      refine rgn Lun ?_
      show DW _ _ _ _ _
      refine rgn Lun ?_
      show ∃ _, _
      have hcc : Zpf (highF z) z.sets[k]!.set.name (Zpe (highF z) z.sets (k + 1)) = (highF z)[i - 1]! := by rw [hav]; simp only [Zpf]; grind
      have ff := And.intro (Zek hk2 hcc) ff
      exact rnd (k + 1, i, rb, _) (h1 := ⟨iv, iv, iv, (by first | (exact hav.symm) | (dsimp only; exact hav.symm)), iv, trivial⟩)
     ·
      refine dw_skip ?_
      show DW _ _ _ _ _
      refine rgn Lun ?_
      show ∃ _, _
      have hcc : Zpf (highF z) z.sets[k]!.set.name (Zpe (highF z) z.sets (k + 1)) = [] := by rw [hav]; simp only [Zpf]; grind
      have ff := And.intro (Zfk hk2 hcc) ff
      exact rnd (k + 1, i, rb, _) (h1 := ⟨iv, iv, iv, (by first | (exact hav.symm) | (dsimp only; exact hav.symm)), iv, trivial⟩)
    ·
     have hi9 : i - 1 < (highF z).length := by omega
     have e1 : ((i:Int) - 1).toNat = i - 1 := by omega
     have ff := And.intro @e1 (And.intro (Zzc hi9) ff)
     refine stp Lun ?_ (hok := by (try simp only [go_sem, ff]); all_goals (first | done | ((repeat' (with_reducible apply And.intro)) <;> first | exact (fun _ => Zkd _ _ (hn.2 _ hk2) (Zud hn hi9)) | (intros; exact (fun _ => Zkd _ _ (hn.2 _ hk2) (Zud hn hi9))) | omega | (intros; omega) | (intro h; simp at h; done) | skip)))
     refine cd (fun c3 => ?_) (fun c3 => ?_)
     ·
      refine rgn Lun ?_
      show DW _ _ _ _ _
      refine rgn Lun ?_
      show ∃ _, _
      have hcc : Zpf (highF z) z.sets[k]!.set.name (Zpe (highF z) z.sets (k + 1)) = (highF z)[i - 1]! := by rw [hav]; simp only [Zpf]; grind
      have ff := And.intro (Zek hk2 hcc) ff
      exact rnd (k + 1, i, rb, _) (h1 := ⟨iv, iv, iv, (by first | (exact hav.symm) | (dsimp only; exact hav.symm)), iv, trivial⟩)
     ·
      refine dw_skip ?_
      show DW _ _ _ _ _
      refine rgn Lun ?_
      show ∃ _, _
      have hcc : Zpf (highF z) z.sets[k]!.set.name (Zpe (highF z) z.sets (k + 1)) = [] := by rw [hav]; simp only [Zpf]; grind
      have ff := And.intro (Zfk hk2 hcc) ff
      exact rnd (k + 1, i, rb, _) (h1 := ⟨iv, iv, iv, (by first | (exact hav.symm) | (dsimp only; exact hav.symm)), iv, trivial⟩)
 ·
  refine Zja ?_
  show DW _ _ _ _ _
  have e9 : k = z.sets.length := by omega
  subst e9
  have tk : List.take z.sets.length ((Zdj (highF z) z.sets z.sets.length z.sets.length).map sR) = (behR z).map sR := by rw [rowsR_n]; exact List.take_of_length_le (by rw [List.length_map, Zid]; exact Nat.le_refl _)
  have ff := And.intro @tk (And.intro (Zhq (hs := highF z) (l := z.sets) (Nat.le_refl z.sets.length)) ff)
  refine stp Lun ?_
  refine Zba ?_
  exact fin 1 (hr := by (try simp only [go_sem, ff]); all_goals (rfl)) (hk := by (try simp only [go_sem, ff]); all_goals (exact Zid _ _ _))
set_option maxRecDepth 10000
theorem Zlw (z : Zon) : (behR z).length = z.sets.length := Zid _ _ _
theorem Za3 (z : Zon) : (ownF z).length = z.sets.length := Zeg _ _
theorem bo53 : Zea Tryz.prog 53 = true := by kernel_rfl
theorem Zet (z : Zon) (hn : Zyo z) : PureCt Tryz.prog 53 [.agg z.d] (.b (fourB z)) := by
 refine Zca Tryz.func53 rfl bo53 (by simp [go_sem, D.nr, nrs, nrr]) (by simp [Tryz.f53]) ?_
 unfold Tryz.f53
 simp only [Zfa]
 have ff := True.intro
 have hl := hn.1
 have hbl := Zlw z
 refine stp Lun ?_
 refine stp Lun ?_ (hok := by (try simp only [go_sem, ff]); all_goals (exact Zqx z hn))
 refine Zaa ?_
 refine stp Lun ?_
 refine Zda ?_
 refine lp (α := (Nat) × Nat) [1, 3] (fun ⟨k, nx⟩ => (k ≤ z.sets.length) ∧ (Zab z.sets.length (cutAt ⟨z, behR z⟩) 0 = Zab z.sets.length (cutAt ⟨z, behR z⟩) k) ∧ (0 < nx) ∧ True) (fun ⟨k, nx⟩ => z.sets.length - k) (fun ⟨k, nx⟩ => [(4, .i k)]) (fun ⟨k, nx⟩ => [(0, ⟨24, [z.d]⟩)]) (fun ⟨k, nx⟩ => nx) (0, _) (hA := ⟨iv, rfl, iv, trivial⟩) (round := ?_)
 rintro ⟨k, nx⟩ ⟨hk, hv, hx, -⟩
 show DW _ _ _ _ { n := _, t := tab _, h := _, nx := _, e := _ }
 simp only [List.cons_append, List.nil_append]
 have ff := And.intro @hx ff
 refine Zaa ?_
 refine stp Lun ?_
 refine cd (fun c1 => ?_) (fun c1 => ?_) (hp := rfl)
 ·
  have hk2 : k < z.sets.length := by simpa using c1
  have hk3 : k < (behR z).length := by omega
  have ff := And.intro (Zla hk2) (And.intro (Zzc hk3) ff)
  refine dw_skip ?_
  show DW _ _ _ _ _
  refine Zaa ?_
  refine Zda ?_
  refine stp Lun ?_
  refine stp Lun ?_
  refine Zaa ?_
  refine stp Lun ?_
  refine cd (fun c2 => ?_) (fun c2 => ?_)
  ·
   refine stp Lun ?_
   refine Zba ?_
   exact fin 0 (hr := by (try simp only [go_sem, ff]); all_goals (have hF : (cutAt ⟨z, behR z⟩) k = false := (by simp only [cutAt]; grind); simp only [fourB, cutB]; rw [hv, Zpa hk2 hF]; try simp))
  ·
   refine dw_skip ?_
   show DW _ _ _ _ _
   refine Zaa ?_
   refine stp Lun ?_
   refine cd (fun c3 => ?_) (fun c3 => ?_)
   ·
    refine stp Lun ?_
    refine Zba ?_
    exact fin 0 (hr := by (try simp only [go_sem, ff]); all_goals (have hF : (cutAt ⟨z, behR z⟩) k = false := (by simp only [cutAt]; grind); simp only [fourB, cutB]; rw [hv, Zpa hk2 hF]; try simp))
   ·
    refine dw_skip ?_
    show DW _ _ _ _ _
    refine stp Lun ?_
    refine cd (fun c4 => ?_) (fun c4 => ?_)
    ·
     refine stp Lun ?_
     refine Zba ?_
     exact fin 0 (hr := by (try simp only [go_sem, ff]); all_goals (have hF : (cutAt ⟨z, behR z⟩) k = false := (by simp only [cutAt]; grind); simp only [fourB, cutB]; rw [hv, Zpa hk2 hF]; try simp))
    ·
     refine dw_skip ?_
     show DW _ _ _ _ _
     refine rgn Lun ?_
     show ∃ _, _
     have h8 : (cutAt ⟨z, behR z⟩) k = true := by simp only [cutAt]; grind
     exact rnd (k + 1, _) (h1 := ⟨iv, (by first | (rw [hv, Zha hk2 h8]) | (dsimp only; rw [hv, Zha hk2 h8])), iv, trivial⟩)
 ·
  refine Zja ?_
  show DW _ _ _ _ _
  refine stp Lun ?_
  refine Zba ?_
  exact fin 0 (hr := by (try simp only [go_sem, ff]); all_goals (simp only [fourB, cutB]; rw [hv, Zxa (by omega)]))
theorem bo92 : Zea Tryz.prog 92 = true := by kernel_rfl
theorem Zg8 (z : Zon) (hn : Zyo z) : PureCt Tryz.prog 92 [.agg z.d] (.list false ((ownF z).map bR)) := by
 refine Zca Tryz.func92 rfl bo92 (by simp [go_sem, D.nr, nrs, nrr]) (by simp [Tryz.f92]) ?_
 unfold Tryz.f92
 simp only [Zfa]
 have ff := True.intro
 have hl := hn.1
 have hbl := Zlw z
 refine stp Lun ?_
 refine stp Lun ?_ (hok := by (try simp only [go_sem, ff]); all_goals (exact Zqx z hn))
 refine stp Lun ?_
 refine Zaa ?_
 refine stp Lun ?_
 refine Zda ?_
 refine lp (α := (Nat) × (Nat) × Nat) [1, 3] (fun ⟨k, rb, nx⟩ => (k ≤ z.sets.length) ∧ (rb < nx) ∧ (0 < rb) ∧ True) (fun ⟨k, rb, nx⟩ => z.sets.length - k) (fun ⟨k, rb, nx⟩ => [(4, .mrow rb 0 z.sets.length), (5, .i k)]) (fun ⟨k, rb, nx⟩ => [(0, ⟨24, [z.d]⟩), (rb, ⟨4, (Zwl ⟨z, behR z⟩ z.sets.length (k)).map bR⟩)]) (fun ⟨k, rb, nx⟩ => nx) (0, 8, _) (hA := ⟨iv, iv, iv, trivial⟩) (round := ?_)
 rintro ⟨k, rb, nx⟩ ⟨hk, hx, hb0, -⟩
 show DW _ _ _ _ { n := _, t := tab _, h := _, nx := _, e := _ }
 simp only [List.cons_append, List.nil_append]
 have n0 : 0 < nx := by omega
 have z0_rb : (0 = rb) = False := eq_false (by omega)
 have yrb_0 : (rb = 0) = False := eq_false (by omega)
 have ff := And.intro @hx (And.intro @n0 (And.intro @z0_rb (And.intro @yrb_0 ff)))
 refine Zaa ?_
 refine stp Lun ?_
 refine cd (fun c1 => ?_) (fun c1 => ?_) (hp := rfl)
 ·
  have hk2 : k < z.sets.length := by simpa using c1
  have hk3 : k < (behR z).length := by omega
  have ff := And.intro (Zla hk2) (And.intro (Zzc hk3) (And.intro (Zkq (x := ⟨z, behR z⟩) hk) (And.intro (Zx9 (l := Zwl ⟨z, behR z⟩ z.sets.length k) (n := k) (by rw [Zkq hk]; exact hk2)) ff)))
  refine dw_skip ?_
  show DW _ _ _ _ _
  refine Zaa ?_
  refine Zda ?_
  refine stp Lun ?_
  refine rgn Lun ?_
  show DW _ _ _ _ _
  refine rgn Lun ?_
  show ∃ _, _
  exact rnd (k + 1, rb, _) (h1 := ⟨iv, iv, iv, trivial⟩) (h3 := by (try simp only [go_sem, ff]); all_goals (first | done | exact congrArg (fun q => some (Blk.mk 4 q)) (Zgn hk2 (by simp only [Zjv]; grind)) | (simp; done))) (h4 := by (try simp only [go_sem, ff]); all_goals (first | done | exact congrArg (fun q => some (Blk.mk 4 q)) (Zgn hk2 (by simp only [Zjv]; grind)) | (simp; done))) (h5 := by (try simp only [go_sem, ff]); all_goals (first | done | exact congrArg (fun q => some (Blk.mk 4 q)) (Zgn hk2 (by simp only [Zjv]; grind)) | (simp; done)))
 ·
  refine Zja ?_
  show DW _ _ _ _ _
  have e9 : k = z.sets.length := by omega
  subst e9
  have tk : List.take z.sets.length ((Zwl ⟨z, behR z⟩ z.sets.length (z.sets.length)).map bR) = (ownF z).map bR := by rw [rowsO_n]; exact List.take_of_length_le (by rw [List.length_map, Zeg]; exact Nat.le_refl _)
  have ff := And.intro @tk (And.intro (Zkq (x := ⟨z, behR z⟩) (Nat.le_refl z.sets.length)) ff)
  refine stp Lun ?_
  refine Zba ?_
  exact fin 1 (hr := by (try simp only [go_sem, ff]); all_goals (rfl)) (hk := by (try simp only [go_sem, ff]); all_goals (exact Za3 z))
theorem bo54 : Zea Tryz.prog 54 = true := by kernel_rfl
theorem Zft (z : Zon) (hn : Zyo z) : PureCt Tryz.prog 54 [.agg z.d] (.b (fiveB z)) := by
 refine Zca Tryz.func54 rfl bo54 (by simp [go_sem, D.nr, nrs, nrr]) (by simp [Tryz.f54]) ?_
 unfold Tryz.f54
 simp only [Zfa]
 have ff := True.intro
 have hl := hn.1
 have hbl := Zlw z
 have hol := Za3 z
 refine stp Lun ?_
 refine stp Lun ?_ (hok := by (try simp only [go_sem, ff]); all_goals (exact Zg8 z hn))
 refine Zaa ?_
 refine stp Lun ?_
 refine Zda ?_
 refine lp (α := (Nat) × Nat) [1, 3] (fun ⟨k, nx⟩ => (k ≤ z.sets.length) ∧ (Zab z.sets.length (Ztk ⟨z, behR z⟩) 0 = Zab z.sets.length (Ztk ⟨z, behR z⟩) k) ∧ (0 < nx) ∧ True) (fun ⟨k, nx⟩ => z.sets.length - k) (fun ⟨k, nx⟩ => [(4, .i k)]) (fun ⟨k, nx⟩ => [(0, ⟨24, [z.d]⟩)]) (fun ⟨k, nx⟩ => nx) (0, _) (hA := ⟨iv, rfl, iv, trivial⟩) (round := ?_)
 rintro ⟨k, nx⟩ ⟨hk, hv, hx, -⟩
 show DW _ _ _ _ { n := _, t := tab _, h := _, nx := _, e := _ }
 simp only [List.cons_append, List.nil_append]
 have ff := And.intro @hx ff
 refine Zaa ?_
 refine stp Lun ?_
 refine cd (fun c1 => ?_) (fun c1 => ?_) (hp := rfl)
 ·
  have hk2 : k < z.sets.length := by simpa using c1
  have hk3 : k < (ownF z).length := by omega
  have ho : (ownF z)[k]! = Zjv ⟨z, behR z⟩ k := Zp8 _ _ _ hk2
  have ff := And.intro (Zla hk2) (And.intro (Zx9 hk3) ff)
  refine dw_skip ?_
  show DW _ _ _ _ _
  refine Zaa ?_
  refine Zda ?_
  refine stp Lun ?_ (hok := by (try simp only [go_sem, ff]); all_goals (first | done | ((repeat' (with_reducible apply And.intro)) <;> first | exact Zt2 _ _ | (intros; exact Zt2 _ _) | omega | (intros; omega) | (intros; simp_all; done) | skip)))
  refine cd (fun c2 => ?_) (fun c2 => ?_)
  ·
   refine stp Lun ?_
   refine Zba ?_
   exact fin 0 (hr := by (try simp only [go_sem, ff]); all_goals (have hF : (Ztk ⟨z, behR z⟩) k = false := (by simp only [Ztk, Zcj, Ztj, Zjv] at *; grind); simp only [fiveB]; rw [hv, Zpa hk2 hF]; try simp))
  ·
   refine dw_skip ?_
   show DW _ _ _ _ _
   refine rgn Lun ?_
   show ∃ _, _
   have h8 : (Ztk ⟨z, behR z⟩) k = true := by simp only [Ztk, Zcj, Ztj, Zjv] at *; grind
   exact rnd (k + 1, _) (h1 := ⟨iv, (by first | (rw [hv, Zha hk2 h8]) | (dsimp only; rw [hv, Zha hk2 h8])), iv, trivial⟩)
 ·
  refine Zja ?_
  show DW _ _ _ _ _
  refine stp Lun ?_
  refine Zba ?_
  exact fin 0 (hr := by (try simp only [go_sem, ff]); all_goals (simp only [fiveB]; rw [hv, Zxa (by omega)]))
theorem bo22 : Zea Tryz.prog 22 = true := by kernel_rfl
theorem Zue (z : Zon) : PureCt Tryz.prog 22 [.agg z.d] (.b (refOk z)) := by
 refine Zca Tryz.func22 rfl bo22 (by simp [go_sem, D.nr, nrs, nrr]) (by simp [Tryz.f22]) ?_
 unfold Tryz.f22
 simp only [Zfa]
 have ff := True.intro
 refine stp Lun ?_
 refine stp Lun ?_ (hok := by (try simp only [go_sem, ff]); all_goals (first | done | ((repeat' (with_reducible apply And.intro)) <;> first | exact Zox z | (intros; exact Zox z) | exact (fun h => Znx z (Zoj (by simp_all)).1) | (intros; exact (fun h => Znx z (Zoj (by simp_all)).1)) | exact (fun h => Zoq z (Zoj (by simp_all)).1) | (intros; exact (fun h => Zoq z (Zoj (by simp_all)).1)) | exact (fun h => Zet z (Zoj (by simp_all))) | (intros; exact (fun h => Zet z (Zoj (by simp_all)))) | exact (fun h => Zft z (Zoj (by simp_all))) | (intros; exact (fun h => Zft z (Zoj (by simp_all)))) | (intros; simp_all; done) | skip)))
 refine Zba ?_
 exact fin 0 (hr := by (try simp only [go_sem, ff]); all_goals (simp [refOk, Bool.and_assoc]))
set_option maxRecDepth 10000
theorem Zd6 {α : Type} (l : List α) (i : Nat) (h : i < l.length) : (l.take (0 + i) ++ (l.drop (i + 1)).take (l.length - (i + 1)) ++ l.drop (0 + i + (l.length - (i + 1)))).take (l.length - 1) = l.eraseIdx i := by
 have e1 : (l.drop (i + 1)).take (l.length - (i + 1)) = l.drop (i + 1) := List.take_of_length_le (by simp)
 rw [e1, Nat.zero_add, List.eraseIdx_eq_take_drop_succ, List.take_append_of_le_length (by simp; omega), List.take_of_length_le (by simp; omega)]
theorem Yga {α : Type} (l : List α) (i : Nat) (h : i < l.length) : (l.take (0 + i) ++ (l.drop (i + 1)).take (l.length - (i + 1)) ++ l.drop (0 + i + (l.length - (i + 1)))).length = l.length := by
 simp; omega
theorem ins_a {α : Type} (l : List α) (x : α) (i : Nat) (h : i < l.length) : (l.take (i + 1) ++ ((l.drop i).take (l.length - i) ++ l.drop (i + (1 + (l.length - i))))).take i ++ x :: (l.take (i + 1) ++ ((l.drop i).take (l.length - i) ++ l.drop (i + (1 + (l.length - i))))).drop (i + 1) = l.take i ++ x :: l.drop i := by
 have e1 : (l.drop i).take (l.length - i) = l.drop i := List.take_of_length_le (by simp)
 have e2 : l.drop (i + (1 + (l.length - i))) = [] := List.drop_of_length_le (by omega)
 rw [e1, e2, List.append_nil, List.take_append_of_le_length (by simp; omega), List.take_take, List.drop_append_of_le_length (by simp; omega), List.drop_of_length_le (l := l.take (i + 1)) (by simp; omega)]
 rw [show min i (i + 1) = i from by omega]
 simp
theorem ins_c {α : Type} (l z : List α) (x : α) (i : Nat) (h : i < l.length) (hz : z.length = l.length + 1 - i) : (((l.take i ++ z).take i ++ x :: (l.take i ++ z).drop (i + 1)).take (i + 1)) ++ ((l.drop i).take (l.length - i) ++ ((l.take i ++ z).take i ++ x :: (l.take i ++ z).drop (i + 1)).drop (i + 1 + (l.length - i))) = l.take i ++ x :: l.drop i := by
 have e1 : (l.drop i).take (l.length - i) = l.drop i := List.take_of_length_le (by simp)
 have e0 : (l.take i).length = i := by simp; omega
 have e2 : ((l.take i ++ z).take i) = l.take i := by rw [List.take_append_of_le_length (by omega), List.take_of_length_le (by omega)]
 have e3 : l.take i ++ x :: (l.take i ++ z).drop (i + 1) = l.take i ++ [x] ++ (l.take i ++ z).drop (i + 1) := by simp
 simp only [e1, e2, e3]
 have e4 : (l.take i ++ [x]).length = i + 1 := by simp; omega
 rw [List.take_append_of_le_length (by omega), List.take_of_length_le (by omega)]
 have e5 : (l.take i ++ [x] ++ (l.take i ++ z).drop (i + 1)).length = l.length + 1 := by simp [hz]; omega
 rw [List.drop_of_length_le (l := l.take i ++ [x] ++ (l.take i ++ z).drop (i + 1)) (by omega)]
 simp
theorem bo110 : Zea Tryz.prog 110 = true := by kernel_rfl
theorem del_ct (l : List (List D)) (i m n0 : Nat) (h : H) (n r : Nat) (hm : m = l.length) (hi : i < l.length) (hi2 : n0 = i + 1) (hl : l.length ≤ 1000000) (hr : h r = some ⟨52, l⟩) (hc : ∀ q ∈ l, q.length = 5) : RCt Tryz.prog 110 [.mrow r 0 m, .i i, .i n0] h n (fun d h' n' => d = .mrow r 0 (l.length - 1) ∧ h' = upd h r (some ⟨52, l.eraseIdx i⟩) ∧ n ≤ n') := by
 refine Zmb Tryz.func110 rfl bo110 (by simp [Tryz.f110]) (fun hnone => ?_)
 unfold Tryz.f110
 have ff := True.intro
 subst hm
 subst hi2
 have hE1 : ((l.length:Int) - ((i + 1 : Nat):Int)).toNat = l.length - (i + 1) := by omega
 have hE2 : ((i:Int) - ((0:Nat):Int)).toNat = i := by omega
 have hE3 : (List.take (l.length - (i + 1)) (List.drop (i + 1) l)).length = l.length - (i + 1) := by simp
 have hE4 : i + (l.length - (i + 1)) = l.length - 1 := by omega
 have hE5 := Zd6 l i hi
 have hE6 := Yga l i hi
 have ff := And.intro @hr (And.intro @hE1 (And.intro @hE2 (And.intro @hE3 (And.intro @hE4 ff))))
 refine stp Lun ?_
 refine sgq ?_
 refine gslice3 Lun 5 ?_
 refine Zle Lun ?_
 try simp only [Zna]
 refine Zaa ?_
 refine stp Lun ?_
 refine cd (fun c1 => ?_) (fun c1 => ?_) (hp := rfl)
 ·
  exfalso; simp at c1; omega
 ·
  refine dw_skip ?_
  show DW _ _ _ _ _
  refine stp Lun ?_
  refine dr0q Lun 6 ?_
  refine gappin Lun 6 (news := (l.drop (i + 1)).take (l.length - (i + 1))) (hrl := by intro q hq; rw [hc q (List.mem_of_mem_drop (List.mem_of_mem_take hq))]; rfl) ?_
  refine Zle Lun ?_
  try simp only [Zna]
  refine sgq ?_
  refine gresl2 Lun 4 (l.length - 1) l.length ?_
  refine gclear Lun 5 ?_
  refine Zle Lun ?_
  try simp only [Zna]
  refine stp Lun ?_
  refine Zba ?_
  exact Zuk (upd h r (some ⟨52, l.eraseIdx i⟩)) (hr := by (try simp only [go_sem, ff]); all_goals (first | omega | exact ⟨rfl, rfl, by omega⟩ | exact ⟨rfl, by omega⟩)) (hh := by rw [← hE5]; intro q; left; simp only [upd]; split <;> simp_all)
theorem bo112 : Zea Tryz.prog 112 = true := by kernel_rfl
theorem ins_ct (l : List (List D)) (x : List D) (i m : Nat) (h : H) (n r r2 : Nat) (hm : m = l.length) (hi : i ≤ l.length) (hl : l.length ≤ 1000000) (hr : h r = some ⟨52, l⟩) (hr2 : h r2 = some ⟨52, [x]⟩) (hne : r ≠ r2) (hx : x.length = 5) (hc : ∀ q ∈ l, q.length = 5) : RCt Tryz.prog 112 [.mrow r 0 m, .i i, .mrow r2 0 1] h n (fun d h' n' => ∃ r', d = .mrow r' 0 (l.length + 1) ∧ h' r' = some ⟨52, (l.take i ++ x :: l.drop i)⟩ ∧ (r' = r ∨ n ≤ r' ∧ r' < n') ∧ (∀ q, q ≠ r → q < n → h' q = h q) ∧ n ≤ n') := by
 refine Zmb Tryz.func112 rfl bo112 (by simp [Tryz.f112]) (fun hnone => ?_)
 unfold Tryz.f112
 have ff := True.intro
 subst hm
 have hrn : r < n := by rcases Nat.lt_or_ge r n with q | q; exact q; rw [hnone r q] at hr; cases hr
 have hrn2 : r2 < n := by rcases Nat.lt_or_ge r2 n with q | q; exact q; rw [hnone r2 q] at hr2; cases hr2
 have hf1 : ∀ k, r ≠ n + k := fun k => by omega
 have hf2 : ∀ k, r2 ≠ n + k := fun k => by omega
 have hne2 : r2 ≠ r := fun q => hne q.symm
 have hE0 : ((1:Nat):Int) = 1 := rfl
 have hE1 : ((l.length:Int) - (i:Int)).toNat = l.length - i := by omega
 have hE2 : ((i:Int) - ((0:Nat):Int)).toNat = i := by omega
 have hE3 : ((l.length:Int) + 1 - (i:Int)) = ((l.length + 1 - i : Nat) : Int) := by omega
 have hE4 : ((i:Int) + 1).toNat = i + 1 := by omega
 have hE5 : i + (l.length + 1 - i) = l.length + 1 := by omega
 have hE6 : ((l.length:Int) + 1) = ((l.length + 1 : Nat) : Int) := by omega
 have hE7 : ((i:Int) + 1) = ((i + 1 : Nat) : Int) := by omega
 have hE8 : (((l.length + 1 : Nat):Int) - ((i + 1 : Nat) : Int)).toNat = l.length - i := by omega
 have hE9 : (((l.length + 1 : Nat):Int) - (i : Int)).toNat = l.length + 1 - i := by omega
 have ff := And.intro @hr (And.intro @hr2 (And.intro @hne (And.intro @hne2 (And.intro @hf1 (And.intro @hf2 (And.intro @hE1 (And.intro @hE2 ff)))))))
 refine stp Lun ?_
 refine stp Lun ?_
 refine stp Lun ?_
 refine Zaa ?_
 refine stp Lun ?_
 refine cd (fun c1 => ?_) (fun c1 => ?_) (hp := rfl)
 ·
  exfalso; simp at c1
 ·
  refine dw_skip ?_
  show DW _ _ _ _ _
  refine stp Lun ?_
  refine Zaa ?_
  refine stp Lun ?_
  refine cd (fun c2 => ?_) (fun c2 => ?_) (hp := rfl) (hq := rfl)
  ·
   have hi9 : i = l.length := by have : (i:Int) = (l.length:Int) := (by simpa using c2); omega
   refine sgq ?_
   refine Zy9 Lun 2 (r := r) (by dsimp only; omega) (hrl := by intro q hq; simp at hq; subst hq; exact hx) (hby := by rw [show (Tryz.prog).bytesOf 52 = 80 from rfl]; simp; omega) (h63 := by simp; omega) ?_
   refine Zle Lun ?_
   try simp only [Zna]
   refine Zba ?_
   exact Zuk (_) (hh := fun _ => .inl rfl) (hr := by (try simp only [go_sem, ff]); all_goals (exact ⟨_, rfl, by rw [hi9]; simp [upd], .inr (by omega), fun q h1 h2 => by simp only [upd]; repeat rw [if_neg (by omega)], by omega⟩))
  ·
   have hi9 : i < l.length := by have : ¬ (i:Int) = (l.length:Int) := (by simpa using c2); omega
   refine dw_skip ?_
   show DW _ _ _ _ _
   refine Zaa ?_
   refine sgq ?_
   refine gcap Lun 4 (fun c hc1 hc2 => ?_)
   refine Zle Lun ?_
   try simp only [Zna]
   refine cd (fun c3 => ?_) (fun c3 => ?_)
   ·
    have ff := And.intro @hE0 (And.intro @hE3 ff)
    refine sgq ?_
    refine gappmk Lun 8 (r := r) (off := 0) (n := i) (c := c) (kk := .i64) (l.length + 1 - i) rfl (by omega) (by rw [show (Tryz.prog).bytesOf 52 = 80 from rfl]; omega) (by omega) ?_
    refine Zle Lun ?_
    try simp only [Zna]
    refine sgq ?_
    refine gcopy Lun 4 1 ?_
    refine Zle Lun ?_
    try simp only [Zna]
    have ff := And.intro @hE0 ff
    refine dr0q Lun 8 ?_
    refine gcopy Lun 8 (l.length - i) ?_
    refine Zle Lun ?_
    try simp only [Zna]
    refine stp Lun ?_
    refine Zba ?_
    exact Zuk (_) (hh := fun _ => .inl rfl) (hr := by (try simp only [go_sem, ff]); all_goals (exact ⟨n + 29, by simp [hE5], by simp [upd]; exact ins_c l _ x i hi9 (by simp), .inr (by omega), fun q h1 h2 => by simp only [upd]; repeat rw [if_neg (by omega)], by omega⟩))
   ·
    refine dw_skip ?_
    show DW _ _ _ _ _
    have ff := And.intro @hE6 ff
    refine sgq ?_
    refine gresl Lun 4 (r := r) (off := 0) (c := c) (l.length + 1) rfl (by have : (l.length:Int) + 1 ≤ (c:Int) := (by simpa using c3); omega) ?_
    refine Zle Lun ?_
    try simp only [Zna]
    refine Zaa ?_
    have ff := And.intro @hE0 (And.intro @hE7 (And.intro @hE8 ff))
    refine sgq ?_
    refine gapart Lun 6 (fid := 143) (t := 22) (u := 4) (r := r2) (r2 := r) (fun q => hne q.symm) ?_
    refine Zle Lun ?_
    try simp only [Zna]
    refine cd (fun c4 => ?_) (fun c4 => ?_) (hq := rfl)
    ·
     have ff := And.intro @hE9 ff
     refine dr0q Lun 8 ?_
     refine gcopy Lun 8 (l.length - i) ?_
     refine Zle Lun ?_
     try simp only [Zna]
     refine sgq ?_
     refine gcopy Lun 4 1 ?_
     refine Zle Lun ?_
     try simp only [Zna]
     refine stp Lun ?_
     refine Zba ?_
     exact Zuk (_) (hh := fun _ => .inl rfl) (hr := by (try simp only [go_sem, ff]); all_goals (exact ⟨r, rfl, by simp [upd]; exact ins_a l x i hi9, .inl rfl, fun q h1 h2 => by simp only [upd]; repeat rw [if_neg (by omega)], by omega⟩))
    ·
     exfalso; simp at c4
set_option maxRecDepth 10000
theorem bo69 : Zea Tryz.prog 69 = true := by kernel_rfl
theorem Zns (s : Sgd) : PureCt Tryz.prog 69 [.agg s.d] (.b (notPl s)) := by
 refine Zca Tryz.func69 rfl bo69 (by simp [go_sem, D.nr, nrs, nrr]) (by simp [Tryz.f69]) ?_
 unfold Tryz.f69
 simp only [Zfa]
 have ff := True.intro
 refine stp Lun ?_
 refine stp Lun ?_
 refine Zba ?_
 exact fin 2 (hr := by (try simp only [go_sem, ff]); all_goals (simp [notPl, isNm]; rw [Bool.eq_iff_iff]; simp))
theorem bo71 : Zea Tryz.prog 71 = true := by kernel_rfl
theorem Zuw (s : Sgd) (n : Chg) : PureCt Tryz.prog 71 [.agg s.d, .eptr n.d] (.b (isNm n.set.name s)) := by
 refine Zca Tryz.func71 rfl bo71 (by simp [go_sem, D.nr, nrs, nrr]) (by simp [Tryz.f71]) ?_
 unfold Tryz.f71
 simp only [Zfa]
 have ff := True.intro
 refine stp Lun ?_
 refine stp Lun ?_
 refine Zba ?_
 exact fin 2 (hr := by (try simp only [go_sem, ff]); all_goals (simp [notPl, isNm]; rw [Bool.eq_iff_iff]; simp))
theorem bo123 : Zea Tryz.prog 123 = true := by kernel_rfl
theorem Zaq (s : Sgd) (t : RSet) : PureCt Tryz.prog 123 [.agg s.d, .eptr t.d] (.b (isNm t.name s)) := by
 refine Zca Tryz.func123 rfl bo123 (by simp [go_sem, D.nr, nrs, nrr]) (by simp [Tryz.f123]) ?_
 unfold Tryz.f123
 simp only [Zfa]
 have ff := True.intro
 refine stp Lun ?_
 refine stp Lun ?_
 refine Zba ?_
 exact fin 2 (hr := by (try simp only [go_sem, ff]); all_goals (simp [notPl, isNm]; rw [Bool.eq_iff_iff]; simp))
theorem bo102 : Zea Tryz.prog 102 = true := by kernel_rfl
theorem Zi2 (l : List Sgd) (hl : l.length ≤ 1000000) : PureCt Tryz.prog 102 [.list false (l.map Sgd.d), .fn (.func 69) [] []] (.i (firstAt (notPl) l 0)) := by
 refine Zca Tryz.func102 rfl bo102 (by simp [go_sem, D.nr, nrs, nrr]) (by simp [Tryz.f102]) ?_
 unfold Tryz.f102
 simp only [Zfa]
 have ff := True.intro
 refine stp Lun ?_
 refine Zaa ?_
 refine stp Lun ?_
 refine Zda ?_
 refine lp (α := (Nat) × Nat) [0, 1, 7] (fun ⟨k, nx⟩ => (k ≤ l.length) ∧ (firstAt (notPl) l 0 = firstAt (notPl) l k) ∧ True) (fun ⟨k, nx⟩ => l.length - k) (fun ⟨k, nx⟩ => [(8, .i k)]) (fun ⟨k, nx⟩ => []) (fun ⟨k, nx⟩ => nx) (0, _) (hA := ⟨iv, rfl, trivial⟩) (round := ?_)
 rintro ⟨k, nx⟩ ⟨hk, hv, -⟩
 show DW _ _ _ _ { n := _, t := tab _, h := _, nx := _, e := _ }
 simp only [List.cons_append, List.nil_append]
 refine stp Lun ?_
 refine Zaa ?_
 refine cd (fun c1 => ?_) (fun c1 => ?_) (hp := rfl)
 ·
  have hk2 : k < l.length := by simpa using c1
  have ff := And.intro (Zla hk2) ff
  refine dw_skip ?_
  show DW _ _ _ _ _
  refine Zaa ?_
  refine Zda ?_
  refine stp Lun ?_
  refine stp Lun ?_ (hok := by (try simp only [go_sem, ff]); all_goals (first | done | ((repeat' (with_reducible apply And.intro)) <;> first | exact Zns l[k]! | (intros; exact Zns l[k]!) | omega | skip)))
  refine cd (fun c2 => ?_) (fun c2 => ?_)
  ·
   refine stp Lun ?_
   refine Zba ?_
   exact fin 0 (hr := by (try simp only [go_sem, ff]); all_goals (rw [hv, Zzy hk2 c2]))
  ·
   refine dw_skip ?_
   show DW _ _ _ _ _
   refine rgn Lun ?_
   show ∃ _, _
   exact rnd (k + 1, _) (h1 := ⟨iv, (by (try dsimp only); rw [hv, Yea hk2 (by simpa using c2)]), trivial⟩)
 ·
  refine Zja ?_
  show DW _ _ _ _ _
  refine stp Lun ?_
  refine Zba ?_
  exact fin 0 (hr := by (try simp only [go_sem, ff]); all_goals (rw [hv, Zaz (by omega)]))
theorem Zj2 (l : List Sgd) (hl : l.length ≤ 1000000) (n : Chg) : PureCt Tryz.prog 102 [.list false (l.map Sgd.d), .fn (.func 71) [] [.eptr n.d]] (.i (firstAt (isNm n.set.name) l 0)) := by
 refine Zca Tryz.func102 rfl bo102 (by simp [go_sem, D.nr, nrs, nrr]) (by simp [Tryz.f102]) ?_
 unfold Tryz.f102
 simp only [Zfa]
 have ff := True.intro
 refine stp Lun ?_
 refine Zaa ?_
 refine stp Lun ?_
 refine Zda ?_
 refine lp (α := (Nat) × Nat) [0, 1, 7] (fun ⟨k, nx⟩ => (k ≤ l.length) ∧ (firstAt (isNm n.set.name) l 0 = firstAt (isNm n.set.name) l k) ∧ True) (fun ⟨k, nx⟩ => l.length - k) (fun ⟨k, nx⟩ => [(8, .i k)]) (fun ⟨k, nx⟩ => []) (fun ⟨k, nx⟩ => nx) (0, _) (hA := ⟨iv, rfl, trivial⟩) (round := ?_)
 rintro ⟨k, nx⟩ ⟨hk, hv, -⟩
 show DW _ _ _ _ { n := _, t := tab _, h := _, nx := _, e := _ }
 simp only [List.cons_append, List.nil_append]
 refine stp Lun ?_
 refine Zaa ?_
 refine cd (fun c1 => ?_) (fun c1 => ?_) (hp := rfl)
 ·
  have hk2 : k < l.length := by simpa using c1
  have ff := And.intro (Zla hk2) ff
  refine dw_skip ?_
  show DW _ _ _ _ _
  refine Zaa ?_
  refine Zda ?_
  refine stp Lun ?_
  refine stp Lun ?_ (hok := by (try simp only [go_sem, ff]); all_goals (first | done | ((repeat' (with_reducible apply And.intro)) <;> first | exact Zuw l[k]! n | (intros; exact Zuw l[k]! n) | omega | skip)))
  refine cd (fun c2 => ?_) (fun c2 => ?_)
  ·
   refine stp Lun ?_
   refine Zba ?_
   exact fin 0 (hr := by (try simp only [go_sem, ff]); all_goals (rw [hv, Zzy hk2 c2]))
  ·
   refine dw_skip ?_
   show DW _ _ _ _ _
   refine rgn Lun ?_
   show ∃ _, _
   exact rnd (k + 1, _) (h1 := ⟨iv, (by (try dsimp only); rw [hv, Yea hk2 (by simpa using c2)]), trivial⟩)
 ·
  refine Zja ?_
  show DW _ _ _ _ _
  refine stp Lun ?_
  refine Zba ?_
  exact fin 0 (hr := by (try simp only [go_sem, ff]); all_goals (rw [hv, Zaz (by omega)]))
theorem uixNa_ct (l : List Sgd) (hl : l.length ≤ 1000000) (t : RSet) : PureCt Tryz.prog 102 [.list false (l.map Sgd.d), .fn (.func 123) [] [.eptr t.d]] (.i (firstAt (isNm t.name) l 0)) := by
 refine Zca Tryz.func102 rfl bo102 (by simp [go_sem, D.nr, nrs, nrr]) (by simp [Tryz.f102]) ?_
 unfold Tryz.f102
 simp only [Zfa]
 have ff := True.intro
 refine stp Lun ?_
 refine Zaa ?_
 refine stp Lun ?_
 refine Zda ?_
 refine lp (α := (Nat) × Nat) [0, 1, 7] (fun ⟨k, nx⟩ => (k ≤ l.length) ∧ (firstAt (isNm t.name) l 0 = firstAt (isNm t.name) l k) ∧ True) (fun ⟨k, nx⟩ => l.length - k) (fun ⟨k, nx⟩ => [(8, .i k)]) (fun ⟨k, nx⟩ => []) (fun ⟨k, nx⟩ => nx) (0, _) (hA := ⟨iv, rfl, trivial⟩) (round := ?_)
 rintro ⟨k, nx⟩ ⟨hk, hv, -⟩
 show DW _ _ _ _ { n := _, t := tab _, h := _, nx := _, e := _ }
 simp only [List.cons_append, List.nil_append]
 refine stp Lun ?_
 refine Zaa ?_
 refine cd (fun c1 => ?_) (fun c1 => ?_) (hp := rfl)
 ·
  have hk2 : k < l.length := by simpa using c1
  have ff := And.intro (Zla hk2) ff
  refine dw_skip ?_
  show DW _ _ _ _ _
  refine Zaa ?_
  refine Zda ?_
  refine stp Lun ?_
  refine stp Lun ?_ (hok := by (try simp only [go_sem, ff]); all_goals (first | done | ((repeat' (with_reducible apply And.intro)) <;> first | exact Zaq l[k]! t | (intros; exact Zaq l[k]! t) | omega | skip)))
  refine cd (fun c2 => ?_) (fun c2 => ?_)
  ·
   refine stp Lun ?_
   refine Zba ?_
   exact fin 0 (hr := by (try simp only [go_sem, ff]); all_goals (rw [hv, Zzy hk2 c2]))
  ·
   refine dw_skip ?_
   show DW _ _ _ _ _
   refine rgn Lun ?_
   show ∃ _, _
   exact rnd (k + 1, _) (h1 := ⟨iv, (by (try dsimp only); rw [hv, Yea hk2 (by simpa using c2)]), trivial⟩)
 ·
  refine Zja ?_
  show DW _ _ _ _ _
  refine stp Lun ?_
  refine Zba ?_
  exact fin 0 (hr := by (try simp only [go_sem, ff]); all_goals (rw [hv, Zaz (by omega)]))
theorem bo68 : Zea Tryz.prog 68 = true := by kernel_rfl
theorem Zm2 (l : List Sgd) (hl : l.length ≤ 1000000) : PureCt Tryz.prog 68 [.list false (l.map Sgd.d), .fn (.func 69) [] []] (.b (decide (0 ≤ firstAt (notPl) l 0))) := by
 refine Zca Tryz.func68 rfl bo68 (by simp [go_sem, D.nr, nrs, nrr]) (by simp [Tryz.f68]) ?_
 unfold Tryz.f68
 simp only [Zfa]
 have ff := True.intro
 refine stp Lun ?_
 refine stp Lun ?_ (hok := by (try simp only [go_sem, ff]); all_goals (first | done | ((repeat' (with_reducible apply And.intro)) <;> first | exact Zi2 l hl | (intros; exact Zi2 l hl) | skip)))
 refine Zba ?_
 exact fin 0 (hr := by (try simp only [go_sem, ff]); all_goals (rfl))
theorem Zip (l : List Sgd) (hl : l.length ≤ 1000000) (n : Chg) : PureCt Tryz.prog 68 [.list false (l.map Sgd.d), .fn (.func 71) [] [.eptr n.d]] (.b (decide (0 ≤ firstAt (isNm n.set.name) l 0))) := by
 refine Zca Tryz.func68 rfl bo68 (by simp [go_sem, D.nr, nrs, nrr]) (by simp [Tryz.f68]) ?_
 unfold Tryz.f68
 simp only [Zfa]
 have ff := True.intro
 refine stp Lun ?_
 refine stp Lun ?_ (hok := by (try simp only [go_sem, ff]); all_goals (first | done | ((repeat' (with_reducible apply And.intro)) <;> first | exact Zj2 l hl n | (intros; exact Zj2 l hl n) | skip)))
 refine Zba ?_
 exact fin 0 (hr := by (try simp only [go_sem, ff]); all_goals (rfl))
theorem bo33 : Zea Tryz.prog 33 = true := by kernel_rfl
theorem Ztw (z : Zon) (hl : z.sets.length ≤ 1000000) : PureCt Tryz.prog 33 [.agg z.d] (.b (plainB z)) := by
 refine Zca Tryz.func33 rfl bo33 (by simp [go_sem, D.nr, nrs, nrr]) (by simp [Tryz.f33]) ?_
 unfold Tryz.f33
 simp only [Zfa]
 have ff := True.intro
 refine stp Lun ?_
 refine stp Lun ?_ (hok := by (try simp only [go_sem, ff]); all_goals (first | done | ((repeat' (with_reducible apply And.intro)) <;> first | exact Zm2 _ hl | (intros; exact Zm2 _ hl) | skip)))
 refine Zba ?_
 exact fin 0 (hr := by (try simp only [go_sem, ff]); all_goals (rw [Zk0]))
theorem bo45 : Zea Tryz.prog 45 = true := by kernel_rfl
theorem Zgp (n : Chg) : PureCt Tryz.prog 45 [.agg n.d] (.b (needOk n)) := by
 refine Zca Tryz.func45 rfl bo45 (by simp [go_sem, D.nr, nrs, nrr]) (by simp [Tryz.f45]) ?_
 unfold Tryz.f45
 simp only [Zfa]
 have ff := True.intro
 refine stp Lun ?_
 refine Zaa ?_
 refine stp Lun ?_ (hok := by (try simp only [go_sem, ff]); all_goals (first | done | ((repeat' (with_reducible apply And.intro)) <;> first | exact Zvc _ | (intros; exact Zvc _) | skip)))
 refine cd (fun c1 => ?_) (fun c1 => ?_)
 ·
  refine stp Lun ?_
  refine Zba ?_
  exact fin 0 (hr := by (try simp only [go_sem, ff]); all_goals (simp only [needOk]; grind [inR]))
 ·
  refine dw_skip ?_
  show DW _ _ _ _ _
  refine Zaa ?_
  refine stp Lun ?_
  refine Zda ?_
  refine Zaa ?_
  refine stp Lun ?_
  refine cd (fun c2 => ?_) (fun c2 => ?_)
  ·
   refine dw_skip ?_
   show DW _ _ _ _ _
   refine cd (fun c3 => ?_) (fun c3 => ?_)
   ·
    refine stp Lun ?_
    refine Zba ?_
    exact fin 0 (hr := by (try simp only [go_sem, ff]); all_goals (simp only [needOk]; grind [inR]))
   ·
    refine Zaa ?_
    refine stp Lun ?_
    refine cd (fun c4 => ?_) (fun c4 => ?_)
    ·
     refine dw_skip ?_
     show DW _ _ _ _ _
     refine cd (fun c5 => ?_) (fun c5 => ?_)
     ·
      refine stp Lun ?_
      refine Zba ?_
      exact fin 0 (hr := by (try simp only [go_sem, ff]); all_goals (simp only [needOk]; grind [inR]))
     ·
      refine stp Lun ?_
      refine cd (fun c6 => ?_) (fun c6 => ?_)
      ·
       refine stp Lun ?_ (hok := by (try simp only [go_sem, ff]); all_goals (first | exact ok0 | (apply Zgc <;> omega) | (intros; apply Zgc <;> omega)))
       refine Zba ?_
       exact fin 0 (hr := by (try simp only [go_sem, ff]); all_goals (simp only [needOk]; grind [inR]))
      ·
       refine dw_skip ?_
       show DW _ _ _ _ _
       refine stp Lun ?_
       refine Zba ?_
       exact fin 0 (hr := by (try simp only [go_sem, ff]); all_goals (simp only [needOk]; grind [inR]))
    ·
     refine rgn Lun ?_
     show DW _ _ _ _ _
     refine cd (fun c7 => ?_) (fun c7 => ?_)
     ·
      refine stp Lun ?_
      refine Zba ?_
      exact fin 0 (hr := by (try simp only [go_sem, ff]); all_goals (simp only [needOk]; grind [inR]))
     ·
      refine stp Lun ?_
      refine cd (fun c8 => ?_) (fun c8 => ?_)
      ·
       refine stp Lun ?_ (hok := by (try simp only [go_sem, ff]); all_goals (first | exact ok0 | (apply Zgc <;> omega) | (intros; apply Zgc <;> omega)))
       refine Zba ?_
       exact fin 0 (hr := by (try simp only [go_sem, ff]); all_goals (simp only [needOk]; grind [inR]))
      ·
       refine dw_skip ?_
       show DW _ _ _ _ _
       refine stp Lun ?_
       refine Zba ?_
       exact fin 0 (hr := by (try simp only [go_sem, ff]); all_goals (simp only [needOk]; grind [inR]))
  ·
   refine rgn Lun ?_
   show DW _ _ _ _ _
   refine cd (fun c9 => ?_) (fun c9 => ?_)
   ·
    refine stp Lun ?_
    refine Zba ?_
    exact fin 0 (hr := by (try simp only [go_sem, ff]); all_goals (simp only [needOk]; grind [inR]))
   ·
    refine Zaa ?_
    refine stp Lun ?_
    refine cd (fun c10 => ?_) (fun c10 => ?_)
    ·
     refine dw_skip ?_
     show DW _ _ _ _ _
     refine cd (fun c11 => ?_) (fun c11 => ?_)
     ·
      refine stp Lun ?_
      refine Zba ?_
      exact fin 0 (hr := by (try simp only [go_sem, ff]); all_goals (simp only [needOk]; grind [inR]))
     ·
      refine stp Lun ?_
      refine cd (fun c12 => ?_) (fun c12 => ?_)
      ·
       refine stp Lun ?_ (hok := by (try simp only [go_sem, ff]); all_goals (first | exact ok0 | (apply Zgc <;> omega) | (intros; apply Zgc <;> omega)))
       refine Zba ?_
       exact fin 0 (hr := by (try simp only [go_sem, ff]); all_goals (simp only [needOk]; grind [inR]))
      ·
       refine dw_skip ?_
       show DW _ _ _ _ _
       refine stp Lun ?_
       refine Zba ?_
       exact fin 0 (hr := by (try simp only [go_sem, ff]); all_goals (simp only [needOk]; grind [inR]))
    ·
     refine rgn Lun ?_
     show DW _ _ _ _ _
     refine cd (fun c13 => ?_) (fun c13 => ?_)
     ·
      refine stp Lun ?_
      refine Zba ?_
      exact fin 0 (hr := by (try simp only [go_sem, ff]); all_goals (simp only [needOk]; grind [inR]))
     ·
      refine stp Lun ?_
      refine cd (fun c14 => ?_) (fun c14 => ?_)
      ·
       refine stp Lun ?_ (hok := by (try simp only [go_sem, ff]); all_goals (first | exact ok0 | (apply Zgc <;> omega) | (intros; apply Zgc <;> omega)))
       refine Zba ?_
       exact fin 0 (hr := by (try simp only [go_sem, ff]); all_goals (simp only [needOk]; grind [inR]))
      ·
       refine dw_skip ?_
       show DW _ _ _ _ _
       refine stp Lun ?_
       refine Zba ?_
       exact fin 0 (hr := by (try simp only [go_sem, ff]); all_goals (simp only [needOk]; grind [inR]))
theorem bo67 : Zea Tryz.prog 67 = true := by kernel_rfl
theorem Zj7 (c : Chg) : PureCt Tryz.prog 67 [.agg c.d] (.b (chgOk c)) := by
 refine Zca Tryz.func67 rfl bo67 (by simp [go_sem, D.nr, nrs, nrr]) (by simp [Tryz.f67]) ?_
 unfold Tryz.f67
 simp only [Zfa]
 have ff := True.intro
 refine stp Lun ?_
 refine Zaa ?_
 refine stp Lun ?_ (hok := by (try simp only [go_sem, ff]); all_goals (first | done | ((repeat' (with_reducible apply And.intro)) <;> first | exact Zvc _ | (intros; exact Zvc _) | skip)))
 refine cd (fun c1 => ?_) (fun c1 => ?_)
 ·
  refine stp Lun ?_
  refine Zba ?_
  exact fin 0 (hr := by (try simp only [go_sem, ff]); all_goals (simp only [chgOk]; grind [inR]))
 ·
  refine dw_skip ?_
  show DW _ _ _ _ _
  refine Zaa ?_
  refine stp Lun ?_
  refine Zda ?_
  refine Zaa ?_
  refine stp Lun ?_
  refine cd (fun c2 => ?_) (fun c2 => ?_)
  ·
   refine dw_skip ?_
   show DW _ _ _ _ _
   refine cd (fun c3 => ?_) (fun c3 => ?_)
   ·
    refine stp Lun ?_ (hok := by (try simp only [go_sem, ff]); all_goals (first | done | ((repeat' (with_reducible apply And.intro)) <;> first | exact Zgc _ | (intros; exact Zgc _) | skip)))
    refine Zba ?_
    exact fin 0 (hr := by (try simp only [go_sem, ff]); all_goals (simp only [chgOk]; grind [inR]))
   ·
    refine stp Lun ?_
    refine cd (fun c4 => ?_) (fun c4 => ?_)
    ·
     refine stp Lun ?_
     refine Zba ?_
     exact fin 0 (hr := by (try simp only [go_sem, ff]); all_goals (simp only [chgOk]; grind [inR]))
    ·
     refine stp Lun ?_
     refine cd (fun c5 => ?_) (fun c5 => ?_)
     ·
      refine stp Lun ?_
      refine Zba ?_
      exact fin 0 (hr := by (try simp only [go_sem, ff]); all_goals (simp only [chgOk]; grind [inR]))
     ·
      refine dw_skip ?_
      show DW _ _ _ _ _
      refine stp Lun ?_
      refine Zba ?_
      exact fin 0 (hr := by (try simp only [go_sem, ff]); all_goals (simp only [chgOk]; grind [inR]))
  ·
   refine rgn Lun ?_
   show DW _ _ _ _ _
   refine cd (fun c6 => ?_) (fun c6 => ?_)
   ·
    refine stp Lun ?_ (hok := by (try simp only [go_sem, ff]); all_goals (first | done | ((repeat' (with_reducible apply And.intro)) <;> first | exact Zgc _ | (intros; exact Zgc _) | skip)))
    refine Zba ?_
    exact fin 0 (hr := by (try simp only [go_sem, ff]); all_goals (simp only [chgOk]; grind [inR]))
   ·
    refine stp Lun ?_
    refine cd (fun c7 => ?_) (fun c7 => ?_)
    ·
     refine stp Lun ?_
     refine Zba ?_
     exact fin 0 (hr := by (try simp only [go_sem, ff]); all_goals (simp only [chgOk]; grind [inR]))
    ·
     refine stp Lun ?_
     refine cd (fun c8 => ?_) (fun c8 => ?_)
     ·
      refine stp Lun ?_
      refine Zba ?_
      exact fin 0 (hr := by (try simp only [go_sem, ff]); all_goals (simp only [chgOk]; grind [inR]))
     ·
      refine dw_skip ?_
      show DW _ _ _ _ _
      refine stp Lun ?_
      refine Zba ?_
      exact fin 0 (hr := by (try simp only [go_sem, ff]); all_goals (simp only [chgOk]; grind [inR]))
theorem bo34 : Zea Tryz.prog 34 = true := by kernel_rfl
theorem Zfh (n : Str) (a : Str) : PureCt Tryz.prog 34 [.v (.string (bs n)), .v (.string (bs a))] (.b (underV n a)) := by
 refine Zca Tryz.func34 rfl bo34 (by simp [go_sem, D.nr, nrs, nrr]) (by simp [Tryz.f34]) ?_
 unfold Tryz.f34
 simp only [Zfa]
 have ff := True.intro
 refine stp Lun ?_
 refine stp Lun ?_ (hok := by (try simp only [go_sem, ff]); all_goals (first | done | ((repeat' (with_reducible apply And.intro)) <;> first | exact Zem _ _ | (intros; exact Zem _ _) | skip)))
 refine stp Lun ?_
 refine Zba ?_
 exact fin 1 (hr := by (try simp only [go_sem, ff]); all_goals (rfl))
theorem bo106 : Zea Tryz.prog 106 = true := by kernel_rfl
theorem Zih (s : Sgd) (n : Str) (t : Int) : PureCt Tryz.prog 106 [.agg s.d, .v (.string (bs n)), .eptr [.i t]] (.i (qC s.q ⟨n, t⟩)) := by
 refine Zca Tryz.func106 rfl bo106 (by simp [go_sem, D.nr, nrs, nrr]) (by simp [Tryz.f106]) ?_
 unfold Tryz.f106
 simp only [Zfa]
 have ff := True.intro
 refine stp Lun ?_
 refine Zaa ?_
 refine stp Lun ?_
 refine cd (fun c1 => ?_) (fun c1 => ?_)
 ·
  refine stp Lun ?_ (hok := by (try simp only [go_sem, ff]); all_goals (first | done | ((repeat' (with_reducible apply And.intro)) <;> first | exact Zal _ _ | (intros; exact Zal _ _) | skip)))
  refine stp Lun ?_
  refine Zba ?_
  exact fin 2 (hr := by (try simp only [go_sem, ff]); all_goals (simp [qC, Sgd.q]; grind))
 ·
  refine dw_skip ?_
  show DW _ _ _ _ _
  refine stp Lun ?_ (hok := by (try simp only [go_sem, ff]); all_goals (first | done | ((repeat' (with_reducible apply And.intro)) <;> first | exact Zvh _ _ | (intros; exact Zvh _ _) | skip)))
  refine Zba ?_
  exact fin 2 (hr := by (try simp only [go_sem, ff]); all_goals (simp [qC, Sgd.q]; grind))
set_option maxRecDepth 10000
theorem bo105 : Zea Tryz.prog 105 = true := by kernel_rfl
theorem Zk7 (l : List Sgd) (n : Str) (t : Int) (hl : l.length ≤ 1000000) : PureCt Tryz.prog 105 [.list false (l.map Sgd.d), .v (.string (bs n)), .fn (.func 106) [] [.eptr [.i t]]] (.tuple [.i (findIx l ⟨n, t⟩), .b (findOk l ⟨n, t⟩)]) := by
 refine Zca Tryz.func105 rfl bo105 (by simp [go_sem, D.nr, nrs, nrr]) (by simp [Tryz.f105]) ?_
 unfold Tryz.f105
 simp only [Zfa]
 have ff := True.intro
 refine stp Lun ?_
 refine stp Lun ?_
 refine stp Lun ?_
 refine Zaa ?_
 refine Zda ?_
 refine lp (α := (Nat) × (Nat) × Nat) [0, 1, 2, 8] (fun ⟨i, j, nx⟩ => (i ≤ j) ∧ (j ≤ l.length) ∧ (findIx l ⟨n, t⟩ = Znz (fun k => qC l[k]!.q ⟨n, t⟩) i j) ∧ True) (fun ⟨i, j, nx⟩ => j - i) (fun ⟨i, j, nx⟩ => [(9, .i i), (10, .i j)]) (fun ⟨i, j, nx⟩ => []) (fun ⟨i, j, nx⟩ => nx) (0, l.length, _) (hA := ⟨iv, iv, rfl, trivial⟩) (round := ?_)
 rintro ⟨i, j, nx⟩ ⟨hij, hj, hv, -⟩
 show DW _ _ _ _ { n := _, t := tab _, h := _, nx := _, e := _ }
 simp only [List.cons_append, List.nil_append]
 refine Zaa ?_
 refine stp Lun ?_
 refine cd (fun c1 => ?_) (fun c1 => ?_) (hp := rfl)
 ·
  have hk2 : i < j := by simpa using c1
  have hm : (i + j) / 2 < l.length := by omega
  have ff := And.intro (mid_eq (i := i) (j := j) (by omega)) (And.intro (Zla hm) ff)
  refine dw_skip ?_
  show DW _ _ _ _ _
  refine Zda ?_
  refine stp Lun ?_
  refine stp Lun ?_ (hok := by (try simp only [go_sem, ff]); all_goals (first | done | ((repeat' (with_reducible apply And.intro)) <;> first | exact Zih l[(i + j) / 2]! n t | (intros; exact Zih l[(i + j) / 2]! n t) | omega)))
  refine cd (fun c2 => ?_) (fun c2 => ?_)
  ·
   refine rgn Lun ?_
   show ∃ _, _
   exact rnd ((i + j) / 2 + 1, j, _) (h1 := ⟨iv, iv, (by first | (exact (Zqh hv hk2).1 c2) | (dsimp only; exact (Zqh hv hk2).1 c2)), trivial⟩)
  ·
   refine rgn Lun ?_
   show ∃ _, _
   exact rnd (i, (i + j) / 2, _) (h1 := ⟨iv, iv, (by (try dsimp only); exact (Zqh hv hk2).2 (by omega)), trivial⟩)
 ·
  refine Zja ?_
  show DW _ _ _ _ _
  have hij2 : i = j := by have h9 : ¬ i < j := (by simpa using c1); omega
  have hv2 : findIx l ⟨n, t⟩ = i := by rw [hv, Zhl, if_neg (by omega)]
  by_cases hk4 : i < l.length
  ·
   have ff := And.intro (Zla hk4) ff
   refine stp Lun ?_ (hok := by (try simp only [go_sem, ff]); all_goals (first | done | ((repeat' (with_reducible apply And.intro)) <;> first | exact Zih l[i]! n t | (intros; exact Zih l[i]! n t) | omega | (intro h; have h := of_decide_eq_true h; omega))))
   refine Zba ?_
   exact fin 2 (hr := by (try simp only [go_sem, ff]); all_goals (simp only [findOk]; rw [hv2]; simp [hk4]))
  ·
   have ff := And.intro (Zvv (f := Sgd.d) (Nat.le_of_not_lt hk4)) ff
   refine stp Lun ?_ (hok := by (try simp only [go_sem, ff]); all_goals (first | done | ((repeat' (with_reducible apply And.intro)) <;> first | exact Zih l[i]! n t | (intros; exact Zih l[i]! n t) | omega | (intro h; have h := of_decide_eq_true h; omega))))
   refine Zba ?_
   exact fin 2 (hr := by (try simp only [go_sem, ff]); all_goals (simp only [findOk]; rw [hv2]; simp [hk4]))
theorem bo72 : Zea Tryz.prog 72 = true := by kernel_rfl
theorem Zsc (z : Zon) (n : Str) (t : Int) (hl : z.sets.length ≤ 1000000) : PureCt Tryz.prog 72 [.agg z.d, .v (.string (bs n)), .i t] (.tuple [.i (findIx z.sets ⟨n, t⟩), .b (findOk z.sets ⟨n, t⟩)]) := by
 refine Zca Tryz.func72 rfl bo72 (by simp [go_sem, D.nr, nrs, nrr]) (by simp [Tryz.f72]) ?_
 unfold Tryz.f72
 simp only [Zfa]
 have ff := True.intro
 refine stp Lun ?_
 refine Zsh 5 1 ev ev (by rfl) ?_
 refine stp Lun ?_ (hok := by (try simp only [go_sem, ff]); all_goals (first | done | ((repeat' (with_reducible apply And.intro)) <;> first | exact Zk7 _ n t hl | (intros; exact Zk7 _ n t hl) | skip)))
 refine Zba ?_
 exact fin 2 (hr := by (try simp only [go_sem, ff]); all_goals (rfl))
theorem bo73 : Zea Tryz.prog 73 = true := by kernel_rfl
theorem Zge (a : List Dat) (b : List Dat) (hl : a.length ≤ 1000000) : PureCt Tryz.prog 73 [.list false (a.map Dat.d), .list false (b.map Dat.d)] (.b (decide (a = b))) := by
 refine Zca Tryz.func73 rfl bo73 (by simp [go_sem, D.nr, nrs, nrr]) (by simp [Tryz.f73]) ?_
 unfold Tryz.f73
 simp only [Zfa]
 have ff := True.intro
 refine stp Lun ?_
 refine Zaa ?_
 refine stp Lun ?_
 refine cd (fun c1 => ?_) (fun c1 => ?_)
 ·
  refine stp Lun ?_
  refine Zba ?_
  exact fin 0 (hr := by (try simp only [go_sem, ff]); all_goals (rw [decide_eq_false (eq_len (by omega))]))
 ·
  have hab : a.length = b.length := by omega
  refine dw_skip ?_
  show DW _ _ _ _ _
  refine Zaa ?_
  refine stp Lun ?_
  refine Zda ?_
  refine lp (α := (Nat) × Nat) [0, 1, 12] (fun ⟨k, nx⟩ => (k ≤ a.length) ∧ (∀ i, i < k → a[i]! = b[i]!) ∧ True) (fun ⟨k, nx⟩ => a.length - k) (fun ⟨k, nx⟩ => [(13, .i k)]) (fun ⟨k, nx⟩ => []) (fun ⟨k, nx⟩ => nx) (0, _) (hA := ⟨iv, (by first | (intro i hi; omega) | (dsimp only; intro i hi; omega)), trivial⟩) (round := ?_)
  rintro ⟨k, nx⟩ ⟨hk, hv, -⟩
  show DW _ _ _ _ { n := _, t := tab _, h := _, nx := _, e := _ }
  simp only [List.cons_append, List.nil_append]
  refine stp Lun ?_
  refine Zaa ?_
  refine cd (fun c2 => ?_) (fun c2 => ?_) (hp := rfl)
  ·
   have hk2 : k < a.length := by simpa using c2
   have hk3 : k < b.length := by omega
   have ff := And.intro (Zkc hk2) (And.intro (Zkc hk3) ff)
   refine dw_skip ?_
   show DW _ _ _ _ _
   refine Zaa ?_
   refine Zda ?_
   refine stp Lun ?_
   refine stp Lun ?_
   refine cd (fun c3 => ?_) (fun c3 => ?_)
   ·
    refine stp Lun ?_
    refine Zba ?_
    exact fin 0 (hr := by (try simp only [go_sem, ff]); all_goals (rw [decide_eq_false fun e => by subst e; simp at c3]))
   ·
    refine dw_skip ?_
    show DW _ _ _ _ _
    refine rgn Lun ?_
    show ∃ _, _
    exact rnd (k + 1, _) (h1 := ⟨iv, (by (try dsimp only); intro i hi; by_cases e : i = k; subst e; exact Zgw c3; exact hv i (by omega)), trivial⟩)
  ·
   refine Zja ?_
   show DW _ _ _ _ _
   refine stp Lun ?_
   refine Zba ?_
   exact fin 0 (hr := by (try simp only [go_sem, ff]); all_goals (rw [decide_eq_true (Zhm! hab fun i hi => hv i (by omega))]))
theorem bo78 : Zea Tryz.prog 78 = true := by kernel_rfl
theorem Zep (a : Sgd) (b : Sgd) (ha : a.set.data.length ≤ 1000000) : PureCt Tryz.prog 78 [.agg a.d, .agg b.d] (.b (decide (a.set = b.set))) := by
 refine Zca Tryz.func78 rfl bo78 (by simp [go_sem, D.nr, nrs, nrr]) (by simp [Tryz.f78]) ?_
 unfold Tryz.f78
 simp only [Zfa]
 have ff := True.intro
 refine stp Lun ?_
 refine stp Lun ?_ (hok := by (try simp only [go_sem, ff]); all_goals (first | done | ((repeat' (with_reducible apply And.intro)) <;> first | exact Zge _ _ ha | (intros; exact Zge _ _ ha) | skip)))
 refine Zba ?_
 exact fin 0 (hr := by (try simp only [go_sem, ff]); all_goals (rw [eqSet_eq]))
theorem bo150 : Zea Tryz.prog 150 = true := by kernel_rfl
theorem Zf7 (l : List Dat) (x : Dat) (hl : l.length ≤ 1000000) : PureCt Tryz.prog 150 [.list false (l.map Dat.d), .agg x.d] (.i (firstAt (fun y => decide (x = y)) l 0)) := by
 refine Zca Tryz.func150 rfl bo150 (by simp [go_sem, D.nr, nrs, nrr]) (by simp [Tryz.f150]) ?_
 unfold Tryz.f150
 simp only [Zfa]
 have ff := True.intro
 refine stp Lun ?_
 refine Zaa ?_
 refine stp Lun ?_
 refine Zda ?_
 refine lp (α := (Nat) × Nat) [0, 3, 7] (fun ⟨k, nx⟩ => (k ≤ l.length) ∧ (0 < nx) ∧ (firstAt (fun y => decide (x = y)) l 0 = firstAt (fun y => decide (x = y)) l k) ∧ True) (fun ⟨k, nx⟩ => l.length - k) (fun ⟨k, nx⟩ => [(8, .i k)]) (fun ⟨k, nx⟩ => [(0, ⟨63, [x.d]⟩)]) (fun ⟨k, nx⟩ => nx) (0, _) (hA := ⟨iv, iv, rfl, trivial⟩) (round := ?_)
 rintro ⟨k, nx⟩ ⟨hk, hx, hv, -⟩
 show DW _ _ _ _ { n := _, t := tab _, h := _, nx := _, e := _ }
 simp only [List.cons_append, List.nil_append]
 have ff := And.intro @hx ff
 refine stp Lun ?_
 refine Zaa ?_
 refine cd (fun c1 => ?_) (fun c1 => ?_) (hp := rfl)
 ·
  have hk2 : k < l.length := by simpa using c1
  have ff := And.intro (Zkc hk2) ff
  refine dw_skip ?_
  show DW _ _ _ _ _
  refine Zaa ?_
  refine Zda ?_
  refine stp Lun ?_
  refine stp Lun ?_
  refine cd (fun c2 => ?_) (fun c2 => ?_)
  ·
   refine stp Lun ?_
   refine Zba ?_
   exact fin 0 (hr := by (try simp only [go_sem, ff]); all_goals (rw [hv, Zzy hk2 (decide_eq_true (Zgw c2))]))
  ·
   refine dw_skip ?_
   show DW _ _ _ _ _
   refine rgn Lun ?_
   show ∃ _, _
   exact rnd (k + 1, _) (h1 := ⟨iv, iv, (by (try dsimp only); rw [hv, Yea hk2 (by rw [decide_eq_false_iff_not]; rintro rfl; simp at c2)]), trivial⟩)
 ·
  refine Zja ?_
  show DW _ _ _ _ _
  refine stp Lun ?_
  refine Zba ?_
  exact fin 0 (hr := by (try simp only [go_sem, ff]); all_goals (rw [hv, Zaz (by omega)]))
theorem bo119 : Zea Tryz.prog 119 = true := by kernel_rfl
theorem Zl2 (l : List Dat) (x : Dat) (hl : l.length ≤ 1000000) : PureCt Tryz.prog 119 [.list false (l.map Dat.d), .agg x.d] (.b (hasD l x)) := by
 refine Zca Tryz.func119 rfl bo119 (by simp [go_sem, D.nr, nrs, nrr]) (by simp [Tryz.f119]) ?_
 unfold Tryz.f119
 simp only [Zfa]
 have ff := True.intro
 refine stp Lun ?_
 refine stp Lun ?_ (hok := by (try simp only [go_sem, ff]); all_goals (first | done | ((repeat' (with_reducible apply And.intro)) <;> first | exact Zf7 l x hl | (intros; exact Zf7 l x hl) | skip)))
 refine Zba ?_
 exact fin 0 (hr := by (try simp only [go_sem, ff]); all_goals (rw [Zy5]))
theorem bo118 : Zea Tryz.prog 118 = true := by kernel_rfl
theorem Zxp (x : Dat) (s : RSet) (hl : s.data.length ≤ 1000000) : PureCt Tryz.prog 118 [.agg x.d, .eptr s.d] (.b (hasD s.data x)) := by
 refine Zca Tryz.func118 rfl bo118 (by simp [go_sem, D.nr, nrs, nrr]) (by simp [Tryz.f118]) ?_
 unfold Tryz.f118
 simp only [Zfa]
 have ff := True.intro
 refine stp Lun ?_
 refine stp Lun ?_ (hok := by (try simp only [go_sem, ff]); all_goals (first | done | ((repeat' (with_reducible apply And.intro)) <;> first | exact Zl2 s.data x hl | (intros; exact Zl2 s.data x hl) | skip)))
 refine Zba ?_
 exact fin 2 (hr := by (try simp only [go_sem, ff]); all_goals (rfl))
theorem bo149 : Zea Tryz.prog 149 = true := by kernel_rfl
theorem uixd_ct (l : List Dat) (s : RSet) (hl : l.length ≤ 1000000) (hs : s.data.length ≤ 1000000) : PureCt Tryz.prog 149 [.list false (l.map Dat.d), .fn (.func 118) [] [.eptr s.d]] (.i (firstAt (hasD s.data) l 0)) := by
 refine Zca Tryz.func149 rfl bo149 (by simp [go_sem, D.nr, nrs, nrr]) (by simp [Tryz.f149]) ?_
 unfold Tryz.f149
 simp only [Zfa]
 have ff := True.intro
 refine stp Lun ?_
 refine Zaa ?_
 refine stp Lun ?_
 refine Zda ?_
 refine lp (α := (Nat) × Nat) [0, 1, 7] (fun ⟨k, nx⟩ => (k ≤ l.length) ∧ (firstAt (hasD s.data) l 0 = firstAt (hasD s.data) l k) ∧ True) (fun ⟨k, nx⟩ => l.length - k) (fun ⟨k, nx⟩ => [(8, .i k)]) (fun ⟨k, nx⟩ => []) (fun ⟨k, nx⟩ => nx) (0, _) (hA := ⟨iv, rfl, trivial⟩) (round := ?_)
 rintro ⟨k, nx⟩ ⟨hk, hv, -⟩
 show DW _ _ _ _ { n := _, t := tab _, h := _, nx := _, e := _ }
 simp only [List.cons_append, List.nil_append]
 refine stp Lun ?_
 refine Zaa ?_
 refine cd (fun c1 => ?_) (fun c1 => ?_) (hp := rfl)
 ·
  have hk2 : k < l.length := by simpa using c1
  have ff := And.intro (Zkc hk2) ff
  refine dw_skip ?_
  show DW _ _ _ _ _
  refine Zaa ?_
  refine Zda ?_
  refine stp Lun ?_
  refine stp Lun ?_ (hok := by (try simp only [go_sem, ff]); all_goals (first | done | ((repeat' (with_reducible apply And.intro)) <;> first | exact Zxp l[k]! s hs | (intros; exact Zxp l[k]! s hs) | omega | skip)))
  refine cd (fun c2 => ?_) (fun c2 => ?_)
  ·
   refine stp Lun ?_
   refine Zba ?_
   exact fin 2 (hr := by (try simp only [go_sem, ff]); all_goals (rw [hv, Zzy hk2 c2]))
  ·
   refine dw_skip ?_
   show DW _ _ _ _ _
   refine rgn Lun ?_
   show ∃ _, _
   exact rnd (k + 1, _) (h1 := ⟨iv, (by (try dsimp only); rw [hv, Yea hk2 (by simpa using c2)]), trivial⟩)
 ·
  refine Zja ?_
  show DW _ _ _ _ _
  refine stp Lun ?_
  refine Zba ?_
  exact fin 2 (hr := by (try simp only [go_sem, ff]); all_goals (rw [hv, Zaz (by omega)]))
theorem bo114 : Zea Tryz.prog 114 = true := by kernel_rfl
theorem ucmpd_ct (a : Dat) (b : Dat) : PureCt Tryz.prog 114 [.agg a.d, .agg b.d] (.i (datC a b)) := by
 refine Zca Tryz.func114 rfl bo114 (by simp [go_sem, D.nr, nrs, nrr]) (by simp [Tryz.f114]) ?_
 unfold Tryz.f114
 simp only [Zfa]
 have ff := True.intro
 refine stp Lun ?_
 refine stp Lun ?_ (hok := by (try simp only [go_sem, ff]); all_goals (first | done | ((repeat' (with_reducible apply And.intro)) <;> first | exact Zfz _ _ | exact Zvh _ _ | exact Zv3 [_, _, _] | omega)))
 refine Zba ?_
 exact fin 0 (hr := by (try simp only [go_sem, ff]); all_goals (rw [← Zkt]; rfl))
set_option maxRecDepth 10000
theorem Zqf {l : List Sgd} {k : Nat} (h : k < l.length) : l[k]! ∈ l := mem_ix.2 ⟨k, h, rfl⟩
theorem bo32 : Zea Tryz.prog 32 = true := by kernel_rfl
theorem Zz6 (u : Upd) : PureCt Tryz.prog 32 [.agg u.d] (.b (updOk u)) := by
 refine Zca Tryz.func32 rfl bo32 (by simp [go_sem, D.nr, nrs, nrr]) (by simp [Tryz.f32]) ?_
 unfold Tryz.f32
 simp only [Zfa]
 have ff := True.intro
 refine stp Lun ?_
 refine Zaa ?_
 refine stp Lun ?_
 refine cd (fun c1 => ?_) (fun c1 => ?_)
 ·
  refine stp Lun ?_
  refine Zba ?_
  exact fin 0 (hr := by (try simp only [go_sem, ff]); all_goals (simp only [updOk]; grind))
 ·
  refine dw_skip ?_
  show DW _ _ _ _ _
  refine Zaa ?_
  refine stp Lun ?_
  refine Zda ?_
  refine lp (α := (Nat) × Nat) [1, 18, 19] (fun ⟨k, nx⟩ => (k ≤ u.needs.length) ∧ (Zab u.needs.length ((fun i => needOk u.needs[i]!)) 0 = Zab u.needs.length ((fun i => needOk u.needs[i]!)) k) ∧ (0 < nx) ∧ True) (fun ⟨k, nx⟩ => u.needs.length - k) (fun ⟨k, nx⟩ => [(20, .i k)]) (fun ⟨k, nx⟩ => [(0, ⟨28, [u.d]⟩)]) (fun ⟨k, nx⟩ => nx) (0, _) (hA := ⟨iv, rfl, iv, trivial⟩) (round := ?_)
  rintro ⟨k, nx⟩ ⟨hk, hv1, hx, -⟩
  show DW _ _ _ _ { n := _, t := tab _, h := _, nx := _, e := _ }
  simp only [List.cons_append, List.nil_append]
  have ff := And.intro @hx ff
  refine stp Lun ?_
  refine Zaa ?_
  refine cd (fun c2 => ?_) (fun c2 => ?_) (hp := rfl)
  ·
   have hk2 : k < u.needs.length := by simpa using c2
   have ff := And.intro (Zke hk2) ff
   refine dw_skip ?_
   show DW _ _ _ _ _
   refine Zaa ?_
   refine Zda ?_
   refine stp Lun ?_
   refine stp Lun ?_ (hok := by (try simp only [go_sem, ff]); all_goals (first | done | ((repeat' (with_reducible apply And.intro)) <;> first | exact Zgp u.needs[k]! | (intros; exact Zgp u.needs[k]!) | omega | skip)))
   refine cd (fun c3 => ?_) (fun c3 => ?_)
   ·
    refine stp Lun ?_
    refine Zba ?_
    exact fin 0 (hr := by (try simp only [go_sem, ff]); all_goals (have hF : ((fun i => needOk u.needs[i]!)) k = false := (by simpa using c3); simp only [updOk]; rw [hv1, Zpa hk2 hF]; try simp))
   ·
    refine dw_skip ?_
    show DW _ _ _ _ _
    refine rgn Lun ?_
    show ∃ _, _
    have h8 : ((fun i => needOk u.needs[i]!)) k = true := by simpa using c3
    exact rnd (k + 1, _) (h1 := ⟨iv, (by first | (rw [hv1, Zha hk2 h8]) | (dsimp only; rw [hv1, Zha hk2 h8])), iv, trivial⟩)
  ·
   refine Zja ?_
   show DW _ _ _ _ _
   refine Zaa ?_
   refine stp Lun ?_
   refine Zda ?_
   refine lp (α := (Nat) × Nat) [29, 30] (fun ⟨k, nx⟩ => (k ≤ u.chgs.length) ∧ (Zab u.chgs.length ((fun i => chgOk u.chgs[i]!)) 0 = Zab u.chgs.length ((fun i => chgOk u.chgs[i]!)) k) ∧ (0 < nx) ∧ True) (fun ⟨k, nx⟩ => u.chgs.length - k) (fun ⟨k, nx⟩ => [(31, .i k)]) (fun ⟨k, nx⟩ => [(0, ⟨28, [u.d]⟩)]) (fun ⟨k, nx⟩ => nx) (0, _) (hA := ⟨iv, rfl, iv, trivial⟩) (round := ?_)
   rintro ⟨k, nx⟩ ⟨hk, hv, hx, -⟩
   show DW _ _ _ _ { n := _, t := tab _, h := _, nx := _, e := _ }
   simp only [List.cons_append, List.nil_append]
   have ff := And.intro @hx ff
   refine stp Lun ?_
   refine Zaa ?_
   refine cd (fun c4 => ?_) (fun c4 => ?_) (hp := rfl)
   ·
    have hk2 : k < u.chgs.length := by simpa using c4
    have ff := And.intro (Zke hk2) ff
    refine dw_skip ?_
    show DW _ _ _ _ _
    refine Zaa ?_
    refine Zda ?_
    refine stp Lun ?_
    refine stp Lun ?_ (hok := by (try simp only [go_sem, ff]); all_goals (first | done | ((repeat' (with_reducible apply And.intro)) <;> first | exact Zj7 u.chgs[k]! | (intros; exact Zj7 u.chgs[k]!) | omega | skip)))
    refine cd (fun c5 => ?_) (fun c5 => ?_)
    ·
     refine stp Lun ?_
     refine Zba ?_
     exact fin 0 (hr := by (try simp only [go_sem, ff]); all_goals (have hF : ((fun i => chgOk u.chgs[i]!)) k = false := (by simpa using c5); simp only [updOk]; rw [hv, Zpa hk2 hF]; try simp))
    ·
     refine dw_skip ?_
     show DW _ _ _ _ _
     refine rgn Lun ?_
     show ∃ _, _
     have h8 : ((fun i => chgOk u.chgs[i]!)) k = true := by simpa using c5
     exact rnd (k + 1, _) (h1 := ⟨iv, (by first | (rw [hv, Zha hk2 h8]) | (dsimp only; rw [hv, Zha hk2 h8])), iv, trivial⟩)
   ·
    refine Zja ?_
    show DW _ _ _ _ _
    refine stp Lun ?_
    refine Zba ?_
    exact fin 0 (hr := by (try simp only [go_sem, ff]); all_goals (simp only [updOk]; rw [hv1, hv, Zxa (n := u.needs.length) (by omega), Zxa (by omega)]; simp; grind))
theorem bo35 : Zea Tryz.prog 35 = true := by kernel_rfl
theorem Zhp (z : Zon) (n : Chg) (hl : z.sets.length ≤ 1000000) (hd : ∀ s ∈ z.sets, s.set.data.length ≤ 1000000) : PureCt Tryz.prog 35 [.agg z.d, .agg n.d] (.b (holdP z n)) := by
 refine Zca Tryz.func35 rfl bo35 (by simp [go_sem, D.nr, nrs, nrr]) (by simp [Tryz.f35]) ?_
 unfold Tryz.f35
 simp only [Zfa]
 have ff := True.intro
 refine stp Lun ?_
 refine Zaa ?_
 refine stp Lun ?_
 refine Zda ?_
 refine Zaa ?_
 refine stp Lun ?_
 refine cd (fun c1 => ?_) (fun c1 => ?_)
 ·
  refine dw_skip ?_
  show DW _ _ _ _ _
  refine cd (fun c2 => ?_) (fun c2 => ?_)
  ·
   refine Zsh 3 1 ev ev (by simp [nrs, D.nr, Zmf]) ?_
   refine stp Lun ?_ (hok := by (try simp only [go_sem, ff]); all_goals (first | done | ((repeat' (with_reducible apply And.intro)) <;> first | exact Zip _ hl n | (intros; exact Zip _ hl n) | skip)))
   refine stp Lun ?_
   refine Zba ?_
   exact fin 2 (hr := by (try simp only [go_sem, ff]); all_goals (simp only [holdP, show n.q = ⟨n.set.name, n.set.ty⟩ from rfl]; grind))
  ·
   refine dw_skip ?_
   show DW _ _ _ _ _
   refine stp Lun ?_ (hok := by (try simp only [go_sem, ff]); all_goals (first | done | ((repeat' (with_reducible apply And.intro)) <;> first | exact Zsc z n.set.name n.set.ty hl | (intros; exact Zsc z n.set.name n.set.ty hl) | skip)))
   refine Zaa ?_
   refine stp Lun ?_
   refine Zda ?_
   refine stp Lun ?_
   refine cd (fun c3 => ?_) (fun c3 => ?_)
   ·
    refine stp Lun ?_
    refine Zba ?_
    exact fin 2 (hr := by (try simp only [go_sem, ff]); all_goals (simp only [holdP, show n.q = ⟨n.set.name, n.set.ty⟩ from rfl]; grind))
   ·
    refine stp Lun ?_
    refine cd (fun c4 => ?_) (fun c4 => ?_)
    ·
     refine stp Lun ?_
     refine Zba ?_
     exact fin 2 (hr := by (try simp only [go_sem, ff]); all_goals (simp only [holdP, show n.q = ⟨n.set.name, n.set.ty⟩ from rfl]; grind))
    ·
     refine dw_skip ?_
     show DW _ _ _ _ _
     rcases hf : findOk z.sets ⟨n.set.name, n.set.ty⟩ with _ | _
     ·
      have ff := And.intro @hf ff
      refine stp Lun ?_ (hok := by (try simp only [go_sem, ff]); all_goals (first | done | ((repeat' (with_reducible apply And.intro)) <;> first | exact Zge _ _ (hd _ (Zqf hf2)) | (intros; exact Zge _ _ (hd _ (Zqf hf2))) | (intros; exact Zge _ _ (hd _ (Zqf hf2))) | omega | (intro h; cases h) | skip)))
      refine Zba ?_
      exact fin 2 (hr := by (try simp only [go_sem, ff]); all_goals (simp only [holdP, show n.q = ⟨n.set.name, n.set.ty⟩ from rfl]; grind))
     ·
      have hf2 := Ze1 hf
      have ff := And.intro @hf (And.intro (Zla hf2) ff)
      refine stp Lun ?_ (hok := by (try simp only [go_sem, ff]); all_goals (first | done | ((repeat' (with_reducible apply And.intro)) <;> first | exact Zge _ _ (hd _ (Zqf hf2)) | (intros; exact Zge _ _ (hd _ (Zqf hf2))) | (intros; exact Zge _ _ (hd _ (Zqf hf2))) | omega | (intro h; cases h) | skip)))
      refine Zba ?_
      exact fin 2 (hr := by (try simp only [go_sem, ff]); all_goals (simp only [holdP, show n.q = ⟨n.set.name, n.set.ty⟩ from rfl]; grind))
 ·
  refine rgn Lun ?_
  show DW _ _ _ _ _
  refine cd (fun c5 => ?_) (fun c5 => ?_)
  ·
   refine Zsh 3 1 ev ev (by simp [nrs, D.nr, Zmf]) ?_
   refine stp Lun ?_ (hok := by (try simp only [go_sem, ff]); all_goals (first | done | ((repeat' (with_reducible apply And.intro)) <;> first | exact Zip _ hl n | (intros; exact Zip _ hl n) | skip)))
   refine stp Lun ?_
   refine Zba ?_
   exact fin 2 (hr := by (try simp only [go_sem, ff]); all_goals (simp only [holdP, show n.q = ⟨n.set.name, n.set.ty⟩ from rfl]; grind))
  ·
   refine dw_skip ?_
   show DW _ _ _ _ _
   refine stp Lun ?_ (hok := by (try simp only [go_sem, ff]); all_goals (first | done | ((repeat' (with_reducible apply And.intro)) <;> first | exact Zsc z n.set.name n.set.ty hl | (intros; exact Zsc z n.set.name n.set.ty hl) | skip)))
   refine Zaa ?_
   refine stp Lun ?_
   refine Zda ?_
   refine stp Lun ?_
   refine cd (fun c6 => ?_) (fun c6 => ?_)
   ·
    refine stp Lun ?_
    refine Zba ?_
    exact fin 2 (hr := by (try simp only [go_sem, ff]); all_goals (simp only [holdP, show n.q = ⟨n.set.name, n.set.ty⟩ from rfl]; grind))
   ·
    refine stp Lun ?_
    refine cd (fun c7 => ?_) (fun c7 => ?_)
    ·
     refine stp Lun ?_
     refine Zba ?_
     exact fin 2 (hr := by (try simp only [go_sem, ff]); all_goals (simp only [holdP, show n.q = ⟨n.set.name, n.set.ty⟩ from rfl]; grind))
    ·
     refine dw_skip ?_
     show DW _ _ _ _ _
     rcases hf : findOk z.sets ⟨n.set.name, n.set.ty⟩ with _ | _
     ·
      have ff := And.intro @hf ff
      refine stp Lun ?_ (hok := by (try simp only [go_sem, ff]); all_goals (first | done | ((repeat' (with_reducible apply And.intro)) <;> first | exact Zge _ _ (hd _ (Zqf hf2)) | (intros; exact Zge _ _ (hd _ (Zqf hf2))) | (intros; exact Zge _ _ (hd _ (Zqf hf2))) | omega | (intro h; cases h) | skip)))
      refine Zba ?_
      exact fin 2 (hr := by (try simp only [go_sem, ff]); all_goals (simp only [holdP, show n.q = ⟨n.set.name, n.set.ty⟩ from rfl]; grind))
     ·
      have hf2 := Ze1 hf
      have ff := And.intro @hf (And.intro (Zla hf2) ff)
      refine stp Lun ?_ (hok := by (try simp only [go_sem, ff]); all_goals (first | done | ((repeat' (with_reducible apply And.intro)) <;> first | exact Zge _ _ (hd _ (Zqf hf2)) | (intros; exact Zge _ _ (hd _ (Zqf hf2))) | (intros; exact Zge _ _ (hd _ (Zqf hf2))) | omega | (intro h; cases h) | skip)))
      refine Zba ?_
      exact fin 2 (hr := by (try simp only [go_sem, ff]); all_goals (simp only [holdP, show n.q = ⟨n.set.name, n.set.ty⟩ from rfl]; grind))
theorem bo77 : Zea Tryz.prog 77 = true := by kernel_rfl
theorem Zg7 (a : List Sgd) (b : List Sgd) (hl : a.length ≤ 1000000) (hd : ∀ s ∈ a, s.set.data.length ≤ 1000000) : PureCt Tryz.prog 77 [.list false (a.map Sgd.d), .list false (b.map Sgd.d), .fn (.func 78) [] []] (.b (eqSets a b)) := by
 refine Zca Tryz.func77 rfl bo77 (by simp [go_sem, D.nr, nrs, nrr]) (by simp [Tryz.f77]) ?_
 unfold Tryz.f77
 simp only [Zfa]
 have ff := True.intro
 refine stp Lun ?_
 refine Zaa ?_
 refine stp Lun ?_
 refine cd (fun c1 => ?_) (fun c1 => ?_)
 ·
  refine stp Lun ?_
  refine Zba ?_
  exact fin 0 (hr := by (try simp only [go_sem, ff]); all_goals (simp only [eqSets]; rw [decide_eq_false (by omega)]; rfl))
 ·
  have hab : a.length = b.length := by omega
  refine dw_skip ?_
  show DW _ _ _ _ _
  refine Zaa ?_
  refine stp Lun ?_
  refine Zda ?_
  refine lp (α := (Nat) × Nat) [1, 2, 15, 16] (fun ⟨k, nx⟩ => (k ≤ a.length) ∧ (Zab a.length ((fun i => decide (a[i]!.set = b[i]!.set))) 0 = Zab a.length ((fun i => decide (a[i]!.set = b[i]!.set))) k) ∧ True) (fun ⟨k, nx⟩ => a.length - k) (fun ⟨k, nx⟩ => [(17, .i k)]) (fun ⟨k, nx⟩ => []) (fun ⟨k, nx⟩ => nx) (0, _) (hA := ⟨iv, rfl, trivial⟩) (round := ?_)
  rintro ⟨k, nx⟩ ⟨hk, hv, -⟩
  show DW _ _ _ _ { n := _, t := tab _, h := _, nx := _, e := _ }
  simp only [List.cons_append, List.nil_append]
  refine stp Lun ?_
  refine Zaa ?_
  refine cd (fun c2 => ?_) (fun c2 => ?_) (hp := rfl)
  ·
   have hk2 : k < a.length := by simpa using c2
   have hk3 : k < b.length := by omega
   have ff := And.intro (Zla hk2) (And.intro (Zla hk3) ff)
   refine dw_skip ?_
   show DW _ _ _ _ _
   refine Zaa ?_
   refine Zda ?_
   refine stp Lun ?_
   refine stp Lun ?_
   refine stp Lun ?_ (hok := by (try simp only [go_sem, ff]); all_goals (first | done | ((repeat' (with_reducible apply And.intro)) <;> first | exact Zep a[k]! b[k]! (hd _ (Zqf hk2)) | (intros; exact Zep a[k]! b[k]! (hd _ (Zqf hk2))) | omega | skip)))
   refine cd (fun c3 => ?_) (fun c3 => ?_)
   ·
    refine stp Lun ?_
    refine Zba ?_
    exact fin 0 (hr := by (try simp only [go_sem, ff]); all_goals (have hF : (fun i => decide (a[i]!.set = b[i]!.set)) k = false := (by simpa using c3); simp only [eqSets]; rw [hv, Zpa hk2 hF]; simp))
   ·
    refine dw_skip ?_
    show DW _ _ _ _ _
    refine rgn Lun ?_
    show ∃ _, _
    have h8 : ((fun i => decide (a[i]!.set = b[i]!.set))) k = true := by simpa using c3
    exact rnd (k + 1, _) (h1 := ⟨iv, (by first | (rw [hv, Zha hk2 h8]) | (dsimp only; rw [hv, Zha hk2 h8])), trivial⟩)
  ·
   refine Zja ?_
   show DW _ _ _ _ _
   refine stp Lun ?_
   refine Zba ?_
   exact fin 0 (hr := by (try simp only [go_sem, ff]); all_goals (simp only [eqSets]; rw [hv, Zxa (by omega)]; simp [hab]))
set_option maxRecDepth 10000
@[go_sem] theorem all_dat6 {l : List Dat} : (∀ r ∈ l.map Dat.d, r.length = 3) = True := by
 apply eq_true
 intro r hr
 obtain ⟨x, _, rfl⟩ := List.mem_map.1 hr
 rfl
theorem bo100 : Zea Tryz.prog 100 = true := by kernel_rfl
theorem Zyn (l : List Dat) (h0 : 0 < l.length) (hl : l.length ≤ 100000) (h : H) (n : Nat) : RCt Tryz.prog 100 [.list false (l.map Dat.d)] h n (fun d h' n' => ∃ r', d = .mrow r' 0 l.length ∧ h' = upd h r' (some ⟨63, (l).map Dat.d⟩) ∧ n ≤ r' ∧ r' < n') := by
 refine Zmb Tryz.func100 rfl bo100 (by simp [Tryz.f100]) (fun hnone => ?_)
 unfold Tryz.f100
 have ff := True.intro
 refine stp Lun ?_
 refine Zaa ?_
 refine Zaa (Zeu ?_)
 refine Zx7 (C := Lun) 1 (e := 63) (by omega) (Zub rfl) rfl rfl (by kernel_rfl) (by simp only [List.drop_succ_cons, List.drop_zero, List.take_succ_cons, List.take_zero, S.put, Nat.sub_self, go_sem, ff]; exact rfl) ?_ (by rfl) (by simp only [go_sem, ff]; exact rfl) (fun y hy => ?_)
 ·
  try simp only [go_sem, ff]
  all_goals (first | done | (repeat' (with_reducible apply And.intro)) <;> first | omega | (with_reducible assumption) | (intros; omega) | (intros; simp only [decide_eq_true_eq, decide_eq_false_iff_not, Bool.or_eq_true, Bool.and_eq_true, Bool.or_eq_false_iff, Bool.not_eq_true', Bool.not_eq_false'] at *; omega) | (simp_all; done) | (simp_all; omega))
 refine Zsl (C := Lun) (by first | decide | simp) (by simp only [List.drop_succ_cons, List.drop_zero, List.take_succ_cons, List.take_zero, S.put, Nat.sub_self, go_sem, ff]; exact rfl) ?_ rfl ?_
 ·
  try simp only [go_sem, ff]
  all_goals (first | done | (repeat' (with_reducible apply And.intro)) <;> first | omega | (with_reducible assumption) | (intros; omega) | (intros; simp only [decide_eq_true_eq, decide_eq_false_iff_not, Bool.or_eq_true, Bool.and_eq_true, Bool.or_eq_false_iff, Bool.not_eq_true', Bool.not_eq_false'] at *; omega) | (simp_all; done) | (simp_all; omega))
 try simp only [Zna]
 refine cd (fun c1 => ?_) (fun c1 => ?_) (hp := rfl) (hq := rfl)
 ·
  exact absurd (hy c1) (by cases l with | nil => simp at h0 | cons a b => simp)
 ·
  refine dw_skip ?_
  show DW _ _ _ _ _
  refine stp Lun ?_
  refine Zba ?_
  exact Zuk (upd h (n + 5) (some ⟨63, (l).map Dat.d⟩)) (hr := by (try simp only [go_sem, ff]); all_goals (exact ⟨n + 5, by simp, by simp, by omega, by omega⟩))
theorem bo75 : Zea Tryz.prog 75 = true := by kernel_rfl
theorem Zi7 (z : Zon) (hl : z.sets.length ≤ 100000) (hd : ∀ s ∈ z.sets, 0 < s.set.data.length ∧ s.set.data.length ≤ 100000) (h : H) (n : Nat) : RCt Tryz.prog 75 [.agg z.d] h n (fun d h' n' => ∃ rs p, d = .agg [.v (.string (bs z.apex)), .mrow rs 0 p.length] ∧ lP p = z.sets.map Sgd.bare ∧ h' rs = some ⟨52, p.map rowP⟩ ∧ (∀ x ∈ p, h' x.1 = some ⟨63, x.2.set.data.map Dat.d⟩) ∧ (p.map (·.1)).Nodup ∧ (∀ x ∈ p, x.1 ≠ rs ∧ n ≤ x.1 ∧ x.1 < n') ∧ n ≤ rs ∧ rs < n' ∧ (∀ q, q < n → h' q = h q)) := by
 refine Zmb Tryz.func75 rfl bo75 (by simp [Tryz.f75]) (fun hnone => ?_)
 unfold Tryz.f75
 have ff := True.intro
 refine stp Lun ?_
 refine stp Lun ?_
 refine Zaa ?_
 refine stp Lun ?_
 refine Zda ?_
 refine lph (α := (Nat) × (List PS) × Nat) [1, 2, 3, 11, 12] (fun ⟨k, p, nx⟩ => (k ≤ z.sets.length) ∧ (n + 5 < nx) ∧ (lP p = (z.sets.take k).map Sgd.bare) ∧ ((p.map (·.1)).Nodup) ∧ (∀ x ∈ p, n + 5 < x.1 ∧ x.1 < nx) ∧ True) (fun ⟨k, p, nx⟩ => z.sets.length - k) (fun ⟨k, p, nx⟩ => [(13, .i k)]) (fun ⟨k, p, nx⟩ => upd (upd (upd (hpP 63 h p) n (some ⟨24, [z.d]⟩)) (n + 1) (some ⟨24, [[.v (.string (bs [])), .list true []]]⟩)) (n + 5) (some ⟨52, p.map rowP ++ List.replicate (z.sets.length - k) [.v (.string (bs [])), .i 0, .i 0, .list true [], .list true []]⟩)) (fun ⟨k, p, nx⟩ => nx) (0, [], _) (hA := ⟨iv, iv, rfl, (by first | (exact List.nodup_nil) | (dsimp only; exact List.nodup_nil)), (by first | (intro x hx9; cases hx9) | (dsimp only; intro x hx9; cases hx9)), trivial⟩) (round := ?_)
 rintro ⟨k, p, nx⟩ ⟨hk, hx, hp, hnd, hpn, -⟩
 show DW _ _ _ _ { n := _, t := tab _, h := _, nx := _, e := _ }
 simp only [List.cons_append, List.nil_append]
 have hpl := lP_take hp hk
 have zn_n1 : (n = n + 1) = False := eq_false (by omega)
 have yn1_n : (n + 1 = n) = False := eq_false (by omega)
 have zn_n5 : (n = n + 5) = False := eq_false (by omega)
 have yn5_n : (n + 5 = n) = False := eq_false (by omega)
 have zn_nx4 : (n = nx + 4) = False := eq_false (by omega)
 have ynx4_n : (nx + 4 = n) = False := eq_false (by omega)
 have zn1_n5 : (n + 1 = n + 5) = False := eq_false (by omega)
 have yn5_n1 : (n + 5 = n + 1) = False := eq_false (by omega)
 have zn1_nx4 : (n + 1 = nx + 4) = False := eq_false (by omega)
 have ynx4_n1 : (nx + 4 = n + 1) = False := eq_false (by omega)
 have zn5_nx4 : (n + 5 = nx + 4) = False := eq_false (by omega)
 have ynx4_n5 : (nx + 4 = n + 5) = False := eq_false (by omega)
 have ff := And.intro @hx (And.intro @hpl (And.intro @zn_n1 (And.intro @yn1_n (And.intro @zn_n5 (And.intro @yn5_n (And.intro @zn_nx4 (And.intro @ynx4_n (And.intro @zn1_n5 (And.intro @yn5_n1 (And.intro @zn1_nx4 (And.intro @ynx4_n1 (And.intro @zn5_nx4 (And.intro @ynx4_n5 ff)))))))))))))
 refine stp Lun ?_
 refine Zaa ?_
 refine cd (fun c1 => ?_) (fun c1 => ?_) (hp := rfl) (hq := rfl)
 ·
  have hk2 : k < z.sets.length := by simpa using c1
  have ff := And.intro (Zla hk2) (And.intro (rows_at (z := [.v (.string (bs [])), .i 0, .i 0, .list true [], .list true []]) hpl hk2) ff)
  refine dw_skip ?_
  show DW _ _ _ _ _
  refine Zaa ?_
  refine Zda ?_
  refine stp Lun ?_
  refine Zaa (Zv1 Lun 3 (hct := by exact Zyn _ (hd _ (Zqf hk2)).1 (hd _ (Zqf hk2)).2 _ _) (hk := ?_))
  rintro res h2 n2 ⟨r1, rfl, rfl, a1, b1⟩
  try dsimp only at a1 b1
  have zn_n1 : (n = n + 1) = False := eq_false (by omega)
  have yn1_n : (n + 1 = n) = False := eq_false (by omega)
  have zn_n5 : (n = n + 5) = False := eq_false (by omega)
  have yn5_n : (n + 5 = n) = False := eq_false (by omega)
  have zn_nx4 : (n = nx + 4) = False := eq_false (by omega)
  have ynx4_n : (nx + 4 = n) = False := eq_false (by omega)
  have zn_r1 : (n = r1) = False := eq_false (by omega)
  have yr1_n : (r1 = n) = False := eq_false (by omega)
  have zn1_n5 : (n + 1 = n + 5) = False := eq_false (by omega)
  have yn5_n1 : (n + 5 = n + 1) = False := eq_false (by omega)
  have zn1_nx4 : (n + 1 = nx + 4) = False := eq_false (by omega)
  have ynx4_n1 : (nx + 4 = n + 1) = False := eq_false (by omega)
  have zn1_r1 : (n + 1 = r1) = False := eq_false (by omega)
  have yr1_n1 : (r1 = n + 1) = False := eq_false (by omega)
  have zn5_nx4 : (n + 5 = nx + 4) = False := eq_false (by omega)
  have ynx4_n5 : (nx + 4 = n + 5) = False := eq_false (by omega)
  have zn5_r1 : (n + 5 = r1) = False := eq_false (by omega)
  have yr1_n5 : (r1 = n + 5) = False := eq_false (by omega)
  have znx4_r1 : (nx + 4 = r1) = False := eq_false (by omega)
  have yr1_nx4 : (r1 = nx + 4) = False := eq_false (by omega)
  have ff := And.intro @b1 (And.intro @zn_n1 (And.intro @yn1_n (And.intro @zn_n5 (And.intro @yn5_n (And.intro @zn_nx4 (And.intro @ynx4_n (And.intro @zn_r1 (And.intro @yr1_n (And.intro @zn1_n5 (And.intro @yn5_n1 (And.intro @zn1_nx4 (And.intro @ynx4_n1 (And.intro @zn1_r1 (And.intro @yr1_n1 (And.intro @zn5_nx4 (And.intro @ynx4_n5 (And.intro @zn5_r1 (And.intro @yr1_n5 (And.intro @znx4_r1 (And.intro @yr1_nx4 ff))))))))))))))))))))
  refine Zu1 Lun ?_
  show DW _ _ _ _ _
  refine stp Lun ?_
  refine rgn Lun ?_
  show DW _ _ _ _ _
  refine rgn Lun ?_
  show ∃ _, _
  refine rnd (k + 1, p ++ [(r1, z.sets[k]!.bare)], _) (h1 := ⟨iv, iv, (by (try dsimp only); rw [bare_to hk2, ← hp]; simp [lP]), (by (try dsimp only); exact Zg5 hnd fun y hy => by have := hpn y hy; dsimp only; omega), (by (try dsimp only); intro x hx9; rcases List.mem_append.1 hx9 with q | q; have := hpn x q; omega; rw [List.mem_singleton] at q; subst q; dsimp only; omega), trivial⟩) (h5 := ?_)
  have hst := Zz7 (x := (r1, z.sets[k]!.bare)) (z := [.v (.string (bs [])), .i 0, .i 0, .list true [], .list true []]) hpl hk2
  intro q
  dsimp only
  simp only [go_sem, ff, hpP_snoc]
  by_cases e4 : q = nx + 4
  ·
   right; subst e4; simp only [upd]; repeat rw [if_neg (by omega)]
   rw [Ztv (fun x hx9 => by have := hpn x hx9; omega)]; exact hnone _ (by omega)
  ·
   left; by_cases e5 : q = n + 5
   ·
    subst e5; simp only [upd, if_true, if_neg e4]; rw [← hst]; first | rfl | simp [rowP, Sgd.bare]
   ·
    simp only [upd, if_neg e4, if_neg e5]; repeat (first | rfl | (split; first | rfl | omega | skip))
 ·
  have hk3 : k = z.sets.length := by have : ¬ k < z.sets.length := (by simpa using c1); omega
  refine Zja ?_
  show DW _ _ _ _ _
  subst hk3
  refine stp Lun ?_
  refine stp Lun ?_
  refine Zba ?_
  exact Zuk (_) (hh := fun _ => .inl rfl) (hr := by (try simp only [go_sem, ff]); all_goals (refine ⟨n + 5, p, by rw [hpl], by rw [hp, List.take_length], by simp [upd], fun x hx9 => ?_, hnd, fun x hx9 => ⟨?_, ?_, ?_⟩, ?_, ?_, fun q hq => ?_⟩; (have := hpn x hx9; simp only [upd]; repeat rw [if_neg (by omega)]); exact hpP_on hnd x hx9; (have := hpn x hx9; omega); (have := hpn x hx9; omega); (have := hpn x hx9; omega); omega; omega; simp only [upd]; (repeat rw [if_neg (by omega)]); exact Ztv fun x hx9 => by have := hpn x hx9; omega))
set_option maxRecDepth 10000
def srtU_ren : Go.Shelf.Ren := { f := fun x => match x with | 6 => 113 | 15 => 146 | 14 => 145 | 28 => 166 | 29 => 167 | 20 => 158 | 21 => 159 | 22 => 160 | 23 => 161 | 24 => 162 | 25 => 163 | 26 => 164 | 27 => 165 | 46 => 173 | 47 => 174 | 48 => 175 | 49 => 176 | 50 => 177 | 57 => 178 | n => n, t := fun x => match x with | 22 => 29 | 24 => 63 | 25 => 134 | 3 => 3 | 39 => 148 | 0 => 0 | 53 => 168 | 55 => 109 | 4 => 4 | 46 => 162 | 45 => 161 | 50 => 80 | 5 => 5 | 9 => 9 | 66 => 172 | 70 => 176 | 76 => 178 | 77 => 179 | n => n, g := fun n => n }
theorem srtU : Go.Proofs.SlLaysF0.n6 Tryz.prog srtU_ren := {
 mixed := by kernel_rfl
 f6 := ⟨Tryz.f113.name, by decide, Tryz.func113.trans (by kernel_rfl)⟩
 f14 := ⟨Tryz.f145.name, by decide, Tryz.func145.trans (by kernel_rfl)⟩
 f15 := Tryz.func146.trans (by kernel_rfl)
 f20 := ⟨Tryz.f158.name, by decide, Tryz.func158.trans (by kernel_rfl)⟩
 f21 := ⟨Tryz.f159.name, by decide, Tryz.func159.trans (by kernel_rfl)⟩
 f22 := ⟨Tryz.f160.name, by decide, Tryz.func160.trans (by kernel_rfl)⟩
 f23 := ⟨Tryz.f161.name, by decide, Tryz.func161.trans (by kernel_rfl)⟩
 f24 := ⟨Tryz.f162.name, by decide, Tryz.func162.trans (by kernel_rfl)⟩
 f25 := ⟨Tryz.f163.name, by decide, Tryz.func163.trans (by kernel_rfl)⟩
 f26 := ⟨Tryz.f164.name, by decide, Tryz.func164.trans (by kernel_rfl)⟩
 f27 := ⟨Tryz.f165.name, by decide, Tryz.func165.trans (by kernel_rfl)⟩
 f28 := Tryz.func166.trans (by kernel_rfl)
 f29 := Tryz.func167.trans (by kernel_rfl)
 f46 := ⟨Tryz.f173.name, by decide, Tryz.func173.trans (by kernel_rfl)⟩
 f47 := Tryz.func174.trans (by kernel_rfl)
 f48 := Tryz.func175.trans (by kernel_rfl)
 f49 := ⟨Tryz.f176.name, by decide, Tryz.func176.trans (by kernel_rfl)⟩
 f50 := ⟨Tryz.f177.name, by decide, Tryz.func177.trans (by kernel_rfl)⟩
 f57 := ⟨Tryz.f178.name, by decide, Tryz.func178.trans (by kernel_rfl)⟩
 t0 := Tryz.underlying0
 a0 := Tryz.isAgg0
 z0 := Tryz.sizeOf0
 v0 := Tryz.zeroValue0
 t3 := Tryz.underlying3
 a3 := Tryz.isAgg3
 z3 := Tryz.sizeOf3
 v3 := Tryz.zeroValue3
 t4 := Tryz.underlying4
 a4 := Tryz.isAgg4
 z4 := Tryz.sizeOf4
 v4 := Tryz.zeroValue4
 t5 := Tryz.underlying5
 a5 := Tryz.isAgg5
 z5 := Tryz.sizeOf5
 v5 := Tryz.zeroValue5
 t9 := Tryz.underlying9
 a9 := Tryz.isAgg9
 z9 := Tryz.sizeOf9
 v9 := Tryz.zeroValue9
 t22 := Tryz.underlying29
 a22 := Tryz.isAgg29
 z22 := Tryz.sizeOf29
 v22 := Tryz.zeroValue29
 t25 := Tryz.underlying134
 a25 := Tryz.isAgg134
 z25 := Tryz.sizeOf134
 v25 := Tryz.zeroValue134
 t39 := Tryz.underlying148
 a39 := Tryz.isAgg148
 z39 := Tryz.sizeOf148
 v39 := Tryz.zeroValue148
 t45 := Tryz.underlying161
 a45 := Tryz.isAgg161
 z45 := Tryz.sizeOf161
 v45 := Tryz.zeroValue161
 t46 := Tryz.underlying162
 a46 := Tryz.isAgg162
 z46 := Tryz.sizeOf162
 v46 := Tryz.zeroValue162
 t50 := Tryz.underlying80
 a50 := Tryz.isAgg80
 z50 := Tryz.sizeOf80
 v50 := Tryz.zeroValue80
 t53 := Tryz.underlying168
 a53 := Tryz.isAgg168
 z53 := Tryz.sizeOf168
 v53 := Tryz.zeroValue168
 t55 := Tryz.underlying109
 a55 := Tryz.isAgg109
 z55 := Tryz.sizeOf109
 v55 := Tryz.zeroValue109
 t66 := Tryz.underlying172
 a66 := Tryz.isAgg172
 z66 := Tryz.sizeOf172
 v66 := Tryz.zeroValue172
 t70 := Tryz.underlying176
 a70 := Tryz.isAgg176
 z70 := Tryz.sizeOf176
 v70 := Tryz.zeroValue176
 t76 := Tryz.underlying178
 a76 := Tryz.isAgg178
 z76 := Tryz.sizeOf178
 v76 := Tryz.zeroValue178
 t77 := Tryz.underlying179
 a77 := Tryz.isAgg179
 z77 := Tryz.sizeOf179
 v77 := Tryz.zeroValue179 }
theorem Zfw {x : List D} {l : List Dat} (h : x ∈ l.map Dat.d) : Dat.d (Dat.of x) = x := by
 obtain ⟨s, _, rfl⟩ := List.mem_map.1 h
 rw [Zux]
theorem usort_ct (l : List Dat) (m : Nat) (h : H) (n r : Nat) (hm : m = l.length) (hl : l.length ≤ 100000) (hr : h r = some ⟨63, l.map Dat.d⟩) :
  RCt Tryz.prog 113 [.mrow r 0 m, .fn (.func 114) [] []] h n (fun d h' n' => d = .tuple [] ∧ n' = n ∧ ∃ l' : List Dat, l'.Perm l ∧ Sorted datC l' ∧ h' = upd h r (some ⟨63, l'.map Dat.d⟩)) := by
 have e : m = (l.map Dat.d).length := by simp [hm]
 rw [e]
 refine (sort_rct (ty := 63) srtU rfl rfl Tryz.isAgg63 Tryz.sizeOf63 (fun x y => datC (Dat.of x) (Dat.of y)) (by kernel_rfl) hr Zmf rfl (by simp; omega) (fun x hx y hy => ?_) ⟨fun x _ => ?_, fun x _ y _ z _ => ?_, fun x _ y _ z _ => ?_⟩).mono ?_
 ·
  have := ucmpd_ct (Dat.of x) (Dat.of y)
  rw [Zfw hx, Zfw hy] at this
  exact this
 ·
  have := cm_dat.self (Dat.of x); omega
 ·
  intro a b; exact cm_dat.lt_le a (by omega)
 ·
  intro a b
  have h1 := cm_dat.anti (Dat.of x) (Dat.of y); have h2 := cm_dat.anti (Dat.of y) (Dat.of z); have h3 := cm_dat.anti (Dat.of x) (Dat.of z)
  have := cm_dat.tr (Dat.of z) (Dat.of y) (Dat.of x) (by omega) (by omega)
  omega
 ·
  rintro d h' n' ⟨rfl, rfl, rows', hp, hs, rfl⟩
  have hback : (rows'.map Dat.of).map Dat.d = rows' := by
   rw [List.map_map]
   conv => rhs; rw [← List.map_id rows']
   exact List.map_congr_left fun x hx => Zfw (hp.mem_iff.1 hx)
  refine ⟨rfl, rfl, rows'.map Dat.of, ?_, ?_, by rw [hback]⟩
  ·
   have := hp.map Dat.of
   rwa [Zpd Zux] at this
  ·
   unfold Sorted
   rw [List.pairwise_map]
   refine hs.imp fun {x y} h => ?_
   have h : ¬ datC (Dat.of y) (Dat.of x) < 0 := h
   have := cm_dat.anti (Dat.of x) (Dat.of y)
   omega
theorem Ysa {x y : Dat} (h : ¬x.t = y.t ∨ ¬x.n = y.n ∨ ¬x.m = y.m) : x ≠ y := by
 rintro rfl
 simp at h
theorem bo115 : Zea Tryz.prog 115 = true := by kernel_rfl
theorem Zuz (l : List Dat) (m : Nat) (h : H) (n r : Nat) (hm : m = l.length) (hl : l.length ≤ 1000000) (hr : h r = some ⟨63, l.map Dat.d⟩) : RCt Tryz.prog 115 [.mrow r 0 m] h n (fun d h' n' => d = .mrow r 0 (dpF l).length ∧ h' = upd h r (some ⟨63, (dpF l).map Dat.d⟩) ∧ n ≤ n') := by
 refine Zmb Tryz.func115 rfl bo115 (by simp [Tryz.f115]) (fun hnone => ?_)
 unfold Tryz.f115
 have ff := True.intro
 subst hm
 have ff := And.intro @hr ff
 refine stp Lun ?_
 refine Zaa ?_
 refine stp Lun ?_
 refine cd (fun c1 => ?_) (fun c1 => ?_)
 ·
  refine stp Lun ?_
  refine Zba ?_
  exact Zuk (upd h r (some ⟨63, (dpF l).map Dat.d⟩)) (hr := by (try simp only [go_sem, ff]); all_goals (rw [Znp (by intro i h1 h2; omega)]; first | exact ⟨rfl, by omega⟩ | exact ⟨rfl, rfl, by omega⟩ | omega)) (hh := by rw [Znp (by intro i h1 h2; omega)]; intro q; left; unfold upd; split; rename_i e; subst e; exact hr.symm; rfl)
 ·
  refine dw_skip ?_
  show DW _ _ _ _ _
  refine Zaa ?_
  refine stp Lun ?_
  refine Zda ?_
  refine lph (α := (Nat) × Nat) [0] (fun ⟨k, nx⟩ => (k ≤ l.length) ∧ (1 ≤ k) ∧ (n ≤ nx) ∧ (∀ i, 0 < i → i < k → l[i]! ≠ l[i - 1]!) ∧ True) (fun ⟨k, nx⟩ => l.length - k) (fun ⟨k, nx⟩ => [(3, .i k)]) (fun ⟨k, nx⟩ => h) (fun ⟨k, nx⟩ => nx) (1, _) (hA := ⟨(by first | (omega) | (dsimp only; omega)), (by first | (omega) | (dsimp only; omega)), iv, (by first | (intro i h1 h2; omega) | (dsimp only; intro i h1 h2; omega)), trivial⟩) (round := ?_)
  rintro ⟨k, nx⟩ ⟨hk, hk1, hn, hv, -⟩
  show DW _ _ _ _ { n := _, t := tab _, h := _, nx := _, e := _ }
  simp only [List.cons_append, List.nil_append]
  refine Zaa ?_
  refine stp Lun ?_
  refine cd (fun c2 => ?_) (fun c2 => ?_)
  ·
   have hk2 : k < l.length := by omega
   have hk3 : k - 1 < l.length := by omega
   have e1 : ((k:Int) - 1).toNat = k - 1 := by omega
   have ff := And.intro (Zkc hk2) (And.intro (Zkc hk3) (And.intro @e1 ff))
   refine dw_skip ?_
   show DW _ _ _ _ _
   refine Zaa ?_
   refine Zda ?_
   refine stp Lun ?_
   refine cd (fun c3 => ?_) (fun c3 => ?_)
   ·
    have heq : ¬ (k = 0 ∨ l[k]! ≠ l[k - 1]!) := by rintro (q | q); omega; exact q (Zgw c3)
    have hcp : Zgl l (k + 1) = l.take k := by rw [Zl1 heq, Zew k (by omega) hv]
    have hcr : dpR l (k + 1) = l.map Dat.d := by rw [Zr3 heq, dpR_same (by omega) hv]
    have hcl : (l.take k).length = k := by rw [List.length_take]; omega
    refine stp Lun ?_
    refine Zaa ?_
    refine stp Lun ?_
    refine Zda ?_
    have ff := And.intro @hcp (And.intro @hcr (And.intro @hcl ff))
    refine lph (α := (Nat) × Nat) [0, 4] (fun ⟨k2, nx⟩ => (k + k2 ≤ l.length) ∧ (1 ≤ k2) ∧ (n ≤ nx) ∧ ((Zgl l (k + k2)).length < k + k2) ∧ True) (fun ⟨k2, nx⟩ => l.length - k - k2) (fun ⟨k2, nx⟩ => [(3, .i (Zgl l (k + k2)).length), (5, .i k2)]) (fun ⟨k2, nx⟩ => upd h r (some ⟨63, dpR l (k + k2)⟩)) (fun ⟨k2, nx⟩ => nx) (1, _) (hA := ⟨(by first | (omega) | (dsimp only; omega)), iv, iv, (by first | (rw [hcp, hcl]; omega) | (dsimp only; rw [hcp, hcl]; omega)), trivial⟩) (round := ?_) (hhh := by intro q; left; dsimp only; rw [hcr]; unfold upd; split; rename_i e; subst e; exact hr.symm; rfl)
    rintro ⟨k2, nx⟩ ⟨hk2b, hk21, hn2, hcl2, -⟩
    show DW _ _ _ _ { n := _, t := tab _, h := _, nx := _, e := _ }
    simp only [List.cons_append, List.nil_append]
    refine Zaa ?_
    refine stp Lun ?_
    refine cd (fun c4 => ?_) (fun c4 => ?_)
    ·
     have hj : k + k2 < l.length := by omega
     have hcl := Zm1 (l := l) (k := k + k2) (by omega)
     have e1 : ((k2:Int) - 1).toNat = k2 - 1 := by omega
     have e2 : k + (k2 - 1) = k + k2 - 1 := by omega
     have ga := Yna (l := l) (k := k + k2) (i := k + k2) (by omega) hj
     have gb := Yna (l := l) (k := k + k2) (i := k + k2 - 1) (by omega) (by omega)
     have gc := Yna (l := l) (k := k + k2) (i := (Zgl l (k + k2)).length) (Nat.le_refl _) (by omega)
     have ff := And.intro @e1 (And.intro @e2 (And.intro @ga (And.intro @gb (And.intro @gc (And.intro @hcl ff)))))
     refine dw_skip ?_
     show DW _ _ _ _ _
     refine Zaa ?_
     refine Zda ?_
     refine stp Lun ?_
     refine cd (fun c5 => ?_) (fun c5 => ?_)
     ·
      refine stp Lun ?_
      refine rgn Lun ?_
      show DW _ _ _ _ _
      refine rgn Lun ?_
      show ∃ _, _
      have hst : k + k2 = 0 ∨ l[k + k2]! ≠ l[k + k2 - 1]! := .inr (Ysa c5)
      have hs1 := dpR_set hst hj
      have hs2 : Zgl l (k + (k2 + 1)) = Zgl l (k + k2) ++ [l[k + k2]!] := Zrr hst
      have hs3 : dpR l (k + (k2 + 1)) = dpR l (k + k2 + 1) := rfl
      have hs4 : (Zgl l (k + (k2 + 1))).length = (Zgl l (k + k2)).length + 1 := by rw [hs2]; simp
      have ff := And.intro hs1 (And.intro hs3 (And.intro hs4 ff))
      refine rnd (k2 + 1, _) (h1 := ⟨iv, iv, iv, (by (try dsimp only); rw [show k + (k2 + 1) = k + k2 + 1 from by omega]; first | (rw [Zrr hst, List.length_append, List.length_singleton]; omega) | (rw [Zl1 hst]; omega)), trivial⟩) (h5 := ?_)
      intro q; left; simp only [upd]; split <;> simp_all
     ·
      refine dw_skip ?_
      show DW _ _ _ _ _
      refine rgn Lun ?_
      show ∃ _, _
      have hst : ¬ (k + k2 = 0 ∨ l[k + k2]! ≠ l[k + k2 - 1]!) := by rintro (q | q); omega; exact q (Zgw (by grind))
      have hs3 : dpR l (k + (k2 + 1)) = dpR l (k + k2) := Zr3 hst
      have hs4 : Zgl l (k + (k2 + 1)) = Zgl l (k + k2) := Zl1 hst
      have ff := And.intro hs3 (And.intro hs4 ff)
      refine rnd (k2 + 1, _) (h1 := ⟨iv, iv, iv, (by (try dsimp only); rw [show k + (k2 + 1) = k + k2 + 1 from by omega]; first | (rw [Zrr hst, List.length_append, List.length_singleton]; omega) | (rw [Zl1 hst]; omega)), trivial⟩) (h5 := ?_)
      intro q; left; simp only [upd]; split <;> simp_all
    ·
     have e9 : k + k2 = l.length := by omega
     have hcl := Zm1 (l := l) (k := l.length) (Nat.le_refl _)
     have hcq := Zq3 l l.length
     have ff := And.intro @e9 (And.intro @hcl ff)
     refine Zja ?_
     show DW _ _ _ _ _
     refine Zaa (Zeu ?_)
     refine Ztl (C := Lun) 3 (by omega) (Zub rfl) rfl rfl (by kernel_rfl) (by kernel_rfl) (by kernel_rfl) (by simp only [List.drop_succ_cons, List.drop_zero, List.take_succ_cons, List.take_zero, S.put, Nat.sub_self, go_sem, ff]; exact rfl) ?_ (by rfl) (by simp only [go_sem, ff]; exact rfl) (by simp only [go_sem, ff]; exact rfl) (by rw [Zm1 (by omega)]; omega) ?_
     ·
      try simp only [go_sem, ff]
      all_goals exact ok0
     refine Zsl (C := Lun) (by first | decide | simp) (by simp only [List.drop_succ_cons, List.drop_zero, List.take_succ_cons, List.take_zero, S.put, Nat.sub_self, go_sem, ff]; exact rfl) ?_ rfl ?_
     ·
      try simp only [go_sem, ff]
      all_goals exact ok0
     try simp only [Zna]
     refine stp Lun ?_
     refine Zba ?_
     exact Zuk (upd h r (some ⟨63, (dpF l).map Dat.d⟩)) (hr := by (try simp only [go_sem, ff]); all_goals (first | omega | exact ⟨by simp_all [dpF], by omega⟩ | exact ⟨by simp_all [dpF], rfl, by omega⟩)) (hh := by intro q; left; simp only [upd]; split <;> simp_all [dpR_take, dpF])
   ·
    refine dw_skip ?_
    show DW _ _ _ _ _
    refine rgn Lun ?_
    show ∃ _, _
    exact rnd (k + 1, _) (h1 := ⟨iv, iv, iv, (by (try dsimp only); intro i h1 h2; by_cases e : i = k; subst e; exact Ysa (by grind); exact hv i h1 (by omega)), trivial⟩)
  ·
   have e9 : k = l.length := by omega
   subst e9
   refine Zja ?_
   show DW _ _ _ _ _
   refine stp Lun ?_
   refine Zba ?_
   exact Zuk (upd h r (some ⟨63, (dpF l).map Dat.d⟩)) (hr := by (try simp only [go_sem, ff]); all_goals (rw [Znp hv]; first | exact ⟨rfl, by omega⟩ | exact ⟨rfl, rfl, by omega⟩ | omega)) (hh := by rw [Znp hv]; intro q; left; unfold upd; split; rename_i e; subst e; exact hr.symm; rfl)
set_option maxRecDepth 10000
theorem Zj3 {q : Sgd → Bool} {p : List PS} : ∀ n k, p.length - k ≤ n → firstAt q (lP p) k = firstAt (fun x => q x.2) p k := by
 intro n
 induction n with
 | zero => intro k h; rw [Zgd q, Zgd (fun x : PS => q x.2), if_neg (by rw [Zse]; omega), if_neg (by omega)]
 | succ n ih =>
  intro k h
  rw [Zgd q, Zgd (fun x : PS => q x.2), Zse]
  by_cases hk : k < p.length
  ·
   rw [if_pos hk, if_pos hk, Zu5 hk, ih (k + 1) (by omega)]
  ·
   rw [if_neg hk, if_neg hk]
theorem Zz5 {q : Sgd → Bool} {p : List PS} (h : ¬ firstAt q (lP p) 0 = -1) : ∃ j : Nat, firstAt q (lP p) 0 = (j : Int) ∧ j < p.length ∧ q p[j]!.2 = true ∧ ∀ i, i < j → q p[i]!.2 = false := by
 rw [Zj3 _ 0 (Nat.le_refl _)] at h ⊢
 rcases Zhf (fun x : PS => q x.2) p _ 0 (Nat.le_refl _) with ⟨g1, _⟩ | ⟨j, g1, _, g3, g4, g5⟩
 ·
  exact absurd g1 h
 ·
  exact ⟨j, g1, g3, g4, fun i hi => g5 i (Nat.zero_le _) hi⟩
theorem Za6 {q : Sgd → Bool} {p : List PS} (h : firstAt q (lP p) 0 = -1) : p.filter (fun x => !q x.2) = p := by
 rw [Zj3 _ 0 (Nat.le_refl _)] at h
 rcases Zhf (fun x : PS => q x.2) p _ 0 (Nat.le_refl _) with ⟨_, g2⟩ | ⟨j, g1, _, g3, g4, g5⟩
 ·
  refine List.filter_eq_self.2 fun x hx => ?_
  obtain ⟨i, hi, rfl⟩ := mem_ix.1 hx
  have : q p[i]!.2 = false := g2 i (Nat.zero_le _) hi
  rw [this]; rfl
 ·
  rw [h] at g1; omega
theorem Zbh {p : List PS} {k : Nat} (h : k < p.length) : p[k]! ∈ p := mem_ix.2 ⟨k, h, rfl⟩
theorem bo122 : Zea Tryz.prog 122 = true := by kernel_rfl
theorem udelf_ct (p : List PS) (t : RSet) (m : Nat) (h : H) (n rs : Nat) (hm : m = p.length) (hl : p.length ≤ 1000000) (hr : h rs = some ⟨52, p.map rowP⟩) (hp : ∀ x ∈ p, Zlo 63 h x ∧ x.1 ≠ rs) : RCt Tryz.prog 122 [.mrow rs 0 m, .fn (.func 123) [] [.eptr t.d]] h n (fun d h' n' => d = .mrow rs 0 (p.filter (fun x : PS => !isNm t.name x.2)).length ∧ h' = upd h rs (some ⟨52, (p.filter (fun x : PS => !isNm t.name x.2)).map rowP⟩) ∧ n ≤ n') := by
 refine Zmb Tryz.func122 rfl bo122 (by simp [Tryz.f122]) (fun hnone => ?_)
 unfold Tryz.f122
 have ff := True.intro
 subst hm
 have hsn := Zyw hr fun x hx => (hp x hx).1
 have hrn : rs < n := by rcases Nat.lt_or_ge rs n with q | q; exact q; rw [hnone rs q] at hr; cases hr
 have hpn : ∀ x ∈ p, x.1 < n := fun x hx => by rcases Nat.lt_or_ge x.1 n with q | q; exact q; have := (hp x hx).1.1; rw [hnone x.1 q] at this; cases this
 have ff := And.intro @hr ff
 refine stp Lun ?_
 refine sgq ?_
 refine gpure Lun 2 4 (hct := uixNa_ct (lP p) (by rw [Zse]; exact hl) t) (hso := ?_) (hz := ?_) (hk := ?_)
 ·
  intro d hd
  simp only [List.nil_append, List.append_nil, List.mem_cons, List.not_mem_nil, or_false] at hd
  rcases hd with rfl | rfl
  ·
   exact hsn.2
  ·
   refine ⟨fun c hc => by simp at hc, fun c hc => ?_⟩; rw [List.mem_singleton] at hc; subst hc; simp [Zra, D.nr, nrs, Zmf, RSet.d]
 ·
  simp only [List.nil_append, List.append_nil, List.map_cons, List.map_nil]
  rw [hsn.1]
  simp [Zr7, Zrl, wk, wks, RSet.d, Zxg]
 refine Zle Lun ?_
 try simp only [Zna]
 refine Zaa ?_
 refine stp Lun ?_
 refine cd (fun c1 => ?_) (fun c1 => ?_) (hp := rfl) (hq := rfl)
 ·
  have hfil := Za6 (by simpa using c1)
  refine stp Lun ?_
  refine Zba ?_
  exact Zuk (upd h rs (some ⟨52, (p.filter (fun x : PS => !isNm t.name x.2)).map rowP⟩)) (hr := by (try simp only [go_sem, ff]); all_goals (rw [hfil]; first | exact ⟨rfl, rfl, by omega⟩ | exact ⟨rfl, by omega⟩)) (hh := by rw [hfil]; intro q; left; unfold upd; split; rename_i e; subst e; exact hr.symm; rfl)
 ·
  obtain ⟨j, g1, g3, g4, g5⟩ := Zz5 (by simpa using c1)
  have gy := kr_all (g := rowP) (keep := (fun x : PS => !isNm t.name x.2)) (l := p) (k := j) (by omega) (fun i hi => by show (!isNm t.name p[i]!.2) = true; rw [g5 i hi]; rfl)
  have gn := kr_no (g := rowP) (keep := (fun x : PS => !isNm t.name x.2)) g3 (by show (!isNm t.name p[j]!.2) = false; rw [g4]; rfl)
  have hkn : Zhg (fun x : PS => !isNm t.name x.2) p (j + 1) = j := by rw [gn.1, gy.1]
  have hkr : Zsd rowP (fun x : PS => !isNm t.name x.2) p (j + 1) = p.map rowP := by rw [gn.2, gy.2]
  refine dw_skip ?_
  show DW _ _ _ _ _
  refine Zaa ?_
  refine stp Lun ?_
  refine Zda ?_
  have ff := And.intro @hkn (And.intro @g1 ff)
  refine lph (α := (Nat) × Nat) [0, 1] (fun ⟨k, nx⟩ => (k ≤ p.length) ∧ (n ≤ nx) ∧ True) (fun ⟨k, nx⟩ => p.length - k) (fun ⟨k, nx⟩ => [(5, .i (Zhg (fun x : PS => !isNm t.name x.2) p k)), (6, .i k)]) (fun ⟨k, nx⟩ => upd h rs (some ⟨52, Zsd rowP (fun x : PS => !isNm t.name x.2) p k⟩)) (fun ⟨k, nx⟩ => nx) (j + 1, _) (hA := ⟨iv, iv, trivial⟩) (round := ?_) (hhh := by intro q; left; dsimp only; rw [hkr]; unfold upd; split; rename_i e; subst e; exact hr.symm; rfl)
  rintro ⟨k, nx⟩ ⟨hk, hx, -⟩
  show DW _ _ _ _ { n := _, t := tab _, h := _, nx := _, e := _ }
  simp only [List.cons_append, List.nil_append]
  refine Zaa ?_
  refine stp Lun ?_
  refine cd (fun c2 => ?_) (fun c2 => ?_) (hp := rfl) (hq := rfl)
  ·
   have hk2 : k < p.length := by simpa [Zeo hk] using c2
   have hle := Zri (fun x : PS => !isNm t.name x.2) p k
   have hat : (Zsd rowP (fun x : PS => !isNm t.name x.2) p k).getD k [] = [.v (.string (bs p[k]!.2.set.name)), .i p[k]!.2.set.ty, .i p[k]!.2.set.life, .mrow p[k]!.1 0 p[k]!.2.set.data.length, .list true []] := kr_at hk2
   have hlen : (Zsd rowP (fun x : PS => !isNm t.name x.2) p k).length = p.length := Zeo (by omega)
   have hg5 : ((Zsd rowP (fun x : PS => !isNm t.name x.2) p k).getD (Zhg (fun x : PS => !isNm t.name x.2) p k) []).length = 5 := kr_row (fun _ => rfl) (by omega)
   have zrs_nx8 : (rs = nx + 8) = False := eq_false (by omega)
   have ynx8_rs : (nx + 8 = rs) = False := eq_false (by omega)
   have ff := And.intro @hat (And.intro @hlen (And.intro @hg5 (And.intro @zrs_nx8 (And.intro @ynx8_rs ff))))
   refine dw_skip ?_
   show DW _ _ _ _ _
   refine Zaa ?_
   refine Zda ?_
   refine stp Lun ?_
   refine sgq ?_
   have hin := Zbh hk2
   have hq1 := hp _ hin
   have hq2 := hpn _ hin
   refine gpure Lun 2 4 (hct := Zaq p[k]!.2 t) (hso := ?_) (hz := ?_) (hk := ?_)
   ·
    intro d hd
    simp only [List.nil_append, List.cons_append, List.mem_cons, List.not_mem_nil, or_false] at hd
    rcases hd with rfl | rfl
    ·
     refine (Zp2 (td := 63) (x := p[k]!) ⟨?_, hq1.1.2⟩).2; simp only [upd]; (repeat rw [if_neg (by omega)]); exact hq1.1.1
    ·
     simp [Zra, D.nr, nrs, Zmf, RSet.d]
   ·
    simp only [List.nil_append, List.cons_append, List.map_cons, List.map_nil]
    refine congr (congrArg List.cons ((Zp2 (td := 63) (x := p[k]!) ⟨?_, hq1.1.2⟩).1)) ?_
    ·
     simp only [upd]; (repeat rw [if_neg (by omega)]); exact hq1.1.1
    ·
     simp [Zrl, wk, wks, RSet.d, Zxg]
   refine Zle Lun ?_
   try simp only [Zna]
   refine cd (fun c3 => ?_) (fun c3 => ?_)
   ·
    refine stp Lun ?_
    refine rgn Lun ?_
    show DW _ _ _ _ _
    refine rgn Lun ?_
    show ∃ _, _
    have hst := kr_yes (g := rowP) (keep := (fun x : PS => !isNm t.name x.2)) hk2 (by simpa using c3)
    have ff := And.intro hst.1 (And.intro hst.2 ff)
    refine rnd (k + 1, _) (h1 := ⟨iv, iv, trivial⟩) (h5 := ?_)
    intro q
    by_cases e4 : q = nx + 8
    ·
     right; subst e4; simp only [upd]; (repeat rw [if_neg (by omega)]); exact hnone _ (by omega)
    ·
     left; simp only [upd]; by_cases e5 : q = rs
     ·
      subst e5; simp only [if_true, if_neg e4]; first | (rw [hst.2]; done) | (rw [List.drop_of_length_le (by omega), ← hst.2]; rfl)
     ·
      simp only [if_neg e4, if_neg e5]
   ·
    refine dw_skip ?_
    show DW _ _ _ _ _
    refine rgn Lun ?_
    show ∃ _, _
    have hst := kr_no (g := rowP) (keep := (fun x : PS => !isNm t.name x.2)) hk2 (by simpa using c3)
    have ff := And.intro hst.1 (And.intro hst.2 ff)
    refine rnd (k + 1, _) (h1 := ⟨iv, iv, trivial⟩) (h5 := ?_)
    intro q
    by_cases e4 : q = nx + 8
    ·
     right; subst e4; simp only [upd]; (repeat rw [if_neg (by omega)]); exact hnone _ (by omega)
    ·
     left; simp only [upd]; by_cases e5 : q = rs
     ·
      subst e5; simp only [if_true, if_neg e4]; first | (rw [hst.2]; done) | (rw [List.drop_of_length_le (by omega), ← hst.2]; rfl)
     ·
      simp only [if_neg e4, if_neg e5]
  ·
   have hk3 : k = p.length := by have : ¬ k < p.length := (by simpa using c2); omega
   subst hk3
   have hle := Zri (fun x : PS => !isNm t.name x.2) p p.length
   have hend := kr_end (g := rowP) (keep := (fun x : PS => !isNm t.name x.2)) (l := p)
   have hlen : (Zsd rowP (fun x : PS => !isNm t.name x.2) p p.length).length = p.length := Zeo (Nat.le_refl _)
   have ff := And.intro @hlen ff
   refine Zja ?_
   show DW _ _ _ _ _
   refine Zaa (Zeu ?_)
   refine Ztl (C := Lun) 3 (by omega) (Zub rfl) rfl rfl (by kernel_rfl) (by kernel_rfl) (by kernel_rfl) (by simp only [List.drop_succ_cons, List.drop_zero, List.take_succ_cons, List.take_zero, S.put, Nat.sub_self, go_sem, ff]; exact rfl) ?_ (by rfl) (by simp only [go_sem, ff]; exact rfl) (by simp only [go_sem, ff]; exact rfl) (by rw [Zeo (by omega)]; omega) ?_
   ·
    try simp only [go_sem, ff]
    all_goals exact ok0
   refine Zsl (C := Lun) (by first | decide | simp) (by simp only [List.drop_succ_cons, List.drop_zero, List.take_succ_cons, List.take_zero, S.put, Nat.sub_self, go_sem, ff]; exact rfl) ?_ rfl ?_
   ·
    try simp only [go_sem, ff]
    all_goals exact ok0
   try simp only [Zna]
   refine stp Lun ?_
   refine Zba ?_
   exact Zuk (upd h rs (some ⟨52, (p.filter (fun x : PS => !isNm t.name x.2)).map rowP⟩)) (hr := by (try simp only [go_sem, ff]); all_goals (first | omega | exact ⟨by first | (rw [hend.2]; done) | (rw [hend.2]; congr 1; done) | (rw [hend.2]; congr 1; omega), rfl, by omega⟩ | exact ⟨by first | (rw [hend.2]; done) | (rw [hend.2]; congr 1; done) | (rw [hend.2]; congr 1; omega), by omega⟩)) (hh := by rw [← hend.1]; intro q; left; simp only [upd]; split <;> simp_all)
theorem bo117 : Zea Tryz.prog 117 = true := by kernel_rfl
theorem udeld_ct (l : List Dat) (s : RSet) (m : Nat) (h : H) (n rs : Nat) (hm : m = l.length) (hl : l.length ≤ 1000000) (hs : s.data.length ≤ 1000000) (hr : h rs = some ⟨63, l.map Dat.d⟩) : RCt Tryz.prog 117 [.mrow rs 0 m, .fn (.func 118) [] [.eptr s.d]] h n (fun d h' n' => d = .mrow rs 0 (l.filter (fun x : Dat => !hasD s.data x)).length ∧ h' = upd h rs (some ⟨63, (l.filter (fun x : Dat => !hasD s.data x)).map Dat.d⟩) ∧ n ≤ n') := by
 refine Zmb Tryz.func117 rfl bo117 (by simp [Tryz.f117]) (fun hnone => ?_)
 unfold Tryz.f117
 have ff := True.intro
 subst hm
 have hsn := Zs7 hr
 have hrn : rs < n := by rcases Nat.lt_or_ge rs n with q | q; exact q; rw [hnone rs q] at hr; cases hr
 have ff := And.intro @hr ff
 refine stp Lun ?_
 refine sgq ?_
 refine gpure Lun 2 2 (hct := uixd_ct l s hl hs) (hso := ?_) (hz := ?_) (hk := ?_)
 ·
  intro d hd
  simp only [List.nil_append, List.append_nil, List.mem_cons, List.not_mem_nil, or_false] at hd
  rcases hd with rfl | rfl
  ·
   exact hsn.2
  ·
   refine ⟨fun c hc => by simp at hc, fun c hc => ?_⟩; rw [List.mem_singleton] at hc; subst hc; simp [Zra, D.nr, nrs, Zmf, RSet.d]
 ·
  simp only [List.nil_append, List.append_nil, List.map_cons, List.map_nil]
  rw [hsn.1]
  simp [Zr7, Zrl, wk, wks, RSet.d, Zxg]
 refine Zle Lun ?_
 try simp only [Zna]
 refine Zaa ?_
 refine stp Lun ?_
 refine cd (fun c1 => ?_) (fun c1 => ?_) (hp := rfl) (hq := rfl)
 ·
  have hfil := Zd1 (by simpa using c1)
  refine stp Lun ?_
  refine Zba ?_
  exact Zuk (upd h rs (some ⟨63, (l.filter (fun x : Dat => !hasD s.data x)).map Dat.d⟩)) (hr := by (try simp only [go_sem, ff]); all_goals (rw [hfil]; first | exact ⟨rfl, rfl, by omega⟩ | exact ⟨rfl, by omega⟩)) (hh := by rw [hfil]; intro q; left; unfold upd; split; rename_i e; subst e; exact hr.symm; rfl)
 ·
  obtain ⟨j, g1, g3, g4, g5⟩ := Zc1 (by simpa using c1)
  have gy := kr_all (g := Dat.d) (keep := (fun x : Dat => !hasD s.data x)) (l := l) (k := j) (by omega) (fun i hi => by show (!hasD s.data l[i]!) = true; rw [g5 i hi]; rfl)
  have gn := kr_no (g := Dat.d) (keep := (fun x : Dat => !hasD s.data x)) g3 (by show (!hasD s.data l[j]!) = false; rw [g4]; rfl)
  have hkn : Zhg (fun x : Dat => !hasD s.data x) l (j + 1) = j := by rw [gn.1, gy.1]
  have hkr : Zsd Dat.d (fun x : Dat => !hasD s.data x) l (j + 1) = l.map Dat.d := by rw [gn.2, gy.2]
  refine dw_skip ?_
  show DW _ _ _ _ _
  refine Zaa ?_
  refine stp Lun ?_
  refine Zda ?_
  have ff := And.intro @hkn (And.intro @g1 ff)
  refine lph (α := (Nat) × Nat) [0, 1] (fun ⟨k, nx⟩ => (k ≤ l.length) ∧ (n ≤ nx) ∧ True) (fun ⟨k, nx⟩ => l.length - k) (fun ⟨k, nx⟩ => [(5, .i (Zhg (fun x : Dat => !hasD s.data x) l k)), (6, .i k)]) (fun ⟨k, nx⟩ => upd h rs (some ⟨63, Zsd Dat.d (fun x : Dat => !hasD s.data x) l k⟩)) (fun ⟨k, nx⟩ => nx) (j + 1, _) (hA := ⟨iv, iv, trivial⟩) (round := ?_) (hhh := by intro q; left; dsimp only; rw [hkr]; unfold upd; split; rename_i e; subst e; exact hr.symm; rfl)
  rintro ⟨k, nx⟩ ⟨hk, hx, -⟩
  show DW _ _ _ _ { n := _, t := tab _, h := _, nx := _, e := _ }
  simp only [List.cons_append, List.nil_append]
  refine Zaa ?_
  refine stp Lun ?_
  refine cd (fun c2 => ?_) (fun c2 => ?_) (hp := rfl) (hq := rfl)
  ·
   have hk2 : k < l.length := by simpa [Zeo hk] using c2
   have hle := Zri (fun x : Dat => !hasD s.data x) l k
   have hat : (Zsd Dat.d (fun x : Dat => !hasD s.data x) l k).getD k [] = [.v (.string (bs l[k]!.t)), .i l[k]!.n, .i l[k]!.m] := kr_at hk2
   have hlen : (Zsd Dat.d (fun x : Dat => !hasD s.data x) l k).length = l.length := Zeo (by omega)
   have hg5 : ((Zsd Dat.d (fun x : Dat => !hasD s.data x) l k).getD (Zhg (fun x : Dat => !hasD s.data x) l k) []).length = 3 := kr_row (fun _ => rfl) (by omega)
   have zrs_nx8 : (rs = nx + 8) = False := eq_false (by omega)
   have ynx8_rs : (nx + 8 = rs) = False := eq_false (by omega)
   have ff := And.intro @hat (And.intro @hlen (And.intro @hg5 (And.intro @zrs_nx8 (And.intro @ynx8_rs ff))))
   refine dw_skip ?_
   show DW _ _ _ _ _
   refine Zaa ?_
   refine Zda ?_
   refine stp Lun ?_
   refine sgq ?_
   refine gpure Lun 2 2 (hct := Zxp l[k]! s hs) (hso := ?_) (hz := ?_) (hk := ?_)
   ·
    intro d hd
    simp only [List.nil_append, List.cons_append, List.mem_cons, List.not_mem_nil, or_false] at hd
    rcases hd with rfl | rfl
    ·
     simp [Zra, D.nr, Dat.d]
    ·
     simp [Zra, D.nr, nrs, Zmf, RSet.d]
   ·
    simp [Zrl, Go.DL.snap_agg, Go.DL.snap_v, wk, wks, RSet.d, Dat.d, Zxg]
   refine Zle Lun ?_
   try simp only [Zna]
   refine cd (fun c3 => ?_) (fun c3 => ?_)
   ·
    refine stp Lun ?_
    refine rgn Lun ?_
    show DW _ _ _ _ _
    refine rgn Lun ?_
    show ∃ _, _
    have hst := kr_yes (g := Dat.d) (keep := (fun x : Dat => !hasD s.data x)) hk2 (by simpa using c3)
    have ff := And.intro hst.1 (And.intro hst.2 ff)
    refine rnd (k + 1, _) (h1 := ⟨iv, iv, trivial⟩) (h5 := ?_)
    intro q
    by_cases e4 : q = nx + 8
    ·
     right; subst e4; simp only [upd]; (repeat rw [if_neg (by omega)]); exact hnone _ (by omega)
    ·
     left; simp only [upd]; by_cases e5 : q = rs
     ·
      subst e5; simp only [if_true, if_neg e4]; first | (rw [hst.2]; done) | (rw [List.drop_of_length_le (by omega), ← hst.2]; rfl)
     ·
      simp only [if_neg e4, if_neg e5]
   ·
    refine dw_skip ?_
    show DW _ _ _ _ _
    refine rgn Lun ?_
    show ∃ _, _
    have hst := kr_no (g := Dat.d) (keep := (fun x : Dat => !hasD s.data x)) hk2 (by simpa using c3)
    have ff := And.intro hst.1 (And.intro hst.2 ff)
    refine rnd (k + 1, _) (h1 := ⟨iv, iv, trivial⟩) (h5 := ?_)
    intro q
    by_cases e4 : q = nx + 8
    ·
     right; subst e4; simp only [upd]; (repeat rw [if_neg (by omega)]); exact hnone _ (by omega)
    ·
     left; simp only [upd]; by_cases e5 : q = rs
     ·
      subst e5; simp only [if_true, if_neg e4]; first | (rw [hst.2]; done) | (rw [List.drop_of_length_le (by omega), ← hst.2]; rfl)
     ·
      simp only [if_neg e4, if_neg e5]
  ·
   have hk3 : k = l.length := by have : ¬ k < l.length := (by simpa using c2); omega
   subst hk3
   have hle := Zri (fun x : Dat => !hasD s.data x) l l.length
   have hend := kr_end (g := Dat.d) (keep := (fun x : Dat => !hasD s.data x)) (l := l)
   have hlen : (Zsd Dat.d (fun x : Dat => !hasD s.data x) l l.length).length = l.length := Zeo (Nat.le_refl _)
   have ff := And.intro @hlen ff
   refine Zja ?_
   show DW _ _ _ _ _
   refine Zaa (Zeu ?_)
   refine Ztl (C := Lun) 3 (by omega) (Zub rfl) rfl rfl (by kernel_rfl) (by kernel_rfl) (by kernel_rfl) (by simp only [List.drop_succ_cons, List.drop_zero, List.take_succ_cons, List.take_zero, S.put, Nat.sub_self, go_sem, ff]; exact rfl) ?_ (by rfl) (by simp only [go_sem, ff]; exact rfl) (by simp only [go_sem, ff]; exact rfl) (by rw [Zeo (by omega)]; omega) ?_
   ·
    try simp only [go_sem, ff]
    all_goals exact ok0
   refine Zsl (C := Lun) (by first | decide | simp) (by simp only [List.drop_succ_cons, List.drop_zero, List.take_succ_cons, List.take_zero, S.put, Nat.sub_self, go_sem, ff]; exact rfl) ?_ rfl ?_
   ·
    try simp only [go_sem, ff]
    all_goals exact ok0
   try simp only [Zna]
   refine stp Lun ?_
   refine Zba ?_
   exact Zuk (upd h rs (some ⟨63, (l.filter (fun x : Dat => !hasD s.data x)).map Dat.d⟩)) (hr := by (try simp only [go_sem, ff]); all_goals (first | omega | exact ⟨by first | (rw [hend.2]; done) | (rw [hend.2]; congr 1; done) | (rw [hend.2]; congr 1; omega), rfl, by omega⟩ | exact ⟨by first | (rw [hend.2]; done) | (rw [hend.2]; congr 1; done) | (rw [hend.2]; congr 1; omega), by omega⟩)) (hh := by rw [← hend.1]; intro q; left; simp only [upd]; split <;> simp_all)
set_option maxRecDepth 10000
theorem bo109 : Zea Tryz.prog 109 = true := by kernel_rfl
theorem Zk2 (zc rs cc i : Nat) (a : Str) (p : List PS) (h : H) (n : Nat) (hz : ZM 24 52 63 zc rs a p h) (hcc : h cc = some ⟨102, [[.mptr zc 0 0]]⟩) (hl : p.length ≤ 100000) (hi : i < p.length) : RCt Tryz.prog 109 [.i i, .mptr cc 0 0] h n (fun d h' n' => d = .tuple [] ∧ StepR 24 52 63 zc a ((lP p).eraseIdx i) h h' n n') := by
 refine Zmb Tryz.func109 rfl bo109 (by simp [Tryz.f109]) (fun hnone => ?_)
 unfold Tryz.f109
 have ff := True.intro
 have hzz := hz.z
 have hzr := hz.r
 have hzn := hz.zr
 have hc1 : cc ≠ zc := fun e => by rw [e, hzz] at hcc; cases hcc
 have hc2 : cc ≠ rs := fun e => by rw [e, hzr] at hcc; cases hcc
 have hc3 : zc ≠ cc := fun e => hc1 e.symm
 have hc4 : rs ≠ cc := fun e => hc2 e.symm
 have hzn2 : rs ≠ zc := fun e => hzn e.symm
 have ff := And.intro @hzz (And.intro @hzr (And.intro @hzn (And.intro @hcc (And.intro @hc1 (And.intro @hc2 (And.intro @hc3 (And.intro @hc4 (And.intro @hzn2 ff))))))))
 refine dr1 Lun 8 11 [(0, 1)] (hct := by exact del_ct (p.map rowP) i p.length (i + 1) _ _ rs (by simp) (by simpa using hi) rfl (by simp; omega) (by simp only [go_sem, ff]) Zb4) (hkeep := ?_) (hk := ?_)
 ·
  rintro res h2 n2 ⟨rfl, rfl, a1⟩ q hq r hrr
  simp only [List.mem_singleton] at hq; subst hq
  simp only [go_sem, ff, sd, named, beq_iff_eq] at hrr ⊢; subst hrr; simp only [upd, if_neg hc2]
 rintro res h2 n2 ⟨rfl, rfl, a1⟩
 refine Zle Lun ?_
 try simp only [Zna]
 exact Zuk (_) (hh := fun _ => .inl rfl) (hr := by (try simp only [go_sem, ff]); all_goals ((try dsimp only at a1); rw [Zc9, show p.length - 1 = (p.eraseIdx i).length from by simp [List.length_eraseIdx, hi], ← lP_erase]; exact Zo2 hz (List.eraseIdx_sublist _ _) (by first | omega | (dsimp only; omega))))
theorem bo121 : Zea Tryz.prog 121 = true := by kernel_rfl
theorem uname_ct (t : RSet) (zc rs cc : Nat) (a : Str) (p : List PS) (h : H) (n : Nat) (hz : ZM 24 52 63 zc rs a p h) (hcc : h cc = some ⟨102, [[.mptr zc 0 0]]⟩) (hl : p.length ≤ 100000) : RCt Tryz.prog 121 [.agg t.d, .mptr cc 0 0] h n (fun d h' n' => d = .tuple [] ∧ StepR 24 52 63 zc a (lP (p.filter (fun x : PS => !isNm t.name x.2))) h h' n n') := by
 refine Zmb Tryz.func121 rfl bo121 (by simp [Tryz.f121]) (fun hnone => ?_)
 unfold Tryz.f121
 have ff := True.intro
 have hzz := hz.z
 have hzr := hz.r
 have hzn := hz.zr
 have hc1 : cc ≠ zc := fun e => by rw [e, hzz] at hcc; cases hcc
 have hc2 : cc ≠ rs := fun e => by rw [e, hzr] at hcc; cases hcc
 have hc3 : zc ≠ cc := fun e => hc1 e.symm
 have hc4 : rs ≠ cc := fun e => hc2 e.symm
 have hzn2 : rs ≠ zc := fun e => hzn e.symm
 have hrn : rs < n := by rcases Nat.lt_or_ge rs n with q | q; exact q; rw [hnone rs q] at hzr; cases hzr
 have hzcn : zc < n := by rcases Nat.lt_or_ge zc n with q | q; exact q; rw [hnone zc q] at hzz; cases hzz
 have hccn : cc < n := by rcases Nat.lt_or_ge cc n with q | q; exact q; rw [hnone cc q] at hcc; cases hcc
 have zn_rs : (n = rs) = False := eq_false (by omega)
 have yrs_n : (rs = n) = False := eq_false (by omega)
 have zn_zc : (n = zc) = False := eq_false (by omega)
 have yzc_n : (zc = n) = False := eq_false (by omega)
 have zn_cc : (n = cc) = False := eq_false (by omega)
 have ycc_n : (cc = n) = False := eq_false (by omega)
 have zrs_zc : (rs = zc) = False := eq_false (by omega)
 have yzc_rs : (zc = rs) = False := eq_false (by omega)
 have zrs_cc : (rs = cc) = False := eq_false (by omega)
 have ycc_rs : (cc = rs) = False := eq_false (by omega)
 have zzc_cc : (zc = cc) = False := eq_false (by omega)
 have ycc_zc : (cc = zc) = False := eq_false (by omega)
 have ff := And.intro @hzz (And.intro @hzr (And.intro @hzn (And.intro @hcc (And.intro @hc1 (And.intro @hc2 (And.intro @hc3 (And.intro @hc4 (And.intro @hzn2 (And.intro @zn_rs (And.intro @yrs_n (And.intro @zn_zc (And.intro @yzc_n (And.intro @zn_cc (And.intro @ycc_n (And.intro @zrs_zc (And.intro @yzc_rs (And.intro @zrs_cc (And.intro @ycc_rs (And.intro @zzc_cc (And.intro @ycc_zc ff))))))))))))))))))))
 refine stp Lun ?_
 refine Zsh 2 n ev ev (by simp [nrs, D.nr, Zmf]) ?_
 refine dr1 Lun 6 7 [(0, 1)] (hct := by exact udelf_ct p t p.length _ _ rs rfl (by omega) (by simp only [go_sem, ff]) (fun x hx => ⟨⟨by have := hz.ne x hx; simp only [upd]; (repeat rw [if_neg (by first | omega | (intro e; have := hz.d x hx; rw [e, hnone _ (Nat.le_refl _)] at this; cases this))]); exact hz.d x hx, hz.sig x hx⟩, (hz.ne x hx).2⟩)) (hkeep := ?_) (hk := ?_)
 ·
  rintro res h2 n2 ⟨rfl, rfl, a1⟩ q hq r hrr
  simp only [List.mem_singleton] at hq; subst hq
  simp only [go_sem, ff, sd, named, beq_iff_eq] at hrr ⊢; subst hrr; simp only [upd, if_neg hc2]
 rintro res h2 n2 ⟨rfl, rfl, a1⟩
 refine Zle Lun ?_
 try simp only [Zna]
 exact Zuk (upd (upd h rs (some ⟨52, (p.filter (fun x : PS => !isNm t.name x.2)).map rowP⟩)) zc (some ⟨24, [[.v (.string (bs a)), .mrow rs 0 (p.filter (fun x : PS => !isNm t.name x.2)).length]]⟩)) (hr := by (try simp only [go_sem, ff]); all_goals ((try dsimp only at a1); exact Zo2 hz List.filter_sublist (by first | omega | (dsimp only; omega)))) (hh := by intro q; simp only [upd]; by_cases e : q = n; right; subst e; (repeat rw [if_neg (by omega)]); exact hnone _ (Nat.le_refl _); left; (repeat (first | rfl | (split <;> first | rfl | omega))))
set_option maxRecDepth 10000
@[go_sem] theorem snapW_v9 {h : H} {x : Value} : Zre h (.v x) = .v x := rfl
@[go_sem] theorem snapOk_v9 {h : H} {x : Value} : Zra h 5 (.v x) = True := eq_true rfl
theorem Zzv {p : List PS} {q : Qst} (h : findOk (lP p) q = true) : findIx (lP p) q < p.length := by
 have := Ze1 h
 rwa [Zse] at this
theorem bo120 : Zea Tryz.prog 120 = true := by kernel_rfl
theorem uset_ct (t : RSet) (zc rs cc ce : Nat) (a : Str) (p : List PS) (h : H) (n : Nat) (hz : ZM 24 52 63 zc rs a p h) (hcc : h cc = some ⟨102, [[.mptr zc 0 0]]⟩) (hcd : h ce = some ⟨131, [[.fn (.func 109) [] [.mptr cc 0 0]]]⟩) (hl : p.length ≤ 100000) : RCt Tryz.prog 120 [.agg t.d, .mptr cc 0 0, .mptr ce 0 0] h n (fun d h' n' => d = .tuple [] ∧ StepR 24 52 63 zc a (setL (lP p) t) h h' n n') := by
 refine Zmb Tryz.func120 rfl bo120 (by simp [Tryz.f120]) (fun hnone => ?_)
 unfold Tryz.f120
 have ff := True.intro
 have hzz := hz.z
 have hzr := hz.r
 have hnn : h n = none := hnone _ (Nat.le_refl _)
 have hz2 := hz.fresh (b := some ⟨31, [t.d]⟩) hnn
 have lrs : rs < n := by rcases Nat.lt_or_ge rs n with q | q; exact q; rw [hnone rs q] at hzr; cases hzr
 have lzc : zc < n := by rcases Nat.lt_or_ge zc n with q | q; exact q; rw [hnone zc q] at hzz; cases hzz
 have lcc : cc < n := by rcases Nat.lt_or_ge cc n with q | q; exact q; rw [hnone cc q] at hcc; cases hcc
 have lce : ce < n := by rcases Nat.lt_or_ge ce n with q | q; exact q; rw [hnone ce q] at hcd; cases hcd
 have hn1 : (n = rs) = False := eq_false (by omega)
 have hn2 : (n = zc) = False := eq_false (by omega)
 have hn3 : (n = cc) = False := eq_false (by omega)
 have hn4 : (n = ce) = False := eq_false (by omega)
 have hm1 : (rs = n) = False := eq_false (by omega)
 have hm2 : (zc = n) = False := eq_false (by omega)
 have hm3 : (cc = n) = False := eq_false (by omega)
 have hm4 : (ce = n) = False := eq_false (by omega)
 have ff := And.intro @hzz (And.intro @hzr (And.intro @hcc (And.intro @hcd (And.intro @hn1 (And.intro @hn2 (And.intro @hn3 (And.intro @hn4 (And.intro @hm1 (And.intro @hm2 (And.intro @hm3 (And.intro @hm4 ff)))))))))))
 refine stp Lun ?_
 have hsw := hz2.snap
 have hsw1 : Zre (upd h n (some ⟨31, [[.v (.string (bs t.name)), .i t.ty, .i t.life, .list false (t.data.map Dat.d)]]⟩)) (.agg [.v (.string (bs a)), .mrow rs 0 p.length]) = .agg [.v (.string (bs a)), .list false ((lP p).map Sgd.d)] := hsw.1
 have ff := And.intro @hsw1 ff
 refine stp LunS ?_ (hok := by (try simp only [go_sem, ff]); all_goals (first | done | ((repeat' (with_reducible apply And.intro)) <;> first | exact Zsc ⟨a, lP p⟩ t.name t.ty (by rw [Zse]; omega) | (intros; exact Zsc ⟨a, lP p⟩ t.name t.ty (by rw [Zse]; omega)) | exact hsw.2 | (intros; exact hsw.2) | exact (fun row hrow c hc => by obtain ⟨x, hx, rfl⟩ := List.mem_map.1 hrow; exact (Zva (hz2.data x hx) 1).2 c hc) | (intros; exact (fun row hrow c hc => by obtain ⟨x, hx, rfl⟩ := List.mem_map.1 hrow; exact (Zva (hz2.data x hx) 1).2 c hc)) | rfl | skip)))
 refine stp Lun ?_
 refine cd (fun c1 => ?_) (fun c1 => ?_) (hp := rfl) (hq := rfl)
 ·
  have hf : findOk (lP p) ⟨t.name, t.ty⟩ = true := by simpa using c1
  have hi := Zzv hf
  refine Zv1 Lun 2 (hct := by exact Zk2 zc rs cc (findIx (lP p) ⟨t.name, t.ty⟩) a p _ _ hz2 (by simp only [go_sem, ff]) hl hi) (hk := ?_)
  rintro res h2 n2 ⟨rfl, hst⟩
  refine Zu1 Lun ?_
  exact Zuk (_) (hh := fun _ => .inl rfl) (hr := by (try simp only [go_sem, ff]); all_goals (first | (rw [setL, if_pos hf]; exact hst.of_fresh hnn (by first | omega | (dsimp only; omega)) (by first | omega | (dsimp only; omega))) | (rw [setL, if_neg (by rw [hf]; exact Bool.false_ne_true)]; exact (StepR.same hz2 (Nat.le_refl n)).of_fresh hnn (by omega) (by omega))))
 ·
  have hf : findOk (lP p) ⟨t.name, t.ty⟩ = false := by simpa using c1
  refine dw_skip ?_
  exact Zuk (_) (hh := fun _ => .inl rfl) (hr := by (try simp only [go_sem, ff]); all_goals (first | (rw [setL, if_pos hf]; exact hst.of_fresh hnn (by first | omega | (dsimp only; omega)) (by first | omega | (dsimp only; omega))) | (rw [setL, if_neg (by rw [hf]; exact Bool.false_ne_true)]; exact (StepR.same hz2 (Nat.le_refl n)).of_fresh hnn (by omega) (by omega))))
set_option maxRecDepth 10000
theorem bo116 : Zea Tryz.prog 116 = true := by kernel_rfl
theorem utake_ct (t : RSet) (zc rs cc ce : Nat) (a : Str) (p : List PS) (h : H) (n : Nat) (hz : ZM 24 52 63 zc rs a p h) (hcc : h cc = some ⟨102, [[.mptr zc 0 0]]⟩) (hcd : h ce = some ⟨131, [[.fn (.func 109) [] [.mptr cc 0 0]]]⟩) (hl : p.length ≤ 100000) (hdl : ∀ x ∈ p, x.2.set.data.length ≤ 100000) (htl : t.data.length ≤ 100000) : RCt Tryz.prog 116 [.agg t.d, .mptr cc 0 0, .mptr ce 0 0] h n (fun d h' n' => d = .tuple [] ∧ StepR 24 52 63 zc a (Zxu (lP p) t) h h' n n') := by
 refine Zmb Tryz.func116 rfl bo116 (by simp [Tryz.f116]) (fun hnone => ?_)
 unfold Tryz.f116
 have ff := True.intro
 have hzz := hz.z
 have hzr := hz.r
 have hnn : h n = none := hnone _ (Nat.le_refl _)
 have hz2 := hz.fresh (b := some ⟨31, [t.d]⟩) hnn
 have lrs : rs < n := by rcases Nat.lt_or_ge rs n with q | q; exact q; rw [hnone rs q] at hzr; cases hzr
 have lzc : zc < n := by rcases Nat.lt_or_ge zc n with q | q; exact q; rw [hnone zc q] at hzz; cases hzz
 have lcc : cc < n := by rcases Nat.lt_or_ge cc n with q | q; exact q; rw [hnone cc q] at hcc; cases hcc
 have lce : ce < n := by rcases Nat.lt_or_ge ce n with q | q; exact q; rw [hnone ce q] at hcd; cases hcd
 have hn1 : (n = rs) = False := eq_false (by omega)
 have hn2 : (n = zc) = False := eq_false (by omega)
 have hn3 : (n = cc) = False := eq_false (by omega)
 have hn4 : (n = ce) = False := eq_false (by omega)
 have hm1 : (rs = n) = False := eq_false (by omega)
 have hm2 : (zc = n) = False := eq_false (by omega)
 have hm3 : (cc = n) = False := eq_false (by omega)
 have hm4 : (ce = n) = False := eq_false (by omega)
 have hc1 : (cc = rs) = False := eq_false fun e => by rw [e, hzr] at hcc; cases hcc
 have hc2 : (ce = rs) = False := eq_false fun e => by rw [e, hzr] at hcd; cases hcd
 have hc3 : (zc = rs) = False := eq_false hz.zr
 have ff := And.intro @hzz (And.intro @hzr (And.intro @hcc (And.intro @hcd (And.intro @hc1 (And.intro @hc2 (And.intro @hc3 (And.intro @hn1 (And.intro @hn2 (And.intro @hn3 (And.intro @hn4 (And.intro @hm1 (And.intro @hm2 (And.intro @hm3 (And.intro @hm4 ff))))))))))))))
 refine stp Lun ?_
 have hsw := hz2.snap
 have hsw1 : Zre (upd h n (some ⟨31, [[.v (.string (bs t.name)), .i t.ty, .i t.life, .list false (t.data.map Dat.d)]]⟩)) (.agg [.v (.string (bs a)), .mrow rs 0 p.length]) = .agg [.v (.string (bs a)), .list false ((lP p).map Sgd.d)] := hsw.1
 have ff := And.intro @hsw1 ff
 refine stp LunS ?_ (hok := by (try simp only [go_sem, ff]); all_goals (first | done | ((repeat' (with_reducible apply And.intro)) <;> first | exact Zsc ⟨a, lP p⟩ t.name t.ty (by rw [Zse]; omega) | (intros; exact Zsc ⟨a, lP p⟩ t.name t.ty (by rw [Zse]; omega)) | exact hsw.2 | (intros; exact hsw.2) | exact (fun row hrow c hc => by obtain ⟨x, hx, rfl⟩ := List.mem_map.1 hrow; exact (Zva (hz2.data x hx) 1).2 c hc) | (intros; exact (fun row hrow c hc => by obtain ⟨x, hx, rfl⟩ := List.mem_map.1 hrow; exact (Zva (hz2.data x hx) 1).2 c hc)) | rfl | skip)))
 refine Zaa ?_
 refine stp Lun ?_
 refine cd (fun c1 => ?_) (fun c1 => ?_) (hp := rfl) (hq := rfl)
 ·
  have hf : findOk (lP p) ⟨t.name, t.ty⟩ = false := by simpa using c1
  refine Zba ?_
  exact Zuk (_) (hh := fun _ => .inl rfl) (hr := by (try simp only [go_sem, ff]); all_goals (first | (rw [Zbn hf]; exact (StepR.same hz2 (Nat.le_refl n)).of_fresh hnn (by omega) (by omega)) | (rw [← Zdn hf hix hi (by simpa using c2) _]; exact hst.after (fun q b e1 e2 e3 e4 => by have q1 : q ≠ rs := (fun e => e2 (by rw [e, hz.r] at e1; cases e1; rfl)); have q2 : q ≠ p[ix]!.1 := (fun e => e3 (by rw [e, hz.d _ (Zbh hi)] at e1; cases e1; rfl)); have q3 : q ≠ n := (fun e => by rw [e, hnn] at e1; cases e1); simp only [upd, if_neg q1, if_neg q2, if_neg q3]; exact e1) (by first | omega | (dsimp only; omega)) (by first | omega | (dsimp only; omega))) | (rw [← Zcn hf hix hi (by simpa using c2)]; exact (StepR.same hz3 (Nat.le_refl n)).after (fun q b e1 e2 e3 e4 => by have q1 : q ≠ rs := (fun e => e2 (by rw [e, hz.r] at e1; cases e1; rfl)); have q2 : q ≠ p[ix]!.1 := (fun e => e3 (by rw [e, hz.d _ (Zbh hi)] at e1; cases e1; rfl)); have q3 : q ≠ n := (fun e => by rw [e, hnn] at e1; cases e1); simp only [upd, if_neg q1, if_neg q2, if_neg q3]; exact e1) (by omega) (by first | omega | (dsimp only; omega)))))
 ·
  have hf : findOk (lP p) ⟨t.name, t.ty⟩ = true := by simpa using c1
  have hi := Zzv hf
  obtain ⟨ix, hix⟩ : ∃ ix, ix = findIx (lP p) ⟨t.name, t.ty⟩ := ⟨_, rfl⟩
  rw [← hix] at hi
  have hix2 := hix.symm
  have hrow : (p.map rowP).getD ix [] = [.v (.string (bs p[ix]!.2.set.name)), .i p[ix]!.2.set.ty, .i p[ix]!.2.set.life, .mrow p[ix]!.1 0 p[ix]!.2.set.data.length, .list true []] := Zfv hi
  have hrow2 : ((p.map rowP).set ix [.v (.string (bs p[ix]!.2.set.name)), .i p[ix]!.2.set.ty, .i p[ix]!.2.set.life, .mrow p[ix]!.1 0 (p[ix]!.2.set.data.filter fun x => !hasD t.data x).length, .list true []]).getD ix [] = [.v (.string (bs p[ix]!.2.set.name)), .i p[ix]!.2.set.ty, .i p[ix]!.2.set.life, .mrow p[ix]!.1 0 (p[ix]!.2.set.data.filter fun x => !hasD t.data x).length, .list true []] := rows_got (by simpa using hi)
  have hxd := hz.d p[ix]! (Zbh hi)
  have hxe := hz.ne p[ix]! (Zbh hi)
  have hxl := hdl p[ix]! (Zbh hi)
  have hxn : p[ix]!.1 < n := by rcases Nat.lt_or_ge p[ix]!.1 n with q | q; exact q; rw [hnone _ q] at hxd; cases hxd
  have hx1 : (p[ix]!.1 = n) = False := eq_false (by omega)
  have hx2 : (n = p[ix]!.1) = False := eq_false (by omega)
  have hx3 : (p[ix]!.1 = rs) = False := eq_false hxe.2
  have hx4 : (rs = p[ix]!.1) = False := eq_false (fun e => hxe.2 e.symm)
  have hx5 : (p[ix]!.1 = zc) = False := eq_false hxe.1
  have hx6 : (zc = p[ix]!.1) = False := eq_false (fun e => hxe.1 e.symm)
  have hx7 : (cc = p[ix]!.1) = False := eq_false fun e => by rw [e, hxd] at hcc; cases hcc
  have hx8 : (ce = p[ix]!.1) = False := eq_false fun e => by rw [e, hxd] at hcd; cases hcd
  have hlr : (p.map rowP).length = p.length := by simp
  have hz3 : ZM 24 52 63 zc rs a (p.set ix (p[ix]!.1, p[ix]!.2.withD (p[ix]!.2.set.data.filter fun x => !hasD t.data x))) (upd (upd (upd (upd h n (some ⟨31, [t.d]⟩)) n none) p[ix]!.1 (some ⟨63, (p[ix]!.2.set.data.filter fun x => !hasD t.data x).map Dat.d⟩)) rs (some ⟨52, (p.map rowP).set ix [.v (.string (bs p[ix]!.2.set.name)), .i p[ix]!.2.set.ty, .i p[ix]!.2.set.life, .mrow p[ix]!.1 0 (p[ix]!.2.set.data.filter fun x => !hasD t.data x).length, .list true []]⟩)) := hz.setD hi (p[ix]!.2.set.data.filter fun x => !hasD t.data x) (by simp only [upd, hc3, hx6, hm2, if_false]) (upd_same _ _ _) (by simp only [upd, hx3, if_false, if_true]) (fun x hx hne => by have q1 := (hz.ne x hx).2; have q2 : x.1 ≠ n := (fun e => by have := hz.d x hx; rw [e, hnn] at this; cases this); simp only [upd, if_neg q1, if_neg hne, if_neg q2])
  have ff := And.intro @hix2 (And.intro @hrow (And.intro @hrow2 (And.intro @hxd (And.intro @hlr (And.intro @hx1 (And.intro @hx2 (And.intro @hx3 (And.intro @hx4 (And.intro @hx5 (And.intro @hx6 (And.intro @hx7 (And.intro @hx8 ff))))))))))))
  refine dw_skip ?_
  show DW _ _ _ _ _
  refine stp Lun ?_
  refine Zsh 3 n ev ev (by simp [nrs, D.nr, Zmf]) ?_
  refine Zaa (Zv1 Lun 6 (hct := by exact udeld_ct p[ix]!.2.set.data t _ _ _ _ rfl (by omega) (by omega) (by simp only [go_sem, ff])) (hk := ?_))
  rintro res h2 n2 ⟨rfl, rfl, a1⟩
  try dsimp only at a1
  refine Zu1 Lun ?_
  show DW _ _ _ _ _
  refine stp Lun ?_
  refine cd (fun c2 => ?_) (fun c2 => ?_)
  ·
   refine Zv1 Lun 2 (hct := by exact Zk2 zc rs cc ix a _ _ _ hz3 (by simp only [go_sem, ff]) (by simpa using hl) (by simpa using hi)) (hk := ?_)
   rintro res h2 n2 ⟨rfl, hst⟩
   refine Zu1 Lun ?_
   exact Zuk (_) (hh := fun _ => .inl rfl) (hr := by (try simp only [go_sem, ff]); all_goals (first | (rw [Zbn hf]; exact (StepR.same hz2 (Nat.le_refl n)).of_fresh hnn (by omega) (by omega)) | (rw [← Zdn hf hix hi (by simpa using c2) _]; exact hst.after (fun q b e1 e2 e3 e4 => by have q1 : q ≠ rs := (fun e => e2 (by rw [e, hz.r] at e1; cases e1; rfl)); have q2 : q ≠ p[ix]!.1 := (fun e => e3 (by rw [e, hz.d _ (Zbh hi)] at e1; cases e1; rfl)); have q3 : q ≠ n := (fun e => by rw [e, hnn] at e1; cases e1); simp only [upd, if_neg q1, if_neg q2, if_neg q3]; exact e1) (by first | omega | (dsimp only; omega)) (by first | omega | (dsimp only; omega))) | (rw [← Zcn hf hix hi (by simpa using c2)]; exact (StepR.same hz3 (Nat.le_refl n)).after (fun q b e1 e2 e3 e4 => by have q1 : q ≠ rs := (fun e => e2 (by rw [e, hz.r] at e1; cases e1; rfl)); have q2 : q ≠ p[ix]!.1 := (fun e => e3 (by rw [e, hz.d _ (Zbh hi)] at e1; cases e1; rfl)); have q3 : q ≠ n := (fun e => by rw [e, hnn] at e1; cases e1); simp only [upd, if_neg q1, if_neg q2, if_neg q3]; exact e1) (by omega) (by first | omega | (dsimp only; omega)))))
  ·
   refine dw_skip ?_
   exact Zuk (_) (hh := fun _ => .inl rfl) (hr := by (try simp only [go_sem, ff]); all_goals (first | (rw [Zbn hf]; exact (StepR.same hz2 (Nat.le_refl n)).of_fresh hnn (by omega) (by omega)) | (rw [← Zdn hf hix hi (by simpa using c2) _]; exact hst.after (fun q b e1 e2 e3 e4 => by have q1 : q ≠ rs := (fun e => e2 (by rw [e, hz.r] at e1; cases e1; rfl)); have q2 : q ≠ p[ix]!.1 := (fun e => e3 (by rw [e, hz.d _ (Zbh hi)] at e1; cases e1; rfl)); have q3 : q ≠ n := (fun e => by rw [e, hnn] at e1; cases e1); simp only [upd, if_neg q1, if_neg q2, if_neg q3]; exact e1) (by first | omega | (dsimp only; omega)) (by first | omega | (dsimp only; omega))) | (rw [← Zcn hf hix hi (by simpa using c2)]; exact (StepR.same hz3 (Nat.le_refl n)).after (fun q b e1 e2 e3 e4 => by have q1 : q ≠ rs := (fun e => e2 (by rw [e, hz.r] at e1; cases e1; rfl)); have q2 : q ≠ p[ix]!.1 := (fun e => e3 (by rw [e, hz.d _ (Zbh hi)] at e1; cases e1; rfl)); have q3 : q ≠ n := (fun e => by rw [e, hnn] at e1; cases e1); simp only [upd, if_neg q1, if_neg q2, if_neg q3]; exact e1) (by omega) (by first | omega | (dsimp only; omega)))))
set_option maxRecDepth 10000
theorem bo76 : Zea Tryz.prog 76 = true := by kernel_rfl
theorem Zm4 (zc : Nat) (h : H) (n : Nat) (hzc : zc < n) : RCt Tryz.prog 76 [.mptr zc 0 0] h n (fun d h' n' => d = .agg [.v .nilFunc, .fn (.func 111) [] [.mptr n 0 0], .fn (.func 116) [] [.mptr n 0 0, .mptr (n + 3) 0 0], .fn (.func 120) [] [.mptr n 0 0, .mptr (n + 3) 0 0], .fn (.func 121) [] [.mptr n 0 0]] ∧ h' n = some ⟨102, [[.mptr zc 0 0]]⟩ ∧ h' (n + 3) = some ⟨131, [[.fn (.func 109) [] [.mptr n 0 0]]]⟩ ∧ (∀ q, q < n → h' q = h q) ∧ n + 3 < n') := by
 refine Zmb Tryz.func76 rfl bo76 (by simp [Tryz.f76]) (fun hnone => ?_)
 unfold Tryz.f76
 have ff := True.intro
 refine stp Lun ?_
 refine stp Lun ?_
 refine stp Lun ?_
 refine Zba ?_
 exact Zuk (_) (hh := fun _ => .inl rfl) (hr := by (try simp only [go_sem, ff]); all_goals (refine ⟨fun q hq => ?_, by omega⟩; simp only [upd]; (repeat rw [if_neg (by omega)])))
set_option maxRecDepth 10000
theorem Zm3 {p : List PS} (q : Qst) : findIx (lP p) q ≤ p.length := by
 have h : findIx (lP p) q ≤ (lP p).length := (Zy1 _ _ 0 (lP p).length (Nat.le_refl _) (Nat.zero_le _)).1
 rw [Zse] at h
 exact h
theorem bo111 : Zea Tryz.prog 111 = true := by kernel_rfl
theorem uadd_ct (t : RSet) (zc rs cc : Nat) (a : Str) (p : List PS) (h : H) (n : Nat) (hz : ZM 24 52 63 zc rs a p h) (hcc : h cc = some ⟨102, [[.mptr zc 0 0]]⟩) (hl : p.length ≤ 90000) (hdl : ∀ x ∈ p, x.2.set.data.length ≤ 1000) (hps : ∀ x ∈ p, Zjd datC x.2.set.data) (hts : Zjd datC t.data) (ht0 : 0 < t.data.length) (htl : t.data.length ≤ 1000) : RCt Tryz.prog 111 [.agg t.d, .mptr cc 0 0] h n (fun d h' n' => d = .tuple [] ∧ StepR 24 52 63 zc a (addL (lP p) t) h h' n n') := by
 refine Zmb Tryz.func111 rfl bo111 (by simp [Tryz.f111]) (fun hnone => ?_)
 unfold Tryz.f111
 have ff := True.intro
 have hzz := hz.z
 have hzr := hz.r
 have hnn : h n = none := hnone _ (Nat.le_refl _)
 have hz2 := hz.fresh (b := some ⟨31, [t.d]⟩) hnn
 have lrs : rs < n := by rcases Nat.lt_or_ge rs n with q | q; exact q; rw [hnone rs q] at hzr; cases hzr
 have lzc : zc < n := by rcases Nat.lt_or_ge zc n with q | q; exact q; rw [hnone zc q] at hzz; cases hzz
 have lcc : cc < n := by rcases Nat.lt_or_ge cc n with q | q; exact q; rw [hnone cc q] at hcc; cases hcc
 have hn1 : (n = rs) = False := eq_false (by omega)
 have hn2 : (n = zc) = False := eq_false (by omega)
 have hn3 : (n = cc) = False := eq_false (by omega)
 have hm1 : (rs = n) = False := eq_false (by omega)
 have hm2 : (zc = n) = False := eq_false (by omega)
 have hm3 : (cc = n) = False := eq_false (by omega)
 have hc1 : (cc = rs) = False := eq_false fun e => by rw [e, hzr] at hcc; cases hcc
 have hc2 : (cc = zc) = False := eq_false fun e => by rw [e, hzz] at hcc; cases hcc
 have hc3 : (zc = rs) = False := eq_false hz.zr
 have hc4 : (rs = zc) = False := eq_false fun e => hz.zr e.symm
 have hc5 : (rs = cc) = False := eq_false fun e => by rw [← e, hzr] at hcc; cases hcc
 have hc6 : (zc = cc) = False := eq_false fun e => by rw [← e, hzz] at hcc; cases hcc
 have hd1 : cc ≠ rs := fun e => by rw [e, hzr] at hcc; cases hcc
 have hd2 : zc ≠ rs := hz.zr
 have hd3 : cc ≠ zc := fun e => by rw [e, hzz] at hcc; cases hcc
 have hpn : ∀ x ∈ p, x.1 < n := fun x hx => by have := hz.d x hx; rcases Nat.lt_or_ge x.1 n with q | q; exact q; rw [hnone x.1 q] at this; cases this
 have ff := And.intro @hzz (And.intro @hzr (And.intro @hcc (And.intro @hc1 (And.intro @hc2 (And.intro @hc3 (And.intro @hc4 (And.intro @hc5 (And.intro @hc6 (And.intro @hn1 (And.intro @hn2 (And.intro @hn3 (And.intro @hm1 (And.intro @hm2 (And.intro @hm3 ff))))))))))))))
 refine stp Lun ?_
 have hsw := hz2.snap
 have hsw1 : Zre (upd h n (some ⟨31, [[.v (.string (bs t.name)), .i t.ty, .i t.life, .list false (t.data.map Dat.d)]]⟩)) (.agg [.v (.string (bs a)), .mrow rs 0 p.length]) = .agg [.v (.string (bs a)), .list false ((lP p).map Sgd.d)] := hsw.1
 have ff := And.intro @hsw1 ff
 refine stp LunS ?_ (hok := by (try simp only [go_sem, ff]); all_goals (first | done | ((repeat' (with_reducible apply And.intro)) <;> first | exact Zsc ⟨a, lP p⟩ t.name t.ty (by rw [Zse]; omega) | (intros; exact Zsc ⟨a, lP p⟩ t.name t.ty (by rw [Zse]; omega)) | exact hsw.2 | (intros; exact hsw.2) | exact (fun row hrow c hc => by obtain ⟨x, hx, rfl⟩ := List.mem_map.1 hrow; exact (Zva (hz2.data x hx) 1).2 c hc) | (intros; exact (fun row hrow c hc => by obtain ⟨x, hx, rfl⟩ := List.mem_map.1 hrow; exact (Zva (hz2.data x hx) 1).2 c hc)) | rfl | skip)))
 refine Zaa (Zv1 Lun 2 (hct := by exact Zyn t.data ht0 (by omega) _ _) (hk := ?_))
 rintro res h2 n2 ⟨r1, rfl, rfl, a1, b1⟩
 try dsimp only at a1 b1
 have zr1_n : (r1 = n) = False := eq_false (by omega)
 have yn_r1 : (n = r1) = False := eq_false (by omega)
 have zr1_rs : (r1 = rs) = False := eq_false (by omega)
 have yrs_r1 : (rs = r1) = False := eq_false (by omega)
 have zr1_zc : (r1 = zc) = False := eq_false (by omega)
 have yzc_r1 : (zc = r1) = False := eq_false (by omega)
 have zr1_cc : (r1 = cc) = False := eq_false (by omega)
 have ycc_r1 : (cc = r1) = False := eq_false (by omega)
 have ff := And.intro @a1 (And.intro @b1 (And.intro @zr1_n (And.intro @yn_r1 (And.intro @zr1_rs (And.intro @yrs_r1 (And.intro @zr1_zc (And.intro @yzc_r1 (And.intro @zr1_cc (And.intro @ycc_r1 ff)))))))))
 refine Zu1 Lun ?_
 show DW _ _ _ _ _
 refine Zaa ?_
 refine stp Lun ?_
 refine cd (fun c1 => ?_) (fun c1 => ?_) (hp := rfl) (hq := rfl)
 ·
  have hf : findOk (lP p) ⟨t.name, t.ty⟩ = false := by simpa using c1
  have zn215_n : (n2 + 15 = n) = False := eq_false (by omega)
  have yn_n215 : (n = n2 + 15) = False := eq_false (by omega)
  have zn215_rs : (n2 + 15 = rs) = False := eq_false (by omega)
  have yrs_n215 : (rs = n2 + 15) = False := eq_false (by omega)
  have zn215_zc : (n2 + 15 = zc) = False := eq_false (by omega)
  have yzc_n215 : (zc = n2 + 15) = False := eq_false (by omega)
  have zn215_cc : (n2 + 15 = cc) = False := eq_false (by omega)
  have ycc_n215 : (cc = n2 + 15) = False := eq_false (by omega)
  have zn215_r1 : (n2 + 15 = r1) = False := eq_false (by omega)
  have yr1_n215 : (r1 = n2 + 15) = False := eq_false (by omega)
  have ff := And.intro @zn215_n (And.intro @yn_n215 (And.intro @zn215_rs (And.intro @yrs_n215 (And.intro @zn215_zc (And.intro @yzc_n215 (And.intro @zn215_cc (And.intro @ycc_n215 (And.intro @zn215_r1 (And.intro @yr1_n215 ff)))))))))
  refine dr1q LunB 9 10 [(0, 1)] (hct := by exact ins_ct (p.map rowP) [.v (.string (bs t.name)), .i t.ty, .i t.life, .mrow r1 0 t.data.length, .list true []] (findIx (lP p) ⟨t.name, t.ty⟩) p.length _ _ rs (n2 + 15) (by simp) (by simpa using Zm3 _) (by simp; omega) (by simp only [go_sem, ff]) (by simp only [go_sem, ff]) (by omega) rfl Zb4) (hkeep := ?_) (hk := ?_)
  ·
   rintro res h3 n3 ⟨r2, rfl, e1, e2, e3, e4⟩ q hq r hrr
   try dsimp only at e2 e3 e4
   simp only [List.mem_singleton] at hq; subst hq
   simp only [go_sem, ff, sd, named, beq_iff_eq] at hrr ⊢; subst hrr; rw [e3 cc (by omega) (by omega)]; try simp only [go_sem, ff]
  rintro res h3 n3 ⟨r2, rfl, e1, e2, e3, e4⟩
  try dsimp only at e2 e3 e4
  simp only [List.length_map] at e1 e2 e3 e4 ⊢
  have e5 : h3 zc = some ⟨24, [[.v (.string (bs a)), .mrow rs 0 p.length]]⟩ := by rw [e3 zc (by omega) (by omega)]; simp only [go_sem, ff]
  have ff := And.intro e5 ff
  refine Zle LunB ?_
  try simp only [Zna]
  refine Zba ?_
  refine Zuk (_) (hh := fun _ => .inl rfl) (hr := ?_)
  try simp only [go_sem, ff]
  rw [addL_no hf]
  have hq : ∀ q, q ≠ rs → q < n → h3 q = h q := fun q q1 q2 => by rw [e3 q q1 (by omega)]; simp only [upd]; repeat rw [if_neg (by omega)]
  have hr2z : r2 ≠ zc := by rcases e2 with e | e; rw [e]; exact fun e => hz.zr e.symm; omega
  have hr21 : r2 ≠ r1 := by rcases e2 with e | e; rw [e]; omega; omega
  refine ⟨r2, _, hz.insP (rs' := r2) (i := (findIx (lP p) ⟨t.name, t.ty⟩)) (Zm3 _) (r := r1) (s := t) (by simp [upd]) ?_ ?_ (fun x hx e => by have := hpn x hx; omega) ⟨by omega, fun e => hr21 e.symm⟩ (fun e => hr2z e.symm) (fun x hx e => by rcases e2 with k | k; rw [k] at e; exact (hz.ne x hx).2 e; have := hpn x hx; omega) (fun x hx => by simp only [upd]; rw [if_neg (hz.ne x hx).1, hq _ (hz.ne x hx).2 (hpn x hx)]), lP_insP, fun q b k1 k2 k3 k4 => ?_, by first | omega | (dsimp only; omega)⟩
  ·
   simp only [upd]; rw [if_neg hr2z, e1]; rfl
  ·
   simp only [upd]; rw [if_neg (by omega), e3 r1 (by omega) (by omega)]; simp only [upd]; repeat (first | rfl | rw [if_neg (by omega)] | rw [if_pos rfl])
  ·
   have q1 : q ≠ rs := (fun e => k2 (by rw [e, hzr] at k1; cases k1; rfl)); have q2 : q < n := (by rcases Nat.lt_or_ge q n with w | w; exact w; rw [hnone q w] at k1; cases k1); simp only [upd]; rw [if_neg k4, hq q q1 q2]; exact k1
 ·
  have hf : findOk (lP p) ⟨t.name, t.ty⟩ = true := by simpa using c1
  have hi := Zzv hf
  obtain ⟨ix, hix⟩ : ∃ ix, ix = findIx (lP p) ⟨t.name, t.ty⟩ := ⟨_, rfl⟩
  rw [← hix] at hi
  have hix2 := hix.symm
  have hrow : (p.map rowP).getD ix [] = [.v (.string (bs p[ix]!.2.set.name)), .i p[ix]!.2.set.ty, .i p[ix]!.2.set.life, .mrow p[ix]!.1 0 p[ix]!.2.set.data.length, .list true []] := Zfv hi
  have hxd := hz.d p[ix]! (Zbh hi)
  have hxe := hz.ne p[ix]! (Zbh hi)
  have hxl := hdl p[ix]! (Zbh hi)
  have hxn := hpn p[ix]! (Zbh hi)
  have hlr : (p.map rowP).length = p.length := by simp
  have hx1 : (p[ix]!.1 = n) = False := eq_false (by omega)
  have hx2 : (p[ix]!.1 = r1) = False := eq_false (by omega)
  have hx3 : (p[ix]!.1 = rs) = False := eq_false (by exact hxe.2)
  have hx4 : (p[ix]!.1 = zc) = False := eq_false (by exact hxe.1)
  have hy1 : (n = p[ix]!.1) = False := eq_false (by omega)
  have hy2 : (r1 = p[ix]!.1) = False := eq_false (by omega)
  have hy3 : (rs = p[ix]!.1) = False := eq_false (by exact fun e => hxe.2 e.symm)
  have hy4 : (zc = p[ix]!.1) = False := eq_false (by exact fun e => hxe.1 e.symm)
  have ff := And.intro @hix2 (And.intro @hrow (And.intro @hxd (And.intro @hlr (And.intro @hx1 (And.intro @hx2 (And.intro @hx3 (And.intro @hx4 (And.intro @hy1 (And.intro @hy2 (And.intro @hy3 (And.intro @hy4 ff)))))))))))
  refine dw_skip ?_
  show DW _ _ _ _ _
  refine Zaa ?_
  refine stp Lun ?_
  refine cd (fun c2 => ?_) (fun c2 => ?_)
  ·
   have zn226_n : (n2 + 26 = n) = False := eq_false (by omega)
   have yn_n226 : (n = n2 + 26) = False := eq_false (by omega)
   have zn226_rs : (n2 + 26 = rs) = False := eq_false (by omega)
   have yrs_n226 : (rs = n2 + 26) = False := eq_false (by omega)
   have zn226_zc : (n2 + 26 = zc) = False := eq_false (by omega)
   have yzc_n226 : (zc = n2 + 26) = False := eq_false (by omega)
   have zn226_cc : (n2 + 26 = cc) = False := eq_false (by omega)
   have ycc_n226 : (cc = n2 + 26) = False := eq_false (by omega)
   have zn226_r1 : (n2 + 26 = r1) = False := eq_false (by omega)
   have yr1_n226 : (r1 = n2 + 26) = False := eq_false (by omega)
   have ff := And.intro @zn226_n (And.intro @yn_n226 (And.intro @zn226_rs (And.intro @yrs_n226 (And.intro @zn226_zc (And.intro @yzc_n226 (And.intro @zn226_cc (And.intro @ycc_n226 (And.intro @zn226_r1 (And.intro @yr1_n226 ff)))))))))
   refine dr0q Lun 11 ?_
   refine Zy9 Lun 11 (r := r1) (n := t.data.length) (rows := t.data.map Dat.d) (news := p[ix]!.2.set.data.map Dat.d) (by dsimp only; omega) (hrl := by intro q hq; obtain ⟨x, _, rfl⟩ := List.mem_map.1 hq; rfl) (hby := by rw [show (Tryz.prog).bytesOf 63 = 32 from rfl, List.length_map]; omega) (h63 := by rw [List.length_map]; omega) ?_
   refine Zle Lun ?_
   try simp only [Zna]
   obtain ⟨r6, hr6⟩ : ∃ q, q = n2 + 26 := ⟨_, rfl⟩
   simp only [← hr6]
   have zr6_n : (r6 = n) = False := eq_false (by omega)
   have yn_r6 : (n = r6) = False := eq_false (by omega)
   have zr6_rs : (r6 = rs) = False := eq_false (by omega)
   have yrs_r6 : (rs = r6) = False := eq_false (by omega)
   have zr6_zc : (r6 = zc) = False := eq_false (by omega)
   have yzc_r6 : (zc = r6) = False := eq_false (by omega)
   have zr6_cc : (r6 = cc) = False := eq_false (by omega)
   have ycc_r6 : (cc = r6) = False := eq_false (by omega)
   have zr6_r1 : (r6 = r1) = False := eq_false (by omega)
   have yr1_r6 : (r1 = r6) = False := eq_false (by omega)
   have zr6_pix1 : (r6 = p[ix]!.1) = False := eq_false (by omega)
   have ypix1_r6 : (p[ix]!.1 = r6) = False := eq_false (by omega)
   have ff := And.intro @zr6_n (And.intro @yn_r6 (And.intro @zr6_rs (And.intro @yrs_r6 (And.intro @zr6_zc (And.intro @yzc_r6 (And.intro @zr6_cc (And.intro @ycc_r6 (And.intro @zr6_r1 (And.intro @yr1_r6 (And.intro @zr6_pix1 (And.intro @ypix1_r6 ff)))))))))))
   refine Zaa (Zv1 Lun 2 (hct := by exact usort_ct (t.data ++ p[ix]!.2.set.data) _ _ _ r6 (by rw [List.length_append]) (by rw [List.length_append]; omega) (by simp only [go_sem, ff, List.map_append])) (hk := ?_))
   rintro res h2 n2 ⟨rfl, rfl, l9, hpm, hso, rfl⟩
   have hl9 := hpm.length_eq
   rw [List.length_append] at hl9
   refine Zu1 Lun ?_
   show DW _ _ _ _ _
   refine Zv1 Lun 2 (hct := by exact Zuz l9 _ _ _ r6 (by omega) (by omega) (by simp only [go_sem, ff])) (hk := ?_)
   rintro res h2 n2 ⟨rfl, rfl, a8⟩
   try dsimp only at a8
   refine Zu1 Lun ?_
   show DW _ _ _ _ _
   refine dr0 Lun 8 ?_
   refine Zle Lun ?_
   try simp only [Zna]
   refine Zuk (_) (hh := fun _ => .inl rfl) (hr := ?_)
   try simp only [go_sem, ff]
   rw [← Zc4 (d := dpF l9) hf hix hi (by unfold addD; rw [if_pos (by grind)]; exact dp_mrg (hps _ (Zbh hi)) hts hpm hso) r6]
   refine ⟨rs, _, hz.setP hi (r := r6) (s := { t with data := dpF l9 }) ?_ ?_ ?_ (fun x hx e => by have := hpn x hx; omega) ⟨by omega, by omega⟩ (fun x hx => ?_), rfl, fun q b k1 k2 k3 k4 => ?_, by first | omega | (dsimp only; omega)⟩
   ·
    simp only [upd]; repeat (first | rfl | rw [if_neg (by omega)] | rw [if_neg hz.zr])
   ·
    simp only [upd, if_true]; rfl
   ·
    simp only [upd]; repeat (first | rfl | rw [if_neg (by omega)] | rw [if_pos rfl])
   ·
    have q1 := hz.ne x hx; have q2 := hpn x hx; simp only [upd]; repeat (first | rfl | rw [if_neg q1.2] | rw [if_neg (by omega)])
   ·
    have q1 : q ≠ rs := (fun e => k2 (by rw [e, hzr] at k1; cases k1; rfl)); have q2 : q < n := (by rcases Nat.lt_or_ge q n with w | w; exact w; rw [hnone q w] at k1; cases k1); simp only [upd]; repeat (first | exact k1 | rw [if_neg q1] | rw [if_neg (by omega)])
  ·
   refine dw_skip ?_
   show DW _ _ _ _ _
   refine dr0 Lun 8 ?_
   refine Zle Lun ?_
   try simp only [Zna]
   refine Zuk (_) (hh := fun _ => .inl rfl) (hr := ?_)
   try simp only [go_sem, ff]
   rw [← Zc4 (d := t.data) hf hix hi (by unfold addD; rw [if_neg (by grind)]) r1]
   refine ⟨rs, _, hz.setP hi (r := r1) (s := { t with data := t.data }) ?_ ?_ ?_ (fun x hx e => by have := hpn x hx; omega) ⟨by omega, by omega⟩ (fun x hx => ?_), rfl, fun q b k1 k2 k3 k4 => ?_, by first | omega | (dsimp only; omega)⟩
   ·
    simp only [upd]; repeat (first | rfl | rw [if_neg (by omega)] | rw [if_neg hz.zr])
   ·
    simp only [upd, if_true]; rfl
   ·
    simp only [upd]; repeat (first | rfl | rw [if_neg (by omega)] | rw [if_pos rfl])
   ·
    have q1 := hz.ne x hx; have q2 := hpn x hx; simp only [upd]; repeat (first | rfl | rw [if_neg q1.2] | rw [if_neg (by omega)])
   ·
    have q1 : q ≠ rs := (fun e => k2 (by rw [e, hzr] at k1; cases k1; rfl)); have q2 : q < n := (by rcases Nat.lt_or_ge q n with w | w; exact w; rw [hnone q w] at k1; cases k1); simp only [upd]; repeat (first | exact k1 | rw [if_neg q1] | rw [if_neg (by omega)])
set_option maxRecDepth 10000
theorem bo74 : Zea Tryz.prog 74 = true := by kernel_rfl
theorem uch1_ret (cz ce : Nat) (h : H) (n : Nat) : DCt Tryz.prog 74 [.mptr cz 0 0, .mptr ce 0 0] h n .returning .returning (fun h' n' => (∀ q, q < n → h' q = h q) ∧ n ≤ n') := by
 refine Zdz (d := .v .nilIface) (v := .nilIface) Tryz.func74 rfl bo74 (by simp [Tryz.f74]) (Zub rfl) rfl rfl (by decide) (.inl ⟨rfl, rfl, rfl⟩) (fun _ _ => .v _) (fun hnone => ?_)
 have ff := True.intro
 refine Zws (C := Lun) 1 (.agg #[.int .i64 0]) (d := .v .nilIface) (r := .tuple [.agg [.i 0], .b false]) (v := .nilIface) (by omega) (Zub rfl) rfl rfl (by kernel_rfl) (by kernel_rfl) (by simp only [List.drop_succ_cons, List.drop_zero, List.take_succ_cons, List.take_zero, S.put, Nat.sub_self, Nat.reduceSub, go_sem, ff]; first | done | exact rfl) trivial (by rfl) (by simp only [go_sem, ff]) (fun w g q hq => by cases hq; rfl) (.inl ⟨rfl, fun w g => ?_⟩) ?_
 ·
  exact .tuple _ _ rfl (fun i d x h1 h2 => by
   match i with
   | 0 => cases h1; cases h2; exact .agg _ _ rfl (fun i d x h1 h2 => by
     match i with
     | 0 => cases h1; cases h2; exact .v _
     | i + 1 => simp at h1)
   | 1 => cases h1; cases h2; exact .v _
   | i + 2 => simp at h1)
 refine Zle Lun ?_
 try simp only [Zna]
 show DW _ _ _ _ _
 refine stp Lun ?_
 refine cd (fun c1 => ?_) (fun c1 => ?_)
 ·
  simp at c1
 ·
  refine dw_skip ?_
  refine ⟨(by trivial), h, _, ?_, Nat.le_refl _, fun q hq => rfl, by dsimp only; omega⟩
  intro r
  dsimp only
  by_cases e : r < n
  ·
   left; simp only [upd]; repeat (first | rfl | rw [if_neg (by omega)])
  ·
   right; exact hnone r (by omega)
theorem Zml (cz ce : Nat) (h : H) (n : Nat) (a0 b0 c0 : D) (hz : h cz = some ⟨24, [[a0, b0]]⟩) (he : h ce = some ⟨37, [[c0]]⟩) (k : Int) (hne : cz ≠ ce) (hcz : cz < n) (hce : ce < n) : DCt Tryz.prog 74 [.mptr cz 0 0, .mptr ce 0 0] h n (.panicking [{ v := .iface 97 (.agg #[.int .i64 k]), recovered := false }]) (.panicking [{ v := .iface 97 (.agg #[.int .i64 k]), recovered := true }]) (fun h' n' => h' cz = some ⟨24, [[.v (.string (bs [])), .list true []]]⟩ ∧ h' ce = some ⟨37, [[.i k]]⟩ ∧ n ≤ n' ∧ ∀ q, q < n → q ≠ cz → q ≠ ce → h' q = h q) := by
 have ragg : ∀ (w : World) (g : Mem), Rep w g (.agg [.i k]) (.agg #[.int .i64 k]) := fun w g => .agg _ _ rfl (fun i d x h1 h2 => by
  match i with
  | 0 => cases h1; cases h2; exact .v _
  | i + 1 => simp at h1)
 refine Zdz (d := .iface 97 (.agg [.i k])) (v := .iface 97 (.agg #[.int .i64 k])) Tryz.func74 rfl bo74 (by simp [Tryz.f74]) (Zub rfl) rfl rfl (by decide) (.inr ⟨rfl, rfl⟩) (fun w g => .iface _ _ _ (ragg w g)) (fun hnone => ?_)
 have hn1 : ∀ k, (cz = n + k) = False := fun k => eq_false (by omega)
 have hn2 : ∀ k, (ce = n + k) = False := fun k => eq_false (by omega)
 have hn3 : ∀ k, (n + k = cz) = False := fun k => eq_false (by omega)
 have hn4 : ∀ k, (n + k = ce) = False := fun k => eq_false (by omega)
 have hn5 : (cz = ce) = False := eq_false hne
 have hn6 : (ce = cz) = False := eq_false fun e => hne e.symm
 have ff := And.intro hz (And.intro he (And.intro hn1 (And.intro hn2 (And.intro hn3 (And.intro hn4 (And.intro hn5 hn6))))))
 refine Zws (C := Lun) 1 (.agg #[.int .i64 0]) (d := .iface 97 (.agg [.i k])) (r := .tuple [.agg [.i k], .b true]) (v := .iface 97 (.agg #[.int .i64 k])) (by omega) (Zub rfl) rfl rfl (by kernel_rfl) (by kernel_rfl) (by simp only [List.drop_succ_cons, List.drop_zero, List.take_succ_cons, List.take_zero, S.put, Nat.sub_self, Nat.reduceSub, go_sem, ff]; first | done | exact rfl) trivial (by rfl) (by simp only [go_sem, ff]) (fun w g q hq => ?_) (.inr ⟨_, rfl, fun w g => ?_⟩) ?_
 ·
  cases hq with | iface _ _ x hx =>
  cases hx with | agg _ vs hn h2 =>
  obtain ⟨vs⟩ := vs
  match vs, hn with
  | [y], _ =>
   have := h2 0 (.i k) y rfl rfl
   cases this
   rfl
 ·
  exact .tuple _ _ rfl (fun i d x h1 h2 => by
   match i with
   | 0 => cases h1; cases h2; exact ragg w g
   | 1 => cases h1; cases h2; exact .v _
   | i + 2 => simp at h1)
 refine Zle Lun ?_
 try simp only [Zna]
 show DW _ _ _ _ _
 refine stp Lun ?_
 refine cd (fun c1 => ?_) (fun c1 => ?_)
 ·
  refine dw_reg3 (C := Lun) [⟨2, 3, 11, 0⟩] (by simp only [go_sem, ff]; exact rfl) ⟨mix, by kernel_rfl, by kernel_rfl⟩ (by intro p hp; simp only [List.mem_cons, List.not_mem_nil, or_false] at hp; subst hp; intro r hr; simp only [go_sem, ff, sd, named, beq_iff_eq] at hr ⊢; first | done | omega | (simp at hr ⊢; omega)) ?_ ?_
  ·
   try simp only [go_sem, ff]
   all_goals exact ok0
  refine ⟨(by trivial), _, _, fun _ => .inl rfl, Nat.le_refl _, ?_, ?_, by dsimp only; omega, fun q q1 q2 q3 => ?_⟩
  ·
   dsimp only; simp only [upd]; repeat (first | rfl | rw [if_neg (by omega)] | rw [if_pos rfl])
  ·
   dsimp only; simp only [upd]; repeat (first | rfl | rw [if_neg (by omega)] | rw [if_pos rfl])
  ·
   dsimp only; simp only [upd]; repeat (first | rfl | rw [if_neg q2] | rw [if_neg q3] | rw [if_neg (by omega)])
 ·
  simp at c1
set_option maxRecDepth 10000
theorem bo36 : Zea Tryz.prog 36 = true := by kernel_rfl
theorem Zos (z : Zon) (l : List Chg) (h : H) (n : Nat) (hz : PlainZ z) (hcs : ∀ c ∈ l, chgOk c = true) (hll : l.length ≤ 1000) : RCt Tryz.prog 36 [.agg z.d, .list false (l.map Chg.d)] h n (fun d h' n' => ((Zxm z l = none ∧ d = .tuple [.agg [.v (.string (bs [])), .list true []], .i 6]) ∨ ∃ y zc rs p, Zxm z l = some y ∧ d = .tuple [.agg [.v (.string (bs z.apex)), .mrow rs 0 p.length], .i 0] ∧ ZM 24 52 63 zc rs z.apex p h' ∧ lP p = y.sets ∧ zc < n' ∧ rs < n' ∧ ∀ x ∈ p, x.1 < n') ∧ ∀ q b, q < n → h q = some b → b.ty ≠ 52 → b.ty ≠ 63 → h' q = some b) := by
 have ff := True.intro
 refine Zuo (C := Lun) 1 Tryz.func36 rfl bo36 (by simp [Tryz.f36]) (by intro o ho; simp only [List.mem_cons, List.not_mem_nil, or_false] at ho; rcases ho with rfl | rfl | rfl <;> rfl) (by simp only [go_sem, ff]; exact rfl) (by (try simp only [go_sem, ff]); all_goals exact ok0) (Zub rfl) rfl rfl (by intro o ho; simp only [List.take_succ_cons, List.take_zero, List.mem_cons, List.not_mem_nil, or_false] at ho; rcases ho with rfl <;> rfl) (by simp only [List.take_succ_cons, List.take_zero, go_sem, ff]; exact rfl) (by (try simp only [go_sem, ff]); all_goals exact ok0) (by (try simp only [go_sem, ff]); all_goals (first | done | rfl | decide | simp)) (by simp only [go_sem, ff]; exact rfl) (fun hnone => ?_)
 unfold Tryz.f36
 refine Zle Lun ?_
 try simp only [Zna]
 show DW _ _ _ _ _
 have zlen := hz.zo.len
 have zn_n1 : (n = n + 1) = False := eq_false (by omega)
 have yn1_n : (n + 1 = n) = False := eq_false (by omega)
 have zn_n2 : (n = n + 2) = False := eq_false (by omega)
 have yn2_n : (n + 2 = n) = False := eq_false (by omega)
 have zn1_n2 : (n + 1 = n + 2) = False := eq_false (by omega)
 have yn2_n1 : (n + 2 = n + 1) = False := eq_false (by omega)
 have ff := And.intro @zn_n1 (And.intro @yn1_n (And.intro @zn_n2 (And.intro @yn2_n (And.intro @zn1_n2 (And.intro @yn2_n1 ff)))))
 refine Zaa (Zv1 Lun 1 (hct := by exact Zi7 z (by omega) (fun s hs => by have := (hz.zo.ok s hs).len; omega) _ _) (hk := ?_))
 rintro res h2 n2 ⟨rs0, p0, rfl, d1, d2, d3, d4, d5, d6, d7, d8⟩
 try dsimp only at d5 d6 d7 d8
 have e1 : h2 n = some ⟨24, [z.d]⟩ := by rw [d8 _ (by omega)]; simp only [go_sem, ff]
 have e2 : h2 (n + 1) = some ⟨24, [[.v (.string (bs [])), .list true []]]⟩ := by rw [d8 _ (by omega)]; simp only [go_sem, ff]
 have e3 : h2 (n + 2) = some ⟨37, [[.i 0]]⟩ := by rw [d8 _ (by omega)]; simp only [go_sem, ff]
 have ff := And.intro @e1 (And.intro @e2 (And.intro @e3 ff))
 refine Zu1 Lun ?_
 show DW _ _ _ _ _
 refine Zaa (Zv1 Lun 0 (hct := by exact Zm4 (n + 1) _ _ (by dsimp only; omega)) (hk := ?_))
 rintro res hb nb ⟨rfl, g1, g2, g3, g4⟩
 try dsimp only at g1 g2 g3 g4
 refine Zu1 Lun ?_
 show DW _ _ _ _ _
 refine Zaa ?_
 refine stp Lun ?_
 refine Zda ?_
 refine dw_gen fun hq0 hhq0 => ?_
 dsimp only at hhq0
 obtain ⟨qc, hqc⟩ : ∃ q, q = n2 + 3 := ⟨_, rfl⟩
 obtain ⟨qd, hqd⟩ : ∃ q, q = n2 + 6 := ⟨_, rfl⟩
 obtain ⟨qa, hqa⟩ : ∃ q, q = nb + 1 := ⟨_, rfl⟩
 simp only [Nat.add_assoc, Nat.reduceAdd] at hhq0 g1 g2
 simp only [← hqc, ← hqd, ← hqa] at hhq0 g1 g2
 simp only [← hqa]
 have w0 : ∀ q, q < n2 + 3 → hq0 q = upd h2 (n + 1) (some ⟨24, [[.v (.string (bs z.apex)), .mrow rs0 0 p0.length]]⟩) q := fun q hq => by rw [hhq0]; simp only [upd]; rw [if_neg (by omega), if_neg (by omega)]; have := g3 q (by omega); simpa [upd] using this
 have i0 : hq0 n = some ⟨24, [z.d]⟩ := by rw [w0 n (by omega)]; simp only [upd]; rw [if_neg (by omega)]; exact e1
 have i1 : hq0 (n + 1) = some ⟨24, [[.v (.string (bs z.apex)), .mrow rs0 0 p0.length]]⟩ := by rw [w0 (n + 1) (by omega)]; simp only [upd, if_true]
 have i2 : hq0 (n + 2) = some ⟨37, [[.i 0]]⟩ := by rw [w0 (n + 2) (by omega)]; simp only [upd]; rw [if_neg (by omega)]; exact e3
 have ic : hq0 qc = some ⟨102, [[.mptr (n + 1) 0 0]]⟩ := by rw [hhq0]; simp only [upd]; rw [if_neg (by omega), if_neg (by omega)]; exact g1
 have id9 : hq0 qd = some ⟨131, [[.fn (.func 109) [] [.mptr qc 0 0]]]⟩ := by rw [hhq0]; simp only [upd]; rw [if_neg (by omega), if_neg (by omega)]; exact g2
 have ia : hq0 qa = some ⟨100, [[.v .nilFunc, .fn (.func 111) [] [.mptr qc 0 0], .fn (.func 116) [] [.mptr qc 0 0, .mptr qd 0 0], .fn (.func 120) [] [.mptr qc 0 0, .mptr qd 0 0], .fn (.func 121) [] [.mptr qc 0 0]]]⟩ := by rw [hhq0]; simp only [upd, if_true]
 have izm : ZM 24 52 63 (n + 1) rs0 z.apex p0 hq0 := ⟨i1, by rw [w0 rs0 (by omega)]; simp only [upd]; rw [if_neg (by omega)]; exact d2, fun x hx => by have := d5 x hx; rw [w0 x.1 (by omega)]; simp only [upd]; rw [if_neg (by omega)]; exact d3 x hx, by omega, fun x hx => by have := d5 x hx; exact ⟨by omega, this.1⟩, d4, fun x hx => by have h9 : x.2 ∈ lP p0 := List.mem_map.2 ⟨x, hx, rfl⟩; rw [d1] at h9; obtain ⟨s9, _, e9⟩ := List.mem_map.1 h9; rw [← e9]; rfl⟩
 have ilp : lP p0 = z.sets := by rw [d1, Zr6 hz]
 have ifr : ∀ q b, q < n → h q = some b → b.ty ≠ 52 → b.ty ≠ 63 → hq0 q = some b := fun q b q1 q2 _ _ => by rw [w0 q (by omega)]; simp only [upd]; rw [if_neg (by omega), d8 q (by omega)]; simp only [upd]; repeat (first | exact q2 | rw [if_neg (by omega)])
 refine lph (α := (Nat) × (Zon) × (Nat) × (List PS) × (H) × Nat) [2, 4, 5, 13, 14] (fun ⟨k, y, rs, p, hq, nx⟩ => (k ≤ l.length) ∧ (Zz3 z l k = some y) ∧ (PlainZ y) ∧ (y.apex = z.apex) ∧ (ZM 24 52 63 (n + 1) rs z.apex p hq) ∧ (lP p = y.sets) ∧ (hq n = some ⟨24, [z.d]⟩) ∧ (hq (n + 2) = some ⟨37, [[.i 0]]⟩) ∧ (hq qc = some ⟨102, [[.mptr (n + 1) 0 0]]⟩) ∧ (hq qd = some ⟨131, [[.fn (.func 109) [] [.mptr qc 0 0]]]⟩) ∧ (hq qa = some ⟨100, [[.v .nilFunc, .fn (.func 111) [] [.mptr qc 0 0], .fn (.func 116) [] [.mptr qc 0 0, .mptr qd 0 0], .fn (.func 120) [] [.mptr qc 0 0, .mptr qd 0 0], .fn (.func 121) [] [.mptr qc 0 0]]]⟩) ∧ (∀ q b, q < n → h q = some b → b.ty ≠ 52 → b.ty ≠ 63 → hq q = some b) ∧ (n + 2 < nx ∧ qc < nx ∧ qd < nx ∧ qa < nx) ∧ True) (fun ⟨k, y, rs, p, hq, nx⟩ => l.length - k) (fun ⟨k, y, rs, p, hq, nx⟩ => [(6, .mptr qa 0 0), (15, .i k)]) (fun ⟨k, y, rs, p, hq, nx⟩ => hq) (fun ⟨k, y, rs, p, hq, nx⟩ => nx) (0, z, rs0, p0, hq0, _) (hA := ⟨iv, rfl, (by first | (exact hz) | (dsimp only; exact hz)), rfl, (by first | (exact izm) | (dsimp only; exact izm)), (by first | (exact ilp) | (dsimp only; exact ilp)), (by first | (exact i0) | (dsimp only; exact i0)), (by first | (exact i2) | (dsimp only; exact i2)), (by first | (exact ic) | (dsimp only; exact ic)), (by first | (exact id9) | (dsimp only; exact id9)), (by first | (exact ia) | (dsimp only; exact ia)), (by first | (exact ifr) | (dsimp only; exact ifr)), (by first | (omega) | (dsimp only; omega)), trivial⟩) (round := ?_)
 rintro ⟨k, y, rs, p, hq, nx⟩ ⟨hk, hs, hpy, hay, hzm, hlp, b0, b2, bc, bd, ba, hfr, hnx, -⟩
 show DW _ _ _ _ { n := _, t := tab _, h := _, nx := _, e := _ }
 simp only [List.cons_append, List.nil_append]
 refine dw_none fun hno => ?_
 dsimp only at hno
 have zlt := hzm.lt hno
 have hzr := hzm.r
 have hzz := hzm.z
 have hlen : p.length = y.sets.length := by rw [← hlp, Zse]
 have ylen := hpy.zo.len
 have hrz := hzm.zr
 have hr0 : rs ≠ n := fun e => by rw [e, b0] at hzr; cases hzr
 have hr2 : rs ≠ n + 2 := fun e => by rw [e, b2] at hzr; cases hzr
 have hrc : rs ≠ qc := fun e => by rw [e, bc] at hzr; cases hzr
 have hrd : rs ≠ qd := fun e => by rw [e, bd] at hzr; cases hzr
 have hra : rs ≠ qa := fun e => by rw [e, ba] at hzr; cases hzr
 have hq1 : qc ≠ n + 1 := fun e => by rw [e, hzz] at bc; cases bc
 have hq2 : qd ≠ n + 1 := fun e => by rw [e, hzz] at bd; cases bd
 have hq3 : qa ≠ n + 1 := fun e => by rw [e, hzz] at ba; cases ba
 have hpd : ∀ x ∈ p, x.2.set.data.length ≤ 8 ∧ Zjd datC x.2.set.data := fun x hx => by have h9 : x.2 ∈ y.sets := (by rw [← hlp]; exact List.mem_map.2 ⟨x, hx, rfl⟩); have h8 := hpy.zo.ok _ h9; exact ⟨h8.len.2, h8.sorted⟩
 have znx3_n : (nx + 3 = n) = False := eq_false (by omega)
 have yn_nx3 : (n = nx + 3) = False := eq_false (by omega)
 have znx3_n1 : (nx + 3 = n + 1) = False := eq_false (by omega)
 have yn1_nx3 : (n + 1 = nx + 3) = False := eq_false (by omega)
 have znx3_n2 : (nx + 3 = n + 2) = False := eq_false (by omega)
 have yn2_nx3 : (n + 2 = nx + 3) = False := eq_false (by omega)
 have znx3_qc : (nx + 3 = qc) = False := eq_false (by omega)
 have yqc_nx3 : (qc = nx + 3) = False := eq_false (by omega)
 have znx3_qd : (nx + 3 = qd) = False := eq_false (by omega)
 have yqd_nx3 : (qd = nx + 3) = False := eq_false (by omega)
 have znx3_qa : (nx + 3 = qa) = False := eq_false (by omega)
 have yqa_nx3 : (qa = nx + 3) = False := eq_false (by omega)
 have znx3_rs : (nx + 3 = rs) = False := eq_false (by omega)
 have yrs_nx3 : (rs = nx + 3) = False := eq_false (by omega)
 have zrs_n : (rs = n) = False := eq_false (by omega)
 have yn_rs : (n = rs) = False := eq_false (by omega)
 have zrs_n1 : (rs = n + 1) = False := eq_false (by omega)
 have yn1_rs : (n + 1 = rs) = False := eq_false (by omega)
 have zrs_n2 : (rs = n + 2) = False := eq_false (by omega)
 have yn2_rs : (n + 2 = rs) = False := eq_false (by omega)
 have zrs_qc : (rs = qc) = False := eq_false (by omega)
 have yqc_rs : (qc = rs) = False := eq_false (by omega)
 have zrs_qd : (rs = qd) = False := eq_false (by omega)
 have yqd_rs : (qd = rs) = False := eq_false (by omega)
 have zrs_qa : (rs = qa) = False := eq_false (by omega)
 have yqa_rs : (qa = rs) = False := eq_false (by omega)
 have ff := And.intro @b0 (And.intro @b2 (And.intro @bc (And.intro @bd (And.intro @ba (And.intro @hzr (And.intro @hzz (And.intro @znx3_n (And.intro @yn_nx3 (And.intro @znx3_n1 (And.intro @yn1_nx3 (And.intro @znx3_n2 (And.intro @yn2_nx3 (And.intro @znx3_qc (And.intro @yqc_nx3 (And.intro @znx3_qd (And.intro @yqd_nx3 (And.intro @znx3_qa (And.intro @yqa_nx3 (And.intro @znx3_rs (And.intro @yrs_nx3 (And.intro @zrs_n (And.intro @yn_rs (And.intro @zrs_n1 (And.intro @yn1_rs (And.intro @zrs_n2 (And.intro @yn2_rs (And.intro @zrs_qc (And.intro @yqc_rs (And.intro @zrs_qd (And.intro @yqd_rs (And.intro @zrs_qa (And.intro @yqa_rs ff))))))))))))))))))))))))))))))))
 refine stp Lun ?_
 refine Zaa ?_
 refine cd (fun c1 => ?_) (fun c1 => ?_) (hp := rfl) (hq := rfl)
 ·
  have hk2 : k < l.length := by simpa using c1
  have hc : chgOk l[k]! = true := hcs _ (mem_ix.2 ⟨k, hk2, rfl⟩)
  have ff := And.intro (Zke hk2) ff
  refine dw_skip ?_
  show DW _ _ _ _ _
  refine Zaa ?_
  refine Zda ?_
  refine stp Lun ?_
  refine Zaa ?_
  refine stp Lun ?_
  refine cd (fun c2 => ?_) (fun c2 => ?_)
  ·
   refine sgr ?_
   refine Zij (C := Lun) 1 (by omega) (Zub rfl) rfl rfl (by kernel_rfl) (by simp only [List.drop_succ_cons, List.drop_zero, List.take_succ_cons, List.take_zero, S.put, Nat.sub_self, Nat.reduceSub, go_sem, ff]; first | done | exact rfl) (by (try simp only [go_sem, ff]); all_goals exact ok0) (by rfl) (by simp only [go_sem, ff]; first | done | exact rfl) ?_
   refine Zvy Lun 2 (d := .iface 97 (.agg [.i 6])) (t := 97) (v := .agg #[.int .i64 6]) ?_ (fun w g q hrq => ?_)
   ·
    have hno9 := Zjf (by rw [Zbd hs]; exact Zgj hpy hc (.inl (by rw [hay]; grind))) l.length (by omega)
    refine ⟨_, _, _, rfl, rfl, Zml (n + 1) (n + 2) _ _ _ _ (.i 0) (by simp only [go_sem, ff]; exact rfl) (by simp only [go_sem, ff]) 6 (by omega) (by dsimp only; omega) (by dsimp only; omega), fun h1 n1 ⟨w1, w2, w3, w4⟩ => ?_⟩
    have ff := And.intro w1 (And.intro w2 ff)
    exact ⟨by simp only [go_sem, ff], h1, n1, fun _ => .inl rfl, Nat.le_refl _, .inl ⟨hno9, by simp only [go_sem, ff]⟩, fun q b q1 q2 q3 q4 => by rw [w4 q (by dsimp only; omega) (by omega) (by omega)]; simp only [upd]; repeat (first | exact hfr q b q1 q2 q3 q4 | rw [if_neg (by omega)])⟩
   ·
    cases hrq with | iface _ _ x hx =>
    cases hx with | agg _ vs hn9 h29 =>
    obtain ⟨vs⟩ := vs
    match vs, hn9 with
    | [y9], _ =>
     have := h29 0 (.i 6) y9 rfl rfl
     cases this
     rfl
  ·
   have c2 : ¬ (l[k]!.kind = 4 ∧ l[k]!.set.name = y.apex) := by rw [hay]; grind
   refine dw_skip ?_
   show DW _ _ _ _ _
   have hkd9 := chg_kind hc
   rcases hkd9 with hkd | hkd | hkd | hkd
   ·
    have hk1 : l[k]!.kind = 1 := hkd
    have hso := Zt1 hc (.inl hk1)
    have ff := And.intro @hk1 ff
    refine dr1q Lun 6 7 [] (hct := by exact uadd_ct l[k]!.set (n + 1) rs qc z.apex p _ _ (hzm.keep (fun q hq9 => by have hqn : q < nx := (by rcases hq9 with rfl | rfl | ⟨x, hx, rfl⟩; omega; exact zlt.2.1; exact zlt.2.2 x hx); simp only [upd]; repeat (first | rfl | rw [if_neg (by omega)]))) (by simp only [go_sem, ff]) (by omega) (fun x hx => by have := (hpd x hx).1; omega) (fun x hx => (hpd x hx).2) hso.1.sorted (by have := hso.1.len; omega) (by have := hso.1.len; omega)) (hkeep := ?_) (hk := ?_)
    ·
     intro res h2 n2 _ q hq; cases hq
    rintro res h2 n2 ⟨rfl, hst⟩
    try dsimp only at hst
    obtain ⟨rs2, p2, hz2, hl2, hkeep, hn2⟩ := hst
    have hl3 : lP p2 = Zrd y.sets l[k]! := by rw [hl2, hlp]; exact Ygb hpy.zo (Zwr hc) hk1
    have g0 := hkeep n _ (by simp only [go_sem, ff]; exact rfl) (by dsimp only; decide) (by dsimp only; decide) (by omega)
    have g2 := hkeep (n + 2) _ (by simp only [go_sem, ff]; exact rfl) (by dsimp only; decide) (by dsimp only; decide) (by omega)
    have gc := hkeep qc _ (by simp only [go_sem, ff]; exact rfl) (by dsimp only; decide) (by dsimp only; decide) (by omega)
    have gd := hkeep qd _ (by simp only [go_sem, ff]; exact rfl) (by dsimp only; decide) (by dsimp only; decide) (by omega)
    have ga := hkeep qa _ (by simp only [go_sem, ff]; exact rfl) (by dsimp only; decide) (by dsimp only; decide) (by omega)
    have gt := hkeep (nx + 3) _ (by simp only [go_sem, ff]; exact rfl) (by dsimp only; decide) (by dsimp only; decide) (by omega)
    have hfr2 : ∀ q b, q < n → h q = some b → b.ty ≠ 52 → b.ty ≠ 63 → h2 q = some b := fun q b q1 q2 q3 q4 => hkeep q b (by simp only [upd]; repeat (first | exact hfr q b q1 q2 q3 q4 | rw [if_neg (by omega)])) q3 q4 (by omega)
    have gz := hz2.z
    have gr := hz2.r
    have ff := And.intro g0 (And.intro g2 (And.intro gc (And.intro gd (And.intro ga (And.intro gz (And.intro gr ff))))))
    refine Zle Lun ?_
    try simp only [Zna]
    have hsw := hz2.snap
    have hsw1 : Zre h2 (.agg [.v (.string (bs z.apex)), .mrow rs2 0 p2.length]) = .agg [.v (.string (bs z.apex)), .list false ((lP p2).map Sgd.d)] := hsw.1
    have ff := And.intro @hsw1 ff
    refine stp LunS ?_ (hok := by (try simp only [go_sem, ff]); all_goals (first | done | ((repeat' (with_reducible apply And.intro)) <;> first | exact Zac ⟨z.apex, lP p2⟩ | (intros; exact Zac ⟨z.apex, lP p2⟩) | exact hsw.2 | (intros; exact hsw.2) | exact (fun row hrow c hc => by obtain ⟨x, hx, rfl⟩ := List.mem_map.1 hrow; exact (Zva (hz2.data x hx) 1).2 c hc) | (intros; exact (fun row hrow c hc => by obtain ⟨x, hx, rfl⟩ := List.mem_map.1 hrow; exact (Zva (hz2.data x hx) 1).2 c hc)) | rfl | skip)))
    refine cd (fun c3 => ?_) (fun c3 => ?_)
    ·
     refine sgr ?_
     refine Zij (C := Lun) 1 (by omega) (Zub rfl) rfl rfl (by kernel_rfl) (by simp only [List.drop_succ_cons, List.drop_zero, List.take_succ_cons, List.take_zero, S.put, Nat.sub_self, Nat.reduceSub, go_sem, ff]; first | done | exact rfl) (by (try simp only [go_sem, ff]); all_goals exact ok0) (by rfl) (by simp only [go_sem, ff]; first | done | exact rfl) ?_
     refine Zvy Lun 2 (d := .iface 97 (.agg [.i 6])) (t := 97) (v := .agg #[.int .i64 6]) ?_ (fun w g q hrq => ?_)
     ·
      have hno9 := Zjf (by rw [Zbd hs]; exact Zgj hpy hc (.inr (by rw [← hl3, hay]; exact c3))) l.length (by omega)
      refine ⟨_, _, _, rfl, rfl, Zml (n + 1) (n + 2) _ _ _ _ (.i 0) (by simp only [go_sem, ff]; exact rfl) (by simp only [go_sem, ff]) 6 (by omega) (by dsimp only; omega) (by dsimp only; omega), fun h1 n1 ⟨w1, w2, w3, w4⟩ => ?_⟩
      have ff := And.intro w1 (And.intro w2 ff)
      exact ⟨by simp only [go_sem, ff], h1, n1, fun _ => .inl rfl, Nat.le_refl _, .inl ⟨hno9, by simp only [go_sem, ff]⟩, fun q b q1 q2 q3 q4 => by rw [w4 q (by dsimp only; omega) (by omega) (by omega)]; exact hfr2 q b q1 q2 q3 q4⟩
     ·
      cases hrq with | iface _ _ x hx =>
      cases hx with | agg _ vs hn9 h29 =>
      obtain ⟨vs⟩ := vs
      match vs, hn9 with
      | [y9], _ =>
       have := h29 0 (.i 6) y9 rfl rfl
       cases this
       rfl
    ·
     refine dw_skip ?_
     show DW _ _ _ _ _
     have hzk : zoneOk ⟨y.apex, Zrd y.sets l[k]!⟩ = true := by rw [← hl3, hay]; exact c3
     have hstep := Zol hpy hc c2 hzk
     have hpn := (Zbe hpy hc hstep).1
     refine rgn Lun ?_
     show ∃ _, _
     exact rnd (k + 1, ⟨y.apex, Zrd y.sets l[k]!⟩, rs2, p2, h2, _) (h1 := ⟨iv, (by (try dsimp only); rw [Zbd hs]; exact hstep), (by first | (exact hpn) | (dsimp only; exact hpn)), (by first | (exact hay) | (dsimp only; exact hay)), (by first | (exact hz2) | (dsimp only; exact hz2)), (by first | (exact hl3) | (dsimp only; exact hl3)), (by first | (exact g0) | (dsimp only; exact g0)), (by first | (exact g2) | (dsimp only; exact g2)), (by first | (exact gc) | (dsimp only; exact gc)), (by first | (exact gd) | (dsimp only; exact gd)), (by first | (exact ga) | (dsimp only; exact ga)), (by first | (exact hfr2) | (dsimp only; exact hfr2)), (by first | (omega) | (dsimp only; omega)), trivial⟩)
   ·
    have hk1 : l[k]!.kind = 2 := hkd
    have hso := Zt1 hc (.inr hk1)
    have ff := And.intro @hk1 ff
    refine dr1q Lun 6 7 [] (hct := by exact utake_ct l[k]!.set (n + 1) rs qc qd z.apex p _ _ (hzm.keep (fun q hq9 => by have hqn : q < nx := (by rcases hq9 with rfl | rfl | ⟨x, hx, rfl⟩; omega; exact zlt.2.1; exact zlt.2.2 x hx); simp only [upd]; repeat (first | rfl | rw [if_neg (by omega)]))) (by simp only [go_sem, ff]) (by simp only [go_sem, ff]) (by omega) (fun x hx => by have := (hpd x hx).1; omega) (by have := hso.1.len; omega)) (hkeep := ?_) (hk := ?_)
    ·
     intro res h2 n2 _ q hq; cases hq
    rintro res h2 n2 ⟨rfl, hst⟩
    try dsimp only at hst
    obtain ⟨rs2, p2, hz2, hl2, hkeep, hn2⟩ := hst
    have hl3 : lP p2 = Zrd y.sets l[k]! := by rw [hl2, hlp]; exact Zo4 hpy.zo (Zwr hc) hk1
    have g0 := hkeep n _ (by simp only [go_sem, ff]; exact rfl) (by dsimp only; decide) (by dsimp only; decide) (by omega)
    have g2 := hkeep (n + 2) _ (by simp only [go_sem, ff]; exact rfl) (by dsimp only; decide) (by dsimp only; decide) (by omega)
    have gc := hkeep qc _ (by simp only [go_sem, ff]; exact rfl) (by dsimp only; decide) (by dsimp only; decide) (by omega)
    have gd := hkeep qd _ (by simp only [go_sem, ff]; exact rfl) (by dsimp only; decide) (by dsimp only; decide) (by omega)
    have ga := hkeep qa _ (by simp only [go_sem, ff]; exact rfl) (by dsimp only; decide) (by dsimp only; decide) (by omega)
    have gt := hkeep (nx + 3) _ (by simp only [go_sem, ff]; exact rfl) (by dsimp only; decide) (by dsimp only; decide) (by omega)
    have hfr2 : ∀ q b, q < n → h q = some b → b.ty ≠ 52 → b.ty ≠ 63 → h2 q = some b := fun q b q1 q2 q3 q4 => hkeep q b (by simp only [upd]; repeat (first | exact hfr q b q1 q2 q3 q4 | rw [if_neg (by omega)])) q3 q4 (by omega)
    have gz := hz2.z
    have gr := hz2.r
    have ff := And.intro g0 (And.intro g2 (And.intro gc (And.intro gd (And.intro ga (And.intro gz (And.intro gr ff))))))
    refine Zle Lun ?_
    try simp only [Zna]
    have hsw := hz2.snap
    have hsw1 : Zre h2 (.agg [.v (.string (bs z.apex)), .mrow rs2 0 p2.length]) = .agg [.v (.string (bs z.apex)), .list false ((lP p2).map Sgd.d)] := hsw.1
    have ff := And.intro @hsw1 ff
    refine stp LunS ?_ (hok := by (try simp only [go_sem, ff]); all_goals (first | done | ((repeat' (with_reducible apply And.intro)) <;> first | exact Zac ⟨z.apex, lP p2⟩ | (intros; exact Zac ⟨z.apex, lP p2⟩) | exact hsw.2 | (intros; exact hsw.2) | exact (fun row hrow c hc => by obtain ⟨x, hx, rfl⟩ := List.mem_map.1 hrow; exact (Zva (hz2.data x hx) 1).2 c hc) | (intros; exact (fun row hrow c hc => by obtain ⟨x, hx, rfl⟩ := List.mem_map.1 hrow; exact (Zva (hz2.data x hx) 1).2 c hc)) | rfl | skip)))
    refine cd (fun c3 => ?_) (fun c3 => ?_)
    ·
     refine sgr ?_
     refine Zij (C := Lun) 1 (by omega) (Zub rfl) rfl rfl (by kernel_rfl) (by simp only [List.drop_succ_cons, List.drop_zero, List.take_succ_cons, List.take_zero, S.put, Nat.sub_self, Nat.reduceSub, go_sem, ff]; first | done | exact rfl) (by (try simp only [go_sem, ff]); all_goals exact ok0) (by rfl) (by simp only [go_sem, ff]; first | done | exact rfl) ?_
     refine Zvy Lun 2 (d := .iface 97 (.agg [.i 6])) (t := 97) (v := .agg #[.int .i64 6]) ?_ (fun w g q hrq => ?_)
     ·
      have hno9 := Zjf (by rw [Zbd hs]; exact Zgj hpy hc (.inr (by rw [← hl3, hay]; exact c3))) l.length (by omega)
      refine ⟨_, _, _, rfl, rfl, Zml (n + 1) (n + 2) _ _ _ _ (.i 0) (by simp only [go_sem, ff]; exact rfl) (by simp only [go_sem, ff]) 6 (by omega) (by dsimp only; omega) (by dsimp only; omega), fun h1 n1 ⟨w1, w2, w3, w4⟩ => ?_⟩
      have ff := And.intro w1 (And.intro w2 ff)
      exact ⟨by simp only [go_sem, ff], h1, n1, fun _ => .inl rfl, Nat.le_refl _, .inl ⟨hno9, by simp only [go_sem, ff]⟩, fun q b q1 q2 q3 q4 => by rw [w4 q (by dsimp only; omega) (by omega) (by omega)]; exact hfr2 q b q1 q2 q3 q4⟩
     ·
      cases hrq with | iface _ _ x hx =>
      cases hx with | agg _ vs hn9 h29 =>
      obtain ⟨vs⟩ := vs
      match vs, hn9 with
      | [y9], _ =>
       have := h29 0 (.i 6) y9 rfl rfl
       cases this
       rfl
    ·
     refine dw_skip ?_
     show DW _ _ _ _ _
     have hzk : zoneOk ⟨y.apex, Zrd y.sets l[k]!⟩ = true := by rw [← hl3, hay]; exact c3
     have hstep := Zol hpy hc c2 hzk
     have hpn := (Zbe hpy hc hstep).1
     refine rgn Lun ?_
     show ∃ _, _
     exact rnd (k + 1, ⟨y.apex, Zrd y.sets l[k]!⟩, rs2, p2, h2, _) (h1 := ⟨iv, (by (try dsimp only); rw [Zbd hs]; exact hstep), (by first | (exact hpn) | (dsimp only; exact hpn)), (by first | (exact hay) | (dsimp only; exact hay)), (by first | (exact hz2) | (dsimp only; exact hz2)), (by first | (exact hl3) | (dsimp only; exact hl3)), (by first | (exact g0) | (dsimp only; exact g0)), (by first | (exact g2) | (dsimp only; exact g2)), (by first | (exact gc) | (dsimp only; exact gc)), (by first | (exact gd) | (dsimp only; exact gd)), (by first | (exact ga) | (dsimp only; exact ga)), (by first | (exact hfr2) | (dsimp only; exact hfr2)), (by first | (omega) | (dsimp only; omega)), trivial⟩)
   ·
    have hk1 : l[k]!.kind = 3 := hkd
    have ff := And.intro @hk1 ff
    refine dr1q Lun 6 7 [] (hct := by exact uset_ct l[k]!.set (n + 1) rs qc qd z.apex p _ _ (hzm.keep (fun q hq9 => by have hqn : q < nx := (by rcases hq9 with rfl | rfl | ⟨x, hx, rfl⟩; omega; exact zlt.2.1; exact zlt.2.2 x hx); simp only [upd]; repeat (first | rfl | rw [if_neg (by omega)]))) (by simp only [go_sem, ff]) (by simp only [go_sem, ff]) (by omega)) (hkeep := ?_) (hk := ?_)
    ·
     intro res h2 n2 _ q hq; cases hq
    rintro res h2 n2 ⟨rfl, hst⟩
    try dsimp only at hst
    obtain ⟨rs2, p2, hz2, hl2, hkeep, hn2⟩ := hst
    have hl3 : lP p2 = Zrd y.sets l[k]! := by rw [hl2, hlp]; exact Zv7 hpy.zo (Zwr hc) hk1
    have g0 := hkeep n _ (by simp only [go_sem, ff]; exact rfl) (by dsimp only; decide) (by dsimp only; decide) (by omega)
    have g2 := hkeep (n + 2) _ (by simp only [go_sem, ff]; exact rfl) (by dsimp only; decide) (by dsimp only; decide) (by omega)
    have gc := hkeep qc _ (by simp only [go_sem, ff]; exact rfl) (by dsimp only; decide) (by dsimp only; decide) (by omega)
    have gd := hkeep qd _ (by simp only [go_sem, ff]; exact rfl) (by dsimp only; decide) (by dsimp only; decide) (by omega)
    have ga := hkeep qa _ (by simp only [go_sem, ff]; exact rfl) (by dsimp only; decide) (by dsimp only; decide) (by omega)
    have gt := hkeep (nx + 3) _ (by simp only [go_sem, ff]; exact rfl) (by dsimp only; decide) (by dsimp only; decide) (by omega)
    have hfr2 : ∀ q b, q < n → h q = some b → b.ty ≠ 52 → b.ty ≠ 63 → h2 q = some b := fun q b q1 q2 q3 q4 => hkeep q b (by simp only [upd]; repeat (first | exact hfr q b q1 q2 q3 q4 | rw [if_neg (by omega)])) q3 q4 (by omega)
    have gz := hz2.z
    have gr := hz2.r
    have ff := And.intro g0 (And.intro g2 (And.intro gc (And.intro gd (And.intro ga (And.intro gz (And.intro gr ff))))))
    refine Zle Lun ?_
    try simp only [Zna]
    have hsw := hz2.snap
    have hsw1 : Zre h2 (.agg [.v (.string (bs z.apex)), .mrow rs2 0 p2.length]) = .agg [.v (.string (bs z.apex)), .list false ((lP p2).map Sgd.d)] := hsw.1
    have ff := And.intro @hsw1 ff
    refine stp LunS ?_ (hok := by (try simp only [go_sem, ff]); all_goals (first | done | ((repeat' (with_reducible apply And.intro)) <;> first | exact Zac ⟨z.apex, lP p2⟩ | (intros; exact Zac ⟨z.apex, lP p2⟩) | exact hsw.2 | (intros; exact hsw.2) | exact (fun row hrow c hc => by obtain ⟨x, hx, rfl⟩ := List.mem_map.1 hrow; exact (Zva (hz2.data x hx) 1).2 c hc) | (intros; exact (fun row hrow c hc => by obtain ⟨x, hx, rfl⟩ := List.mem_map.1 hrow; exact (Zva (hz2.data x hx) 1).2 c hc)) | rfl | skip)))
    refine cd (fun c3 => ?_) (fun c3 => ?_)
    ·
     refine sgr ?_
     refine Zij (C := Lun) 1 (by omega) (Zub rfl) rfl rfl (by kernel_rfl) (by simp only [List.drop_succ_cons, List.drop_zero, List.take_succ_cons, List.take_zero, S.put, Nat.sub_self, Nat.reduceSub, go_sem, ff]; first | done | exact rfl) (by (try simp only [go_sem, ff]); all_goals exact ok0) (by rfl) (by simp only [go_sem, ff]; first | done | exact rfl) ?_
     refine Zvy Lun 2 (d := .iface 97 (.agg [.i 6])) (t := 97) (v := .agg #[.int .i64 6]) ?_ (fun w g q hrq => ?_)
     ·
      have hno9 := Zjf (by rw [Zbd hs]; exact Zgj hpy hc (.inr (by rw [← hl3, hay]; exact c3))) l.length (by omega)
      refine ⟨_, _, _, rfl, rfl, Zml (n + 1) (n + 2) _ _ _ _ (.i 0) (by simp only [go_sem, ff]; exact rfl) (by simp only [go_sem, ff]) 6 (by omega) (by dsimp only; omega) (by dsimp only; omega), fun h1 n1 ⟨w1, w2, w3, w4⟩ => ?_⟩
      have ff := And.intro w1 (And.intro w2 ff)
      exact ⟨by simp only [go_sem, ff], h1, n1, fun _ => .inl rfl, Nat.le_refl _, .inl ⟨hno9, by simp only [go_sem, ff]⟩, fun q b q1 q2 q3 q4 => by rw [w4 q (by dsimp only; omega) (by omega) (by omega)]; exact hfr2 q b q1 q2 q3 q4⟩
     ·
      cases hrq with | iface _ _ x hx =>
      cases hx with | agg _ vs hn9 h29 =>
      obtain ⟨vs⟩ := vs
      match vs, hn9 with
      | [y9], _ =>
       have := h29 0 (.i 6) y9 rfl rfl
       cases this
       rfl
    ·
     refine dw_skip ?_
     show DW _ _ _ _ _
     have hzk : zoneOk ⟨y.apex, Zrd y.sets l[k]!⟩ = true := by rw [← hl3, hay]; exact c3
     have hstep := Zol hpy hc c2 hzk
     have hpn := (Zbe hpy hc hstep).1
     refine rgn Lun ?_
     show ∃ _, _
     exact rnd (k + 1, ⟨y.apex, Zrd y.sets l[k]!⟩, rs2, p2, h2, _) (h1 := ⟨iv, (by (try dsimp only); rw [Zbd hs]; exact hstep), (by first | (exact hpn) | (dsimp only; exact hpn)), (by first | (exact hay) | (dsimp only; exact hay)), (by first | (exact hz2) | (dsimp only; exact hz2)), (by first | (exact hl3) | (dsimp only; exact hl3)), (by first | (exact g0) | (dsimp only; exact g0)), (by first | (exact g2) | (dsimp only; exact g2)), (by first | (exact gc) | (dsimp only; exact gc)), (by first | (exact gd) | (dsimp only; exact gd)), (by first | (exact ga) | (dsimp only; exact ga)), (by first | (exact hfr2) | (dsimp only; exact hfr2)), (by first | (omega) | (dsimp only; omega)), trivial⟩)
   ·
    have hk1 : l[k]!.kind = 4 := hkd
    have ff := And.intro @hk1 ff
    refine dr1q Lun 6 7 [] (hct := by exact uname_ct l[k]!.set (n + 1) rs qc z.apex p _ _ (hzm.keep (fun q hq9 => by have hqn : q < nx := (by rcases hq9 with rfl | rfl | ⟨x, hx, rfl⟩; omega; exact zlt.2.1; exact zlt.2.2 x hx); simp only [upd]; repeat (first | rfl | rw [if_neg (by omega)]))) (by simp only [go_sem, ff]) (by omega)) (hkeep := ?_) (hk := ?_)
    ·
     intro res h2 n2 _ q hq; cases hq
    rintro res h2 n2 ⟨rfl, hst⟩
    try dsimp only at hst
    rw [Zr9 (q := fun x => !isNm l[k]!.set.name x)] at hst
    obtain ⟨rs2, p2, hz2, hl2, hkeep, hn2⟩ := hst
    have hl3 : lP p2 = Zrd y.sets l[k]! := by rw [hl2, hlp]; exact Zi5 hk1
    have g0 := hkeep n _ (by simp only [go_sem, ff]; exact rfl) (by dsimp only; decide) (by dsimp only; decide) (by omega)
    have g2 := hkeep (n + 2) _ (by simp only [go_sem, ff]; exact rfl) (by dsimp only; decide) (by dsimp only; decide) (by omega)
    have gc := hkeep qc _ (by simp only [go_sem, ff]; exact rfl) (by dsimp only; decide) (by dsimp only; decide) (by omega)
    have gd := hkeep qd _ (by simp only [go_sem, ff]; exact rfl) (by dsimp only; decide) (by dsimp only; decide) (by omega)
    have ga := hkeep qa _ (by simp only [go_sem, ff]; exact rfl) (by dsimp only; decide) (by dsimp only; decide) (by omega)
    have gt := hkeep (nx + 3) _ (by simp only [go_sem, ff]; exact rfl) (by dsimp only; decide) (by dsimp only; decide) (by omega)
    have hfr2 : ∀ q b, q < n → h q = some b → b.ty ≠ 52 → b.ty ≠ 63 → h2 q = some b := fun q b q1 q2 q3 q4 => hkeep q b (by simp only [upd]; repeat (first | exact hfr q b q1 q2 q3 q4 | rw [if_neg (by omega)])) q3 q4 (by omega)
    have gz := hz2.z
    have gr := hz2.r
    have ff := And.intro g0 (And.intro g2 (And.intro gc (And.intro gd (And.intro ga (And.intro gz (And.intro gr ff))))))
    refine Zle Lun ?_
    try simp only [Zna]
    have hsw := hz2.snap
    have hsw1 : Zre h2 (.agg [.v (.string (bs z.apex)), .mrow rs2 0 p2.length]) = .agg [.v (.string (bs z.apex)), .list false ((lP p2).map Sgd.d)] := hsw.1
    have ff := And.intro @hsw1 ff
    refine stp LunS ?_ (hok := by (try simp only [go_sem, ff]); all_goals (first | done | ((repeat' (with_reducible apply And.intro)) <;> first | exact Zac ⟨z.apex, lP p2⟩ | (intros; exact Zac ⟨z.apex, lP p2⟩) | exact hsw.2 | (intros; exact hsw.2) | exact (fun row hrow c hc => by obtain ⟨x, hx, rfl⟩ := List.mem_map.1 hrow; exact (Zva (hz2.data x hx) 1).2 c hc) | (intros; exact (fun row hrow c hc => by obtain ⟨x, hx, rfl⟩ := List.mem_map.1 hrow; exact (Zva (hz2.data x hx) 1).2 c hc)) | rfl | skip)))
    refine cd (fun c3 => ?_) (fun c3 => ?_)
    ·
     refine sgr ?_
     refine Zij (C := Lun) 1 (by omega) (Zub rfl) rfl rfl (by kernel_rfl) (by simp only [List.drop_succ_cons, List.drop_zero, List.take_succ_cons, List.take_zero, S.put, Nat.sub_self, Nat.reduceSub, go_sem, ff]; first | done | exact rfl) (by (try simp only [go_sem, ff]); all_goals exact ok0) (by rfl) (by simp only [go_sem, ff]; first | done | exact rfl) ?_
     refine Zvy Lun 2 (d := .iface 97 (.agg [.i 6])) (t := 97) (v := .agg #[.int .i64 6]) ?_ (fun w g q hrq => ?_)
     ·
      have hno9 := Zjf (by rw [Zbd hs]; exact Zgj hpy hc (.inr (by rw [← hl3, hay]; exact c3))) l.length (by omega)
      refine ⟨_, _, _, rfl, rfl, Zml (n + 1) (n + 2) _ _ _ _ (.i 0) (by simp only [go_sem, ff]; exact rfl) (by simp only [go_sem, ff]) 6 (by omega) (by dsimp only; omega) (by dsimp only; omega), fun h1 n1 ⟨w1, w2, w3, w4⟩ => ?_⟩
      have ff := And.intro w1 (And.intro w2 ff)
      exact ⟨by simp only [go_sem, ff], h1, n1, fun _ => .inl rfl, Nat.le_refl _, .inl ⟨hno9, by simp only [go_sem, ff]⟩, fun q b q1 q2 q3 q4 => by rw [w4 q (by dsimp only; omega) (by omega) (by omega)]; exact hfr2 q b q1 q2 q3 q4⟩
     ·
      cases hrq with | iface _ _ x hx =>
      cases hx with | agg _ vs hn9 h29 =>
      obtain ⟨vs⟩ := vs
      match vs, hn9 with
      | [y9], _ =>
       have := h29 0 (.i 6) y9 rfl rfl
       cases this
       rfl
    ·
     refine dw_skip ?_
     show DW _ _ _ _ _
     have hzk : zoneOk ⟨y.apex, Zrd y.sets l[k]!⟩ = true := by rw [← hl3, hay]; exact c3
     have hstep := Zol hpy hc c2 hzk
     have hpn := (Zbe hpy hc hstep).1
     refine rgn Lun ?_
     show ∃ _, _
     exact rnd (k + 1, ⟨y.apex, Zrd y.sets l[k]!⟩, rs2, p2, h2, _) (h1 := ⟨iv, (by (try dsimp only); rw [Zbd hs]; exact hstep), (by first | (exact hpn) | (dsimp only; exact hpn)), (by first | (exact hay) | (dsimp only; exact hay)), (by first | (exact hz2) | (dsimp only; exact hz2)), (by first | (exact hl3) | (dsimp only; exact hl3)), (by first | (exact g0) | (dsimp only; exact g0)), (by first | (exact g2) | (dsimp only; exact g2)), (by first | (exact gc) | (dsimp only; exact gc)), (by first | (exact gd) | (dsimp only; exact gd)), (by first | (exact ga) | (dsimp only; exact ga)), (by first | (exact hfr2) | (dsimp only; exact hfr2)), (by first | (omega) | (dsimp only; omega)), trivial⟩)
 ·
  have hk3 : k = l.length := by have : ¬ k < l.length := (by simpa using c1); omega
  subst hk3
  refine Zja ?_
  show DW _ _ _ _ _
  refine stp Lun ?_
  refine Zba ?_
  refine ⟨.returning, .returning, _, rfl, rfl, uch1_ret (n + 1) (n + 2) _ _, fun h1 n1 ⟨w1, w2⟩ => ?_⟩
  have v1 : h1 (n + 1) = some ⟨24, [[.v (.string (bs z.apex)), .mrow rs 0 p.length]]⟩ := by rw [w1 _ (by dsimp only; omega)]; simp only [go_sem, ff]
  have v2 : h1 (n + 2) = some ⟨37, [[.i 0]]⟩ := by rw [w1 _ (by dsimp only; omega)]; simp only [go_sem, ff]
  have ff := And.intro v1 (And.intro v2 ff)
  refine ⟨by simp only [go_sem, ff], h1, n1, fun _ => .inl rfl, Nat.le_refl _, .inr ⟨y, n + 1, rs, p, hs, by simp only [go_sem, ff], hzm.keep (fun q hq => ?_), hlp, by dsimp only at w2; omega, by dsimp only at w2; omega, fun x hx => by have := zlt.2.2 x hx; dsimp only at w2; omega⟩, fun q b q1 q2 q3 q4 => by rw [w1 q (by dsimp only; omega)]; simp only [upd]; repeat (first | exact hfr q b q1 q2 q3 q4 | rw [if_neg (by omega)])⟩
  have hqn : q < nx := by rcases hq with rfl | rfl | ⟨x, hx, rfl⟩; omega; exact zlt.2.1; exact zlt.2.2 x hx
  have hq5 : q ≠ n + 2 := by rcases hq with rfl | rfl | ⟨x, hx, rfl⟩; omega; exact hr2; intro e; have := hzm.d x hx; rw [e, b2] at this; cases this
  rw [w1 q (by dsimp only; omega)]
  simp only [upd]
  rw [if_neg hq5]
  by_cases e9 : q = n + 1
  ·
   subst e9; simp only [if_true]; rw [hzz]
  ·
   simp only [if_neg e9]
set_option maxRecDepth 10000
theorem snapW_rs {td ts : TypeId} {h : H} {rs : Nat} {p : List PS} (hr : h rs = some ⟨ts, p.map rowP⟩) (hp : ∀ x ∈ p, Zlo td h x) : Zre h (.mrow rs 0 p.length) = .list false ((lP p).map Sgd.d) ∧ Zra h 5 (.mrow rs 0 p.length) := by
 have hrw : rowsOf (.mrow rs 0 p.length) h = p.map rowP := by simp only [rowsOf, hr, List.drop_zero]; exact List.take_of_length_le (by simp)
 refine ⟨?_, ?_⟩
 ·
  show wk (snap h 5 (.mrow rs 0 p.length)) = _
  rw [Go.Zon.snap_mrow, hrw]
  simp only [wk, Zzw hp]
 ·
  refine ⟨⟨by rw [hr]; rfl, by rw [hrw]; simp⟩, ?_⟩
  rw [hrw]
  intro row hrow c hc
  obtain ⟨x, hx, rfl⟩ := List.mem_map.1 hrow
  exact (Zva (hp x hx) 2).2 c hc
theorem Zt7 {td : TypeId} {h : H} {x : PS} (hx : Zlo td h x) : Zre h (.agg (rowP x)) = .agg x.2.d ∧ Zra h 5 (.agg (rowP x)) := by
 refine ⟨?_, (Zva hx 2).2⟩
 have := (Zva hx 3).1
 show wk (snap h 5 (.agg (rowP x))) = _
 rw [Go.Zon.snap_agg]
 simp only [wk, Zbg]
 rw [this]
@[go_sem] theorem snapW_fn9 {h : H} {f : Fn} : Zre h (.fn f [] []) = .fn f [] [] := rfl
@[go_sem] theorem snapOk_fn9 {h : H} {f : Fn} : Zra h 5 (.fn f [] []) = True := eq_true (by simp [Zra])
@[go_sem] theorem snapW_list9 {h : H} {b : Bool} {l : List (List D)} : Zre h (.list b l) = wk (.list b l) := rfl
theorem Zpr {y z : Zon} (hz : PlainZ z) (hy : PlainZ y) (ha : y.apex = z.apex) : eqSets z.sets y.sets = sameZ y z := by
 unfold eqSets sameZ
 rw [Bool.eq_iff_iff, Bool.and_eq_true, decide_eq_true_eq, decide_eq_true_eq, Zma]
 constructor
 ·
  rintro ⟨h1, h2⟩
  have hs : y.sets = z.sets := by
   refine Zhm! h1.symm fun i hi => ?_
   have h3 : z.sets[i]!.set = y.sets[i]!.set := of_decide_eq_true (h2 i (Nat.zero_le _) (by omega))
   have h4 := hz.sig _ (Zya (show i < z.sets.length by omega))
   have h5 := hy.sig _ (Zya hi)
   exact Ze0 h3.symm (by rw [h4, h5])
  cases y; cases z
  simp only at ha hs
  rw [ha, hs]
 ·
  rintro rfl
  exact ⟨rfl, fun i _ _ => decide_eq_true rfl⟩
theorem same_sgd {a b : Sgd} (ha : a.sigs = []) (hb : b.sigs = []) : decide (a.set = b.set) = sameSgd b a := by
 unfold sameSgd
 rw [Bool.eq_iff_iff, decide_eq_true_eq, decide_eq_true_eq]
 exact ⟨fun h => Ze0 h.symm (by rw [ha, hb]), fun h => by rw [h]⟩
theorem Zqs {z : Zon} (h : PlainZ z) : findOk z.sets ⟨z.apex, 4⟩ = true ∧ findIx z.sets ⟨z.apex, 4⟩ < z.sets.length ∧ z.sets[findIx z.sets ⟨z.apex, 4⟩]! = Zua z := by
 have h1 := Zkh h.ok
 have h2 := Zuj h.zo.ord h.zo.nms (q := ⟨z.apex, 4⟩) h.zo.apex
 have h3 : Zog z.sets ⟨z.apex, 4⟩ = some (Zua z) := h1
 rw [h3] at h2
 cases hf : findOk z.sets ⟨z.apex, 4⟩ with
 | false => rw [hf] at h2; cases h2
 | true =>
  rw [hf, if_pos rfl] at h2
  exact ⟨rfl, (Ztm h.zo.nms (q := ⟨z.apex, 4⟩) h.zo.apex hf).1, (Option.some.inj h2).symm⟩
theorem bump_set {p : List PS} {a : Str} (hy : PlainZ ⟨a, lP p⟩) {ix : Nat} (hix : ix = findIx (lP p) ⟨a, 4⟩) : ix < p.length ∧ p[ix]!.2 = Zua ⟨a, lP p⟩ ∧ ∀ r, lP (p.set ix (r, p[ix]!.2.withD [⟨[], nextN p[ix]!.2.set.data[0]!.n, p[ix]!.2.set.data[0]!.m⟩])) = (bumpR ⟨a, lP p⟩).sets := by
 obtain ⟨h1, h2, h3⟩ := Zqs hy
 simp only at h1 h2 h3
 rw [← hix] at h2 h3
 rw [Zse] at h2
 rw [Zu5 h2] at h3
 refine ⟨h2, h3, fun r => ?_⟩
 rw [Zi3, Zkw hy.ok]
 show (lP p).set ix _ = Zvo (lP p) (stN _ _)
 have e : (p[ix]!.2.withD [⟨[], nextN p[ix]!.2.set.data[0]!.n, p[ix]!.2.set.data[0]!.m⟩]) = stN ⟨a, lP p⟩ (nextN (Zcc ⟨a, lP p⟩)) := by
  rw [h3]
  rfl
 show (lP p).set ix (p[ix]!.2.withD [⟨[], nextN p[ix]!.2.set.data[0]!.n, p[ix]!.2.set.data[0]!.m⟩]) = _
 rw [e]
 refine Zf0 hy.ord (by rw [Zse]; exact h2) ?_
 rw [Zu5 h2, h3, stN_q hy.ok]
 exact (Zld hy.ok).2
theorem Za8 {p : List PS} {i : Nat} (hi : i < p.length) {d : List Dat} (hd : p[i]!.2.set.data.length = d.length) : (p.map rowP).set i (rowP (p[i]!.1, p[i]!.2.withD d)) = p.map rowP := by
 have e : rowP (p[i]!.1, p[i]!.2.withD d) = (p.map rowP)[i]'(by simpa using hi) := by
  rw [List.getElem_map, getElem!_pos p i hi]
  rw [getElem!_pos p i hi] at hd
  simp only [rowP, Sgd.withD, hd]
 rw [e, List.set_getElem_self]
theorem bo37 : Zea Tryz.prog 37 = true := by kernel_rfl
theorem Zh7 (z : Zon) (zc rs : Nat) (p : List PS) (h : H) (n : Nat) (hz : PlainZ z) (hy : PlainZ (⟨z.apex, lP p⟩ : Zon)) (hm : ZM 24 52 63 zc rs z.apex p h) : RCt Tryz.prog 37 [.agg z.d, .agg [.v (.string (bs z.apex)), .mrow rs 0 p.length]] h n (fun d h' n' => d = .tuple [] ∧ ∃ p', ZM 24 52 63 zc rs z.apex p' h' ∧ p'.length = p.length ∧ lP p' = (Zrf z (⟨z.apex, lP p⟩ : Zon)).sets ∧ (∀ q, q < n → q ≠ zc → q ≠ rs → (∀ x ∈ p, q ≠ x.1) → h' q = h q)) := by
 refine Zmb Tryz.func37 rfl bo37 (by simp [Tryz.f37]) (fun hnone => ?_)
 unfold Tryz.f37
 have ff := True.intro
 have zlt := hm.lt hnone
 have hzz := hm.z
 have hzr := hm.r
 have zlen := hz.zo.len
 have plen : p.length ≤ 20000 := by have : (lP p).length ≤ 20000 := hy.zo.len; rwa [Zse] at this
 have hm2 : ZM 24 52 63 zc rs z.apex p (upd (upd h n (some ⟨24, [[.v (.string (bs z.apex)), .list false (z.sets.map Sgd.d)]]⟩)) (n + 1) (some ⟨24, [[.v (.string (bs z.apex)), .mrow rs 0 p.length]]⟩)) := (hm.fresh (hnone n (Nat.le_refl _))).fresh (by rw [upd_ne _ _ _ _ (by omega)]; exact hnone _ (by omega))
 obtain ⟨iz, hiz⟩ : ∃ q, q = findIx z.sets ⟨z.apex, 4⟩ := ⟨_, rfl⟩
 obtain ⟨ix, hix⟩ : ∃ q, q = findIx (lP p) ⟨z.apex, 4⟩ := ⟨_, rfl⟩
 obtain ⟨s1, s2, s3⟩ := Zqs hz
 rw [← hiz] at s2 s3
 obtain ⟨b1, b2, b3⟩ := bump_set hy hix
 have hiz2 := hiz.symm
 have hix2 := hix.symm
 have hrow : (p.map rowP).getD ix [] = [.v (.string (bs p[ix]!.2.set.name)), .i p[ix]!.2.set.ty, .i p[ix]!.2.set.life, .mrow p[ix]!.1 0 p[ix]!.2.set.data.length, .list true []] := Zfv b1
 have hxd := hm.d p[ix]! (Zbh b1)
 have hxe := hm.ne p[ix]! (Zbh b1)
 have hlr : (p.map rowP).length = p.length := by simp
 have hxn := zlt.2.2 p[ix]! (Zbh b1)
 obtain ⟨sd1, sd2, sd3, _, _⟩ := Zlh hy.ok
 rw [← b2] at sd1
 have hdl : p[ix]!.2.set.data.length = 1 := by rw [sd1]; rfl
 have hd0 : (p[ix]!.2.set.data.map Dat.d).getD 0 [] = [.v (.string (bs [])), .i p[ix]!.2.set.data[0]!.n, .i p[ix]!.2.set.data[0]!.m] := by rw [Zkc (by omega)]; rw [sd1]; rfl
 have hdn : p[ix]!.2.set.data[0]!.n = Zcc (⟨z.apex, lP p⟩ : Zon) := by rw [sd1]; rfl
 have hdn2 := hdn
 have hsw := hm2.snap
 have hsw1 : Zre (upd (upd h n (some ⟨24, [[.v (.string (bs z.apex)), .list false (z.sets.map Sgd.d)]]⟩)) (n + 1) (some ⟨24, [[.v (.string (bs z.apex)), .mrow rs 0 p.length]]⟩)) (.agg [.v (.string (bs z.apex)), .mrow rs 0 p.length]) = .agg [.v (.string (bs z.apex)), .list false ((lP p).map Sgd.d)] := hsw.1
 have hsr := snapW_rs hm2.r hm2.data
 have hsr1 := hsr.1
 have hso := Zt7 (hm2.data _ (Zbh b1))
 have hso1 : Zre (upd (upd h n (some ⟨24, [[.v (.string (bs z.apex)), .list false (z.sets.map Sgd.d)]]⟩)) (n + 1) (some ⟨24, [[.v (.string (bs z.apex)), .mrow rs 0 p.length]]⟩)) (.agg [.v (.string (bs p[ix]!.2.set.name)), .i p[ix]!.2.set.ty, .i p[ix]!.2.set.life, .mrow p[ix]!.1 0 p[ix]!.2.set.data.length, .list true []]) = .agg [.v (.string (bs p[ix]!.2.set.name)), .i p[ix]!.2.set.ty, .i p[ix]!.2.set.life, .list false (p[ix]!.2.set.data.map Dat.d), .list false (p[ix]!.2.sigs.map RSig.d)] := hso.1
 have hx1 : (p[ix]!.1 = n) = False := eq_false (by omega)
 have hx2 : (n = p[ix]!.1) = False := eq_false (by omega)
 have hx3 : (p[ix]!.1 = n + 1) = False := eq_false (by omega)
 have hx4 : (n + 1 = p[ix]!.1) = False := eq_false (by omega)
 have hx5 : (p[ix]!.1 = rs) = False := eq_false hxe.2
 have hx6 : (rs = p[ix]!.1) = False := eq_false (fun e => hxe.2 e.symm)
 have hgz := Zla s2
 have hss : Zre (upd (upd h n (some ⟨24, [[.v (.string (bs z.apex)), .list false (z.sets.map Sgd.d)]]⟩)) (n + 1) (some ⟨24, [[.v (.string (bs z.apex)), .mrow rs 0 p.length]]⟩)) (.agg [.v (.string (bs z.sets[iz]!.set.name)), .i z.sets[iz]!.set.ty, .i z.sets[iz]!.set.life, .list false (z.sets[iz]!.set.data.map Dat.d), .list false (z.sets[iz]!.sigs.map RSig.d)]) = .agg [.v (.string (bs z.sets[iz]!.set.name)), .i z.sets[iz]!.set.ty, .i z.sets[iz]!.set.life, .list false (z.sets[iz]!.set.data.map Dat.d), .list false (z.sets[iz]!.sigs.map RSig.d)] := by simp only [Zre, Go.Zon.snap_agg, List.map_cons, List.map_nil, Go.Zon.snap_v, Go.Zon.snap_list, wk, wks, Zxg, Zt6]
 have zn_rs : (n = rs) = False := eq_false (by omega)
 have yrs_n : (rs = n) = False := eq_false (by omega)
 have zn_zc : (n = zc) = False := eq_false (by omega)
 have yzc_n : (zc = n) = False := eq_false (by omega)
 have zn1_rs : (n + 1 = rs) = False := eq_false (by omega)
 have yrs_n1 : (rs = n + 1) = False := eq_false (by omega)
 have zn1_zc : (n + 1 = zc) = False := eq_false (by omega)
 have yzc_n1 : (zc = n + 1) = False := eq_false (by omega)
 have ff := And.intro @hzz (And.intro @hzr (And.intro @hiz2 (And.intro @hix2 (And.intro @hrow (And.intro @hxd (And.intro @hlr (And.intro @hd0 (And.intro @hsw1 (And.intro @hss (And.intro @hsr1 (And.intro @hso1 (And.intro @hx1 (And.intro @hx2 (And.intro @hx3 (And.intro @hx4 (And.intro @hx5 (And.intro @hx6 (And.intro @hgz (And.intro @s1 (And.intro @zn_rs (And.intro @yrs_n (And.intro @zn_zc (And.intro @yzc_n (And.intro @zn1_rs (And.intro @yrs_n1 (And.intro @zn1_zc (And.intro @yzc_n1 ff)))))))))))))))))))))))))))
 refine stp Lun ?_
 refine Zaa ?_
 refine stp LunS ?_ (hok := by (try simp only [go_sem, ff]); all_goals (first | done | ((repeat' (with_reducible apply And.intro)) <;> first | exact Zg7 z.sets (lP p) (by omega) (fun s hs => by have := (hz.zo.ok s hs).len; omega) | (intros; exact Zg7 z.sets (lP p) (by omega) (fun s hs => by have := (hz.zo.ok s hs).len; omega)) | exact (fun row hrow c hc => by obtain ⟨x, hx, rfl⟩ := List.mem_map.1 hrow; exact (Zva (hm2.data x hx) 2).2 c hc) | (intros; exact (fun row hrow c hc => by obtain ⟨x, hx, rfl⟩ := List.mem_map.1 hrow; exact (Zva (hm2.data x hx) 2).2 c hc)) | exact hsr.2 | (intros; exact hsr.2) | rfl | skip)))
 refine cd (fun c1 => ?_) (fun c1 => ?_) (hp := rfl) (hq := rfl)
 ·
  refine Zba ?_
  refine Zuk (_) (hh := fun _ => .inl rfl) (hr := ?_)
  try simp only [go_sem, ff]
  refine ⟨p, hm2, rfl, ?_, fun q q1 q2 q3 q4 => ?_⟩
  ·
   unfold Zrf; rw [if_neg (by rw [← Zpr hz hy rfl, c1]; simp)]
  ·
   simp only [upd]; rw [if_neg (by omega), if_neg (by omega)]
 ·
  refine dw_skip ?_
  show DW _ _ _ _ _
  refine stp Lun ?_ (hok := by (try simp only [go_sem, ff]); all_goals (first | done | ((repeat' (with_reducible apply And.intro)) <;> first | exact (by have h9 := Zsc z z.apex 4 (by omega); rw [← hiz, s1] at h9; exact h9) | (intros; exact (by have h9 := Zsc z z.apex 4 (by omega); rw [← hiz, s1] at h9; exact h9)) | skip)))
  refine stp LunS ?_ (hok := by (try simp only [go_sem, ff]); all_goals (first | done | ((repeat' (with_reducible apply And.intro)) <;> first | exact (by have h9 := Zsc ⟨z.apex, lP p⟩ z.apex 4 (by rw [Zse]; omega); rw [← hix] at h9; exact h9) | (intros; exact (by have h9 := Zsc ⟨z.apex, lP p⟩ z.apex 4 (by rw [Zse]; omega); rw [← hix] at h9; exact h9)) | exact (fun row hrow c hc => by obtain ⟨x, hx, rfl⟩ := List.mem_map.1 hrow; exact (Zva (hm2.data x hx) 1).2 c hc) | (intros; exact (fun row hrow c hc => by obtain ⟨x, hx, rfl⟩ := List.mem_map.1 hrow; exact (Zva (hm2.data x hx) 1).2 c hc)) | exact hsw.2 | (intros; exact hsw.2) | rfl | skip)))
  refine stp LunS ?_ (hok := by (try simp only [go_sem, ff]); all_goals (first | done | ((repeat' (with_reducible apply And.intro)) <;> first | exact Zep z.sets[iz]! p[ix]!.2 (by have := (hz.zo.ok _ (Zya s2)).len; omega) | (intros; exact Zep z.sets[iz]! p[ix]!.2 (by have := (hz.zo.ok _ (Zya s2)).len; omega)) | exact hso.2 | (intros; exact hso.2) | exact (fun row hrow c hc => by obtain ⟨x, hx, rfl⟩ := List.mem_map.1 hrow; simp only [Dat.d, List.mem_cons, List.not_mem_nil, or_false] at hc; rcases hc with rfl | rfl | rfl <;> rfl) | (intros; exact (fun row hrow c hc => by obtain ⟨x, hx, rfl⟩ := List.mem_map.1 hrow; simp only [Dat.d, List.mem_cons, List.not_mem_nil, or_false] at hc; rcases hc with rfl | rfl | rfl <;> rfl)) | omega | (intros; omega) | rfl | skip)))
  refine cd (fun c2 => ?_) (fun c2 => ?_) (hp := rfl) (hq := rfl)
  ·
   refine stp Lun ?_
   refine rgn Lun ?_
   refine Zuk (_) (hh := fun _ => .inl rfl) (hr := ?_)
   try simp only [go_sem, ff]
   have hD : p[ix]!.2.set.data.map Dat.d = [[.v (.string (bs [])), .i p[ix]!.2.set.data[0]!.n, .i p[ix]!.2.set.data[0]!.m]] := by rw [sd1]; rfl
   refine ⟨p.set ix (p[ix]!.1, p[ix]!.2.withD [⟨[], nextN p[ix]!.2.set.data[0]!.n, p[ix]!.2.set.data[0]!.m⟩]), hm2.setD b1 _ ?_ ?_ ?_ (fun x hx hne => ?_), by simp, ?_, fun q q1 q2 q3 q4 => ?_⟩
   ·
    exact upd_ne _ _ _ _ (fun e => hxe.1 e.symm)
   ·
    rw [upd_ne _ _ _ _ (fun e => hxe.2 e.symm), Za8 b1 (by rw [hdl]; rfl)]; exact hm2.r
   ·
    rw [upd_same, hD]; rfl
   ·
    exact upd_ne _ _ _ _ hne
   ·
    have k2 : sameSgd (Zua (⟨z.apex, lP p⟩ : Zon)) (Zua z) = true := (by rw [← b2, ← s3, ← same_sgd (hz.sig _ (Zya s2)) (hm.sig _ (Zbh b1))]; exact c2)
    rw [b3]; unfold Zrf; rw [if_pos ⟨(Zpr hz hy rfl).symm.trans (by simpa using c1), k2⟩]
   ·
    have := q4 p[ix]! (Zbh b1); simp only [upd]; rw [if_neg this, if_neg (by omega), if_neg (by omega)]
  ·
   refine dw_skip ?_
   refine Zuk (_) (hh := fun _ => .inl rfl) (hr := ?_)
   try simp only [go_sem, ff]
   refine ⟨p, hm2, rfl, ?_, fun q q1 q2 q3 q4 => ?_⟩
   ·
    unfold Zrf; rw [if_neg]; rintro ⟨k1, k2⟩; have k3 : z.sets[iz]!.set = p[ix]!.2.set := (by rw [s3, b2]; rw [of_decide_eq_true k2]); rw [decide_eq_true k3] at c2; cases c2
   ·
    simp only [upd]; rw [if_neg (by omega), if_neg (by omega)]
set_option maxRecDepth 10000
theorem Zn4 {z : Zon} {l : List Chg} (hz : PlainZ z) (hcs : ∀ c ∈ l, chgOk c = true) (hll : l.length ≤ 1000) (hn : Zxm z l = none) (h : H) (n : Nat) : RCt Tryz.prog 36 [.agg z.d, .list false (l.map Chg.d)] h n (fun d h' n' => d = .tuple [.agg [.v (.string (bs [])), .list true []], .i 6] ∧ ∀ q b, q < n → h q = some b → b.ty ≠ 52 → b.ty ≠ 63 → h' q = some b) :=
 (Zos z l h n hz hcs hll).mono fun d h' n' ⟨h1, h2⟩ => by
  rcases h1 with ⟨_, e⟩ | ⟨y, zc, rs, p, hs, _⟩
  ·
   exact ⟨e, h2⟩
  ·
   rw [hn] at hs; cases hs
theorem Zvz {z y : Zon} {l : List Chg} (hz : PlainZ z) (hcs : ∀ c ∈ l, chgOk c = true) (hll : l.length ≤ 1000) (hy : Zxm z l = some y) (h : H) (n : Nat) : RCt Tryz.prog 36 [.agg z.d, .list false (l.map Chg.d)] h n (fun d h' n' => ∃ zc rs p, d = .tuple [.agg [.v (.string (bs z.apex)), .mrow rs 0 p.length], .i 0] ∧ ZM 24 52 63 zc rs z.apex p h' ∧ lP p = y.sets ∧ zc < n' ∧ rs < n' ∧ (∀ x ∈ p, x.1 < n') ∧ ∀ q b, q < n → h q = some b → b.ty ≠ 52 → b.ty ≠ 63 → h' q = some b) :=
 (Zos z l h n hz hcs hll).mono fun d h' n' ⟨h1, h2⟩ => by
  rcases h1 with ⟨hs, _⟩ | ⟨y', zc, rs, p, hs, e, k1, k2, k3, k4, k5⟩
  ·
   rw [hy] at hs; cases hs
  ·
   rw [hy] at hs
   cases hs
   exact ⟨zc, rs, p, e, k1, k2, k3, k4, k5, h2⟩
theorem Zc7 {n a : Str} (hn : nameOk n = true) (ha : nameOk a = true) : underV n a = inB n a := Zl4 hn ha
theorem upz_1 {z : Zon} {u : Upd} (h : zoneOk z = false ∨ updOk u = false) : updR z u = (zon0, 1) := by unfold updR; rw [if_pos h]
theorem upz_2 {z : Zon} {u : Upd} (h1 : zoneOk z = true) (h2 : updOk u = true) (h : plainB z = false) : updR z u = (zon0, 12) := by
 unfold updR; rw [if_neg (by rw [h1, h2]; simp), if_pos h]
theorem upz_3 {z : Zon} {u : Upd} (h1 : zoneOk z = true) (h2 : updOk u = true) (h3 : plainB z = true) (h : Zfe z u.needs = true ∨ Zfe z u.chgs = true) : updR z u = (zon0, 20) := by
 unfold updR; rw [if_neg (by rw [h1, h2]; simp), if_neg (by rw [h3]; simp), if_pos h]
theorem upz_4 {z : Zon} {u : Upd} (h1 : zoneOk z = true) (h2 : updOk u = true) (h3 : plainB z = true) (h4 : ¬ (Zfe z u.needs = true ∨ Zfe z u.chgs = true)) (h : Zie z u.needs = false) : updR z u = (zon0, 24) := by
 unfold updR; rw [if_neg (by rw [h1, h2]; simp), if_neg (by rw [h3]; simp), if_neg h4, if_pos h]
theorem upz_5 {z : Zon} {u : Upd} (h1 : zoneOk z = true) (h2 : updOk u = true) (h3 : plainB z = true) (h4 : ¬ (Zfe z u.needs = true ∨ Zfe z u.chgs = true)) (h5 : Zie z u.needs = true) (h : Zxm z u.chgs = none) : updR z u = (zon0, 6) := by
 unfold updR; rw [if_neg (by rw [h1, h2]; simp), if_neg (by rw [h3]; simp), if_neg h4, if_neg (by rw [h5]; simp), h]
theorem upz_6 {z y : Zon} {u : Upd} (h1 : zoneOk z = true) (h2 : updOk u = true) (h3 : plainB z = true) (h4 : ¬ (Zfe z u.needs = true ∨ Zfe z u.chgs = true)) (h5 : Zie z u.needs = true) (h : Zxm z u.chgs = some y) : updR z u = (Zrf z y, 0) := by
 unfold updR; rw [if_neg (by rw [h1, h2]; simp), if_neg (by rw [h3]; simp), if_neg h4, if_neg (by rw [h5]; simp), h]
theorem Zir {z : Zon} (h : zoneOk z = true) (hz : ZOrd z) {n : Chg} (hn : nameOk n.set.name = true) : holdP z n = holdB z n := by
 have key : findOk z.sets n.q = decide (0 ≤ atF z.sets n.q) := Zaw hz (by exact hn)
 have key2 : 0 ≤ atF z.sets n.q → z.sets[findIx z.sets n.q]! = z.sets[(atF z.sets n.q).toNat]! := Yda hz (by exact hn)
 unfold holdP holdB
 by_cases h1 : n.kind = 1
 ·
  simp [h1, Zyq]
 ·
  by_cases h2 : n.kind = 2
  ·
   simp [h2, Zyq]
  ·
   rw [if_neg (by omega), if_neg h1, if_neg h2]
   by_cases h3 : n.kind = 3
   ·
    simp [h3, key]
   ·
    rw [if_neg h3]
    by_cases h4 : n.kind = 4
    ·
     rw [if_pos h4, if_pos h4, key, Bool.eq_iff_iff]; simp
    ·
     rw [if_neg h4, if_neg h4, key]
     by_cases h0 : 0 ≤ atF z.sets n.q
     ·
      simp [h0, h3, key2 h0]
     ·
      simp [h0]
theorem Zlp {n : Chg} (h : needOk n = true) : nameOk n.set.name = true := by
 unfold needOk at h
 rw [Bool.and_eq_true] at h
 exact h.1
theorem Yxa {z : Zon} {l : List Chg} {k : Nat} (hk : k < l.length) (h : inB l[k]!.set.name z.apex = false) : Zfe z l = true := by
 unfold Zfe
 rw [Bool.not_eq_true', Bool.eq_false_iff, Ne, Zma]
 intro q
 have : inB l[k]!.set.name z.apex = true := q k (Nat.zero_le _) hk
 rw [h] at this; cases this
theorem Zt3 {z : Zon} {l : List Chg} (h : Zab l.length (fun i => inB l[i]!.set.name z.apex) 0 = true) : Zfe z l = false := by
 unfold Zfe; rw [h]; rfl
theorem count_ap {z y : Zon} (hz : PlainZ y) (ha : y.apex = z.apex) : Zrf z y = ⟨z.apex, (Zrf z y).sets⟩ := by
 obtain ⟨m, _, _, e⟩ := Zo1 (z := z) hz
 rw [e]
 show Zqe y m = ⟨z.apex, (Zqe y m).sets⟩
 rw [← ha]
 rfl
theorem bo15 : Zea Tryz.prog 15 = true := by kernel_rfl
theorem Ztz (z : Zon) (n : Chg) : PureCt Tryz.prog 15 [.agg z.d, .agg n.d] (.tuple [.b (holdsF z n).1, .i (holdsF z n).2]) := by
 refine Zca Tryz.func15 rfl bo15 (by simp [go_sem, D.nr, nrs, nrr]) (by simp [Tryz.f15]) ?_
 unfold Tryz.f15
 simp only [Zfa]
 have ff := True.intro
 refine stp Lun ?_
 refine Zaa ?_
 refine stp Lun ?_ (hok := by (try simp only [go_sem, ff]); all_goals (first | done | ((repeat' (with_reducible apply And.intro)) <;> first | exact Zgp n | (intros; exact Zgp n) | exact (fun _ => Zac z) | (intros; exact (fun _ => Zac z)) | exact ez9 | skip)))
 refine cd (fun c1 => ?_) (fun c1 => ?_)
 ·
  refine stp Lun ?_
  refine Zba ?_
  exact fin 1 (hr := by (try simp only [go_sem, ff]); all_goals (rw [holdsF, if_pos (by grind)]))
 ·
  have hzo : zoneOk z = true := by grind
  have hno : needOk n = true := by grind
  have zo := Zuf hzo
  have hlen := zo.len
  have hund := Zc7 (Zlp hno) zo.apex
  have ff := And.intro @hund ff
  refine dw_skip ?_
  show DW _ _ _ _ _
  refine Zaa ?_
  refine stp Lun ?_ (hok := by (try simp only [go_sem, ff]); all_goals (first | done | ((repeat' (with_reducible apply And.intro)) <;> first | exact (by have h9 := Zfh n.set.name z.apex; rw [hund] at h9; exact h9) | (intros; exact (by have h9 := Zfh n.set.name z.apex; rw [hund] at h9; exact h9)) | exact ez9 | skip)))
  refine cd (fun c2 => ?_) (fun c2 => ?_)
  ·
   refine stp Lun ?_
   refine Zba ?_
   exact fin 1 (hr := by (try simp only [go_sem, ff]); all_goals (rw [holdsF, if_neg (by rw [hzo, hno]; simp), if_pos (by grind)]))
  ·
   refine dw_skip ?_
   show DW _ _ _ _ _
   refine stp Lun ?_ (hok := by (try simp only [go_sem, ff]); all_goals (first | done | ((repeat' (with_reducible apply And.intro)) <;> first | exact Zhp z n (by omega) (fun s hs => by have := (zo.ok s hs).len; omega) | (intros; exact Zhp z n (by omega) (fun s hs => by have := (zo.ok s hs).len; omega)) | exact ez9 | skip)))
   refine Zba ?_
   exact fin 1 (hr := by (try simp only [go_sem, ff]); all_goals (rw [holdsF, if_neg (by rw [hzo, hno]; simp), if_neg (by grind), Zir hzo zo (Zlp hno)]))
theorem bo13 : Zea Tryz.prog 13 = true := by kernel_rfl
theorem Zwz (z : Zon) (u : Upd) : PureCt Tryz.prog 13 [.agg z.d, .agg u.d] (.tuple [.agg (updR z u).1.d, .i (updR z u).2]) := by
 refine Zca Tryz.func13 rfl bo13 (by simp [go_sem, D.nr, nrs, nrr]) (by simp [Tryz.f13]) ?_
 unfold Tryz.f13
 simp only [Zfa]
 have ff := True.intro
 refine stp Lun ?_
 refine Zaa ?_
 refine stp Lun ?_ (hok := by (try simp only [go_sem, ff]); all_goals (first | done | ((repeat' (with_reducible apply And.intro)) <;> first | exact Zz6 u | (intros; exact Zz6 u) | exact (fun _ => Zac z) | (intros; exact (fun _ => Zac z)) | exact ez9 | skip)))
 refine cd (fun c1 => ?_) (fun c1 => ?_)
 ·
  refine stp Lun ?_
  refine Zba ?_
  exact fin 6 (hr := by (try simp only [go_sem, ff]); all_goals (rw [upz_1 (by grind)]; rfl))
 ·
  have hz : zoneOk z = true := by grind
  have hu : updOk u = true := by grind
  have zo := Zuf hz
  have zlen := zo.len
  have hnl := Zyp hu
  have hcl := Zfp hu
  have hul : u.needs.length ≤ 20 ∧ u.chgs.length ≤ 20 := by have h9 := hu; simp only [updOk, Bool.and_eq_true, decide_eq_true_eq] at h9; exact h9.1.1
  refine dw_skip ?_
  show DW _ _ _ _ _
  refine Zaa ?_
  refine stp Lun ?_ (hok := by (try simp only [go_sem, ff]); all_goals (first | done | ((repeat' (with_reducible apply And.intro)) <;> first | exact Ztw z (by omega) | (intros; exact Ztw z (by omega)) | exact ez9 | skip)))
  refine cd (fun c2 => ?_) (fun c2 => ?_)
  ·
   refine stp Lun ?_
   refine Zba ?_
   exact fin 6 (hr := by (try simp only [go_sem, ff]); all_goals (rw [upz_2 hz hu c2]; rfl))
  ·
   have hpl : plainB z = true := by grind
   have hpz := PlainZ.mk' hz hpl
   refine dw_skip ?_
   show DW _ _ _ _ _
   refine Zaa ?_
   refine stp Lun ?_
   refine Zda ?_
   refine lp (α := (Nat) × Nat) [2, 3, 4, 28, 29] (fun ⟨k, nx⟩ => (k ≤ u.needs.length) ∧ (Zab u.needs.length ((fun i => inB u.needs[i]!.set.name z.apex)) 0 = Zab u.needs.length ((fun i => inB u.needs[i]!.set.name z.apex)) k) ∧ (2 < nx) ∧ True) (fun ⟨k, nx⟩ => u.needs.length - k) (fun ⟨k, nx⟩ => [(30, .i k)]) (fun ⟨k, nx⟩ => [(0, ⟨24, [z.d]⟩), (1, ⟨28, [u.d]⟩), (2, ⟨24, [[.v (.string (bs [])), .list true []]]⟩)]) (fun ⟨k, nx⟩ => nx) (0, _) (hA := ⟨iv, rfl, iv, trivial⟩) (round := ?_)
   rintro ⟨k, nx⟩ ⟨hk, hv1, hx, -⟩
   show DW _ _ _ _ { n := _, t := tab _, h := _, nx := _, e := _ }
   simp only [List.cons_append, List.nil_append]
   have ff := And.intro @hx ff
   refine stp Lun ?_
   refine Zaa ?_
   refine cd (fun c3 => ?_) (fun c3 => ?_) (hp := rfl)
   ·
    have hk2 : k < u.needs.length := by simpa using c3
    have hund := Zc7 (Zlp (hnl _ (Zya hk2))) zo.apex
    have ff := And.intro (Zke hk2) (And.intro @hund ff)
    refine dw_skip ?_
    show DW _ _ _ _ _
    refine Zaa ?_
    refine Zda ?_
    refine stp Lun ?_
    refine stp Lun ?_ (hok := by (try simp only [go_sem, ff]); all_goals (first | done | ((repeat' (with_reducible apply And.intro)) <;> first | exact (by have h9 := Zfh u.needs[k]!.set.name z.apex; rw [hund] at h9; exact h9) | (intros; exact (by have h9 := Zfh u.needs[k]!.set.name z.apex; rw [hund] at h9; exact h9)) | exact ez9 | skip)))
    refine cd (fun c4 => ?_) (fun c4 => ?_)
    ·
     refine stp Lun ?_
     refine Zba ?_
     exact fin 6 (hr := by (try simp only [go_sem, ff]); all_goals (rw [upz_3 hz hu hpl (.inl (Yxa hk2 c4))]; rfl))
    ·
     refine dw_skip ?_
     show DW _ _ _ _ _
     refine rgn Lun ?_
     show ∃ _, _
     have h8 : ((fun i => inB u.needs[i]!.set.name z.apex)) k = true := by simpa using c4
     exact rnd (k + 1, _) (h1 := ⟨iv, (by first | (rw [hv1, Zha hk2 h8]) | (dsimp only; rw [hv1, Zha hk2 h8])), iv, trivial⟩)
   ·
    have hk3 : k = u.needs.length := by omega
    subst hk3
    have hcut1 : Zfe z u.needs = false := Zt3 (by rw [hv1, Zxa (by omega)])
    refine Zja ?_
    show DW _ _ _ _ _
    refine Zaa ?_
    refine stp Lun ?_
    refine Zda ?_
    refine lp (α := (Nat) × Nat) [2, 3, 4, 44, 45] (fun ⟨k, nx⟩ => (k ≤ u.chgs.length) ∧ (Zab u.chgs.length ((fun i => inB u.chgs[i]!.set.name z.apex)) 0 = Zab u.chgs.length ((fun i => inB u.chgs[i]!.set.name z.apex)) k) ∧ (2 < nx) ∧ True) (fun ⟨k, nx⟩ => u.chgs.length - k) (fun ⟨k, nx⟩ => [(46, .i k)]) (fun ⟨k, nx⟩ => [(0, ⟨24, [z.d]⟩), (1, ⟨28, [u.d]⟩), (2, ⟨24, [[.v (.string (bs [])), .list true []]]⟩)]) (fun ⟨k, nx⟩ => nx) (0, _) (hA := ⟨iv, rfl, iv, trivial⟩) (round := ?_)
    rintro ⟨k, nx⟩ ⟨hk, hv2, hx, -⟩
    show DW _ _ _ _ { n := _, t := tab _, h := _, nx := _, e := _ }
    simp only [List.cons_append, List.nil_append]
    have ff := And.intro @hx ff
    refine stp Lun ?_
    refine Zaa ?_
    refine cd (fun c5 => ?_) (fun c5 => ?_) (hp := rfl)
    ·
     have hk2 : k < u.chgs.length := by simpa using c5
     have hund := Zc7 (Zwr (hcl _ (Zya hk2))) zo.apex
     have ff := And.intro (Zke hk2) (And.intro @hund ff)
     refine dw_skip ?_
     show DW _ _ _ _ _
     refine Zaa ?_
     refine Zda ?_
     refine stp Lun ?_
     refine stp Lun ?_ (hok := by (try simp only [go_sem, ff]); all_goals (first | done | ((repeat' (with_reducible apply And.intro)) <;> first | exact (by have h9 := Zfh u.chgs[k]!.set.name z.apex; rw [hund] at h9; exact h9) | (intros; exact (by have h9 := Zfh u.chgs[k]!.set.name z.apex; rw [hund] at h9; exact h9)) | exact ez9 | skip)))
     refine cd (fun c6 => ?_) (fun c6 => ?_)
     ·
      refine stp Lun ?_
      refine Zba ?_
      exact fin 6 (hr := by (try simp only [go_sem, ff]); all_goals (rw [upz_3 hz hu hpl (.inr (Yxa hk2 c6))]; rfl))
     ·
      refine dw_skip ?_
      show DW _ _ _ _ _
      refine rgn Lun ?_
      show ∃ _, _
      have h8 : ((fun i => inB u.chgs[i]!.set.name z.apex)) k = true := by simpa using c6
      exact rnd (k + 1, _) (h1 := ⟨iv, (by first | (rw [hv2, Zha hk2 h8]) | (dsimp only; rw [hv2, Zha hk2 h8])), iv, trivial⟩)
    ·
     have hk3 : k = u.chgs.length := by omega
     subst hk3
     have hcut2 : Zfe z u.chgs = false := Zt3 (by rw [hv2, Zxa (by omega)])
     have hcut : ¬ (Zfe z u.needs = true ∨ Zfe z u.chgs = true) := by rw [hcut1, hcut2]; simp
     refine Zja ?_
     show DW _ _ _ _ _
     refine Zaa ?_
     refine stp Lun ?_
     refine Zda ?_
     refine lp (α := (Nat) × Nat) [2, 3, 4, 60, 61] (fun ⟨k, nx⟩ => (k ≤ u.needs.length) ∧ (Zab u.needs.length ((fun i => holdB z u.needs[i]!)) 0 = Zab u.needs.length ((fun i => holdB z u.needs[i]!)) k) ∧ (2 < nx) ∧ True) (fun ⟨k, nx⟩ => u.needs.length - k) (fun ⟨k, nx⟩ => [(62, .i k)]) (fun ⟨k, nx⟩ => [(0, ⟨24, [z.d]⟩), (1, ⟨28, [u.d]⟩), (2, ⟨24, [[.v (.string (bs [])), .list true []]]⟩)]) (fun ⟨k, nx⟩ => nx) (0, _) (hA := ⟨iv, rfl, iv, trivial⟩) (round := ?_)
     rintro ⟨k, nx⟩ ⟨hk, hv3, hx, -⟩
     show DW _ _ _ _ { n := _, t := tab _, h := _, nx := _, e := _ }
     simp only [List.cons_append, List.nil_append]
     have ff := And.intro @hx ff
     refine stp Lun ?_
     refine Zaa ?_
     refine cd (fun c7 => ?_) (fun c7 => ?_) (hp := rfl)
     ·
      have hk2 : k < u.needs.length := by simpa using c7
      have hhp := Zir hz zo (Zlp (hnl _ (Zya hk2)))
      have ff := And.intro (Zke hk2) (And.intro @hhp ff)
      refine dw_skip ?_
      show DW _ _ _ _ _
      refine Zaa ?_
      refine Zda ?_
      refine stp Lun ?_
      refine stp Lun ?_ (hok := by (try simp only [go_sem, ff]); all_goals (first | done | ((repeat' (with_reducible apply And.intro)) <;> first | exact (by have h9 := Zhp z u.needs[k]! (by omega) (fun s hs => by have := (zo.ok s hs).len; omega); rw [hhp] at h9; exact h9) | (intros; exact (by have h9 := Zhp z u.needs[k]! (by omega) (fun s hs => by have := (zo.ok s hs).len; omega); rw [hhp] at h9; exact h9)) | exact ez9 | skip)))
      refine cd (fun c8 => ?_) (fun c8 => ?_)
      ·
       refine stp Lun ?_
       refine Zba ?_
       exact fin 6 (hr := by (try simp only [go_sem, ff]); all_goals (rw [upz_4 hz hu hpl hcut (by unfold Zie; rw [hv3]; exact Zpa (p := (fun i => holdB z u.needs[i]!)) hk2 c8)]; rfl))
      ·
       refine dw_skip ?_
       show DW _ _ _ _ _
       refine rgn Lun ?_
       show ∃ _, _
       have h8 : ((fun i => holdB z u.needs[i]!)) k = true := by simpa using c8
       exact rnd (k + 1, _) (h1 := ⟨iv, (by first | (rw [hv3, Zha hk2 h8]) | (dsimp only; rw [hv3, Zha hk2 h8])), iv, trivial⟩)
     ·
      have hk3 : k = u.needs.length := by omega
      subst hk3
      have hall3 : Zie z u.needs = true := by unfold Zie; rw [hv3, Zxa (by omega)]
      refine Zja ?_
      show DW _ _ _ _ _
      rcases hcr : Zxm z u.chgs with _ | y
      ·
       have hfin := upz_5 hz hu hpl hcut hall3 hcr
       refine Zaa (Zv1 Lun 3 (hct := by exact Zn4 hpz hcl (by omega) hcr _ _) (hk := ?_))
       rintro res h2 n2 ⟨rfl, hfr⟩
       try dsimp only at hfr
       have k0 := hfr 0 _ (by omega) (by simp only [go_sem, ff]; exact rfl) (by dsimp only; decide) (by dsimp only; decide)
       have k2 := hfr 2 _ (by omega) (by simp only [go_sem, ff]; exact rfl) (by dsimp only; decide) (by dsimp only; decide)
       have ff := And.intro @k0 (And.intro @k2 ff)
       refine Zu1 Lun ?_
       show DW _ _ _ _ _
       refine Zaa ?_
       refine stp Lun ?_
       refine cd (fun c9 => ?_) (fun c9 => ?_) (hp := rfl) (hq := rfl)
       ·
        refine stp Lun ?_
        refine Zba ?_
        exact fin 6 (hr := by (try simp only [go_sem, ff]); all_goals (rw [hfin]; rfl))
       ·
        exfalso; simp at c9
      ·
       have hfin := upz_6 hz hu hpl hcut hall3 hcr
       have hp0 := Zok hpz hcl _ _ (Nat.le_refl _) hcr
       refine Zaa (Zv1 Lun 3 (hct := by exact Zvz hpz hcl (by omega) hcr _ _) (hk := ?_))
       rintro res h2 n2 ⟨zc, rs, p, rfl, hzm, hlp, z1, z2, z3, hfr⟩
       try dsimp only at hfr
       have k0 := hfr 0 _ (by omega) (by simp only [go_sem, ff]; exact rfl) (by dsimp only; decide) (by dsimp only; decide)
       have k2 := hfr 2 _ (by omega) (by simp only [go_sem, ff]; exact rfl) (by dsimp only; decide) (by dsimp only; decide)
       have ff := And.intro @k0 (And.intro @k2 ff)
       refine Zu1 Lun ?_
       show DW _ _ _ _ _
       refine Zaa ?_
       refine stp Lun ?_
       refine cd (fun c9 => ?_) (fun c9 => ?_) (hp := rfl) (hq := rfl)
       ·
        exfalso; simp at c9
       ·
        refine dw_skip ?_
        show DW _ _ _ _ _
        have hy9 : (⟨z.apex, lP p⟩ : Zon) = y := by rw [hlp, ← hp0.2]
        have hyp : PlainZ ⟨z.apex, lP p⟩ := by rw [hy9]; exact hp0.1
        refine Zaa (Zv1 Lun 2 (hct := by exact Zh7 z zc rs p _ _ hpz hyp (hzm.keep (fun q hq9 => by have hqn : q < n2 := (by rcases hq9 with rfl | rfl | ⟨x, hx, rfl⟩; exact z1; exact z2; exact z3 x hx); simp only [upd]; repeat (first | rfl | rw [if_neg (by omega)])))) (hk := ?_))
        rintro res h3 n3 ⟨rfl, p2, hm2, hl2, hc2, hf2⟩
        try dsimp only at hf2
        have n2a : zc ≠ 2 := fun e => by have h9 := hzm.z; rw [e, k2] at h9; simp at h9
        have n2b : rs ≠ 2 := fun e => by have h9 := hzm.r; rw [e, k2] at h9; simp at h9
        have n2c : ∀ x ∈ p, x.1 ≠ 2 := fun x hx e => by have h9 := hzm.d x hx; rw [e, k2] at h9; simp at h9
        have m2 : h3 2 = some ⟨24, [[.v (.string (bs [])), .list true []]]⟩ := by rw [hf2 2 (by omega) n2a.symm n2b.symm (fun x hx e => n2c x hx e.symm)]; simp only [upd]; repeat (first | exact k2 | rw [if_neg (by omega)])
        have m7 : h3 (n2 + 7) = some ⟨24, [[.v (.string (bs z.apex)), .mrow rs 0 p.length]]⟩ := by rw [hf2 (n2 + 7) (by omega) (by omega) (by omega) (fun x hx e => by have := z3 x hx; omega)]; simp only [upd]; repeat (first | rfl | rw [if_neg (by omega)] | rw [if_pos rfl])
        have hgen : ∀ (H9 : H) (d : D), (∀ q, q ≠ 2 → H9 q = h3 q) → d = .tuple [.agg [.v (.string (bs z.apex)), .mrow rs 0 p.length], .i 0] → wk (Go.DL.snap H9 6 d) = .tuple [.agg (updR z u).1.d, .i (updR z u).2] ∧ Zra H9 6 d := by
         rintro H9 d hH rfl
         have hmF : ZM 24 52 63 zc rs z.apex p2 H9 := hm2.keep (fun q hq => hH q (by rcases hq with rfl | rfl | ⟨x, hx, rfl⟩; exact n2a; exact n2b; exact fun e => by have h9 := hm2.d x hx; rw [e, m2] at h9; simp at h9))
         have hs := hmF.snap
         rw [hl2] at hs
         rw [hfin, count_ap hp0.1 hp0.2]
         refine ⟨?_, ?_⟩
         ·
          show D.tuple [wk (Go.DL.snap H9 5 (.agg [.v (.string (bs z.apex)), .mrow rs 0 p.length])), _] = _
          rw [hs.1, hc2, hy9]
          rfl
         ·
          intro c hc
          simp only [List.mem_cons, List.not_mem_nil, or_false] at hc
          rcases hc with rfl | rfl
          ·
           exact hs.2
          ·
           rfl
        have ff := And.intro @m2 (And.intro @m7 ff)
        refine Zu1 Lun ?_
        show DW _ _ _ _ _
        refine stp Lun ?_
        refine Zba ?_
        refine fin 6 (hr := ?_) (hk := ?_)
        ·
         exact (hgen _ _ (fun q hq => upd_ne _ _ _ _ hq) (by simp only [go_sem, ff])).1
        ·
         exact (hgen _ _ (fun q hq => upd_ne _ _ _ _ hq) (by simp only [go_sem, ff])).2
set_option maxRecDepth 10000
theorem bo24 : Zea Tryz.prog 24 = true := by kernel_rfl
theorem Zyk (z : Zon) (hl : z.sets.length ≤ 1000000) : PureCt Tryz.prog 24 [.agg z.d] (.b (plainB z)) := by
 refine Zca Tryz.func24 rfl bo24 (by simp [go_sem, D.nr, nrs, nrr]) (by simp [Tryz.f24]) ?_
 unfold Tryz.f24
 simp only [Zfa]
 have ff := True.intro
 refine stp Lun ?_
 refine Zaa ?_
 refine stp Lun ?_
 refine Zda ?_
 refine lp (α := (Nat) × Nat) [1] (fun ⟨k, nx⟩ => (k ≤ z.sets.length) ∧ (Zab z.sets.length ((Zji z.sets)) 0 = Zab z.sets.length ((Zji z.sets)) k) ∧ (0 < nx) ∧ True) (fun ⟨k, nx⟩ => z.sets.length - k) (fun ⟨k, nx⟩ => [(3, .i k)]) (fun ⟨k, nx⟩ => [(0, ⟨24, [z.d]⟩)]) (fun ⟨k, nx⟩ => nx) (0, _) (hA := ⟨iv, rfl, iv, trivial⟩) (round := ?_)
 rintro ⟨k, nx⟩ ⟨hk, hv, hx, -⟩
 show DW _ _ _ _ { n := _, t := tab _, h := _, nx := _, e := _ }
 simp only [List.cons_append, List.nil_append]
 have ff := And.intro @hx ff
 refine Zaa ?_
 refine stp Lun ?_
 refine cd (fun c1 => ?_) (fun c1 => ?_) (hp := rfl)
 ·
  have hk2 : k < z.sets.length := by simpa using c1
  have ff := And.intro (Zla hk2) ff
  refine dw_skip ?_
  show DW _ _ _ _ _
  refine Zaa ?_
  refine Zda ?_
  refine stp Lun ?_
  refine cd (fun c2 => ?_) (fun c2 => ?_)
  ·
   refine stp Lun ?_
   refine Zba ?_
   exact fin 0 (hr := by (try simp only [go_sem, ff]); all_goals (have hF : (Zji z.sets) k = false := (by simp only [Zji]; grind); simp only [plainB]; rw [hv, Zpa hk2 hF]))
  ·
   refine dw_skip ?_
   show DW _ _ _ _ _
   refine rgn Lun ?_
   show ∃ _, _
   have h8 : ((Zji z.sets)) k = true := by simp only [Zji]; grind
   exact rnd (k + 1, _) (h1 := ⟨iv, (by first | (rw [hv, Zha hk2 h8]) | (dsimp only; rw [hv, Zha hk2 h8])), iv, trivial⟩)
 ·
  refine Zja ?_
  show DW _ _ _ _ _
  refine stp Lun ?_
  refine Zba ?_
  exact fin 0 (hr := by (try simp only [go_sem, ff]); all_goals (simp only [plainB]; rw [hv, Zxa (by omega)]))
theorem bo26 : Zea Tryz.prog 26 = true := by kernel_rfl
theorem Zv4 (n : Int) (h0 : -1 ≤ n) (h1 : n ≤ 1000000) : PureCt Tryz.prog 26 [.i n] (.i (nextN n)) := by
 refine Zca Tryz.func26 rfl bo26 (by simp [go_sem, D.nr, nrs, nrr]) (by simp [Tryz.f26]) ?_
 unfold Tryz.f26
 simp only [Zfa]
 have ff := True.intro
 refine stp Lun ?_
 refine stp Lun ?_
 refine Zba ?_
 exact fin 0 (hr := by (try simp only [go_sem, ff]); all_goals (rfl))
theorem bo43 : Zea Tryz.prog 43 = true := by kernel_rfl
theorem Zfq (z : Zon) (hl : z.sets.length ≤ 1000000) : PureCt Tryz.prog 43 [.agg z.d] (.i (startN z)) := by
 refine Zca Tryz.func43 rfl bo43 (by simp [go_sem, D.nr, nrs, nrr]) (by simp [Tryz.f43]) ?_
 unfold Tryz.f43
 simp only [Zfa]
 have ff := True.intro
 refine stp Lun ?_
 refine stp Lun ?_ (hok := by (try simp only [go_sem, ff]); all_goals (first | done | ((repeat' (with_reducible apply And.intro)) <;> first | exact Zhk z ⟨z.apex, 4⟩ hl | (intros; exact Zhk z ⟨z.apex, 4⟩ hl) | skip)))
 refine Zba ?_
 exact fin 0 (hr := by (try simp only [go_sem, ff]); all_goals (rfl))
set_option maxRecDepth 10000
theorem at_ltN {l : List Sgd} {q : Qst} (h : 0 ≤ atF l q) : (atF l q).toNat < l.length := by
 have := Yeb l q
 omega
set_option maxRecDepth 10000
theorem bo12 : Zea Tryz.prog 12 = true := by kernel_rfl
theorem Zkx (u : Upd) : PureCt Tryz.prog 12 [.agg u.d] (.b (fewU u)) := by
 refine Zca Tryz.func12 rfl bo12 (by simp [go_sem, D.nr, nrs, nrr]) (by simp [Tryz.f12]) ?_
 unfold Tryz.f12
 simp only [Zfa]
 have ff := True.intro
 refine stp Lun ?_
 refine Zaa ?_
 refine stp Lun ?_
 refine Zda ?_
 refine lp (α := (Nat) × Nat) [1] (fun ⟨k, nx⟩ => (k ≤ (min u.needs.length 31)) ∧ (Zab (min u.needs.length 31) ((fewAt u.needs)) 0 = Zab (min u.needs.length 31) ((fewAt u.needs)) k) ∧ (0 < nx) ∧ True) (fun ⟨k, nx⟩ => (min u.needs.length 31) - k) (fun ⟨k, nx⟩ => [(3, .i k)]) (fun ⟨k, nx⟩ => [(0, ⟨28, [u.d]⟩)]) (fun ⟨k, nx⟩ => nx) (0, _) (hA := ⟨iv, rfl, iv, trivial⟩) (round := ?_)
 rintro ⟨k, nx⟩ ⟨hk, hv1, hx, -⟩
 show DW _ _ _ _ { n := _, t := tab _, h := _, nx := _, e := _ }
 simp only [List.cons_append, List.nil_append]
 have ff := And.intro @hx ff
 refine Zaa ?_
 refine stp Lun ?_
 refine cd (fun c1 => ?_) (fun c1 => ?_)
 ·
  have hk2n : k < u.needs.length := by grind
  have hk9 : k ≤ 30 := by grind
  have hk2 : k < min u.needs.length 31 := by omega
  have ff := And.intro (Zke hk2n) ff
  refine dw_skip ?_
  show DW _ _ _ _ _
  refine Zaa ?_
  refine Zda ?_
  refine stp Lun ?_
  refine cd (fun c2 => ?_) (fun c2 => ?_)
  ·
   refine stp Lun ?_
   refine Zba ?_
   exact fin 0 (hr := by (try simp only [go_sem, ff]); all_goals (have hF : ((fewAt u.needs)) k = false := (by simp only [Go.Zon.fewAt]; grind); simp only [fewU]; rw [hv1, Zpa hk2 hF]; try simp))
  ·
   refine dw_skip ?_
   show DW _ _ _ _ _
   refine rgn Lun ?_
   show ∃ _, _
   have h8 : ((fewAt u.needs)) k = true := by simp only [Go.Zon.fewAt]; grind
   exact rnd (k + 1, _) (h1 := ⟨iv, (by first | (rw [hv1, Zha hk2 h8]) | (dsimp only; rw [hv1, Zha hk2 h8])), iv, trivial⟩)
 ·
  refine Zja ?_
  show DW _ _ _ _ _
  refine Zaa ?_
  refine stp Lun ?_
  refine Zda ?_
  refine lp (α := (Nat) × Nat) [1] (fun ⟨k, nx⟩ => (k ≤ (min u.chgs.length 31)) ∧ (Zab (min u.chgs.length 31) ((fewAt u.chgs)) 0 = Zab (min u.chgs.length 31) ((fewAt u.chgs)) k) ∧ (0 < nx) ∧ True) (fun ⟨k, nx⟩ => (min u.chgs.length 31) - k) (fun ⟨k, nx⟩ => [(4, .i k)]) (fun ⟨k, nx⟩ => [(0, ⟨28, [u.d]⟩)]) (fun ⟨k, nx⟩ => nx) (0, _) (hA := ⟨iv, rfl, iv, trivial⟩) (round := ?_)
  rintro ⟨k, nx⟩ ⟨hk, hv, hx, -⟩
  show DW _ _ _ _ { n := _, t := tab _, h := _, nx := _, e := _ }
  simp only [List.cons_append, List.nil_append]
  have ff := And.intro @hx ff
  refine Zaa ?_
  refine stp Lun ?_
  refine cd (fun c3 => ?_) (fun c3 => ?_)
  ·
   have hk2n : k < u.chgs.length := by grind
   have hk9 : k ≤ 30 := by grind
   have hk2 : k < min u.chgs.length 31 := by omega
   have ff := And.intro (Zke hk2n) ff
   refine dw_skip ?_
   show DW _ _ _ _ _
   refine Zaa ?_
   refine Zda ?_
   refine stp Lun ?_
   refine cd (fun c4 => ?_) (fun c4 => ?_)
   ·
    refine stp Lun ?_
    refine Zba ?_
    exact fin 0 (hr := by (try simp only [go_sem, ff]); all_goals (have hF : ((fewAt u.chgs)) k = false := (by simp only [Go.Zon.fewAt]; grind); simp only [fewU]; rw [hv, Zpa hk2 hF]; try simp))
   ·
    refine dw_skip ?_
    show DW _ _ _ _ _
    refine rgn Lun ?_
    show ∃ _, _
    have h8 : ((fewAt u.chgs)) k = true := by simp only [Go.Zon.fewAt]; grind
    exact rnd (k + 1, _) (h1 := ⟨iv, (by first | (rw [hv, Zha hk2 h8]) | (dsimp only; rw [hv, Zha hk2 h8])), iv, trivial⟩)
  ·
   refine Zja ?_
   show DW _ _ _ _ _
   refine stp Lun ?_
   refine Zba ?_
   exact fin 0 (hr := by (try simp only [go_sem, ff]); all_goals (simp only [fewU]; rw [hv1, hv, Zxa (n := min u.needs.length 31) (by grind), Zxa (by grind)]; simp; rw [Bool.eq_iff_iff]; simp; omega))
set_option maxRecDepth 10000
@[go_sem] theorem leftTo_0 {a b : List Dat} : Zjm a b 0 = [] := rfl
@[go_sem] theorem memTo_0 {b : List Dat} {x : Dat} : Zby b x 0 = false := rfl
set_option maxRecDepth 10000
@[go_sem] theorem dats_snoc9 {l : List Dat} {x : Dat} : (l ++ [x]).map Dat.d = l.map Dat.d ++ [[.v (.string (bs x.t)), .i x.n, .i x.m]] := by simp [Dat.d]
set_option maxRecDepth 10000
theorem Zqk {l : List Sgd} {x : Sgd} : List.take (l.length + 1) (List.map Sgd.d (l ++ [x])) = List.map Sgd.d (l ++ [x]) := List.take_of_length_le (by simp)
theorem Zak {s : Sgd} {l : List Sgd} {k : Nat} {b : Bool} (hk : k < l.length) : Zto s b (l.drop k) = (if 0 ≤ rOrd l[k]!.set s.set ∧ b = false then [s] else []) ++ ((if rOrd l[k]!.set s.set ≠ 0 then [l[k]!] else []) ++ Zto s (b || decide (0 ≤ rOrd l[k]!.set s.set)) (l.drop (k + 1))) := by
 have e : l.drop k = l[k]! :: l.drop (k + 1) := by rw [getElem!_pos l k hk]; exact List.drop_eq_getElem_cons hk
 conv => lhs; rw [e]
 rfl
@[go_sem] theorem sgd_snoc12 {l : List Sgd} {x : Sgd} : (l ++ [x]).map Sgd.d = l.map Sgd.d ++ [[.v (.string (bs x.set.name)), .i x.set.ty, .i x.set.life, .list false (x.set.data.map Dat.d), .list false (x.sigs.map RSig.d)]] := by simp [Sgd.d]
theorem bo44 : Zea Tryz.prog 44 = true := by kernel_rfl
theorem Zxs (z : Zon) (s : Sgd) (hl : z.sets.length ≤ 1000000) : PureCt Tryz.prog 44 [.agg z.d, .agg s.d] (.agg (withF z s).d) := by
 refine Zca Tryz.func44 rfl bo44 (by simp [go_sem, D.nr, nrs, nrr]) (by simp [Tryz.f44]) ?_
 unfold Tryz.f44
 simp only [Zfa]
 have ff := True.intro
 refine stp Lun ?_
 refine stp Lun ?_
 refine stp Lun ?_
 refine Zaa ?_
 refine Zcw 6 1 24 52 (by simp only [go_sem, ff]; exact rfl) (by rfl) (by simp only [go_sem, ff]) ?_
 simp only [List.set_cons_succ, List.set_cons_zero]
 refine stp Lun ?_
 refine Zda ?_
 refine lp (α := (Nat) × (Bool) × (List Sgd) × (Nat) × Nat) [2, 3, 4, 5] (fun ⟨k, dn, out, r, nx⟩ => (k ≤ z.sets.length) ∧ (r < nx) ∧ (6 < r) ∧ (out.length ≤ 2 * k) ∧ (Zto s false z.sets = out ++ Zto s dn (z.sets.drop k)) ∧ True) (fun ⟨k, dn, out, r, nx⟩ => z.sets.length - k) (fun ⟨k, dn, out, r, nx⟩ => [(6, .b dn), (7, .i k)]) (fun ⟨k, dn, out, r, nx⟩ => [(0, ⟨24, [z.d]⟩), (1, ⟨52, [s.d]⟩), (2, ⟨24, [[.v (.string (bs [])), .list true []]]⟩), (6, ⟨24, [[.v (.string (bs z.apex)), .mrow r 0 out.length]]⟩), (r, ⟨52, out.map Sgd.d⟩)]) (fun ⟨k, dn, out, r, nx⟩ => nx) (0, false, [], 9, _) (hA := ⟨iv, iv, iv, (by first | (simp) | (dsimp only; simp)), rfl, trivial⟩) (round := ?_)
 rintro ⟨k, dn, out, r, nx⟩ ⟨hk, hr, hr6, ho, hv, -⟩
 show DW _ _ _ _ { n := _, t := tab _, h := _, nx := _, e := _ }
 simp only [List.cons_append, List.nil_append]
 have n0 : 0 < nx := by omega
 have z0_1 : (0 = 1) = False := eq_false (by omega)
 have y1_0 : (1 = 0) = False := eq_false (by omega)
 have z0_2 : (0 = 2) = False := eq_false (by omega)
 have y2_0 : (2 = 0) = False := eq_false (by omega)
 have z0_6 : (0 = 6) = False := eq_false (by omega)
 have y6_0 : (6 = 0) = False := eq_false (by omega)
 have z0_r : (0 = r) = False := eq_false (by omega)
 have yr_0 : (r = 0) = False := eq_false (by omega)
 have z1_2 : (1 = 2) = False := eq_false (by omega)
 have y2_1 : (2 = 1) = False := eq_false (by omega)
 have z1_6 : (1 = 6) = False := eq_false (by omega)
 have y6_1 : (6 = 1) = False := eq_false (by omega)
 have z1_r : (1 = r) = False := eq_false (by omega)
 have yr_1 : (r = 1) = False := eq_false (by omega)
 have z2_6 : (2 = 6) = False := eq_false (by omega)
 have y6_2 : (6 = 2) = False := eq_false (by omega)
 have z2_r : (2 = r) = False := eq_false (by omega)
 have yr_2 : (r = 2) = False := eq_false (by omega)
 have z6_r : (6 = r) = False := eq_false (by omega)
 have yr_6 : (r = 6) = False := eq_false (by omega)
 have ff := And.intro @hr (And.intro @n0 (And.intro @z0_1 (And.intro @y1_0 (And.intro @z0_2 (And.intro @y2_0 (And.intro @z0_6 (And.intro @y6_0 (And.intro @z0_r (And.intro @yr_0 (And.intro @z1_2 (And.intro @y2_1 (And.intro @z1_6 (And.intro @y6_1 (And.intro @z1_r (And.intro @yr_1 (And.intro @z2_6 (And.intro @y6_2 (And.intro @z2_r (And.intro @yr_2 (And.intro @z6_r (And.intro @yr_6 ff)))))))))))))))))))))
 refine Zaa ?_
 refine stp Lun ?_
 refine cd (fun c1 => ?_) (fun c1 => ?_) (hp := rfl) (hq := rfl)
 ·
  have hk2 : k < z.sets.length := by simpa using c1
  have ff := And.intro (Zla hk2) ff
  refine dw_skip ?_
  show DW _ _ _ _ _
  refine Zaa ?_
  refine Zda ?_
  refine stp Lun ?_ (hok := by (try simp only [go_sem, ff]); all_goals (first | done | ((repeat' (with_reducible apply And.intro)) <;> first | exact Zyl z.sets[k]!.set s.set | (intros; exact Zyl z.sets[k]!.set s.set) | omega | skip)))
  refine Zaa ?_
  refine stp Lun ?_
  refine cd (fun c2 => ?_) (fun c2 => ?_)
  ·
   refine stp Lun ?_
   refine rgn Lun ?_
   show DW _ _ _ _ _
   refine stp Lun ?_
   refine cd (fun c3 => ?_) (fun c3 => ?_)
   ·
    refine rgn Lun ?_
    show DW _ _ _ _ _
    refine rgn Lun ?_
    show ∃ _, _
    exact rnd (k + 1, true, out ++ [s] ++ [z.sets[k]!], (nx + 39), _) (h1 := ⟨iv, iv, iv, (by first | (simp; omega) | (dsimp only; simp; omega)), (by (try dsimp only); rw [hv, Zak hk2]; simp_all; try grind), trivial⟩)
   ·
    refine dw_skip ?_
    show DW _ _ _ _ _
    refine rgn Lun ?_
    show ∃ _, _
    exact rnd (k + 1, true, out ++ [s], (nx + 25), _) (h1 := ⟨iv, iv, iv, (by first | (simp; omega) | (dsimp only; simp; omega)), (by (try dsimp only); rw [hv, Zak hk2]; simp_all; try grind), trivial⟩)
  ·
   refine dw_skip ?_
   show DW _ _ _ _ _
   refine stp Lun ?_
   refine cd (fun c3 => ?_) (fun c3 => ?_)
   ·
    refine rgn Lun ?_
    show DW _ _ _ _ _
    refine rgn Lun ?_
    show ∃ _, _
    exact rnd (k + 1, dn, out ++ [z.sets[k]!], (nx + 31), _) (h1 := ⟨iv, iv, iv, (by first | (simp; omega) | (dsimp only; simp; omega)), (by (try dsimp only); rw [hv, Zak hk2]; simp_all; try grind), trivial⟩)
   ·
    refine dw_skip ?_
    show DW _ _ _ _ _
    refine rgn Lun ?_
    show ∃ _, _
    exact rnd (k + 1, dn, out, r, _) (h1 := ⟨iv, iv, iv, (by first | (simp; omega) | (dsimp only; simp; omega)), (by (try dsimp only); rw [hv, Zak hk2]; simp_all; try grind), trivial⟩)
 ·
  have hk3 : k = z.sets.length := by have : ¬ k < z.sets.length := (by simpa using c1); omega
  refine Zja ?_
  show DW _ _ _ _ _
  refine Zaa ?_
  refine stp Lun ?_
  refine cd (fun c4 => ?_) (fun c4 => ?_)
  ·
   refine rgn Lun ?_
   show DW _ _ _ _ _
   first | (refine Zhd 6 1 r (rows := out.map Sgd.d) (off := 0) (len := out.length) (by simp only [go_sem, ff]; exact rfl) (by rfl) (by simp only [go_sem, ff]; exact rfl) (by omega) (by simp) Zkn ?_) | (refine Zhd 6 1 (nx + 11) (rows := (out ++ [s]).map Sgd.d) (off := 0) (len := out.length + 1) (by simp only [go_sem, ff]; exact rfl) (by rfl) (by simp only [go_sem, ff]; exact rfl) (by omega) (by simp) Zkn ?_)
   simp only [List.drop_zero, Zrg, Zqk, List.set_cons_succ, List.set_cons_zero]
   refine stp Lun ?_
   refine Zba ?_
   exact fin 2 (hr := by (try simp only [go_sem, ff]); all_goals (first | rfl | (subst hk3; rw [List.drop_length] at hv; simp_all [withF, Zto]; try rfl)))
  ·
   refine dw_skip ?_
   show DW _ _ _ _ _
   first | (refine Zhd 6 1 r (rows := out.map Sgd.d) (off := 0) (len := out.length) (by simp only [go_sem, ff]; exact rfl) (by rfl) (by simp only [go_sem, ff]; exact rfl) (by omega) (by simp) Zkn ?_) | (refine Zhd 6 1 (nx + 11) (rows := (out ++ [s]).map Sgd.d) (off := 0) (len := out.length + 1) (by simp only [go_sem, ff]; exact rfl) (by rfl) (by simp only [go_sem, ff]; exact rfl) (by omega) (by simp) Zkn ?_)
   simp only [List.drop_zero, Zrg, Zqk, List.set_cons_succ, List.set_cons_zero]
   refine stp Lun ?_
   refine Zba ?_
   exact fin 2 (hr := by (try simp only [go_sem, ff]); all_goals (first | rfl | (subst hk3; rw [List.drop_length] at hv; simp_all [withF, Zto]; try rfl)))
set_option maxRecDepth 10000
@[go_sem] theorem dats1_one9 {f : Bool} {t : ByteArray} {n m : Int} {k1 k2 : IntKind} : dats1 (.list f [[.v (.string t), .v (.int k1 n), .v (.int k2 m)]]) = [⟨t.data.toList, n, m⟩] := rfl
theorem Zp7 {z : Zon} (h : 0 ≤ startN z) : (startN z).toNat < z.sets.length := at_ltN h
theorem bo19 : Zea Tryz.prog 19 = true := by kernel_rfl
theorem Zu4 (z : Zon) (hl : z.sets.length ≤ 1000000) (h0 : 0 ≤ startN z → 0 < z.sets[(startN z).toNat]!.set.data.length) : PureCt Tryz.prog 19 [.agg z.d] (.agg (settF z).d) := by
 refine Zca Tryz.func19 rfl bo19 (by simp [go_sem, D.nr, nrs, nrr]) (by simp [Tryz.f19]) ?_
 unfold Tryz.f19
 simp only [Zfa]
 have ff := True.intro
 refine stp Lun ?_
 refine stp Lun ?_ (hok := by (try simp only [go_sem, ff]); all_goals (first | done | ((repeat' (with_reducible apply And.intro)) <;> first | exact Zfq z hl | (intros; exact Zfq z hl) | skip)))
 refine Zaa ?_
 refine stp Lun ?_
 refine cd (fun c1 => ?_) (fun c1 => ?_)
 ·
  refine stp Lun ?_
  refine Zba ?_
  exact fin 2 (hr := by (try simp only [go_sem, ff]); all_goals (rw [settF, if_pos (by omega)]))
 ·
  have hs0 : 0 ≤ startN z := by omega
  have hx := Zp7 hs0
  have hdt := h0 hs0
  have ff := And.intro (Zla hx) (And.intro (Zkc hdt) ff)
  refine dw_skip ?_
  show DW _ _ _ _ _
  refine stp Lun ?_
  refine stp Lun ?_
  refine stp Lun ?_ (hok := by (try simp only [go_sem, ff]); all_goals (first | done | ((repeat' (with_reducible apply And.intro)) <;> first | exact Zxs z ⟨{ z.sets[(startN z).toNat]!.set with data := [⟨[], 0, z.sets[(startN z).toNat]!.set.data[0]!.m⟩] }, []⟩ hl | (intros; exact Zxs z ⟨{ z.sets[(startN z).toNat]!.set with data := [⟨[], 0, z.sets[(startN z).toNat]!.set.data[0]!.m⟩] }, []⟩ hl) | skip)))
  refine Zba ?_
  exact fin 2 (hr := by (try simp only [go_sem, ff]); all_goals (rw [settF, if_neg (by omega)]; rfl))
set_option maxRecDepth 10000
theorem Znt (l : List Sgd) (n : Str) : ∀ k, (Zlb l n k).length ≤ k
 | 0 => Nat.le_refl _
 | k + 1 => by
  have := Znt l n k
  unfold Zlb
  split
  ·
   omega
  ·
   simp; omega
@[go_sem] theorem nameTo_0 {l : List Sgd} {n : Str} : Zlb l n 0 = [] := rfl
set_option maxRecDepth 10000
set_option maxRecDepth 10000
def wrD (n : Int) : List D := [.v (.string (bs [])), .i n, .i 0]
theorem Zm7 {w : List Int} {k : Nat} (h : k < w.length) : (w.take (k + 1)).map wrD = (w.take k).map wrD ++ [[.v (.string (bs [])), .i w[k]!, .i 0]] := by
 rw [Ztc! h, List.map_append]; rfl
theorem Zcq {w : List Int} {k : Nat} (h : k ≤ w.length) : ((w.take k).map wrD).length = k := by simp; omega
@[go_sem] theorem nrr_wr {w : List Int} : nrr (w.map wrD) = true := by
 induction w with
 | nil => rfl
 | cons x l ih => simp only [List.map_cons, nrr, ih]; rfl
@[go_sem] theorem wkr_wr {w : List Int} : wkr (w.map wrD) = w.map wrD := by
 induction w with
 | nil => rfl
 | cons x l ih => simp only [List.map_cons, wkr, ih]; rfl
theorem wr_ad {w : List Int} : (w.map adD).map Dat.d = w.map wrD := by rw [List.map_map]; rfl
theorem bo31 : Zea Tryz.prog 31 = true := by kernel_rfl
theorem Zbc (n : Str) (k : Int) (t : Str) (a : Int) (m : Int) : PureCt Tryz.prog 31 [.v (.string (bs n)), .i k, .v (.string (bs t)), .i a, .i m] (.agg (RSet.d (setU n k t a m))) := by
 refine Zca Tryz.func31 rfl bo31 (by simp [go_sem, D.nr, nrs, nrr]) (by simp [Tryz.f31]) ?_
 unfold Tryz.f31
 simp only [Zfa]
 have ff := True.intro
 refine stp Lun ?_
 refine stp Lun ?_
 refine Zba ?_
 exact fin 2 (hr := by (try simp only [go_sem, ff]); all_goals (rfl))
theorem bo30 : Zea Tryz.prog 30 = true := by kernel_rfl
theorem Zg3 (s : Int) (w : List Int) (hw : w.length ≤ 1000) : PureCt Tryz.prog 30 [.i s, .list false (w.map wnD)] (.agg (exZ s w).d) := by
 refine Zca Tryz.func30 rfl bo30 (by simp [go_sem, D.nr, nrs, nrr]) (by simp [Tryz.f30]) ?_
 unfold Tryz.f30
 simp only [Zfa]
 have ff := True.intro
 refine stp Lun ?_
 refine stp Lun ?_
 refine Zaa ?_
 refine Zcw 2 3 31 63 (by simp only [go_sem, ff]; exact rfl) (by rfl) (by simp only [go_sem, ff]) ?_
 simp only [List.set_cons_succ, List.set_cons_zero]
 refine stp Lun ?_
 refine Zda ?_
 refine lp (α := (Nat) × (Nat) × Nat) [0, 4, 5, 9, 10] (fun ⟨k, r, nx⟩ => (k ≤ w.length) ∧ (r < nx) ∧ (2 < r) ∧ True) (fun ⟨k, r, nx⟩ => w.length - k) (fun ⟨k, r, nx⟩ => [(11, .i k)]) (fun ⟨k, r, nx⟩ => [(0, ⟨24, [[.v (.string (bs [])), .list true []]]⟩), (2, ⟨31, [[.v (.string (bs [119, 46, 120])), .i 1, .i 60, .mrow r 0 k]]⟩), (r, ⟨63, ((w.take (k)).map wrD)⟩)]) (fun ⟨k, r, nx⟩ => nx) (0, 4, _) (hA := ⟨iv, iv, iv, trivial⟩) (round := ?_)
 rintro ⟨k, r, nx⟩ ⟨hk, hr, hr2, -⟩
 show DW _ _ _ _ { n := _, t := tab _, h := _, nx := _, e := _ }
 simp only [List.cons_append, List.nil_append]
 have n0 : 2 < nx := by omega
 have hll := Zcq hk
 have z0_2 : (0 = 2) = False := eq_false (by omega)
 have y2_0 : (2 = 0) = False := eq_false (by omega)
 have z0_r : (0 = r) = False := eq_false (by omega)
 have yr_0 : (r = 0) = False := eq_false (by omega)
 have z2_r : (2 = r) = False := eq_false (by omega)
 have yr_2 : (r = 2) = False := eq_false (by omega)
 have ff := And.intro @hr (And.intro @n0 (And.intro @hll (And.intro @z0_2 (And.intro @y2_0 (And.intro @z0_r (And.intro @yr_0 (And.intro @z2_r (And.intro @yr_2 ff))))))))
 refine stp Lun ?_
 refine Zaa ?_
 refine cd (fun c1 => ?_) (fun c1 => ?_) (hp := rfl) (hq := rfl)
 ·
  have hk2 : k < w.length := by simpa using c1
  have ff := And.intro (Zwy hk2) ff
  refine dw_skip ?_
  show DW _ _ _ _ _
  refine Zaa ?_
  refine Zda ?_
  refine stp Lun ?_
  refine rgn Lun ?_
  show DW _ _ _ _ _
  refine rgn Lun ?_
  show ∃ _, _
  have hst := Zm7 hk2
  have ff := And.intro hst ff
  exact rnd (k + 1, (nx + 9), _) (h1 := ⟨iv, iv, iv, trivial⟩)
 ·
  have hk3 : k = w.length := by have : ¬ k < w.length := (by simpa using c1); omega
  subst hk3
  refine Zja ?_
  show DW _ _ _ _ _
  refine Zhd 2 3 r (rows := ((w.take (w.length)).map wrD)) (off := 0) (len := w.length) (by simp only [go_sem, ff]; exact rfl) (by rfl) (by simp only [go_sem, ff]; exact rfl) (by omega) (by simp only [go_sem, ff]; omega) (by rw [List.take_length]; exact nrr_wr) ?_
  simp only [List.drop_zero, List.set_cons_succ, List.set_cons_zero]
  refine stp Lun ?_ (hok := by (try simp only [go_sem, ff]); all_goals (first | done | ((repeat' (with_reducible apply And.intro)) <;> first | exact Zbc [120] 2 [97, 46, 110, 115] 0 0 | (intros; exact Zbc [120] 2 [97, 46, 110, 115] 0 0) | exact Zbc [120] 4 [] s 60 | (intros; exact Zbc [120] 4 [] s 60) | skip)))
  refine Zba ?_
  exact fin 5 (hr := by (try simp only [go_sem, ff]); all_goals (first | (rw [← wr_ad]; rfl) | (rw [wkr_wr, ← wr_ad]; rfl)))
theorem bo18 : Zea Tryz.prog 18 = true := by kernel_rfl
theorem Zce (z : Zon) (u : Upd) : PureCt Tryz.prog 18 [.agg z.d, .agg u.d] (.b (Zbi z u)) := by
 refine Zca Tryz.func18 rfl bo18 (by simp [go_sem, D.nr, nrs, nrr]) (by simp [Tryz.f18]) ?_
 unfold Tryz.f18
 simp only [Zfa]
 have ff := True.intro
 refine stp Lun ?_
 refine stp Lun ?_ (hok := by (try simp only [go_sem, ff]); all_goals (first | done | ((repeat' (with_reducible apply And.intro)) <;> first | exact Zpx z | (intros; exact Zpx z) | exact (fun _ => Zue z) | (intros; exact (fun _ => Zue z)) | exact (fun h => Zyk z (by have := Zi0 (z := z) (by simp_all); omega)) | (intros; exact (fun h => Zyk z (by have := Zi0 (z := z) (by simp_all); omega))) | exact (fun _ => Zkx u) | (intros; exact (fun _ => Zkx u)) | skip)))
 refine Zba ?_
 exact fin 0 (hr := by (try simp only [go_sem, ff]); all_goals (congr 2; rw [Bool.eq_iff_iff]; simp only [Zbi, Bool.and_eq_true, decide_eq_true_eq]; constructor <;> (rintro ⟨⟨⟨⟨⟨h1, h2⟩, h3⟩, h4⟩, h5⟩, h6⟩; exact ⟨⟨⟨⟨⟨h1, h2⟩, h3⟩, h4⟩, by omega⟩, by omega⟩)))
set_option maxRecDepth 10000
set_option maxRecDepth 10000
theorem uex_rct (s : Int) (w : List Int) (hw : w.length ≤ 1000) (h : H) (n : Nat) : RCt Tryz.prog 30 [.i s, .list false (w.map wnD)] h n (fun d h' n' => ∃ rs, d = .agg [.v (.string (bs [120])), .mrow rs 0 3] ∧ h' rs = some ⟨52, [[.v (.string (bs [120])), .i 2, .i 60, .list false [[.v (.string (bs [97, 46, 110, 115])), .i 0, .i 0]], .list true []], [.v (.string (bs [120])), .i 4, .i 60, .list false [[.v (.string (bs [])), .i s, .i 60]], .list true []], [.v (.string (bs [119, 46, 120])), .i 1, .i 60, .list false (w.map wrD), .list true []]]⟩ ∧ n ≤ rs ∧ rs < n' ∧ ∀ q, q < n → h' q = h q) := by
 refine Zmb Tryz.func30 rfl bo30 (by simp [Tryz.f30]) (fun hnone => ?_)
 unfold Tryz.f30
 have ff := True.intro
 refine stp Lun ?_
 refine stp Lun ?_
 refine Zaa ?_
 refine Zcw (n + 2) 3 31 63 (by simp only [go_sem, ff]; exact rfl) (by rfl) (by simp only [go_sem, ff]) ?_
 simp only [List.set_cons_succ, List.set_cons_zero]
 refine stp Lun ?_
 refine Zda ?_
 refine lph (α := (Nat) × (Nat) × Nat) [0, 4, 5, 9, 10] (fun ⟨k, r, nx⟩ => (k ≤ w.length) ∧ (r < nx) ∧ (n + 2 < r) ∧ True) (fun ⟨k, r, nx⟩ => w.length - k) (fun ⟨k, r, nx⟩ => [(11, .i k)]) (fun ⟨k, r, nx⟩ => upd (upd (upd h n (some ⟨24, [[.v (.string (bs [])), .list true []]]⟩)) (n + 2) (some ⟨31, [[.v (.string (bs [119, 46, 120])), .i 1, .i 60, .mrow (r) 0 (k)]]⟩)) (r) (some ⟨63, ((w.take (k)).map wrD)⟩)) (fun ⟨k, r, nx⟩ => nx) (0, (n + 4), _) (hA := ⟨iv, iv, iv, trivial⟩) (round := ?_) (hhh := by intro q; left; dsimp only; simp only [upd]; (repeat' split) <;> first | rfl | omega | (simp_all; done) | (exfalso; omega))
 rintro ⟨k, r, nx⟩ ⟨hk, hr, hr2, -⟩
 show DW _ _ _ _ { n := _, t := tab _, h := _, nx := _, e := _ }
 simp only [List.cons_append, List.nil_append]
 have n0 : n + 2 < nx := by omega
 have hll := Zcq hk
 have zr_n : (r = n) = False := eq_false (by omega)
 have yn_r : (n = r) = False := eq_false (by omega)
 have zr_n2 : (r = n + 2) = False := eq_false (by omega)
 have yn2_r : (n + 2 = r) = False := eq_false (by omega)
 have ff := And.intro @hr (And.intro @n0 (And.intro @hll (And.intro @zr_n (And.intro @yn_r (And.intro @zr_n2 (And.intro @yn2_r ff))))))
 refine stp Lun ?_
 refine Zaa ?_
 refine cd (fun c1 => ?_) (fun c1 => ?_) (hp := rfl) (hq := rfl)
 ·
  have hk2 : k < w.length := by simpa using c1
  have ff := And.intro (Zwy hk2) ff
  refine dw_skip ?_
  show DW _ _ _ _ _
  refine Zaa ?_
  refine Zda ?_
  refine stp Lun ?_
  refine rgn Lun ?_
  show DW _ _ _ _ _
  refine rgn Lun ?_
  show ∃ _, _
  have hst := Zm7 hk2
  have ff := And.intro hst ff
  refine rnd (k + 1, (nx + 9), _) (h1 := ⟨iv, iv, iv, trivial⟩) (h5 := ?_)
  intro q
  by_cases e4 : q = r
  ·
   right; subst e4; simp only [upd]; repeat rw [if_neg (by omega)]
   exact hnone _ (by omega)
  ·
   left; simp only [upd]; try simp only [go_sem, ff]
   (repeat' split) <;> first | rfl | omega | (simp_all; done) | (exfalso; omega)
 ·
  have hk3 : k = w.length := by have : ¬ k < w.length := (by simpa using c1); omega
  subst hk3
  refine Zja ?_
  show DW _ _ _ _ _
  refine Zhd (n + 2) 3 r (rows := ((w.take (w.length)).map wrD)) (off := 0) (len := w.length) (by simp only [go_sem, ff]; exact rfl) (by rfl) (by simp only [go_sem, ff]; exact rfl) (by omega) (by simp only [go_sem, ff]; omega) (by rw [List.take_length]; exact nrr_wr) ?_
  simp only [List.drop_zero, List.set_cons_succ, List.set_cons_zero]
  have znx8_n : (nx + 8 = n) = False := eq_false (by omega)
  have yn_nx8 : (n = nx + 8) = False := eq_false (by omega)
  have ff := And.intro @znx8_n (And.intro @yn_nx8 ff)
  refine stp LunB ?_ (hok := by (try simp only [go_sem, ff]); all_goals (first | done | ((repeat' (with_reducible apply And.intro)) <;> first | exact Zbc [120] 2 [97, 46, 110, 115] 0 0 | (intros; exact Zbc [120] 2 [97, 46, 110, 115] 0 0) | exact Zbc [120] 4 [] s 60 | (intros; exact Zbc [120] 4 [] s 60) | omega | skip)))
  refine Zba ?_
  refine Zuk (_) (hh := fun _ => .inl rfl) (hr := ?_)
  try simp only [go_sem, ff]
  refine ⟨nx + 8, rfl, ?_, by omega, by first | omega | (dsimp only; omega), fun q hq => ?_⟩
  ·
   simp only [upd]; repeat (first | rfl | rw [if_neg (by omega)] | rw [if_pos rfl])
  ·
   simp only [upd]; repeat (first | rfl | rw [if_neg (by omega)])
set_option maxRecDepth 10000
attribute [go_sem] setU
@[go_sem] theorem chgs1_one9 {f g : Bool} {k t l : Int} {k1 k2 k3 : IntKind} {s : ByteArray} {rows : List (List D)} : Yza (.list f [[.v (.int k1 k), .v (.string s), .v (.int k2 t), .v (.int k3 l), .list g rows]]) = [⟨k, ⟨s.data.toList, t, l, dats1 (.list g rows)⟩⟩] := rfl
@[go_sem] theorem dats1_nil9 {f : Bool} : dats1 (.list f []) = [] := rfl
theorem hu1 : updR (exZ 65535 [7]) ⟨[(⟨3, ⟨[119, 46, 120], 1, 0, []⟩⟩ : Chg)], [⟨1, (⟨[119, 46, 120], 1, 5, [⟨[], 3, 0⟩]⟩ : RSet)⟩]⟩ = ((⟨[120], [⟨⟨[120], 2, 60, [⟨[97, 46, 110, 115], 0, 0⟩]⟩, []⟩, ⟨⟨[120], 4, 60, [⟨[], 0, 60⟩]⟩, []⟩, ⟨⟨[119, 46, 120], 1, 5, [⟨[], 3, 0⟩, ⟨[], 7, 0⟩]⟩, []⟩]⟩ : Zon), 0) := by kernel_rfl
theorem hu2 : updR (exZ 65535 [7]) ⟨[], [⟨2, ⟨[120], 2, 60, [⟨[97, 46, 110, 115], 0, 0⟩]⟩⟩]⟩ = (zon0, 6) := by kernel_rfl
theorem hu3 : updR (exZ 65535 [7]) ⟨[(⟨4, ⟨[119, 46, 120], 1, 0, []⟩⟩ : Chg)], []⟩ = (zon0, 24) := by kernel_rfl
theorem hu4 : updR (exZ 65535 [7]) ⟨[], []⟩ = ((exZ 65535 [7]), 0) := by kernel_rfl
theorem hh1 : holdsF (exZ 65535 [7]) ⟨5, (⟨[119, 46, 120], 1, 5, [⟨[], 3, 0⟩]⟩ : RSet)⟩ = (false, 0) := by kernel_rfl
theorem hh2 : holdsF (exZ 65535 [7]) ⟨5, ⟨[119, 46, 120], 1, 60, [⟨[], 7, 0⟩]⟩⟩ = (true, 0) := by kernel_rfl
theorem hh3 : holdsF (exZ 65535 [7]) ⟨1, ⟨[121], 0, 0, []⟩⟩ = (false, 20) := by kernel_rfl
theorem hs8 : sameZ (⟨[120], [⟨⟨[120], 2, 60, [⟨[97, 46, 110, 115], 0, 0⟩]⟩, []⟩, ⟨⟨[120], 4, 60, [⟨[], 0, 60⟩]⟩, []⟩, ⟨⟨[119, 46, 120], 1, 5, [⟨[], 3, 0⟩, ⟨[], 7, 0⟩]⟩, []⟩]⟩ : Zon) (⟨[120], [⟨⟨[120], 2, 60, [⟨[97, 46, 110, 115], 0, 0⟩]⟩, []⟩, ⟨⟨[120], 4, 60, [⟨[], 0, 60⟩]⟩, []⟩, ⟨⟨[119, 46, 120], 1, 5, [⟨[], 3, 0⟩, ⟨[], 7, 0⟩]⟩, []⟩]⟩ : Zon) = true := by exact decide_eq_true rfl
theorem hs9 : sameZ (exZ 65535 [7]) (exZ 65535 [7]) = true := by exact decide_eq_true rfl
theorem hfy : fitL (Zon.sets (⟨[120], [⟨⟨[120], 2, 60, [⟨[97, 46, 110, 115], 0, 0⟩]⟩, []⟩, ⟨⟨[120], 4, 60, [⟨[], 0, 60⟩]⟩, []⟩, ⟨⟨[119, 46, 120], 1, 5, [⟨[], 3, 0⟩, ⟨[], 7, 0⟩]⟩, []⟩]⟩ : Zon)) := ⟨by decide, by intro k hk; have : k = 0 ∨ k = 1 ∨ k = 2 := (by have : (Zon.sets (⟨[120], [⟨⟨[120], 2, 60, [⟨[97, 46, 110, 115], 0, 0⟩]⟩, []⟩, ⟨⟨[120], 4, 60, [⟨[], 0, 60⟩]⟩, []⟩, ⟨⟨[119, 46, 120], 1, 5, [⟨[], 3, 0⟩, ⟨[], 7, 0⟩]⟩, []⟩]⟩ : Zon)).length = 3 := rfl; omega); rcases this with e | e | e <;> subst e <;> exact ⟨by decide, by decide⟩⟩
theorem hfz : fitL (Zon.sets (exZ 65535 [7])) := ⟨by decide, by intro k hk; have : k = 0 ∨ k = 1 ∨ k = 2 := (by have : (Zon.sets (exZ 65535 [7])).length = 3 := rfl; omega); rcases this with e | e | e <;> subst e <;> exact ⟨by decide, by decide⟩⟩
theorem Zqa {z x : Zon} {u : Upd} {e : Int} (h : updR z u = (x, e)) : PureCt Tryz.prog 13 [.agg z.d, .agg u.d] (.tuple [.agg x.d, .i e]) := by
 have := Zwz z u
 rwa [h] at this
theorem Zmc {z : Zon} {n : Chg} {x : Bool} {e : Int} (h : holdsF z n = (x, e)) : PureCt Tryz.prog 15 [.agg z.d, .agg n.d] (.tuple [.b x, .i e]) := by
 have := Ztz z n
 rwa [h] at this
theorem Zwa {x : Zon} (h : fitL x.sets) : PureCt Tryz.prog 17 [.agg x.d, .agg x.d] (.b true) := by
 have := Zgq x x h
 rwa [show sameZ x x = true from decide_eq_true rfl] at this
theorem bo10 : Zea Tryz.prog 10 = true := by kernel_rfl
theorem Zjr  : PureCt Tryz.prog 10 [] (.b true) := by
 refine Zca Tryz.func10 rfl bo10 (by simp [go_sem, D.nr, nrs, nrr]) (by simp [Tryz.f10]) ?_
 unfold Tryz.f10
 simp only [Zfa]
 have ff := True.intro
 have ff := And.intro @hu1 (And.intro @hu2 (And.intro @hu3 (And.intro @hu4 (And.intro @hh1 (And.intro @hh2 (And.intro @hh3 (And.intro @hs8 (And.intro @hs9 ff))))))))
 refine stp Lun ?_
 refine stp Lun ?_ (hok := by (try simp only [go_sem, ff]); all_goals (first | done | ((repeat' (with_reducible apply And.intro)) <;> first | exact Zg3 65535 [7] (by decide) | (intros; exact Zg3 65535 [7] (by decide)) | rfl | omega | skip)))
 refine stp Lun ?_ (hok := by (try simp only [go_sem, ff]); all_goals (first | done | ((repeat' (with_reducible apply And.intro)) <;> first | exact Zbc [119, 46, 120] 1 [] 3 0 | (intros; exact Zbc [119, 46, 120] 1 [] 3 0) | rfl | omega | skip)))
 refine stp Lun ?_
 refine stp Lun ?_
 refine stp Lun ?_ (hok := by (try simp only [go_sem, ff]); all_goals (first | done | ((repeat' (with_reducible apply And.intro)) <;> first | exact Zqa hu1 | (intros; exact Zqa hu1) | rfl | omega | skip)))
 refine Zaa (Zv1 Lun 1 (hct := by exact uex_rct 0 [3, 7] (by decide) _ _) (hk := ?_))
 rintro res h2 n2 ⟨rs, rfl, x1, x2, x3, x4⟩
 try dsimp only at x2 x3 x4
 have y3 : h2 3 = _ := (x4 3 (by omega)).trans (by simp only [go_sem, ff]; exact rfl)
 have y6 : h2 6 = _ := (x4 6 (by omega)).trans (by simp only [go_sem, ff]; exact rfl)
 have y12 : h2 12 = _ := (x4 12 (by omega)).trans (by simp only [go_sem, ff]; exact rfl)
 have y25 : h2 25 = _ := (x4 25 (by omega)).trans (by simp only [go_sem, ff]; exact rfl)
 have zrs_3 : (rs = 3) = False := eq_false (by omega)
 have y3_rs : (3 = rs) = False := eq_false (by omega)
 have zrs_6 : (rs = 6) = False := eq_false (by omega)
 have y6_rs : (6 = rs) = False := eq_false (by omega)
 have zrs_12 : (rs = 12) = False := eq_false (by omega)
 have y12_rs : (12 = rs) = False := eq_false (by omega)
 have zrs_25 : (rs = 25) = False := eq_false (by omega)
 have y25_rs : (25 = rs) = False := eq_false (by omega)
 have zrs_n22 : (rs = n2 + 2) = False := eq_false (by omega)
 have yn22_rs : (n2 + 2 = rs) = False := eq_false (by omega)
 have zn22_3 : (n2 + 2 = 3) = False := eq_false (by omega)
 have y3_n22 : (3 = n2 + 2) = False := eq_false (by omega)
 have zn22_6 : (n2 + 2 = 6) = False := eq_false (by omega)
 have y6_n22 : (6 = n2 + 2) = False := eq_false (by omega)
 have zn22_12 : (n2 + 2 = 12) = False := eq_false (by omega)
 have y12_n22 : (12 = n2 + 2) = False := eq_false (by omega)
 have zn22_25 : (n2 + 2 = 25) = False := eq_false (by omega)
 have y25_n22 : (25 = n2 + 2) = False := eq_false (by omega)
 have zn219_3 : (n2 + 19 = 3) = False := eq_false (by omega)
 have y3_n219 : (3 = n2 + 19) = False := eq_false (by omega)
 have zn219_6 : (n2 + 19 = 6) = False := eq_false (by omega)
 have y6_n219 : (6 = n2 + 19) = False := eq_false (by omega)
 have zn219_12 : (n2 + 19 = 12) = False := eq_false (by omega)
 have y12_n219 : (12 = n2 + 19) = False := eq_false (by omega)
 have zn219_25 : (n2 + 19 = 25) = False := eq_false (by omega)
 have y25_n219 : (25 = n2 + 19) = False := eq_false (by omega)
 have zn219_rs : (n2 + 19 = rs) = False := eq_false (by omega)
 have yrs_n219 : (rs = n2 + 19) = False := eq_false (by omega)
 have zn232_3 : (n2 + 32 = 3) = False := eq_false (by omega)
 have y3_n232 : (3 = n2 + 32) = False := eq_false (by omega)
 have zn232_6 : (n2 + 32 = 6) = False := eq_false (by omega)
 have y6_n232 : (6 = n2 + 32) = False := eq_false (by omega)
 have zn232_12 : (n2 + 32 = 12) = False := eq_false (by omega)
 have y12_n232 : (12 = n2 + 32) = False := eq_false (by omega)
 have zn232_25 : (n2 + 32 = 25) = False := eq_false (by omega)
 have y25_n232 : (25 = n2 + 32) = False := eq_false (by omega)
 have zn232_rs : (n2 + 32 = rs) = False := eq_false (by omega)
 have yrs_n232 : (rs = n2 + 32) = False := eq_false (by omega)
 have zn241_3 : (n2 + 41 = 3) = False := eq_false (by omega)
 have y3_n241 : (3 = n2 + 41) = False := eq_false (by omega)
 have zn241_6 : (n2 + 41 = 6) = False := eq_false (by omega)
 have y6_n241 : (6 = n2 + 41) = False := eq_false (by omega)
 have zn241_12 : (n2 + 41 = 12) = False := eq_false (by omega)
 have y12_n241 : (12 = n2 + 41) = False := eq_false (by omega)
 have zn241_25 : (n2 + 41 = 25) = False := eq_false (by omega)
 have y25_n241 : (25 = n2 + 41) = False := eq_false (by omega)
 have zn241_rs : (n2 + 41 = rs) = False := eq_false (by omega)
 have yrs_n241 : (rs = n2 + 41) = False := eq_false (by omega)
 have ff := And.intro @x1 (And.intro @y3 (And.intro @y6 (And.intro @y12 (And.intro @y25 (And.intro @zrs_3 (And.intro @y3_rs (And.intro @zrs_6 (And.intro @y6_rs (And.intro @zrs_12 (And.intro @y12_rs (And.intro @zrs_25 (And.intro @y25_rs (And.intro @zrs_n22 (And.intro @yn22_rs (And.intro @zn22_3 (And.intro @y3_n22 (And.intro @zn22_6 (And.intro @y6_n22 (And.intro @zn22_12 (And.intro @y12_n22 (And.intro @zn22_25 (And.intro @y25_n22 (And.intro @zn219_3 (And.intro @y3_n219 (And.intro @zn219_6 (And.intro @y6_n219 (And.intro @zn219_12 (And.intro @y12_n219 (And.intro @zn219_25 (And.intro @y25_n219 (And.intro @zn219_rs (And.intro @yrs_n219 (And.intro @zn232_3 (And.intro @y3_n232 (And.intro @zn232_6 (And.intro @y6_n232 (And.intro @zn232_12 (And.intro @y12_n232 (And.intro @zn232_25 (And.intro @y25_n232 (And.intro @zn232_rs (And.intro @yrs_n232 (And.intro @zn241_3 (And.intro @y3_n241 (And.intro @zn241_6 (And.intro @y6_n241 (And.intro @zn241_12 (And.intro @y12_n241 (And.intro @zn241_25 (And.intro @y25_n241 (And.intro @zn241_rs (And.intro @yrs_n241 ff))))))))))))))))))))))))))))))))))))))))))))))))))))
 refine Zu1 Lun ?_
 show DW _ _ _ _ _
 refine stp Lun ?_
 refine Zhd (n2 + 2) 1 rs (off := 0) (len := 3) (by simp only [go_sem, ff]; exact rfl) (by rfl) (by simp only [go_sem, ff]; exact rfl) (by omega) (by decide) (by rfl) ?_
 simp only [List.drop_zero, List.set_cons_succ, List.set_cons_zero, List.take_succ_cons, List.take_zero]
 refine stp LunF ?_ (hok := by (try simp only [go_sem, ff]); all_goals (first | done | ((repeat' (with_reducible apply And.intro)) <;> first | exact Zbc [120] 2 [97, 46, 110, 115] 0 0 | (intros; exact Zbc [120] 2 [97, 46, 110, 115] 0 0) | exact Zqa hu2 | (intros; exact Zqa hu2) | rfl | omega | skip)))
 refine stp Lun ?_
 refine stp Lun ?_ (hok := by (try simp only [go_sem, ff]); all_goals (first | done | ((repeat' (with_reducible apply And.intro)) <;> first | exact Zqa hu3 | (intros; exact Zqa hu3) | rfl | omega | skip)))
 refine stp Lun ?_ (hok := by (try simp only [go_sem, ff]); all_goals (first | done | ((repeat' (with_reducible apply And.intro)) <;> first | exact Zqa hu4 | (intros; exact Zqa hu4) | rfl | omega | skip)))
 refine stp Lun ?_ (hok := by (try simp only [go_sem, ff]); all_goals (first | done | ((repeat' (with_reducible apply And.intro)) <;> first | exact Zmc hh1 | (intros; exact Zmc hh1) | rfl | omega | skip)))
 refine stp LunF ?_ (hok := by (try simp only [go_sem, ff]); all_goals (first | done | ((repeat' (with_reducible apply And.intro)) <;> first | exact Zbc [119, 46, 120] 1 [] 7 0 | (intros; exact Zbc [119, 46, 120] 1 [] 7 0) | exact Zmc hh2 | (intros; exact Zmc hh2) | rfl | omega | skip)))
 refine stp Lun ?_ (hok := by (try simp only [go_sem, ff]); all_goals (first | done | ((repeat' (with_reducible apply And.intro)) <;> first | exact Zmc hh3 | (intros; exact Zmc hh3) | rfl | omega | skip)))
 refine stp Lun ?_
 refine stp Lun ?_ (hok := by (try simp only [go_sem, ff]); all_goals (first | done | ((repeat' (with_reducible apply And.intro)) <;> first | exact (fun _ => Zwa hfy) | (intros; exact (fun _ => Zwa hfy)) | exact Zwa hfy | (intros; exact Zwa hfy) | exact (fun _ => Zwa hfz) | (intros; exact (fun _ => Zwa hfz)) | rfl | omega | skip)))
 refine Zba ?_
 exact fin 0 (hr := by (try simp only [go_sem, ff]); all_goals (first | rfl | kernel_rfl))
set_option maxRecDepth 10000
theorem upd_fit {z y : Zon} {u : Upd} {e : Int} (h : updR z u = (y, e)) : fitL y.sets := by
 by_cases he : e = 0
 ·
  subst he
  obtain ⟨y0, hm⟩ := Zuu h
  exact Zdp hm.plain.1.ok
 ·
  rw [Zvu h he]
  exact ⟨by decide, fun k hk => absurd hk (Nat.not_lt_zero _)⟩
def hAll (z : Zon) (l : List Chg) : Nat → Bool
 | 0 => true
 | k + 1 => hAll z l k && holdB z l[k]!
@[go_sem] theorem hAll_0 {z : Zon} {l : List Chg} : hAll z l 0 = true := rfl
theorem Zuy (z : Zon) (l : List Chg) : ∀ k, hAll z l k = true ↔ ∀ i, i < k → holdB z l[i]! = true
 | 0 => by simp [hAll]
 | k + 1 => by
  unfold hAll
  rw [Bool.and_eq_true, Zuy z l k]
  constructor
  ·
   rintro ⟨h1, h2⟩ i hi
   by_cases e : i = k
   ·
    subst e; exact h2
   ·
    exact h1 i (by omega)
  ·
   exact fun h => ⟨fun i hi => h i (by omega), h k (by omega)⟩
theorem Zk3 (z : Zon) (l : List Chg) : hAll z l l.length = Zie z l := by
 rw [Bool.eq_iff_iff, Zuy]
 unfold Zie
 rw [Zma]
 exact ⟨fun h i _ hi => h i hi, fun h i hi => h i (Nat.zero_le _) hi⟩
theorem Zh5 {z y : Zon} {u : Upd} {e : Int} (h : updR z u = (y, e)) : (e ≠ 0 ∧ e ≠ 24 ∧ y = zon0) ∨ (e = 24 ∧ y = zon0 ∧ zoneOk z = true ∧ updOk u = true ∧ Zfe z u.needs = false ∧ Zie z u.needs = false) ∨ (e = 0 ∧ zoneOk z = true ∧ updOk u = true ∧ Zfe z u.needs = false ∧ Zie z u.needs = true ∧ updR z ⟨[], u.chgs⟩ = (y, 0)) := by
 by_cases h0 : e = 0
 ·
  subst h0
  obtain ⟨y0, hm⟩ := Zuu h
  exact .inr (.inr ⟨rfl, hm.pz.ok, hm.pu, hm.cut.1, hm.need, hm.free⟩)
 ·
  by_cases h24 : e = 24
  ·
   subst h24
   obtain ⟨h1, h2, h3, h4, h5⟩ := upd_need h
   exact .inr (.inl ⟨rfl, h1, h2.ok, h3, h4, h5⟩)
  ·
   exact .inl ⟨h0, h24, Zvu h h0⟩
theorem bo4 : Zea Tryz.prog 4 = true := by kernel_rfl
theorem lawUN_ct (z : Zon) (u : Upd) : PureCt Tryz.prog 4 [.agg z.d, .agg u.d] (.b true) := by
 refine Zca Tryz.func4 rfl bo4 (by simp [go_sem, D.nr, nrs, nrr]) (by simp [Tryz.f4]) ?_
 unfold Tryz.f4
 simp only [Zfa]
 have ff := True.intro
 refine stp Lun ?_
 refine stp Lun ?_ (hok := by (try simp only [go_sem, ff]); all_goals (exact Zjr))
 refine Zaa ?_
 refine stp Lun ?_ (hok := by (try simp only [go_sem, ff]); all_goals (first | done | ((repeat' (with_reducible apply And.intro)) <;> first | exact Zce z u | (intros; exact Zce z u) | exact ez9 | skip)))
 refine cd (fun c1 => ?_) (fun c1 => ?_)
 ·
  refine stp Lun ?_
  refine Zba ?_
  exact fin 0 (hr := by (try simp only [go_sem, ff]); all_goals (rfl))
 ·
  have hus : Zbi z u = true := by grind
  obtain ⟨u1, u2, u3, u4, u5⟩ := Zgh hus
  refine dw_skip ?_
  show DW _ _ _ _ _
  rcases hx : updR z u with ⟨x, e⟩
  have hxf := upd_fit hx
  have hxs : sameZ x x = true := decide_eq_true rfl
  rcases Zh5 hx with ⟨q1, q2, q3⟩ | ⟨q1, q2, q3, q4, q5, q6⟩ | ⟨q1, q3, q4, q5, q6, q7⟩
  ·
   have hl0 : x.sets.length = 0 := by rw [q3]; rfl
   have ff := And.intro @hx (And.intro @hxs (And.intro @hl0 ff))
   refine stp Lun ?_ (hok := by (try simp only [go_sem, ff]); all_goals (first | done | ((repeat' (with_reducible apply And.intro)) <;> first | exact Zqa hx | (intros; exact Zqa hx) | exact ez9 | skip)))
   refine Zaa ?_
   refine stp Lun ?_
   refine cd (fun c2 => ?_) (fun c2 => ?_) (hq := rfl)
   ·
    refine stp Lun ?_
    refine Zba ?_
    exact fin 0 (hr := by (try simp only [go_sem, ff]); all_goals (rfl))
   ·
    exfalso; revert c2; simp [q1, q2]
  ·
   subst q1
   have hl0 : x.sets.length = 0 := by rw [q2]; rfl
   have ff := And.intro @hx (And.intro @hxs (And.intro @hl0 ff))
   refine stp Lun ?_ (hok := by (try simp only [go_sem, ff]); all_goals (first | done | ((repeat' (with_reducible apply And.intro)) <;> first | exact Zqa hx | (intros; exact Zqa hx) | exact ez9 | skip)))
   refine Zaa ?_
   refine stp Lun ?_
   refine cd (fun c2 => ?_) (fun c2 => ?_) (hp := rfl)
   ·
    exfalso; simp at c2
   ·
    refine dw_skip ?_
    show DW _ _ _ _ _
    refine stp Lun ?_
    refine Zaa ?_
    refine stp Lun ?_
    refine Zda ?_
    refine lp (α := (Nat) × Nat) [2, 3, 5, 6, 7, 41, 42] (fun ⟨k, nx⟩ => (k ≤ u.needs.length) ∧ (1 < nx) ∧ (15 < nx) ∧ True) (fun ⟨k, nx⟩ => u.needs.length - k) (fun ⟨k, nx⟩ => [(8, .b (hAll z u.needs k)), (43, .i k)]) (fun ⟨k, nx⟩ => [(0, ⟨24, [z.d]⟩), (1, ⟨28, [u.d]⟩), (15, ⟨24, [x.d]⟩)]) (fun ⟨k, nx⟩ => nx) (0, _) (hA := ⟨iv, iv, iv, trivial⟩) (round := ?_)
    rintro ⟨k, nx⟩ ⟨hk, hx9, hx8, -⟩
    show DW _ _ _ _ { n := _, t := tab _, h := _, nx := _, e := _ }
    simp only [List.cons_append, List.nil_append]
    have ff := And.intro @hx9 (And.intro @hx8 ff)
    refine stp Lun ?_
    refine Zaa ?_
    refine cd (fun c3 => ?_) (fun c3 => ?_) (hp := rfl)
    ·
     have hk2 : k < u.needs.length := by simpa using c3
     have hho := Zuv q3 (Zyp q4 _ (Zya hk2)) (Yya q5 _ (Zya hk2))
     have ff := And.intro (Zke hk2) (And.intro @hho ff)
     refine dw_skip ?_
     show DW _ _ _ _ _
     refine Zaa ?_
     refine Zda ?_
     refine stp Lun ?_
     refine stp Lun ?_ (hok := by (try simp only [go_sem, ff]); all_goals (first | done | ((repeat' (with_reducible apply And.intro)) <;> first | exact Zmc hho | (intros; exact Zmc hho) | exact ez9 | skip)))
     refine Zaa ?_
     refine stp Lun ?_
     refine cd (fun c4 => ?_) (fun c4 => ?_) (hp := rfl) (hq := rfl)
     ·
      exfalso; simp at c4
     ·
      refine dw_skip ?_
      show DW _ _ _ _ _
      refine rgn Lun ?_
      show DW _ _ _ _ _
      refine rgn Lun ?_
      show ∃ _, _
      have hst : hAll z u.needs (k + 1) = (hAll z u.needs k && holdB z u.needs[k]!) := rfl
      have ff := And.intro hst ff
      exact rnd (k + 1, _) (h1 := ⟨iv, iv, iv, trivial⟩)
    ·
     have hk3 : k = u.needs.length := by omega
     subst hk3
     have hal := Zk3 z u.needs
     have ff := And.intro @hal (And.intro @q6 ff)
     refine Zja ?_
     show DW _ _ _ _ _
     refine Zaa ?_
     refine stp Lun ?_
     refine cd (fun c5 => ?_) (fun c5 => ?_) (hp := rfl) (hq := rfl)
     ·
      refine stp Lun ?_
      refine Zba ?_
      exact fin 0 (hr := by (try simp only [go_sem, ff]); all_goals (rfl))
     ·
      exfalso; simp at c5
  ·
   subst q1
   have ff := And.intro @hx (And.intro @hxs (And.intro @q7 ff))
   refine stp Lun ?_ (hok := by (try simp only [go_sem, ff]); all_goals (first | done | ((repeat' (with_reducible apply And.intro)) <;> first | exact Zqa hx | (intros; exact Zqa hx) | exact ez9 | skip)))
   refine Zaa ?_
   refine stp Lun ?_
   refine cd (fun c2 => ?_) (fun c2 => ?_) (hp := rfl)
   ·
    exfalso; simp at c2
   ·
    refine dw_skip ?_
    show DW _ _ _ _ _
    refine stp Lun ?_
    refine Zaa ?_
    refine stp Lun ?_
    refine Zda ?_
    refine lp (α := (Nat) × Nat) [2, 3, 5, 6, 7, 41, 42] (fun ⟨k, nx⟩ => (k ≤ u.needs.length) ∧ (1 < nx) ∧ (15 < nx) ∧ True) (fun ⟨k, nx⟩ => u.needs.length - k) (fun ⟨k, nx⟩ => [(8, .b (hAll z u.needs k)), (43, .i k)]) (fun ⟨k, nx⟩ => [(0, ⟨24, [z.d]⟩), (1, ⟨28, [u.d]⟩), (15, ⟨24, [x.d]⟩)]) (fun ⟨k, nx⟩ => nx) (0, _) (hA := ⟨iv, iv, iv, trivial⟩) (round := ?_)
    rintro ⟨k, nx⟩ ⟨hk, hx9, hx8, -⟩
    show DW _ _ _ _ { n := _, t := tab _, h := _, nx := _, e := _ }
    simp only [List.cons_append, List.nil_append]
    have ff := And.intro @hx9 (And.intro @hx8 ff)
    refine stp Lun ?_
    refine Zaa ?_
    refine cd (fun c3 => ?_) (fun c3 => ?_) (hp := rfl)
    ·
     have hk2 : k < u.needs.length := by simpa using c3
     have hho := Zuv q3 (Zyp q4 _ (Zya hk2)) (Yya q5 _ (Zya hk2))
     have ff := And.intro (Zke hk2) (And.intro @hho ff)
     refine dw_skip ?_
     show DW _ _ _ _ _
     refine Zaa ?_
     refine Zda ?_
     refine stp Lun ?_
     refine stp Lun ?_ (hok := by (try simp only [go_sem, ff]); all_goals (first | done | ((repeat' (with_reducible apply And.intro)) <;> first | exact Zmc hho | (intros; exact Zmc hho) | exact ez9 | skip)))
     refine Zaa ?_
     refine stp Lun ?_
     refine cd (fun c4 => ?_) (fun c4 => ?_) (hp := rfl) (hq := rfl)
     ·
      exfalso; simp at c4
     ·
      refine dw_skip ?_
      show DW _ _ _ _ _
      refine rgn Lun ?_
      show DW _ _ _ _ _
      refine rgn Lun ?_
      show ∃ _, _
      have hst : hAll z u.needs (k + 1) = (hAll z u.needs k && holdB z u.needs[k]!) := rfl
      have ff := And.intro hst ff
      exact rnd (k + 1, _) (h1 := ⟨iv, iv, iv, trivial⟩)
    ·
     have hk3 : k = u.needs.length := by omega
     subst hk3
     have hal := Zk3 z u.needs
     have ff := And.intro @hal (And.intro @q6 ff)
     refine Zja ?_
     show DW _ _ _ _ _
     refine Zaa ?_
     refine stp Lun ?_
     refine cd (fun c5 => ?_) (fun c5 => ?_) (hp := rfl) (hq := rfl)
     ·
      exfalso; simp at c5
     ·
      refine dw_skip ?_
      show DW _ _ _ _ _
      refine stp Lun ?_ (hok := by (try simp only [go_sem, ff]); all_goals (first | done | ((repeat' (with_reducible apply And.intro)) <;> first | exact Zqa q7 | (intros; exact Zqa q7) | exact ez9 | skip)))
      refine stp Lun ?_ (hok := by (try simp only [go_sem, ff]); all_goals (first | done | ((repeat' (with_reducible apply And.intro)) <;> first | exact (fun _ => Zwa hxf) | (intros; exact (fun _ => Zwa hxf)) | exact Zwa hxf | (intros; exact Zwa hxf) | exact ez9 | skip)))
      refine Zba ?_
      exact fin 0 (hr := by (try simp only [go_sem, ff]); all_goals (rfl))
end Go.Proofs.YtmkblfajmnhccaaGreatDoor
