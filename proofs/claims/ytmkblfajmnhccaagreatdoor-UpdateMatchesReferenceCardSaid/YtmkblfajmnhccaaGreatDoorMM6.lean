/-
  MANY TEXTS OF MINE IN ONE (a claim has a limit of files): UrW8, UrW9, UlW1, UlW2, UlW3, UlW4, UlW5. Conditions: none.
-/
import Derived.Test.YtmkblfajmnhccaaGreatDoorMM5
set_option linter.unusedVariables false
set_option linter.unusedSimpArgs false
set_option linter.unusedSectionVars false
namespace Go.Proofs.YtmkblfajmnhccaaGreatDoor
open Go.DL Go.Str Go.Rec Go.Cmp Go.Zon
set_option maxRecDepth 10000
theorem Zlt (l : List Sgd) (n : Str) : ∀ k, (Zyc l n k).length ≤ k
 | 0 => Nat.le_refl _
 | k + 1 => by
  have := Zlt l n k
  unfold Zyc
  split
  ·
   omega
  ·
   simp; omega
@[go_sem] theorem nameTo_0 {l : List Sgd} {n : Str} : Zyc l n 0 = [] := rfl
theorem bo41 : Zea Tryz.prog 41 = true := by kernel_rfl
theorem Zzs (z : Zon) (c : Chg) (hl : z.sets.length ≤ 1000000) (hd : ∀ s ∈ z.sets, s.set.data.length ≤ 1000000) (hc : c.set.data.length ≤ 1000000) : PureCt Tryz.prog 41 [.agg z.d, .agg c.d] (.agg (madeR z c).d) := by
 refine Zca Tryz.func41 rfl bo41 (by simp [go_sem, D.nr, nrs, nrr]) (by simp [Tryz.f41]) ?_
 unfold Tryz.f41
 simp only [Zfa]
 have ff := True.intro
 refine stp Lun ?_
 refine Zaa ?_
 refine stp Lun ?_
 refine cd (fun c1 => ?_) (fun c1 => ?_)
 ·
  refine stp Lun ?_
  refine Zaa ?_
  refine Zxv 9 1 24 52 (by simp only [go_sem, ff]; exact rfl) (by rfl) (by simp only [go_sem, ff]) ?_
  simp only [List.set_cons_succ, List.set_cons_zero]
  refine stp Lun ?_
  refine Zda ?_
  refine lp (α := (Nat) × (Nat) × Nat) [2, 3, 4, 5] (fun ⟨k, r, nx⟩ => (k ≤ z.sets.length) ∧ (r < nx) ∧ (9 < r) ∧ True) (fun ⟨k, r, nx⟩ => z.sets.length - k) (fun ⟨k, r, nx⟩ => [(6, .i k)]) (fun ⟨k, r, nx⟩ => [(0, ⟨24, [z.d]⟩), (1, ⟨47, [c.d]⟩), (2, ⟨24, [[.v (.string (bs [])), .list true []]]⟩), (9, ⟨24, [[.v (.string (bs z.apex)), .mrow r 0 (Zyc z.sets c.set.name (k)).length]]⟩), (r, ⟨52, (Zyc z.sets c.set.name (k)).map Sgd.d⟩)]) (fun ⟨k, r, nx⟩ => nx) (0, 11, _) (hA := ⟨iv, iv, iv, trivial⟩) (round := ?_)
  rintro ⟨k, r, nx⟩ ⟨hk, hr, hr9, -⟩
  show DW _ _ _ _ { n := _, t := tab _, h := _, nx := _, e := _ }
  simp only [List.cons_append, List.nil_append]
  have n0 : 0 < nx := by omega
  have hll := Zlt z.sets c.set.name k
  have z0_1 : (0 = 1) = False := eq_false (by omega)
  have y1_0 : (1 = 0) = False := eq_false (by omega)
  have z0_2 : (0 = 2) = False := eq_false (by omega)
  have y2_0 : (2 = 0) = False := eq_false (by omega)
  have z0_9 : (0 = 9) = False := eq_false (by omega)
  have y9_0 : (9 = 0) = False := eq_false (by omega)
  have z0_r : (0 = r) = False := eq_false (by omega)
  have yr_0 : (r = 0) = False := eq_false (by omega)
  have z1_2 : (1 = 2) = False := eq_false (by omega)
  have y2_1 : (2 = 1) = False := eq_false (by omega)
  have z1_9 : (1 = 9) = False := eq_false (by omega)
  have y9_1 : (9 = 1) = False := eq_false (by omega)
  have z1_r : (1 = r) = False := eq_false (by omega)
  have yr_1 : (r = 1) = False := eq_false (by omega)
  have z2_9 : (2 = 9) = False := eq_false (by omega)
  have y9_2 : (9 = 2) = False := eq_false (by omega)
  have z2_r : (2 = r) = False := eq_false (by omega)
  have yr_2 : (r = 2) = False := eq_false (by omega)
  have z9_r : (9 = r) = False := eq_false (by omega)
  have yr_9 : (r = 9) = False := eq_false (by omega)
  have ff := And.intro @hr (And.intro @n0 (And.intro @z0_1 (And.intro @y1_0 (And.intro @z0_2 (And.intro @y2_0 (And.intro @z0_9 (And.intro @y9_0 (And.intro @z0_r (And.intro @yr_0 (And.intro @z1_2 (And.intro @y2_1 (And.intro @z1_9 (And.intro @y9_1 (And.intro @z1_r (And.intro @yr_1 (And.intro @z2_9 (And.intro @y9_2 (And.intro @z2_r (And.intro @yr_2 (And.intro @z9_r (And.intro @yr_9 ff)))))))))))))))))))))
  refine Zaa ?_
  refine stp Lun ?_
  refine cd (fun c2 => ?_) (fun c2 => ?_) (hp := rfl) (hq := rfl)
  ·
   have hk2 : k < z.sets.length := by simpa using c2
   have ff := And.intro (Zla hk2) ff
   refine dw_skip ?_
   show DW _ _ _ _ _
   refine Zaa ?_
   refine Zda ?_
   refine stp Lun ?_
   refine cd (fun c3 => ?_) (fun c3 => ?_)
   ·
    refine rgn Lun ?_
    show DW _ _ _ _ _
    refine rgn Lun ?_
    show ∃ _, _
    have hst : Zyc z.sets c.set.name (k + 1) = (Zyc z.sets c.set.name (k)) ++ [z.sets[k]!] := if_neg c3
    have hsl : (Zyc z.sets c.set.name (k + 1)).length = (Zyc z.sets c.set.name (k)).length + 1 := by rw [hst, List.length_append]; rfl
    have hsd : (Zyc z.sets c.set.name (k + 1)).map Sgd.d = (Zyc z.sets c.set.name (k)).map Sgd.d ++ [z.sets[k]!.d] := by rw [hst, List.map_append]; rfl
    have ff := And.intro hsl (And.intro hsd ff)
    exact rnd (k + 1, (nx + 24), _) (h1 := ⟨iv, iv, iv, trivial⟩)
   ·
    refine dw_skip ?_
    show DW _ _ _ _ _
    refine rgn Lun ?_
    show ∃ _, _
    have hst : Zyc z.sets c.set.name (k + 1) = (Zyc z.sets c.set.name (k)) := if_pos c3
    have ff := And.intro hst ff
    exact rnd (k + 1, r, _) (h1 := ⟨iv, iv, iv, trivial⟩)
  ·
   have hk3 : k = z.sets.length := by have : ¬ k < z.sets.length := (by simpa using c2); omega
   refine Zja ?_
   show DW _ _ _ _ _
   refine Zde 9 1 r (rows := (Zyc z.sets c.set.name (k)).map Sgd.d) (off := 0) (len := (Zyc z.sets c.set.name (k)).length) (by simp only [go_sem, ff]; exact rfl) (by rfl) (by simp only [go_sem, ff]; exact rfl) (by omega) (by simp) Zrq ?_
   simp only [List.drop_zero, Zaj, List.set_cons_succ, List.set_cons_zero]
   refine stp Lun ?_
   refine Zba ?_
   exact fin 2 (hr := by (try simp only [go_sem, ff]); all_goals (rw [madeR, if_pos c1, hk3]))
 ·
  refine dw_skip ?_
  show DW _ _ _ _ _
  refine stp Lun ?_ (hok := by (try simp only [go_sem, ff]); all_goals (first | done | ((repeat' (with_reducible apply And.intro)) <;> first | exact Zcf z ⟨c.set.name, c.set.ty⟩ hl | (intros; exact Zcf z ⟨c.set.name, c.set.ty⟩ hl) | skip)))
  refine Zaa ?_
  refine stp Lun ?_
  refine cd (fun c4 => ?_) (fun c4 => ?_)
  ·
   refine stp Lun ?_
   refine Zaa ?_
   refine stp Lun ?_
   refine cd (fun c5 => ?_) (fun c5 => ?_)
   ·
    have ha0 : 0 ≤ (atF z.sets (⟨c.set.name, c.set.ty⟩ : Qst)) := by grind
    have hx := Za4 ha0
    have ff := And.intro (Zla hx) ff
    refine rgn Lun ?_ (hok := by (try simp only [go_sem, ff]); all_goals (first | done | ((repeat' (with_reducible apply And.intro)) <;> first | exact Zxn _ _ (hd _ (Zhd hx)) hc | (intros; exact Zxn _ _ (hd _ (Zhd hx)) hc) | omega | (intros; omega) | (intro h; cases h) | skip)))
    show DW _ _ _ _ _
    refine stp Lun ?_ (hok := by (try simp only [go_sem, ff]); all_goals (first | done | ((repeat' (with_reducible apply And.intro)) <;> first | exact Zxa z ⟨_, []⟩ hl | (intros; exact Zxa z ⟨_, []⟩ hl) | exact Zxa z ⟨{ c.set with data := mrgD z.sets[(atF z.sets (⟨c.set.name, c.set.ty⟩ : Qst)).toNat]!.set.data c.set.data }, []⟩ hl | (intros; exact Zxa z ⟨{ c.set with data := mrgD z.sets[(atF z.sets (⟨c.set.name, c.set.ty⟩ : Qst)).toNat]!.set.data c.set.data }, []⟩ hl) | exact Zxa z ⟨c.set, []⟩ hl | (intros; exact Zxa z ⟨c.set, []⟩ hl) | omega | (intros; omega) | (intro h; cases h) | skip)))
    refine Zba ?_
    exact fin 2 (hr := by (try simp only [go_sem, ff]); all_goals (rw [madeR, if_neg c1, if_pos c4]; first | (rw [if_pos (show 0 ≤ atF z.sets c.q ∧ _ from ⟨ha0, c5.1.2, c5.2⟩)]; rfl) | (rw [if_neg (show ¬ (0 ≤ atF z.sets c.q ∧ _) from fun h => by have h1 : 0 ≤ (atF z.sets (⟨c.set.name, c.set.ty⟩ : Qst)) := h.1; have h2 := h.2; grind)])))
   ·
    refine dw_skip ?_
    show DW _ _ _ _ _
    refine stp Lun ?_ (hok := by (try simp only [go_sem, ff]); all_goals (first | done | ((repeat' (with_reducible apply And.intro)) <;> first | exact Zxa z ⟨_, []⟩ hl | (intros; exact Zxa z ⟨_, []⟩ hl) | exact Zxa z ⟨{ c.set with data := mrgD z.sets[(atF z.sets (⟨c.set.name, c.set.ty⟩ : Qst)).toNat]!.set.data c.set.data }, []⟩ hl | (intros; exact Zxa z ⟨{ c.set with data := mrgD z.sets[(atF z.sets (⟨c.set.name, c.set.ty⟩ : Qst)).toNat]!.set.data c.set.data }, []⟩ hl) | exact Zxa z ⟨c.set, []⟩ hl | (intros; exact Zxa z ⟨c.set, []⟩ hl) | omega | (intros; omega) | (intro h; cases h) | skip)))
    refine Zba ?_
    exact fin 2 (hr := by (try simp only [go_sem, ff]); all_goals (rw [madeR, if_neg c1, if_pos c4]; first | (rw [if_pos (show 0 ≤ atF z.sets c.q ∧ _ from ⟨ha0, c5.1.2, c5.2⟩)]; rfl) | (rw [if_neg (show ¬ (0 ≤ atF z.sets c.q ∧ _) from fun h => by have h1 : 0 ≤ (atF z.sets (⟨c.set.name, c.set.ty⟩ : Qst)) := h.1; have h2 := h.2; grind)])))
  ·
   refine dw_skip ?_
   show DW _ _ _ _ _
   refine Zaa ?_
   refine stp Lun ?_
   refine cd (fun c6 => ?_) (fun c6 => ?_)
   ·
    refine stp Lun ?_
    refine Zba ?_
    exact fin 2 (hr := by (try simp only [go_sem, ff]); all_goals (rw [madeR, if_neg c1, if_neg c4, if_pos (show atF z.sets c.q < 0 from c6)]))
   ·
    have ha0 : 0 ≤ (atF z.sets (⟨c.set.name, c.set.ty⟩ : Qst)) := by omega
    have hx := Za4 ha0
    have ff := And.intro (Zla hx) ff
    refine dw_skip ?_
    show DW _ _ _ _ _
    refine Zaa ?_
    refine stp Lun ?_
    refine cd (fun c7 => ?_) (fun c7 => ?_)
    ·
     refine stp Lun ?_
     refine stp Lun ?_ (hok := by (try simp only [go_sem, ff]); all_goals (first | done | ((repeat' (with_reducible apply And.intro)) <;> first | exact Zat _ _ (hd _ (Zhd hx)) hc | (intros; exact Zat _ _ (hd _ (Zhd hx)) hc) | omega | (intros; omega) | (intro h; cases h) | skip)))
     refine stp Lun ?_
     refine cd (fun c8 => ?_) (fun c8 => ?_)
     ·
      refine stp Lun ?_ (hok := by (try simp only [go_sem, ff]); all_goals (first | done | ((repeat' (with_reducible apply And.intro)) <;> first | exact Zxa z ⟨{ z.sets[(atF z.sets (⟨c.set.name, c.set.ty⟩ : Qst)).toNat]!.set with data := leftD z.sets[(atF z.sets (⟨c.set.name, c.set.ty⟩ : Qst)).toNat]!.set.data c.set.data }, []⟩ hl | (intros; exact Zxa z ⟨{ z.sets[(atF z.sets (⟨c.set.name, c.set.ty⟩ : Qst)).toNat]!.set with data := leftD z.sets[(atF z.sets (⟨c.set.name, c.set.ty⟩ : Qst)).toNat]!.set.data c.set.data }, []⟩ hl) | omega | (intros; omega) | (intro h; cases h) | skip)))
      refine Zba ?_
      exact fin 2 (hr := by (try simp only [go_sem, ff]); all_goals (rw [madeR, if_neg c1, if_neg c4, if_neg (show ¬ atF z.sets c.q < 0 from c6), if_pos (show c.kind = 2 ∧ 0 < (leftD z.sets[(atF z.sets c.q).toNat]!.set.data c.set.data).length from ⟨c7, Int.natCast_pos.1 c8⟩)]; rfl))
     ·
      refine dw_skip ?_
      show DW _ _ _ _ _
      refine stp Lun ?_ (hok := by (try simp only [go_sem, ff]); all_goals (first | done | ((repeat' (with_reducible apply And.intro)) <;> first | exact Zzj z _ hl ha0 (by omega) | (intros; exact Zzj z _ hl ha0 (by omega)) | omega | (intros; omega) | (intro h; cases h) | skip)))
      refine Zba ?_
      exact fin 2 (hr := by (try simp only [go_sem, ff]); all_goals (rw [madeR, if_neg c1, if_neg c4, if_neg (show ¬ atF z.sets c.q < 0 from c6), if_neg (show ¬ (c.kind = 2 ∧ 0 < (leftD z.sets[(atF z.sets c.q).toNat]!.set.data c.set.data).length) from (by first | exact (fun h => c7 h.1) | exact (fun h => c8 (Int.natCast_pos.2 h.2))))]; rfl))
    ·
     refine dw_skip ?_
     show DW _ _ _ _ _
     refine stp Lun ?_ (hok := by (try simp only [go_sem, ff]); all_goals (first | done | ((repeat' (with_reducible apply And.intro)) <;> first | exact Zzj z _ hl ha0 (by omega) | (intros; exact Zzj z _ hl ha0 (by omega)) | omega | (intros; omega) | (intro h; cases h) | skip)))
     refine Zba ?_
     exact fin 2 (hr := by (try simp only [go_sem, ff]); all_goals (rw [madeR, if_neg c1, if_neg c4, if_neg (show ¬ atF z.sets c.q < 0 from c6), if_neg (show ¬ (c.kind = 2 ∧ 0 < (leftD z.sets[(atF z.sets c.q).toNat]!.set.data c.set.data).length) from (by first | exact (fun h => c7 h.1) | exact (fun h => c8 (Int.natCast_pos.2 h.2))))]; rfl))
set_option maxRecDepth 10000
def Zbs (z : Zon) (l : List Chg) : Nat → Bool
 | 0 => false
 | k + 1 => Zbs z l k || !inB l[k]!.set.name z.apex
@[go_sem] theorem cutN_0 {z : Zon} {l : List Chg} : Zbs z l 0 = false := rfl
theorem Zcz (z : Zon) (l : List Chg) : ∀ k, Zbs z l k = true ↔ ∃ i, i < k ∧ inB l[i]!.set.name z.apex = false
 | 0 => by simp [Zbs]
 | k + 1 => by
  unfold Zbs
  rw [Bool.or_eq_true, Zcz z l k]
  constructor
  ·
   rintro (⟨i, h1, h2⟩ | h)
   ·
    exact ⟨i, by omega, h2⟩
   ·
    exact ⟨k, by omega, by simpa using h⟩
  ·
   rintro ⟨i, h1, h2⟩
   by_cases e : i = k
   ·
    subst e; right; rw [h2]; rfl
   ·
    exact .inl ⟨i, by omega, h2⟩
theorem Zu3 (z : Zon) (l : List Chg) : Zbs z l l.length = Zic z l := by
 rw [Bool.eq_iff_iff, Zcz]
 unfold Zic
 rw [Bool.not_eq_true', Bool.eq_false_iff, Ne, Zoa]
 constructor
 ·
  rintro ⟨i, h1, h2⟩ h
  have : inB l[i]!.set.name z.apex = true := h i (Nat.zero_le _) h1
  rw [h2] at this
  cases this
 ·
  intro h
  apply Classical.byContradiction
  intro hn
  refine h fun i _ hi => ?_
  cases q : inB l[i]!.set.name z.apex with
  | true => rfl
  | false => exact absurd ⟨i, hi, q⟩ hn
theorem Zel {z : Zon} (h : refOk z = true) : z.sets.length ≤ 1000000 ∧ (∀ s ∈ z.sets, s.set.data.length ≤ 1000000) ∧ z.apex.length ≤ 1000 := by
 have h2 : zoneOk z = true := by rw [Zwa]; exact h
 have ho := Zwj h2
 refine ⟨by have := ho.len; omega, fun s hs => ?_, by have := Zta ho.apex; omega⟩
 have := (ho.ok s hs).len
 omega
theorem Zmt (z : Zon) (c : Chg) : (madeR z c).apex = z.apex := by
 unfold madeR
 split
 ·
  rfl
 ·
  split
  ·
   rfl
  ·
   split
   ·
    rfl
   ·
    split <;> rfl
theorem upd_1 {z : Zon} {u : Upd} (h : refOk z = false ∨ updOk u = false) : updR z u = (zon0, 1) := by
 unfold updR; rw [if_pos (by rw [Zwa]; exact h)]
theorem upd_2 {z : Zon} {u : Upd} (h1 : refOk z = true) (h2 : updOk u = true) (h : plainB z = false) : updR z u = (zon0, 12) := by
 unfold updR; rw [if_neg (by rw [Zwa, h1, h2]; simp), if_pos h]
theorem upd_3 {z : Zon} {u : Upd} (h1 : refOk z = true) (h2 : updOk u = true) (h3 : plainB z = true) (h : Zic z u.needs = true ∨ Zic z u.chgs = true) : updR z u = (zon0, 20) := by
 unfold updR; rw [if_neg (by rw [Zwa, h1, h2]; simp), if_neg (by rw [h3]; simp), if_pos h]
theorem upd_4 {z : Zon} {u : Upd} (h1 : refOk z = true) (h2 : updOk u = true) (h3 : plainB z = true) (h4 : ¬ (Zic z u.needs = true ∨ Zic z u.chgs = true)) (h : Zkf z u.needs = false) : updR z u = (zon0, 24) := by
 unfold updR; rw [if_neg (by rw [Zwa, h1, h2]; simp), if_neg (by rw [h3]; simp), if_neg h4, if_pos h]
theorem upd_5 {z : Zon} {u : Upd} (h1 : refOk z = true) (h2 : updOk u = true) (h3 : plainB z = true) (h4 : ¬ (Zic z u.needs = true ∨ Zic z u.chgs = true)) (h5 : Zkf z u.needs = true) (h : Zqn z u.chgs = none) : updR z u = (zon0, 6) := by
 unfold updR; rw [if_neg (by rw [Zwa, h1, h2]; simp), if_neg (by rw [h3]; simp), if_neg h4, if_neg (by rw [h5]; simp), h]
theorem upd_6 {z y : Zon} {u : Upd} (h1 : refOk z = true) (h2 : updOk u = true) (h3 : plainB z = true) (h4 : ¬ (Zic z u.needs = true ∨ Zic z u.chgs = true)) (h5 : Zkf z u.needs = true) (h : Zqn z u.chgs = some y) : updR z u = (Znf z y, 0) := by
 unfold updR; rw [if_neg (by rw [Zwa, h1, h2]; simp), if_neg (by rw [h3]; simp), if_neg h4, if_neg (by rw [h5]; simp), h]
theorem step_no9 {z y : Zon} {l : List Chg} {k : Nat} (hk : k < l.length) (h : Zu1 z l k = some y) (hb : (l[k]!.kind = 4 ∧ l[k]!.set.name = y.apex) ∨ refOk (madeR y l[k]!) = false) : Zqn z l = none := by
 refine Zof (k := k + 1) ?_ _ (by omega)
 rw [Zpc h]
 unfold Zxp
 rw [if_pos (by rw [Zwa]; exact hb)]
theorem Zpw {z y : Zon} {l : List Chg} {k : Nat} (h : Zu1 z l k = some y) (hb : ¬ ((l[k]!.kind = 4 ∧ l[k]!.set.name = y.apex) ∨ refOk (madeR y l[k]!) = false)) : Zu1 z l (k + 1) = some (madeR y l[k]!) := by
 rw [Zpc h]
 unfold Zxp
 rw [if_neg (by rw [Zwa]; exact hb)]
theorem Zh2 {u : Upd} {k : Nat} (h : (k < u.needs.length ∧ needOk u.needs[k]! = false) ∨ (k < u.chgs.length ∧ chgOk u.chgs[k]! = false)) : updOk u = false := by
 rw [Bool.eq_false_iff]
 intro hu
 simp only [updOk, Bool.and_eq_true, decide_eq_true_eq, Zoa] at hu
 rcases h with ⟨h1, h2⟩ | ⟨h1, h2⟩
 ·
  have : needOk u.needs[k]! = true := hu.1.2 k (Nat.zero_le _) h1
  rw [h2] at this; cases this
 ·
  have : chgOk u.chgs[k]! = true := hu.2 k (Nat.zero_le _) h1
  rw [h2] at this; cases this
theorem Zt6 {u : Upd} (h1 : u.needs.length ≤ 20) (h2 : u.chgs.length ≤ 20) (h3 : Zva u.needs.length (fun i => needOk u.needs[i]!) 0 = true) (h4 : Zva u.chgs.length (fun i => chgOk u.chgs[i]!) 0 = true) : updOk u = true := by
 simp only [updOk, Bool.and_eq_true, decide_eq_true_eq]
 exact ⟨⟨⟨h1, h2⟩, h3⟩, h4⟩
theorem Zqw {z : Zon} (h : refOk z = true) : 0 ≤ startN z ∧ (startN z).toNat < z.sets.length ∧ Zab z = z.sets[(startN z).toNat]! ∧ 0 < (Zab z).set.data.length ∧ -1 ≤ (Zab z).set.data[0]!.n ∧ (Zab z).set.data[0]!.n ≤ 1000000 := by
 have h2 : zoneOk z = true := by rw [Zwa]; exact h
 have h0 : 0 ≤ startN z := Zwl h
 obtain ⟨e, e1, e2, _, _⟩ := Zlh h2
 refine ⟨h0, Za4 h0, rfl, by rw [e]; simp, ?_, ?_⟩ <;> (rw [e]; simp; omega)
theorem Za3 {n : Chg} (h : needOk n = true) : n.set.name.length ≤ 1000 := by
 unfold needOk at h
 rw [Bool.and_eq_true] at h
 have := Zta h.1
 omega
theorem chg_nm9 {n : Chg} (h : chgOk n = true) : n.set.name.length ≤ 1000 := by
 have := Zta (Zmo h)
 omega
theorem bo14 : Zea Tryz.prog 14 = true := by kernel_rfl
theorem Zh0 (z : Zon) (u : Upd) (hu : ∀ c ∈ u.chgs, c.set.data.length ≤ 1000000) : PureCt Tryz.prog 14 [.agg z.d, .agg u.d] (.tuple [.agg (updR z u).1.d, .i (updR z u).2]) := by
 refine Zca Tryz.func14 rfl bo14 (by simp [go_sem, D.nr, nrs, nrr]) (by simp [Tryz.f14]) ?_
 unfold Tryz.f14
 simp only [Zfa]
 have ff := True.intro
 refine stp Lun ?_
 refine Zaa ?_
 refine stp Lun ?_ (hok := by (try simp only [go_sem, ff]); all_goals (first | done | ((repeat' (with_reducible apply And.intro)) <;> first | exact Zwe z | (intros; exact Zwe z) | exact ez9 | skip)))
 refine cd (fun c1 => ?_) (fun c1 => ?_)
 ·
  refine stp Lun ?_
  refine Zba ?_
  exact fin 3 (hr := by (try simp only [go_sem, ff]); all_goals (rw [upd_1 (by simp only [updOk]; grind)]; rfl))
 ·
  have hz : refOk z = true := by grind
  have hn20 : u.needs.length ≤ 20 := by grind
  have hc20 : u.chgs.length ≤ 20 := by grind
  obtain ⟨hl, hd, hax⟩ := Zel hz
  refine dw_skip ?_
  show DW _ _ _ _ _
  refine stp Lun ?_
  refine Zaa ?_
  refine stp Lun ?_
  refine Zda ?_
  refine lp (α := (Nat) × Nat) [2, 3, 4] (fun ⟨k, nx⟩ => (k ≤ u.needs.length) ∧ (Zva u.needs.length ((fun i => needOk u.needs[i]!)) 0 = Zva u.needs.length ((fun i => needOk u.needs[i]!)) k) ∧ (2 < nx) ∧ True) (fun ⟨k, nx⟩ => u.needs.length - k) (fun ⟨k, nx⟩ => [(6, .b (Zbs z u.needs k)), (7, .i k)]) (fun ⟨k, nx⟩ => [(0, ⟨24, [z.d]⟩), (1, ⟨28, [u.d]⟩), (2, ⟨24, [[.v (.string (bs [])), .list true []]]⟩)]) (fun ⟨k, nx⟩ => nx) (0, _) (hA := ⟨iv, rfl, iv, trivial⟩) (round := ?_)
  rintro ⟨k, nx⟩ ⟨hk, hv1, hx, -⟩
  show DW _ _ _ _ { n := _, t := tab _, h := _, nx := _, e := _ }
  simp only [List.cons_append, List.nil_append]
  have ff := And.intro @hx ff
  refine Zaa ?_
  refine stp Lun ?_
  refine cd (fun c2 => ?_) (fun c2 => ?_) (hp := rfl)
  ·
   have hk2 : k < u.needs.length := by simpa using c2
   have ff := And.intro (Zwd hk2) ff
   refine dw_skip ?_
   show DW _ _ _ _ _
   refine Zaa ?_
   refine Zda ?_
   refine Zaa ?_
   refine stp Lun ?_ (hok := by (try simp only [go_sem, ff]); all_goals (first | done | ((repeat' (with_reducible apply And.intro)) <;> first | exact Zmh u.needs[k]! | (intros; exact Zmh u.needs[k]!) | exact ez9 | skip)))
   refine cd (fun c3 => ?_) (fun c3 => ?_)
   ·
    refine stp Lun ?_
    refine Zba ?_
    exact fin 3 (hr := by (try simp only [go_sem, ff]); all_goals (rw [upd_1 (.inr (Zh2 (.inl ⟨hk2, c3⟩)))]; rfl))
   ·
    have hno := Za3 c3
    refine dw_skip ?_
    show DW _ _ _ _ _
    rcases hm : Zbs z u.needs k with _ | _
    ·
     have ff := And.intro @hm ff
     refine rgn Lun ?_ (hok := by (try simp only [go_sem, ff]); all_goals (first | done | ((repeat' (with_reducible apply And.intro)) <;> first | exact Zib _ _ hno hax | (intros; exact Zib _ _ hno hax) | exact ez9 | skip)))
     show DW _ _ _ _ _
     refine rgn Lun ?_
     show ∃ _, _
     have h8 : ((fun i => needOk u.needs[i]!)) k = true := by simpa using c3
     have hst : Zbs z u.needs (k + 1) = (Zbs z u.needs k || !inB u.needs[k]!.set.name z.apex) := rfl
     have ff := And.intro hst ff
     exact rnd (k + 1, _) (h1 := ⟨iv, (by first | (rw [hv1, Zga hk2 h8]) | (dsimp only; rw [hv1, Zga hk2 h8])), iv, trivial⟩)
    ·
     have ff := And.intro @hm ff
     refine rgn Lun ?_ (hok := by (try simp only [go_sem, ff]); all_goals (first | done | ((repeat' (with_reducible apply And.intro)) <;> first | exact Zib _ _ hno hax | (intros; exact Zib _ _ hno hax) | exact ez9 | skip)))
     show DW _ _ _ _ _
     refine rgn Lun ?_
     show ∃ _, _
     have h8 : ((fun i => needOk u.needs[i]!)) k = true := by simpa using c3
     have hst : Zbs z u.needs (k + 1) = (Zbs z u.needs k || !inB u.needs[k]!.set.name z.apex) := rfl
     have ff := And.intro hst ff
     exact rnd (k + 1, _) (h1 := ⟨iv, (by first | (rw [hv1, Zga hk2 h8]) | (dsimp only; rw [hv1, Zga hk2 h8])), iv, trivial⟩)
  ·
   have hk3 : k = u.needs.length := by omega
   subst hk3
   have hall1 : Zva u.needs.length (fun i => needOk u.needs[i]!) 0 = true := by rw [hv1, Zra (by omega)]
   have ff := And.intro (Zu3 z u.needs) ff
   refine Zja ?_
   show DW _ _ _ _ _
   refine Zaa ?_
   refine stp Lun ?_
   refine Zda ?_
   refine lp (α := (Nat) × Nat) [2, 3, 4] (fun ⟨k, nx⟩ => (k ≤ u.chgs.length) ∧ (Zva u.chgs.length ((fun i => chgOk u.chgs[i]!)) 0 = Zva u.chgs.length ((fun i => chgOk u.chgs[i]!)) k) ∧ (2 < nx) ∧ True) (fun ⟨k, nx⟩ => u.chgs.length - k) (fun ⟨k, nx⟩ => [(6, .b (Zic z u.needs || Zbs z u.chgs k)), (8, .i k)]) (fun ⟨k, nx⟩ => [(0, ⟨24, [z.d]⟩), (1, ⟨28, [u.d]⟩), (2, ⟨24, [[.v (.string (bs [])), .list true []]]⟩)]) (fun ⟨k, nx⟩ => nx) (0, _) (hA := ⟨iv, rfl, iv, trivial⟩) (round := ?_)
   rintro ⟨k, nx⟩ ⟨hk, hv2, hx, -⟩
   show DW _ _ _ _ { n := _, t := tab _, h := _, nx := _, e := _ }
   simp only [List.cons_append, List.nil_append]
   have ff := And.intro @hx ff
   refine Zaa ?_
   refine stp Lun ?_
   refine cd (fun c4 => ?_) (fun c4 => ?_) (hp := rfl)
   ·
    have hk2 : k < u.chgs.length := by simpa using c4
    have ff := And.intro (Zwd hk2) ff
    refine dw_skip ?_
    show DW _ _ _ _ _
    refine Zaa ?_
    refine Zda ?_
    refine Zaa ?_
    refine stp Lun ?_ (hok := by (try simp only [go_sem, ff]); all_goals (first | done | ((repeat' (with_reducible apply And.intro)) <;> first | exact Zkx u.chgs[k]! | (intros; exact Zkx u.chgs[k]!) | exact ez9 | skip)))
    refine cd (fun c5 => ?_) (fun c5 => ?_)
    ·
     refine stp Lun ?_
     refine Zba ?_
     exact fin 3 (hr := by (try simp only [go_sem, ff]); all_goals (rw [upd_1 (.inr (Zh2 (.inr ⟨hk2, c5⟩)))]; rfl))
    ·
     have hno := chg_nm9 c5
     refine dw_skip ?_
     show DW _ _ _ _ _
     rcases hm : Zic z u.needs with _ | _ <;> rcases hm2 : Zbs z u.chgs k with _ | _
     ·
      have ff := And.intro @hm (And.intro @hm2 ff)
      refine rgn Lun ?_ (hok := by (try simp only [go_sem, ff]); all_goals (first | done | ((repeat' (with_reducible apply And.intro)) <;> first | exact Zib _ _ hno hax | (intros; exact Zib _ _ hno hax) | exact ez9 | skip)))
      show DW _ _ _ _ _
      refine rgn Lun ?_
      show ∃ _, _
      have h8 : ((fun i => chgOk u.chgs[i]!)) k = true := by simpa using c5
      have hst : Zbs z u.chgs (k + 1) = (Zbs z u.chgs k || !inB u.chgs[k]!.set.name z.apex) := rfl
      have ff := And.intro hst ff
      exact rnd (k + 1, _) (h1 := ⟨iv, (by first | (rw [hv2, Zga hk2 h8]) | (dsimp only; rw [hv2, Zga hk2 h8])), iv, trivial⟩)
     ·
      have ff := And.intro @hm (And.intro @hm2 ff)
      refine rgn Lun ?_ (hok := by (try simp only [go_sem, ff]); all_goals (first | done | ((repeat' (with_reducible apply And.intro)) <;> first | exact Zib _ _ hno hax | (intros; exact Zib _ _ hno hax) | exact ez9 | skip)))
      show DW _ _ _ _ _
      refine rgn Lun ?_
      show ∃ _, _
      have h8 : ((fun i => chgOk u.chgs[i]!)) k = true := by simpa using c5
      have hst : Zbs z u.chgs (k + 1) = (Zbs z u.chgs k || !inB u.chgs[k]!.set.name z.apex) := rfl
      have ff := And.intro hst ff
      exact rnd (k + 1, _) (h1 := ⟨iv, (by first | (rw [hv2, Zga hk2 h8]) | (dsimp only; rw [hv2, Zga hk2 h8])), iv, trivial⟩)
     ·
      have ff := And.intro @hm (And.intro @hm2 ff)
      refine rgn Lun ?_ (hok := by (try simp only [go_sem, ff]); all_goals (first | done | ((repeat' (with_reducible apply And.intro)) <;> first | exact Zib _ _ hno hax | (intros; exact Zib _ _ hno hax) | exact ez9 | skip)))
      show DW _ _ _ _ _
      refine rgn Lun ?_
      show ∃ _, _
      have h8 : ((fun i => chgOk u.chgs[i]!)) k = true := by simpa using c5
      have hst : Zbs z u.chgs (k + 1) = (Zbs z u.chgs k || !inB u.chgs[k]!.set.name z.apex) := rfl
      have ff := And.intro hst ff
      exact rnd (k + 1, _) (h1 := ⟨iv, (by first | (rw [hv2, Zga hk2 h8]) | (dsimp only; rw [hv2, Zga hk2 h8])), iv, trivial⟩)
     ·
      have ff := And.intro @hm (And.intro @hm2 ff)
      refine rgn Lun ?_ (hok := by (try simp only [go_sem, ff]); all_goals (first | done | ((repeat' (with_reducible apply And.intro)) <;> first | exact Zib _ _ hno hax | (intros; exact Zib _ _ hno hax) | exact ez9 | skip)))
      show DW _ _ _ _ _
      refine rgn Lun ?_
      show ∃ _, _
      have h8 : ((fun i => chgOk u.chgs[i]!)) k = true := by simpa using c5
      have hst : Zbs z u.chgs (k + 1) = (Zbs z u.chgs k || !inB u.chgs[k]!.set.name z.apex) := rfl
      have ff := And.intro hst ff
      exact rnd (k + 1, _) (h1 := ⟨iv, (by first | (rw [hv2, Zga hk2 h8]) | (dsimp only; rw [hv2, Zga hk2 h8])), iv, trivial⟩)
   ·
    have hk3 : k = u.chgs.length := by omega
    subst hk3
    have hall2 : Zva u.chgs.length (fun i => chgOk u.chgs[i]!) 0 = true := by rw [hv2, Zra (by omega)]
    have hu2 := Zt6 hn20 hc20 hall1 hall2
    have ff := And.intro (Zu3 z u.chgs) ff
    refine Zja ?_
    show DW _ _ _ _ _
    refine Zaa ?_
    refine stp Lun ?_ (hok := by (try simp only [go_sem, ff]); all_goals (first | done | ((repeat' (with_reducible apply And.intro)) <;> first | exact Zbq z hl | (intros; exact Zbq z hl) | exact ez9 | skip)))
    refine cd (fun c6 => ?_) (fun c6 => ?_)
    ·
     refine stp Lun ?_
     refine Zba ?_
     exact fin 3 (hr := by (try simp only [go_sem, ff]); all_goals (rw [upd_2 hz hu2 c6]; rfl))
    ·
     have hpl : plainB z = true := by grind
     refine dw_skip ?_
     show DW _ _ _ _ _
     refine Zaa ?_
     refine stp Lun ?_
     refine cd (fun c7 => ?_) (fun c7 => ?_)
     ·
      refine stp Lun ?_
      refine Zba ?_
      exact fin 3 (hr := by (try simp only [go_sem, ff]); all_goals (rw [upd_3 hz hu2 hpl (by grind)]; rfl))
     ·
      have hcut : ¬ (Zic z u.needs = true ∨ Zic z u.chgs = true) := by grind
      refine dw_skip ?_
      show DW _ _ _ _ _
      refine Zaa ?_
      refine stp Lun ?_
      refine Zda ?_
      refine lp (α := (Nat) × Nat) [2, 3, 4] (fun ⟨k, nx⟩ => (k ≤ u.needs.length) ∧ (Zva u.needs.length ((fun i => holdB z u.needs[i]!)) 0 = Zva u.needs.length ((fun i => holdB z u.needs[i]!)) k) ∧ (2 < nx) ∧ True) (fun ⟨k, nx⟩ => u.needs.length - k) (fun ⟨k, nx⟩ => [(9, .i k)]) (fun ⟨k, nx⟩ => [(0, ⟨24, [z.d]⟩), (1, ⟨28, [u.d]⟩), (2, ⟨24, [[.v (.string (bs [])), .list true []]]⟩)]) (fun ⟨k, nx⟩ => nx) (0, _) (hA := ⟨iv, rfl, iv, trivial⟩) (round := ?_)
      rintro ⟨k, nx⟩ ⟨hk, hv3, hx, -⟩
      show DW _ _ _ _ { n := _, t := tab _, h := _, nx := _, e := _ }
      simp only [List.cons_append, List.nil_append]
      have ff := And.intro @hx ff
      refine Zaa ?_
      refine stp Lun ?_
      refine cd (fun c8 => ?_) (fun c8 => ?_) (hp := rfl)
      ·
       have hk2 : k < u.needs.length := by simpa using c8
       have ff := And.intro (Zwd hk2) ff
       refine dw_skip ?_
       show DW _ _ _ _ _
       refine Zaa ?_
       refine Zda ?_
       refine stp Lun ?_ (hok := by (try simp only [go_sem, ff]); all_goals (first | done | ((repeat' (with_reducible apply And.intro)) <;> first | exact Zgi z u.needs[k]! hl hd | (intros; exact Zgi z u.needs[k]! hl hd) | exact ez9 | skip)))
       refine cd (fun c9 => ?_) (fun c9 => ?_)
       ·
        refine stp Lun ?_
        refine Zba ?_
        exact fin 3 (hr := by (try simp only [go_sem, ff]); all_goals (rw [upd_4 hz hu2 hpl hcut (by unfold Zkf; rw [hv3]; exact Zpa (p := (fun i => holdB z u.needs[i]!)) hk2 c9)]; rfl))
       ·
        refine dw_skip ?_
        show DW _ _ _ _ _
        refine rgn Lun ?_
        show ∃ _, _
        have h8 : ((fun i => holdB z u.needs[i]!)) k = true := by simpa using c9
        exact rnd (k + 1, _) (h1 := ⟨iv, (by first | (rw [hv3, Zga hk2 h8]) | (dsimp only; rw [hv3, Zga hk2 h8])), iv, trivial⟩)
      ·
       have hk3 : k = u.needs.length := by omega
       subst hk3
       have hall3 : Zkf z u.needs = true := by unfold Zkf; rw [hv3, Zra (by omega)]
       refine Zja ?_
       show DW _ _ _ _ _
       refine stp Lun ?_
       refine Zaa ?_
       refine stp Lun ?_
       refine Zda ?_
       refine lp (α := (Nat) × (Zon) × (Nat) × Nat) [2, 3, 4] (fun ⟨k, y, r, nx⟩ => (k ≤ u.chgs.length) ∧ (r < nx) ∧ (2 < r) ∧ (Zu1 z u.chgs k = some y) ∧ (refOk y = true) ∧ (y.apex = z.apex) ∧ True) (fun ⟨k, y, r, nx⟩ => u.chgs.length - k) (fun ⟨k, y, r, nx⟩ => [(10, .mptr r 0 0), (11, .i k)]) (fun ⟨k, y, r, nx⟩ => [(0, ⟨24, [z.d]⟩), (1, ⟨28, [u.d]⟩), (2, ⟨24, [[.v (.string (bs [])), .list true []]]⟩), (r, ⟨24, [y.d]⟩)]) (fun ⟨k, y, r, nx⟩ => nx) (0, z, (nx + 6), _) (hA := ⟨iv, iv, iv, rfl, (by first | (exact hz) | (dsimp only; exact hz)), rfl, trivial⟩) (round := ?_)
       rintro ⟨k, y, r, nx⟩ ⟨hk, hr, hr2, hs, hy, ha, -⟩
       show DW _ _ _ _ { n := _, t := tab _, h := _, nx := _, e := _ }
       simp only [List.cons_append, List.nil_append]
       have n0 : 2 < nx := by omega
       have z0_1 : (0 = 1) = False := eq_false (by omega)
       have y1_0 : (1 = 0) = False := eq_false (by omega)
       have z0_2 : (0 = 2) = False := eq_false (by omega)
       have y2_0 : (2 = 0) = False := eq_false (by omega)
       have z0_r : (0 = r) = False := eq_false (by omega)
       have yr_0 : (r = 0) = False := eq_false (by omega)
       have z1_2 : (1 = 2) = False := eq_false (by omega)
       have y2_1 : (2 = 1) = False := eq_false (by omega)
       have z1_r : (1 = r) = False := eq_false (by omega)
       have yr_1 : (r = 1) = False := eq_false (by omega)
       have z2_r : (2 = r) = False := eq_false (by omega)
       have yr_2 : (r = 2) = False := eq_false (by omega)
       have ff := And.intro @hr (And.intro @n0 (And.intro @z0_1 (And.intro @y1_0 (And.intro @z0_2 (And.intro @y2_0 (And.intro @z0_r (And.intro @yr_0 (And.intro @z1_2 (And.intro @y2_1 (And.intro @z1_r (And.intro @yr_1 (And.intro @z2_r (And.intro @yr_2 ff)))))))))))))
       refine Zaa ?_
       refine stp Lun ?_
       refine cd (fun c10 => ?_) (fun c10 => ?_) (hp := rfl)
       ·
        have hk2 : k < u.chgs.length := by simpa using c10
        obtain ⟨yl, yd, yax⟩ := Zel hy
        have ff := And.intro (Zwd hk2) ff
        refine dw_skip ?_
        show DW _ _ _ _ _
        refine Zaa ?_
        refine Zda ?_
        refine stp Lun ?_
        refine stp Lun ?_ (hok := by (try simp only [go_sem, ff]); all_goals (first | done | ((repeat' (with_reducible apply And.intro)) <;> first | exact Zzs y u.chgs[k]! yl yd (hu _ (mem_ix.2 ⟨k, hk2, rfl⟩)) | (intros; exact Zzs y u.chgs[k]! yl yd (hu _ (mem_ix.2 ⟨k, hk2, rfl⟩))) | exact ez9 | skip)))
        refine stp Lun ?_ (hok := by (try simp only [go_sem, ff]); all_goals (first | done | ((repeat' (with_reducible apply And.intro)) <;> first | exact Zwe (madeR y u.chgs[k]!) | (intros; exact Zwe (madeR y u.chgs[k]!)) | exact ez9 | skip)))
        refine cd (fun c11 => ?_) (fun c11 => ?_)
        ·
         have hb : (u.chgs[k]!.kind = 4 ∧ u.chgs[k]!.set.name = y.apex) ∨ refOk (madeR y u.chgs[k]!) = false := by rw [ha]; grind
         refine stp Lun ?_
         refine Zba ?_
         exact fin 3 (hr := by (try simp only [go_sem, ff]); all_goals (rw [upd_5 hz hu2 hpl hcut hall3 (step_no9 hk2 hs hb)]; rfl))
        ·
         have hb : ¬ ((u.chgs[k]!.kind = 4 ∧ u.chgs[k]!.set.name = y.apex) ∨ refOk (madeR y u.chgs[k]!) = false) := by rw [ha]; grind
         have hyn : refOk (madeR y u.chgs[k]!) = true := by grind
         refine dw_skip ?_
         show DW _ _ _ _ _
         refine rgn Lun ?_
         show ∃ _, _
         exact rnd (k + 1, madeR y u.chgs[k]!, r, _) (h1 := ⟨iv, iv, iv, (by first | (exact Zpw hs hb) | (dsimp only; exact Zpw hs hb)), (by first | (exact hyn) | (dsimp only; exact hyn)), (by first | (rw [Zmt]; exact ha) | (dsimp only; rw [Zmt]; exact ha)), trivial⟩)
       ·
        have hk3 : k = u.chgs.length := by omega
        subst hk3
        have hfin := upd_6 hz hu2 hpl hcut hall3 hs
        obtain ⟨yl, yd, yax⟩ := Zel hy
        obtain ⟨y0, y1, y2, y3, y4, y5⟩ := Zqw hy
        obtain ⟨z0, z1, z2, z3, z4, z5⟩ := Zqw hz
        rw [y2] at y3 y4 y5
        have yf := Zy7 hy
        have ff := And.intro (Zla y1) (And.intro (Zla z1) ff)
        refine Zja ?_
        show DW _ _ _ _ _
        refine Zaa ?_
        rcases hm : sameZ y z with _ | _
        ·
         have ff := And.intro @hm ff
         refine stp Lun ?_ (hok := by (try simp only [go_sem, ff]); all_goals (first | done | ((repeat' (with_reducible apply And.intro)) <;> first | exact (by have h9 := Zfj y z yf; rw [hm] at h9; exact h9) | (intros; exact (by have h9 := Zfj y z yf; rw [hm] at h9; exact h9)) | exact Zpb y yl | (intros; exact Zpb y yl) | exact Zpb z hl | (intros; exact Zpb z hl) | exact Zzf _ _ (yf.2 _ y1) | (intros; exact Zzf _ _ (yf.2 _ y1)) | exact ez9 | skip)))
         refine cd (fun c12 => ?_) (fun c12 => ?_)
         ·
          have ff := And.intro (Zua y3) ff
          refine stp LunF ?_ (hok := by (try simp only [go_sem, ff]); all_goals (first | done | ((repeat' (with_reducible apply And.intro)) <;> first | exact Zpb y yl | (intros; exact Zpb y yl) | exact ez9 | skip)))
          refine stp Lun ?_ (hok := by (try simp only [go_sem, ff]); all_goals (first | done | ((repeat' (with_reducible apply And.intro)) <;> first | exact Zck _ y4 y5 | (intros; exact Zck _ y4 y5) | exact ez9 | skip)))
          refine rgn Lun ?_ (hok := by (try simp only [go_sem, ff]); all_goals (first | done | ((repeat' (with_reducible apply And.intro)) <;> first | exact Zxa y ⟨{ y.sets[(startN y).toNat]!.set with data := [⟨[], nextN y.sets[(startN y).toNat]!.set.data[0]!.n, y.sets[(startN y).toNat]!.set.data[0]!.m⟩] }, []⟩ yl | (intros; exact Zxa y ⟨{ y.sets[(startN y).toNat]!.set with data := [⟨[], nextN y.sets[(startN y).toNat]!.set.data[0]!.n, y.sets[(startN y).toNat]!.set.data[0]!.m⟩] }, []⟩ yl) | exact ez9 | skip)))
          show DW _ _ _ _ _
          refine stp Lun ?_
          refine Zba ?_
          exact fin 3 (hr := by (try simp only [go_sem, ff]); all_goals (rw [hfin]; unfold Znf; first | (rw [if_neg (fun h9 => by rw [y2, z2] at h9; grind)]; first | done | rfl) | (rw [if_pos (by rw [y2, z2]; grind)]; first | done | rfl)))
         ·
          refine dw_skip ?_
          show DW _ _ _ _ _
          refine stp Lun ?_
          refine Zba ?_
          exact fin 3 (hr := by (try simp only [go_sem, ff]); all_goals (rw [hfin]; unfold Znf; first | (rw [if_neg (fun h9 => by rw [y2, z2] at h9; grind)]; first | done | rfl) | (rw [if_pos (by rw [y2, z2]; grind)]; first | done | rfl)))
        ·
         have ff := And.intro @hm ff
         refine stp Lun ?_ (hok := by (try simp only [go_sem, ff]); all_goals (first | done | ((repeat' (with_reducible apply And.intro)) <;> first | exact (by have h9 := Zfj y z yf; rw [hm] at h9; exact h9) | (intros; exact (by have h9 := Zfj y z yf; rw [hm] at h9; exact h9)) | exact Zpb y yl | (intros; exact Zpb y yl) | exact Zpb z hl | (intros; exact Zpb z hl) | exact Zzf _ _ (yf.2 _ y1) | (intros; exact Zzf _ _ (yf.2 _ y1)) | exact ez9 | skip)))
         refine cd (fun c12 => ?_) (fun c12 => ?_)
         ·
          have ff := And.intro (Zua y3) ff
          refine stp LunF ?_ (hok := by (try simp only [go_sem, ff]); all_goals (first | done | ((repeat' (with_reducible apply And.intro)) <;> first | exact Zpb y yl | (intros; exact Zpb y yl) | exact ez9 | skip)))
          refine stp Lun ?_ (hok := by (try simp only [go_sem, ff]); all_goals (first | done | ((repeat' (with_reducible apply And.intro)) <;> first | exact Zck _ y4 y5 | (intros; exact Zck _ y4 y5) | exact ez9 | skip)))
          refine rgn Lun ?_ (hok := by (try simp only [go_sem, ff]); all_goals (first | done | ((repeat' (with_reducible apply And.intro)) <;> first | exact Zxa y ⟨{ y.sets[(startN y).toNat]!.set with data := [⟨[], nextN y.sets[(startN y).toNat]!.set.data[0]!.n, y.sets[(startN y).toNat]!.set.data[0]!.m⟩] }, []⟩ yl | (intros; exact Zxa y ⟨{ y.sets[(startN y).toNat]!.set with data := [⟨[], nextN y.sets[(startN y).toNat]!.set.data[0]!.n, y.sets[(startN y).toNat]!.set.data[0]!.m⟩] }, []⟩ yl) | exact ez9 | skip)))
          show DW _ _ _ _ _
          refine stp Lun ?_
          refine Zba ?_
          exact fin 3 (hr := by (try simp only [go_sem, ff]); all_goals (rw [hfin]; unfold Znf; first | (rw [if_neg (fun h9 => by rw [y2, z2] at h9; grind)]; first | done | rfl) | (rw [if_pos (by rw [y2, z2]; grind)]; first | done | rfl)))
         ·
          refine dw_skip ?_
          show DW _ _ _ _ _
          refine stp Lun ?_
          refine Zba ?_
          exact fin 3 (hr := by (try simp only [go_sem, ff]); all_goals (rw [hfin]; unfold Znf; first | (rw [if_neg (fun h9 => by rw [y2, z2] at h9; grind)]; first | done | rfl) | (rw [if_pos (by rw [y2, z2]; grind)]; first | done | rfl)))
set_option maxRecDepth 10000
def wrD (n : Int) : List D := [.v (.string (bs [])), .i n, .i 0]
theorem Zg7 {w : List Int} {k : Nat} (h : k < w.length) : (w.take (k + 1)).map wrD = (w.take k).map wrD ++ [[.v (.string (bs [])), .i w[k]!, .i 0]] := by
 rw [Zvc! h, List.map_append]; rfl
theorem Zwp {w : List Int} {k : Nat} (h : k ≤ w.length) : ((w.take k).map wrD).length = k := by simp; omega
@[go_sem] theorem nrr_wr {w : List Int} : nrr (w.map wrD) = true := by
 induction w with
 | nil => rfl
 | cons x l ih => simp only [List.map_cons, nrr, ih]; rfl
@[go_sem] theorem wkr_wr {w : List Int} : wkr (w.map wrD) = w.map wrD := by
 induction w with
 | nil => rfl
 | cons x l ih => simp only [List.map_cons, wkr, ih]; rfl
theorem wr_ad {w : List Int} : (w.map adD).map Dat.d = w.map wrD := by rw [List.map_map]; rfl
theorem bo31 : Zea Tryz.prog 31 = true := by kernel_rfl
theorem Zdc (n : Str) (k : Int) (t : Str) (a : Int) (m : Int) : PureCt Tryz.prog 31 [.v (.string (bs n)), .i k, .v (.string (bs t)), .i a, .i m] (.agg (RSet.d (setU n k t a m))) := by
 refine Zca Tryz.func31 rfl bo31 (by simp [go_sem, D.nr, nrs, nrr]) (by simp [Tryz.f31]) ?_
 unfold Tryz.f31
 simp only [Zfa]
 have ff := True.intro
 refine stp Lun ?_
 refine stp Lun ?_
 refine Zba ?_
 exact fin 2 (hr := by (try simp only [go_sem, ff]); all_goals (rfl))
theorem bo30 : Zea Tryz.prog 30 = true := by kernel_rfl
theorem Zf3 (s : Int) (w : List Int) (hw : w.length ≤ 1000) : PureCt Tryz.prog 30 [.i s, .list false (w.map wnD)] (.agg (exZ s w).d) := by
 refine Zca Tryz.func30 rfl bo30 (by simp [go_sem, D.nr, nrs, nrr]) (by simp [Tryz.f30]) ?_
 unfold Tryz.f30
 simp only [Zfa]
 have ff := True.intro
 refine stp Lun ?_
 refine stp Lun ?_
 refine Zaa ?_
 refine Zxv 2 3 31 63 (by simp only [go_sem, ff]; exact rfl) (by rfl) (by simp only [go_sem, ff]) ?_
 simp only [List.set_cons_succ, List.set_cons_zero]
 refine stp Lun ?_
 refine Zda ?_
 refine lp (α := (Nat) × (Nat) × Nat) [0, 4, 5, 9, 10] (fun ⟨k, r, nx⟩ => (k ≤ w.length) ∧ (r < nx) ∧ (2 < r) ∧ True) (fun ⟨k, r, nx⟩ => w.length - k) (fun ⟨k, r, nx⟩ => [(11, .i k)]) (fun ⟨k, r, nx⟩ => [(0, ⟨24, [[.v (.string (bs [])), .list true []]]⟩), (2, ⟨31, [[.v (.string (bs [119, 46, 120])), .i 1, .i 60, .mrow r 0 k]]⟩), (r, ⟨63, ((w.take (k)).map wrD)⟩)]) (fun ⟨k, r, nx⟩ => nx) (0, 4, _) (hA := ⟨iv, iv, iv, trivial⟩) (round := ?_)
 rintro ⟨k, r, nx⟩ ⟨hk, hr, hr2, -⟩
 show DW _ _ _ _ { n := _, t := tab _, h := _, nx := _, e := _ }
 simp only [List.cons_append, List.nil_append]
 have n0 : 2 < nx := by omega
 have hll := Zwp hk
 have z0_2 : (0 = 2) = False := eq_false (by omega)
 have y2_0 : (2 = 0) = False := eq_false (by omega)
 have z0_r : (0 = r) = False := eq_false (by omega)
 have yr_0 : (r = 0) = False := eq_false (by omega)
 have z2_r : (2 = r) = False := eq_false (by omega)
 have yr_2 : (r = 2) = False := eq_false (by omega)
 have ff := And.intro @hr (And.intro @n0 (And.intro @hll (And.intro @z0_2 (And.intro @y2_0 (And.intro @z0_r (And.intro @yr_0 (And.intro @z2_r (And.intro @yr_2 ff))))))))
 refine stp Lun ?_
 refine Zaa ?_
 refine cd (fun c1 => ?_) (fun c1 => ?_) (hp := rfl) (hq := rfl)
 ·
  have hk2 : k < w.length := by simpa using c1
  have ff := And.intro (Zty hk2) ff
  refine dw_skip ?_
  show DW _ _ _ _ _
  refine Zaa ?_
  refine Zda ?_
  refine stp Lun ?_
  refine rgn Lun ?_
  show DW _ _ _ _ _
  refine rgn Lun ?_
  show ∃ _, _
  have hst := Zg7 hk2
  have ff := And.intro hst ff
  exact rnd (k + 1, (nx + 9), _) (h1 := ⟨iv, iv, iv, trivial⟩)
 ·
  have hk3 : k = w.length := by have : ¬ k < w.length := (by simpa using c1); omega
  subst hk3
  refine Zja ?_
  show DW _ _ _ _ _
  refine Zde 2 3 r (rows := ((w.take (w.length)).map wrD)) (off := 0) (len := w.length) (by simp only [go_sem, ff]; exact rfl) (by rfl) (by simp only [go_sem, ff]; exact rfl) (by omega) (by simp only [go_sem, ff]; omega) (by rw [List.take_length]; exact nrr_wr) ?_
  simp only [List.drop_zero, List.set_cons_succ, List.set_cons_zero]
  refine stp Lun ?_ (hok := by (try simp only [go_sem, ff]); all_goals (first | done | ((repeat' (with_reducible apply And.intro)) <;> first | exact Zdc [120] 2 [97, 46, 110, 115] 0 0 | (intros; exact Zdc [120] 2 [97, 46, 110, 115] 0 0) | exact Zdc [120] 4 [] s 60 | (intros; exact Zdc [120] 4 [] s 60) | skip)))
  refine Zba ?_
  exact fin 5 (hr := by (try simp only [go_sem, ff]); all_goals (first | (rw [← wr_ad]; rfl) | (rw [wkr_wr, ← wr_ad]; rfl)))
set_option maxRecDepth 10000
set_option maxRecDepth 10000
theorem uex_rct (s : Int) (w : List Int) (hw : w.length ≤ 1000) (h : H) (n : Nat) : RCt Tryz.prog 30 [.i s, .list false (w.map wnD)] h n (fun d h' n' => ∃ rs, d = .agg [.v (.string (bs [120])), .mrow rs 0 3] ∧ h' rs = some ⟨52, [[.v (.string (bs [120])), .i 2, .i 60, .list false [[.v (.string (bs [97, 46, 110, 115])), .i 0, .i 0]], .list true []], [.v (.string (bs [120])), .i 4, .i 60, .list false [[.v (.string (bs [])), .i s, .i 60]], .list true []], [.v (.string (bs [119, 46, 120])), .i 1, .i 60, .list false (w.map wrD), .list true []]]⟩ ∧ n ≤ rs ∧ rs < n' ∧ ∀ q, q < n → h' q = h q) := by
 refine Znb Tryz.func30 rfl bo30 (by simp [Tryz.f30]) (fun hnone => ?_)
 unfold Tryz.f30
 have ff := True.intro
 refine stp Lun ?_
 refine stp Lun ?_
 refine Zaa ?_
 refine Zxv (n + 2) 3 31 63 (by simp only [go_sem, ff]; exact rfl) (by rfl) (by simp only [go_sem, ff]) ?_
 simp only [List.set_cons_succ, List.set_cons_zero]
 refine stp Lun ?_
 refine Zda ?_
 refine lph (α := (Nat) × (Nat) × Nat) [0, 4, 5, 9, 10] (fun ⟨k, r, nx⟩ => (k ≤ w.length) ∧ (r < nx) ∧ (n + 2 < r) ∧ True) (fun ⟨k, r, nx⟩ => w.length - k) (fun ⟨k, r, nx⟩ => [(11, .i k)]) (fun ⟨k, r, nx⟩ => upd (upd (upd h n (some ⟨24, [[.v (.string (bs [])), .list true []]]⟩)) (n + 2) (some ⟨31, [[.v (.string (bs [119, 46, 120])), .i 1, .i 60, .mrow (r) 0 (k)]]⟩)) (r) (some ⟨63, ((w.take (k)).map wrD)⟩)) (fun ⟨k, r, nx⟩ => nx) (0, (n + 4), _) (hA := ⟨iv, iv, iv, trivial⟩) (round := ?_) (hhh := by intro q; left; dsimp only; simp only [upd]; (repeat' split) <;> first | rfl | omega | (simp_all; done) | (exfalso; omega))
 rintro ⟨k, r, nx⟩ ⟨hk, hr, hr2, -⟩
 show DW _ _ _ _ { n := _, t := tab _, h := _, nx := _, e := _ }
 simp only [List.cons_append, List.nil_append]
 have n0 : n + 2 < nx := by omega
 have hll := Zwp hk
 have zr_n : (r = n) = False := eq_false (by omega)
 have yn_r : (n = r) = False := eq_false (by omega)
 have zr_n2 : (r = n + 2) = False := eq_false (by omega)
 have yn2_r : (n + 2 = r) = False := eq_false (by omega)
 have ff := And.intro @hr (And.intro @n0 (And.intro @hll (And.intro @zr_n (And.intro @yn_r (And.intro @zr_n2 (And.intro @yn2_r ff))))))
 refine stp Lun ?_
 refine Zaa ?_
 refine cd (fun c1 => ?_) (fun c1 => ?_) (hp := rfl) (hq := rfl)
 ·
  have hk2 : k < w.length := by simpa using c1
  have ff := And.intro (Zty hk2) ff
  refine dw_skip ?_
  show DW _ _ _ _ _
  refine Zaa ?_
  refine Zda ?_
  refine stp Lun ?_
  refine rgn Lun ?_
  show DW _ _ _ _ _
  refine rgn Lun ?_
  show ∃ _, _
  have hst := Zg7 hk2
  have ff := And.intro hst ff
  refine rnd (k + 1, (nx + 9), _) (h1 := ⟨iv, iv, iv, trivial⟩) (h5 := ?_)
  intro q
  by_cases e4 : q = r
  ·
   right; subst e4; simp only [upd]; repeat rw [if_neg (by omega)]
   exact hnone _ (by omega)
  ·
   left; simp only [upd]; try simp only [go_sem, ff]
   (repeat' split) <;> first | rfl | omega | (simp_all; done) | (exfalso; omega)
 ·
  have hk3 : k = w.length := by have : ¬ k < w.length := (by simpa using c1); omega
  subst hk3
  refine Zja ?_
  show DW _ _ _ _ _
  refine Zde (n + 2) 3 r (rows := ((w.take (w.length)).map wrD)) (off := 0) (len := w.length) (by simp only [go_sem, ff]; exact rfl) (by rfl) (by simp only [go_sem, ff]; exact rfl) (by omega) (by simp only [go_sem, ff]; omega) (by rw [List.take_length]; exact nrr_wr) ?_
  simp only [List.drop_zero, List.set_cons_succ, List.set_cons_zero]
  have znx8_n : (nx + 8 = n) = False := eq_false (by omega)
  have yn_nx8 : (n = nx + 8) = False := eq_false (by omega)
  have ff := And.intro @znx8_n (And.intro @yn_nx8 ff)
  refine stp LunB ?_ (hok := by (try simp only [go_sem, ff]); all_goals (first | done | ((repeat' (with_reducible apply And.intro)) <;> first | exact Zdc [120] 2 [97, 46, 110, 115] 0 0 | (intros; exact Zdc [120] 2 [97, 46, 110, 115] 0 0) | exact Zdc [120] 4 [] s 60 | (intros; exact Zdc [120] 4 [] s 60) | omega | skip)))
  refine Zba ?_
  refine Zpk (_) (hh := fun _ => .inl rfl) (hr := ?_)
  try simp only [go_sem, ff]
  refine ⟨nx + 8, rfl, ?_, by omega, by first | omega | (dsimp only; omega), fun q hq => ?_⟩
  ·
   simp only [upd]; repeat (first | rfl | rw [if_neg (by omega)] | rw [if_pos rfl])
  ·
   simp only [upd]; repeat (first | rfl | rw [if_neg (by omega)])
set_option maxRecDepth 10000
attribute [go_sem] setU
@[go_sem] theorem chgs1_one9 {f g : Bool} {k t l : Int} {k1 k2 k3 : IntKind} {s : ByteArray} {rows : List (List D)} : Ysa (.list f [[.v (.int k1 k), .v (.string s), .v (.int k2 t), .v (.int k3 l), .list g rows]]) = [⟨k, ⟨s.data.toList, t, l, dats1 (.list g rows)⟩⟩] := rfl
@[go_sem] theorem dats1_nil9 {f : Bool} : dats1 (.list f []) = [] := rfl
theorem hu1 : updR (exZ 65535 [7]) ⟨[(⟨3, ⟨[119, 46, 120], 1, 0, []⟩⟩ : Chg)], [⟨1, (⟨[119, 46, 120], 1, 5, [⟨[], 3, 0⟩]⟩ : RSet)⟩]⟩ = ((⟨[120], [⟨⟨[120], 2, 60, [⟨[97, 46, 110, 115], 0, 0⟩]⟩, []⟩, ⟨⟨[120], 4, 60, [⟨[], 0, 60⟩]⟩, []⟩, ⟨⟨[119, 46, 120], 1, 5, [⟨[], 3, 0⟩, ⟨[], 7, 0⟩]⟩, []⟩]⟩ : Zon), 0) := by kernel_rfl
theorem hu2 : updR (exZ 65535 [7]) ⟨[], [⟨2, ⟨[120], 2, 60, [⟨[97, 46, 110, 115], 0, 0⟩]⟩⟩]⟩ = (zon0, 6) := by kernel_rfl
theorem hu3 : updR (exZ 65535 [7]) ⟨[(⟨4, ⟨[119, 46, 120], 1, 0, []⟩⟩ : Chg)], []⟩ = (zon0, 24) := by kernel_rfl
theorem hu4 : updR (exZ 65535 [7]) ⟨[], []⟩ = ((exZ 65535 [7]), 0) := by kernel_rfl
theorem hh1 : holdsF (exZ 65535 [7]) ⟨5, (⟨[119, 46, 120], 1, 5, [⟨[], 3, 0⟩]⟩ : RSet)⟩ = (false, 0) := by kernel_rfl
theorem hh2 : holdsF (exZ 65535 [7]) ⟨5, ⟨[119, 46, 120], 1, 60, [⟨[], 7, 0⟩]⟩⟩ = (true, 0) := by kernel_rfl
theorem hh3 : holdsF (exZ 65535 [7]) ⟨1, ⟨[121], 0, 0, []⟩⟩ = (false, 20) := by kernel_rfl
theorem hs8 : sameZ (⟨[120], [⟨⟨[120], 2, 60, [⟨[97, 46, 110, 115], 0, 0⟩]⟩, []⟩, ⟨⟨[120], 4, 60, [⟨[], 0, 60⟩]⟩, []⟩, ⟨⟨[119, 46, 120], 1, 5, [⟨[], 3, 0⟩, ⟨[], 7, 0⟩]⟩, []⟩]⟩ : Zon) (⟨[120], [⟨⟨[120], 2, 60, [⟨[97, 46, 110, 115], 0, 0⟩]⟩, []⟩, ⟨⟨[120], 4, 60, [⟨[], 0, 60⟩]⟩, []⟩, ⟨⟨[119, 46, 120], 1, 5, [⟨[], 3, 0⟩, ⟨[], 7, 0⟩]⟩, []⟩]⟩ : Zon) = true := by exact decide_eq_true rfl
theorem hs9 : sameZ (exZ 65535 [7]) (exZ 65535 [7]) = true := by exact decide_eq_true rfl
theorem hfy : fitL (Zon.sets (⟨[120], [⟨⟨[120], 2, 60, [⟨[97, 46, 110, 115], 0, 0⟩]⟩, []⟩, ⟨⟨[120], 4, 60, [⟨[], 0, 60⟩]⟩, []⟩, ⟨⟨[119, 46, 120], 1, 5, [⟨[], 3, 0⟩, ⟨[], 7, 0⟩]⟩, []⟩]⟩ : Zon)) := ⟨by decide, by intro k hk; have : k = 0 ∨ k = 1 ∨ k = 2 := (by have : (Zon.sets (⟨[120], [⟨⟨[120], 2, 60, [⟨[97, 46, 110, 115], 0, 0⟩]⟩, []⟩, ⟨⟨[120], 4, 60, [⟨[], 0, 60⟩]⟩, []⟩, ⟨⟨[119, 46, 120], 1, 5, [⟨[], 3, 0⟩, ⟨[], 7, 0⟩]⟩, []⟩]⟩ : Zon)).length = 3 := rfl; omega); rcases this with e | e | e <;> subst e <;> exact ⟨by decide, by decide⟩⟩
theorem hfz : fitL (Zon.sets (exZ 65535 [7])) := ⟨by decide, by intro k hk; have : k = 0 ∨ k = 1 ∨ k = 2 := (by have : (Zon.sets (exZ 65535 [7])).length = 3 := rfl; omega); rcases this with e | e | e <;> subst e <;> exact ⟨by decide, by decide⟩⟩
theorem Znd {z x : Zon} {u : Upd} {e : Int} (h : updR z u = (x, e)) : PureCt Tryz.prog 13 [.agg z.d, .agg u.d] (.tuple [.agg x.d, .i e]) := by
 have := Zvz z u
 rwa [h] at this
theorem Zff {z : Zon} {n : Chg} {x : Bool} {e : Int} (h : holdsF z n = (x, e)) : PureCt Tryz.prog 15 [.agg z.d, .agg n.d] (.tuple [.b x, .i e]) := by
 have := Zsz z n
 rwa [h] at this
theorem Zmb {x : Zon} (h : fitL x.sets) : PureCt Tryz.prog 17 [.agg x.d, .agg x.d] (.b true) := by
 have := Zfj x x h
 rwa [show sameZ x x = true from decide_eq_true rfl] at this
theorem bo10 : Zea Tryz.prog 10 = true := by kernel_rfl
theorem Zo9  : PureCt Tryz.prog 10 [] (.b true) := by
 refine Zca Tryz.func10 rfl bo10 (by simp [go_sem, D.nr, nrs, nrr]) (by simp [Tryz.f10]) ?_
 unfold Tryz.f10
 simp only [Zfa]
 have ff := True.intro
 have ff := And.intro @hu1 (And.intro @hu2 (And.intro @hu3 (And.intro @hu4 (And.intro @hh1 (And.intro @hh2 (And.intro @hh3 (And.intro @hs8 (And.intro @hs9 ff))))))))
 refine stp Lun ?_
 refine stp Lun ?_ (hok := by (try simp only [go_sem, ff]); all_goals (first | done | ((repeat' (with_reducible apply And.intro)) <;> first | exact Zf3 65535 [7] (by decide) | (intros; exact Zf3 65535 [7] (by decide)) | rfl | omega | skip)))
 refine stp Lun ?_ (hok := by (try simp only [go_sem, ff]); all_goals (first | done | ((repeat' (with_reducible apply And.intro)) <;> first | exact Zdc [119, 46, 120] 1 [] 3 0 | (intros; exact Zdc [119, 46, 120] 1 [] 3 0) | rfl | omega | skip)))
 refine stp Lun ?_
 refine stp Lun ?_
 refine stp Lun ?_ (hok := by (try simp only [go_sem, ff]); all_goals (first | done | ((repeat' (with_reducible apply And.intro)) <;> first | exact Znd hu1 | (intros; exact Znd hu1) | rfl | omega | skip)))
 refine Zaa (Zw1 Lun 1 (hct := by exact uex_rct 0 [3, 7] (by decide) _ _) (hk := ?_))
 rintro res h2 n2 ⟨rs, rfl, x1, x2, x3, x4⟩
 try dsimp only at x2 x3 x4
 have y3 : h2 3 = _ := (x4 3 (by omega)).trans (by simp only [go_sem, ff]; exact rfl)
 have y6 : h2 6 = _ := (x4 6 (by omega)).trans (by simp only [go_sem, ff]; exact rfl)
 have y12 : h2 12 = _ := (x4 12 (by omega)).trans (by simp only [go_sem, ff]; exact rfl)
 have y25 : h2 25 = _ := (x4 25 (by omega)).trans (by simp only [go_sem, ff]; exact rfl)
 have zrs_3 : (rs = 3) = False := eq_false (by omega)
 have y3_rs : (3 = rs) = False := eq_false (by omega)
 have zrs_6 : (rs = 6) = False := eq_false (by omega)
 have y6_rs : (6 = rs) = False := eq_false (by omega)
 have zrs_12 : (rs = 12) = False := eq_false (by omega)
 have y12_rs : (12 = rs) = False := eq_false (by omega)
 have zrs_25 : (rs = 25) = False := eq_false (by omega)
 have y25_rs : (25 = rs) = False := eq_false (by omega)
 have zrs_n22 : (rs = n2 + 2) = False := eq_false (by omega)
 have yn22_rs : (n2 + 2 = rs) = False := eq_false (by omega)
 have zn22_3 : (n2 + 2 = 3) = False := eq_false (by omega)
 have y3_n22 : (3 = n2 + 2) = False := eq_false (by omega)
 have zn22_6 : (n2 + 2 = 6) = False := eq_false (by omega)
 have y6_n22 : (6 = n2 + 2) = False := eq_false (by omega)
 have zn22_12 : (n2 + 2 = 12) = False := eq_false (by omega)
 have y12_n22 : (12 = n2 + 2) = False := eq_false (by omega)
 have zn22_25 : (n2 + 2 = 25) = False := eq_false (by omega)
 have y25_n22 : (25 = n2 + 2) = False := eq_false (by omega)
 have zn219_3 : (n2 + 19 = 3) = False := eq_false (by omega)
 have y3_n219 : (3 = n2 + 19) = False := eq_false (by omega)
 have zn219_6 : (n2 + 19 = 6) = False := eq_false (by omega)
 have y6_n219 : (6 = n2 + 19) = False := eq_false (by omega)
 have zn219_12 : (n2 + 19 = 12) = False := eq_false (by omega)
 have y12_n219 : (12 = n2 + 19) = False := eq_false (by omega)
 have zn219_25 : (n2 + 19 = 25) = False := eq_false (by omega)
 have y25_n219 : (25 = n2 + 19) = False := eq_false (by omega)
 have zn219_rs : (n2 + 19 = rs) = False := eq_false (by omega)
 have yrs_n219 : (rs = n2 + 19) = False := eq_false (by omega)
 have zn232_3 : (n2 + 32 = 3) = False := eq_false (by omega)
 have y3_n232 : (3 = n2 + 32) = False := eq_false (by omega)
 have zn232_6 : (n2 + 32 = 6) = False := eq_false (by omega)
 have y6_n232 : (6 = n2 + 32) = False := eq_false (by omega)
 have zn232_12 : (n2 + 32 = 12) = False := eq_false (by omega)
 have y12_n232 : (12 = n2 + 32) = False := eq_false (by omega)
 have zn232_25 : (n2 + 32 = 25) = False := eq_false (by omega)
 have y25_n232 : (25 = n2 + 32) = False := eq_false (by omega)
 have zn232_rs : (n2 + 32 = rs) = False := eq_false (by omega)
 have yrs_n232 : (rs = n2 + 32) = False := eq_false (by omega)
 have zn241_3 : (n2 + 41 = 3) = False := eq_false (by omega)
 have y3_n241 : (3 = n2 + 41) = False := eq_false (by omega)
 have zn241_6 : (n2 + 41 = 6) = False := eq_false (by omega)
 have y6_n241 : (6 = n2 + 41) = False := eq_false (by omega)
 have zn241_12 : (n2 + 41 = 12) = False := eq_false (by omega)
 have y12_n241 : (12 = n2 + 41) = False := eq_false (by omega)
 have zn241_25 : (n2 + 41 = 25) = False := eq_false (by omega)
 have y25_n241 : (25 = n2 + 41) = False := eq_false (by omega)
 have zn241_rs : (n2 + 41 = rs) = False := eq_false (by omega)
 have yrs_n241 : (rs = n2 + 41) = False := eq_false (by omega)
 have ff := And.intro @x1 (And.intro @y3 (And.intro @y6 (And.intro @y12 (And.intro @y25 (And.intro @zrs_3 (And.intro @y3_rs (And.intro @zrs_6 (And.intro @y6_rs (And.intro @zrs_12 (And.intro @y12_rs (And.intro @zrs_25 (And.intro @y25_rs (And.intro @zrs_n22 (And.intro @yn22_rs (And.intro @zn22_3 (And.intro @y3_n22 (And.intro @zn22_6 (And.intro @y6_n22 (And.intro @zn22_12 (And.intro @y12_n22 (And.intro @zn22_25 (And.intro @y25_n22 (And.intro @zn219_3 (And.intro @y3_n219 (And.intro @zn219_6 (And.intro @y6_n219 (And.intro @zn219_12 (And.intro @y12_n219 (And.intro @zn219_25 (And.intro @y25_n219 (And.intro @zn219_rs (And.intro @yrs_n219 (And.intro @zn232_3 (And.intro @y3_n232 (And.intro @zn232_6 (And.intro @y6_n232 (And.intro @zn232_12 (And.intro @y12_n232 (And.intro @zn232_25 (And.intro @y25_n232 (And.intro @zn232_rs (And.intro @yrs_n232 (And.intro @zn241_3 (And.intro @y3_n241 (And.intro @zn241_6 (And.intro @y6_n241 (And.intro @zn241_12 (And.intro @y12_n241 (And.intro @zn241_25 (And.intro @y25_n241 (And.intro @zn241_rs (And.intro @yrs_n241 ff))))))))))))))))))))))))))))))))))))))))))))))))))))
 refine Zv1 Lun ?_
 show DW _ _ _ _ _
 refine stp Lun ?_
 refine Zde (n2 + 2) 1 rs (off := 0) (len := 3) (by simp only [go_sem, ff]; exact rfl) (by rfl) (by simp only [go_sem, ff]; exact rfl) (by omega) (by decide) (by rfl) ?_
 simp only [List.drop_zero, List.set_cons_succ, List.set_cons_zero, List.take_succ_cons, List.take_zero]
 refine stp LunF ?_ (hok := by (try simp only [go_sem, ff]); all_goals (first | done | ((repeat' (with_reducible apply And.intro)) <;> first | exact Zdc [120] 2 [97, 46, 110, 115] 0 0 | (intros; exact Zdc [120] 2 [97, 46, 110, 115] 0 0) | exact Znd hu2 | (intros; exact Znd hu2) | rfl | omega | skip)))
 refine stp Lun ?_
 refine stp Lun ?_ (hok := by (try simp only [go_sem, ff]); all_goals (first | done | ((repeat' (with_reducible apply And.intro)) <;> first | exact Znd hu3 | (intros; exact Znd hu3) | rfl | omega | skip)))
 refine stp Lun ?_ (hok := by (try simp only [go_sem, ff]); all_goals (first | done | ((repeat' (with_reducible apply And.intro)) <;> first | exact Znd hu4 | (intros; exact Znd hu4) | rfl | omega | skip)))
 refine stp Lun ?_ (hok := by (try simp only [go_sem, ff]); all_goals (first | done | ((repeat' (with_reducible apply And.intro)) <;> first | exact Zff hh1 | (intros; exact Zff hh1) | rfl | omega | skip)))
 refine stp LunF ?_ (hok := by (try simp only [go_sem, ff]); all_goals (first | done | ((repeat' (with_reducible apply And.intro)) <;> first | exact Zdc [119, 46, 120] 1 [] 7 0 | (intros; exact Zdc [119, 46, 120] 1 [] 7 0) | exact Zff hh2 | (intros; exact Zff hh2) | rfl | omega | skip)))
 refine stp Lun ?_ (hok := by (try simp only [go_sem, ff]); all_goals (first | done | ((repeat' (with_reducible apply And.intro)) <;> first | exact Zff hh3 | (intros; exact Zff hh3) | rfl | omega | skip)))
 refine stp Lun ?_
 refine stp Lun ?_ (hok := by (try simp only [go_sem, ff]); all_goals (first | done | ((repeat' (with_reducible apply And.intro)) <;> first | exact (fun _ => Zmb hfy) | (intros; exact (fun _ => Zmb hfy)) | exact Zmb hfy | (intros; exact Zmb hfy) | exact (fun _ => Zmb hfz) | (intros; exact (fun _ => Zmb hfz)) | rfl | omega | skip)))
 refine Zba ?_
 exact fin 0 (hr := by (try simp only [go_sem, ff]); all_goals (first | rfl | kernel_rfl))
set_option maxRecDepth 10000
theorem Zw9 {u : Upd} (h : fewU u = true) : ∀ c ∈ u.chgs, c.set.data.length ≤ 1000000 := by
 simp only [fewU, Bool.and_eq_true, decide_eq_true_eq] at h
 obtain ⟨⟨⟨h1, h2⟩, h3⟩, h4⟩ := h
 intro c hc
 obtain ⟨i, hi, rfl⟩ := mem_ix.1 hc
 rw [Nat.min_eq_left (by omega)] at h2
 have := (Zoa _ _ _).1 h2 i (Nat.zero_le _) hi
 have := of_decide_eq_true this
 omega
theorem upd_fit {z y : Zon} {u : Upd} {e : Int} (h : updR z u = (y, e)) : fitL y.sets := by
 by_cases he : e = 0
 ·
  subst he
  obtain ⟨y0, hm⟩ := upd_yes h
  exact zone_fit hm.plain.1.ok
 ·
  rw [upd_err h he]
  exact ⟨by decide, fun k hk => absurd hk (Nat.not_lt_zero _)⟩
theorem Zlx {z x : Zon} {u : Upd} {e : Int} (hu : ∀ c ∈ u.chgs, c.set.data.length ≤ 1000000) (h : updR z u = (x, e)) : PureCt Tryz.prog 14 [.agg z.d, .agg u.d] (.tuple [.agg x.d, .i e]) := by
 have := Zh0 z u hu
 rwa [h] at this
theorem Zfx {z : Zon} {n : Chg} {x : Bool} {e : Int} (h : holdsF z n = (x, e)) : PureCt Tryz.prog 16 [.agg z.d, .agg n.d] (.tuple [.b x, .i e]) := by
 have := Zgx z n (fun hz => by rw [Zwa] at hz; exact Zel hz) Za3
 rwa [h] at this
def hAll (z : Zon) (l : List Chg) : Nat → Bool
 | 0 => true
 | k + 1 => hAll z l k && holdB z l[k]!
@[go_sem] theorem hAll_0 {z : Zon} {l : List Chg} : hAll z l 0 = true := rfl
theorem bo3 : Zea Tryz.prog 3 = true := by kernel_rfl
theorem lawUM_ct (z : Zon) (u : Upd) (n : Chg) : PureCt Tryz.prog 3 [.agg z.d, .agg u.d, .agg n.d] (.b true) := by
 refine Zca Tryz.func3 rfl bo3 (by simp [go_sem, D.nr, nrs, nrr]) (by simp [Tryz.f3]) ?_
 unfold Tryz.f3
 simp only [Zfa]
 have ff := True.intro
 refine stp Lun ?_
 refine stp Lun ?_ (hok := by (try simp only [go_sem, ff]); all_goals (exact Zo9))
 refine Zaa ?_
 refine stp Lun ?_ (hok := by (try simp only [go_sem, ff]); all_goals (first | done | ((repeat' (with_reducible apply And.intro)) <;> first | exact Zox z | (intros; exact Zox z) | exact (fun _ => Zhx u) | (intros; exact (fun _ => Zhx u)) | exact ez9 | skip)))
 refine cd (fun c1 => ?_) (fun c1 => ?_)
 ·
  refine stp Lun ?_
  refine Zba ?_
  exact fin 0 (hr := by (try simp only [go_sem, ff]); all_goals (rfl))
 ·
  have hfu : fewU u = true := by grind
  have hfc := Zw9 hfu
  refine dw_skip ?_
  show DW _ _ _ _ _
  rcases hx : updR z u with ⟨x, e⟩
  have hxf := upd_fit hx
  have hxs : sameZ x x = true := decide_eq_true rfl
  have ff := And.intro @hx (And.intro @hxs ff)
  refine stp Lun ?_ (hok := by (try simp only [go_sem, ff]); all_goals (first | done | ((repeat' (with_reducible apply And.intro)) <;> first | exact Znd hx | (intros; exact Znd hx) | exact ez9 | skip)))
  refine stp Lun ?_ (hok := by (try simp only [go_sem, ff]); all_goals (first | done | ((repeat' (with_reducible apply And.intro)) <;> first | exact Zlx hfc hx | (intros; exact Zlx hfc hx) | exact ez9 | skip)))
  rcases hw : holdsF z n with ⟨b, e2⟩
  have ff := And.intro @hw ff
  refine stp Lun ?_ (hok := by (try simp only [go_sem, ff]); all_goals (first | done | ((repeat' (with_reducible apply And.intro)) <;> first | exact Zff hw | (intros; exact Zff hw) | exact ez9 | skip)))
  refine stp Lun ?_ (hok := by (try simp only [go_sem, ff]); all_goals (first | done | ((repeat' (with_reducible apply And.intro)) <;> first | exact Zfx hw | (intros; exact Zfx hw) | exact ez9 | skip)))
  refine stp Lun ?_ (hok := by (try simp only [go_sem, ff]); all_goals (first | done | ((repeat' (with_reducible apply And.intro)) <;> first | exact Zmb hxf | (intros; exact Zmb hxf) | exact (fun _ => Zmb hxf) | (intros; exact (fun _ => Zmb hxf)) | exact ez9 | skip)))
  refine Zba ?_
  exact fin 0 (hr := by (try simp only [go_sem, ff]); all_goals (first | rfl | (simp; done)))
end Go.Proofs.YtmkblfajmnhccaaGreatDoor
