/-
  MANY TEXTS OF MINE IN ONE (a claim has a limit of files): UpW16, UrW1, UrW2, UrW3, UrW4, UrW5, UrW6, UrW7, UrW8, UrW9, UlW1, UlW2, UlW3, UlW4, UlW5, UlW6, UlW7, UlW9. Conditions: none.
-/
import Derived.Test.YtmkblfajmnhccaaGreatDoorMP5
set_option linter.unusedVariables false
set_option linter.unusedSimpArgs false
set_option linter.unusedSectionVars false
namespace Go.Proofs.YtmkblfajmnhccaaGreatDoor
open Go.DL Go.Str Go.Rec Go.Cmp Go.Zon
set_option maxRecDepth 10000
theorem Zw4 {z : Zon} {l : List Chg} (hz : PlainZ z) (hcs : ∀ c ∈ l, chgOk c = true) (hll : l.length ≤ 1000) (hn : Zxn z l = none) (h : H) (n : Nat) : RCt Tryz.prog 36 [.agg z.d, .list false (l.map Chg.d)] h n (fun d h' n' => d = .tuple [.agg [.v (.string (bs [])), .list true []], .i 6] ∧ ∀ q b, q < n → h q = some b → b.ty ≠ 52 → b.ty ≠ 63 → h' q = some b) :=
 (Zxs z l h n hz hcs hll).mono fun d h' n' ⟨h1, h2⟩ => by
  rcases h1 with ⟨_, e⟩ | ⟨y, zc, rs, p, hs, _⟩
  ·
   exact ⟨e, h2⟩
  ·
   rw [hn] at hs; cases hs
theorem Za0 {z y : Zon} {l : List Chg} (hz : PlainZ z) (hcs : ∀ c ∈ l, chgOk c = true) (hll : l.length ≤ 1000) (hy : Zxn z l = some y) (h : H) (n : Nat) : RCt Tryz.prog 36 [.agg z.d, .list false (l.map Chg.d)] h n (fun d h' n' => ∃ zc rs p, d = .tuple [.agg [.v (.string (bs z.apex)), .mrow rs 0 p.length], .i 0] ∧ ZM 24 52 63 zc rs z.apex p h' ∧ lP p = y.sets ∧ zc < n' ∧ rs < n' ∧ (∀ x ∈ p, x.1 < n') ∧ ∀ q b, q < n → h q = some b → b.ty ≠ 52 → b.ty ≠ 63 → h' q = some b) :=
 (Zxs z l h n hz hcs hll).mono fun d h' n' ⟨h1, h2⟩ => by
  rcases h1 with ⟨hs, _⟩ | ⟨y', zc, rs, p, hs, e, k1, k2, k3, k4, k5⟩
  ·
   rw [hy] at hs; cases hs
  ·
   rw [hy] at hs
   cases hs
   exact ⟨zc, rs, p, e, k1, k2, k3, k4, k5, h2⟩
theorem Zr7 {n a : Str} (hn : nameOk n = true) (ha : nameOk a = true) : underV n a = inB n a := Zu4 hn ha
theorem upz_1 {z : Zon} {u : Upd} (h : zoneOk z = false ∨ updOk u = false) : updR z u = (zon0, 1) := by unfold updR; rw [if_pos h]
theorem upz_2 {z : Zon} {u : Upd} (h1 : zoneOk z = true) (h2 : updOk u = true) (h : plainB z = false) : updR z u = (zon0, 12) := by
 unfold updR; rw [if_neg (by rw [h1, h2]; simp), if_pos h]
theorem upz_3 {z : Zon} {u : Upd} (h1 : zoneOk z = true) (h2 : updOk u = true) (h3 : plainB z = true) (h : Zve z u.needs = true ∨ Zve z u.chgs = true) : updR z u = (zon0, 20) := by
 unfold updR; rw [if_neg (by rw [h1, h2]; simp), if_neg (by rw [h3]; simp), if_pos h]
theorem upz_4 {z : Zon} {u : Upd} (h1 : zoneOk z = true) (h2 : updOk u = true) (h3 : plainB z = true) (h4 : ¬ (Zve z u.needs = true ∨ Zve z u.chgs = true)) (h : Zvg z u.needs = false) : updR z u = (zon0, 24) := by
 unfold updR; rw [if_neg (by rw [h1, h2]; simp), if_neg (by rw [h3]; simp), if_neg h4, if_pos h]
theorem upz_5 {z : Zon} {u : Upd} (h1 : zoneOk z = true) (h2 : updOk u = true) (h3 : plainB z = true) (h4 : ¬ (Zve z u.needs = true ∨ Zve z u.chgs = true)) (h5 : Zvg z u.needs = true) (h : Zxn z u.chgs = none) : updR z u = (zon0, 6) := by
 unfold updR; rw [if_neg (by rw [h1, h2]; simp), if_neg (by rw [h3]; simp), if_neg h4, if_neg (by rw [h5]; simp), h]
theorem upz_6 {z y : Zon} {u : Upd} (h1 : zoneOk z = true) (h2 : updOk u = true) (h3 : plainB z = true) (h4 : ¬ (Zve z u.needs = true ∨ Zve z u.chgs = true)) (h5 : Zvg z u.needs = true) (h : Zxn z u.chgs = some y) : updR z u = (Zfj z y, 0) := by
 unfold updR; rw [if_neg (by rw [h1, h2]; simp), if_neg (by rw [h3]; simp), if_neg h4, if_neg (by rw [h5]; simp), h]
theorem Zrr {z : Zon} (h : zoneOk z = true) (hz : ZOrd z) {n : Chg} (hn : nameOk n.set.name = true) : holdP z n = holdB z n := by
 have key : findOk z.sets n.q = decide (0 ≤ atF z.sets n.q) := Ziw hz (by exact hn)
 have key2 : 0 ≤ atF z.sets n.q → z.sets[findIx z.sets n.q]! = z.sets[(atF z.sets n.q).toNat]! := find_ix hz (by exact hn)
 unfold holdP holdB
 by_cases h1 : n.kind = 1
 ·
  simp [h1, Zfr]
 ·
  by_cases h2 : n.kind = 2
  ·
   simp [h2, Zfr]
  ·
   rw [if_neg (by omega), if_neg h1, if_neg h2]
   by_cases h3 : n.kind = 3
   ·
    simp [h3, key]
   ·
    rw [if_neg h3]
    by_cases h4 : n.kind = 4
    ·
     rw [if_pos h4, if_pos h4, key, Bool.eq_iff_iff]; simp
    ·
     rw [if_neg h4, if_neg h4, key]
     by_cases h0 : 0 ≤ atF z.sets n.q
     ·
      simp [h0, h3, key2 h0]
     ·
      simp [h0]
theorem Zpp {n : Chg} (h : needOk n = true) : nameOk n.set.name = true := by
 unfold needOk at h
 rw [Bool.and_eq_true] at h
 exact h.1
theorem Ywb {z : Zon} {l : List Chg} {k : Nat} (hk : k < l.length) (h : inB l[k]!.set.name z.apex = false) : Zve z l = true := by
 unfold Zve
 rw [Bool.not_eq_true', Bool.eq_false_iff, Ne, Zoa]
 intro q
 have : inB l[k]!.set.name z.apex = true := q k (Nat.zero_le _) hk
 rw [h] at this; cases this
theorem Zg4 {z : Zon} {l : List Chg} (h : Zza l.length (fun i => inB l[i]!.set.name z.apex) 0 = true) : Zve z l = false := by
 unfold Zve; rw [h]; rfl
theorem count_ap {z y : Zon} (hz : PlainZ y) (ha : y.apex = z.apex) : Zfj z y = ⟨z.apex, (Zfj z y).sets⟩ := by
 obtain ⟨m, _, _, e⟩ := Yxb (z := z) hz
 rw [e]
 show Zwc y m = ⟨z.apex, (Zwc y m).sets⟩
 rw [← ha]
 rfl
theorem bo15 : Zea Tryz.prog 15 = true := by kernel_rfl
theorem Zyz (z : Zon) (n : Chg) : PureCt Tryz.prog 15 [.agg z.d, .agg n.d] (.tuple [.b (holdsF z n).1, .i (holdsF z n).2]) := by
 refine Zca Tryz.func15 rfl bo15 (by simp [go_sem, D.nr, nrs, nrr]) (by simp [Tryz.f15]) ?_
 unfold Tryz.f15
 simp only [Zfa]
 have ff := True.intro
 refine stp Lun ?_
 refine Zaa ?_
 refine stp Lun ?_ (hok := by (try simp only [go_sem, ff]); all_goals (first | done | ((repeat' (with_reducible apply And.intro)) <;> first | exact Zjp n | (intros; exact Zjp n) | exact (fun _ => Znc z) | (intros; exact (fun _ => Znc z)) | exact ez9 | skip)))
 refine cd (fun c1 => ?_) (fun c1 => ?_)
 ·
  refine stp Lun ?_
  refine Zba ?_
  exact fin 1 (hr := by (try simp only [go_sem, ff]); all_goals (rw [holdsF, if_pos (by grind)]))
 ·
  have hzo : zoneOk z = true := by grind
  have hno : needOk n = true := by grind
  have zo := Zsg hzo
  have hlen := zo.len
  have hund := Zr7 (Zpp hno) zo.apex
  have ff := And.intro @hund ff
  refine dw_skip ?_
  show DW _ _ _ _ _
  refine Zaa ?_
  refine stp Lun ?_ (hok := by (try simp only [go_sem, ff]); all_goals (first | done | ((repeat' (with_reducible apply And.intro)) <;> first | exact (by have h9 := Zmh n.set.name z.apex; rw [hund] at h9; exact h9) | (intros; exact (by have h9 := Zmh n.set.name z.apex; rw [hund] at h9; exact h9)) | exact ez9 | skip)))
  refine cd (fun c2 => ?_) (fun c2 => ?_)
  ·
   refine stp Lun ?_
   refine Zba ?_
   exact fin 1 (hr := by (try simp only [go_sem, ff]); all_goals (rw [holdsF, if_neg (by rw [hzo, hno]; simp), if_pos (by grind)]))
  ·
   refine dw_skip ?_
   show DW _ _ _ _ _
   refine stp Lun ?_ (hok := by (try simp only [go_sem, ff]); all_goals (first | done | ((repeat' (with_reducible apply And.intro)) <;> first | exact Zkp z n (by omega) (fun s hs => by have := (zo.ok s hs).len; omega) | (intros; exact Zkp z n (by omega) (fun s hs => by have := (zo.ok s hs).len; omega)) | exact ez9 | skip)))
   refine Zba ?_
   exact fin 1 (hr := by (try simp only [go_sem, ff]); all_goals (rw [holdsF, if_neg (by rw [hzo, hno]; simp), if_neg (by grind), Zrr hzo zo (Zpp hno)]))
theorem bo13 : Zea Tryz.prog 13 = true := by kernel_rfl
theorem Zb0 (z : Zon) (u : Upd) : PureCt Tryz.prog 13 [.agg z.d, .agg u.d] (.tuple [.agg (updR z u).1.d, .i (updR z u).2]) := by
 refine Zca Tryz.func13 rfl bo13 (by simp [go_sem, D.nr, nrs, nrr]) (by simp [Tryz.f13]) ?_
 unfold Tryz.f13
 simp only [Zfa]
 have ff := True.intro
 refine stp Lun ?_
 refine Zaa ?_
 refine stp Lun ?_ (hok := by (try simp only [go_sem, ff]); all_goals (first | done | ((repeat' (with_reducible apply And.intro)) <;> first | exact Zm7 u | (intros; exact Zm7 u) | exact (fun _ => Znc z) | (intros; exact (fun _ => Znc z)) | exact ez9 | skip)))
 refine cd (fun c1 => ?_) (fun c1 => ?_)
 ·
  refine stp Lun ?_
  refine Zba ?_
  exact fin 6 (hr := by (try simp only [go_sem, ff]); all_goals (rw [upz_1 (by grind)]; rfl))
 ·
  have hz : zoneOk z = true := by grind
  have hu : updOk u = true := by grind
  have zo := Zsg hz
  have zlen := zo.len
  have hnl := Zo7 hu
  have hcl := Zip hu
  have hul : u.needs.length ≤ 20 ∧ u.chgs.length ≤ 20 := by have h9 := hu; simp only [updOk, Bool.and_eq_true, decide_eq_true_eq] at h9; exact h9.1.1
  refine dw_skip ?_
  show DW _ _ _ _ _
  refine Zaa ?_
  refine stp Lun ?_ (hok := by (try simp only [go_sem, ff]); all_goals (first | done | ((repeat' (with_reducible apply And.intro)) <;> first | exact Zzw z (by omega) | (intros; exact Zzw z (by omega)) | exact ez9 | skip)))
  refine cd (fun c2 => ?_) (fun c2 => ?_)
  ·
   refine stp Lun ?_
   refine Zba ?_
   exact fin 6 (hr := by (try simp only [go_sem, ff]); all_goals (rw [upz_2 hz hu c2]; rfl))
  ·
   have hpl : plainB z = true := by grind
   have hpz := PlainZ.mk' hz hpl
   refine dw_skip ?_
   show DW _ _ _ _ _
   refine Zaa ?_
   refine stp Lun ?_
   refine Zda ?_
   refine lp (α := (Nat) × Nat) [2, 3, 4, 28, 29] (fun ⟨k, nx⟩ => (k ≤ u.needs.length) ∧ (Zza u.needs.length ((fun i => inB u.needs[i]!.set.name z.apex)) 0 = Zza u.needs.length ((fun i => inB u.needs[i]!.set.name z.apex)) k) ∧ (2 < nx) ∧ True) (fun ⟨k, nx⟩ => u.needs.length - k) (fun ⟨k, nx⟩ => [(30, .i k)]) (fun ⟨k, nx⟩ => [(0, ⟨24, [z.d]⟩), (1, ⟨28, [u.d]⟩), (2, ⟨24, [[.v (.string (bs [])), .list true []]]⟩)]) (fun ⟨k, nx⟩ => nx) (0, _) (hA := ⟨iv, rfl, iv, trivial⟩) (round := ?_)
   rintro ⟨k, nx⟩ ⟨hk, hv1, hx, -⟩
   show DW _ _ _ _ { n := _, t := tab _, h := _, nx := _, e := _ }
   simp only [List.cons_append, List.nil_append]
   have ff := And.intro @hx ff
   refine stp Lun ?_
   refine Zaa ?_
   refine cd (fun c3 => ?_) (fun c3 => ?_) (hp := rfl)
   ·
    have hk2 : k < u.needs.length := by simpa using c3
    have hund := Zr7 (Zpp (hnl _ (Zjb hk2))) zo.apex
    have ff := And.intro (Zah hk2) (And.intro @hund ff)
    refine dw_skip ?_
    show DW _ _ _ _ _
    refine Zaa ?_
    refine Zda ?_
    refine stp Lun ?_
    refine stp Lun ?_ (hok := by (try simp only [go_sem, ff]); all_goals (first | done | ((repeat' (with_reducible apply And.intro)) <;> first | exact (by have h9 := Zmh u.needs[k]!.set.name z.apex; rw [hund] at h9; exact h9) | (intros; exact (by have h9 := Zmh u.needs[k]!.set.name z.apex; rw [hund] at h9; exact h9)) | exact ez9 | skip)))
    refine cd (fun c4 => ?_) (fun c4 => ?_)
    ·
     refine stp Lun ?_
     refine Zba ?_
     exact fin 6 (hr := by (try simp only [go_sem, ff]); all_goals (rw [upz_3 hz hu hpl (.inl (Ywb hk2 c4))]; rfl))
    ·
     refine dw_skip ?_
     show DW _ _ _ _ _
     refine rgn Lun ?_
     show ∃ _, _
     have h8 : ((fun i => inB u.needs[i]!.set.name z.apex)) k = true := by simpa using c4
     exact rnd (k + 1, _) (h1 := ⟨iv, (by first | (rw [hv1, Zha hk2 h8]) | (dsimp only; rw [hv1, Zha hk2 h8])), iv, trivial⟩)
   ·
    have hk3 : k = u.needs.length := by omega
    subst hk3
    have hcut1 : Zve z u.needs = false := Zg4 (by rw [hv1, Zxa (by omega)])
    refine Zka ?_
    show DW _ _ _ _ _
    refine Zaa ?_
    refine stp Lun ?_
    refine Zda ?_
    refine lp (α := (Nat) × Nat) [2, 3, 4, 44, 45] (fun ⟨k, nx⟩ => (k ≤ u.chgs.length) ∧ (Zza u.chgs.length ((fun i => inB u.chgs[i]!.set.name z.apex)) 0 = Zza u.chgs.length ((fun i => inB u.chgs[i]!.set.name z.apex)) k) ∧ (2 < nx) ∧ True) (fun ⟨k, nx⟩ => u.chgs.length - k) (fun ⟨k, nx⟩ => [(46, .i k)]) (fun ⟨k, nx⟩ => [(0, ⟨24, [z.d]⟩), (1, ⟨28, [u.d]⟩), (2, ⟨24, [[.v (.string (bs [])), .list true []]]⟩)]) (fun ⟨k, nx⟩ => nx) (0, _) (hA := ⟨iv, rfl, iv, trivial⟩) (round := ?_)
    rintro ⟨k, nx⟩ ⟨hk, hv2, hx, -⟩
    show DW _ _ _ _ { n := _, t := tab _, h := _, nx := _, e := _ }
    simp only [List.cons_append, List.nil_append]
    have ff := And.intro @hx ff
    refine stp Lun ?_
    refine Zaa ?_
    refine cd (fun c5 => ?_) (fun c5 => ?_) (hp := rfl)
    ·
     have hk2 : k < u.chgs.length := by simpa using c5
     have hund := Zr7 (Zes (hcl _ (Zjb hk2))) zo.apex
     have ff := And.intro (Zah hk2) (And.intro @hund ff)
     refine dw_skip ?_
     show DW _ _ _ _ _
     refine Zaa ?_
     refine Zda ?_
     refine stp Lun ?_
     refine stp Lun ?_ (hok := by (try simp only [go_sem, ff]); all_goals (first | done | ((repeat' (with_reducible apply And.intro)) <;> first | exact (by have h9 := Zmh u.chgs[k]!.set.name z.apex; rw [hund] at h9; exact h9) | (intros; exact (by have h9 := Zmh u.chgs[k]!.set.name z.apex; rw [hund] at h9; exact h9)) | exact ez9 | skip)))
     refine cd (fun c6 => ?_) (fun c6 => ?_)
     ·
      refine stp Lun ?_
      refine Zba ?_
      exact fin 6 (hr := by (try simp only [go_sem, ff]); all_goals (rw [upz_3 hz hu hpl (.inr (Ywb hk2 c6))]; rfl))
     ·
      refine dw_skip ?_
      show DW _ _ _ _ _
      refine rgn Lun ?_
      show ∃ _, _
      have h8 : ((fun i => inB u.chgs[i]!.set.name z.apex)) k = true := by simpa using c6
      exact rnd (k + 1, _) (h1 := ⟨iv, (by first | (rw [hv2, Zha hk2 h8]) | (dsimp only; rw [hv2, Zha hk2 h8])), iv, trivial⟩)
    ·
     have hk3 : k = u.chgs.length := by omega
     subst hk3
     have hcut2 : Zve z u.chgs = false := Zg4 (by rw [hv2, Zxa (by omega)])
     have hcut : ¬ (Zve z u.needs = true ∨ Zve z u.chgs = true) := by rw [hcut1, hcut2]; simp
     refine Zka ?_
     show DW _ _ _ _ _
     refine Zaa ?_
     refine stp Lun ?_
     refine Zda ?_
     refine lp (α := (Nat) × Nat) [2, 3, 4, 60, 61] (fun ⟨k, nx⟩ => (k ≤ u.needs.length) ∧ (Zza u.needs.length ((fun i => holdB z u.needs[i]!)) 0 = Zza u.needs.length ((fun i => holdB z u.needs[i]!)) k) ∧ (2 < nx) ∧ True) (fun ⟨k, nx⟩ => u.needs.length - k) (fun ⟨k, nx⟩ => [(62, .i k)]) (fun ⟨k, nx⟩ => [(0, ⟨24, [z.d]⟩), (1, ⟨28, [u.d]⟩), (2, ⟨24, [[.v (.string (bs [])), .list true []]]⟩)]) (fun ⟨k, nx⟩ => nx) (0, _) (hA := ⟨iv, rfl, iv, trivial⟩) (round := ?_)
     rintro ⟨k, nx⟩ ⟨hk, hv3, hx, -⟩
     show DW _ _ _ _ { n := _, t := tab _, h := _, nx := _, e := _ }
     simp only [List.cons_append, List.nil_append]
     have ff := And.intro @hx ff
     refine stp Lun ?_
     refine Zaa ?_
     refine cd (fun c7 => ?_) (fun c7 => ?_) (hp := rfl)
     ·
      have hk2 : k < u.needs.length := by simpa using c7
      have hhp := Zrr hz zo (Zpp (hnl _ (Zjb hk2)))
      have ff := And.intro (Zah hk2) (And.intro @hhp ff)
      refine dw_skip ?_
      show DW _ _ _ _ _
      refine Zaa ?_
      refine Zda ?_
      refine stp Lun ?_
      refine stp Lun ?_ (hok := by (try simp only [go_sem, ff]); all_goals (first | done | ((repeat' (with_reducible apply And.intro)) <;> first | exact (by have h9 := Zkp z u.needs[k]! (by omega) (fun s hs => by have := (zo.ok s hs).len; omega); rw [hhp] at h9; exact h9) | (intros; exact (by have h9 := Zkp z u.needs[k]! (by omega) (fun s hs => by have := (zo.ok s hs).len; omega); rw [hhp] at h9; exact h9)) | exact ez9 | skip)))
      refine cd (fun c8 => ?_) (fun c8 => ?_)
      ·
       refine stp Lun ?_
       refine Zba ?_
       exact fin 6 (hr := by (try simp only [go_sem, ff]); all_goals (rw [upz_4 hz hu hpl hcut (by unfold Zvg; rw [hv3]; exact Zpa (p := (fun i => holdB z u.needs[i]!)) hk2 c8)]; rfl))
      ·
       refine dw_skip ?_
       show DW _ _ _ _ _
       refine rgn Lun ?_
       show ∃ _, _
       have h8 : ((fun i => holdB z u.needs[i]!)) k = true := by simpa using c8
       exact rnd (k + 1, _) (h1 := ⟨iv, (by first | (rw [hv3, Zha hk2 h8]) | (dsimp only; rw [hv3, Zha hk2 h8])), iv, trivial⟩)
     ·
      have hk3 : k = u.needs.length := by omega
      subst hk3
      have hall3 : Zvg z u.needs = true := by unfold Zvg; rw [hv3, Zxa (by omega)]
      refine Zka ?_
      show DW _ _ _ _ _
      rcases hcr : Zxn z u.chgs with _ | y
      ·
       have hfin := upz_5 hz hu hpl hcut hall3 hcr
       refine Zaa (Zg2 Lun 3 (hct := by exact Zw4 hpz hcl (by omega) hcr _ _) (hk := ?_))
       rintro res h2 n2 ⟨rfl, hfr⟩
       try dsimp only at hfr
       have k0 := hfr 0 _ (by omega) (by simp only [go_sem, ff]; exact rfl) (by dsimp only; decide) (by dsimp only; decide)
       have k2 := hfr 2 _ (by omega) (by simp only [go_sem, ff]; exact rfl) (by dsimp only; decide) (by dsimp only; decide)
       have ff := And.intro @k0 (And.intro @k2 ff)
       refine Zf2 Lun ?_
       show DW _ _ _ _ _
       refine Zaa ?_
       refine stp Lun ?_
       refine cd (fun c9 => ?_) (fun c9 => ?_) (hp := rfl) (hq := rfl)
       ·
        refine stp Lun ?_
        refine Zba ?_
        exact fin 6 (hr := by (try simp only [go_sem, ff]); all_goals (rw [hfin]; rfl))
       ·
        exfalso; simp at c9
      ·
       have hfin := upz_6 hz hu hpl hcut hall3 hcr
       have hp0 := Zlk hpz hcl _ _ (Nat.le_refl _) hcr
       refine Zaa (Zg2 Lun 3 (hct := by exact Za0 hpz hcl (by omega) hcr _ _) (hk := ?_))
       rintro res h2 n2 ⟨zc, rs, p, rfl, hzm, hlp, z1, z2, z3, hfr⟩
       try dsimp only at hfr
       have k0 := hfr 0 _ (by omega) (by simp only [go_sem, ff]; exact rfl) (by dsimp only; decide) (by dsimp only; decide)
       have k2 := hfr 2 _ (by omega) (by simp only [go_sem, ff]; exact rfl) (by dsimp only; decide) (by dsimp only; decide)
       have ff := And.intro @k0 (And.intro @k2 ff)
       refine Zf2 Lun ?_
       show DW _ _ _ _ _
       refine Zaa ?_
       refine stp Lun ?_
       refine cd (fun c9 => ?_) (fun c9 => ?_) (hp := rfl) (hq := rfl)
       ·
        exfalso; simp at c9
       ·
        refine dw_skip ?_
        show DW _ _ _ _ _
        have hy9 : (⟨z.apex, lP p⟩ : Zon) = y := by rw [hlp, ← hp0.2]
        have hyp : PlainZ ⟨z.apex, lP p⟩ := by rw [hy9]; exact hp0.1
        refine Zaa (Zg2 Lun 2 (hct := by exact Zw7 z zc rs p _ _ hpz hyp (hzm.keep (fun q hq9 => by have hqn : q < n2 := (by rcases hq9 with rfl | rfl | ⟨x, hx, rfl⟩; exact z1; exact z2; exact z3 x hx); simp only [upd]; repeat (first | rfl | rw [if_neg (by omega)])))) (hk := ?_))
        rintro res h3 n3 ⟨rfl, p2, hm2, hl2, hc2, hf2⟩
        try dsimp only at hf2
        have n2a : zc ≠ 2 := fun e => by have h9 := hzm.z; rw [e, k2] at h9; simp at h9
        have n2b : rs ≠ 2 := fun e => by have h9 := hzm.r; rw [e, k2] at h9; simp at h9
        have n2c : ∀ x ∈ p, x.1 ≠ 2 := fun x hx e => by have h9 := hzm.d x hx; rw [e, k2] at h9; simp at h9
        have m2 : h3 2 = some ⟨24, [[.v (.string (bs [])), .list true []]]⟩ := by rw [hf2 2 (by omega) n2a.symm n2b.symm (fun x hx e => n2c x hx e.symm)]; simp only [upd]; repeat (first | exact k2 | rw [if_neg (by omega)])
        have m7 : h3 (n2 + 7) = some ⟨24, [[.v (.string (bs z.apex)), .mrow rs 0 p.length]]⟩ := by rw [hf2 (n2 + 7) (by omega) (by omega) (by omega) (fun x hx e => by have := z3 x hx; omega)]; simp only [upd]; repeat (first | rfl | rw [if_neg (by omega)] | rw [if_pos rfl])
        have hgen : ∀ (H9 : H) (d : D), (∀ q, q ≠ 2 → H9 q = h3 q) → d = .tuple [.agg [.v (.string (bs z.apex)), .mrow rs 0 p.length], .i 0] → wk (Go.DL.snap H9 6 d) = .tuple [.agg (updR z u).1.d, .i (updR z u).2] ∧ Zqa H9 6 d := by
         rintro H9 d hH rfl
         have hmF : ZM 24 52 63 zc rs z.apex p2 H9 := hm2.keep (fun q hq => hH q (by rcases hq with rfl | rfl | ⟨x, hx, rfl⟩; exact n2a; exact n2b; exact fun e => by have h9 := hm2.d x hx; rw [e, m2] at h9; simp at h9))
         have hs := hmF.snap
         rw [hl2] at hs
         rw [hfin, count_ap hp0.1 hp0.2]
         refine ⟨?_, ?_⟩
         ·
          show D.tuple [wk (Go.DL.snap H9 5 (.agg [.v (.string (bs z.apex)), .mrow rs 0 p.length])), _] = _
          rw [hs.1, hc2, hy9]
          rfl
         ·
          intro c hc
          simp only [List.mem_cons, List.not_mem_nil, or_false] at hc
          rcases hc with rfl | rfl
          ·
           exact hs.2
          ·
           rfl
        have ff := And.intro @m2 (And.intro @m7 ff)
        refine Zf2 Lun ?_
        show DW _ _ _ _ _
        refine stp Lun ?_
        refine Zba ?_
        refine fin 6 (hr := ?_) (hk := ?_)
        ·
         exact (hgen _ _ (fun q hq => upd_ne _ _ _ _ hq) (by simp only [go_sem, ff])).1
        ·
         exact (hgen _ _ (fun q hq => upd_ne _ _ _ _ hq) (by simp only [go_sem, ff])).2
set_option maxRecDepth 10000
theorem bo24 : Zea Tryz.prog 24 = true := by kernel_rfl
theorem Zmq (z : Zon) (hl : z.sets.length ≤ 1000000) : PureCt Tryz.prog 24 [.agg z.d] (.b (plainB z)) := by
 refine Zca Tryz.func24 rfl bo24 (by simp [go_sem, D.nr, nrs, nrr]) (by simp [Tryz.f24]) ?_
 unfold Tryz.f24
 simp only [Zfa]
 have ff := True.intro
 refine stp Lun ?_
 refine Zaa ?_
 refine stp Lun ?_
 refine Zda ?_
 refine lp (α := (Nat) × Nat) [1] (fun ⟨k, nx⟩ => (k ≤ z.sets.length) ∧ (Zza z.sets.length ((Zmi z.sets)) 0 = Zza z.sets.length ((Zmi z.sets)) k) ∧ (0 < nx) ∧ True) (fun ⟨k, nx⟩ => z.sets.length - k) (fun ⟨k, nx⟩ => [(3, .i k)]) (fun ⟨k, nx⟩ => [(0, ⟨24, [z.d]⟩)]) (fun ⟨k, nx⟩ => nx) (0, _) (hA := ⟨iv, rfl, iv, trivial⟩) (round := ?_)
 rintro ⟨k, nx⟩ ⟨hk, hv, hx, -⟩
 show DW _ _ _ _ { n := _, t := tab _, h := _, nx := _, e := _ }
 simp only [List.cons_append, List.nil_append]
 have ff := And.intro @hx ff
 refine Zaa ?_
 refine stp Lun ?_
 refine cd (fun c1 => ?_) (fun c1 => ?_) (hp := rfl)
 ·
  have hk2 : k < z.sets.length := by simpa using c1
  have ff := And.intro (Zla hk2) ff
  refine dw_skip ?_
  show DW _ _ _ _ _
  refine Zaa ?_
  refine Zda ?_
  refine stp Lun ?_
  refine cd (fun c2 => ?_) (fun c2 => ?_)
  ·
   refine stp Lun ?_
   refine Zba ?_
   exact fin 0 (hr := by (try simp only [go_sem, ff]); all_goals (have hF : (Zmi z.sets) k = false := (by simp only [Zmi]; grind); simp only [plainB]; rw [hv, Zpa hk2 hF]))
  ·
   refine dw_skip ?_
   show DW _ _ _ _ _
   refine rgn Lun ?_
   show ∃ _, _
   have h8 : ((Zmi z.sets)) k = true := by simp only [Zmi]; grind
   exact rnd (k + 1, _) (h1 := ⟨iv, (by first | (rw [hv, Zha hk2 h8]) | (dsimp only; rw [hv, Zha hk2 h8])), iv, trivial⟩)
 ·
  refine Zka ?_
  show DW _ _ _ _ _
  refine stp Lun ?_
  refine Zba ?_
  exact fin 0 (hr := by (try simp only [go_sem, ff]); all_goals (simp only [plainB]; rw [hv, Zxa (by omega)]))
theorem bo43 : Zea Tryz.prog 43 = true := by kernel_rfl
theorem Zlq (z : Zon) (hl : z.sets.length ≤ 1000000) : PureCt Tryz.prog 43 [.agg z.d] (.i (startN z)) := by
 refine Zca Tryz.func43 rfl bo43 (by simp [go_sem, D.nr, nrs, nrr]) (by simp [Tryz.f43]) ?_
 unfold Tryz.f43
 simp only [Zfa]
 have ff := True.intro
 refine stp Lun ?_
 refine stp Lun ?_ (hok := by (try simp only [go_sem, ff]); all_goals (first | done | ((repeat' (with_reducible apply And.intro)) <;> first | exact Zek z ⟨z.apex, 4⟩ hl | (intros; exact Zek z ⟨z.apex, 4⟩ hl) | skip)))
 refine Zba ?_
 exact fin 0 (hr := by (try simp only [go_sem, ff]); all_goals (rfl))
set_option maxRecDepth 10000
theorem at_ltN {l : List Sgd} {q : Qst} (h : 0 ≤ atF l q) : (atF l q).toNat < l.length := by
 have := Ydc l q
 omega
set_option maxRecDepth 10000
theorem bo12 : Zea Tryz.prog 12 = true := by kernel_rfl
theorem Zqx (u : Upd) : PureCt Tryz.prog 12 [.agg u.d] (.b (fewU u)) := by
 refine Zca Tryz.func12 rfl bo12 (by simp [go_sem, D.nr, nrs, nrr]) (by simp [Tryz.f12]) ?_
 unfold Tryz.f12
 simp only [Zfa]
 have ff := True.intro
 refine stp Lun ?_
 refine Zaa ?_
 refine stp Lun ?_
 refine Zda ?_
 refine lp (α := (Nat) × Nat) [1] (fun ⟨k, nx⟩ => (k ≤ (min u.needs.length 31)) ∧ (Zza (min u.needs.length 31) ((fewAt u.needs)) 0 = Zza (min u.needs.length 31) ((fewAt u.needs)) k) ∧ (0 < nx) ∧ True) (fun ⟨k, nx⟩ => (min u.needs.length 31) - k) (fun ⟨k, nx⟩ => [(3, .i k)]) (fun ⟨k, nx⟩ => [(0, ⟨28, [u.d]⟩)]) (fun ⟨k, nx⟩ => nx) (0, _) (hA := ⟨iv, rfl, iv, trivial⟩) (round := ?_)
 rintro ⟨k, nx⟩ ⟨hk, hv1, hx, -⟩
 show DW _ _ _ _ { n := _, t := tab _, h := _, nx := _, e := _ }
 simp only [List.cons_append, List.nil_append]
 have ff := And.intro @hx ff
 refine Zaa ?_
 refine stp Lun ?_
 refine cd (fun c1 => ?_) (fun c1 => ?_)
 ·
  have hk2n : k < u.needs.length := by grind
  have hk9 : k ≤ 30 := by grind
  have hk2 : k < min u.needs.length 31 := by omega
  have ff := And.intro (Zah hk2n) ff
  refine dw_skip ?_
  show DW _ _ _ _ _
  refine Zaa ?_
  refine Zda ?_
  refine stp Lun ?_
  refine cd (fun c2 => ?_) (fun c2 => ?_)
  ·
   refine stp Lun ?_
   refine Zba ?_
   exact fin 0 (hr := by (try simp only [go_sem, ff]); all_goals (have hF : ((fewAt u.needs)) k = false := (by simp only [Go.Zon.fewAt]; grind); simp only [fewU]; rw [hv1, Zpa hk2 hF]; try simp))
  ·
   refine dw_skip ?_
   show DW _ _ _ _ _
   refine rgn Lun ?_
   show ∃ _, _
   have h8 : ((fewAt u.needs)) k = true := by simp only [Go.Zon.fewAt]; grind
   exact rnd (k + 1, _) (h1 := ⟨iv, (by first | (rw [hv1, Zha hk2 h8]) | (dsimp only; rw [hv1, Zha hk2 h8])), iv, trivial⟩)
 ·
  refine Zka ?_
  show DW _ _ _ _ _
  refine Zaa ?_
  refine stp Lun ?_
  refine Zda ?_
  refine lp (α := (Nat) × Nat) [1] (fun ⟨k, nx⟩ => (k ≤ (min u.chgs.length 31)) ∧ (Zza (min u.chgs.length 31) ((fewAt u.chgs)) 0 = Zza (min u.chgs.length 31) ((fewAt u.chgs)) k) ∧ (0 < nx) ∧ True) (fun ⟨k, nx⟩ => (min u.chgs.length 31) - k) (fun ⟨k, nx⟩ => [(4, .i k)]) (fun ⟨k, nx⟩ => [(0, ⟨28, [u.d]⟩)]) (fun ⟨k, nx⟩ => nx) (0, _) (hA := ⟨iv, rfl, iv, trivial⟩) (round := ?_)
  rintro ⟨k, nx⟩ ⟨hk, hv, hx, -⟩
  show DW _ _ _ _ { n := _, t := tab _, h := _, nx := _, e := _ }
  simp only [List.cons_append, List.nil_append]
  have ff := And.intro @hx ff
  refine Zaa ?_
  refine stp Lun ?_
  refine cd (fun c3 => ?_) (fun c3 => ?_)
  ·
   have hk2n : k < u.chgs.length := by grind
   have hk9 : k ≤ 30 := by grind
   have hk2 : k < min u.chgs.length 31 := by omega
   have ff := And.intro (Zah hk2n) ff
   refine dw_skip ?_
   show DW _ _ _ _ _
   refine Zaa ?_
   refine Zda ?_
   refine stp Lun ?_
   refine cd (fun c4 => ?_) (fun c4 => ?_)
   ·
    refine stp Lun ?_
    refine Zba ?_
    exact fin 0 (hr := by (try simp only [go_sem, ff]); all_goals (have hF : ((fewAt u.chgs)) k = false := (by simp only [Go.Zon.fewAt]; grind); simp only [fewU]; rw [hv, Zpa hk2 hF]; try simp))
   ·
    refine dw_skip ?_
    show DW _ _ _ _ _
    refine rgn Lun ?_
    show ∃ _, _
    have h8 : ((fewAt u.chgs)) k = true := by simp only [Go.Zon.fewAt]; grind
    exact rnd (k + 1, _) (h1 := ⟨iv, (by first | (rw [hv, Zha hk2 h8]) | (dsimp only; rw [hv, Zha hk2 h8])), iv, trivial⟩)
  ·
   refine Zka ?_
   show DW _ _ _ _ _
   refine stp Lun ?_
   refine Zba ?_
   exact fin 0 (hr := by (try simp only [go_sem, ff]); all_goals (simp only [fewU]; rw [hv1, hv, Zxa (n := min u.needs.length 31) (by grind), Zxa (by grind)]; simp; rw [Bool.eq_iff_iff]; simp; omega))
set_option maxRecDepth 10000
@[go_sem] theorem leftTo_0 {a b : List Dat} : Zmm a b 0 = [] := rfl
@[go_sem] theorem memTo_0 {b : List Dat} {x : Dat} : Zhy b x 0 = false := rfl
set_option maxRecDepth 10000
@[go_sem] theorem dats_snoc9 {l : List Dat} {x : Dat} : (l ++ [x]).map Dat.d = l.map Dat.d ++ [[.v (.string (bs x.t)), .i x.n, .i x.m]] := by simp [Dat.d]
set_option maxRecDepth 10000
theorem Zmk {l : List Sgd} {x : Sgd} : List.take (l.length + 1) (List.map Sgd.d (l ++ [x])) = List.map Sgd.d (l ++ [x]) := List.take_of_length_le (by simp)
theorem Zzj {s : Sgd} {l : List Sgd} {k : Nat} {b : Bool} (hk : k < l.length) : Zwo s b (l.drop k) = (if 0 ≤ rOrd l[k]!.set s.set ∧ b = false then [s] else []) ++ ((if rOrd l[k]!.set s.set ≠ 0 then [l[k]!] else []) ++ Zwo s (b || decide (0 ≤ rOrd l[k]!.set s.set)) (l.drop (k + 1))) := by
 have e : l.drop k = l[k]! :: l.drop (k + 1) := by rw [getElem!_pos l k hk]; exact List.drop_eq_getElem_cons hk
 conv => lhs; rw [e]
 rfl
@[go_sem] theorem sgd_snoc12 {l : List Sgd} {x : Sgd} : (l ++ [x]).map Sgd.d = l.map Sgd.d ++ [[.v (.string (bs x.set.name)), .i x.set.ty, .i x.set.life, .list false (x.set.data.map Dat.d), .list false (x.sigs.map RSig.d)]] := by simp [Sgd.d]
theorem bo44 : Zea Tryz.prog 44 = true := by kernel_rfl
theorem Zht (z : Zon) (s : Sgd) (hl : z.sets.length ≤ 1000000) : PureCt Tryz.prog 44 [.agg z.d, .agg s.d] (.agg (withF z s).d) := by
 refine Zca Tryz.func44 rfl bo44 (by simp [go_sem, D.nr, nrs, nrr]) (by simp [Tryz.f44]) ?_
 unfold Tryz.f44
 simp only [Zfa]
 have ff := True.intro
 refine stp Lun ?_
 refine stp Lun ?_
 refine stp Lun ?_
 refine Zaa ?_
 refine Zs1 6 1 24 52 (by simp only [go_sem, ff]; exact rfl) (by rfl) (by simp only [go_sem, ff]) ?_
 simp only [List.set_cons_succ, List.set_cons_zero]
 refine stp Lun ?_
 refine Zda ?_
 refine lp (α := (Nat) × (Bool) × (List Sgd) × (Nat) × Nat) [2, 3, 4, 5] (fun ⟨k, dn, out, r, nx⟩ => (k ≤ z.sets.length) ∧ (r < nx) ∧ (6 < r) ∧ (out.length ≤ 2 * k) ∧ (Zwo s false z.sets = out ++ Zwo s dn (z.sets.drop k)) ∧ True) (fun ⟨k, dn, out, r, nx⟩ => z.sets.length - k) (fun ⟨k, dn, out, r, nx⟩ => [(6, .b dn), (7, .i k)]) (fun ⟨k, dn, out, r, nx⟩ => [(0, ⟨24, [z.d]⟩), (1, ⟨52, [s.d]⟩), (2, ⟨24, [[.v (.string (bs [])), .list true []]]⟩), (6, ⟨24, [[.v (.string (bs z.apex)), .mrow r 0 out.length]]⟩), (r, ⟨52, out.map Sgd.d⟩)]) (fun ⟨k, dn, out, r, nx⟩ => nx) (0, false, [], 9, _) (hA := ⟨iv, iv, iv, (by first | (simp) | (dsimp only; simp)), rfl, trivial⟩) (round := ?_)
 rintro ⟨k, dn, out, r, nx⟩ ⟨hk, hr, hr6, ho, hv, -⟩
 show DW _ _ _ _ { n := _, t := tab _, h := _, nx := _, e := _ }
 simp only [List.cons_append, List.nil_append]
 have n0 : 0 < nx := by omega
 have z0_1 : (0 = 1) = False := eq_false (by omega)
 have y1_0 : (1 = 0) = False := eq_false (by omega)
 have z0_2 : (0 = 2) = False := eq_false (by omega)
 have y2_0 : (2 = 0) = False := eq_false (by omega)
 have z0_6 : (0 = 6) = False := eq_false (by omega)
 have y6_0 : (6 = 0) = False := eq_false (by omega)
 have z0_r : (0 = r) = False := eq_false (by omega)
 have yr_0 : (r = 0) = False := eq_false (by omega)
 have z1_2 : (1 = 2) = False := eq_false (by omega)
 have y2_1 : (2 = 1) = False := eq_false (by omega)
 have z1_6 : (1 = 6) = False := eq_false (by omega)
 have y6_1 : (6 = 1) = False := eq_false (by omega)
 have z1_r : (1 = r) = False := eq_false (by omega)
 have yr_1 : (r = 1) = False := eq_false (by omega)
 have z2_6 : (2 = 6) = False := eq_false (by omega)
 have y6_2 : (6 = 2) = False := eq_false (by omega)
 have z2_r : (2 = r) = False := eq_false (by omega)
 have yr_2 : (r = 2) = False := eq_false (by omega)
 have z6_r : (6 = r) = False := eq_false (by omega)
 have yr_6 : (r = 6) = False := eq_false (by omega)
 have ff := And.intro @hr (And.intro @n0 (And.intro @z0_1 (And.intro @y1_0 (And.intro @z0_2 (And.intro @y2_0 (And.intro @z0_6 (And.intro @y6_0 (And.intro @z0_r (And.intro @yr_0 (And.intro @z1_2 (And.intro @y2_1 (And.intro @z1_6 (And.intro @y6_1 (And.intro @z1_r (And.intro @yr_1 (And.intro @z2_6 (And.intro @y6_2 (And.intro @z2_r (And.intro @yr_2 (And.intro @z6_r (And.intro @yr_6 ff)))))))))))))))))))))
 refine Zaa ?_
 refine stp Lun ?_
 refine cd (fun c1 => ?_) (fun c1 => ?_) (hp := rfl) (hq := rfl)
 ·
  have hk2 : k < z.sets.length := by simpa using c1
  have ff := And.intro (Zla hk2) ff
  refine dw_skip ?_
  show DW _ _ _ _ _
  refine Zaa ?_
  refine Zda ?_
  refine stp Lun ?_ (hok := by (try simp only [go_sem, ff]); all_goals (first | done | ((repeat' (with_reducible apply And.intro)) <;> first | exact Zwl z.sets[k]!.set s.set | (intros; exact Zwl z.sets[k]!.set s.set) | omega | skip)))
  refine Zaa ?_
  refine stp Lun ?_
  refine cd (fun c2 => ?_) (fun c2 => ?_)
  ·
   refine stp Lun ?_
   refine rgn Lun ?_
   show DW _ _ _ _ _
   refine stp Lun ?_
   refine cd (fun c3 => ?_) (fun c3 => ?_)
   ·
    refine rgn Lun ?_
    show DW _ _ _ _ _
    refine rgn Lun ?_
    show ∃ _, _
    exact rnd (k + 1, true, out ++ [s] ++ [z.sets[k]!], (nx + 39), _) (h1 := ⟨iv, iv, iv, (by first | (simp; omega) | (dsimp only; simp; omega)), (by (try dsimp only); rw [hv, Zzj hk2]; simp_all; try grind), trivial⟩)
   ·
    refine dw_skip ?_
    show DW _ _ _ _ _
    refine rgn Lun ?_
    show ∃ _, _
    exact rnd (k + 1, true, out ++ [s], (nx + 25), _) (h1 := ⟨iv, iv, iv, (by first | (simp; omega) | (dsimp only; simp; omega)), (by (try dsimp only); rw [hv, Zzj hk2]; simp_all; try grind), trivial⟩)
  ·
   refine dw_skip ?_
   show DW _ _ _ _ _
   refine stp Lun ?_
   refine cd (fun c3 => ?_) (fun c3 => ?_)
   ·
    refine rgn Lun ?_
    show DW _ _ _ _ _
    refine rgn Lun ?_
    show ∃ _, _
    exact rnd (k + 1, dn, out ++ [z.sets[k]!], (nx + 31), _) (h1 := ⟨iv, iv, iv, (by first | (simp; omega) | (dsimp only; simp; omega)), (by (try dsimp only); rw [hv, Zzj hk2]; simp_all; try grind), trivial⟩)
   ·
    refine dw_skip ?_
    show DW _ _ _ _ _
    refine rgn Lun ?_
    show ∃ _, _
    exact rnd (k + 1, dn, out, r, _) (h1 := ⟨iv, iv, iv, (by first | (simp; omega) | (dsimp only; simp; omega)), (by (try dsimp only); rw [hv, Zzj hk2]; simp_all; try grind), trivial⟩)
 ·
  have hk3 : k = z.sets.length := by have : ¬ k < z.sets.length := (by simpa using c1); omega
  refine Zka ?_
  show DW _ _ _ _ _
  refine Zaa ?_
  refine stp Lun ?_
  refine cd (fun c4 => ?_) (fun c4 => ?_)
  ·
   refine rgn Lun ?_
   show DW _ _ _ _ _
   first | (refine Zcf 6 1 r (rows := out.map Sgd.d) (off := 0) (len := out.length) (by simp only [go_sem, ff]; exact rfl) (by rfl) (by simp only [go_sem, ff]; exact rfl) (by omega) (by simp) Zvv ?_) | (refine Zcf 6 1 (nx + 11) (rows := (out ++ [s]).map Sgd.d) (off := 0) (len := out.length + 1) (by simp only [go_sem, ff]; exact rfl) (by rfl) (by simp only [go_sem, ff]; exact rfl) (by omega) (by simp) Zvv ?_)
   simp only [List.drop_zero, Zdo, Zmk, List.set_cons_succ, List.set_cons_zero]
   refine stp Lun ?_
   refine Zba ?_
   exact fin 2 (hr := by (try simp only [go_sem, ff]); all_goals (first | rfl | (subst hk3; rw [List.drop_length] at hv; simp_all [withF, Zwo]; try rfl)))
  ·
   refine dw_skip ?_
   show DW _ _ _ _ _
   first | (refine Zcf 6 1 r (rows := out.map Sgd.d) (off := 0) (len := out.length) (by simp only [go_sem, ff]; exact rfl) (by rfl) (by simp only [go_sem, ff]; exact rfl) (by omega) (by simp) Zvv ?_) | (refine Zcf 6 1 (nx + 11) (rows := (out ++ [s]).map Sgd.d) (off := 0) (len := out.length + 1) (by simp only [go_sem, ff]; exact rfl) (by rfl) (by simp only [go_sem, ff]; exact rfl) (by omega) (by simp) Zvv ?_)
   simp only [List.drop_zero, Zdo, Zmk, List.set_cons_succ, List.set_cons_zero]
   refine stp Lun ?_
   refine Zba ?_
   exact fin 2 (hr := by (try simp only [go_sem, ff]); all_goals (first | rfl | (subst hk3; rw [List.drop_length] at hv; simp_all [withF, Zwo]; try rfl)))
set_option maxRecDepth 10000
@[go_sem] theorem dats1_one9 {f : Bool} {t : ByteArray} {n m : Int} {k1 k2 : IntKind} : dats1 (.list f [[.v (.string t), .v (.int k1 n), .v (.int k2 m)]]) = [⟨t.data.toList, n, m⟩] := rfl
theorem Zg8 {z : Zon} (h : 0 ≤ startN z) : (startN z).toNat < z.sets.length := at_ltN h
theorem bo19 : Zea Tryz.prog 19 = true := by kernel_rfl
theorem Zf5 (z : Zon) (hl : z.sets.length ≤ 1000000) (h0 : 0 ≤ startN z → 0 < z.sets[(startN z).toNat]!.set.data.length) : PureCt Tryz.prog 19 [.agg z.d] (.agg (settF z).d) := by
 refine Zca Tryz.func19 rfl bo19 (by simp [go_sem, D.nr, nrs, nrr]) (by simp [Tryz.f19]) ?_
 unfold Tryz.f19
 simp only [Zfa]
 have ff := True.intro
 refine stp Lun ?_
 refine stp Lun ?_ (hok := by (try simp only [go_sem, ff]); all_goals (first | done | ((repeat' (with_reducible apply And.intro)) <;> first | exact Zlq z hl | (intros; exact Zlq z hl) | skip)))
 refine Zaa ?_
 refine stp Lun ?_
 refine cd (fun c1 => ?_) (fun c1 => ?_)
 ·
  refine stp Lun ?_
  refine Zba ?_
  exact fin 2 (hr := by (try simp only [go_sem, ff]); all_goals (rw [settF, if_pos (by omega)]))
 ·
  have hs0 : 0 ≤ startN z := by omega
  have hx := Zg8 hs0
  have hdt := h0 hs0
  have ff := And.intro (Zla hx) (And.intro (Zvc hdt) ff)
  refine dw_skip ?_
  show DW _ _ _ _ _
  refine stp Lun ?_
  refine stp Lun ?_
  refine stp Lun ?_ (hok := by (try simp only [go_sem, ff]); all_goals (first | done | ((repeat' (with_reducible apply And.intro)) <;> first | exact Zht z ⟨{ z.sets[(startN z).toNat]!.set with data := [⟨[], 0, z.sets[(startN z).toNat]!.set.data[0]!.m⟩] }, []⟩ hl | (intros; exact Zht z ⟨{ z.sets[(startN z).toNat]!.set with data := [⟨[], 0, z.sets[(startN z).toNat]!.set.data[0]!.m⟩] }, []⟩ hl) | skip)))
  refine Zba ?_
  exact fin 2 (hr := by (try simp only [go_sem, ff]); all_goals (rw [settF, if_neg (by omega)]; rfl))
set_option maxRecDepth 10000
@[go_sem] theorem nameTo_0 {l : List Sgd} {n : Str} : Zhm l n 0 = [] := rfl
set_option maxRecDepth 10000
set_option maxRecDepth 10000
def wrD (n : Int) : List D := [.v (.string (bs [])), .i n, .i 0]
theorem Zb8 {w : List Int} {k : Nat} (h : k < w.length) : (w.take (k + 1)).map wrD = (w.take k).map wrD ++ [[.v (.string (bs [])), .i w[k]!, .i 0]] := by
 rw [Zxc! h, List.map_append]; rfl
theorem Zhq {w : List Int} {k : Nat} (h : k ≤ w.length) : ((w.take k).map wrD).length = k := by simp; omega
@[go_sem] theorem nrr_wr {w : List Int} : nrr (w.map wrD) = true := by
 induction w with
 | nil => rfl
 | cons x l ih => simp only [List.map_cons, nrr, ih]; rfl
@[go_sem] theorem wkr_wr {w : List Int} : wkr (w.map wrD) = w.map wrD := by
 induction w with
 | nil => rfl
 | cons x l ih => simp only [List.map_cons, wkr, ih]; rfl
theorem wr_ad {w : List Int} : (w.map adD).map Dat.d = w.map wrD := by rw [List.map_map]; rfl
theorem bo31 : Zea Tryz.prog 31 = true := by kernel_rfl
theorem Zcc (n : Str) (k : Int) (t : Str) (a : Int) (m : Int) : PureCt Tryz.prog 31 [.v (.string (bs n)), .i k, .v (.string (bs t)), .i a, .i m] (.agg (RSet.d (setU n k t a m))) := by
 refine Zca Tryz.func31 rfl bo31 (by simp [go_sem, D.nr, nrs, nrr]) (by simp [Tryz.f31]) ?_
 unfold Tryz.f31
 simp only [Zfa]
 have ff := True.intro
 refine stp Lun ?_
 refine stp Lun ?_
 refine Zba ?_
 exact fin 2 (hr := by (try simp only [go_sem, ff]); all_goals (rfl))
theorem bo30 : Zea Tryz.prog 30 = true := by kernel_rfl
theorem Zs3 (s : Int) (w : List Int) (hw : w.length ≤ 1000) : PureCt Tryz.prog 30 [.i s, .list false (w.map wnD)] (.agg (exZ s w).d) := by
 refine Zca Tryz.func30 rfl bo30 (by simp [go_sem, D.nr, nrs, nrr]) (by simp [Tryz.f30]) ?_
 unfold Tryz.f30
 simp only [Zfa]
 have ff := True.intro
 refine stp Lun ?_
 refine stp Lun ?_
 refine Zaa ?_
 refine Zs1 2 3 31 63 (by simp only [go_sem, ff]; exact rfl) (by rfl) (by simp only [go_sem, ff]) ?_
 simp only [List.set_cons_succ, List.set_cons_zero]
 refine stp Lun ?_
 refine Zda ?_
 refine lp (α := (Nat) × (Nat) × Nat) [0, 4, 5, 9, 10] (fun ⟨k, r, nx⟩ => (k ≤ w.length) ∧ (r < nx) ∧ (2 < r) ∧ True) (fun ⟨k, r, nx⟩ => w.length - k) (fun ⟨k, r, nx⟩ => [(11, .i k)]) (fun ⟨k, r, nx⟩ => [(0, ⟨24, [[.v (.string (bs [])), .list true []]]⟩), (2, ⟨31, [[.v (.string (bs [119, 46, 120])), .i 1, .i 60, .mrow r 0 k]]⟩), (r, ⟨63, ((w.take (k)).map wrD)⟩)]) (fun ⟨k, r, nx⟩ => nx) (0, 4, _) (hA := ⟨iv, iv, iv, trivial⟩) (round := ?_)
 rintro ⟨k, r, nx⟩ ⟨hk, hr, hr2, -⟩
 show DW _ _ _ _ { n := _, t := tab _, h := _, nx := _, e := _ }
 simp only [List.cons_append, List.nil_append]
 have n0 : 2 < nx := by omega
 have hll := Zhq hk
 have z0_2 : (0 = 2) = False := eq_false (by omega)
 have y2_0 : (2 = 0) = False := eq_false (by omega)
 have z0_r : (0 = r) = False := eq_false (by omega)
 have yr_0 : (r = 0) = False := eq_false (by omega)
 have z2_r : (2 = r) = False := eq_false (by omega)
 have yr_2 : (r = 2) = False := eq_false (by omega)
 have ff := And.intro @hr (And.intro @n0 (And.intro @hll (And.intro @z0_2 (And.intro @y2_0 (And.intro @z0_r (And.intro @yr_0 (And.intro @z2_r (And.intro @yr_2 ff))))))))
 refine stp Lun ?_
 refine Zaa ?_
 refine cd (fun c1 => ?_) (fun c1 => ?_) (hp := rfl) (hq := rfl)
 ·
  have hk2 : k < w.length := by simpa using c1
  have ff := And.intro (Zbz hk2) ff
  refine dw_skip ?_
  show DW _ _ _ _ _
  refine Zaa ?_
  refine Zda ?_
  refine stp Lun ?_
  refine rgn Lun ?_
  show DW _ _ _ _ _
  refine rgn Lun ?_
  show ∃ _, _
  have hst := Zb8 hk2
  have ff := And.intro hst ff
  exact rnd (k + 1, (nx + 9), _) (h1 := ⟨iv, iv, iv, trivial⟩)
 ·
  have hk3 : k = w.length := by have : ¬ k < w.length := (by simpa using c1); omega
  subst hk3
  refine Zka ?_
  show DW _ _ _ _ _
  refine Zcf 2 3 r (rows := ((w.take (w.length)).map wrD)) (off := 0) (len := w.length) (by simp only [go_sem, ff]; exact rfl) (by rfl) (by simp only [go_sem, ff]; exact rfl) (by omega) (by simp only [go_sem, ff]; omega) (by rw [List.take_length]; exact nrr_wr) ?_
  simp only [List.drop_zero, List.set_cons_succ, List.set_cons_zero]
  refine stp Lun ?_ (hok := by (try simp only [go_sem, ff]); all_goals (first | done | ((repeat' (with_reducible apply And.intro)) <;> first | exact Zcc [120] 2 [97, 46, 110, 115] 0 0 | (intros; exact Zcc [120] 2 [97, 46, 110, 115] 0 0) | exact Zcc [120] 4 [] s 60 | (intros; exact Zcc [120] 4 [] s 60) | skip)))
  refine Zba ?_
  exact fin 5 (hr := by (try simp only [go_sem, ff]); all_goals (first | (rw [← wr_ad]; rfl) | (rw [wkr_wr, ← wr_ad]; rfl)))
theorem bo18 : Zea Tryz.prog 18 = true := by kernel_rfl
theorem Zwg (z : Zon) (u : Upd) : PureCt Tryz.prog 18 [.agg z.d, .agg u.d] (.b (Zhi z u)) := by
 refine Zca Tryz.func18 rfl bo18 (by simp [go_sem, D.nr, nrs, nrr]) (by simp [Tryz.f18]) ?_
 unfold Tryz.f18
 simp only [Zfa]
 have ff := True.intro
 refine stp Lun ?_
 refine stp Lun ?_ (hok := by (try simp only [go_sem, ff]); all_goals (first | done | ((repeat' (with_reducible apply And.intro)) <;> first | exact Zvx z | (intros; exact Zvx z) | exact (fun _ => Ztq z) | (intros; exact (fun _ => Ztq z)) | exact (fun h => Zmq z (by have := Zq0 (z := z) (by simp_all); omega)) | (intros; exact (fun h => Zmq z (by have := Zq0 (z := z) (by simp_all); omega))) | exact (fun _ => Zqx u) | (intros; exact (fun _ => Zqx u)) | skip)))
 refine Zba ?_
 exact fin 0 (hr := by (try simp only [go_sem, ff]); all_goals (congr 2; rw [Bool.eq_iff_iff]; simp only [Zhi, Bool.and_eq_true, decide_eq_true_eq]; constructor <;> (rintro ⟨⟨⟨⟨⟨h1, h2⟩, h3⟩, h4⟩, h5⟩, h6⟩; exact ⟨⟨⟨⟨⟨h1, h2⟩, h3⟩, h4⟩, by omega⟩, by omega⟩)))
set_option maxRecDepth 10000
set_option maxRecDepth 10000
theorem uex_rct (s : Int) (w : List Int) (hw : w.length ≤ 1000) (h : H) (n : Nat) : RCt Tryz.prog 30 [.i s, .list false (w.map wnD)] h n (fun d h' n' => ∃ rs, d = .agg [.v (.string (bs [120])), .mrow rs 0 3] ∧ h' rs = some ⟨52, [[.v (.string (bs [120])), .i 2, .i 60, .list false [[.v (.string (bs [97, 46, 110, 115])), .i 0, .i 0]], .list true []], [.v (.string (bs [120])), .i 4, .i 60, .list false [[.v (.string (bs [])), .i s, .i 60]], .list true []], [.v (.string (bs [119, 46, 120])), .i 1, .i 60, .list false (w.map wrD), .list true []]]⟩ ∧ n ≤ rs ∧ rs < n' ∧ ∀ q, q < n → h' q = h q) := by
 refine Zlb Tryz.func30 rfl bo30 (by simp [Tryz.f30]) (fun hnone => ?_)
 unfold Tryz.f30
 have ff := True.intro
 refine stp Lun ?_
 refine stp Lun ?_
 refine Zaa ?_
 refine Zs1 (n + 2) 3 31 63 (by simp only [go_sem, ff]; exact rfl) (by rfl) (by simp only [go_sem, ff]) ?_
 simp only [List.set_cons_succ, List.set_cons_zero]
 refine stp Lun ?_
 refine Zda ?_
 refine lph (α := (Nat) × (Nat) × Nat) [0, 4, 5, 9, 10] (fun ⟨k, r, nx⟩ => (k ≤ w.length) ∧ (r < nx) ∧ (n + 2 < r) ∧ True) (fun ⟨k, r, nx⟩ => w.length - k) (fun ⟨k, r, nx⟩ => [(11, .i k)]) (fun ⟨k, r, nx⟩ => upd (upd (upd h n (some ⟨24, [[.v (.string (bs [])), .list true []]]⟩)) (n + 2) (some ⟨31, [[.v (.string (bs [119, 46, 120])), .i 1, .i 60, .mrow (r) 0 (k)]]⟩)) (r) (some ⟨63, ((w.take (k)).map wrD)⟩)) (fun ⟨k, r, nx⟩ => nx) (0, (n + 4), _) (hA := ⟨iv, iv, iv, trivial⟩) (round := ?_) (hhh := by intro q; left; dsimp only; simp only [upd]; (repeat' split) <;> first | rfl | omega | (simp_all; done) | (exfalso; omega))
 rintro ⟨k, r, nx⟩ ⟨hk, hr, hr2, -⟩
 show DW _ _ _ _ { n := _, t := tab _, h := _, nx := _, e := _ }
 simp only [List.cons_append, List.nil_append]
 have n0 : n + 2 < nx := by omega
 have hll := Zhq hk
 have zr_n : (r = n) = False := eq_false (by omega)
 have yn_r : (n = r) = False := eq_false (by omega)
 have zr_n2 : (r = n + 2) = False := eq_false (by omega)
 have yn2_r : (n + 2 = r) = False := eq_false (by omega)
 have ff := And.intro @hr (And.intro @n0 (And.intro @hll (And.intro @zr_n (And.intro @yn_r (And.intro @zr_n2 (And.intro @yn2_r ff))))))
 refine stp Lun ?_
 refine Zaa ?_
 refine cd (fun c1 => ?_) (fun c1 => ?_) (hp := rfl) (hq := rfl)
 ·
  have hk2 : k < w.length := by simpa using c1
  have ff := And.intro (Zbz hk2) ff
  refine dw_skip ?_
  show DW _ _ _ _ _
  refine Zaa ?_
  refine Zda ?_
  refine stp Lun ?_
  refine rgn Lun ?_
  show DW _ _ _ _ _
  refine rgn Lun ?_
  show ∃ _, _
  have hst := Zb8 hk2
  have ff := And.intro hst ff
  refine rnd (k + 1, (nx + 9), _) (h1 := ⟨iv, iv, iv, trivial⟩) (h5 := ?_)
  intro q
  by_cases e4 : q = r
  ·
   right; subst e4; simp only [upd]; repeat rw [if_neg (by omega)]
   exact hnone _ (by omega)
  ·
   left; simp only [upd]; try simp only [go_sem, ff]
   (repeat' split) <;> first | rfl | omega | (simp_all; done) | (exfalso; omega)
 ·
  have hk3 : k = w.length := by have : ¬ k < w.length := (by simpa using c1); omega
  subst hk3
  refine Zka ?_
  show DW _ _ _ _ _
  refine Zcf (n + 2) 3 r (rows := ((w.take (w.length)).map wrD)) (off := 0) (len := w.length) (by simp only [go_sem, ff]; exact rfl) (by rfl) (by simp only [go_sem, ff]; exact rfl) (by omega) (by simp only [go_sem, ff]; omega) (by rw [List.take_length]; exact nrr_wr) ?_
  simp only [List.drop_zero, List.set_cons_succ, List.set_cons_zero]
  have znx8_n : (nx + 8 = n) = False := eq_false (by omega)
  have yn_nx8 : (n = nx + 8) = False := eq_false (by omega)
  have ff := And.intro @znx8_n (And.intro @yn_nx8 ff)
  refine stp LunB ?_ (hok := by (try simp only [go_sem, ff]); all_goals (first | done | ((repeat' (with_reducible apply And.intro)) <;> first | exact Zcc [120] 2 [97, 46, 110, 115] 0 0 | (intros; exact Zcc [120] 2 [97, 46, 110, 115] 0 0) | exact Zcc [120] 4 [] s 60 | (intros; exact Zcc [120] 4 [] s 60) | omega | skip)))
  refine Zba ?_
  refine Zqk (_) (hh := fun _ => .inl rfl) (hr := ?_)
  try simp only [go_sem, ff]
  refine ⟨nx + 8, rfl, ?_, by omega, by first | omega | (dsimp only; omega), fun q hq => ?_⟩
  ·
   simp only [upd]; repeat (first | rfl | rw [if_neg (by omega)] | rw [if_pos rfl])
  ·
   simp only [upd]; repeat (first | rfl | rw [if_neg (by omega)])
set_option maxRecDepth 10000
attribute [go_sem] setU
@[go_sem] theorem chgs1_one9 {f g : Bool} {k t l : Int} {k1 k2 k3 : IntKind} {s : ByteArray} {rows : List (List D)} : Yyb (.list f [[.v (.int k1 k), .v (.string s), .v (.int k2 t), .v (.int k3 l), .list g rows]]) = [⟨k, ⟨s.data.toList, t, l, dats1 (.list g rows)⟩⟩] := rfl
@[go_sem] theorem dats1_nil9 {f : Bool} : dats1 (.list f []) = [] := rfl
theorem hu1 : updR (exZ 65535 [7]) ⟨[(⟨3, ⟨[119, 46, 120], 1, 0, []⟩⟩ : Chg)], [⟨1, (⟨[119, 46, 120], 1, 5, [⟨[], 3, 0⟩]⟩ : RSet)⟩]⟩ = ((⟨[120], [⟨⟨[120], 2, 60, [⟨[97, 46, 110, 115], 0, 0⟩]⟩, []⟩, ⟨⟨[120], 4, 60, [⟨[], 0, 60⟩]⟩, []⟩, ⟨⟨[119, 46, 120], 1, 5, [⟨[], 3, 0⟩, ⟨[], 7, 0⟩]⟩, []⟩]⟩ : Zon), 0) := by kernel_rfl
theorem hu2 : updR (exZ 65535 [7]) ⟨[], [⟨2, ⟨[120], 2, 60, [⟨[97, 46, 110, 115], 0, 0⟩]⟩⟩]⟩ = (zon0, 6) := by kernel_rfl
theorem hu3 : updR (exZ 65535 [7]) ⟨[(⟨4, ⟨[119, 46, 120], 1, 0, []⟩⟩ : Chg)], []⟩ = (zon0, 24) := by kernel_rfl
theorem hu4 : updR (exZ 65535 [7]) ⟨[], []⟩ = ((exZ 65535 [7]), 0) := by kernel_rfl
theorem hh1 : holdsF (exZ 65535 [7]) ⟨5, (⟨[119, 46, 120], 1, 5, [⟨[], 3, 0⟩]⟩ : RSet)⟩ = (false, 0) := by kernel_rfl
theorem hh2 : holdsF (exZ 65535 [7]) ⟨5, ⟨[119, 46, 120], 1, 60, [⟨[], 7, 0⟩]⟩⟩ = (true, 0) := by kernel_rfl
theorem hh3 : holdsF (exZ 65535 [7]) ⟨1, ⟨[121], 0, 0, []⟩⟩ = (false, 20) := by kernel_rfl
theorem hs8 : sameZ (⟨[120], [⟨⟨[120], 2, 60, [⟨[97, 46, 110, 115], 0, 0⟩]⟩, []⟩, ⟨⟨[120], 4, 60, [⟨[], 0, 60⟩]⟩, []⟩, ⟨⟨[119, 46, 120], 1, 5, [⟨[], 3, 0⟩, ⟨[], 7, 0⟩]⟩, []⟩]⟩ : Zon) (⟨[120], [⟨⟨[120], 2, 60, [⟨[97, 46, 110, 115], 0, 0⟩]⟩, []⟩, ⟨⟨[120], 4, 60, [⟨[], 0, 60⟩]⟩, []⟩, ⟨⟨[119, 46, 120], 1, 5, [⟨[], 3, 0⟩, ⟨[], 7, 0⟩]⟩, []⟩]⟩ : Zon) = true := by exact decide_eq_true rfl
theorem hs9 : sameZ (exZ 65535 [7]) (exZ 65535 [7]) = true := by exact decide_eq_true rfl
theorem hfy : fitL (Zon.sets (⟨[120], [⟨⟨[120], 2, 60, [⟨[97, 46, 110, 115], 0, 0⟩]⟩, []⟩, ⟨⟨[120], 4, 60, [⟨[], 0, 60⟩]⟩, []⟩, ⟨⟨[119, 46, 120], 1, 5, [⟨[], 3, 0⟩, ⟨[], 7, 0⟩]⟩, []⟩]⟩ : Zon)) := ⟨by decide, by intro k hk; have : k = 0 ∨ k = 1 ∨ k = 2 := (by have : (Zon.sets (⟨[120], [⟨⟨[120], 2, 60, [⟨[97, 46, 110, 115], 0, 0⟩]⟩, []⟩, ⟨⟨[120], 4, 60, [⟨[], 0, 60⟩]⟩, []⟩, ⟨⟨[119, 46, 120], 1, 5, [⟨[], 3, 0⟩, ⟨[], 7, 0⟩]⟩, []⟩]⟩ : Zon)).length = 3 := rfl; omega); rcases this with e | e | e <;> subst e <;> exact ⟨by decide, by decide⟩⟩
theorem hfz : fitL (Zon.sets (exZ 65535 [7])) := ⟨by decide, by intro k hk; have : k = 0 ∨ k = 1 ∨ k = 2 := (by have : (Zon.sets (exZ 65535 [7])).length = 3 := rfl; omega); rcases this with e | e | e <;> subst e <;> exact ⟨by decide, by decide⟩⟩
theorem Zac {z x : Zon} {u : Upd} {e : Int} (h : updR z u = (x, e)) : PureCt Tryz.prog 13 [.agg z.d, .agg u.d] (.tuple [.agg x.d, .i e]) := by
 have := Zb0 z u
 rwa [h] at this
theorem Zoh {z : Zon} {n : Chg} {x : Bool} {e : Int} (h : holdsF z n = (x, e)) : PureCt Tryz.prog 15 [.agg z.d, .agg n.d] (.tuple [.b x, .i e]) := by
 have := Zyz z n
 rwa [h] at this
theorem Zkb {x : Zon} (h : fitL x.sets) : PureCt Tryz.prog 17 [.agg x.d, .agg x.d] (.b true) := by
 have := Zr8 x x h
 rwa [show sameZ x x = true from decide_eq_true rfl] at this
theorem bo10 : Zea Tryz.prog 10 = true := by kernel_rfl
theorem Yra  : PureCt Tryz.prog 10 [] (.b true) := by
 refine Zca Tryz.func10 rfl bo10 (by simp [go_sem, D.nr, nrs, nrr]) (by simp [Tryz.f10]) ?_
 unfold Tryz.f10
 simp only [Zfa]
 have ff := True.intro
 have ff := And.intro @hu1 (And.intro @hu2 (And.intro @hu3 (And.intro @hu4 (And.intro @hh1 (And.intro @hh2 (And.intro @hh3 (And.intro @hs8 (And.intro @hs9 ff))))))))
 refine stp Lun ?_
 refine stp Lun ?_ (hok := by (try simp only [go_sem, ff]); all_goals (first | done | ((repeat' (with_reducible apply And.intro)) <;> first | exact Zs3 65535 [7] (by decide) | (intros; exact Zs3 65535 [7] (by decide)) | rfl | omega | skip)))
 refine stp Lun ?_ (hok := by (try simp only [go_sem, ff]); all_goals (first | done | ((repeat' (with_reducible apply And.intro)) <;> first | exact Zcc [119, 46, 120] 1 [] 3 0 | (intros; exact Zcc [119, 46, 120] 1 [] 3 0) | rfl | omega | skip)))
 refine stp Lun ?_
 refine stp Lun ?_
 refine stp Lun ?_ (hok := by (try simp only [go_sem, ff]); all_goals (first | done | ((repeat' (with_reducible apply And.intro)) <;> first | exact Zac hu1 | (intros; exact Zac hu1) | rfl | omega | skip)))
 refine Zaa (Zg2 Lun 1 (hct := by exact uex_rct 0 [3, 7] (by decide) _ _) (hk := ?_))
 rintro res h2 n2 ⟨rs, rfl, x1, x2, x3, x4⟩
 try dsimp only at x2 x3 x4
 have y3 : h2 3 = _ := (x4 3 (by omega)).trans (by simp only [go_sem, ff]; exact rfl)
 have y6 : h2 6 = _ := (x4 6 (by omega)).trans (by simp only [go_sem, ff]; exact rfl)
 have y12 : h2 12 = _ := (x4 12 (by omega)).trans (by simp only [go_sem, ff]; exact rfl)
 have y25 : h2 25 = _ := (x4 25 (by omega)).trans (by simp only [go_sem, ff]; exact rfl)
 have zrs_3 : (rs = 3) = False := eq_false (by omega)
 have y3_rs : (3 = rs) = False := eq_false (by omega)
 have zrs_6 : (rs = 6) = False := eq_false (by omega)
 have y6_rs : (6 = rs) = False := eq_false (by omega)
 have zrs_12 : (rs = 12) = False := eq_false (by omega)
 have y12_rs : (12 = rs) = False := eq_false (by omega)
 have zrs_25 : (rs = 25) = False := eq_false (by omega)
 have y25_rs : (25 = rs) = False := eq_false (by omega)
 have zrs_n22 : (rs = n2 + 2) = False := eq_false (by omega)
 have yn22_rs : (n2 + 2 = rs) = False := eq_false (by omega)
 have zn22_3 : (n2 + 2 = 3) = False := eq_false (by omega)
 have y3_n22 : (3 = n2 + 2) = False := eq_false (by omega)
 have zn22_6 : (n2 + 2 = 6) = False := eq_false (by omega)
 have y6_n22 : (6 = n2 + 2) = False := eq_false (by omega)
 have zn22_12 : (n2 + 2 = 12) = False := eq_false (by omega)
 have y12_n22 : (12 = n2 + 2) = False := eq_false (by omega)
 have zn22_25 : (n2 + 2 = 25) = False := eq_false (by omega)
 have y25_n22 : (25 = n2 + 2) = False := eq_false (by omega)
 have zn219_3 : (n2 + 19 = 3) = False := eq_false (by omega)
 have y3_n219 : (3 = n2 + 19) = False := eq_false (by omega)
 have zn219_6 : (n2 + 19 = 6) = False := eq_false (by omega)
 have y6_n219 : (6 = n2 + 19) = False := eq_false (by omega)
 have zn219_12 : (n2 + 19 = 12) = False := eq_false (by omega)
 have y12_n219 : (12 = n2 + 19) = False := eq_false (by omega)
 have zn219_25 : (n2 + 19 = 25) = False := eq_false (by omega)
 have y25_n219 : (25 = n2 + 19) = False := eq_false (by omega)
 have zn219_rs : (n2 + 19 = rs) = False := eq_false (by omega)
 have yrs_n219 : (rs = n2 + 19) = False := eq_false (by omega)
 have zn232_3 : (n2 + 32 = 3) = False := eq_false (by omega)
 have y3_n232 : (3 = n2 + 32) = False := eq_false (by omega)
 have zn232_6 : (n2 + 32 = 6) = False := eq_false (by omega)
 have y6_n232 : (6 = n2 + 32) = False := eq_false (by omega)
 have zn232_12 : (n2 + 32 = 12) = False := eq_false (by omega)
 have y12_n232 : (12 = n2 + 32) = False := eq_false (by omega)
 have zn232_25 : (n2 + 32 = 25) = False := eq_false (by omega)
 have y25_n232 : (25 = n2 + 32) = False := eq_false (by omega)
 have zn232_rs : (n2 + 32 = rs) = False := eq_false (by omega)
 have yrs_n232 : (rs = n2 + 32) = False := eq_false (by omega)
 have zn241_3 : (n2 + 41 = 3) = False := eq_false (by omega)
 have y3_n241 : (3 = n2 + 41) = False := eq_false (by omega)
 have zn241_6 : (n2 + 41 = 6) = False := eq_false (by omega)
 have y6_n241 : (6 = n2 + 41) = False := eq_false (by omega)
 have zn241_12 : (n2 + 41 = 12) = False := eq_false (by omega)
 have y12_n241 : (12 = n2 + 41) = False := eq_false (by omega)
 have zn241_25 : (n2 + 41 = 25) = False := eq_false (by omega)
 have y25_n241 : (25 = n2 + 41) = False := eq_false (by omega)
 have zn241_rs : (n2 + 41 = rs) = False := eq_false (by omega)
 have yrs_n241 : (rs = n2 + 41) = False := eq_false (by omega)
 have ff := And.intro @x1 (And.intro @y3 (And.intro @y6 (And.intro @y12 (And.intro @y25 (And.intro @zrs_3 (And.intro @y3_rs (And.intro @zrs_6 (And.intro @y6_rs (And.intro @zrs_12 (And.intro @y12_rs (And.intro @zrs_25 (And.intro @y25_rs (And.intro @zrs_n22 (And.intro @yn22_rs (And.intro @zn22_3 (And.intro @y3_n22 (And.intro @zn22_6 (And.intro @y6_n22 (And.intro @zn22_12 (And.intro @y12_n22 (And.intro @zn22_25 (And.intro @y25_n22 (And.intro @zn219_3 (And.intro @y3_n219 (And.intro @zn219_6 (And.intro @y6_n219 (And.intro @zn219_12 (And.intro @y12_n219 (And.intro @zn219_25 (And.intro @y25_n219 (And.intro @zn219_rs (And.intro @yrs_n219 (And.intro @zn232_3 (And.intro @y3_n232 (And.intro @zn232_6 (And.intro @y6_n232 (And.intro @zn232_12 (And.intro @y12_n232 (And.intro @zn232_25 (And.intro @y25_n232 (And.intro @zn232_rs (And.intro @yrs_n232 (And.intro @zn241_3 (And.intro @y3_n241 (And.intro @zn241_6 (And.intro @y6_n241 (And.intro @zn241_12 (And.intro @y12_n241 (And.intro @zn241_25 (And.intro @y25_n241 (And.intro @zn241_rs (And.intro @yrs_n241 ff))))))))))))))))))))))))))))))))))))))))))))))))))))
 refine Zf2 Lun ?_
 show DW _ _ _ _ _
 refine stp Lun ?_
 refine Zcf (n2 + 2) 1 rs (off := 0) (len := 3) (by simp only [go_sem, ff]; exact rfl) (by rfl) (by simp only [go_sem, ff]; exact rfl) (by omega) (by decide) (by rfl) ?_
 simp only [List.drop_zero, List.set_cons_succ, List.set_cons_zero, List.take_succ_cons, List.take_zero]
 refine stp LunF ?_ (hok := by (try simp only [go_sem, ff]); all_goals (first | done | ((repeat' (with_reducible apply And.intro)) <;> first | exact Zcc [120] 2 [97, 46, 110, 115] 0 0 | (intros; exact Zcc [120] 2 [97, 46, 110, 115] 0 0) | exact Zac hu2 | (intros; exact Zac hu2) | rfl | omega | skip)))
 refine stp Lun ?_
 refine stp Lun ?_ (hok := by (try simp only [go_sem, ff]); all_goals (first | done | ((repeat' (with_reducible apply And.intro)) <;> first | exact Zac hu3 | (intros; exact Zac hu3) | rfl | omega | skip)))
 refine stp Lun ?_ (hok := by (try simp only [go_sem, ff]); all_goals (first | done | ((repeat' (with_reducible apply And.intro)) <;> first | exact Zac hu4 | (intros; exact Zac hu4) | rfl | omega | skip)))
 refine stp Lun ?_ (hok := by (try simp only [go_sem, ff]); all_goals (first | done | ((repeat' (with_reducible apply And.intro)) <;> first | exact Zoh hh1 | (intros; exact Zoh hh1) | rfl | omega | skip)))
 refine stp LunF ?_ (hok := by (try simp only [go_sem, ff]); all_goals (first | done | ((repeat' (with_reducible apply And.intro)) <;> first | exact Zcc [119, 46, 120] 1 [] 7 0 | (intros; exact Zcc [119, 46, 120] 1 [] 7 0) | exact Zoh hh2 | (intros; exact Zoh hh2) | rfl | omega | skip)))
 refine stp Lun ?_ (hok := by (try simp only [go_sem, ff]); all_goals (first | done | ((repeat' (with_reducible apply And.intro)) <;> first | exact Zoh hh3 | (intros; exact Zoh hh3) | rfl | omega | skip)))
 refine stp Lun ?_
 refine stp Lun ?_ (hok := by (try simp only [go_sem, ff]); all_goals (first | done | ((repeat' (with_reducible apply And.intro)) <;> first | exact (fun _ => Zkb hfy) | (intros; exact (fun _ => Zkb hfy)) | exact Zkb hfy | (intros; exact Zkb hfy) | exact (fun _ => Zkb hfz) | (intros; exact (fun _ => Zkb hfz)) | rfl | omega | skip)))
 refine Zba ?_
 exact fin 0 (hr := by (try simp only [go_sem, ff]); all_goals (first | rfl | kernel_rfl))
set_option maxRecDepth 10000
def hAll (z : Zon) (l : List Chg) : Nat → Bool
 | 0 => true
 | k + 1 => hAll z l k && holdB z l[k]!
@[go_sem] theorem hAll_0 {z : Zon} {l : List Chg} : hAll z l 0 = true := rfl
set_option maxRecDepth 10000
theorem ref_zone {z : Zon} (h : zoneOk z = true) : refOk z = true := by rw [← Zee]; exact h
theorem Zmp {z : Zon} (h : zoneOk z = true) : fitL (settF z).sets := by
 rw [Zlv h]
 have hz := zone_fit h
 have hl : (Zwc z 0).sets.length ≤ z.sets.length + 1 := putL_len _
 refine ⟨by have := (Zsg h).len; omega, fun k hk => ?_⟩
 have hm : (Zwc z 0).sets[k]! ∈ Zyo z.sets (stN z 0) := Zjb hk
 rcases putL_mem.1 hm with e | e
 ·
  rw [e]; exact ⟨by show (1 : Nat) ≤ _; omega, by show (0 : Nat) ≤ _; omega⟩
 ·
  obtain ⟨i, hi, e2⟩ := mem_ix.1 e.1
  rw [← e2]
  exact hz.2 i hi
theorem Zvd {z : Zon} (h : zoneOk z = true) : PureCt Tryz.prog 19 [.agg z.d] (.agg (settF z).d) := by
 have hr := ref_zone h
 exact Zf5 z (by have := (Zsg h).len; omega) (fun _ => Zk3 hr)
set_option maxRecDepth 10000
set_option maxRecDepth 10000
theorem upd_no24 {z x : Zon} {l : List Chg} {g : Int} (h : updR z ⟨[], l⟩ = (x, g)) : g ≠ 24 := by
 intro e
 subst e
 obtain ⟨_, _, _, _, h5⟩ := upd_need h
 have : Zvg z [] = true := by unfold Zvg; rw [Zoa]; intro i _ hi; simp at hi
 rw [show ((⟨[], l⟩ : Upd).needs) = [] from rfl, this] at h5
 cases h5
theorem two_us {z : Zon} {u v : Upd} (h : (!Zhi z u || !Zhi z v) = false) : -9223372036854775808 ≤ (u.chgs.length : Int) + v.chgs.length ∧ (u.chgs.length : Int) + v.chgs.length ≤ 9223372036854775807 := by
 rw [Bool.or_eq_false_iff, Bool.not_eq_false', Bool.not_eq_false'] at h
 obtain ⟨_, _, _, _, h9⟩ := Zen h.1
 obtain ⟨_, _, _, _, h8⟩ := Zen h.2
 omega
theorem bo5 : Zea Tryz.prog 5 = true := by kernel_rfl
set_option maxRecDepth 4000 in
theorem lawUP_ct (z : Zon) (u : Upd) (v : Upd) : PureCt Tryz.prog 5 [.agg z.d, .agg u.d, .agg v.d] (.b true) := by
 refine Zca Tryz.func5 rfl bo5 (by simp [go_sem, D.nr, nrs, nrr]) (by simp [Tryz.f5]) ?_
 unfold Tryz.f5
 simp only [Zfa]
 have ff := True.intro
 refine stp Lun ?_
 refine stp Lun ?_ (hok := by (try simp only [go_sem, ff]); all_goals (exact Yra))
 refine Zaa ?_
 refine stp Lun ?_ (hok := by (try simp only [go_sem, ff]); all_goals (first | done | ((repeat' (with_reducible apply And.intro)) <;> first | exact Zwg z u | (intros; exact Zwg z u) | exact (fun _ => Zwg z v) | (intros; exact (fun _ => Zwg z v)) | exact two_us ‹_› | (intros; exact two_us ‹_›) | exact ez9 | skip)))
 refine cd (fun c1 => ?_) (fun c1 => ?_)
 ·
  refine stp Lun ?_
  refine Zba ?_
  exact fin 0 (hr := by (try simp only [go_sem, ff]); all_goals (rfl))
 ·
  have hus : Zhi z u = true := by grind
  obtain ⟨u1, u2, u3, u4, u5⟩ := Zen hus
  have hlc : (u.chgs.length : Int) + v.chgs.length ≤ 20 := by first | omega | grind
  refine dw_skip ?_
  show DW _ _ _ _ _
  rcases hx : updR z ⟨[], u.chgs⟩ with ⟨a, e⟩
  have ff := And.intro @hx ff
  refine stp Lun ?_ (hok := by (try simp only [go_sem, ff]); all_goals (first | done | ((repeat' (with_reducible apply And.intro)) <;> first | exact Zac hx | (intros; exact Zac hx) | exact ez9 | skip)))
  rcases hy : updR a ⟨[], v.chgs⟩ with ⟨b, f⟩
  have ff := And.intro @hy ff
  refine stp Lun ?_ (hok := by (try simp only [go_sem, ff]); all_goals (first | done | ((repeat' (with_reducible apply And.intro)) <;> first | exact Zac hy | (intros; exact Zac hy) | exact ez9 | skip)))
  rcases hw : updR z ⟨[], u.chgs ++ v.chgs⟩ with ⟨c, g⟩
  have hap : u.chgs.map Chg.d ++ v.chgs.map Chg.d = (u.chgs ++ v.chgs).map Chg.d := List.map_append.symm
  have hln : u.chgs.length + v.chgs.length = (u.chgs ++ v.chgs).length := List.length_append.symm
  have hl9 : (u.chgs ++ v.chgs).length ≤ 20 := by rw [List.length_append]; omega
  have ff := And.intro @hw (And.intro @hap (And.intro @hln ff))
  refine Zaa (rgnF LunF 7 60 [⟨0, 4⟩, ⟨0, 7⟩, ⟨4, 6⟩, ⟨4, 13⟩, ⟨7, 13⟩] ?_ (hok := by (try simp only [go_sem, ff]); all_goals (first | done | ((repeat' (with_reducible apply And.intro)) <;> first | exact Zac hw | (intros; exact Zac hw) | exact ez9 | skip))))
  refine Zaa ?_
  by_cases hall : e = 0 ∧ f = 0 ∧ g = 0
  ·
   obtain ⟨e1, e2, e3⟩ := hall
   subst e1
   subst e2
   subst e3
   have hse := Zn7 hx hy hw
   obtain ⟨y1, m1⟩ := Zdq hy
   obtain ⟨y2, m2⟩ := Zdq hw
   have hbo := m1.plain.1.ok
   have hco := m2.plain.1.ok
   have hse2 := hse.symm
   have hss : sameZ (settF b) (settF b) = true := decide_eq_true rfl
   have ff := And.intro @hse2 (And.intro @hss ff)
   refine stp Lun ?_
   refine cd (fun c2 => ?_) (fun c2 => ?_) (hp := rfl) (hq := rfl)
   ·
    exfalso; simp at c2; done
   ·
    refine dw_skip ?_
    show DW _ _ _ _ _
    refine stp Lun ?_ (hok := by (try simp only [go_sem, ff]); all_goals (first | done | ((repeat' (with_reducible apply And.intro)) <;> first | exact (fun _ => Zvd hbo) | (intros; exact (fun _ => Zvd hbo)) | exact Zvd hbo | (intros; exact Zvd hbo) | exact (fun _ => Zvd hco) | (intros; exact (fun _ => Zvd hco)) | exact Zvd hco | (intros; exact Zvd hco) | exact (fun _ => (by have h9 := Zvd hco; rw [← hse] at h9; exact h9)) | (intros; exact (fun _ => (by have h9 := Zvd hco; rw [← hse] at h9; exact h9))) | exact (by have h9 := Zvd hco; rw [← hse] at h9; exact h9) | (intros; exact (by have h9 := Zvd hco; rw [← hse] at h9; exact h9)) | exact Zkb (Zmp hbo) | (intros; exact Zkb (Zmp hbo)) | exact (fun _ => Zkb (Zmp hbo)) | (intros; exact (fun _ => Zkb (Zmp hbo))) | exact ez9 | skip)))
    refine Zba ?_
    exact fin 0 (hr := by (try simp only [go_sem, ff]); all_goals (first | rfl | (simp; done)))
  ·
   have hgb : (g != 24) = true := bne_iff_ne.2 (upd_no24 hw)
   have ff := And.intro @hgb ff
   refine stp Lun ?_
   refine cd (fun c2 => ?_) (fun c2 => ?_) (hq := rfl)
   ·
    refine stp Lun ?_
    refine Zba ?_
    exact fin 0 (hr := by (try simp only [go_sem, ff]); all_goals (first | rfl | (simp; done)))
   ·
    exfalso; apply hall; simp at c2; grind
end Go.Proofs.YtmkblfajmnhccaaGreatDoor
