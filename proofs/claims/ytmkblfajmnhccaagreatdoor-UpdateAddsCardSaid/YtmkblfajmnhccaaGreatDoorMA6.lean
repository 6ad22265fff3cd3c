/-
  MANY TEXTS OF MINE IN ONE (a claim has a limit of files): UpW16, UrW1, UrW2, UrW3, UrW4, UrW5, UrW6, UrW7, UrW8, UrW9, UlW1, UlW2, UlW3, UlW4, UlW5, UlW6, UlW7, UlW8. Conditions: none.
-/
import Derived.Test.YtmkblfajmnhccaaGreatDoorMA5
set_option linter.unusedVariables false
set_option linter.unusedSimpArgs false
set_option linter.unusedSectionVars false
namespace Go.Proofs.YtmkblfajmnhccaaGreatDoor
open Go.DL Go.Str Go.Rec Go.Cmp Go.Zon
set_option maxRecDepth 10000
theorem Zv4 {z : Zon} {l : List Chg} (hz : PlainZ z) (hcs : ∀ c ∈ l, chgOk c = true) (hll : l.length ≤ 1000) (hn : Zxo z l = none) (h : H) (n : Nat) : RCt Tryz.prog 36 [.agg z.d, .list false (l.map Chg.d)] h n (fun d h' n' => d = .tuple [.agg [.v (.string (bs [])), .list true []], .i 6] ∧ ∀ q b, q < n → h q = some b → b.ty ≠ 52 → b.ty ≠ 63 → h' q = some b) :=
 (Zus z l h n hz hcs hll).mono fun d h' n' ⟨h1, h2⟩ => by
  rcases h1 with ⟨_, e⟩ | ⟨y, zc, rs, p, hs, _⟩
  ·
   exact ⟨e, h2⟩
  ·
   rw [hn] at hs; cases hs
theorem Zvz {z y : Zon} {l : List Chg} (hz : PlainZ z) (hcs : ∀ c ∈ l, chgOk c = true) (hll : l.length ≤ 1000) (hy : Zxo z l = some y) (h : H) (n : Nat) : RCt Tryz.prog 36 [.agg z.d, .list false (l.map Chg.d)] h n (fun d h' n' => ∃ zc rs p, d = .tuple [.agg [.v (.string (bs z.apex)), .mrow rs 0 p.length], .i 0] ∧ ZM 24 52 63 zc rs z.apex p h' ∧ lP p = y.sets ∧ zc < n' ∧ rs < n' ∧ (∀ x ∈ p, x.1 < n') ∧ ∀ q b, q < n → h q = some b → b.ty ≠ 52 → b.ty ≠ 63 → h' q = some b) :=
 (Zus z l h n hz hcs hll).mono fun d h' n' ⟨h1, h2⟩ => by
  rcases h1 with ⟨hs, _⟩ | ⟨y', zc, rs, p, hs, e, k1, k2, k3, k4, k5⟩
  ·
   rw [hy] at hs; cases hs
  ·
   rw [hy] at hs
   cases hs
   exact ⟨zc, rs, p, e, k1, k2, k3, k4, k5, h2⟩
theorem Zo7 {n a : Str} (hn : nameOk n = true) (ha : nameOk a = true) : underV n a = inB n a := Zt4 hn ha
theorem upz_1 {z : Zon} {u : Upd} (h : zoneOk z = false ∨ updOk u = false) : updR z u = (zon0, 1) := by unfold updR; rw [if_pos h]
theorem upz_2 {z : Zon} {u : Upd} (h1 : zoneOk z = true) (h2 : updOk u = true) (h : plainB z = false) : updR z u = (zon0, 12) := by
 unfold updR; rw [if_neg (by rw [h1, h2]; simp), if_pos h]
theorem upz_3 {z : Zon} {u : Upd} (h1 : zoneOk z = true) (h2 : updOk u = true) (h3 : plainB z = true) (h : Zjf z u.needs = true ∨ Zjf z u.chgs = true) : updR z u = (zon0, 20) := by
 unfold updR; rw [if_neg (by rw [h1, h2]; simp), if_neg (by rw [h3]; simp), if_pos h]
theorem upz_4 {z : Zon} {u : Upd} (h1 : zoneOk z = true) (h2 : updOk u = true) (h3 : plainB z = true) (h4 : ¬ (Zjf z u.needs = true ∨ Zjf z u.chgs = true)) (h : Zhj z u.needs = false) : updR z u = (zon0, 24) := by
 unfold updR; rw [if_neg (by rw [h1, h2]; simp), if_neg (by rw [h3]; simp), if_neg h4, if_pos h]
theorem upz_5 {z : Zon} {u : Upd} (h1 : zoneOk z = true) (h2 : updOk u = true) (h3 : plainB z = true) (h4 : ¬ (Zjf z u.needs = true ∨ Zjf z u.chgs = true)) (h5 : Zhj z u.needs = true) (h : Zxo z u.chgs = none) : updR z u = (zon0, 6) := by
 unfold updR; rw [if_neg (by rw [h1, h2]; simp), if_neg (by rw [h3]; simp), if_neg h4, if_neg (by rw [h5]; simp), h]
theorem upz_6 {z y : Zon} {u : Upd} (h1 : zoneOk z = true) (h2 : updOk u = true) (h3 : plainB z = true) (h4 : ¬ (Zjf z u.needs = true ∨ Zjf z u.chgs = true)) (h5 : Zhj z u.needs = true) (h : Zxo z u.chgs = some y) : updR z u = (Zwg z y, 0) := by
 unfold updR; rw [if_neg (by rw [h1, h2]; simp), if_neg (by rw [h3]; simp), if_neg h4, if_neg (by rw [h5]; simp), h]
theorem Zlr {z : Zon} (h : zoneOk z = true) (hz : ZOrd z) {n : Chg} (hn : nameOk n.set.name = true) : holdP z n = holdB z n := by
 have key : findOk z.sets n.q = decide (0 ≤ atF z.sets n.q) := Zyv hz (by exact hn)
 have key2 : 0 ≤ atF z.sets n.q → z.sets[findIx z.sets n.q]! = z.sets[(atF z.sets n.q).toNat]! := find_ix hz (by exact hn)
 unfold holdP holdB
 by_cases h1 : n.kind = 1
 ·
  simp [h1, Zar]
 ·
  by_cases h2 : n.kind = 2
  ·
   simp [h2, Zar]
  ·
   rw [if_neg (by omega), if_neg h1, if_neg h2]
   by_cases h3 : n.kind = 3
   ·
    simp [h3, key]
   ·
    rw [if_neg h3]
    by_cases h4 : n.kind = 4
    ·
     rw [if_pos h4, if_pos h4, key, Bool.eq_iff_iff]; simp
    ·
     rw [if_neg h4, if_neg h4, key]
     by_cases h0 : 0 ≤ atF z.sets n.q
     ·
      simp [h0, h3, key2 h0]
     ·
      simp [h0]
theorem Zkp {n : Chg} (h : needOk n = true) : nameOk n.set.name = true := by
 unfold needOk at h
 rw [Bool.and_eq_true] at h
 exact h.1
theorem Yqb {z : Zon} {l : List Chg} {k : Nat} (hk : k < l.length) (h : inB l[k]!.set.name z.apex = false) : Zjf z l = true := by
 unfold Zjf
 rw [Bool.not_eq_true', Bool.eq_false_iff, Ne, Zoa]
 intro q
 have : inB l[k]!.set.name z.apex = true := q k (Nat.zero_le _) hk
 rw [h] at this; cases this
theorem Zd4 {z : Zon} {l : List Chg} (h : Zya l.length (fun i => inB l[i]!.set.name z.apex) 0 = true) : Zjf z l = false := by
 unfold Zjf; rw [h]; rfl
theorem count_ap {z y : Zon} (hz : PlainZ y) (ha : y.apex = z.apex) : Zwg z y = ⟨z.apex, (Zwg z y).sets⟩ := by
 obtain ⟨m, _, _, e⟩ := Zw1 (z := z) hz
 rw [e]
 show Zcl y m = ⟨z.apex, (Zcl y m).sets⟩
 rw [← ha]
 rfl
theorem bo15 : Zea Tryz.prog 15 = true := by kernel_rfl
theorem Ztz (z : Zon) (n : Chg) : PureCt Tryz.prog 15 [.agg z.d, .agg n.d] (.tuple [.b (holdsF z n).1, .i (holdsF z n).2]) := by
 refine Zca Tryz.func15 rfl bo15 (by simp [go_sem, D.nr, nrs, nrr]) (by simp [Tryz.f15]) ?_
 unfold Tryz.f15
 simp only [Zfa]
 have ff := True.intro
 refine stp Lun ?_
 refine Zaa ?_
 refine stp Lun ?_ (hok := by (try simp only [go_sem, ff]); all_goals (first | done | ((repeat' (with_reducible apply And.intro)) <;> first | exact Zep n | (intros; exact Zep n) | exact (fun _ => Zac z) | (intros; exact (fun _ => Zac z)) | exact ez9 | skip)))
 refine cd (fun c1 => ?_) (fun c1 => ?_)
 ·
  refine stp Lun ?_
  refine Zba ?_
  exact fin 1 (hr := by (try simp only [go_sem, ff]); all_goals (rw [holdsF, if_pos (by grind)]))
 ·
  have hzo : zoneOk z = true := by grind
  have hno : needOk n = true := by grind
  have zo := Zrf hzo
  have hlen := zo.len
  have hund := Zo7 (Zkp hno) zo.apex
  have ff := And.intro @hund ff
  refine dw_skip ?_
  show DW _ _ _ _ _
  refine Zaa ?_
  refine stp Lun ?_ (hok := by (try simp only [go_sem, ff]); all_goals (first | done | ((repeat' (with_reducible apply And.intro)) <;> first | exact (by have h9 := Zgh n.set.name z.apex; rw [hund] at h9; exact h9) | (intros; exact (by have h9 := Zgh n.set.name z.apex; rw [hund] at h9; exact h9)) | exact ez9 | skip)))
  refine cd (fun c2 => ?_) (fun c2 => ?_)
  ·
   refine stp Lun ?_
   refine Zba ?_
   exact fin 1 (hr := by (try simp only [go_sem, ff]); all_goals (rw [holdsF, if_neg (by rw [hzo, hno]; simp), if_pos (by grind)]))
  ·
   refine dw_skip ?_
   show DW _ _ _ _ _
   refine stp Lun ?_ (hok := by (try simp only [go_sem, ff]); all_goals (first | done | ((repeat' (with_reducible apply And.intro)) <;> first | exact Zfp z n (by omega) (fun s hs => by have := (zo.ok s hs).len; omega) | (intros; exact Zfp z n (by omega) (fun s hs => by have := (zo.ok s hs).len; omega)) | exact ez9 | skip)))
   refine Zba ?_
   exact fin 1 (hr := by (try simp only [go_sem, ff]); all_goals (rw [holdsF, if_neg (by rw [hzo, hno]; simp), if_neg (by grind), Zlr hzo zo (Zkp hno)]))
theorem bo13 : Zea Tryz.prog 13 = true := by kernel_rfl
theorem Zwz (z : Zon) (u : Upd) : PureCt Tryz.prog 13 [.agg z.d, .agg u.d] (.tuple [.agg (updR z u).1.d, .i (updR z u).2]) := by
 refine Zca Tryz.func13 rfl bo13 (by simp [go_sem, D.nr, nrs, nrr]) (by simp [Tryz.f13]) ?_
 unfold Tryz.f13
 simp only [Zfa]
 have ff := True.intro
 refine stp Lun ?_
 refine Zaa ?_
 refine stp Lun ?_ (hok := by (try simp only [go_sem, ff]); all_goals (first | done | ((repeat' (with_reducible apply And.intro)) <;> first | exact Zk7 u | (intros; exact Zk7 u) | exact (fun _ => Zac z) | (intros; exact (fun _ => Zac z)) | exact ez9 | skip)))
 refine cd (fun c1 => ?_) (fun c1 => ?_)
 ·
  refine stp Lun ?_
  refine Zba ?_
  exact fin 6 (hr := by (try simp only [go_sem, ff]); all_goals (rw [upz_1 (by grind)]; rfl))
 ·
  have hz : zoneOk z = true := by grind
  have hu : updOk u = true := by grind
  have zo := Zrf hz
  have zlen := zo.len
  have hnl := Zl7 hu
  have hcl := Zdp hu
  have hul : u.needs.length ≤ 20 ∧ u.chgs.length ≤ 20 := by have h9 := hu; simp only [updOk, Bool.and_eq_true, decide_eq_true_eq] at h9; exact h9.1.1
  refine dw_skip ?_
  show DW _ _ _ _ _
  refine Zaa ?_
  refine stp Lun ?_ (hok := by (try simp only [go_sem, ff]); all_goals (first | done | ((repeat' (with_reducible apply And.intro)) <;> first | exact Zpw z (by omega) | (intros; exact Zpw z (by omega)) | exact ez9 | skip)))
  refine cd (fun c2 => ?_) (fun c2 => ?_)
  ·
   refine stp Lun ?_
   refine Zba ?_
   exact fin 6 (hr := by (try simp only [go_sem, ff]); all_goals (rw [upz_2 hz hu c2]; rfl))
  ·
   have hpl : plainB z = true := by grind
   have hpz := PlainZ.mk' hz hpl
   refine dw_skip ?_
   show DW _ _ _ _ _
   refine Zaa ?_
   refine stp Lun ?_
   refine Zda ?_
   refine lp (α := (Nat) × Nat) [2, 3, 4, 28, 29] (fun ⟨k, nx⟩ => (k ≤ u.needs.length) ∧ (Zya u.needs.length ((fun i => inB u.needs[i]!.set.name z.apex)) 0 = Zya u.needs.length ((fun i => inB u.needs[i]!.set.name z.apex)) k) ∧ (2 < nx) ∧ True) (fun ⟨k, nx⟩ => u.needs.length - k) (fun ⟨k, nx⟩ => [(30, .i k)]) (fun ⟨k, nx⟩ => [(0, ⟨24, [z.d]⟩), (1, ⟨28, [u.d]⟩), (2, ⟨24, [[.v (.string (bs [])), .list true []]]⟩)]) (fun ⟨k, nx⟩ => nx) (0, _) (hA := ⟨iv, rfl, iv, trivial⟩) (round := ?_)
   rintro ⟨k, nx⟩ ⟨hk, hv1, hx, -⟩
   show DW _ _ _ _ { n := _, t := tab _, h := _, nx := _, e := _ }
   simp only [List.cons_append, List.nil_append]
   have ff := And.intro @hx ff
   refine stp Lun ?_
   refine Zaa ?_
   refine cd (fun c3 => ?_) (fun c3 => ?_) (hp := rfl)
   ·
    have hk2 : k < u.needs.length := by simpa using c3
    have hund := Zo7 (Zkp (hnl _ (Zkb hk2))) zo.apex
    have ff := And.intro (Zug hk2) (And.intro @hund ff)
    refine dw_skip ?_
    show DW _ _ _ _ _
    refine Zaa ?_
    refine Zda ?_
    refine stp Lun ?_
    refine stp Lun ?_ (hok := by (try simp only [go_sem, ff]); all_goals (first | done | ((repeat' (with_reducible apply And.intro)) <;> first | exact (by have h9 := Zgh u.needs[k]!.set.name z.apex; rw [hund] at h9; exact h9) | (intros; exact (by have h9 := Zgh u.needs[k]!.set.name z.apex; rw [hund] at h9; exact h9)) | exact ez9 | skip)))
    refine cd (fun c4 => ?_) (fun c4 => ?_)
    ·
     refine stp Lun ?_
     refine Zba ?_
     exact fin 6 (hr := by (try simp only [go_sem, ff]); all_goals (rw [upz_3 hz hu hpl (.inl (Yqb hk2 c4))]; rfl))
    ·
     refine dw_skip ?_
     show DW _ _ _ _ _
     refine rgn Lun ?_
     show ∃ _, _
     have h8 : ((fun i => inB u.needs[i]!.set.name z.apex)) k = true := by simpa using c4
     exact rnd (k + 1, _) (h1 := ⟨iv, (by first | (rw [hv1, Zha hk2 h8]) | (dsimp only; rw [hv1, Zha hk2 h8])), iv, trivial⟩)
   ·
    have hk3 : k = u.needs.length := by omega
    subst hk3
    have hcut1 : Zjf z u.needs = false := Zd4 (by rw [hv1, Zua (by omega)])
    refine Zka ?_
    show DW _ _ _ _ _
    refine Zaa ?_
    refine stp Lun ?_
    refine Zda ?_
    refine lp (α := (Nat) × Nat) [2, 3, 4, 44, 45] (fun ⟨k, nx⟩ => (k ≤ u.chgs.length) ∧ (Zya u.chgs.length ((fun i => inB u.chgs[i]!.set.name z.apex)) 0 = Zya u.chgs.length ((fun i => inB u.chgs[i]!.set.name z.apex)) k) ∧ (2 < nx) ∧ True) (fun ⟨k, nx⟩ => u.chgs.length - k) (fun ⟨k, nx⟩ => [(46, .i k)]) (fun ⟨k, nx⟩ => [(0, ⟨24, [z.d]⟩), (1, ⟨28, [u.d]⟩), (2, ⟨24, [[.v (.string (bs [])), .list true []]]⟩)]) (fun ⟨k, nx⟩ => nx) (0, _) (hA := ⟨iv, rfl, iv, trivial⟩) (round := ?_)
    rintro ⟨k, nx⟩ ⟨hk, hv2, hx, -⟩
    show DW _ _ _ _ { n := _, t := tab _, h := _, nx := _, e := _ }
    simp only [List.cons_append, List.nil_append]
    have ff := And.intro @hx ff
    refine stp Lun ?_
    refine Zaa ?_
    refine cd (fun c5 => ?_) (fun c5 => ?_) (hp := rfl)
    ·
     have hk2 : k < u.chgs.length := by simpa using c5
     have hund := Zo7 (Zzr (hcl _ (Zkb hk2))) zo.apex
     have ff := And.intro (Zug hk2) (And.intro @hund ff)
     refine dw_skip ?_
     show DW _ _ _ _ _
     refine Zaa ?_
     refine Zda ?_
     refine stp Lun ?_
     refine stp Lun ?_ (hok := by (try simp only [go_sem, ff]); all_goals (first | done | ((repeat' (with_reducible apply And.intro)) <;> first | exact (by have h9 := Zgh u.chgs[k]!.set.name z.apex; rw [hund] at h9; exact h9) | (intros; exact (by have h9 := Zgh u.chgs[k]!.set.name z.apex; rw [hund] at h9; exact h9)) | exact ez9 | skip)))
     refine cd (fun c6 => ?_) (fun c6 => ?_)
     ·
      refine stp Lun ?_
      refine Zba ?_
      exact fin 6 (hr := by (try simp only [go_sem, ff]); all_goals (rw [upz_3 hz hu hpl (.inr (Yqb hk2 c6))]; rfl))
     ·
      refine dw_skip ?_
      show DW _ _ _ _ _
      refine rgn Lun ?_
      show ∃ _, _
      have h8 : ((fun i => inB u.chgs[i]!.set.name z.apex)) k = true := by simpa using c6
      exact rnd (k + 1, _) (h1 := ⟨iv, (by first | (rw [hv2, Zha hk2 h8]) | (dsimp only; rw [hv2, Zha hk2 h8])), iv, trivial⟩)
    ·
     have hk3 : k = u.chgs.length := by omega
     subst hk3
     have hcut2 : Zjf z u.chgs = false := Zd4 (by rw [hv2, Zua (by omega)])
     have hcut : ¬ (Zjf z u.needs = true ∨ Zjf z u.chgs = true) := by rw [hcut1, hcut2]; simp
     refine Zka ?_
     show DW _ _ _ _ _
     refine Zaa ?_
     refine stp Lun ?_
     refine Zda ?_
     refine lp (α := (Nat) × Nat) [2, 3, 4, 60, 61] (fun ⟨k, nx⟩ => (k ≤ u.needs.length) ∧ (Zya u.needs.length ((fun i => holdB z u.needs[i]!)) 0 = Zya u.needs.length ((fun i => holdB z u.needs[i]!)) k) ∧ (2 < nx) ∧ True) (fun ⟨k, nx⟩ => u.needs.length - k) (fun ⟨k, nx⟩ => [(62, .i k)]) (fun ⟨k, nx⟩ => [(0, ⟨24, [z.d]⟩), (1, ⟨28, [u.d]⟩), (2, ⟨24, [[.v (.string (bs [])), .list true []]]⟩)]) (fun ⟨k, nx⟩ => nx) (0, _) (hA := ⟨iv, rfl, iv, trivial⟩) (round := ?_)
     rintro ⟨k, nx⟩ ⟨hk, hv3, hx, -⟩
     show DW _ _ _ _ { n := _, t := tab _, h := _, nx := _, e := _ }
     simp only [List.cons_append, List.nil_append]
     have ff := And.intro @hx ff
     refine stp Lun ?_
     refine Zaa ?_
     refine cd (fun c7 => ?_) (fun c7 => ?_) (hp := rfl)
     ·
      have hk2 : k < u.needs.length := by simpa using c7
      have hhp := Zlr hz zo (Zkp (hnl _ (Zkb hk2)))
      have ff := And.intro (Zug hk2) (And.intro @hhp ff)
      refine dw_skip ?_
      show DW _ _ _ _ _
      refine Zaa ?_
      refine Zda ?_
      refine stp Lun ?_
      refine stp Lun ?_ (hok := by (try simp only [go_sem, ff]); all_goals (first | done | ((repeat' (with_reducible apply And.intro)) <;> first | exact (by have h9 := Zfp z u.needs[k]! (by omega) (fun s hs => by have := (zo.ok s hs).len; omega); rw [hhp] at h9; exact h9) | (intros; exact (by have h9 := Zfp z u.needs[k]! (by omega) (fun s hs => by have := (zo.ok s hs).len; omega); rw [hhp] at h9; exact h9)) | exact ez9 | skip)))
      refine cd (fun c8 => ?_) (fun c8 => ?_)
      ·
       refine stp Lun ?_
       refine Zba ?_
       exact fin 6 (hr := by (try simp only [go_sem, ff]); all_goals (rw [upz_4 hz hu hpl hcut (by unfold Zhj; rw [hv3]; exact Zpa (p := (fun i => holdB z u.needs[i]!)) hk2 c8)]; rfl))
      ·
       refine dw_skip ?_
       show DW _ _ _ _ _
       refine rgn Lun ?_
       show ∃ _, _
       have h8 : ((fun i => holdB z u.needs[i]!)) k = true := by simpa using c8
       exact rnd (k + 1, _) (h1 := ⟨iv, (by first | (rw [hv3, Zha hk2 h8]) | (dsimp only; rw [hv3, Zha hk2 h8])), iv, trivial⟩)
     ·
      have hk3 : k = u.needs.length := by omega
      subst hk3
      have hall3 : Zhj z u.needs = true := by unfold Zhj; rw [hv3, Zua (by omega)]
      refine Zka ?_
      show DW _ _ _ _ _
      rcases hcr : Zxo z u.chgs with _ | y
      ·
       have hfin := upz_5 hz hu hpl hcut hall3 hcr
       refine Zaa (Ze2 Lun 3 (hct := by exact Zv4 hpz hcl (by omega) hcr _ _) (hk := ?_))
       rintro res h2 n2 ⟨rfl, hfr⟩
       try dsimp only at hfr
       have k0 := hfr 0 _ (by omega) (by simp only [go_sem, ff]; exact rfl) (by dsimp only; decide) (by dsimp only; decide)
       have k2 := hfr 2 _ (by omega) (by simp only [go_sem, ff]; exact rfl) (by dsimp only; decide) (by dsimp only; decide)
       have ff := And.intro @k0 (And.intro @k2 ff)
       refine Zd2 Lun ?_
       show DW _ _ _ _ _
       refine Zaa ?_
       refine stp Lun ?_
       refine cd (fun c9 => ?_) (fun c9 => ?_) (hp := rfl) (hq := rfl)
       ·
        refine stp Lun ?_
        refine Zba ?_
        exact fin 6 (hr := by (try simp only [go_sem, ff]); all_goals (rw [hfin]; rfl))
       ·
        exfalso; simp at c9
      ·
       have hfin := upz_6 hz hu hpl hcut hall3 hcr
       have hp0 := Zqn hpz hcl _ _ (Nat.le_refl _) hcr
       refine Zaa (Ze2 Lun 3 (hct := by exact Zvz hpz hcl (by omega) hcr _ _) (hk := ?_))
       rintro res h2 n2 ⟨zc, rs, p, rfl, hzm, hlp, z1, z2, z3, hfr⟩
       try dsimp only at hfr
       have k0 := hfr 0 _ (by omega) (by simp only [go_sem, ff]; exact rfl) (by dsimp only; decide) (by dsimp only; decide)
       have k2 := hfr 2 _ (by omega) (by simp only [go_sem, ff]; exact rfl) (by dsimp only; decide) (by dsimp only; decide)
       have ff := And.intro @k0 (And.intro @k2 ff)
       refine Zd2 Lun ?_
       show DW _ _ _ _ _
       refine Zaa ?_
       refine stp Lun ?_
       refine cd (fun c9 => ?_) (fun c9 => ?_) (hp := rfl) (hq := rfl)
       ·
        exfalso; simp at c9
       ·
        refine dw_skip ?_
        show DW _ _ _ _ _
        have hy9 : (⟨z.apex, lP p⟩ : Zon) = y := by rw [hlp, ← hp0.2]
        have hyp : PlainZ ⟨z.apex, lP p⟩ := by rw [hy9]; exact hp0.1
        refine Zaa (Ze2 Lun 2 (hct := by exact Zt7 z zc rs p _ _ hpz hyp (hzm.keep (fun q hq9 => by have hqn : q < n2 := (by rcases hq9 with rfl | rfl | ⟨x, hx, rfl⟩; exact z1; exact z2; exact z3 x hx); simp only [upd]; repeat (first | rfl | rw [if_neg (by omega)])))) (hk := ?_))
        rintro res h3 n3 ⟨rfl, p2, hm2, hl2, hc2, hf2⟩
        try dsimp only at hf2
        have n2a : zc ≠ 2 := fun e => by have h9 := hzm.z; rw [e, k2] at h9; simp at h9
        have n2b : rs ≠ 2 := fun e => by have h9 := hzm.r; rw [e, k2] at h9; simp at h9
        have n2c : ∀ x ∈ p, x.1 ≠ 2 := fun x hx e => by have h9 := hzm.d x hx; rw [e, k2] at h9; simp at h9
        have m2 : h3 2 = some ⟨24, [[.v (.string (bs [])), .list true []]]⟩ := by rw [hf2 2 (by omega) n2a.symm n2b.symm (fun x hx e => n2c x hx e.symm)]; simp only [upd]; repeat (first | exact k2 | rw [if_neg (by omega)])
        have m7 : h3 (n2 + 7) = some ⟨24, [[.v (.string (bs z.apex)), .mrow rs 0 p.length]]⟩ := by rw [hf2 (n2 + 7) (by omega) (by omega) (by omega) (fun x hx e => by have := z3 x hx; omega)]; simp only [upd]; repeat (first | rfl | rw [if_neg (by omega)] | rw [if_pos rfl])
        have hgen : ∀ (H9 : H) (d : D), (∀ q, q ≠ 2 → H9 q = h3 q) → d = .tuple [.agg [.v (.string (bs z.apex)), .mrow rs 0 p.length], .i 0] → wk (Go.DL.snap H9 6 d) = .tuple [.agg (updR z u).1.d, .i (updR z u).2] ∧ Zqa H9 6 d := by
         rintro H9 d hH rfl
         have hmF : ZM 24 52 63 zc rs z.apex p2 H9 := hm2.keep (fun q hq => hH q (by rcases hq with rfl | rfl | ⟨x, hx, rfl⟩; exact n2a; exact n2b; exact fun e => by have h9 := hm2.d x hx; rw [e, m2] at h9; simp at h9))
         have hs := hmF.snap
         rw [hl2] at hs
         rw [hfin, count_ap hp0.1 hp0.2]
         refine ⟨?_, ?_⟩
         ·
          show D.tuple [wk (Go.DL.snap H9 5 (.agg [.v (.string (bs z.apex)), .mrow rs 0 p.length])), _] = _
          rw [hs.1, hc2, hy9]
          rfl
         ·
          intro c hc
          simp only [List.mem_cons, List.not_mem_nil, or_false] at hc
          rcases hc with rfl | rfl
          ·
           exact hs.2
          ·
           rfl
        have ff := And.intro @m2 (And.intro @m7 ff)
        refine Zd2 Lun ?_
        show DW _ _ _ _ _
        refine stp Lun ?_
        refine Zba ?_
        refine fin 6 (hr := ?_) (hk := ?_)
        ·
         exact (hgen _ _ (fun q hq => upd_ne _ _ _ _ hq) (by simp only [go_sem, ff])).1
        ·
         exact (hgen _ _ (fun q hq => upd_ne _ _ _ _ hq) (by simp only [go_sem, ff])).2
set_option maxRecDepth 10000
theorem bo24 : Zea Tryz.prog 24 = true := by kernel_rfl
theorem Zfq (z : Zon) (hl : z.sets.length ≤ 1000000) : PureCt Tryz.prog 24 [.agg z.d] (.b (plainB z)) := by
 refine Zca Tryz.func24 rfl bo24 (by simp [go_sem, D.nr, nrs, nrr]) (by simp [Tryz.f24]) ?_
 unfold Tryz.f24
 simp only [Zfa]
 have ff := True.intro
 refine stp Lun ?_
 refine Zaa ?_
 refine stp Lun ?_
 refine Zda ?_
 refine lp (α := (Nat) × Nat) [1] (fun ⟨k, nx⟩ => (k ≤ z.sets.length) ∧ (Zya z.sets.length ((Zfi z.sets)) 0 = Zya z.sets.length ((Zfi z.sets)) k) ∧ (0 < nx) ∧ True) (fun ⟨k, nx⟩ => z.sets.length - k) (fun ⟨k, nx⟩ => [(3, .i k)]) (fun ⟨k, nx⟩ => [(0, ⟨24, [z.d]⟩)]) (fun ⟨k, nx⟩ => nx) (0, _) (hA := ⟨iv, rfl, iv, trivial⟩) (round := ?_)
 rintro ⟨k, nx⟩ ⟨hk, hv, hx, -⟩
 show DW _ _ _ _ { n := _, t := tab _, h := _, nx := _, e := _ }
 simp only [List.cons_append, List.nil_append]
 have ff := And.intro @hx ff
 refine Zaa ?_
 refine stp Lun ?_
 refine cd (fun c1 => ?_) (fun c1 => ?_) (hp := rfl)
 ·
  have hk2 : k < z.sets.length := by simpa using c1
  have ff := And.intro (Zma hk2) ff
  refine dw_skip ?_
  show DW _ _ _ _ _
  refine Zaa ?_
  refine Zda ?_
  refine stp Lun ?_
  refine cd (fun c2 => ?_) (fun c2 => ?_)
  ·
   refine stp Lun ?_
   refine Zba ?_
   exact fin 0 (hr := by (try simp only [go_sem, ff]); all_goals (have hF : (Zfi z.sets) k = false := (by simp only [Zfi]; grind); simp only [plainB]; rw [hv, Zpa hk2 hF]))
  ·
   refine dw_skip ?_
   show DW _ _ _ _ _
   refine rgn Lun ?_
   show ∃ _, _
   have h8 : ((Zfi z.sets)) k = true := by simp only [Zfi]; grind
   exact rnd (k + 1, _) (h1 := ⟨iv, (by first | (rw [hv, Zha hk2 h8]) | (dsimp only; rw [hv, Zha hk2 h8])), iv, trivial⟩)
 ·
  refine Zka ?_
  show DW _ _ _ _ _
  refine stp Lun ?_
  refine Zba ?_
  exact fin 0 (hr := by (try simp only [go_sem, ff]); all_goals (simp only [plainB]; rw [hv, Zua (by omega)]))
set_option maxRecDepth 10000
set_option maxRecDepth 10000
theorem bo12 : Zea Tryz.prog 12 = true := by kernel_rfl
theorem Zix (u : Upd) : PureCt Tryz.prog 12 [.agg u.d] (.b (fewU u)) := by
 refine Zca Tryz.func12 rfl bo12 (by simp [go_sem, D.nr, nrs, nrr]) (by simp [Tryz.f12]) ?_
 unfold Tryz.f12
 simp only [Zfa]
 have ff := True.intro
 refine stp Lun ?_
 refine Zaa ?_
 refine stp Lun ?_
 refine Zda ?_
 refine lp (α := (Nat) × Nat) [1] (fun ⟨k, nx⟩ => (k ≤ (min u.needs.length 31)) ∧ (Zya (min u.needs.length 31) ((fewAt u.needs)) 0 = Zya (min u.needs.length 31) ((fewAt u.needs)) k) ∧ (0 < nx) ∧ True) (fun ⟨k, nx⟩ => (min u.needs.length 31) - k) (fun ⟨k, nx⟩ => [(3, .i k)]) (fun ⟨k, nx⟩ => [(0, ⟨28, [u.d]⟩)]) (fun ⟨k, nx⟩ => nx) (0, _) (hA := ⟨iv, rfl, iv, trivial⟩) (round := ?_)
 rintro ⟨k, nx⟩ ⟨hk, hv1, hx, -⟩
 show DW _ _ _ _ { n := _, t := tab _, h := _, nx := _, e := _ }
 simp only [List.cons_append, List.nil_append]
 have ff := And.intro @hx ff
 refine Zaa ?_
 refine stp Lun ?_
 refine cd (fun c1 => ?_) (fun c1 => ?_)
 ·
  have hk2n : k < u.needs.length := by grind
  have hk9 : k ≤ 30 := by grind
  have hk2 : k < min u.needs.length 31 := by omega
  have ff := And.intro (Zug hk2n) ff
  refine dw_skip ?_
  show DW _ _ _ _ _
  refine Zaa ?_
  refine Zda ?_
  refine stp Lun ?_
  refine cd (fun c2 => ?_) (fun c2 => ?_)
  ·
   refine stp Lun ?_
   refine Zba ?_
   exact fin 0 (hr := by (try simp only [go_sem, ff]); all_goals (have hF : ((fewAt u.needs)) k = false := (by simp only [Go.Zon.fewAt]; grind); simp only [fewU]; rw [hv1, Zpa hk2 hF]; try simp))
  ·
   refine dw_skip ?_
   show DW _ _ _ _ _
   refine rgn Lun ?_
   show ∃ _, _
   have h8 : ((fewAt u.needs)) k = true := by simp only [Go.Zon.fewAt]; grind
   exact rnd (k + 1, _) (h1 := ⟨iv, (by first | (rw [hv1, Zha hk2 h8]) | (dsimp only; rw [hv1, Zha hk2 h8])), iv, trivial⟩)
 ·
  refine Zka ?_
  show DW _ _ _ _ _
  refine Zaa ?_
  refine stp Lun ?_
  refine Zda ?_
  refine lp (α := (Nat) × Nat) [1] (fun ⟨k, nx⟩ => (k ≤ (min u.chgs.length 31)) ∧ (Zya (min u.chgs.length 31) ((fewAt u.chgs)) 0 = Zya (min u.chgs.length 31) ((fewAt u.chgs)) k) ∧ (0 < nx) ∧ True) (fun ⟨k, nx⟩ => (min u.chgs.length 31) - k) (fun ⟨k, nx⟩ => [(4, .i k)]) (fun ⟨k, nx⟩ => [(0, ⟨28, [u.d]⟩)]) (fun ⟨k, nx⟩ => nx) (0, _) (hA := ⟨iv, rfl, iv, trivial⟩) (round := ?_)
  rintro ⟨k, nx⟩ ⟨hk, hv, hx, -⟩
  show DW _ _ _ _ { n := _, t := tab _, h := _, nx := _, e := _ }
  simp only [List.cons_append, List.nil_append]
  have ff := And.intro @hx ff
  refine Zaa ?_
  refine stp Lun ?_
  refine cd (fun c3 => ?_) (fun c3 => ?_)
  ·
   have hk2n : k < u.chgs.length := by grind
   have hk9 : k ≤ 30 := by grind
   have hk2 : k < min u.chgs.length 31 := by omega
   have ff := And.intro (Zug hk2n) ff
   refine dw_skip ?_
   show DW _ _ _ _ _
   refine Zaa ?_
   refine Zda ?_
   refine stp Lun ?_
   refine cd (fun c4 => ?_) (fun c4 => ?_)
   ·
    refine stp Lun ?_
    refine Zba ?_
    exact fin 0 (hr := by (try simp only [go_sem, ff]); all_goals (have hF : ((fewAt u.chgs)) k = false := (by simp only [Go.Zon.fewAt]; grind); simp only [fewU]; rw [hv, Zpa hk2 hF]; try simp))
   ·
    refine dw_skip ?_
    show DW _ _ _ _ _
    refine rgn Lun ?_
    show ∃ _, _
    have h8 : ((fewAt u.chgs)) k = true := by simp only [Go.Zon.fewAt]; grind
    exact rnd (k + 1, _) (h1 := ⟨iv, (by first | (rw [hv, Zha hk2 h8]) | (dsimp only; rw [hv, Zha hk2 h8])), iv, trivial⟩)
  ·
   refine Zka ?_
   show DW _ _ _ _ _
   refine stp Lun ?_
   refine Zba ?_
   exact fin 0 (hr := by (try simp only [go_sem, ff]); all_goals (simp only [fewU]; rw [hv1, hv, Zua (n := min u.needs.length 31) (by grind), Zua (by grind)]; simp; rw [Bool.eq_iff_iff]; simp; omega))
set_option maxRecDepth 10000
@[go_sem] theorem leftTo_0 {a b : List Dat} : Zem a b 0 = [] := rfl
@[go_sem] theorem memTo_0 {b : List Dat} {x : Dat} : Zay b x 0 = false := rfl
set_option maxRecDepth 10000
@[go_sem] theorem dats_snoc9 {l : List Dat} {x : Dat} : (l ++ [x]).map Dat.d = l.map Dat.d ++ [[.v (.string (bs x.t)), .i x.n, .i x.m]] := by simp [Dat.d]
set_option maxRecDepth 10000
@[go_sem] theorem sgd_snoc12 {l : List Sgd} {x : Sgd} : (l ++ [x]).map Sgd.d = l.map Sgd.d ++ [[.v (.string (bs x.set.name)), .i x.set.ty, .i x.set.life, .list false (x.set.data.map Dat.d), .list false (x.sigs.map RSig.d)]] := by simp [Sgd.d]
set_option maxRecDepth 10000
@[go_sem] theorem dats1_one9 {f : Bool} {t : ByteArray} {n m : Int} {k1 k2 : IntKind} : dats1 (.list f [[.v (.string t), .v (.int k1 n), .v (.int k2 m)]]) = [⟨t.data.toList, n, m⟩] := rfl
set_option maxRecDepth 10000
@[go_sem] theorem nameTo_0 {l : List Sgd} {n : Str} : Zyl l n 0 = [] := rfl
set_option maxRecDepth 10000
set_option maxRecDepth 10000
theorem at_ltL {l : List Sgd} {q : Qst} (h : 0 ≤ atF l q) : (atF l q).toNat < l.length := by
 have := Yyb l q
 omega
def wrD (n : Int) : List D := [.v (.string (bs [])), .i n, .i 0]
theorem Zy7 {w : List Int} {k : Nat} (h : k < w.length) : (w.take (k + 1)).map wrD = (w.take k).map wrD ++ [[.v (.string (bs [])), .i w[k]!, .i 0]] := by
 rw [Zvc! h, List.map_append]; rfl
theorem Zzp {w : List Int} {k : Nat} (h : k ≤ w.length) : ((w.take k).map wrD).length = k := by simp; omega
@[go_sem] theorem nrr_wr {w : List Int} : nrr (w.map wrD) = true := by
 induction w with
 | nil => rfl
 | cons x l ih => simp only [List.map_cons, nrr, ih]; rfl
@[go_sem] theorem wkr_wr {w : List Int} : wkr (w.map wrD) = w.map wrD := by
 induction w with
 | nil => rfl
 | cons x l ih => simp only [List.map_cons, wkr, ih]; rfl
theorem wr_ad {w : List Int} : (w.map adD).map Dat.d = w.map wrD := by rw [List.map_map]; rfl
theorem Zb2 (l : List Dat) (hl : l.length ≤ 1000000) : PureCt Tryz.prog 100 [.list false (l.map Dat.d)] (.list false (l.map Dat.d)) := by
 refine Zca Tryz.func100 rfl bo100 (by simp [go_sem, D.nr, nrs, nrr]) (by simp [Tryz.f100]) ?_
 unfold Tryz.f100
 simp only [Zfa]
 have ff := True.intro
 refine stp Lun ?_
 refine Zaa ?_
 refine Zaa (Zfo ?_)
 refine Zdq (C := Lun) 1 (e := 63) (by omega) (Zqb rfl) rfl rfl (by kernel_rfl) (by simp only [List.drop_succ_cons, List.drop_zero, List.take_succ_cons, List.take_zero, S.put, Nat.sub_self, go_sem, ff]; exact rfl) ?_ (by rfl) (by simp only [go_sem, ff]; exact rfl) (fun y hy => ?_)
 ·
  try simp only [go_sem, ff]
  all_goals (first | done | (repeat' (with_reducible apply And.intro)) <;> first | omega | (with_reducible assumption) | (intros; omega) | (intros; simp only [decide_eq_true_eq, decide_eq_false_iff_not, Bool.or_eq_true, Bool.and_eq_true, Bool.or_eq_false_iff, Bool.not_eq_true', Bool.not_eq_false'] at *; omega) | (simp_all; done) | (simp_all; omega))
 refine Zei (C := Lun) (by first | decide | simp) (by simp only [List.drop_succ_cons, List.drop_zero, List.take_succ_cons, List.take_zero, S.put, Nat.sub_self, go_sem, ff]; exact rfl) ?_ rfl ?_
 ·
  try simp only [go_sem, ff]
  all_goals (first | done | (repeat' (with_reducible apply And.intro)) <;> first | omega | (with_reducible assumption) | (intros; omega) | (intros; simp only [decide_eq_true_eq, decide_eq_false_iff_not, Bool.or_eq_true, Bool.and_eq_true, Bool.or_eq_false_iff, Bool.not_eq_true', Bool.not_eq_false'] at *; omega) | (simp_all; done) | (simp_all; omega))
 try simp only [Zna]
 refine cd (fun c1 => ?_) (fun c1 => ?_) (hp := rfl) (hq := rfl)
 ·
  have hn : l = [] := List.map_eq_nil_iff.1 (hy c1)
  subst hn
  refine stp Lun ?_
  refine Zba ?_
  exact fin 1 (hr := by (try simp only [go_sem, ff]); all_goals (rfl))
 ·
  refine dw_skip ?_
  show DW _ _ _ _ _
  refine stp Lun ?_
  refine Zba ?_
  exact fin 1 (hr := by (try simp only [go_sem, ff]); all_goals (rfl))
theorem bo101 : Zea Tryz.prog 101 = true := by kernel_rfl
theorem Za2 (l : List RSig) (hl : l.length ≤ 1000000) : PureCt Tryz.prog 101 [.list false (l.map RSig.d)] (.list false (l.map RSig.d)) := by
 refine Zca Tryz.func101 rfl bo101 (by simp [go_sem, D.nr, nrs, nrr]) (by simp [Tryz.f101]) ?_
 unfold Tryz.f101
 simp only [Zfa]
 have ff := True.intro
 refine stp Lun ?_
 refine Zaa ?_
 refine Zaa (Zfo ?_)
 refine Zdq (C := Lun) 1 (e := 111) (by omega) (Zqb rfl) rfl rfl (by kernel_rfl) (by simp only [List.drop_succ_cons, List.drop_zero, List.take_succ_cons, List.take_zero, S.put, Nat.sub_self, go_sem, ff]; exact rfl) ?_ (by rfl) (by simp only [go_sem, ff]; exact rfl) (fun y hy => ?_)
 ·
  try simp only [go_sem, ff]
  all_goals (first | done | (repeat' (with_reducible apply And.intro)) <;> first | omega | (with_reducible assumption) | (intros; omega) | (intros; simp only [decide_eq_true_eq, decide_eq_false_iff_not, Bool.or_eq_true, Bool.and_eq_true, Bool.or_eq_false_iff, Bool.not_eq_true', Bool.not_eq_false'] at *; omega) | (simp_all; done) | (simp_all; omega))
 refine Zei (C := Lun) (by first | decide | simp) (by simp only [List.drop_succ_cons, List.drop_zero, List.take_succ_cons, List.take_zero, S.put, Nat.sub_self, go_sem, ff]; exact rfl) ?_ rfl ?_
 ·
  try simp only [go_sem, ff]
  all_goals (first | done | (repeat' (with_reducible apply And.intro)) <;> first | omega | (with_reducible assumption) | (intros; omega) | (intros; simp only [decide_eq_true_eq, decide_eq_false_iff_not, Bool.or_eq_true, Bool.and_eq_true, Bool.or_eq_false_iff, Bool.not_eq_true', Bool.not_eq_false'] at *; omega) | (simp_all; done) | (simp_all; omega))
 try simp only [Zna]
 refine cd (fun c1 => ?_) (fun c1 => ?_) (hp := rfl) (hq := rfl)
 ·
  have hn : l = [] := List.map_eq_nil_iff.1 (hy c1)
  subst hn
  refine stp Lun ?_
  refine Zba ?_
  exact fin 1 (hr := by (try simp only [go_sem, ff]); all_goals (rfl))
 ·
  refine dw_skip ?_
  show DW _ _ _ _ _
  refine stp Lun ?_
  refine Zba ?_
  exact fin 1 (hr := by (try simp only [go_sem, ff]); all_goals (rfl))
theorem bo64 : Zea Tryz.prog 64 = true := by kernel_rfl
theorem Zmw (s : Sgd) (hs : fit1 s) : PureCt Tryz.prog 64 [.agg s.d] (.agg s.d) := by
 refine Zca Tryz.func64 rfl bo64 (by simp [go_sem, D.nr, nrs, nrr]) (by simp [Tryz.f64]) ?_
 unfold Tryz.f64
 simp only [Zfa]
 have ff := True.intro
 refine stp Lun ?_
 refine stp Lun ?_ (hok := by (try simp only [go_sem, ff]); all_goals (exact Zb2 _ (Nat.le_trans hs.1 (by omega))))
 refine stp Lun ?_ (hok := by (try simp only [go_sem, ff]); all_goals (exact Za2 _ (Nat.le_trans hs.2 (by omega))))
 refine stp Lun ?_
 refine Zba ?_
 exact fin 2 (hr := by (try simp only [go_sem, ff]); all_goals (rfl))
theorem bo27 : Zea Tryz.prog 27 = true := by kernel_rfl
theorem Zc7 (z : Zon) (q : Qst) (hf : Zu3 z.sets) : PureCt Tryz.prog 27 [.agg z.d, .agg q.d] (.tuple [.agg (Zmi z q).1.d, .b (Zmi z q).2.1, .i (Zmi z q).2.2]) := by
 refine Zca Tryz.func27 rfl bo27 (by simp [go_sem, D.nr, nrs, nrr]) (by simp [Tryz.f27]) ?_
 unfold Tryz.f27
 simp only [Zfa]
 have ff := True.intro
 refine stp Lun ?_
 refine Zaa ?_
 refine stp Lun ?_ (hok := by (try simp only [go_sem, ff]); all_goals (first | done | ((repeat' (with_reducible apply And.intro)) <;> first | exact Zkw _ | (intros; exact Zkw _) | exact (fun _ => Zac _) | (intros; exact (fun _ => Zac _)) | skip)))
 refine cd (fun c1 => ?_) (fun c1 => ?_)
 ·
  refine stp Lun ?_
  refine Zba ?_
  exact fin 2 (hr := by (try simp only [go_sem, ff]); all_goals (rw [Zmi, if_neg (by simp only [Bool.and_eq_true]; grind)]; try rfl))
 ·
  refine dw_skip ?_
  show DW _ _ _ _ _
  refine stp Lun ?_ (hok := by (try simp only [go_sem, ff]); all_goals (exact Zsf z q hf.1))
  refine Zaa ?_
  refine stp Lun ?_
  refine cd (fun c2 => ?_) (fun c2 => ?_)
  ·
   refine stp Lun ?_
   refine Zba ?_
   exact fin 2 (hr := by (try simp only [go_sem, ff]); all_goals (rw [Zmi, if_pos (by simp only [Bool.and_eq_true]; grind), if_neg (by simp [c2])]; try rfl))
  ·
   refine dw_skip ?_
   show DW _ _ _ _ _
   have h9 : findIx z.sets q < z.sets.length := by simp only [findOk, Bool.and_eq_true, decide_eq_true_eq] at c2; exact c2.1
   have ff := And.intro (Zma h9) ff
   refine stp Lun ?_ (hok := by (try simp only [go_sem, ff]); all_goals (first | done | ((repeat' (with_reducible apply And.intro)) <;> first | exact Zmw z.sets[findIx z.sets q]! (hf.2 _ h9) | (intros; exact Zmw z.sets[findIx z.sets q]! (hf.2 _ h9)) | omega | skip)))
   refine Zba ?_
   exact fin 2 (hr := by (try simp only [go_sem, ff]); all_goals (rw [Zmi, if_pos (by simp only [Bool.and_eq_true]; grind), if_pos c2]; try rfl))
theorem bo31 : Zea Tryz.prog 31 = true := by kernel_rfl
theorem Zbc (n : Str) (k : Int) (t : Str) (a : Int) (m : Int) : PureCt Tryz.prog 31 [.v (.string (bs n)), .i k, .v (.string (bs t)), .i a, .i m] (.agg (RSet.d (setU n k t a m))) := by
 refine Zca Tryz.func31 rfl bo31 (by simp [go_sem, D.nr, nrs, nrr]) (by simp [Tryz.f31]) ?_
 unfold Tryz.f31
 simp only [Zfa]
 have ff := True.intro
 refine stp Lun ?_
 refine stp Lun ?_
 refine Zba ?_
 exact fin 2 (hr := by (try simp only [go_sem, ff]); all_goals (rfl))
theorem bo30 : Zea Tryz.prog 30 = true := by kernel_rfl
theorem Zp3 (s : Int) (w : List Int) (hw : w.length ≤ 1000) : PureCt Tryz.prog 30 [.i s, .list false (w.map wnD)] (.agg (exZ s w).d) := by
 refine Zca Tryz.func30 rfl bo30 (by simp [go_sem, D.nr, nrs, nrr]) (by simp [Tryz.f30]) ?_
 unfold Tryz.f30
 simp only [Zfa]
 have ff := True.intro
 refine stp Lun ?_
 refine stp Lun ?_
 refine Zaa ?_
 refine Ydb 2 3 31 63 (by simp only [go_sem, ff]; exact rfl) (by rfl) (by simp only [go_sem, ff]) ?_
 simp only [List.set_cons_succ, List.set_cons_zero]
 refine stp Lun ?_
 refine Zda ?_
 refine lp (α := (Nat) × (Nat) × Nat) [0, 4, 5, 9, 10] (fun ⟨k, r, nx⟩ => (k ≤ w.length) ∧ (r < nx) ∧ (2 < r) ∧ True) (fun ⟨k, r, nx⟩ => w.length - k) (fun ⟨k, r, nx⟩ => [(11, .i k)]) (fun ⟨k, r, nx⟩ => [(0, ⟨24, [[.v (.string (bs [])), .list true []]]⟩), (2, ⟨31, [[.v (.string (bs [119, 46, 120])), .i 1, .i 60, .mrow r 0 k]]⟩), (r, ⟨63, ((w.take (k)).map wrD)⟩)]) (fun ⟨k, r, nx⟩ => nx) (0, 4, _) (hA := ⟨iv, iv, iv, trivial⟩) (round := ?_)
 rintro ⟨k, r, nx⟩ ⟨hk, hr, hr2, -⟩
 show DW _ _ _ _ { n := _, t := tab _, h := _, nx := _, e := _ }
 simp only [List.cons_append, List.nil_append]
 have n0 : 2 < nx := by omega
 have hll := Zzp hk
 have z0_2 : (0 = 2) = False := eq_false (by omega)
 have y2_0 : (2 = 0) = False := eq_false (by omega)
 have z0_r : (0 = r) = False := eq_false (by omega)
 have yr_0 : (r = 0) = False := eq_false (by omega)
 have z2_r : (2 = r) = False := eq_false (by omega)
 have yr_2 : (r = 2) = False := eq_false (by omega)
 have ff := And.intro @hr (And.intro @n0 (And.intro @hll (And.intro @z0_2 (And.intro @y2_0 (And.intro @z0_r (And.intro @yr_0 (And.intro @z2_r (And.intro @yr_2 ff))))))))
 refine stp Lun ?_
 refine Zaa ?_
 refine cd (fun c1 => ?_) (fun c1 => ?_) (hp := rfl) (hq := rfl)
 ·
  have hk2 : k < w.length := by simpa using c1
  have ff := And.intro (Zvy hk2) ff
  refine dw_skip ?_
  show DW _ _ _ _ _
  refine Zaa ?_
  refine Zda ?_
  refine stp Lun ?_
  refine rgn Lun ?_
  show DW _ _ _ _ _
  refine rgn Lun ?_
  show ∃ _, _
  have hst := Zy7 hk2
  have ff := And.intro hst ff
  exact rnd (k + 1, (nx + 9), _) (h1 := ⟨iv, iv, iv, trivial⟩)
 ·
  have hk3 : k = w.length := by have : ¬ k < w.length := (by simpa using c1); omega
  subst hk3
  refine Zka ?_
  show DW _ _ _ _ _
  refine Znn 2 3 r (rows := ((w.take (w.length)).map wrD)) (off := 0) (len := w.length) (by simp only [go_sem, ff]; exact rfl) (by rfl) (by simp only [go_sem, ff]; exact rfl) (by omega) (by simp only [go_sem, ff]; omega) (by rw [List.take_length]; exact nrr_wr) ?_
  simp only [List.drop_zero, List.set_cons_succ, List.set_cons_zero]
  refine stp Lun ?_ (hok := by (try simp only [go_sem, ff]); all_goals (first | done | ((repeat' (with_reducible apply And.intro)) <;> first | exact Zbc [120] 2 [97, 46, 110, 115] 0 0 | (intros; exact Zbc [120] 2 [97, 46, 110, 115] 0 0) | exact Zbc [120] 4 [] s 60 | (intros; exact Zbc [120] 4 [] s 60) | skip)))
  refine Zba ?_
  exact fin 5 (hr := by (try simp only [go_sem, ff]); all_goals (first | (rw [← wr_ad]; rfl) | (rw [wkr_wr, ← wr_ad]; rfl)))
theorem bo18 : Zea Tryz.prog 18 = true := by kernel_rfl
theorem Zao (z : Zon) (u : Upd) : PureCt Tryz.prog 18 [.agg z.d, .agg u.d] (.b (Zkk z u)) := by
 refine Zca Tryz.func18 rfl bo18 (by simp [go_sem, D.nr, nrs, nrr]) (by simp [Tryz.f18]) ?_
 unfold Tryz.f18
 simp only [Zfa]
 have ff := True.intro
 refine stp Lun ?_
 refine stp Lun ?_ (hok := by (try simp only [go_sem, ff]); all_goals (first | done | ((repeat' (with_reducible apply And.intro)) <;> first | exact Znx z | (intros; exact Znx z) | exact (fun _ => Znq z) | (intros; exact (fun _ => Znq z)) | exact (fun h => Zfq z (by have := Zl0 (z := z) (by simp_all); omega)) | (intros; exact (fun h => Zfq z (by have := Zl0 (z := z) (by simp_all); omega))) | exact (fun _ => Zix u) | (intros; exact (fun _ => Zix u)) | skip)))
 refine Zba ?_
 exact fin 0 (hr := by (try simp only [go_sem, ff]); all_goals (congr 2; rw [Bool.eq_iff_iff]; simp only [Zkk, Bool.and_eq_true, decide_eq_true_eq]; constructor <;> (rintro ⟨⟨⟨⟨⟨h1, h2⟩, h3⟩, h4⟩, h5⟩, h6⟩; exact ⟨⟨⟨⟨⟨h1, h2⟩, h3⟩, h4⟩, by omega⟩, by omega⟩)))
theorem bo29 : Zea Tryz.prog 29 = true := by kernel_rfl
theorem Zla (l : List Dat) (x : Dat) (hl : l.length ≤ 1000000) : PureCt Tryz.prog 29 [.list false (l.map Dat.d), .agg x.d] (.b (hasD l x)) := by
 refine Zca Tryz.func29 rfl bo29 (by simp [go_sem, D.nr, nrs, nrr]) (by simp [Tryz.f29]) ?_
 unfold Tryz.f29
 simp only [Zfa]
 have ff := True.intro
 refine stp Lun ?_
 refine Zaa ?_
 refine stp Lun ?_
 refine Zda ?_
 refine lp (α := (Nat) × Nat) [3, 7, 8] (fun ⟨k, nx⟩ => (k ≤ l.length) ∧ (0 < nx) ∧ (∀ i, i < k → l[i]! ≠ x) ∧ True) (fun ⟨k, nx⟩ => l.length - k) (fun ⟨k, nx⟩ => [(9, .i k)]) (fun ⟨k, nx⟩ => [(0, ⟨63, [x.d]⟩)]) (fun ⟨k, nx⟩ => nx) (0, _) (hA := ⟨iv, iv, (by first | (intro i hi; omega) | (dsimp only; intro i hi; omega)), trivial⟩) (round := ?_)
 rintro ⟨k, nx⟩ ⟨hk, hx, hv, -⟩
 show DW _ _ _ _ { n := _, t := tab _, h := _, nx := _, e := _ }
 simp only [List.cons_append, List.nil_append]
 have ff := And.intro @hx ff
 refine stp Lun ?_
 refine Zaa ?_
 refine cd (fun c1 => ?_) (fun c1 => ?_) (hp := rfl)
 ·
  have hk2 : k < l.length := by simpa using c1
  have ff := And.intro (Zec hk2) ff
  refine dw_skip ?_
  show DW _ _ _ _ _
  refine Zaa ?_
  refine Zda ?_
  refine stp Lun ?_
  refine stp Lun ?_
  refine cd (fun c2 => ?_) (fun c2 => ?_)
  ·
   refine stp Lun ?_
   refine Zba ?_
   exact fin 0 (hr := by (try simp only [go_sem, ff]); all_goals (simp only [hasD]; rw [decide_eq_true]; exact mem_ix.2 ⟨k, hk2, Zvr (by grind)⟩))
  ·
   refine dw_skip ?_
   show DW _ _ _ _ _
   refine rgn Lun ?_
   show ∃ _, _
   exact rnd (k + 1, _) (h1 := ⟨iv, iv, (by (try dsimp only); intro i hi; by_cases e : i = k; subst e; rintro rfl; simp at c2; exact hv i (by omega)), trivial⟩)
 ·
  refine Zka ?_
  show DW _ _ _ _ _
  refine stp Lun ?_
  refine Zba ?_
  exact fin 0 (hr := by (try simp only [go_sem, ff]); all_goals (simp only [hasD]; rw [decide_eq_false]; intro hm; obtain ⟨i, hi, e⟩ := mem_ix.1 hm; exact hv i (by omega) e))
set_option maxRecDepth 10000
theorem bo65 : Zea Tryz.prog 65 = true := by kernel_rfl
theorem Zam (x : Zon) (y : Zon) (s : RSet) (hx : x.sets.length ≤ 1000000) (hy : Zu3 y.sets) : PureCt Tryz.prog 65 [.agg x.d, .agg y.d, .eptr s.d] (.b (othB x y s)) := by
 refine Zca Tryz.func65 rfl bo65 (by simp [go_sem, D.nr, nrs, nrr]) (by simp [Tryz.f65]) ?_
 unfold Tryz.f65
 simp only [Zfa]
 have ff := True.intro
 refine stp Lun ?_
 refine Zaa ?_
 refine stp Lun ?_
 refine Zda ?_
 refine lp (α := (Nat) × Nat) [2, 4, 10, 11] (fun ⟨k, nx⟩ => (k ≤ x.sets.length) ∧ (Zya x.sets.length ((Zvl x y s)) 0 = Zya x.sets.length ((Zvl x y s)) k) ∧ (1 < nx) ∧ True) (fun ⟨k, nx⟩ => x.sets.length - k) (fun ⟨k, nx⟩ => [(12, .i k)]) (fun ⟨k, nx⟩ => [(0, ⟨24, [x.d]⟩), (1, ⟨24, [y.d]⟩)]) (fun ⟨k, nx⟩ => nx) (0, _) (hA := ⟨iv, rfl, iv, trivial⟩) (round := ?_)
 rintro ⟨k, nx⟩ ⟨hk, hv, hx9, -⟩
 show DW _ _ _ _ { n := _, t := tab _, h := _, nx := _, e := _ }
 simp only [List.cons_append, List.nil_append]
 have ff := And.intro @hx9 ff
 refine stp Lun ?_
 refine Zaa ?_
 refine cd (fun c1 => ?_) (fun c1 => ?_) (hp := rfl)
 ·
  have hk2 : k < x.sets.length := by simpa using c1
  have ff := And.intro (Zma hk2) ff
  refine dw_skip ?_
  show DW _ _ _ _ _
  refine Zaa ?_
  refine Zda ?_
  refine stp Lun ?_
  refine stp Lun ?_ (hok := by (try simp only [go_sem, ff]); all_goals (first | done | ((repeat' (with_reducible apply And.intro)) <;> first | exact Zxj y ⟨x.sets[k]!.set.name, x.sets[k]!.set.ty⟩ hy.1 | (intros; exact Zxj y ⟨x.sets[k]!.set.name, x.sets[k]!.set.ty⟩ hy.1) | exact ez9 | skip)))
  refine Zaa ?_
  refine stp Lun ?_
  refine cd (fun c2 => ?_) (fun c2 => ?_)
  ·
   refine Zka ?_
   show DW _ _ _ _ _
   refine rgn Lun ?_
   show ∃ _, _
   have h8 : ((Zvl x y s)) k = true := by simp only [Zvl]; first | (rw [Bool.or_eq_true, Bool.or_eq_true, Bool.and_eq_true, decide_eq_true_eq, decide_eq_true_eq, decide_eq_true_eq]; left; grind) | (rw [Bool.or_eq_true, Bool.and_eq_true, decide_eq_true_eq]; right; exact ⟨by grind, by grind⟩) | grind
   exact rnd (k + 1, _) (h1 := ⟨iv, (by first | (rw [hv, Zha hk2 h8]) | (dsimp only; rw [hv, Zha hk2 h8])), iv, trivial⟩)
  ·
   refine dw_skip ?_
   show DW _ _ _ _ _
   rcases Int.lt_or_le (atF y.sets ⟨x.sets[k]!.set.name, x.sets[k]!.set.ty⟩) 0 with hA | hA
   ·
    have hA1 : decide ((atF y.sets ⟨x.sets[k]!.set.name, x.sets[k]!.set.ty⟩) < 0) = true := decide_eq_true hA
    have ff := And.intro @hA1 ff
    refine stp Lun ?_ (hok := by (try simp only [go_sem, ff]); all_goals (first | done | ((repeat' (with_reducible apply And.intro)) <;> first | exact Zqc _ _ (hy.2 _ hat) | (intros; exact Zqc _ _ (hy.2 _ hat)) | exact (fun _ => Zqc _ _ (hy.2 _ hat)) | (intros; exact (fun _ => Zqc _ _ (hy.2 _ hat))) | exact ez9 | skip)))
    refine cd (fun c3 => ?_) (fun c3 => ?_)
    ·
     refine stp Lun ?_
     refine Zba ?_
     exact fin 0 (hr := by (try simp only [go_sem, ff]); all_goals (have hF : (Zvl x y s) k = false := (by simp only [Zvl]; grind); simp only [othB]; rw [hv, Zpa hk2 hF]))
    ·
     refine dw_skip ?_
     show DW _ _ _ _ _
     refine rgn Lun ?_
     show ∃ _, _
     have h8 : ((Zvl x y s)) k = true := by simp only [Zvl]; first | (rw [Bool.or_eq_true, Bool.or_eq_true, Bool.and_eq_true, decide_eq_true_eq, decide_eq_true_eq, decide_eq_true_eq]; left; grind) | (rw [Bool.or_eq_true, Bool.and_eq_true, decide_eq_true_eq]; right; exact ⟨by grind, by grind⟩) | grind
     exact rnd (k + 1, _) (h1 := ⟨iv, (by first | (rw [hv, Zha hk2 h8]) | (dsimp only; rw [hv, Zha hk2 h8])), iv, trivial⟩)
   ·
    have hA1 : decide ((atF y.sets ⟨x.sets[k]!.set.name, x.sets[k]!.set.ty⟩) < 0) = false := decide_eq_false (by omega)
    have hat := at_ltL hA
    have ff := And.intro @hA1 (And.intro (Zma hat) ff)
    refine stp Lun ?_ (hok := by (try simp only [go_sem, ff]); all_goals (first | done | ((repeat' (with_reducible apply And.intro)) <;> first | exact Zqc _ _ (hy.2 _ hat) | (intros; exact Zqc _ _ (hy.2 _ hat)) | exact (fun _ => Zqc _ _ (hy.2 _ hat)) | (intros; exact (fun _ => Zqc _ _ (hy.2 _ hat))) | exact ez9 | skip)))
    refine cd (fun c3 => ?_) (fun c3 => ?_)
    ·
     refine stp Lun ?_
     refine Zba ?_
     exact fin 0 (hr := by (try simp only [go_sem, ff]); all_goals (have hF : (Zvl x y s) k = false := (by simp only [Zvl]; grind); simp only [othB]; rw [hv, Zpa hk2 hF]))
    ·
     refine dw_skip ?_
     show DW _ _ _ _ _
     refine rgn Lun ?_
     show ∃ _, _
     have h8 : ((Zvl x y s)) k = true := by simp only [Zvl]; first | (rw [Bool.or_eq_true, Bool.or_eq_true, Bool.and_eq_true, decide_eq_true_eq, decide_eq_true_eq, decide_eq_true_eq]; left; grind) | (rw [Bool.or_eq_true, Bool.and_eq_true, decide_eq_true_eq]; right; exact ⟨by grind, by grind⟩) | grind
     exact rnd (k + 1, _) (h1 := ⟨iv, (by first | (rw [hv, Zha hk2 h8]) | (dsimp only; rw [hv, Zha hk2 h8])), iv, trivial⟩)
 ·
  refine Zka ?_
  show DW _ _ _ _ _
  refine stp Lun ?_
  refine Zba ?_
  exact fin 0 (hr := by (try simp only [go_sem, ff]); all_goals (simp only [othB]; rw [hv, Zua (by have : ¬ k < x.sets.length := (by simpa using c1); omega)]))
theorem bo28 : Zea Tryz.prog 28 = true := by kernel_rfl
theorem Zey (a : Zon) (b : Zon) (s : RSet) (ha : Zu3 a.sets) (hb : Zu3 b.sets) : PureCt Tryz.prog 28 [.agg a.d, .agg b.d, .agg s.d] (.b (Zen a b s)) := by
 refine Zca Tryz.func28 rfl bo28 (by simp [go_sem, D.nr, nrs, nrr]) (by simp [Tryz.f28]) ?_
 unfold Tryz.f28
 simp only [Zfa]
 have ff := True.intro
 refine stp Lun ?_
 refine stp Lun ?_
 refine stp Lun ?_ (hok := by (try simp only [go_sem, ff]); all_goals (first | done | ((repeat' (with_reducible apply And.intro)) <;> first | exact Zam a b s ha.1 hb | (intros; exact Zam a b s ha.1 hb) | exact (fun _ => Zam b a s hb.1 ha) | (intros; exact (fun _ => Zam b a s hb.1 ha)) | skip)))
 refine Zba ?_
 exact fin 0 (hr := by (try simp only [go_sem, ff]); all_goals (rfl))
set_option maxRecDepth 10000
theorem uex_rct (s : Int) (w : List Int) (hw : w.length ≤ 1000) (h : H) (n : Nat) : RCt Tryz.prog 30 [.i s, .list false (w.map wnD)] h n (fun d h' n' => ∃ rs, d = .agg [.v (.string (bs [120])), .mrow rs 0 3] ∧ h' rs = some ⟨52, [[.v (.string (bs [120])), .i 2, .i 60, .list false [[.v (.string (bs [97, 46, 110, 115])), .i 0, .i 0]], .list true []], [.v (.string (bs [120])), .i 4, .i 60, .list false [[.v (.string (bs [])), .i s, .i 60]], .list true []], [.v (.string (bs [119, 46, 120])), .i 1, .i 60, .list false (w.map wrD), .list true []]]⟩ ∧ n ≤ rs ∧ rs < n' ∧ ∀ q, q < n → h' q = h q) := by
 refine Zlb Tryz.func30 rfl bo30 (by simp [Tryz.f30]) (fun hnone => ?_)
 unfold Tryz.f30
 have ff := True.intro
 refine stp Lun ?_
 refine stp Lun ?_
 refine Zaa ?_
 refine Ydb (n + 2) 3 31 63 (by simp only [go_sem, ff]; exact rfl) (by rfl) (by simp only [go_sem, ff]) ?_
 simp only [List.set_cons_succ, List.set_cons_zero]
 refine stp Lun ?_
 refine Zda ?_
 refine lph (α := (Nat) × (Nat) × Nat) [0, 4, 5, 9, 10] (fun ⟨k, r, nx⟩ => (k ≤ w.length) ∧ (r < nx) ∧ (n + 2 < r) ∧ True) (fun ⟨k, r, nx⟩ => w.length - k) (fun ⟨k, r, nx⟩ => [(11, .i k)]) (fun ⟨k, r, nx⟩ => upd (upd (upd h n (some ⟨24, [[.v (.string (bs [])), .list true []]]⟩)) (n + 2) (some ⟨31, [[.v (.string (bs [119, 46, 120])), .i 1, .i 60, .mrow (r) 0 (k)]]⟩)) (r) (some ⟨63, ((w.take (k)).map wrD)⟩)) (fun ⟨k, r, nx⟩ => nx) (0, (n + 4), _) (hA := ⟨iv, iv, iv, trivial⟩) (round := ?_) (hhh := by intro q; left; dsimp only; simp only [upd]; (repeat' split) <;> first | rfl | omega | (simp_all; done) | (exfalso; omega))
 rintro ⟨k, r, nx⟩ ⟨hk, hr, hr2, -⟩
 show DW _ _ _ _ { n := _, t := tab _, h := _, nx := _, e := _ }
 simp only [List.cons_append, List.nil_append]
 have n0 : n + 2 < nx := by omega
 have hll := Zzp hk
 have zr_n : (r = n) = False := eq_false (by omega)
 have yn_r : (n = r) = False := eq_false (by omega)
 have zr_n2 : (r = n + 2) = False := eq_false (by omega)
 have yn2_r : (n + 2 = r) = False := eq_false (by omega)
 have ff := And.intro @hr (And.intro @n0 (And.intro @hll (And.intro @zr_n (And.intro @yn_r (And.intro @zr_n2 (And.intro @yn2_r ff))))))
 refine stp Lun ?_
 refine Zaa ?_
 refine cd (fun c1 => ?_) (fun c1 => ?_) (hp := rfl) (hq := rfl)
 ·
  have hk2 : k < w.length := by simpa using c1
  have ff := And.intro (Zvy hk2) ff
  refine dw_skip ?_
  show DW _ _ _ _ _
  refine Zaa ?_
  refine Zda ?_
  refine stp Lun ?_
  refine rgn Lun ?_
  show DW _ _ _ _ _
  refine rgn Lun ?_
  show ∃ _, _
  have hst := Zy7 hk2
  have ff := And.intro hst ff
  refine rnd (k + 1, (nx + 9), _) (h1 := ⟨iv, iv, iv, trivial⟩) (h5 := ?_)
  intro q
  by_cases e4 : q = r
  ·
   right; subst e4; simp only [upd]; repeat rw [if_neg (by omega)]
   exact hnone _ (by omega)
  ·
   left; simp only [upd]; try simp only [go_sem, ff]
   (repeat' split) <;> first | rfl | omega | (simp_all; done) | (exfalso; omega)
 ·
  have hk3 : k = w.length := by have : ¬ k < w.length := (by simpa using c1); omega
  subst hk3
  refine Zka ?_
  show DW _ _ _ _ _
  refine Znn (n + 2) 3 r (rows := ((w.take (w.length)).map wrD)) (off := 0) (len := w.length) (by simp only [go_sem, ff]; exact rfl) (by rfl) (by simp only [go_sem, ff]; exact rfl) (by omega) (by simp only [go_sem, ff]; omega) (by rw [List.take_length]; exact nrr_wr) ?_
  simp only [List.drop_zero, List.set_cons_succ, List.set_cons_zero]
  have znx8_n : (nx + 8 = n) = False := eq_false (by omega)
  have yn_nx8 : (n = nx + 8) = False := eq_false (by omega)
  have ff := And.intro @znx8_n (And.intro @yn_nx8 ff)
  refine stp LunB ?_ (hok := by (try simp only [go_sem, ff]); all_goals (first | done | ((repeat' (with_reducible apply And.intro)) <;> first | exact Zbc [120] 2 [97, 46, 110, 115] 0 0 | (intros; exact Zbc [120] 2 [97, 46, 110, 115] 0 0) | exact Zbc [120] 4 [] s 60 | (intros; exact Zbc [120] 4 [] s 60) | omega | skip)))
  refine Zba ?_
  refine Zik (_) (hh := fun _ => .inl rfl) (hr := ?_)
  try simp only [go_sem, ff]
  refine ⟨nx + 8, rfl, ?_, by omega, by first | omega | (dsimp only; omega), fun q hq => ?_⟩
  ·
   simp only [upd]; repeat (first | rfl | rw [if_neg (by omega)] | rw [if_pos rfl])
  ·
   simp only [upd]; repeat (first | rfl | rw [if_neg (by omega)])
set_option maxRecDepth 10000
attribute [go_sem] setU
@[go_sem] theorem chgs1_one9 {f g : Bool} {k t l : Int} {k1 k2 k3 : IntKind} {s : ByteArray} {rows : List (List D)} : Ysb (.list f [[.v (.int k1 k), .v (.string s), .v (.int k2 t), .v (.int k3 l), .list g rows]]) = [⟨k, ⟨s.data.toList, t, l, dats1 (.list g rows)⟩⟩] := rfl
@[go_sem] theorem dats1_nil9 {f : Bool} : dats1 (.list f []) = [] := rfl
theorem hu1 : updR (exZ 65535 [7]) ⟨[(⟨3, ⟨[119, 46, 120], 1, 0, []⟩⟩ : Chg)], [⟨1, (⟨[119, 46, 120], 1, 5, [⟨[], 3, 0⟩]⟩ : RSet)⟩]⟩ = ((⟨[120], [⟨⟨[120], 2, 60, [⟨[97, 46, 110, 115], 0, 0⟩]⟩, []⟩, ⟨⟨[120], 4, 60, [⟨[], 0, 60⟩]⟩, []⟩, ⟨⟨[119, 46, 120], 1, 5, [⟨[], 3, 0⟩, ⟨[], 7, 0⟩]⟩, []⟩]⟩ : Zon), 0) := by kernel_rfl
theorem hu2 : updR (exZ 65535 [7]) ⟨[], [⟨2, ⟨[120], 2, 60, [⟨[97, 46, 110, 115], 0, 0⟩]⟩⟩]⟩ = (zon0, 6) := by kernel_rfl
theorem hu3 : updR (exZ 65535 [7]) ⟨[(⟨4, ⟨[119, 46, 120], 1, 0, []⟩⟩ : Chg)], []⟩ = (zon0, 24) := by kernel_rfl
theorem hu4 : updR (exZ 65535 [7]) ⟨[], []⟩ = ((exZ 65535 [7]), 0) := by kernel_rfl
theorem hh1 : holdsF (exZ 65535 [7]) ⟨5, (⟨[119, 46, 120], 1, 5, [⟨[], 3, 0⟩]⟩ : RSet)⟩ = (false, 0) := by kernel_rfl
theorem hh2 : holdsF (exZ 65535 [7]) ⟨5, ⟨[119, 46, 120], 1, 60, [⟨[], 7, 0⟩]⟩⟩ = (true, 0) := by kernel_rfl
theorem hh3 : holdsF (exZ 65535 [7]) ⟨1, ⟨[121], 0, 0, []⟩⟩ = (false, 20) := by kernel_rfl
theorem hs8 : sameZ (⟨[120], [⟨⟨[120], 2, 60, [⟨[97, 46, 110, 115], 0, 0⟩]⟩, []⟩, ⟨⟨[120], 4, 60, [⟨[], 0, 60⟩]⟩, []⟩, ⟨⟨[119, 46, 120], 1, 5, [⟨[], 3, 0⟩, ⟨[], 7, 0⟩]⟩, []⟩]⟩ : Zon) (⟨[120], [⟨⟨[120], 2, 60, [⟨[97, 46, 110, 115], 0, 0⟩]⟩, []⟩, ⟨⟨[120], 4, 60, [⟨[], 0, 60⟩]⟩, []⟩, ⟨⟨[119, 46, 120], 1, 5, [⟨[], 3, 0⟩, ⟨[], 7, 0⟩]⟩, []⟩]⟩ : Zon) = true := by exact decide_eq_true rfl
theorem hs9 : sameZ (exZ 65535 [7]) (exZ 65535 [7]) = true := by exact decide_eq_true rfl
theorem hfy : Zu3 (Zon.sets (⟨[120], [⟨⟨[120], 2, 60, [⟨[97, 46, 110, 115], 0, 0⟩]⟩, []⟩, ⟨⟨[120], 4, 60, [⟨[], 0, 60⟩]⟩, []⟩, ⟨⟨[119, 46, 120], 1, 5, [⟨[], 3, 0⟩, ⟨[], 7, 0⟩]⟩, []⟩]⟩ : Zon)) := ⟨by decide, by intro k hk; have : k = 0 ∨ k = 1 ∨ k = 2 := (by have : (Zon.sets (⟨[120], [⟨⟨[120], 2, 60, [⟨[97, 46, 110, 115], 0, 0⟩]⟩, []⟩, ⟨⟨[120], 4, 60, [⟨[], 0, 60⟩]⟩, []⟩, ⟨⟨[119, 46, 120], 1, 5, [⟨[], 3, 0⟩, ⟨[], 7, 0⟩]⟩, []⟩]⟩ : Zon)).length = 3 := rfl; omega); rcases this with e | e | e <;> subst e <;> exact ⟨by decide, by decide⟩⟩
theorem hfz : Zu3 (Zon.sets (exZ 65535 [7])) := ⟨by decide, by intro k hk; have : k = 0 ∨ k = 1 ∨ k = 2 := (by have : (Zon.sets (exZ 65535 [7])).length = 3 := rfl; omega); rcases this with e | e | e <;> subst e <;> exact ⟨by decide, by decide⟩⟩
theorem Znc {z x : Zon} {u : Upd} {e : Int} (h : updR z u = (x, e)) : PureCt Tryz.prog 13 [.agg z.d, .agg u.d] (.tuple [.agg x.d, .i e]) := by
 have := Zwz z u
 rwa [h] at this
theorem Zih {z : Zon} {n : Chg} {x : Bool} {e : Int} (h : holdsF z n = (x, e)) : PureCt Tryz.prog 15 [.agg z.d, .agg n.d] (.tuple [.b x, .i e]) := by
 have := Ztz z n
 rwa [h] at this
theorem Zgd {x : Zon} (h : Zu3 x.sets) : PureCt Tryz.prog 17 [.agg x.d, .agg x.d] (.b true) := by
 have := Zk8 x x h
 rwa [show sameZ x x = true from decide_eq_true rfl] at this
theorem bo10 : Zea Tryz.prog 10 = true := by kernel_rfl
theorem Yka  : PureCt Tryz.prog 10 [] (.b true) := by
 refine Zca Tryz.func10 rfl bo10 (by simp [go_sem, D.nr, nrs, nrr]) (by simp [Tryz.f10]) ?_
 unfold Tryz.f10
 simp only [Zfa]
 have ff := True.intro
 have ff := And.intro @hu1 (And.intro @hu2 (And.intro @hu3 (And.intro @hu4 (And.intro @hh1 (And.intro @hh2 (And.intro @hh3 (And.intro @hs8 (And.intro @hs9 ff))))))))
 refine stp Lun ?_
 refine stp Lun ?_ (hok := by (try simp only [go_sem, ff]); all_goals (first | done | ((repeat' (with_reducible apply And.intro)) <;> first | exact Zp3 65535 [7] (by decide) | (intros; exact Zp3 65535 [7] (by decide)) | rfl | omega | skip)))
 refine stp Lun ?_ (hok := by (try simp only [go_sem, ff]); all_goals (first | done | ((repeat' (with_reducible apply And.intro)) <;> first | exact Zbc [119, 46, 120] 1 [] 3 0 | (intros; exact Zbc [119, 46, 120] 1 [] 3 0) | rfl | omega | skip)))
 refine stp Lun ?_
 refine stp Lun ?_
 refine stp Lun ?_ (hok := by (try simp only [go_sem, ff]); all_goals (first | done | ((repeat' (with_reducible apply And.intro)) <;> first | exact Znc hu1 | (intros; exact Znc hu1) | rfl | omega | skip)))
 refine Zaa (Ze2 Lun 1 (hct := by exact uex_rct 0 [3, 7] (by decide) _ _) (hk := ?_))
 rintro res h2 n2 ⟨rs, rfl, x1, x2, x3, x4⟩
 try dsimp only at x2 x3 x4
 have y3 : h2 3 = _ := (x4 3 (by omega)).trans (by simp only [go_sem, ff]; exact rfl)
 have y6 : h2 6 = _ := (x4 6 (by omega)).trans (by simp only [go_sem, ff]; exact rfl)
 have y12 : h2 12 = _ := (x4 12 (by omega)).trans (by simp only [go_sem, ff]; exact rfl)
 have y25 : h2 25 = _ := (x4 25 (by omega)).trans (by simp only [go_sem, ff]; exact rfl)
 have zrs_3 : (rs = 3) = False := eq_false (by omega)
 have y3_rs : (3 = rs) = False := eq_false (by omega)
 have zrs_6 : (rs = 6) = False := eq_false (by omega)
 have y6_rs : (6 = rs) = False := eq_false (by omega)
 have zrs_12 : (rs = 12) = False := eq_false (by omega)
 have y12_rs : (12 = rs) = False := eq_false (by omega)
 have zrs_25 : (rs = 25) = False := eq_false (by omega)
 have y25_rs : (25 = rs) = False := eq_false (by omega)
 have zrs_n22 : (rs = n2 + 2) = False := eq_false (by omega)
 have yn22_rs : (n2 + 2 = rs) = False := eq_false (by omega)
 have zn22_3 : (n2 + 2 = 3) = False := eq_false (by omega)
 have y3_n22 : (3 = n2 + 2) = False := eq_false (by omega)
 have zn22_6 : (n2 + 2 = 6) = False := eq_false (by omega)
 have y6_n22 : (6 = n2 + 2) = False := eq_false (by omega)
 have zn22_12 : (n2 + 2 = 12) = False := eq_false (by omega)
 have y12_n22 : (12 = n2 + 2) = False := eq_false (by omega)
 have zn22_25 : (n2 + 2 = 25) = False := eq_false (by omega)
 have y25_n22 : (25 = n2 + 2) = False := eq_false (by omega)
 have zn219_3 : (n2 + 19 = 3) = False := eq_false (by omega)
 have y3_n219 : (3 = n2 + 19) = False := eq_false (by omega)
 have zn219_6 : (n2 + 19 = 6) = False := eq_false (by omega)
 have y6_n219 : (6 = n2 + 19) = False := eq_false (by omega)
 have zn219_12 : (n2 + 19 = 12) = False := eq_false (by omega)
 have y12_n219 : (12 = n2 + 19) = False := eq_false (by omega)
 have zn219_25 : (n2 + 19 = 25) = False := eq_false (by omega)
 have y25_n219 : (25 = n2 + 19) = False := eq_false (by omega)
 have zn219_rs : (n2 + 19 = rs) = False := eq_false (by omega)
 have yrs_n219 : (rs = n2 + 19) = False := eq_false (by omega)
 have zn232_3 : (n2 + 32 = 3) = False := eq_false (by omega)
 have y3_n232 : (3 = n2 + 32) = False := eq_false (by omega)
 have zn232_6 : (n2 + 32 = 6) = False := eq_false (by omega)
 have y6_n232 : (6 = n2 + 32) = False := eq_false (by omega)
 have zn232_12 : (n2 + 32 = 12) = False := eq_false (by omega)
 have y12_n232 : (12 = n2 + 32) = False := eq_false (by omega)
 have zn232_25 : (n2 + 32 = 25) = False := eq_false (by omega)
 have y25_n232 : (25 = n2 + 32) = False := eq_false (by omega)
 have zn232_rs : (n2 + 32 = rs) = False := eq_false (by omega)
 have yrs_n232 : (rs = n2 + 32) = False := eq_false (by omega)
 have zn241_3 : (n2 + 41 = 3) = False := eq_false (by omega)
 have y3_n241 : (3 = n2 + 41) = False := eq_false (by omega)
 have zn241_6 : (n2 + 41 = 6) = False := eq_false (by omega)
 have y6_n241 : (6 = n2 + 41) = False := eq_false (by omega)
 have zn241_12 : (n2 + 41 = 12) = False := eq_false (by omega)
 have y12_n241 : (12 = n2 + 41) = False := eq_false (by omega)
 have zn241_25 : (n2 + 41 = 25) = False := eq_false (by omega)
 have y25_n241 : (25 = n2 + 41) = False := eq_false (by omega)
 have zn241_rs : (n2 + 41 = rs) = False := eq_false (by omega)
 have yrs_n241 : (rs = n2 + 41) = False := eq_false (by omega)
 have ff := And.intro @x1 (And.intro @y3 (And.intro @y6 (And.intro @y12 (And.intro @y25 (And.intro @zrs_3 (And.intro @y3_rs (And.intro @zrs_6 (And.intro @y6_rs (And.intro @zrs_12 (And.intro @y12_rs (And.intro @zrs_25 (And.intro @y25_rs (And.intro @zrs_n22 (And.intro @yn22_rs (And.intro @zn22_3 (And.intro @y3_n22 (And.intro @zn22_6 (And.intro @y6_n22 (And.intro @zn22_12 (And.intro @y12_n22 (And.intro @zn22_25 (And.intro @y25_n22 (And.intro @zn219_3 (And.intro @y3_n219 (And.intro @zn219_6 (And.intro @y6_n219 (And.intro @zn219_12 (And.intro @y12_n219 (And.intro @zn219_25 (And.intro @y25_n219 (And.intro @zn219_rs (And.intro @yrs_n219 (And.intro @zn232_3 (And.intro @y3_n232 (And.intro @zn232_6 (And.intro @y6_n232 (And.intro @zn232_12 (And.intro @y12_n232 (And.intro @zn232_25 (And.intro @y25_n232 (And.intro @zn232_rs (And.intro @yrs_n232 (And.intro @zn241_3 (And.intro @y3_n241 (And.intro @zn241_6 (And.intro @y6_n241 (And.intro @zn241_12 (And.intro @y12_n241 (And.intro @zn241_25 (And.intro @y25_n241 (And.intro @zn241_rs (And.intro @yrs_n241 ff))))))))))))))))))))))))))))))))))))))))))))))))))))
 refine Zd2 Lun ?_
 show DW _ _ _ _ _
 refine stp Lun ?_
 refine Znn (n2 + 2) 1 rs (off := 0) (len := 3) (by simp only [go_sem, ff]; exact rfl) (by rfl) (by simp only [go_sem, ff]; exact rfl) (by omega) (by decide) (by rfl) ?_
 simp only [List.drop_zero, List.set_cons_succ, List.set_cons_zero, List.take_succ_cons, List.take_zero]
 refine stp LunF ?_ (hok := by (try simp only [go_sem, ff]); all_goals (first | done | ((repeat' (with_reducible apply And.intro)) <;> first | exact Zbc [120] 2 [97, 46, 110, 115] 0 0 | (intros; exact Zbc [120] 2 [97, 46, 110, 115] 0 0) | exact Znc hu2 | (intros; exact Znc hu2) | rfl | omega | skip)))
 refine stp Lun ?_
 refine stp Lun ?_ (hok := by (try simp only [go_sem, ff]); all_goals (first | done | ((repeat' (with_reducible apply And.intro)) <;> first | exact Znc hu3 | (intros; exact Znc hu3) | rfl | omega | skip)))
 refine stp Lun ?_ (hok := by (try simp only [go_sem, ff]); all_goals (first | done | ((repeat' (with_reducible apply And.intro)) <;> first | exact Znc hu4 | (intros; exact Znc hu4) | rfl | omega | skip)))
 refine stp Lun ?_ (hok := by (try simp only [go_sem, ff]); all_goals (first | done | ((repeat' (with_reducible apply And.intro)) <;> first | exact Zih hh1 | (intros; exact Zih hh1) | rfl | omega | skip)))
 refine stp LunF ?_ (hok := by (try simp only [go_sem, ff]); all_goals (first | done | ((repeat' (with_reducible apply And.intro)) <;> first | exact Zbc [119, 46, 120] 1 [] 7 0 | (intros; exact Zbc [119, 46, 120] 1 [] 7 0) | exact Zih hh2 | (intros; exact Zih hh2) | rfl | omega | skip)))
 refine stp Lun ?_ (hok := by (try simp only [go_sem, ff]); all_goals (first | done | ((repeat' (with_reducible apply And.intro)) <;> first | exact Zih hh3 | (intros; exact Zih hh3) | rfl | omega | skip)))
 refine stp Lun ?_
 refine stp Lun ?_ (hok := by (try simp only [go_sem, ff]); all_goals (first | done | ((repeat' (with_reducible apply And.intro)) <;> first | exact (fun _ => Zgd hfy) | (intros; exact (fun _ => Zgd hfy)) | exact Zgd hfy | (intros; exact Zgd hfy) | exact (fun _ => Zgd hfz) | (intros; exact (fun _ => Zgd hfz)) | rfl | omega | skip)))
 refine Zba ?_
 exact fin 0 (hr := by (try simp only [go_sem, ff]); all_goals (first | rfl | kernel_rfl))
set_option maxRecDepth 10000
def hAll (z : Zon) (l : List Chg) : Nat → Bool
 | 0 => true
 | k + 1 => hAll z l k && holdB z l[k]!
@[go_sem] theorem hAll_0 {z : Zon} {l : List Chg} : hAll z l 0 = true := rfl
set_option maxRecDepth 10000
set_option maxRecDepth 10000
theorem Zsq {x y : Zon} {s : RSet} (hx : ZOrd x) (h : ∀ p : Qst, p ≠ ⟨s.name, s.ty⟩ → p.ty ≠ 4 → Zmd y.sets p = Zmd x.sets p) : othB x y s = true := by
 unfold othB
 rw [Zoa]
 intro i _ hi
 unfold Zvl
 by_cases h4 : x.sets[i]!.set.ty = 4
 ·
  rw [decide_eq_true h4]; rfl
 by_cases hq : x.sets[i]!.q = ⟨s.name, s.ty⟩
 ·
  have h1 : x.sets[i]!.set.name = s.name := congrArg Qst.name hq
  have h2 : x.sets[i]!.set.ty = s.ty := congrArg Qst.ty hq
  rw [decide_eq_true h1, decide_eq_true h2]
  simp
 ·
  have hm := Zqg hx.ord (Zkb hi)
  have h3 := h x.sets[i]!.q hq h4
  rw [hm] at h3
  obtain ⟨a, b⟩ := atF_yes h3
  have a' : 0 ≤ atF y.sets ⟨x.sets[i]!.set.name, x.sets[i]!.set.ty⟩ := a
  have b' : y.sets[(atF y.sets ⟨x.sets[i]!.set.name, x.sets[i]!.set.ty⟩).toNat]! = x.sets[i]! := b
  rw [b', decide_eq_true a', Zbx]
  simp
theorem Zc9 {z y : Zon} {s : RSet} (hz : ZOrd z) (hy : ZOrd y) (h : ∀ p : Qst, p ≠ ⟨s.name, s.ty⟩ → p.ty ≠ 4 → Zmd y.sets p = Zmd z.sets p) : Zen z y s = true := by
 unfold Zen
 rw [Zsq hz h, Zsq hy fun p h1 h2 => (h p h1 h2).symm]
 rfl
theorem Zl1 {z : Zon} (hz : zoneOk z = true) {q : Qst} (hq : qOk q = true) {x : Sgd} (h : Zmd z.sets q = some x) : Zmi z q = (x, true, 0) := by
 have zo := Zrf hz
 have hn : nameOk q.name = true := by unfold qOk at hq; rw [Bool.and_eq_true] at hq; exact hq.1
 rw [Zig zo.ord zo.nms hn] at h
 unfold Zmi
 rw [hq, hz, if_pos (show (true && true) = true from rfl)]
 cases hf : findOk z.sets q with
 | false => rw [hf] at h; cases h
 | true => rw [hf, if_pos rfl] at h; rw [if_pos rfl, Option.some.inj h]
theorem find_Rn {z : Zon} (hz : zoneOk z = true) {q : Qst} (hq : qOk q = true) (h : Zmd z.sets q = none) : Zmi z q = (sgd0, false, 0) := by
 have zo := Zrf hz
 have hn : nameOk q.name = true := by unfold qOk at hq; rw [Bool.and_eq_true] at hq; exact hq.1
 rw [Zig zo.ord zo.nms hn] at h
 unfold Zmi
 rw [hq, hz, if_pos (show (true && true) = true from rfl)]
 cases hf : findOk z.sets q with
 | true => rw [hf, if_pos rfl] at h; cases h
 | false => rw [if_neg (by simp)]
theorem Zbp {z : Zon} {q : Qst} {x : Sgd} {b : Bool} {e : Int} (hz : Zu3 z.sets) (h : Zmi z q = (x, b, e)) : PureCt Tryz.prog 27 [.agg z.d, .agg q.d] (.tuple [.agg x.d, .b b, .i e]) := by
 have := Zc7 z q hz
 rwa [h] at this
theorem set_q {s : RSet} (h : Zis s) : qOk ⟨s.name, s.ty⟩ = true := by
 unfold qOk
 rw [Bool.and_eq_true]
 exact ⟨h.name, h.ty⟩
theorem Zck {a b : Zon} {s : RSet} (ha : Zu3 a.sets) (hb : Zu3 b.sets) (h : Zen a b s = true) : PureCt Tryz.prog 28 [.agg a.d, .agg b.d, .agg s.d] (.b true) := by
 have := Zey a b s ha hb
 rwa [h] at this
theorem has_no {l : List Dat} {x : Dat} (h : x ∉ l) : hasD l x = false := decide_eq_false h
theorem Zf1 {l : List Dat} {x : Dat} (h : x ∈ l) : hasD l x = true := decide_eq_true h
set_option maxRecDepth 10000
theorem add_law {z y : Zon} {s : RSet} (hz : zoneOk z = true) (h : updR z ⟨[], [⟨1, s⟩]⟩ = (y, 0)) : ∃ x o b, Zmi z ⟨s.name, s.ty⟩ = (o, b, 0) ∧ Zmi y ⟨s.name, s.ty⟩ = (x, true, 0) ∧ x.set.life = s.life ∧ (∀ p : Qst, p ≠ ⟨s.name, s.ty⟩ → p.ty ≠ 4 → Zmd y.sets p = Zmd z.sets p) ∧
  (s.ty = 3 ∨ s.ty = 4 → x.set.data.length = 1) ∧ (s.ty ≠ 3 → s.ty ≠ 4 → ∀ d, d ∈ x.set.data ↔ d ∈ s.data ∨ d ∈ o.set.data) ∧ zoneOk y = true ∧ s.data.length ≤ 1000000 ∧ o.set.data.length ≤ 1000000 ∧ x.set.data.length ≤ 1000000 := by
 obtain ⟨x, w1, w2, w3, w4, w5, hyo⟩ := upd_add h
 obtain ⟨_, _, _, hco, _⟩ := one_in h
 have hso : Zis s := (Zas hco (.inl rfl)).1
 have hqk : qOk ⟨s.name, s.ty⟩ = true := set_q hso
 have fx : x.set.data.length ≤ 1000000 := by
  obtain ⟨k, hk, e⟩ := mem_ix.1 (Zwc w1).1
  rw [← e]; exact Nat.le_trans ((Zap hyo).2 k hk).1 (by decide)
 have fs : s.data.length ≤ 1000000 := by have := hso.len; omega
 cases hmz : Zmd z.sets ⟨s.name, s.ty⟩ with
 | none =>
  refine ⟨x, sgd0, false, find_Rn hz hqk hmz, Zl1 hyo hqk w1, w2, w3, w4, fun h3 h4 d => ?_, hyo, fs, by decide, fx⟩
  rw [w5 h3 h4, hmz]
  constructor
  ·
   rintro (k | ⟨o, k, _⟩)
   ·
    exact .inl k
   ·
    cases k
  ·
   rintro (k | k)
   ·
    exact .inl k
   ·
    cases k
 | some o =>
  have fo : o.set.data.length ≤ 1000000 := by
   obtain ⟨k, hk, e⟩ := mem_ix.1 (Zwc hmz).1
   rw [← e]; exact Nat.le_trans ((Zap hz).2 k hk).1 (by decide)
  refine ⟨x, o, true, Zl1 hz hqk hmz, Zl1 hyo hqk w1, w2, w3, w4, fun h3 h4 d => ?_, hyo, fs, fo, fx⟩
  rw [w5 h3 h4, hmz]
  constructor
  ·
   rintro (k | ⟨o', k, k2⟩)
   ·
    exact .inl k
   ·
    cases k; exact .inr k2
  ·
   rintro (k | k)
   ·
    exact .inl k
   ·
    exact .inr ⟨o, rfl, k⟩
theorem bo8 : Zea Tryz.prog 8 = true := by kernel_rfl
set_option maxHeartbeats 1000000 in
set_option maxRecDepth 4000 in
theorem lawUA_ct (z : Zon) (s : RSet) : PureCt Tryz.prog 8 [.agg z.d, .agg s.d] (.b true) := by
 refine Zca Tryz.func8 rfl bo8 (by simp [go_sem, D.nr, nrs, nrr]) (by simp [Tryz.f8]) ?_
 unfold Tryz.f8
 simp only [Zfa]
 have ff := True.intro
 refine stp Lun ?_
 refine stp Lun ?_ (hok := by (try simp only [go_sem, ff]); all_goals (exact Yka))
 refine stp Lun ?_
 refine Zaa ?_
 refine stp Lun ?_ (hok := by (try simp only [go_sem, ff]); all_goals (first | done | ((repeat' (with_reducible apply And.intro)) <;> first | exact Zao z ⟨[], [⟨1, s⟩]⟩ | (intros; exact Zao z ⟨[], [⟨1, s⟩]⟩) | exact ez9 | skip)))
 refine cd (fun c1 => ?_) (fun c1 => ?_)
 ·
  refine stp Lun ?_
  refine Zba ?_
  exact fin 0 (hr := by (try simp only [go_sem, ff]); all_goals (rfl))
 ·
  have hus : Zkk z ⟨[], [⟨1, s⟩]⟩ = true := by grind
  obtain ⟨u1, u2, u3, u4, u5⟩ := Zr4 hus
  have zfit := Zap u2.ok
  refine dw_skip ?_
  show DW _ _ _ _ _
  rcases hx : updR z ⟨[], [⟨1, s⟩]⟩ with ⟨y, e⟩
  by_cases he : e = 0
  ·
   subst he
   obtain ⟨x, o, b9, hfz, hfy, w2, w3, w4, w5, hyo, fs, fo, fx⟩ := add_law u2.ok hx
   have yfit := Zap hyo
   have hot := Zc9 u2.zo (Zrf hyo) w3
   have hlb : (x.set.life != s.life) = false := by rw [w2]; simp
   have ff := And.intro @hx (And.intro @hot (And.intro @hfz (And.intro @hfy (And.intro @hlb ff))))
   refine stp Lun ?_ (hok := by (try simp only [go_sem, ff]); all_goals (first | done | ((repeat' (with_reducible apply And.intro)) <;> first | exact Znc hx | (intros; exact Znc hx) | exact ez9 | skip)))
   refine Zaa ?_
   refine stp Lun ?_
   refine cd (fun c2 => ?_) (fun c2 => ?_) (hp := rfl) (hq := rfl)
   ·
    exfalso; simp at c2; done
   ·
    refine dw_skip ?_
    show DW _ _ _ _ _
    refine stp Lun ?_
    refine stp Lun ?_ (hok := by (try simp only [go_sem, ff]); all_goals (first | done | ((repeat' (with_reducible apply And.intro)) <;> first | exact Zbp zfit hfz | (intros; exact Zbp zfit hfz) | exact ez9 | skip)))
    refine stp Lun ?_ (hok := by (try simp only [go_sem, ff]); all_goals (first | done | ((repeat' (with_reducible apply And.intro)) <;> first | exact Zbp yfit hfy | (intros; exact Zbp yfit hfy) | exact ez9 | skip)))
    refine Zaa ?_
    refine stp Lun ?_ (hok := by (try simp only [go_sem, ff]); all_goals (first | done | ((repeat' (with_reducible apply And.intro)) <;> first | exact Zck zfit yfit hot | (intros; exact Zck zfit yfit hot) | exact (fun _ => Zck zfit yfit hot) | (intros; exact (fun _ => Zck zfit yfit hot)) | exact ez9 | skip)))
    refine cd (fun c3 => ?_) (fun c3 => ?_) (hp := rfl) (hq := rfl)
    ·
     exfalso; simp at c3; done
    ·
     refine dw_skip ?_
     show DW _ _ _ _ _
     refine Zaa ?_
     refine stp Lun ?_
     refine cd (fun c4 => ?_) (fun c4 => ?_)
     ·
      have hl1 : x.set.data.length = 1 := w4 (by first | omega | grind)
      have ff := And.intro @hl1 ff
      refine stp Lun ?_
      refine Zba ?_
      exact fin 0 (hr := by (try simp only [go_sem, ff]); all_goals (first | rfl | (simp; done)))
     ·
      have w6 := w5 (by first | omega | grind) (by first | omega | grind)
      refine dw_skip ?_
      show DW _ _ _ _ _
      refine Zaa ?_
      obtain ⟨L, hL⟩ : ∃ L, L = o.set.data ++ s.data := ⟨_, rfl⟩
      have hap : o.set.data.map Dat.d ++ s.data.map Dat.d = L.map Dat.d := by rw [hL, List.map_append]
      have hln : o.set.data.length + s.data.length = L.length := by rw [hL, List.length_append]
      have hl9 : L.length ≤ 2000000 := by omega
      have ff := And.intro @hap (And.intro @hln ff)
      refine stpP Lun [⟨4, 6⟩] ?_ (hok := by (try simp only [go_sem, ff]); all_goals (first | exact ok0 | ((repeat' (with_reducible apply And.intro)) <;> first | omega | (intros; omega) | skip)))
      refine Zda ?_
      refine lp (α := (Nat) × Nat) [3, 5, 10, 13, 106, 107] (fun ⟨k, nx⟩ => (k ≤ L.length) ∧ (95 < nx) ∧ True) (fun ⟨k, nx⟩ => L.length - k) (fun ⟨k, nx⟩ => [(108, .i k)]) (fun ⟨k, nx⟩ => [(1, ⟨31, [s.d]⟩), (40, ⟨52, [o.d]⟩), (51, ⟨52, [x.d]⟩), (95, ⟨63, L.map Dat.d⟩)]) (fun ⟨k, nx⟩ => nx) (0, _) (hA := ⟨iv, (by first | (omega) | (dsimp only; omega)), trivial⟩) (round := ?_) (ht := by simp only [go_sem, ff]; exact .inl rfl)
      rintro ⟨k, nx⟩ ⟨hk, hx8, -⟩
      show DW _ _ _ _ { n := _, t := tab _, h := _, nx := _, e := _ }
      simp only [List.cons_append, List.nil_append]
      have m_1 : 1 < nx := by omega
      have m_40 : 40 < nx := by omega
      have m_51 : 51 < nx := by omega
      have m_95 : 95 < nx := by omega
      have ff := And.intro @m_1 (And.intro @m_40 (And.intro @m_51 (And.intro @m_95 ff)))
      refine stp Lun ?_
      refine Zaa ?_
      refine cd (fun c5 => ?_) (fun c5 => ?_) (hp := rfl) (hq := rfl)
      ·
       have hk2 : k < L.length := by simpa using c5
       have hmx : hasD x.set.data L[k]! = true := Zf1 ((w6 _).2 (by have := Zkb hk2; rw [hL] at this ⊢; rcases List.mem_append.1 this with q | q; exact .inr q; exact .inl q))
       have ff := And.intro (Zec hk2) (And.intro @hmx ff)
       refine dw_skip ?_
       show DW _ _ _ _ _
       refine Zaa ?_
       refine Zda ?_
       refine stp Lun ?_
       refine stp Lun ?_ (hok := by (try simp only [go_sem, ff]); all_goals (first | done | ((repeat' (with_reducible apply And.intro)) <;> first | exact (by have h9 := Zla x.set.data L[k]! fx; rw [hmx] at h9; exact h9) | (intros; exact (by have h9 := Zla x.set.data L[k]! fx; rw [hmx] at h9; exact h9)) | exact ez9 | skip)))
       refine cd (fun c6 => ?_) (fun c6 => ?_) (hp := rfl) (hq := rfl)
       ·
        exfalso; simp at c6; done
       ·
        refine dw_skip ?_
        show DW _ _ _ _ _
        refine rgn Lun ?_
        show ∃ _, _
        exact rnd (k + 1, _) (h1 := ⟨iv, iv, trivial⟩)
      ·
       refine Zka ?_
       show DW _ _ _ _ _
       refine Zaa ?_
       refine stp Lun ?_
       refine Zda ?_
       refine lp (α := (Nat) × Nat) [3, 10, 121, 122] (fun ⟨k, nx⟩ => (k ≤ x.set.data.length) ∧ (51 < nx) ∧ True) (fun ⟨k, nx⟩ => x.set.data.length - k) (fun ⟨k, nx⟩ => [(5, .b true), (123, .i k)]) (fun ⟨k, nx⟩ => [(1, ⟨31, [s.d]⟩), (40, ⟨52, [o.d]⟩), (51, ⟨52, [x.d]⟩)]) (fun ⟨k, nx⟩ => nx) (0, _) (hA := ⟨iv, (by first | (omega) | (dsimp only; omega)), trivial⟩) (round := ?_) (ht := by simp only [go_sem, ff]; exact .inl rfl)
       rintro ⟨k, nx⟩ ⟨hk, hx8, -⟩
       show DW _ _ _ _ { n := _, t := tab _, h := _, nx := _, e := _ }
       simp only [List.cons_append, List.nil_append]
       have m_1 : 1 < nx := by omega
       have m_40 : 40 < nx := by omega
       have m_51 : 51 < nx := by omega
       have ff := And.intro @m_1 (And.intro @m_40 (And.intro @m_51 ff))
       refine stp Lun ?_
       refine Zaa ?_
       refine cd (fun c7 => ?_) (fun c7 => ?_) (hp := rfl) (hq := rfl)
       ·
        have hk2 : k < x.set.data.length := by simpa using c7
        have ff := And.intro (Zec hk2) ff
        refine dw_skip ?_
        show DW _ _ _ _ _
        refine Zaa ?_
        refine Zda ?_
        refine stp Lun ?_
        by_cases hM : x.set.data[k]! ∈ o.set.data
        ·
         have hD : hasD o.set.data x.set.data[k]! = true := Zf1 hM
         have ff := And.intro @hD ff
         refine rgn Lun ?_ (hok := by (try simp only [go_sem, ff]); all_goals (first | done | ((repeat' (with_reducible apply And.intro)) <;> first | exact (by have h9 := Zla o.set.data x.set.data[k]! fo; rw [hD] at h9; exact h9) | (intros; exact (by have h9 := Zla o.set.data x.set.data[k]! fo; rw [hD] at h9; exact h9)) | exact (fun _ => by have h9 := Zla o.set.data x.set.data[k]! fo; rw [hD] at h9; exact h9) | (intros; exact (fun _ => by have h9 := Zla o.set.data x.set.data[k]! fo; rw [hD] at h9; exact h9)) | exact (fun _ _ => by have h9 := Zla o.set.data x.set.data[k]! fo; rw [hD] at h9; exact h9) | (intros; exact (fun _ _ => by have h9 := Zla o.set.data x.set.data[k]! fo; rw [hD] at h9; exact h9)) | exact (by have h9 := Zla s.data x.set.data[k]! fs; rw [hE] at h9; exact h9) | (intros; exact (by have h9 := Zla s.data x.set.data[k]! fs; rw [hE] at h9; exact h9)) | exact (fun _ => by have h9 := Zla s.data x.set.data[k]! fs; rw [hE] at h9; exact h9) | (intros; exact (fun _ => by have h9 := Zla s.data x.set.data[k]! fs; rw [hE] at h9; exact h9)) | exact (fun _ _ => by have h9 := Zla s.data x.set.data[k]! fs; rw [hE] at h9; exact h9) | (intros; exact (fun _ _ => by have h9 := Zla s.data x.set.data[k]! fs; rw [hE] at h9; exact h9)) | exact (Zla s.data x.set.data[k]! fs) | (intros; exact (Zla s.data x.set.data[k]! fs)) | exact (fun _ => Zla s.data x.set.data[k]! fs) | (intros; exact (fun _ => Zla s.data x.set.data[k]! fs)) | exact (fun _ _ => Zla s.data x.set.data[k]! fs) | (intros; exact (fun _ _ => Zla s.data x.set.data[k]! fs)) | exact ez9 | skip)))
         show DW _ _ _ _ _
         refine rgn Lun ?_
         show ∃ _, _
         exact rnd (k + 1, _) (h1 := ⟨iv, iv, trivial⟩)
        ·
         have hD : hasD o.set.data x.set.data[k]! = false := has_no hM
         have hE : hasD s.data x.set.data[k]! = true := Zf1 (((w6 _).1 (Zkb hk2)).resolve_right hM)
         have ff := And.intro @hD (And.intro @hE ff)
         refine rgn Lun ?_ (hok := by (try simp only [go_sem, ff]); all_goals (first | done | ((repeat' (with_reducible apply And.intro)) <;> first | exact (by have h9 := Zla o.set.data x.set.data[k]! fo; rw [hD] at h9; exact h9) | (intros; exact (by have h9 := Zla o.set.data x.set.data[k]! fo; rw [hD] at h9; exact h9)) | exact (fun _ => by have h9 := Zla o.set.data x.set.data[k]! fo; rw [hD] at h9; exact h9) | (intros; exact (fun _ => by have h9 := Zla o.set.data x.set.data[k]! fo; rw [hD] at h9; exact h9)) | exact (fun _ _ => by have h9 := Zla o.set.data x.set.data[k]! fo; rw [hD] at h9; exact h9) | (intros; exact (fun _ _ => by have h9 := Zla o.set.data x.set.data[k]! fo; rw [hD] at h9; exact h9)) | exact (by have h9 := Zla s.data x.set.data[k]! fs; rw [hE] at h9; exact h9) | (intros; exact (by have h9 := Zla s.data x.set.data[k]! fs; rw [hE] at h9; exact h9)) | exact (fun _ => by have h9 := Zla s.data x.set.data[k]! fs; rw [hE] at h9; exact h9) | (intros; exact (fun _ => by have h9 := Zla s.data x.set.data[k]! fs; rw [hE] at h9; exact h9)) | exact (fun _ _ => by have h9 := Zla s.data x.set.data[k]! fs; rw [hE] at h9; exact h9) | (intros; exact (fun _ _ => by have h9 := Zla s.data x.set.data[k]! fs; rw [hE] at h9; exact h9)) | exact (Zla s.data x.set.data[k]! fs) | (intros; exact (Zla s.data x.set.data[k]! fs)) | exact (fun _ => Zla s.data x.set.data[k]! fs) | (intros; exact (fun _ => Zla s.data x.set.data[k]! fs)) | exact (fun _ _ => Zla s.data x.set.data[k]! fs) | (intros; exact (fun _ _ => Zla s.data x.set.data[k]! fs)) | exact ez9 | skip)))
         show DW _ _ _ _ _
         refine rgn Lun ?_
         show ∃ _, _
         exact rnd (k + 1, _) (h1 := ⟨iv, iv, trivial⟩)
       ·
        refine Zka ?_
        show DW _ _ _ _ _
        refine stp Lun ?_
        refine Zba ?_
        exact fin 0 (hr := by (try simp only [go_sem, ff]); all_goals (rfl))
  ·
   have ff := And.intro @hx ff
   refine stp Lun ?_ (hok := by (try simp only [go_sem, ff]); all_goals (first | done | ((repeat' (with_reducible apply And.intro)) <;> first | exact Znc hx | (intros; exact Znc hx) | exact ez9 | skip)))
   refine Zaa ?_
   refine stp Lun ?_
   refine cd (fun c2 => ?_) (fun c2 => ?_) (hq := rfl)
   ·
    refine stp Lun ?_
    refine Zba ?_
    exact fin 0 (hr := by (try simp only [go_sem, ff]); all_goals (rfl))
   ·
    exact absurd c2 (by simpa using he)
end Go.Proofs.YtmkblfajmnhccaaGreatDoor
