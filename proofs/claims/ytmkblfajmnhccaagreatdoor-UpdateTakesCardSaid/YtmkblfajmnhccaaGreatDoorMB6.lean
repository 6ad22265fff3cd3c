/-
  MANY TEXTS OF MINE IN ONE (a claim has a limit of files): UpW16, UrW1, UrW2, UrW3, UrW4, UrW5, UrW6, UrW7, UrW8, UrW9, UlW1, UlW2, UlW3, UlW4, UlW5, UlW6, UlW7. Conditions: none.
-/
import Derived.Test.YtmkblfajmnhccaaGreatDoorMB5
set_option linter.unusedVariables false
set_option linter.unusedSimpArgs false
set_option linter.unusedSectionVars false
namespace Go.Proofs.YtmkblfajmnhccaaGreatDoor
open Go.DL Go.Str Go.Rec Go.Cmp Go.Zon
set_option maxRecDepth 10000
theorem uchange_no {z : Zon} {l : List Chg} (hz : PlainZ z) (hcs : ∀ c ∈ l, chgOk c = true) (hll : l.length ≤ 1000) (hn : chgsR z l = none) (h : H) (n : Nat) : RCt Tryz.prog 36 [.agg z.d, .list false (l.map Chg.d)] h n (fun d h' n' => d = .tuple [.agg [.v (.string (bs [])), .list true []], .i 6] ∧ ∀ q b, q < n → h q = some b → b.ty ≠ 52 → b.ty ≠ 63 → h' q = some b) :=
 (uchange_ct z l h n hz hcs hll).mono fun d h' n' ⟨h1, h2⟩ => by
  rcases h1 with ⟨_, e⟩ | ⟨y, zc, rs, p, hs, _⟩
  ·
   exact ⟨e, h2⟩
  ·
   rw [hn] at hs; cases hs
theorem uchange_yes {z y : Zon} {l : List Chg} (hz : PlainZ z) (hcs : ∀ c ∈ l, chgOk c = true) (hll : l.length ≤ 1000) (hy : chgsR z l = some y) (h : H) (n : Nat) : RCt Tryz.prog 36 [.agg z.d, .list false (l.map Chg.d)] h n (fun d h' n' => ∃ zc rs p, d = .tuple [.agg [.v (.string (bs z.apex)), .mrow rs 0 p.length], .i 0] ∧ ZM 24 52 63 zc rs z.apex p h' ∧ lP p = y.sets ∧ zc < n' ∧ rs < n' ∧ (∀ x ∈ p, x.1 < n') ∧ ∀ q b, q < n → h q = some b → b.ty ≠ 52 → b.ty ≠ 63 → h' q = some b) :=
 (uchange_ct z l h n hz hcs hll).mono fun d h' n' ⟨h1, h2⟩ => by
  rcases h1 with ⟨hs, _⟩ | ⟨y', zc, rs, p, hs, e, k1, k2, k3, k4, k5⟩
  ·
   rw [hy] at hs; cases hs
  ·
   rw [hy] at hs
   cases hs
   exact ⟨zc, rs, p, e, k1, k2, k3, k4, k5, h2⟩
theorem und_in {n a : Str} (hn : nameOk n = true) (ha : nameOk a = true) : underV n a = inB n a := underV_inB hn ha
theorem upz_1 {z : Zon} {u : Upd} (h : zoneOk z = false ∨ updOk u = false) : updR z u = (zon0, 1) := by unfold updR; rw [if_pos h]
theorem upz_2 {z : Zon} {u : Upd} (h1 : zoneOk z = true) (h2 : updOk u = true) (h : plainB z = false) : updR z u = (zon0, 12) := by
 unfold updR; rw [if_neg (by rw [h1, h2]; simp), if_pos h]
theorem upz_3 {z : Zon} {u : Upd} (h1 : zoneOk z = true) (h2 : updOk u = true) (h3 : plainB z = true) (h : cutB9 z u.needs = true ∨ cutB9 z u.chgs = true) : updR z u = (zon0, 20) := by
 unfold updR; rw [if_neg (by rw [h1, h2]; simp), if_neg (by rw [h3]; simp), if_pos h]
theorem upz_4 {z : Zon} {u : Upd} (h1 : zoneOk z = true) (h2 : updOk u = true) (h3 : plainB z = true) (h4 : ¬ (cutB9 z u.needs = true ∨ cutB9 z u.chgs = true)) (h : needsB z u.needs = false) : updR z u = (zon0, 24) := by
 unfold updR; rw [if_neg (by rw [h1, h2]; simp), if_neg (by rw [h3]; simp), if_neg h4, if_pos h]
theorem upz_5 {z : Zon} {u : Upd} (h1 : zoneOk z = true) (h2 : updOk u = true) (h3 : plainB z = true) (h4 : ¬ (cutB9 z u.needs = true ∨ cutB9 z u.chgs = true)) (h5 : needsB z u.needs = true) (h : chgsR z u.chgs = none) : updR z u = (zon0, 6) := by
 unfold updR; rw [if_neg (by rw [h1, h2]; simp), if_neg (by rw [h3]; simp), if_neg h4, if_neg (by rw [h5]; simp), h]
theorem upz_6 {z y : Zon} {u : Upd} (h1 : zoneOk z = true) (h2 : updOk u = true) (h3 : plainB z = true) (h4 : ¬ (cutB9 z u.needs = true ∨ cutB9 z u.chgs = true)) (h5 : needsB z u.needs = true) (h : chgsR z u.chgs = some y) : updR z u = (countR z y, 0) := by
 unfold updR; rw [if_neg (by rw [h1, h2]; simp), if_neg (by rw [h3]; simp), if_neg h4, if_neg (by rw [h5]; simp), h]
theorem holdP_plain {z : Zon} (h : zoneOk z = true) (hz : ZOrd z) {n : Chg} (hn : nameOk n.set.name = true) : holdP z n = holdB z n := by
 have key : findOk z.sets n.q = decide (0 ≤ atF z.sets n.q) := find_at hz (by exact hn)
 have key2 : 0 ≤ atF z.sets n.q → z.sets[findIx z.sets n.q]! = z.sets[(atF z.sets n.q).toNat]! := find_ix hz (by exact hn)
 unfold holdP holdB
 by_cases h1 : n.kind = 1
 ·
  simp [h1, named_first]
 ·
  by_cases h2 : n.kind = 2
  ·
   simp [h2, named_first]
  ·
   rw [if_neg (by omega), if_neg h1, if_neg h2]
   by_cases h3 : n.kind = 3
   ·
    simp [h3, key]
   ·
    rw [if_neg h3]
    by_cases h4 : n.kind = 4
    ·
     rw [if_pos h4, if_pos h4, key, Bool.eq_iff_iff]; simp
    ·
     rw [if_neg h4, if_neg h4, key]
     by_cases h0 : 0 ≤ atF z.sets n.q
     ·
      simp [h0, h3, key2 h0]
     ·
      simp [h0]
theorem need_nm8 {n : Chg} (h : needOk n = true) : nameOk n.set.name = true := by
 unfold needOk at h
 rw [Bool.and_eq_true] at h
 exact h.1
theorem cut_no8 {z : Zon} {l : List Chg} {k : Nat} (hk : k < l.length) (h : inB l[k]!.set.name z.apex = false) : cutB9 z l = true := by
 unfold cutB9
 rw [Bool.not_eq_true', Bool.eq_false_iff, Ne, Zqa]
 intro q
 have : inB l[k]!.set.name z.apex = true := q k (Nat.zero_le _) hk
 rw [h] at this; cases this
theorem cut_yes8 {z : Zon} {l : List Chg} (h : Zxa l.length (fun i => inB l[i]!.set.name z.apex) 0 = true) : cutB9 z l = false := by
 unfold cutB9; rw [h]; rfl
theorem count_ap {z y : Zon} (hz : PlainZ y) (ha : y.apex = z.apex) : countR z y = ⟨z.apex, (countR z y).sets⟩ := by
 obtain ⟨m, _, _, e⟩ := count_N (z := z) hz
 rw [e]
 show Zce y m = ⟨z.apex, (Zce y m).sets⟩
 rw [← ha]
 rfl
theorem bo15 : Zea Tryz.prog 15 = true := by kernel_rfl
theorem uholds12_ct (z : Zon) (n : Chg) : PureCt Tryz.prog 15 [.agg z.d, .agg n.d] (.tuple [.b (holdsF z n).1, .i (holdsF z n).2]) := by
 refine Zca Tryz.func15 rfl bo15 (by simp [go_sem, D.nr, nrs, nrr]) (by simp [Tryz.f15]) ?_
 unfold Tryz.f15
 simp only [Zfa]
 have ff := True.intro
 refine stp Lun ?_
 refine Zaa ?_
 refine stp Lun ?_ (hok := by (try simp only [go_sem, ff]); all_goals (first | done | ((repeat' (with_reducible apply And.intro)) <;> first | exact uneed_ct n | (intros; exact uneed_ct n) | exact (fun _ => Zbc z) | (intros; exact (fun _ => Zbc z)) | exact ez9 | skip)))
 refine cd (fun c1 => ?_) (fun c1 => ?_)
 ·
  skip
  refine stp Lun ?_
  refine Zba ?_
  exact fin 1 (hr := by (try simp only [go_sem, ff]); all_goals (rw [holdsF, if_pos (by grind)]))
 ·
  skip
  have hzo : zoneOk z = true := by grind
  have hno : needOk n = true := by grind
  have zo := Zee hzo
  have hlen := zo.len
  have hund := und_in (need_nm8 hno) zo.apex
  have ff := And.intro @hund ff
  refine dw_skip ?_
  show DW _ _ _ _ _
  refine Zaa ?_
  refine stp Lun ?_ (hok := by (try simp only [go_sem, ff]); all_goals (first | done | ((repeat' (with_reducible apply And.intro)) <;> first | exact (by have h9 := uunder_ct n.set.name z.apex; rw [hund] at h9; exact h9) | (intros; exact (by have h9 := uunder_ct n.set.name z.apex; rw [hund] at h9; exact h9)) | exact ez9 | skip)))
  refine cd (fun c2 => ?_) (fun c2 => ?_)
  ·
   skip
   refine stp Lun ?_
   refine Zba ?_
   exact fin 1 (hr := by (try simp only [go_sem, ff]); all_goals (rw [holdsF, if_neg (by rw [hzo, hno]; simp), if_pos (by grind)]))
  ·
   skip
   refine dw_skip ?_
   show DW _ _ _ _ _
   refine stp Lun ?_ (hok := by (try simp only [go_sem, ff]); all_goals (first | done | ((repeat' (with_reducible apply And.intro)) <;> first | exact uhold_ct z n (by omega) (fun s hs => by have := (zo.ok s hs).len; omega) | (intros; exact uhold_ct z n (by omega) (fun s hs => by have := (zo.ok s hs).len; omega)) | exact ez9 | skip)))
   refine Zba ?_
   exact fin 1 (hr := by (try simp only [go_sem, ff]); all_goals (rw [holdsF, if_neg (by rw [hzo, hno]; simp), if_neg (by grind), holdP_plain hzo zo (need_nm8 hno)]))
theorem bo13 : Zea Tryz.prog 13 = true := by kernel_rfl
theorem uapply12_ct (z : Zon) (u : Upd) : PureCt Tryz.prog 13 [.agg z.d, .agg u.d] (.tuple [.agg (updR z u).1.d, .i (updR z u).2]) := by
 refine Zca Tryz.func13 rfl bo13 (by simp [go_sem, D.nr, nrs, nrr]) (by simp [Tryz.f13]) ?_
 unfold Tryz.f13
 simp only [Zfa]
 have ff := True.intro
 refine stp Lun ?_
 refine Zaa ?_
 refine stp Lun ?_ (hok := by (try simp only [go_sem, ff]); all_goals (first | done | ((repeat' (with_reducible apply And.intro)) <;> first | exact uval_ct u | (intros; exact uval_ct u) | exact (fun _ => Zbc z) | (intros; exact (fun _ => Zbc z)) | exact ez9 | skip)))
 refine cd (fun c1 => ?_) (fun c1 => ?_)
 ·
  skip
  refine stp Lun ?_
  refine Zba ?_
  exact fin 6 (hr := by (try simp only [go_sem, ff]); all_goals (rw [upz_1 (by grind)]; rfl))
 ·
  skip
  have hz : zoneOk z = true := by grind
  have hu : updOk u = true := by grind
  have zo := Zee hz
  have zlen := zo.len
  have hnl := upd_needs hu
  have hcl := upd_chgs hu
  have hul : u.needs.length ≤ 20 ∧ u.chgs.length ≤ 20 := by have h9 := hu; simp only [updOk, Bool.and_eq_true, decide_eq_true_eq] at h9; exact h9.1.1
  refine dw_skip ?_
  show DW _ _ _ _ _
  refine Zaa ?_
  refine stp Lun ?_ (hok := by (try simp only [go_sem, ff]); all_goals (first | done | ((repeat' (with_reducible apply And.intro)) <;> first | exact uplain_ct z (by omega) | (intros; exact uplain_ct z (by omega)) | exact ez9 | skip)))
  refine cd (fun c2 => ?_) (fun c2 => ?_)
  ·
   skip
   refine stp Lun ?_
   refine Zba ?_
   exact fin 6 (hr := by (try simp only [go_sem, ff]); all_goals (rw [upz_2 hz hu c2]; rfl))
  ·
   skip
   have hpl : plainB z = true := by grind
   have hpz := PlainZ.mk' hz hpl
   refine dw_skip ?_
   show DW _ _ _ _ _
   refine Zaa ?_
   refine stp Lun ?_
   refine Zda ?_
   refine lp (α := (Nat) × Nat) [2, 3, 4, 28, 29] (fun ⟨k, nx⟩ => (k ≤ u.needs.length) ∧ (Zxa u.needs.length ((fun i => inB u.needs[i]!.set.name z.apex)) 0 = Zxa u.needs.length ((fun i => inB u.needs[i]!.set.name z.apex)) k) ∧ (2 < nx) ∧ True) (fun ⟨k, nx⟩ => u.needs.length - k) (fun ⟨k, nx⟩ => [(30, .i k)]) (fun ⟨k, nx⟩ => [(0, ⟨24, [z.d]⟩), (1, ⟨28, [u.d]⟩), (2, ⟨24, [[.v (.string (bs [])), .list true []]]⟩)]) (fun ⟨k, nx⟩ => nx) (0, _) (hA := ⟨iv, rfl, iv, trivial⟩) (round := ?_)
   rintro ⟨k, nx⟩ ⟨hk, hv1, hx, -⟩
   show DW _ _ _ _ { n := _, t := tab _, h := _, nx := _, e := _ }
   simp only [List.cons_append, List.nil_append]
   have ff := And.intro @hx ff
   refine stp Lun ?_
   refine Zaa ?_
   refine cd (fun c3 => ?_) (fun c3 => ?_) (hp := rfl)
   ·
    skip
    have hk2 : k < u.needs.length := by simpa using c3
    have hund := und_in (need_nm8 (hnl _ (Zmb hk2))) zo.apex
    have ff := And.intro (getD_chg hk2) (And.intro @hund ff)
    refine dw_skip ?_
    show DW _ _ _ _ _
    refine Zaa ?_
    refine Zda ?_
    refine stp Lun ?_
    refine stp Lun ?_ (hok := by (try simp only [go_sem, ff]); all_goals (first | done | ((repeat' (with_reducible apply And.intro)) <;> first | exact (by have h9 := uunder_ct u.needs[k]!.set.name z.apex; rw [hund] at h9; exact h9) | (intros; exact (by have h9 := uunder_ct u.needs[k]!.set.name z.apex; rw [hund] at h9; exact h9)) | exact ez9 | skip)))
    refine cd (fun c4 => ?_) (fun c4 => ?_)
    ·
     skip
     refine stp Lun ?_
     refine Zba ?_
     exact fin 6 (hr := by (try simp only [go_sem, ff]); all_goals (rw [upz_3 hz hu hpl (.inl (cut_no8 hk2 c4))]; rfl))
    ·
     skip
     refine dw_skip ?_
     show DW _ _ _ _ _
     refine rgn Lun ?_
     show ∃ _, _
     have h8 : ((fun i => inB u.needs[i]!.set.name z.apex)) k = true := by simpa using c4
     exact rnd (k + 1, _) (h1 := ⟨iv, (by first | (rw [hv1, Zha hk2 h8]) | (dsimp only; rw [hv1, Zha hk2 h8])), iv, trivial⟩)
   ·
    skip
    have hk3 : k = u.needs.length := by omega
    subst hk3
    have hcut1 : cutB9 z u.needs = false := cut_yes8 (by rw [hv1, Zva (by omega)])
    refine Zja ?_
    show DW _ _ _ _ _
    refine Zaa ?_
    refine stp Lun ?_
    refine Zda ?_
    refine lp (α := (Nat) × Nat) [2, 3, 4, 44, 45] (fun ⟨k, nx⟩ => (k ≤ u.chgs.length) ∧ (Zxa u.chgs.length ((fun i => inB u.chgs[i]!.set.name z.apex)) 0 = Zxa u.chgs.length ((fun i => inB u.chgs[i]!.set.name z.apex)) k) ∧ (2 < nx) ∧ True) (fun ⟨k, nx⟩ => u.chgs.length - k) (fun ⟨k, nx⟩ => [(46, .i k)]) (fun ⟨k, nx⟩ => [(0, ⟨24, [z.d]⟩), (1, ⟨28, [u.d]⟩), (2, ⟨24, [[.v (.string (bs [])), .list true []]]⟩)]) (fun ⟨k, nx⟩ => nx) (0, _) (hA := ⟨iv, rfl, iv, trivial⟩) (round := ?_)
    rintro ⟨k, nx⟩ ⟨hk, hv2, hx, -⟩
    show DW _ _ _ _ { n := _, t := tab _, h := _, nx := _, e := _ }
    simp only [List.cons_append, List.nil_append]
    have ff := And.intro @hx ff
    refine stp Lun ?_
    refine Zaa ?_
    refine cd (fun c5 => ?_) (fun c5 => ?_) (hp := rfl)
    ·
     skip
     have hk2 : k < u.chgs.length := by simpa using c5
     have hund := und_in (chg_nm (hcl _ (Zmb hk2))) zo.apex
     have ff := And.intro (getD_chg hk2) (And.intro @hund ff)
     refine dw_skip ?_
     show DW _ _ _ _ _
     refine Zaa ?_
     refine Zda ?_
     refine stp Lun ?_
     refine stp Lun ?_ (hok := by (try simp only [go_sem, ff]); all_goals (first | done | ((repeat' (with_reducible apply And.intro)) <;> first | exact (by have h9 := uunder_ct u.chgs[k]!.set.name z.apex; rw [hund] at h9; exact h9) | (intros; exact (by have h9 := uunder_ct u.chgs[k]!.set.name z.apex; rw [hund] at h9; exact h9)) | exact ez9 | skip)))
     refine cd (fun c6 => ?_) (fun c6 => ?_)
     ·
      skip
      refine stp Lun ?_
      refine Zba ?_
      exact fin 6 (hr := by (try simp only [go_sem, ff]); all_goals (rw [upz_3 hz hu hpl (.inr (cut_no8 hk2 c6))]; rfl))
     ·
      skip
      refine dw_skip ?_
      show DW _ _ _ _ _
      refine rgn Lun ?_
      show ∃ _, _
      have h8 : ((fun i => inB u.chgs[i]!.set.name z.apex)) k = true := by simpa using c6
      exact rnd (k + 1, _) (h1 := ⟨iv, (by first | (rw [hv2, Zha hk2 h8]) | (dsimp only; rw [hv2, Zha hk2 h8])), iv, trivial⟩)
    ·
     skip
     have hk3 : k = u.chgs.length := by omega
     subst hk3
     have hcut2 : cutB9 z u.chgs = false := cut_yes8 (by rw [hv2, Zva (by omega)])
     have hcut : ¬ (cutB9 z u.needs = true ∨ cutB9 z u.chgs = true) := by rw [hcut1, hcut2]; simp
     refine Zja ?_
     show DW _ _ _ _ _
     refine Zaa ?_
     refine stp Lun ?_
     refine Zda ?_
     refine lp (α := (Nat) × Nat) [2, 3, 4, 60, 61] (fun ⟨k, nx⟩ => (k ≤ u.needs.length) ∧ (Zxa u.needs.length ((fun i => holdB z u.needs[i]!)) 0 = Zxa u.needs.length ((fun i => holdB z u.needs[i]!)) k) ∧ (2 < nx) ∧ True) (fun ⟨k, nx⟩ => u.needs.length - k) (fun ⟨k, nx⟩ => [(62, .i k)]) (fun ⟨k, nx⟩ => [(0, ⟨24, [z.d]⟩), (1, ⟨28, [u.d]⟩), (2, ⟨24, [[.v (.string (bs [])), .list true []]]⟩)]) (fun ⟨k, nx⟩ => nx) (0, _) (hA := ⟨iv, rfl, iv, trivial⟩) (round := ?_)
     rintro ⟨k, nx⟩ ⟨hk, hv3, hx, -⟩
     show DW _ _ _ _ { n := _, t := tab _, h := _, nx := _, e := _ }
     simp only [List.cons_append, List.nil_append]
     have ff := And.intro @hx ff
     refine stp Lun ?_
     refine Zaa ?_
     refine cd (fun c7 => ?_) (fun c7 => ?_) (hp := rfl)
     ·
      skip
      have hk2 : k < u.needs.length := by simpa using c7
      have hhp := holdP_plain hz zo (need_nm8 (hnl _ (Zmb hk2)))
      have ff := And.intro (getD_chg hk2) (And.intro @hhp ff)
      refine dw_skip ?_
      show DW _ _ _ _ _
      refine Zaa ?_
      refine Zda ?_
      refine stp Lun ?_
      refine stp Lun ?_ (hok := by (try simp only [go_sem, ff]); all_goals (first | done | ((repeat' (with_reducible apply And.intro)) <;> first | exact (by have h9 := uhold_ct z u.needs[k]! (by omega) (fun s hs => by have := (zo.ok s hs).len; omega); rw [hhp] at h9; exact h9) | (intros; exact (by have h9 := uhold_ct z u.needs[k]! (by omega) (fun s hs => by have := (zo.ok s hs).len; omega); rw [hhp] at h9; exact h9)) | exact ez9 | skip)))
      refine cd (fun c8 => ?_) (fun c8 => ?_)
      ·
       skip
       refine stp Lun ?_
       refine Zba ?_
       exact fin 6 (hr := by (try simp only [go_sem, ff]); all_goals (rw [upz_4 hz hu hpl hcut (by unfold needsB; rw [hv3]; exact Zra (p := (fun i => holdB z u.needs[i]!)) hk2 c8)]; rfl))
      ·
       skip
       refine dw_skip ?_
       show DW _ _ _ _ _
       refine rgn Lun ?_
       show ∃ _, _
       have h8 : ((fun i => holdB z u.needs[i]!)) k = true := by simpa using c8
       exact rnd (k + 1, _) (h1 := ⟨iv, (by first | (rw [hv3, Zha hk2 h8]) | (dsimp only; rw [hv3, Zha hk2 h8])), iv, trivial⟩)
     ·
      skip
      have hk3 : k = u.needs.length := by omega
      subst hk3
      have hall3 : needsB z u.needs = true := by unfold needsB; rw [hv3, Zva (by omega)]
      refine Zja ?_
      show DW _ _ _ _ _
      rcases hcr : chgsR z u.chgs with _ | y
      ·
       skip
       have hfin := upz_5 hz hu hpl hcut hall3 hcr
       refine Zaa (cal1 Lun 3 (hct := by exact uchange_no hpz hcl (by omega) hcr _ _) (hk := ?_))
       rintro res h2 n2 ⟨rfl, hfr⟩
       try dsimp only at hfr
       have k0 := hfr 0 _ (by omega) (by simp only [go_sem, ff]; exact rfl) (by dsimp only; decide) (by dsimp only; decide)
       have k2 := hfr 2 _ (by omega) (by simp only [go_sem, ff]; exact rfl) (by dsimp only; decide) (by dsimp only; decide)
       have ff := And.intro @k0 (And.intro @k2 ff)
       refine cal2 Lun ?_
       show DW _ _ _ _ _
       refine Zaa ?_
       refine stp Lun ?_
       refine cd (fun c9 => ?_) (fun c9 => ?_) (hp := rfl) (hq := rfl)
       ·
        skip
        refine stp Lun ?_
        refine Zba ?_
        exact fin 6 (hr := by (try simp only [go_sem, ff]); all_goals (rw [hfin]; rfl))
       ·
        skip
        exfalso; simp at c9
      ·
       skip
       have hfin := upz_6 hz hu hpl hcut hall3 hcr
       have hp0 := chTo_plain hpz hcl _ _ (Nat.le_refl _) hcr
       refine Zaa (cal1 Lun 3 (hct := by exact uchange_yes hpz hcl (by omega) hcr _ _) (hk := ?_))
       rintro res h2 n2 ⟨zc, rs, p, rfl, hzm, hlp, z1, z2, z3, hfr⟩
       try dsimp only at hfr
       have k0 := hfr 0 _ (by omega) (by simp only [go_sem, ff]; exact rfl) (by dsimp only; decide) (by dsimp only; decide)
       have k2 := hfr 2 _ (by omega) (by simp only [go_sem, ff]; exact rfl) (by dsimp only; decide) (by dsimp only; decide)
       have ff := And.intro @k0 (And.intro @k2 ff)
       refine cal2 Lun ?_
       show DW _ _ _ _ _
       refine Zaa ?_
       refine stp Lun ?_
       refine cd (fun c9 => ?_) (fun c9 => ?_) (hp := rfl) (hq := rfl)
       ·
        skip
        exfalso; simp at c9
       ·
        skip
        refine dw_skip ?_
        show DW _ _ _ _ _
        have hy9 : (⟨z.apex, lP p⟩ : Zon) = y := by rw [hlp, ← hp0.2]
        have hyp : PlainZ ⟨z.apex, lP p⟩ := by rw [hy9]; exact hp0.1
        refine Zaa (cal1 Lun 2 (hct := by exact ucount_ct z zc rs p _ _ hpz hyp (hzm.keep (fun q hq9 => by have hqn : q < n2 := (by rcases hq9 with rfl | rfl | ⟨x, hx, rfl⟩; exact z1; exact z2; exact z3 x hx); simp only [upd]; repeat (first | rfl | rw [if_neg (by omega)])))) (hk := ?_))
        rintro res h3 n3 ⟨rfl, p2, hm2, hl2, hc2, hf2⟩
        try dsimp only at hf2
        have n2a : zc ≠ 2 := fun e => by have h9 := hzm.z; rw [e, k2] at h9; simp at h9
        have n2b : rs ≠ 2 := fun e => by have h9 := hzm.r; rw [e, k2] at h9; simp at h9
        have n2c : ∀ x ∈ p, x.1 ≠ 2 := fun x hx e => by have h9 := hzm.d x hx; rw [e, k2] at h9; simp at h9
        have m2 : h3 2 = some ⟨24, [[.v (.string (bs [])), .list true []]]⟩ := by rw [hf2 2 (by omega) n2a.symm n2b.symm (fun x hx e => n2c x hx e.symm)]; simp only [upd]; repeat (first | exact k2 | rw [if_neg (by omega)])
        have m7 : h3 (n2 + 7) = some ⟨24, [[.v (.string (bs z.apex)), .mrow rs 0 p.length]]⟩ := by rw [hf2 (n2 + 7) (by omega) (by omega) (by omega) (fun x hx e => by have := z3 x hx; omega)]; simp only [upd]; repeat (first | rfl | rw [if_neg (by omega)] | rw [if_pos rfl])
        have hgen : ∀ (H9 : H) (d : D), (∀ q, q ≠ 2 → H9 q = h3 q) → d = .tuple [.agg [.v (.string (bs z.apex)), .mrow rs 0 p.length], .i 0] → wk (Go.DL.snap H9 6 d) = .tuple [.agg (updR z u).1.d, .i (updR z u).2] ∧ Zsa H9 6 d := by
         rintro H9 d hH rfl
         have hmF : ZM 24 52 63 zc rs z.apex p2 H9 := hm2.keep (fun q hq => hH q (by rcases hq with rfl | rfl | ⟨x, hx, rfl⟩; exact n2a; exact n2b; exact fun e => by have h9 := hm2.d x hx; rw [e, m2] at h9; simp at h9))
         have hs := hmF.snap
         rw [hl2] at hs
         rw [hfin, count_ap hp0.1 hp0.2]
         refine ⟨?_, ?_⟩
         ·
          show D.tuple [wk (Go.DL.snap H9 5 (.agg [.v (.string (bs z.apex)), .mrow rs 0 p.length])), _] = _
          rw [hs.1, hc2, hy9]
          rfl
         ·
          intro c hc
          simp only [List.mem_cons, List.not_mem_nil, or_false] at hc
          rcases hc with rfl | rfl
          ·
           exact hs.2
          ·
           rfl
        have ff := And.intro @m2 (And.intro @m7 ff)
        refine cal2 Lun ?_
        show DW _ _ _ _ _
        refine stp Lun ?_
        refine Zba ?_
        refine fin 6 (hr := ?_) (hk := ?_)
        ·
         exact (hgen _ _ (fun q hq => upd_ne _ _ _ _ hq) (by simp only [go_sem, ff])).1
        ·
         exact (hgen _ _ (fun q hq => upd_ne _ _ _ _ hq) (by simp only [go_sem, ff])).2
set_option maxRecDepth 10000
theorem bo24 : Zea Tryz.prog 24 = true := by kernel_rfl
theorem rplain12_ct (z : Zon) (hl : z.sets.length ≤ 1000000) : PureCt Tryz.prog 24 [.agg z.d] (.b (plainB z)) := by
 refine Zca Tryz.func24 rfl bo24 (by simp [go_sem, D.nr, nrs, nrr]) (by simp [Tryz.f24]) ?_
 unfold Tryz.f24
 simp only [Zfa]
 have ff := True.intro
 refine stp Lun ?_
 refine Zaa ?_
 refine stp Lun ?_
 refine Zda ?_
 refine lp (α := (Nat) × Nat) [1] (fun ⟨k, nx⟩ => (k ≤ z.sets.length) ∧ (Zxa z.sets.length ((plainAt z.sets)) 0 = Zxa z.sets.length ((plainAt z.sets)) k) ∧ (0 < nx) ∧ True) (fun ⟨k, nx⟩ => z.sets.length - k) (fun ⟨k, nx⟩ => [(3, .i k)]) (fun ⟨k, nx⟩ => [(0, ⟨24, [z.d]⟩)]) (fun ⟨k, nx⟩ => nx) (0, _) (hA := ⟨iv, rfl, iv, trivial⟩) (round := ?_)
 rintro ⟨k, nx⟩ ⟨hk, hv, hx, -⟩
 show DW _ _ _ _ { n := _, t := tab _, h := _, nx := _, e := _ }
 simp only [List.cons_append, List.nil_append]
 have ff := And.intro @hx ff
 refine Zaa ?_
 refine stp Lun ?_
 refine cd (fun c1 => ?_) (fun c1 => ?_) (hp := rfl)
 ·
  skip
  have hk2 : k < z.sets.length := by simpa using c1
  have ff := And.intro (Zma hk2) ff
  refine dw_skip ?_
  show DW _ _ _ _ _
  refine Zaa ?_
  refine Zda ?_
  refine stp Lun ?_
  refine cd (fun c2 => ?_) (fun c2 => ?_)
  ·
   skip
   refine stp Lun ?_
   refine Zba ?_
   exact fin 0 (hr := by (try simp only [go_sem, ff]); all_goals (have hF : (plainAt z.sets) k = false := (by simp only [plainAt]; grind); simp only [plainB]; rw [hv, Zra hk2 hF]))
  ·
   skip
   refine dw_skip ?_
   show DW _ _ _ _ _
   refine rgn Lun ?_
   show ∃ _, _
   have h8 : ((plainAt z.sets)) k = true := by simp only [plainAt]; grind
   exact rnd (k + 1, _) (h1 := ⟨iv, (by first | (rw [hv, Zha hk2 h8]) | (dsimp only; rw [hv, Zha hk2 h8])), iv, trivial⟩)
 ·
  skip
  refine Zja ?_
  show DW _ _ _ _ _
  refine stp Lun ?_
  refine Zba ?_
  exact fin 0 (hr := by (try simp only [go_sem, ff]); all_goals (simp only [plainB]; rw [hv, Zva (by omega)]))
theorem bo43 : Zea Tryz.prog 43 = true := by kernel_rfl
theorem rstart12_ct (z : Zon) (hl : z.sets.length ≤ 1000000) : PureCt Tryz.prog 43 [.agg z.d] (.i (startN z)) := by
 refine Zca Tryz.func43 rfl bo43 (by simp [go_sem, D.nr, nrs, nrr]) (by simp [Tryz.f43]) ?_
 unfold Tryz.f43
 simp only [Zfa]
 have ff := True.intro
 refine stp Lun ?_
 refine stp Lun ?_ (hok := by (try simp only [go_sem, ff]); all_goals (first | done | ((repeat' (with_reducible apply And.intro)) <;> first | exact rat06_ct z ⟨z.apex, 4⟩ hl | (intros; exact rat06_ct z ⟨z.apex, 4⟩ hl) | skip)))
 refine Zba ?_
 exact fin 0 (hr := by (try simp only [go_sem, ff]); all_goals (rfl))
set_option maxRecDepth 10000
theorem at_ltN {l : List Sgd} {q : Qst} (h : 0 ≤ atF l q) : (atF l q).toNat < l.length := by
 have := atF_lt l q
 omega
set_option maxRecDepth 10000
theorem bo12 : Zea Tryz.prog 12 = true := by kernel_rfl
theorem rfew12_ct (u : Upd) : PureCt Tryz.prog 12 [.agg u.d] (.b (fewU u)) := by
 refine Zca Tryz.func12 rfl bo12 (by simp [go_sem, D.nr, nrs, nrr]) (by simp [Tryz.f12]) ?_
 unfold Tryz.f12
 simp only [Zfa]
 have ff := True.intro
 refine stp Lun ?_
 refine Zaa ?_
 refine stp Lun ?_
 refine Zda ?_
 refine lp (α := (Nat) × Nat) [1] (fun ⟨k, nx⟩ => (k ≤ (min u.needs.length 31)) ∧ (Zxa (min u.needs.length 31) ((fewAt u.needs)) 0 = Zxa (min u.needs.length 31) ((fewAt u.needs)) k) ∧ (0 < nx) ∧ True) (fun ⟨k, nx⟩ => (min u.needs.length 31) - k) (fun ⟨k, nx⟩ => [(3, .i k)]) (fun ⟨k, nx⟩ => [(0, ⟨28, [u.d]⟩)]) (fun ⟨k, nx⟩ => nx) (0, _) (hA := ⟨iv, rfl, iv, trivial⟩) (round := ?_)
 rintro ⟨k, nx⟩ ⟨hk, hv1, hx, -⟩
 show DW _ _ _ _ { n := _, t := tab _, h := _, nx := _, e := _ }
 simp only [List.cons_append, List.nil_append]
 have ff := And.intro @hx ff
 refine Zaa ?_
 refine stp Lun ?_
 refine cd (fun c1 => ?_) (fun c1 => ?_)
 ·
  skip
  have hk2n : k < u.needs.length := by grind
  have hk9 : k ≤ 30 := by grind
  have hk2 : k < min u.needs.length 31 := by omega
  have ff := And.intro (getD_chg hk2n) ff
  refine dw_skip ?_
  show DW _ _ _ _ _
  refine Zaa ?_
  refine Zda ?_
  refine stp Lun ?_
  refine cd (fun c2 => ?_) (fun c2 => ?_)
  ·
   skip
   refine stp Lun ?_
   refine Zba ?_
   exact fin 0 (hr := by (try simp only [go_sem, ff]); all_goals (have hF : ((fewAt u.needs)) k = false := (by simp only [Go.Zon.fewAt]; grind); simp only [fewU]; rw [hv1, Zra hk2 hF]; try simp))
  ·
   skip
   refine dw_skip ?_
   show DW _ _ _ _ _
   refine rgn Lun ?_
   show ∃ _, _
   have h8 : ((fewAt u.needs)) k = true := by simp only [Go.Zon.fewAt]; grind
   exact rnd (k + 1, _) (h1 := ⟨iv, (by first | (rw [hv1, Zha hk2 h8]) | (dsimp only; rw [hv1, Zha hk2 h8])), iv, trivial⟩)
 ·
  skip
  refine Zja ?_
  show DW _ _ _ _ _
  refine Zaa ?_
  refine stp Lun ?_
  refine Zda ?_
  refine lp (α := (Nat) × Nat) [1] (fun ⟨k, nx⟩ => (k ≤ (min u.chgs.length 31)) ∧ (Zxa (min u.chgs.length 31) ((fewAt u.chgs)) 0 = Zxa (min u.chgs.length 31) ((fewAt u.chgs)) k) ∧ (0 < nx) ∧ True) (fun ⟨k, nx⟩ => (min u.chgs.length 31) - k) (fun ⟨k, nx⟩ => [(4, .i k)]) (fun ⟨k, nx⟩ => [(0, ⟨28, [u.d]⟩)]) (fun ⟨k, nx⟩ => nx) (0, _) (hA := ⟨iv, rfl, iv, trivial⟩) (round := ?_)
  rintro ⟨k, nx⟩ ⟨hk, hv, hx, -⟩
  show DW _ _ _ _ { n := _, t := tab _, h := _, nx := _, e := _ }
  simp only [List.cons_append, List.nil_append]
  have ff := And.intro @hx ff
  refine Zaa ?_
  refine stp Lun ?_
  refine cd (fun c3 => ?_) (fun c3 => ?_)
  ·
   skip
   have hk2n : k < u.chgs.length := by grind
   have hk9 : k ≤ 30 := by grind
   have hk2 : k < min u.chgs.length 31 := by omega
   have ff := And.intro (getD_chg hk2n) ff
   refine dw_skip ?_
   show DW _ _ _ _ _
   refine Zaa ?_
   refine Zda ?_
   refine stp Lun ?_
   refine cd (fun c4 => ?_) (fun c4 => ?_)
   ·
    skip
    refine stp Lun ?_
    refine Zba ?_
    exact fin 0 (hr := by (try simp only [go_sem, ff]); all_goals (have hF : ((fewAt u.chgs)) k = false := (by simp only [Go.Zon.fewAt]; grind); simp only [fewU]; rw [hv, Zra hk2 hF]; try simp))
   ·
    skip
    refine dw_skip ?_
    show DW _ _ _ _ _
    refine rgn Lun ?_
    show ∃ _, _
    have h8 : ((fewAt u.chgs)) k = true := by simp only [Go.Zon.fewAt]; grind
    exact rnd (k + 1, _) (h1 := ⟨iv, (by first | (rw [hv, Zha hk2 h8]) | (dsimp only; rw [hv, Zha hk2 h8])), iv, trivial⟩)
  ·
   skip
   refine Zja ?_
   show DW _ _ _ _ _
   refine stp Lun ?_
   refine Zba ?_
   exact fin 0 (hr := by (try simp only [go_sem, ff]); all_goals (simp only [fewU]; rw [hv1, hv, Zva (n := min u.needs.length 31) (by grind), Zva (by grind)]; simp; rw [Bool.eq_iff_iff]; simp; omega))
set_option maxRecDepth 10000
@[go_sem] theorem leftTo_0 {a b : List Dat} : leftTo a b 0 = [] := rfl
@[go_sem] theorem memTo_0 {b : List Dat} {x : Dat} : memTo b x 0 = false := rfl
set_option maxRecDepth 10000
@[go_sem] theorem dats_snoc9 {l : List Dat} {x : Dat} : (l ++ [x]).map Dat.d = l.map Dat.d ++ [[.v (.string (bs x.t)), .i x.n, .i x.m]] := by simp [Dat.d]
set_option maxRecDepth 10000
theorem take_map_len12 {l : List Sgd} {x : Sgd} : List.take (l.length + 1) (List.map Sgd.d (l ++ [x])) = List.map Sgd.d (l ++ [x]) := List.take_of_length_le (by simp)
theorem withR_step {s : Sgd} {l : List Sgd} {k : Nat} {b : Bool} (hk : k < l.length) : withR s b (l.drop k) = (if 0 ≤ rOrd l[k]!.set s.set ∧ b = false then [s] else []) ++ ((if rOrd l[k]!.set s.set ≠ 0 then [l[k]!] else []) ++ withR s (b || decide (0 ≤ rOrd l[k]!.set s.set)) (l.drop (k + 1))) := by
 have e : l.drop k = l[k]! :: l.drop (k + 1) := by rw [getElem!_pos l k hk]; exact List.drop_eq_getElem_cons hk
 conv => lhs; rw [e]
 rfl
@[go_sem] theorem sgd_snoc12 {l : List Sgd} {x : Sgd} : (l ++ [x]).map Sgd.d = l.map Sgd.d ++ [[.v (.string (bs x.set.name)), .i x.set.ty, .i x.set.life, .list false (x.set.data.map Dat.d), .list false (x.sigs.map RSig.d)]] := by simp [Sgd.d]
theorem bo44 : Zea Tryz.prog 44 = true := by kernel_rfl
theorem rwith06_ct (z : Zon) (s : Sgd) (hl : z.sets.length ≤ 1000000) : PureCt Tryz.prog 44 [.agg z.d, .agg s.d] (.agg (withF z s).d) := by
 refine Zca Tryz.func44 rfl bo44 (by simp [go_sem, D.nr, nrs, nrr]) (by simp [Tryz.f44]) ?_
 unfold Tryz.f44
 simp only [Zfa]
 have ff := True.intro
 refine stp Lun ?_
 refine stp Lun ?_
 refine stp Lun ?_
 refine Zaa ?_
 refine dw_ownj 6 1 24 52 (by simp only [go_sem, ff]; exact rfl) (by rfl) (by simp only [go_sem, ff]) ?_
 simp only [List.set_cons_succ, List.set_cons_zero]
 refine stp Lun ?_
 refine Zda ?_
 refine lp (α := (Nat) × (Bool) × (List Sgd) × (Nat) × Nat) [2, 3, 4, 5] (fun ⟨k, dn, out, r, nx⟩ => (k ≤ z.sets.length) ∧ (r < nx) ∧ (6 < r) ∧ (out.length ≤ 2 * k) ∧ (withR s false z.sets = out ++ withR s dn (z.sets.drop k)) ∧ True) (fun ⟨k, dn, out, r, nx⟩ => z.sets.length - k) (fun ⟨k, dn, out, r, nx⟩ => [(6, .b dn), (7, .i k)]) (fun ⟨k, dn, out, r, nx⟩ => [(0, ⟨24, [z.d]⟩), (1, ⟨52, [s.d]⟩), (2, ⟨24, [[.v (.string (bs [])), .list true []]]⟩), (6, ⟨24, [[.v (.string (bs z.apex)), .mrow r 0 out.length]]⟩), (r, ⟨52, out.map Sgd.d⟩)]) (fun ⟨k, dn, out, r, nx⟩ => nx) (0, false, [], 9, _) (hA := ⟨iv, iv, iv, (by first | (simp) | (dsimp only; simp)), rfl, trivial⟩) (round := ?_)
 rintro ⟨k, dn, out, r, nx⟩ ⟨hk, hr, hr6, ho, hv, -⟩
 show DW _ _ _ _ { n := _, t := tab _, h := _, nx := _, e := _ }
 simp only [List.cons_append, List.nil_append]
 have n0 : 0 < nx := by omega
 have z0_1 : (0 = 1) = False := eq_false (by omega)
 have y1_0 : (1 = 0) = False := eq_false (by omega)
 have z0_2 : (0 = 2) = False := eq_false (by omega)
 have y2_0 : (2 = 0) = False := eq_false (by omega)
 have z0_6 : (0 = 6) = False := eq_false (by omega)
 have y6_0 : (6 = 0) = False := eq_false (by omega)
 have z0_r : (0 = r) = False := eq_false (by omega)
 have yr_0 : (r = 0) = False := eq_false (by omega)
 have z1_2 : (1 = 2) = False := eq_false (by omega)
 have y2_1 : (2 = 1) = False := eq_false (by omega)
 have z1_6 : (1 = 6) = False := eq_false (by omega)
 have y6_1 : (6 = 1) = False := eq_false (by omega)
 have z1_r : (1 = r) = False := eq_false (by omega)
 have yr_1 : (r = 1) = False := eq_false (by omega)
 have z2_6 : (2 = 6) = False := eq_false (by omega)
 have y6_2 : (6 = 2) = False := eq_false (by omega)
 have z2_r : (2 = r) = False := eq_false (by omega)
 have yr_2 : (r = 2) = False := eq_false (by omega)
 have z6_r : (6 = r) = False := eq_false (by omega)
 have yr_6 : (r = 6) = False := eq_false (by omega)
 have ff := And.intro @hr (And.intro @n0 (And.intro @z0_1 (And.intro @y1_0 (And.intro @z0_2 (And.intro @y2_0 (And.intro @z0_6 (And.intro @y6_0 (And.intro @z0_r (And.intro @yr_0 (And.intro @z1_2 (And.intro @y2_1 (And.intro @z1_6 (And.intro @y6_1 (And.intro @z1_r (And.intro @yr_1 (And.intro @z2_6 (And.intro @y6_2 (And.intro @z2_r (And.intro @yr_2 (And.intro @z6_r (And.intro @yr_6 ff)))))))))))))))))))))
 refine Zaa ?_
 refine stp Lun ?_
 refine cd (fun c1 => ?_) (fun c1 => ?_) (hp := rfl) (hq := rfl)
 ·
  skip
  have hk2 : k < z.sets.length := by simpa using c1
  have ff := And.intro (Zma hk2) ff
  refine dw_skip ?_
  show DW _ _ _ _ _
  refine Zaa ?_
  refine Zda ?_
  refine stp Lun ?_ (hok := by (try simp only [go_sem, ff]); all_goals (first | done | ((repeat' (with_reducible apply And.intro)) <;> first | exact rord02_ct z.sets[k]!.set s.set | (intros; exact rord02_ct z.sets[k]!.set s.set) | omega | skip)))
  refine Zaa ?_
  refine stp Lun ?_
  refine cd (fun c2 => ?_) (fun c2 => ?_)
  ·
   skip
   refine stp Lun ?_
   refine rgn Lun ?_
   show DW _ _ _ _ _
   refine stp Lun ?_
   refine cd (fun c3 => ?_) (fun c3 => ?_)
   ·
    skip
    refine rgn Lun ?_
    show DW _ _ _ _ _
    refine rgn Lun ?_
    show ∃ _, _
    exact rnd (k + 1, true, out ++ [s] ++ [z.sets[k]!], (nx + 39), _) (h1 := ⟨iv, iv, iv, (by first | (simp; omega) | (dsimp only; simp; omega)), (by (try dsimp only); rw [hv, withR_step hk2]; simp_all; try grind), trivial⟩)
   ·
    skip
    refine dw_skip ?_
    show DW _ _ _ _ _
    refine rgn Lun ?_
    show ∃ _, _
    exact rnd (k + 1, true, out ++ [s], (nx + 25), _) (h1 := ⟨iv, iv, iv, (by first | (simp; omega) | (dsimp only; simp; omega)), (by (try dsimp only); rw [hv, withR_step hk2]; simp_all; try grind), trivial⟩)
  ·
   skip
   refine dw_skip ?_
   show DW _ _ _ _ _
   refine stp Lun ?_
   refine cd (fun c3 => ?_) (fun c3 => ?_)
   ·
    skip
    refine rgn Lun ?_
    show DW _ _ _ _ _
    refine rgn Lun ?_
    show ∃ _, _
    exact rnd (k + 1, dn, out ++ [z.sets[k]!], (nx + 31), _) (h1 := ⟨iv, iv, iv, (by first | (simp; omega) | (dsimp only; simp; omega)), (by (try dsimp only); rw [hv, withR_step hk2]; simp_all; try grind), trivial⟩)
   ·
    skip
    refine dw_skip ?_
    show DW _ _ _ _ _
    refine rgn Lun ?_
    show ∃ _, _
    exact rnd (k + 1, dn, out, r, _) (h1 := ⟨iv, iv, iv, (by first | (simp; omega) | (dsimp only; simp; omega)), (by (try dsimp only); rw [hv, withR_step hk2]; simp_all; try grind), trivial⟩)
 ·
  skip
  have hk3 : k = z.sets.length := by have : ¬ k < z.sets.length := (by simpa using c1); omega
  refine Zja ?_
  show DW _ _ _ _ _
  refine Zaa ?_
  refine stp Lun ?_
  refine cd (fun c4 => ?_) (fun c4 => ?_)
  ·
   skip
   refine rgn Lun ?_
   show DW _ _ _ _ _
   first | (refine dw_freezec 6 1 r (rows := out.map Sgd.d) (off := 0) (len := out.length) (by simp only [go_sem, ff]; exact rfl) (by rfl) (by simp only [go_sem, ff]; exact rfl) (by omega) (by simp) nrr_sgd ?_) | (refine dw_freezec 6 1 (nx + 11) (rows := (out ++ [s]).map Sgd.d) (off := 0) (len := out.length + 1) (by simp only [go_sem, ff]; exact rfl) (by rfl) (by simp only [go_sem, ff]; exact rfl) (by omega) (by simp) nrr_sgd ?_)
   simp only [List.drop_zero, take_map_len, take_map_len12, List.set_cons_succ, List.set_cons_zero]
   refine stp Lun ?_
   refine Zba ?_
   exact fin 2 (hr := by (try simp only [go_sem, ff]); all_goals (first | rfl | (subst hk3; rw [List.drop_length] at hv; simp_all [withF, withR]; try rfl)))
  ·
   skip
   refine dw_skip ?_
   show DW _ _ _ _ _
   first | (refine dw_freezec 6 1 r (rows := out.map Sgd.d) (off := 0) (len := out.length) (by simp only [go_sem, ff]; exact rfl) (by rfl) (by simp only [go_sem, ff]; exact rfl) (by omega) (by simp) nrr_sgd ?_) | (refine dw_freezec 6 1 (nx + 11) (rows := (out ++ [s]).map Sgd.d) (off := 0) (len := out.length + 1) (by simp only [go_sem, ff]; exact rfl) (by rfl) (by simp only [go_sem, ff]; exact rfl) (by omega) (by simp) nrr_sgd ?_)
   simp only [List.drop_zero, take_map_len, take_map_len12, List.set_cons_succ, List.set_cons_zero]
   refine stp Lun ?_
   refine Zba ?_
   exact fin 2 (hr := by (try simp only [go_sem, ff]); all_goals (first | rfl | (subst hk3; rw [List.drop_length] at hv; simp_all [withF, withR]; try rfl)))
set_option maxRecDepth 10000
@[go_sem] theorem dats1_one9 {f : Bool} {t : ByteArray} {n m : Int} {k1 k2 : IntKind} : dats1 (.list f [[.v (.string t), .v (.int k1 n), .v (.int k2 m)]]) = [⟨t.data.toList, n, m⟩] := rfl
theorem start_ltN {z : Zon} (h : 0 ≤ startN z) : (startN z).toNat < z.sets.length := at_ltN h
theorem bo19 : Zea Tryz.prog 19 = true := by kernel_rfl
theorem rsett12_ct (z : Zon) (hl : z.sets.length ≤ 1000000) (h0 : 0 ≤ startN z → 0 < z.sets[(startN z).toNat]!.set.data.length) : PureCt Tryz.prog 19 [.agg z.d] (.agg (settF z).d) := by
 refine Zca Tryz.func19 rfl bo19 (by simp [go_sem, D.nr, nrs, nrr]) (by simp [Tryz.f19]) ?_
 unfold Tryz.f19
 simp only [Zfa]
 have ff := True.intro
 refine stp Lun ?_
 refine stp Lun ?_ (hok := by (try simp only [go_sem, ff]); all_goals (first | done | ((repeat' (with_reducible apply And.intro)) <;> first | exact rstart12_ct z hl | (intros; exact rstart12_ct z hl) | skip)))
 refine Zaa ?_
 refine stp Lun ?_
 refine cd (fun c1 => ?_) (fun c1 => ?_)
 ·
  skip
  refine stp Lun ?_
  refine Zba ?_
  exact fin 2 (hr := by (try simp only [go_sem, ff]); all_goals (rw [settF, if_pos (by omega)]))
 ·
  skip
  have hs0 : 0 ≤ startN z := by omega
  have hx := start_ltN hs0
  have hdt := h0 hs0
  have ff := And.intro (Zma hx) (And.intro (Zec hdt) ff)
  refine dw_skip ?_
  show DW _ _ _ _ _
  refine stp Lun ?_
  refine stp Lun ?_
  refine stp Lun ?_ (hok := by (try simp only [go_sem, ff]); all_goals (first | done | ((repeat' (with_reducible apply And.intro)) <;> first | exact rwith06_ct z ⟨{ z.sets[(startN z).toNat]!.set with data := [⟨[], 0, z.sets[(startN z).toNat]!.set.data[0]!.m⟩] }, []⟩ hl | (intros; exact rwith06_ct z ⟨{ z.sets[(startN z).toNat]!.set with data := [⟨[], 0, z.sets[(startN z).toNat]!.set.data[0]!.m⟩] }, []⟩ hl) | skip)))
  refine Zba ?_
  exact fin 2 (hr := by (try simp only [go_sem, ff]); all_goals (rw [settF, if_neg (by omega)]; rfl))
set_option maxRecDepth 10000
@[go_sem] theorem nameTo_0 {l : List Sgd} {n : Str} : nameTo l n 0 = [] := rfl
set_option maxRecDepth 10000
set_option maxRecDepth 10000
theorem at_ltL {l : List Sgd} {q : Qst} (h : 0 ≤ atF l q) : (atF l q).toNat < l.length := by
 have := atF_lt l q
 omega
def wrD (n : Int) : List D := [.v (.string (bs [])), .i n, .i 0]
theorem take_wr {w : List Int} {k : Nat} (h : k < w.length) : (w.take (k + 1)).map wrD = (w.take k).map wrD ++ [[.v (.string (bs [])), .i w[k]!, .i 0]] := by
 rw [Zvc! h, List.map_append]; rfl
theorem take_wr_len {w : List Int} {k : Nat} (h : k ≤ w.length) : ((w.take k).map wrD).length = k := by simp; omega
@[go_sem] theorem nrr_wr {w : List Int} : nrr (w.map wrD) = true := by
 induction w with
 | nil => rfl
 | cons x l ih => simp only [List.map_cons, nrr, ih]; rfl
@[go_sem] theorem wkr_wr {w : List Int} : wkr (w.map wrD) = w.map wrD := by
 induction w with
 | nil => rfl
 | cons x l ih => simp only [List.map_cons, wkr, ih]; rfl
theorem wr_ad {w : List Int} : (w.map adD).map Dat.d = w.map wrD := by rw [List.map_map]; rfl
theorem clonedat_ct (l : List Dat) (hl : l.length ≤ 1000000) : PureCt Tryz.prog 100 [.list false (l.map Dat.d)] (.list false (l.map Dat.d)) := by
 refine Zca Tryz.func100 rfl bo100 (by simp [go_sem, D.nr, nrs, nrr]) (by simp [Tryz.f100]) ?_
 unfold Tryz.f100
 simp only [Zfa]
 have ff := True.intro
 refine stp Lun ?_
 refine Zaa ?_
 refine Zaa (dw_seg ?_)
 refine seg_eqnil (C := Lun) 1 (e := 63) (by omega) (Zsb rfl) rfl rfl (by kernel_rfl) (by simp only [List.drop_succ_cons, List.drop_zero, List.take_succ_cons, List.take_zero, S.put, Nat.sub_self, go_sem, ff]; exact rfl) ?_ (by rfl) (by simp only [go_sem, ff]; exact rfl) (fun y hy => ?_)
 ·
  try simp only [go_sem, ff]
  all_goals (first | done | (repeat' (with_reducible apply And.intro)) <;> first | omega | (with_reducible assumption) | (intros; omega) | (intros; simp only [decide_eq_true_eq, decide_eq_false_iff_not, Bool.or_eq_true, Bool.and_eq_true, Bool.or_eq_false_iff, Bool.not_eq_true', Bool.not_eq_false'] at *; omega) | (simp_all; done) | (simp_all; omega))
 refine seg_done (C := Lun) (by first | decide | simp) (by simp only [List.drop_succ_cons, List.drop_zero, List.take_succ_cons, List.take_zero, S.put, Nat.sub_self, go_sem, ff]; exact rfl) ?_ rfl ?_
 ·
  try simp only [go_sem, ff]
  all_goals (first | done | (repeat' (with_reducible apply And.intro)) <;> first | omega | (with_reducible assumption) | (intros; omega) | (intros; simp only [decide_eq_true_eq, decide_eq_false_iff_not, Bool.or_eq_true, Bool.and_eq_true, Bool.or_eq_false_iff, Bool.not_eq_true', Bool.not_eq_false'] at *; omega) | (simp_all; done) | (simp_all; omega))
 try simp only [Zoa]
 refine cd (fun c1 => ?_) (fun c1 => ?_) (hp := rfl) (hq := rfl)
 ·
  skip
  have hn : l = [] := List.map_eq_nil_iff.1 (hy c1)
  subst hn
  refine stp Lun ?_
  refine Zba ?_
  exact fin 1 (hr := by (try simp only [go_sem, ff]); all_goals (rfl))
 ·
  skip
  refine dw_skip ?_
  show DW _ _ _ _ _
  refine stp Lun ?_
  refine Zba ?_
  exact fin 1 (hr := by (try simp only [go_sem, ff]); all_goals (rfl))
theorem bo101 : Zea Tryz.prog 101 = true := by kernel_rfl
theorem clonesig_ct (l : List RSig) (hl : l.length ≤ 1000000) : PureCt Tryz.prog 101 [.list false (l.map RSig.d)] (.list false (l.map RSig.d)) := by
 refine Zca Tryz.func101 rfl bo101 (by simp [go_sem, D.nr, nrs, nrr]) (by simp [Tryz.f101]) ?_
 unfold Tryz.f101
 simp only [Zfa]
 have ff := True.intro
 refine stp Lun ?_
 refine Zaa ?_
 refine Zaa (dw_seg ?_)
 refine seg_eqnil (C := Lun) 1 (e := 111) (by omega) (Zsb rfl) rfl rfl (by kernel_rfl) (by simp only [List.drop_succ_cons, List.drop_zero, List.take_succ_cons, List.take_zero, S.put, Nat.sub_self, go_sem, ff]; exact rfl) ?_ (by rfl) (by simp only [go_sem, ff]; exact rfl) (fun y hy => ?_)
 ·
  try simp only [go_sem, ff]
  all_goals (first | done | (repeat' (with_reducible apply And.intro)) <;> first | omega | (with_reducible assumption) | (intros; omega) | (intros; simp only [decide_eq_true_eq, decide_eq_false_iff_not, Bool.or_eq_true, Bool.and_eq_true, Bool.or_eq_false_iff, Bool.not_eq_true', Bool.not_eq_false'] at *; omega) | (simp_all; done) | (simp_all; omega))
 refine seg_done (C := Lun) (by first | decide | simp) (by simp only [List.drop_succ_cons, List.drop_zero, List.take_succ_cons, List.take_zero, S.put, Nat.sub_self, go_sem, ff]; exact rfl) ?_ rfl ?_
 ·
  try simp only [go_sem, ff]
  all_goals (first | done | (repeat' (with_reducible apply And.intro)) <;> first | omega | (with_reducible assumption) | (intros; omega) | (intros; simp only [decide_eq_true_eq, decide_eq_false_iff_not, Bool.or_eq_true, Bool.and_eq_true, Bool.or_eq_false_iff, Bool.not_eq_true', Bool.not_eq_false'] at *; omega) | (simp_all; done) | (simp_all; omega))
 try simp only [Zoa]
 refine cd (fun c1 => ?_) (fun c1 => ?_) (hp := rfl) (hq := rfl)
 ·
  skip
  have hn : l = [] := List.map_eq_nil_iff.1 (hy c1)
  subst hn
  refine stp Lun ?_
  refine Zba ?_
  exact fin 1 (hr := by (try simp only [go_sem, ff]); all_goals (rfl))
 ·
  skip
  refine dw_skip ?_
  show DW _ _ _ _ _
  refine stp Lun ?_
  refine Zba ?_
  exact fin 1 (hr := by (try simp only [go_sem, ff]); all_goals (rfl))
theorem bo64 : Zea Tryz.prog 64 = true := by kernel_rfl
theorem zclone_ct (s : Sgd) (hs : fit1 s) : PureCt Tryz.prog 64 [.agg s.d] (.agg s.d) := by
 refine Zca Tryz.func64 rfl bo64 (by simp [go_sem, D.nr, nrs, nrr]) (by simp [Tryz.f64]) ?_
 unfold Tryz.f64
 simp only [Zfa]
 have ff := True.intro
 refine stp Lun ?_
 refine stp Lun ?_ (hok := by (try simp only [go_sem, ff]); all_goals (exact clonedat_ct _ (Nat.le_trans hs.1 (by omega))))
 refine stp Lun ?_ (hok := by (try simp only [go_sem, ff]); all_goals (exact clonesig_ct _ (Nat.le_trans hs.2 (by omega))))
 refine stp Lun ?_
 refine Zba ?_
 exact fin 2 (hr := by (try simp only [go_sem, ff]); all_goals (rfl))
theorem bo27 : Zea Tryz.prog 27 = true := by kernel_rfl
theorem zfindF_ct (z : Zon) (q : Qst) (hf : fitL z.sets) : PureCt Tryz.prog 27 [.agg z.d, .agg q.d] (.tuple [.agg (findR z q).1.d, .b (findR z q).2.1, .i (findR z q).2.2]) := by
 refine Zca Tryz.func27 rfl bo27 (by simp [go_sem, D.nr, nrs, nrr]) (by simp [Tryz.f27]) ?_
 unfold Tryz.f27
 simp only [Zfa]
 have ff := True.intro
 refine stp Lun ?_
 refine Zaa ?_
 refine stp Lun ?_ (hok := by (try simp only [go_sem, ff]); all_goals (first | done | ((repeat' (with_reducible apply And.intro)) <;> first | exact zquest_ct _ | (intros; exact zquest_ct _) | exact (fun _ => Zbc _) | (intros; exact (fun _ => Zbc _)) | skip)))
 refine cd (fun c1 => ?_) (fun c1 => ?_)
 ·
  skip
  refine stp Lun ?_
  refine Zba ?_
  exact fin 2 (hr := by (try simp only [go_sem, ff]); all_goals (rw [findR, if_neg (by simp only [Bool.and_eq_true]; grind)]; try rfl))
 ·
  skip
  refine dw_skip ?_
  show DW _ _ _ _ _
  refine stp Lun ?_ (hok := by (try simp only [go_sem, ff]); all_goals (exact zfind_ct z q hf.1))
  refine Zaa ?_
  refine stp Lun ?_
  refine cd (fun c2 => ?_) (fun c2 => ?_)
  ·
   skip
   refine stp Lun ?_
   refine Zba ?_
   exact fin 2 (hr := by (try simp only [go_sem, ff]); all_goals (rw [findR, if_pos (by simp only [Bool.and_eq_true]; grind), if_neg (by simp [c2])]; try rfl))
  ·
   skip
   refine dw_skip ?_
   show DW _ _ _ _ _
   have h9 : findIx z.sets q < z.sets.length := by simp only [findOk, Bool.and_eq_true, decide_eq_true_eq] at c2; exact c2.1
   have ff := And.intro (Zma h9) ff
   refine stp Lun ?_ (hok := by (try simp only [go_sem, ff]); all_goals (first | done | ((repeat' (with_reducible apply And.intro)) <;> first | exact zclone_ct z.sets[findIx z.sets q]! (hf.2 _ h9) | (intros; exact zclone_ct z.sets[findIx z.sets q]! (hf.2 _ h9)) | omega | skip)))
   refine Zba ?_
   exact fin 2 (hr := by (try simp only [go_sem, ff]); all_goals (rw [findR, if_pos (by simp only [Bool.and_eq_true]; grind), if_pos c2]; try rfl))
theorem bo31 : Zea Tryz.prog 31 = true := by kernel_rfl
theorem Zcc (n : Str) (k : Int) (t : Str) (a : Int) (m : Int) : PureCt Tryz.prog 31 [.v (.string (bs n)), .i k, .v (.string (bs t)), .i a, .i m] (.agg (RSet.d (setU n k t a m))) := by
 refine Zca Tryz.func31 rfl bo31 (by simp [go_sem, D.nr, nrs, nrr]) (by simp [Tryz.f31]) ?_
 unfold Tryz.f31
 simp only [Zfa]
 have ff := True.intro
 refine stp Lun ?_
 refine stp Lun ?_
 refine Zba ?_
 exact fin 2 (hr := by (try simp only [go_sem, ff]); all_goals (rfl))
theorem bo30 : Zea Tryz.prog 30 = true := by kernel_rfl
theorem lex12_ct (s : Int) (w : List Int) (hw : w.length ≤ 1000) : PureCt Tryz.prog 30 [.i s, .list false (w.map wnD)] (.agg (exZ s w).d) := by
 refine Zca Tryz.func30 rfl bo30 (by simp [go_sem, D.nr, nrs, nrr]) (by simp [Tryz.f30]) ?_
 unfold Tryz.f30
 simp only [Zfa]
 have ff := True.intro
 refine stp Lun ?_
 refine stp Lun ?_
 refine Zaa ?_
 refine dw_ownj 2 3 31 63 (by simp only [go_sem, ff]; exact rfl) (by rfl) (by simp only [go_sem, ff]) ?_
 simp only [List.set_cons_succ, List.set_cons_zero]
 refine stp Lun ?_
 refine Zda ?_
 refine lp (α := (Nat) × (Nat) × Nat) [0, 4, 5, 9, 10] (fun ⟨k, r, nx⟩ => (k ≤ w.length) ∧ (r < nx) ∧ (2 < r) ∧ True) (fun ⟨k, r, nx⟩ => w.length - k) (fun ⟨k, r, nx⟩ => [(11, .i k)]) (fun ⟨k, r, nx⟩ => [(0, ⟨24, [[.v (.string (bs [])), .list true []]]⟩), (2, ⟨31, [[.v (.string (bs [119, 46, 120])), .i 1, .i 60, .mrow r 0 k]]⟩), (r, ⟨63, ((w.take (k)).map wrD)⟩)]) (fun ⟨k, r, nx⟩ => nx) (0, 4, _) (hA := ⟨iv, iv, iv, trivial⟩) (round := ?_)
 rintro ⟨k, r, nx⟩ ⟨hk, hr, hr2, -⟩
 show DW _ _ _ _ { n := _, t := tab _, h := _, nx := _, e := _ }
 simp only [List.cons_append, List.nil_append]
 have n0 : 2 < nx := by omega
 have hll := take_wr_len hk
 have z0_2 : (0 = 2) = False := eq_false (by omega)
 have y2_0 : (2 = 0) = False := eq_false (by omega)
 have z0_r : (0 = r) = False := eq_false (by omega)
 have yr_0 : (r = 0) = False := eq_false (by omega)
 have z2_r : (2 = r) = False := eq_false (by omega)
 have yr_2 : (r = 2) = False := eq_false (by omega)
 have ff := And.intro @hr (And.intro @n0 (And.intro @hll (And.intro @z0_2 (And.intro @y2_0 (And.intro @z0_r (And.intro @yr_0 (And.intro @z2_r (And.intro @yr_2 ff))))))))
 refine stp Lun ?_
 refine Zaa ?_
 refine cd (fun c1 => ?_) (fun c1 => ?_) (hp := rfl) (hq := rfl)
 ·
  skip
  have hk2 : k < w.length := by simpa using c1
  have ff := And.intro (getD_wnts hk2) ff
  refine dw_skip ?_
  show DW _ _ _ _ _
  refine Zaa ?_
  refine Zda ?_
  refine stp Lun ?_
  refine rgn Lun ?_
  show DW _ _ _ _ _
  refine rgn Lun ?_
  show ∃ _, _
  have hst := take_wr hk2
  have ff := And.intro hst ff
  exact rnd (k + 1, (nx + 9), _) (h1 := ⟨iv, iv, iv, trivial⟩)
 ·
  skip
  have hk3 : k = w.length := by have : ¬ k < w.length := (by simpa using c1); omega
  subst hk3
  refine Zja ?_
  show DW _ _ _ _ _
  refine dw_freezec 2 3 r (rows := ((w.take (w.length)).map wrD)) (off := 0) (len := w.length) (by simp only [go_sem, ff]; exact rfl) (by rfl) (by simp only [go_sem, ff]; exact rfl) (by omega) (by simp only [go_sem, ff]; omega) (by rw [List.take_length]; exact nrr_wr) ?_
  simp only [List.drop_zero, List.set_cons_succ, List.set_cons_zero]
  refine stp Lun ?_ (hok := by (try simp only [go_sem, ff]); all_goals (first | done | ((repeat' (with_reducible apply And.intro)) <;> first | exact Zcc [120] 2 [97, 46, 110, 115] 0 0 | (intros; exact Zcc [120] 2 [97, 46, 110, 115] 0 0) | exact Zcc [120] 4 [] s 60 | (intros; exact Zcc [120] 4 [] s 60) | skip)))
  refine Zba ?_
  exact fin 5 (hr := by (try simp only [go_sem, ff]); all_goals (first | (rw [← wr_ad]; rfl) | (rw [wkr_wr, ← wr_ad]; rfl)))
theorem bo18 : Zea Tryz.prog 18 = true := by kernel_rfl
theorem lusable12_ct (z : Zon) (u : Upd) : PureCt Tryz.prog 18 [.agg z.d, .agg u.d] (.b (usableB z u)) := by
 refine Zca Tryz.func18 rfl bo18 (by simp [go_sem, D.nr, nrs, nrr]) (by simp [Tryz.f18]) ?_
 unfold Tryz.f18
 simp only [Zfa]
 have ff := True.intro
 refine stp Lun ?_
 refine stp Lun ?_ (hok := by (try simp only [go_sem, ff]); all_goals (first | done | ((repeat' (with_reducible apply And.intro)) <;> first | exact r06few_ct z | (intros; exact r06few_ct z) | exact (fun _ => r06valid_ct z) | (intros; exact (fun _ => r06valid_ct z)) | exact (fun h => rplain12_ct z (by have := ref_len (z := z) (by simp_all); omega)) | (intros; exact (fun h => rplain12_ct z (by have := ref_len (z := z) (by simp_all); omega))) | exact (fun _ => rfew12_ct u) | (intros; exact (fun _ => rfew12_ct u)) | skip)))
 refine Zba ?_
 exact fin 0 (hr := by (try simp only [go_sem, ff]); all_goals (congr 2; rw [Bool.eq_iff_iff]; simp only [usableB, Bool.and_eq_true, decide_eq_true_eq]; constructor <;> (rintro ⟨⟨⟨⟨⟨h1, h2⟩, h3⟩, h4⟩, h5⟩, h6⟩; exact ⟨⟨⟨⟨⟨h1, h2⟩, h3⟩, h4⟩, by omega⟩, by omega⟩)))
theorem bo29 : Zea Tryz.prog 29 = true := by kernel_rfl
theorem Zmc (l : List Dat) (x : Dat) (hl : l.length ≤ 1000000) : PureCt Tryz.prog 29 [.list false (l.map Dat.d), .agg x.d] (.b (hasD l x)) := by
 refine Zca Tryz.func29 rfl bo29 (by simp [go_sem, D.nr, nrs, nrr]) (by simp [Tryz.f29]) ?_
 unfold Tryz.f29
 simp only [Zfa]
 have ff := True.intro
 refine stp Lun ?_
 refine Zaa ?_
 refine stp Lun ?_
 refine Zda ?_
 refine lp (α := (Nat) × Nat) [3, 7, 8] (fun ⟨k, nx⟩ => (k ≤ l.length) ∧ (0 < nx) ∧ (∀ i, i < k → l[i]! ≠ x) ∧ True) (fun ⟨k, nx⟩ => l.length - k) (fun ⟨k, nx⟩ => [(9, .i k)]) (fun ⟨k, nx⟩ => [(0, ⟨63, [x.d]⟩)]) (fun ⟨k, nx⟩ => nx) (0, _) (hA := ⟨iv, iv, (by first | (intro i hi; omega) | (dsimp only; intro i hi; omega)), trivial⟩) (round := ?_)
 rintro ⟨k, nx⟩ ⟨hk, hx, hv, -⟩
 show DW _ _ _ _ { n := _, t := tab _, h := _, nx := _, e := _ }
 simp only [List.cons_append, List.nil_append]
 have ff := And.intro @hx ff
 refine stp Lun ?_
 refine Zaa ?_
 refine cd (fun c1 => ?_) (fun c1 => ?_) (hp := rfl)
 ·
  skip
  have hk2 : k < l.length := by simpa using c1
  have ff := And.intro (Zec hk2) ff
  refine dw_skip ?_
  show DW _ _ _ _ _
  refine Zaa ?_
  refine Zda ?_
  refine stp Lun ?_
  refine stp Lun ?_
  refine cd (fun c2 => ?_) (fun c2 => ?_)
  ·
   skip
   refine stp Lun ?_
   refine Zba ?_
   exact fin 0 (hr := by (try simp only [go_sem, ff]); all_goals (simp only [hasD]; rw [decide_eq_true]; exact mem_ix.2 ⟨k, hk2, dat_eqX (by grind)⟩))
  ·
   skip
   refine dw_skip ?_
   show DW _ _ _ _ _
   refine rgn Lun ?_
   show ∃ _, _
   exact rnd (k + 1, _) (h1 := ⟨iv, iv, (by (try dsimp only); intro i hi; by_cases e : i = k; subst e; rintro rfl; simp at c2; exact hv i (by omega)), trivial⟩)
 ·
  skip
  refine Zja ?_
  show DW _ _ _ _ _
  refine stp Lun ?_
  refine Zba ?_
  exact fin 0 (hr := by (try simp only [go_sem, ff]); all_goals (simp only [hasD]; rw [decide_eq_false]; intro hm; obtain ⟨i, hi, e⟩ := mem_ix.1 hm; exact hv i (by omega) e))
set_option maxRecDepth 10000
theorem bo65 : Zea Tryz.prog 65 = true := by kernel_rfl
theorem loth12_ct (x : Zon) (y : Zon) (s : RSet) (hx : x.sets.length ≤ 1000000) (hy : fitL y.sets) : PureCt Tryz.prog 65 [.agg x.d, .agg y.d, .eptr s.d] (.b (othB x y s)) := by
 refine Zca Tryz.func65 rfl bo65 (by simp [go_sem, D.nr, nrs, nrr]) (by simp [Tryz.f65]) ?_
 unfold Tryz.f65
 simp only [Zfa]
 have ff := True.intro
 refine stp Lun ?_
 refine Zaa ?_
 refine stp Lun ?_
 refine Zda ?_
 refine lp (α := (Nat) × Nat) [2, 4, 10, 11] (fun ⟨k, nx⟩ => (k ≤ x.sets.length) ∧ (Zxa x.sets.length ((othAt x y s)) 0 = Zxa x.sets.length ((othAt x y s)) k) ∧ (1 < nx) ∧ True) (fun ⟨k, nx⟩ => x.sets.length - k) (fun ⟨k, nx⟩ => [(12, .i k)]) (fun ⟨k, nx⟩ => [(0, ⟨24, [x.d]⟩), (1, ⟨24, [y.d]⟩)]) (fun ⟨k, nx⟩ => nx) (0, _) (hA := ⟨iv, rfl, iv, trivial⟩) (round := ?_)
 rintro ⟨k, nx⟩ ⟨hk, hv, hx9, -⟩
 show DW _ _ _ _ { n := _, t := tab _, h := _, nx := _, e := _ }
 simp only [List.cons_append, List.nil_append]
 have ff := And.intro @hx9 ff
 refine stp Lun ?_
 refine Zaa ?_
 refine cd (fun c1 => ?_) (fun c1 => ?_) (hp := rfl)
 ·
  skip
  have hk2 : k < x.sets.length := by simpa using c1
  have ff := And.intro (Zma hk2) ff
  refine dw_skip ?_
  show DW _ _ _ _ _
  refine Zaa ?_
  refine Zda ?_
  refine stp Lun ?_
  refine stp Lun ?_ (hok := by (try simp only [go_sem, ff]); all_goals (first | done | ((repeat' (with_reducible apply And.intro)) <;> first | exact rat06_ct y ⟨x.sets[k]!.set.name, x.sets[k]!.set.ty⟩ hy.1 | (intros; exact rat06_ct y ⟨x.sets[k]!.set.name, x.sets[k]!.set.ty⟩ hy.1) | exact ez9 | skip)))
  refine Zaa ?_
  refine stp Lun ?_
  refine cd (fun c2 => ?_) (fun c2 => ?_)
  ·
   skip
   refine Zja ?_
   show DW _ _ _ _ _
   refine rgn Lun ?_
   show ∃ _, _
   have h8 : ((othAt x y s)) k = true := by simp only [othAt]; first | (rw [Bool.or_eq_true, Bool.or_eq_true, Bool.and_eq_true, decide_eq_true_eq, decide_eq_true_eq, decide_eq_true_eq]; left; grind) | (rw [Bool.or_eq_true, Bool.and_eq_true, decide_eq_true_eq]; right; exact ⟨by grind, by grind⟩) | grind
   exact rnd (k + 1, _) (h1 := ⟨iv, (by first | (rw [hv, Zha hk2 h8]) | (dsimp only; rw [hv, Zha hk2 h8])), iv, trivial⟩)
  ·
   skip
   refine dw_skip ?_
   show DW _ _ _ _ _
   rcases Int.lt_or_le (atF y.sets ⟨x.sets[k]!.set.name, x.sets[k]!.set.ty⟩) 0 with hA | hA
   ·
    skip
    have hA1 : decide ((atF y.sets ⟨x.sets[k]!.set.name, x.sets[k]!.set.ty⟩) < 0) = true := decide_eq_true hA
    have ff := And.intro @hA1 ff
    refine stp Lun ?_ (hok := by (try simp only [go_sem, ff]); all_goals (first | done | ((repeat' (with_reducible apply And.intro)) <;> first | exact Zpc _ _ (hy.2 _ hat) | (intros; exact Zpc _ _ (hy.2 _ hat)) | exact (fun _ => Zpc _ _ (hy.2 _ hat)) | (intros; exact (fun _ => Zpc _ _ (hy.2 _ hat))) | exact ez9 | skip)))
    refine cd (fun c3 => ?_) (fun c3 => ?_)
    ·
     skip
     refine stp Lun ?_
     refine Zba ?_
     exact fin 0 (hr := by (try simp only [go_sem, ff]); all_goals (have hF : (othAt x y s) k = false := (by simp only [othAt]; grind); simp only [othB]; rw [hv, Zra hk2 hF]))
    ·
     skip
     refine dw_skip ?_
     show DW _ _ _ _ _
     refine rgn Lun ?_
     show ∃ _, _
     have h8 : ((othAt x y s)) k = true := by simp only [othAt]; first | (rw [Bool.or_eq_true, Bool.or_eq_true, Bool.and_eq_true, decide_eq_true_eq, decide_eq_true_eq, decide_eq_true_eq]; left; grind) | (rw [Bool.or_eq_true, Bool.and_eq_true, decide_eq_true_eq]; right; exact ⟨by grind, by grind⟩) | grind
     exact rnd (k + 1, _) (h1 := ⟨iv, (by first | (rw [hv, Zha hk2 h8]) | (dsimp only; rw [hv, Zha hk2 h8])), iv, trivial⟩)
   ·
    skip
    have hA1 : decide ((atF y.sets ⟨x.sets[k]!.set.name, x.sets[k]!.set.ty⟩) < 0) = false := decide_eq_false (by omega)
    have hat := at_ltL hA
    have ff := And.intro @hA1 (And.intro (Zma hat) ff)
    refine stp Lun ?_ (hok := by (try simp only [go_sem, ff]); all_goals (first | done | ((repeat' (with_reducible apply And.intro)) <;> first | exact Zpc _ _ (hy.2 _ hat) | (intros; exact Zpc _ _ (hy.2 _ hat)) | exact (fun _ => Zpc _ _ (hy.2 _ hat)) | (intros; exact (fun _ => Zpc _ _ (hy.2 _ hat))) | exact ez9 | skip)))
    refine cd (fun c3 => ?_) (fun c3 => ?_)
    ·
     skip
     refine stp Lun ?_
     refine Zba ?_
     exact fin 0 (hr := by (try simp only [go_sem, ff]); all_goals (have hF : (othAt x y s) k = false := (by simp only [othAt]; grind); simp only [othB]; rw [hv, Zra hk2 hF]))
    ·
     skip
     refine dw_skip ?_
     show DW _ _ _ _ _
     refine rgn Lun ?_
     show ∃ _, _
     have h8 : ((othAt x y s)) k = true := by simp only [othAt]; first | (rw [Bool.or_eq_true, Bool.or_eq_true, Bool.and_eq_true, decide_eq_true_eq, decide_eq_true_eq, decide_eq_true_eq]; left; grind) | (rw [Bool.or_eq_true, Bool.and_eq_true, decide_eq_true_eq]; right; exact ⟨by grind, by grind⟩) | grind
     exact rnd (k + 1, _) (h1 := ⟨iv, (by first | (rw [hv, Zha hk2 h8]) | (dsimp only; rw [hv, Zha hk2 h8])), iv, trivial⟩)
 ·
  skip
  refine Zja ?_
  show DW _ _ _ _ _
  refine stp Lun ?_
  refine Zba ?_
  exact fin 0 (hr := by (try simp only [go_sem, ff]); all_goals (simp only [othB]; rw [hv, Zva (by have : ¬ k < x.sets.length := (by simpa using c1); omega)]))
theorem bo28 : Zea Tryz.prog 28 = true := by kernel_rfl
theorem lothers12_ct (a : Zon) (b : Zon) (s : RSet) (ha : fitL a.sets) (hb : fitL b.sets) : PureCt Tryz.prog 28 [.agg a.d, .agg b.d, .agg s.d] (.b (othersB a b s)) := by
 refine Zca Tryz.func28 rfl bo28 (by simp [go_sem, D.nr, nrs, nrr]) (by simp [Tryz.f28]) ?_
 unfold Tryz.f28
 simp only [Zfa]
 have ff := True.intro
 refine stp Lun ?_
 refine stp Lun ?_
 refine stp Lun ?_ (hok := by (try simp only [go_sem, ff]); all_goals (first | done | ((repeat' (with_reducible apply And.intro)) <;> first | exact loth12_ct a b s ha.1 hb | (intros; exact loth12_ct a b s ha.1 hb) | exact (fun _ => loth12_ct b a s hb.1 ha) | (intros; exact (fun _ => loth12_ct b a s hb.1 ha)) | skip)))
 refine Zba ?_
 exact fin 0 (hr := by (try simp only [go_sem, ff]); all_goals (rfl))
set_option maxRecDepth 10000
theorem uex_rct (s : Int) (w : List Int) (hw : w.length ≤ 1000) (h : H) (n : Nat) : RCt Tryz.prog 30 [.i s, .list false (w.map wnD)] h n (fun d h' n' => ∃ rs, d = .agg [.v (.string (bs [120])), .mrow rs 0 3] ∧ h' rs = some ⟨52, [[.v (.string (bs [120])), .i 2, .i 60, .list false [[.v (.string (bs [97, 46, 110, 115])), .i 0, .i 0]], .list true []], [.v (.string (bs [120])), .i 4, .i 60, .list false [[.v (.string (bs [])), .i s, .i 60]], .list true []], [.v (.string (bs [119, 46, 120])), .i 1, .i 60, .list false (w.map wrD), .list true []]]⟩ ∧ n ≤ rs ∧ rs < n' ∧ ∀ q, q < n → h' q = h q) := by
 refine Znb Tryz.func30 rfl bo30 (by simp [Tryz.f30]) (fun hnone => ?_)
 unfold Tryz.f30
 have ff := True.intro
 refine stp Lun ?_
 refine stp Lun ?_
 refine Zaa ?_
 refine dw_ownj (n + 2) 3 31 63 (by simp only [go_sem, ff]; exact rfl) (by rfl) (by simp only [go_sem, ff]) ?_
 simp only [List.set_cons_succ, List.set_cons_zero]
 refine stp Lun ?_
 refine Zda ?_
 refine lph (α := (Nat) × (Nat) × Nat) [0, 4, 5, 9, 10] (fun ⟨k, r, nx⟩ => (k ≤ w.length) ∧ (r < nx) ∧ (n + 2 < r) ∧ True) (fun ⟨k, r, nx⟩ => w.length - k) (fun ⟨k, r, nx⟩ => [(11, .i k)]) (fun ⟨k, r, nx⟩ => upd (upd (upd h n (some ⟨24, [[.v (.string (bs [])), .list true []]]⟩)) (n + 2) (some ⟨31, [[.v (.string (bs [119, 46, 120])), .i 1, .i 60, .mrow (r) 0 (k)]]⟩)) (r) (some ⟨63, ((w.take (k)).map wrD)⟩)) (fun ⟨k, r, nx⟩ => nx) (0, (n + 4), _) (hA := ⟨iv, iv, iv, trivial⟩) (round := ?_) (hhh := by intro q; left; dsimp only; simp only [upd]; (repeat' split) <;> first | rfl | omega | (simp_all; done) | (exfalso; omega))
 rintro ⟨k, r, nx⟩ ⟨hk, hr, hr2, -⟩
 show DW _ _ _ _ { n := _, t := tab _, h := _, nx := _, e := _ }
 simp only [List.cons_append, List.nil_append]
 have n0 : n + 2 < nx := by omega
 have hll := take_wr_len hk
 have zr_n : (r = n) = False := eq_false (by omega)
 have yn_r : (n = r) = False := eq_false (by omega)
 have zr_n2 : (r = n + 2) = False := eq_false (by omega)
 have yn2_r : (n + 2 = r) = False := eq_false (by omega)
 have ff := And.intro @hr (And.intro @n0 (And.intro @hll (And.intro @zr_n (And.intro @yn_r (And.intro @zr_n2 (And.intro @yn2_r ff))))))
 refine stp Lun ?_
 refine Zaa ?_
 refine cd (fun c1 => ?_) (fun c1 => ?_) (hp := rfl) (hq := rfl)
 ·
  skip
  have hk2 : k < w.length := by simpa using c1
  have ff := And.intro (getD_wnts hk2) ff
  refine dw_skip ?_
  show DW _ _ _ _ _
  refine Zaa ?_
  refine Zda ?_
  refine stp Lun ?_
  refine rgn Lun ?_
  show DW _ _ _ _ _
  refine rgn Lun ?_
  show ∃ _, _
  have hst := take_wr hk2
  have ff := And.intro hst ff
  refine rnd (k + 1, (nx + 9), _) (h1 := ⟨iv, iv, iv, trivial⟩) (h5 := ?_)
  intro q
  by_cases e4 : q = r
  ·
   right; subst e4; simp only [upd]; repeat rw [if_neg (by omega)]
   exact hnone _ (by omega)
  ·
   left; simp only [upd]; try simp only [go_sem, ff]
   (repeat' split) <;> first | rfl | omega | (simp_all; done) | (exfalso; omega)
 ·
  skip
  have hk3 : k = w.length := by have : ¬ k < w.length := (by simpa using c1); omega
  subst hk3
  refine Zja ?_
  show DW _ _ _ _ _
  refine dw_freezec (n + 2) 3 r (rows := ((w.take (w.length)).map wrD)) (off := 0) (len := w.length) (by simp only [go_sem, ff]; exact rfl) (by rfl) (by simp only [go_sem, ff]; exact rfl) (by omega) (by simp only [go_sem, ff]; omega) (by rw [List.take_length]; exact nrr_wr) ?_
  simp only [List.drop_zero, List.set_cons_succ, List.set_cons_zero]
  have znx8_n : (nx + 8 = n) = False := eq_false (by omega)
  have yn_nx8 : (n = nx + 8) = False := eq_false (by omega)
  have ff := And.intro @znx8_n (And.intro @yn_nx8 ff)
  refine stp LunB ?_ (hok := by (try simp only [go_sem, ff]); all_goals (first | done | ((repeat' (with_reducible apply And.intro)) <;> first | exact Zcc [120] 2 [97, 46, 110, 115] 0 0 | (intros; exact Zcc [120] 2 [97, 46, 110, 115] 0 0) | exact Zcc [120] 4 [] s 60 | (intros; exact Zcc [120] 4 [] s 60) | omega | skip)))
  refine Zba ?_
  refine finr (_) (hh := fun _ => .inl rfl) (hr := ?_)
  try simp only [go_sem, ff]
  refine ⟨nx + 8, rfl, ?_, by omega, by first | omega | (dsimp only; omega), fun q hq => ?_⟩
  ·
   simp only [upd]; repeat (first | rfl | rw [if_neg (by omega)] | rw [if_pos rfl])
  ·
   simp only [upd]; repeat (first | rfl | rw [if_neg (by omega)])
set_option maxRecDepth 10000
attribute [go_sem] setU
@[go_sem] theorem chgs1_one9 {f g : Bool} {k t l : Int} {k1 k2 k3 : IntKind} {s : ByteArray} {rows : List (List D)} : chgs1 (.list f [[.v (.int k1 k), .v (.string s), .v (.int k2 t), .v (.int k3 l), .list g rows]]) = [⟨k, ⟨s.data.toList, t, l, dats1 (.list g rows)⟩⟩] := rfl
@[go_sem] theorem dats1_nil9 {f : Bool} : dats1 (.list f []) = [] := rfl
theorem hu1 : updR (exZ 65535 [7]) ⟨[(⟨3, ⟨[119, 46, 120], 1, 0, []⟩⟩ : Chg)], [⟨1, (⟨[119, 46, 120], 1, 5, [⟨[], 3, 0⟩]⟩ : RSet)⟩]⟩ = ((⟨[120], [⟨⟨[120], 2, 60, [⟨[97, 46, 110, 115], 0, 0⟩]⟩, []⟩, ⟨⟨[120], 4, 60, [⟨[], 0, 60⟩]⟩, []⟩, ⟨⟨[119, 46, 120], 1, 5, [⟨[], 3, 0⟩, ⟨[], 7, 0⟩]⟩, []⟩]⟩ : Zon), 0) := by kernel_rfl
theorem hu2 : updR (exZ 65535 [7]) ⟨[], [⟨2, ⟨[120], 2, 60, [⟨[97, 46, 110, 115], 0, 0⟩]⟩⟩]⟩ = (zon0, 6) := by kernel_rfl
theorem hu3 : updR (exZ 65535 [7]) ⟨[(⟨4, ⟨[119, 46, 120], 1, 0, []⟩⟩ : Chg)], []⟩ = (zon0, 24) := by kernel_rfl
theorem hu4 : updR (exZ 65535 [7]) ⟨[], []⟩ = ((exZ 65535 [7]), 0) := by kernel_rfl
theorem hh1 : holdsF (exZ 65535 [7]) ⟨5, (⟨[119, 46, 120], 1, 5, [⟨[], 3, 0⟩]⟩ : RSet)⟩ = (false, 0) := by kernel_rfl
theorem hh2 : holdsF (exZ 65535 [7]) ⟨5, ⟨[119, 46, 120], 1, 60, [⟨[], 7, 0⟩]⟩⟩ = (true, 0) := by kernel_rfl
theorem hh3 : holdsF (exZ 65535 [7]) ⟨1, ⟨[121], 0, 0, []⟩⟩ = (false, 20) := by kernel_rfl
theorem hs8 : sameZ (⟨[120], [⟨⟨[120], 2, 60, [⟨[97, 46, 110, 115], 0, 0⟩]⟩, []⟩, ⟨⟨[120], 4, 60, [⟨[], 0, 60⟩]⟩, []⟩, ⟨⟨[119, 46, 120], 1, 5, [⟨[], 3, 0⟩, ⟨[], 7, 0⟩]⟩, []⟩]⟩ : Zon) (⟨[120], [⟨⟨[120], 2, 60, [⟨[97, 46, 110, 115], 0, 0⟩]⟩, []⟩, ⟨⟨[120], 4, 60, [⟨[], 0, 60⟩]⟩, []⟩, ⟨⟨[119, 46, 120], 1, 5, [⟨[], 3, 0⟩, ⟨[], 7, 0⟩]⟩, []⟩]⟩ : Zon) = true := by exact decide_eq_true rfl
theorem hs9 : sameZ (exZ 65535 [7]) (exZ 65535 [7]) = true := by exact decide_eq_true rfl
theorem hfy : fitL (Zon.sets (⟨[120], [⟨⟨[120], 2, 60, [⟨[97, 46, 110, 115], 0, 0⟩]⟩, []⟩, ⟨⟨[120], 4, 60, [⟨[], 0, 60⟩]⟩, []⟩, ⟨⟨[119, 46, 120], 1, 5, [⟨[], 3, 0⟩, ⟨[], 7, 0⟩]⟩, []⟩]⟩ : Zon)) := ⟨by decide, by intro k hk; have : k = 0 ∨ k = 1 ∨ k = 2 := (by have : (Zon.sets (⟨[120], [⟨⟨[120], 2, 60, [⟨[97, 46, 110, 115], 0, 0⟩]⟩, []⟩, ⟨⟨[120], 4, 60, [⟨[], 0, 60⟩]⟩, []⟩, ⟨⟨[119, 46, 120], 1, 5, [⟨[], 3, 0⟩, ⟨[], 7, 0⟩]⟩, []⟩]⟩ : Zon)).length = 3 := rfl; omega); rcases this with e | e | e <;> subst e <;> exact ⟨by decide, by decide⟩⟩
theorem hfz : fitL (Zon.sets (exZ 65535 [7])) := ⟨by decide, by intro k hk; have : k = 0 ∨ k = 1 ∨ k = 2 := (by have : (Zon.sets (exZ 65535 [7])).length = 3 := rfl; omega); rcases this with e | e | e <;> subst e <;> exact ⟨by decide, by decide⟩⟩
theorem Zna {z x : Zon} {u : Upd} {e : Int} (h : updR z u = (x, e)) : PureCt Tryz.prog 13 [.agg z.d, .agg u.d] (.tuple [.agg x.d, .i e]) := by
 have := uapply12_ct z u
 rwa [h] at this
theorem uholds_as {z : Zon} {n : Chg} {x : Bool} {e : Int} (h : holdsF z n = (x, e)) : PureCt Tryz.prog 15 [.agg z.d, .agg n.d] (.tuple [.b x, .i e]) := by
 have := uholds12_ct z n
 rwa [h] at this
theorem Zpa {x : Zon} (h : fitL x.sets) : PureCt Tryz.prog 17 [.agg x.d, .agg x.d] (.b true) := by
 have := rsamez_ct x x h
 rwa [show sameZ x x = true from decide_eq_true rfl] at this
theorem bo10 : Zea Tryz.prog 10 = true := by kernel_rfl
theorem head12_ct  : PureCt Tryz.prog 10 [] (.b true) := by
 refine Zca Tryz.func10 rfl bo10 (by simp [go_sem, D.nr, nrs, nrr]) (by simp [Tryz.f10]) ?_
 unfold Tryz.f10
 simp only [Zfa]
 have ff := True.intro
 have ff := And.intro @hu1 (And.intro @hu2 (And.intro @hu3 (And.intro @hu4 (And.intro @hh1 (And.intro @hh2 (And.intro @hh3 (And.intro @hs8 (And.intro @hs9 ff))))))))
 refine stp Lun ?_
 refine stp Lun ?_ (hok := by (try simp only [go_sem, ff]); all_goals (first | done | ((repeat' (with_reducible apply And.intro)) <;> first | exact lex12_ct 65535 [7] (by decide) | (intros; exact lex12_ct 65535 [7] (by decide)) | rfl | omega | skip)))
 refine stp Lun ?_ (hok := by (try simp only [go_sem, ff]); all_goals (first | done | ((repeat' (with_reducible apply And.intro)) <;> first | exact Zcc [119, 46, 120] 1 [] 3 0 | (intros; exact Zcc [119, 46, 120] 1 [] 3 0) | rfl | omega | skip)))
 refine stp Lun ?_
 refine stp Lun ?_
 refine stp Lun ?_ (hok := by (try simp only [go_sem, ff]); all_goals (first | done | ((repeat' (with_reducible apply And.intro)) <;> first | exact Zna hu1 | (intros; exact Zna hu1) | rfl | omega | skip)))
 refine Zaa (cal1 Lun 1 (hct := by exact uex_rct 0 [3, 7] (by decide) _ _) (hk := ?_))
 rintro res h2 n2 ⟨rs, rfl, x1, x2, x3, x4⟩
 try dsimp only at x2 x3 x4
 have y3 : h2 3 = _ := (x4 3 (by omega)).trans (by simp only [go_sem, ff]; exact rfl)
 have y6 : h2 6 = _ := (x4 6 (by omega)).trans (by simp only [go_sem, ff]; exact rfl)
 have y12 : h2 12 = _ := (x4 12 (by omega)).trans (by simp only [go_sem, ff]; exact rfl)
 have y25 : h2 25 = _ := (x4 25 (by omega)).trans (by simp only [go_sem, ff]; exact rfl)
 have zrs_3 : (rs = 3) = False := eq_false (by omega)
 have y3_rs : (3 = rs) = False := eq_false (by omega)
 have zrs_6 : (rs = 6) = False := eq_false (by omega)
 have y6_rs : (6 = rs) = False := eq_false (by omega)
 have zrs_12 : (rs = 12) = False := eq_false (by omega)
 have y12_rs : (12 = rs) = False := eq_false (by omega)
 have zrs_25 : (rs = 25) = False := eq_false (by omega)
 have y25_rs : (25 = rs) = False := eq_false (by omega)
 have zrs_n22 : (rs = n2 + 2) = False := eq_false (by omega)
 have yn22_rs : (n2 + 2 = rs) = False := eq_false (by omega)
 have zn22_3 : (n2 + 2 = 3) = False := eq_false (by omega)
 have y3_n22 : (3 = n2 + 2) = False := eq_false (by omega)
 have zn22_6 : (n2 + 2 = 6) = False := eq_false (by omega)
 have y6_n22 : (6 = n2 + 2) = False := eq_false (by omega)
 have zn22_12 : (n2 + 2 = 12) = False := eq_false (by omega)
 have y12_n22 : (12 = n2 + 2) = False := eq_false (by omega)
 have zn22_25 : (n2 + 2 = 25) = False := eq_false (by omega)
 have y25_n22 : (25 = n2 + 2) = False := eq_false (by omega)
 have zn219_3 : (n2 + 19 = 3) = False := eq_false (by omega)
 have y3_n219 : (3 = n2 + 19) = False := eq_false (by omega)
 have zn219_6 : (n2 + 19 = 6) = False := eq_false (by omega)
 have y6_n219 : (6 = n2 + 19) = False := eq_false (by omega)
 have zn219_12 : (n2 + 19 = 12) = False := eq_false (by omega)
 have y12_n219 : (12 = n2 + 19) = False := eq_false (by omega)
 have zn219_25 : (n2 + 19 = 25) = False := eq_false (by omega)
 have y25_n219 : (25 = n2 + 19) = False := eq_false (by omega)
 have zn219_rs : (n2 + 19 = rs) = False := eq_false (by omega)
 have yrs_n219 : (rs = n2 + 19) = False := eq_false (by omega)
 have zn232_3 : (n2 + 32 = 3) = False := eq_false (by omega)
 have y3_n232 : (3 = n2 + 32) = False := eq_false (by omega)
 have zn232_6 : (n2 + 32 = 6) = False := eq_false (by omega)
 have y6_n232 : (6 = n2 + 32) = False := eq_false (by omega)
 have zn232_12 : (n2 + 32 = 12) = False := eq_false (by omega)
 have y12_n232 : (12 = n2 + 32) = False := eq_false (by omega)
 have zn232_25 : (n2 + 32 = 25) = False := eq_false (by omega)
 have y25_n232 : (25 = n2 + 32) = False := eq_false (by omega)
 have zn232_rs : (n2 + 32 = rs) = False := eq_false (by omega)
 have yrs_n232 : (rs = n2 + 32) = False := eq_false (by omega)
 have zn241_3 : (n2 + 41 = 3) = False := eq_false (by omega)
 have y3_n241 : (3 = n2 + 41) = False := eq_false (by omega)
 have zn241_6 : (n2 + 41 = 6) = False := eq_false (by omega)
 have y6_n241 : (6 = n2 + 41) = False := eq_false (by omega)
 have zn241_12 : (n2 + 41 = 12) = False := eq_false (by omega)
 have y12_n241 : (12 = n2 + 41) = False := eq_false (by omega)
 have zn241_25 : (n2 + 41 = 25) = False := eq_false (by omega)
 have y25_n241 : (25 = n2 + 41) = False := eq_false (by omega)
 have zn241_rs : (n2 + 41 = rs) = False := eq_false (by omega)
 have yrs_n241 : (rs = n2 + 41) = False := eq_false (by omega)
 have ff := And.intro @x1 (And.intro @y3 (And.intro @y6 (And.intro @y12 (And.intro @y25 (And.intro @zrs_3 (And.intro @y3_rs (And.intro @zrs_6 (And.intro @y6_rs (And.intro @zrs_12 (And.intro @y12_rs (And.intro @zrs_25 (And.intro @y25_rs (And.intro @zrs_n22 (And.intro @yn22_rs (And.intro @zn22_3 (And.intro @y3_n22 (And.intro @zn22_6 (And.intro @y6_n22 (And.intro @zn22_12 (And.intro @y12_n22 (And.intro @zn22_25 (And.intro @y25_n22 (And.intro @zn219_3 (And.intro @y3_n219 (And.intro @zn219_6 (And.intro @y6_n219 (And.intro @zn219_12 (And.intro @y12_n219 (And.intro @zn219_25 (And.intro @y25_n219 (And.intro @zn219_rs (And.intro @yrs_n219 (And.intro @zn232_3 (And.intro @y3_n232 (And.intro @zn232_6 (And.intro @y6_n232 (And.intro @zn232_12 (And.intro @y12_n232 (And.intro @zn232_25 (And.intro @y25_n232 (And.intro @zn232_rs (And.intro @yrs_n232 (And.intro @zn241_3 (And.intro @y3_n241 (And.intro @zn241_6 (And.intro @y6_n241 (And.intro @zn241_12 (And.intro @y12_n241 (And.intro @zn241_25 (And.intro @y25_n241 (And.intro @zn241_rs (And.intro @yrs_n241 ff))))))))))))))))))))))))))))))))))))))))))))))))))))
 refine cal2 Lun ?_
 show DW _ _ _ _ _
 refine stp Lun ?_
 refine dw_freezec (n2 + 2) 1 rs (off := 0) (len := 3) (by simp only [go_sem, ff]; exact rfl) (by rfl) (by simp only [go_sem, ff]; exact rfl) (by omega) (by decide) (by rfl) ?_
 simp only [List.drop_zero, List.set_cons_succ, List.set_cons_zero, List.take_succ_cons, List.take_zero]
 refine stp LunF ?_ (hok := by (try simp only [go_sem, ff]); all_goals (first | done | ((repeat' (with_reducible apply And.intro)) <;> first | exact Zcc [120] 2 [97, 46, 110, 115] 0 0 | (intros; exact Zcc [120] 2 [97, 46, 110, 115] 0 0) | exact Zna hu2 | (intros; exact Zna hu2) | rfl | omega | skip)))
 refine stp Lun ?_
 refine stp Lun ?_ (hok := by (try simp only [go_sem, ff]); all_goals (first | done | ((repeat' (with_reducible apply And.intro)) <;> first | exact Zna hu3 | (intros; exact Zna hu3) | rfl | omega | skip)))
 refine stp Lun ?_ (hok := by (try simp only [go_sem, ff]); all_goals (first | done | ((repeat' (with_reducible apply And.intro)) <;> first | exact Zna hu4 | (intros; exact Zna hu4) | rfl | omega | skip)))
 refine stp Lun ?_ (hok := by (try simp only [go_sem, ff]); all_goals (first | done | ((repeat' (with_reducible apply And.intro)) <;> first | exact uholds_as hh1 | (intros; exact uholds_as hh1) | rfl | omega | skip)))
 refine stp LunF ?_ (hok := by (try simp only [go_sem, ff]); all_goals (first | done | ((repeat' (with_reducible apply And.intro)) <;> first | exact Zcc [119, 46, 120] 1 [] 7 0 | (intros; exact Zcc [119, 46, 120] 1 [] 7 0) | exact uholds_as hh2 | (intros; exact uholds_as hh2) | rfl | omega | skip)))
 refine stp Lun ?_ (hok := by (try simp only [go_sem, ff]); all_goals (first | done | ((repeat' (with_reducible apply And.intro)) <;> first | exact uholds_as hh3 | (intros; exact uholds_as hh3) | rfl | omega | skip)))
 refine stp Lun ?_
 refine stp Lun ?_ (hok := by (try simp only [go_sem, ff]); all_goals (first | done | ((repeat' (with_reducible apply And.intro)) <;> first | exact (fun _ => Zpa hfy) | (intros; exact (fun _ => Zpa hfy)) | exact Zpa hfy | (intros; exact Zpa hfy) | exact (fun _ => Zpa hfz) | (intros; exact (fun _ => Zpa hfz)) | rfl | omega | skip)))
 refine Zba ?_
 exact fin 0 (hr := by (try simp only [go_sem, ff]); all_goals (first | rfl | kernel_rfl))
set_option maxRecDepth 10000
def hAll (z : Zon) (l : List Chg) : Nat → Bool
 | 0 => true
 | k + 1 => hAll z l k && holdB z l[k]!
@[go_sem] theorem hAll_0 {z : Zon} {l : List Chg} : hAll z l 0 = true := rfl
set_option maxRecDepth 10000
theorem ref_zone {z : Zon} (h : zoneOk z = true) : refOk z = true := by rw [← Zae]; exact h
theorem Zsd {z : Zon} (h : zoneOk z = true) : fitL (settF z).sets := by
 rw [sett_put h]
 have hz := zone_fit h
 have hl : (Zce z 0).sets.length ≤ z.sets.length + 1 := putL_len _
 refine ⟨by have := (Zee h).len; omega, fun k hk => ?_⟩
 have hm : (Zce z 0).sets[k]! ∈ putL z.sets (stN z 0) := Zmb hk
 rcases putL_mem.1 hm with e | e
 ·
  rw [e]; exact ⟨by show (1 : Nat) ≤ _; omega, by show (0 : Nat) ≤ _; omega⟩
 ·
  obtain ⟨i, hi, e2⟩ := mem_ix.1 e.1
  rw [← e2]
  exact hz.2 i hi
theorem Zla {z : Zon} (h : zoneOk z = true) : PureCt Tryz.prog 19 [.agg z.d] (.agg (settF z).d) := by
 have hr := ref_zone h
 exact rsett12_ct z (by have := (Zee h).len; omega) (fun _ => ref_data hr)
set_option maxRecDepth 10000
theorem others_half {x y : Zon} {s : RSet} (hx : ZOrd x) (h : ∀ p : Qst, p ≠ ⟨s.name, s.ty⟩ → p.ty ≠ 4 → Zuc y.sets p = Zuc x.sets p) : othB x y s = true := by
 unfold othB
 rw [Zqa]
 intro i _ hi
 unfold othAt
 by_cases h4 : x.sets[i]!.set.ty = 4
 ·
  rw [decide_eq_true h4]; rfl
 by_cases hq : x.sets[i]!.q = ⟨s.name, s.ty⟩
 ·
  have h1 : x.sets[i]!.set.name = s.name := congrArg Qst.name hq
  have h2 : x.sets[i]!.set.ty = s.ty := congrArg Qst.ty hq
  rw [decide_eq_true h1, decide_eq_true h2]
  simp
 ·
  have hm := mget_mem hx.ord (Zmb hi)
  have h3 := h x.sets[i]!.q hq h4
  rw [hm] at h3
  obtain ⟨a, b⟩ := atF_yes h3
  have a' : 0 ≤ atF y.sets ⟨x.sets[i]!.set.name, x.sets[i]!.set.ty⟩ := a
  have b' : y.sets[(atF y.sets ⟨x.sets[i]!.set.name, x.sets[i]!.set.ty⟩).toNat]! = x.sets[i]! := b
  rw [b', decide_eq_true a', sameSgd_self]
  simp
theorem others_of {z y : Zon} {s : RSet} (hz : ZOrd z) (hy : ZOrd y) (h : ∀ p : Qst, p ≠ ⟨s.name, s.ty⟩ → p.ty ≠ 4 → Zuc y.sets p = Zuc z.sets p) : othersB z y s = true := by
 unfold othersB
 rw [others_half hz h, others_half hy fun p h1 h2 => (h p h1 h2).symm]
 rfl
theorem find_Rs {z : Zon} (hz : zoneOk z = true) {q : Qst} (hq : qOk q = true) {x : Sgd} (h : Zuc z.sets q = some x) : findR z q = (x, true, 0) := by
 have zo := Zee hz
 have hn : nameOk q.name = true := by unfold qOk at hq; rw [Bool.and_eq_true] at hq; exact hq.1
 rw [find_mget zo.ord zo.nms hn] at h
 unfold findR
 rw [hq, hz, if_pos (show (true && true) = true from rfl)]
 cases hf : findOk z.sets q with
 | false => rw [hf] at h; cases h
 | true => rw [hf, if_pos rfl] at h; rw [if_pos rfl, Option.some.inj h]
theorem find_Rn {z : Zon} (hz : zoneOk z = true) {q : Qst} (hq : qOk q = true) (h : Zuc z.sets q = none) : findR z q = (sgd0, false, 0) := by
 have zo := Zee hz
 have hn : nameOk q.name = true := by unfold qOk at hq; rw [Bool.and_eq_true] at hq; exact hq.1
 rw [find_mget zo.ord zo.nms hn] at h
 unfold findR
 rw [hq, hz, if_pos (show (true && true) = true from rfl)]
 cases hf : findOk z.sets q with
 | true => rw [hf, if_pos rfl] at h; cases h
 | false => rw [if_neg (by simp)]
theorem find_Re {z : Zon} {q : Qst} (hq : qOk q = false) : findR z q = (sgd0, false, 1) := by
 unfold findR
 rw [hq]
 rfl
theorem Zib {z : Zon} {q : Qst} {x : Sgd} {b : Bool} {e : Int} (hz : fitL z.sets) (h : findR z q = (x, b, e)) : PureCt Tryz.prog 27 [.agg z.d, .agg q.d] (.tuple [.agg x.d, .b b, .i e]) := by
 have := zfindF_ct z q hz
 rwa [h] at this
theorem set_q {s : RSet} (h : SetOk s) : qOk ⟨s.name, s.ty⟩ = true := by
 unfold qOk
 rw [Bool.and_eq_true]
 exact ⟨h.name, h.ty⟩
theorem lothers_as {a b : Zon} {s : RSet} (ha : fitL a.sets) (hb : fitL b.sets) (h : othersB a b s = true) : PureCt Tryz.prog 28 [.agg a.d, .agg b.d, .agg s.d] (.b true) := by
 have := lothers12_ct a b s ha hb
 rwa [h] at this
theorem has_no {l : List Dat} {x : Dat} (h : x ∉ l) : hasD l x = false := decide_eq_false h
theorem bo9 : Zea Tryz.prog 9 = true := by kernel_rfl
set_option maxHeartbeats 1000000 in
theorem lawUT_ct (z : Zon) (s : RSet) : PureCt Tryz.prog 9 [.agg z.d, .agg s.d] (.b true) := by
 refine Zca Tryz.func9 rfl bo9 (by simp [go_sem, D.nr, nrs, nrr]) (by simp [Tryz.f9]) ?_
 unfold Tryz.f9
 simp only [Zfa]
 have ff := True.intro
 refine stp Lun ?_
 refine stp Lun ?_ (hok := by (try simp only [go_sem, ff]); all_goals (exact head12_ct))
 refine dw_step3 (C := Lun) [⟨2, 6, 3, 6⟩] (by simp only [go_sem, ff]; exact rfl) ⟨mix, by kernel_rfl, by kernel_rfl⟩ (by intro p hp; simp only [List.mem_cons, List.not_mem_nil, or_false] at hp; subst hp; intro r hr; simp only [go_sem, ff, sd, named, beq_iff_eq] at hr ⊢; first | done | omega | (simp at hr ⊢; omega)) ?_ ?_
 ·
  try simp only [go_sem, ff]
  all_goals (exact ok0)
 refine stp Lun ?_
 refine Zaa ?_
 refine stp Lun ?_ (hok := by (try simp only [go_sem, ff]); all_goals (first | done | ((repeat' (with_reducible apply And.intro)) <;> first | exact lusable12_ct z ⟨[], [⟨2, s⟩]⟩ | (intros; exact lusable12_ct z ⟨[], [⟨2, s⟩]⟩) | exact ez9 | skip)))
 refine cd (fun c1 => ?_) (fun c1 => ?_)
 ·
  skip
  refine stp Lun ?_
  refine Zba ?_
  exact fin 0 (hr := by (try simp only [go_sem, ff]); all_goals (rfl))
 ·
  skip
  have hus : usableB z ⟨[], [⟨2, s⟩]⟩ = true := by grind
  obtain ⟨u1, u2, u3, u4, u5⟩ := usable_iff hus
  have zfit := zone_fit u2.ok
  refine dw_skip ?_
  show DW _ _ _ _ _
  refine stp Lun ?_
  rcases hx : updR z ⟨[], [⟨2, s⟩]⟩ with ⟨y, e⟩
  by_cases he : e = 0
  ·
   skip
   subst he
   obtain ⟨w1, w2, hyo⟩ := upd_take hx
   obtain ⟨_, _, _, hco, _⟩ := one_in hx
   have hso : SetOk s := (chg_add hco (.inr rfl)).1
   have hqk : qOk (⟨s.name, s.ty⟩ : Qst) = true := set_q hso
   have yfit := zone_fit hyo
   have hot := others_of u2.zo (Zee hyo) w1
   have hsl : s.data.length ≤ 1000000 := by have := hso.len; omega
   have ff := And.intro @hx (And.intro @hot ff)
   refine stp Lun ?_ (hok := by (try simp only [go_sem, ff]); all_goals (first | done | ((repeat' (with_reducible apply And.intro)) <;> first | exact Zna hx | (intros; exact Zna hx) | exact ez9 | skip)))
   refine Zaa ?_
   refine stp Lun ?_
   refine cd (fun c2 => ?_) (fun c2 => ?_) (hp := rfl) (hq := rfl)
   ·
    skip
    rcases hmy : Zuc y.sets (⟨s.name, s.ty⟩ : Qst) with _ | x
    ·
     skip
     have hfy := find_Rn hyo hqk hmy
     obtain ⟨x, hxs⟩ : ∃ x, x = sgd0 := ⟨_, rfl⟩
     rw [← hxs] at hfy
     have hl0 : x.set.data.length = 0 := by rw [hxs]; rfl
     have fx : x.set.data.length ≤ 1000000 := by omega
     have ff := And.intro @hfy (And.intro @hl0 ff)
     refine stp Lun ?_ (hok := by (try simp only [go_sem, ff]); all_goals (first | done | ((repeat' (with_reducible apply And.intro)) <;> first | exact Zib yfit hfy | (intros; exact Zib yfit hfy) | exact ez9 | skip)))
     refine Zaa ?_
     refine stp Lun ?_ (hok := by (try simp only [go_sem, ff]); all_goals (first | done | ((repeat' (with_reducible apply And.intro)) <;> first | exact lothers_as zfit yfit hot | (intros; exact lothers_as zfit yfit hot) | exact ez9 | skip)))
     refine cd (fun c3 => ?_) (fun c3 => ?_) (hp := rfl) (hq := rfl)
     ·
      skip
      exfalso; simp at c3; done
     ·
      skip
      refine dw_skip ?_
      show DW _ _ _ _ _
      refine stp Lun ?_
      refine Zda ?_
      refine lp (α := (Nat) × Nat) [2, 3, 6, 7, 9, 13, 68, 69] (fun ⟨k, nx⟩ => (k ≤ x.set.data.length) ∧ (47 < nx) ∧ True) (fun ⟨k, nx⟩ => x.set.data.length - k) (fun ⟨k, nx⟩ => [(5, .b true), (70, .i k)]) (fun ⟨k, nx⟩ => [(0, ⟨24, [z.d]⟩), (1, ⟨31, [s.d]⟩), (9, ⟨47, [Chg.d ⟨1, s⟩]⟩), (10, ⟨47, [Chg.d ⟨2, s⟩]⟩), (27, ⟨58, [[.v (.string (bs s.name)), .i s.ty]]⟩), (47, ⟨52, [x.d]⟩)]) (fun ⟨k, nx⟩ => nx) (0, _) (hA := ⟨iv, iv, trivial⟩) (round := ?_)
      rintro ⟨k, nx⟩ ⟨hk, hx8, -⟩
      show DW _ _ _ _ { n := _, t := tab _, h := _, nx := _, e := _ }
      simp only [List.cons_append, List.nil_append]
      have m_0 : 0 < nx := by omega
      have m_1 : 1 < nx := by omega
      have m_9 : 9 < nx := by omega
      have m_10 : 10 < nx := by omega
      have m_27 : 27 < nx := by omega
      have m_47 : 47 < nx := by omega
      have ff := And.intro @m_0 (And.intro @m_1 (And.intro @m_9 (And.intro @m_10 (And.intro @m_27 (And.intro @m_47 ff)))))
      refine stp Lun ?_
      refine Zaa ?_
      refine cd (fun c4 => ?_) (fun c4 => ?_) (hp := rfl) (hq := rfl)
      ·
       skip
       exfalso; simp at c4; omega
      ·
       skip
       refine Zja ?_
       show DW _ _ _ _ _
       rcases (show qOk (⟨s.name, s.ty⟩ : Qst) = false ∨ (qOk (⟨s.name, s.ty⟩ : Qst) = true ∧ ∃ o, Zuc z.sets (⟨s.name, s.ty⟩ : Qst) = some o) ∨ (qOk (⟨s.name, s.ty⟩ : Qst) = true ∧ Zuc z.sets (⟨s.name, s.ty⟩ : Qst) = none) from by cases qOk (⟨s.name, s.ty⟩ : Qst) <;> cases Zuc z.sets (⟨s.name, s.ty⟩ : Qst) <;> simp) with hqz | ⟨hqz, o, hmz⟩ | ⟨hqz, hmz⟩
       ·
        skip
        have hfz := find_Re (z := z) hqz
        have ff := And.intro @hfz ff
        refine stp Lun ?_ (hok := by (try simp only [go_sem, ff]); all_goals (first | done | ((repeat' (with_reducible apply And.intro)) <;> first | exact Zib zfit hfz | (intros; exact Zib zfit hfz) | exact ez9 | skip)))
        refine Zaa ?_
        refine stp Lun ?_
        refine cd (fun c5 => ?_) (fun c5 => ?_) (hp := rfl) (hq := rfl)
        ·
         skip
         refine stp Lun ?_
         refine Zba ?_
         exact fin 0 (hr := by (try simp only [go_sem, ff]); all_goals (rfl))
        ·
         skip
         exfalso; simp at c5; done
       ·
        skip
        have hfz := find_Rs u2.ok hqz hmz
        have ff := And.intro @hfz ff
        refine stp Lun ?_ (hok := by (try simp only [go_sem, ff]); all_goals (first | done | ((repeat' (with_reducible apply And.intro)) <;> first | exact Zib zfit hfz | (intros; exact Zib zfit hfz) | exact ez9 | skip)))
        refine Zaa ?_
        refine stp Lun ?_
        refine cd (fun c5 => ?_) (fun c5 => ?_) (hp := rfl) (hq := rfl)
        ·
         skip
         refine stp Lun ?_
         refine Zba ?_
         exact fin 0 (hr := by (try simp only [go_sem, ff]); all_goals (rfl))
        ·
         skip
         exfalso; simp at c5; done
       ·
        skip
        have hfz := find_Rn u2.ok hqz hmz
        have ff := And.intro @hfz ff
        refine stp Lun ?_ (hok := by (try simp only [go_sem, ff]); all_goals (first | done | ((repeat' (with_reducible apply And.intro)) <;> first | exact Zib zfit hfz | (intros; exact Zib zfit hfz) | exact ez9 | skip)))
        refine Zaa ?_
        refine stp Lun ?_
        refine cd (fun c5 => ?_) (fun c5 => ?_) (hp := rfl) (hq := rfl)
        ·
         skip
         exfalso; simp at c5; done
        ·
         skip
         refine dw_skip ?_
         show DW _ _ _ _ _
         rcases hg : updR z ⟨[], [⟨1, s⟩]⟩ with ⟨x2, g⟩
         by_cases hg0 : g = 0
         ·
          skip
          subst hg0
          obtain ⟨w, hw, hse⟩ := upd_back hmz hg
          obtain ⟨w0, hwm⟩ := upd_yes hw
          have hwo := hwm.plain.1.ok
          have hss : sameZ (settF z) (settF z) = true := decide_eq_true rfl
          have ff := And.intro @hg (And.intro @hw (And.intro @hse (And.intro @hss ff)))
          refine stp Lun ?_ (hok := by (try simp only [go_sem, ff]); all_goals (first | done | ((repeat' (with_reducible apply And.intro)) <;> first | exact Zna hg | (intros; exact Zna hg) | exact ez9 | skip)))
          refine stp Lun ?_ (hok := by (try simp only [go_sem, ff]); all_goals (first | done | ((repeat' (with_reducible apply And.intro)) <;> first | exact Zna hw | (intros; exact Zna hw) | exact ez9 | skip)))
          refine stp Lun ?_ (hok := by (try simp only [go_sem, ff]); all_goals (first | done | ((repeat' (with_reducible apply And.intro)) <;> first | exact (fun _ => Zla hwo) | (intros; exact (fun _ => Zla hwo)) | exact Zla hwo | (intros; exact Zla hwo) | exact (fun _ => Zla u2.ok) | (intros; exact (fun _ => Zla u2.ok)) | exact (fun _ => (by have h9 := Zla hwo; rw [hse] at h9; exact h9)) | (intros; exact (fun _ => (by have h9 := Zla hwo; rw [hse] at h9; exact h9))) | exact (fun _ => Zpa (Zsd u2.ok)) | (intros; exact (fun _ => Zpa (Zsd u2.ok))) | exact ez9 | skip)))
          refine Zba ?_
          exact fin 0 (hr := by (try simp only [go_sem, ff]); all_goals (first | rfl | (simp; done) | simp_all))
         ·
          skip
          have hgb : (g != 0) = true := bne_iff_ne.2 hg0
          rcases hw : updR x2 ⟨[], [⟨2, s⟩]⟩ with ⟨w, hh⟩
          have ff := And.intro @hg (And.intro @hgb (And.intro @hw ff))
          refine stp Lun ?_ (hok := by (try simp only [go_sem, ff]); all_goals (first | done | ((repeat' (with_reducible apply And.intro)) <;> first | exact Zna hg | (intros; exact Zna hg) | exact ez9 | skip)))
          refine stp Lun ?_ (hok := by (try simp only [go_sem, ff]); all_goals (first | done | ((repeat' (with_reducible apply And.intro)) <;> first | exact Zna hw | (intros; exact Zna hw) | exact ez9 | skip)))
          refine stp Lun ?_ (hok := by (try simp only [go_sem, ff]); all_goals (first | done | ((repeat' (with_reducible apply And.intro)) <;> first | exact (fun _ => Zla hwo) | (intros; exact (fun _ => Zla hwo)) | exact Zla hwo | (intros; exact Zla hwo) | exact (fun _ => Zla u2.ok) | (intros; exact (fun _ => Zla u2.ok)) | exact (fun _ => (by have h9 := Zla hwo; rw [hse] at h9; exact h9)) | (intros; exact (fun _ => (by have h9 := Zla hwo; rw [hse] at h9; exact h9))) | exact (fun _ => Zpa (Zsd u2.ok)) | (intros; exact (fun _ => Zpa (Zsd u2.ok))) | exact ez9 | skip)))
          refine Zba ?_
          exact fin 0 (hr := by (try simp only [go_sem, ff]); all_goals (first | rfl | (simp; done) | simp_all))
    ·
     skip
     have hfy := find_Rs hyo hqk hmy
     have htk := w2 x hmy
     have fx : x.set.data.length ≤ 1000000 := by (obtain ⟨k, hk, e⟩ := mem_ix.1 (Zke hmy).1; rw [← e]; exact Nat.le_trans ((zone_fit hyo).2 k hk).1 (by decide))
     have ff := And.intro @hfy ff
     refine stp Lun ?_ (hok := by (try simp only [go_sem, ff]); all_goals (first | done | ((repeat' (with_reducible apply And.intro)) <;> first | exact Zib yfit hfy | (intros; exact Zib yfit hfy) | exact ez9 | skip)))
     refine Zaa ?_
     refine stp Lun ?_ (hok := by (try simp only [go_sem, ff]); all_goals (first | done | ((repeat' (with_reducible apply And.intro)) <;> first | exact lothers_as zfit yfit hot | (intros; exact lothers_as zfit yfit hot) | exact ez9 | skip)))
     refine cd (fun c3 => ?_) (fun c3 => ?_) (hp := rfl) (hq := rfl)
     ·
      skip
      exfalso; simp at c3; done
     ·
      skip
      refine dw_skip ?_
      show DW _ _ _ _ _
      refine stp Lun ?_
      refine Zda ?_
      refine lp (α := (Nat) × Nat) [2, 3, 6, 7, 9, 13, 68, 69] (fun ⟨k, nx⟩ => (k ≤ x.set.data.length) ∧ (47 < nx) ∧ True) (fun ⟨k, nx⟩ => x.set.data.length - k) (fun ⟨k, nx⟩ => [(5, .b true), (70, .i k)]) (fun ⟨k, nx⟩ => [(0, ⟨24, [z.d]⟩), (1, ⟨31, [s.d]⟩), (9, ⟨47, [Chg.d ⟨1, s⟩]⟩), (10, ⟨47, [Chg.d ⟨2, s⟩]⟩), (27, ⟨58, [[.v (.string (bs s.name)), .i s.ty]]⟩), (47, ⟨52, [x.d]⟩)]) (fun ⟨k, nx⟩ => nx) (0, _) (hA := ⟨iv, iv, trivial⟩) (round := ?_)
      rintro ⟨k, nx⟩ ⟨hk, hx8, -⟩
      show DW _ _ _ _ { n := _, t := tab _, h := _, nx := _, e := _ }
      simp only [List.cons_append, List.nil_append]
      have m_0 : 0 < nx := by omega
      have m_1 : 1 < nx := by omega
      have m_9 : 9 < nx := by omega
      have m_10 : 10 < nx := by omega
      have m_27 : 27 < nx := by omega
      have m_47 : 47 < nx := by omega
      have ff := And.intro @m_0 (And.intro @m_1 (And.intro @m_9 (And.intro @m_10 (And.intro @m_27 (And.intro @m_47 ff)))))
      refine stp Lun ?_
      refine Zaa ?_
      refine cd (fun c4 => ?_) (fun c4 => ?_) (hp := rfl) (hq := rfl)
      ·
       skip
       have hk2 : k < x.set.data.length := by simpa using c4
       have ff := And.intro (Zec hk2) ff
       refine dw_skip ?_
       show DW _ _ _ _ _
       refine Zaa ?_
       refine Zda ?_
       refine stp Lun ?_
       by_cases h4 : s.ty = 4
       ·
        skip
        have h4b : (s.ty == 4) = true := by simpa using h4
        have ff := And.intro @h4b ff
        refine rgn Lun ?_ (hok := by (try simp only [go_sem, ff]); all_goals (first | done | ((repeat' (with_reducible apply And.intro)) <;> first | exact (fun _ => Zmc s.data x.set.data[k]! hsl) | (intros; exact (fun _ => Zmc s.data x.set.data[k]! hsl)) | exact (fun _ => by have h9 := Zmc s.data x.set.data[k]! hsl; rw [hD] at h9; exact h9) | (intros; exact (fun _ => by have h9 := Zmc s.data x.set.data[k]! hsl; rw [hD] at h9; exact h9)) | exact (by have h9 := Zmc s.data x.set.data[k]! hsl; rw [hD] at h9; exact h9) | (intros; exact (by have h9 := Zmc s.data x.set.data[k]! hsl; rw [hD] at h9; exact h9)) | exact ez9 | skip)))
        show DW _ _ _ _ _
        refine rgn Lun ?_
        show ∃ _, _
        exact rnd (k + 1, _) (h1 := ⟨iv, iv, trivial⟩)
       ·
        skip
        have h4b : (s.ty == 4) = false := by simpa using h4
        have hD : hasD s.data x.set.data[k]! = false := has_no (htk.resolve_left h4 _ (mem_ix.2 ⟨k, hk2, rfl⟩))
        have ff := And.intro @h4b (And.intro @hD ff)
        refine rgn Lun ?_ (hok := by (try simp only [go_sem, ff]); all_goals (first | done | ((repeat' (with_reducible apply And.intro)) <;> first | exact (fun _ => Zmc s.data x.set.data[k]! hsl) | (intros; exact (fun _ => Zmc s.data x.set.data[k]! hsl)) | exact (fun _ => by have h9 := Zmc s.data x.set.data[k]! hsl; rw [hD] at h9; exact h9) | (intros; exact (fun _ => by have h9 := Zmc s.data x.set.data[k]! hsl; rw [hD] at h9; exact h9)) | exact (by have h9 := Zmc s.data x.set.data[k]! hsl; rw [hD] at h9; exact h9) | (intros; exact (by have h9 := Zmc s.data x.set.data[k]! hsl; rw [hD] at h9; exact h9)) | exact ez9 | skip)))
        show DW _ _ _ _ _
        refine rgn Lun ?_
        show ∃ _, _
        exact rnd (k + 1, _) (h1 := ⟨iv, iv, trivial⟩)
      ·
       skip
       refine Zja ?_
       show DW _ _ _ _ _
       rcases (show qOk (⟨s.name, s.ty⟩ : Qst) = false ∨ (qOk (⟨s.name, s.ty⟩ : Qst) = true ∧ ∃ o, Zuc z.sets (⟨s.name, s.ty⟩ : Qst) = some o) ∨ (qOk (⟨s.name, s.ty⟩ : Qst) = true ∧ Zuc z.sets (⟨s.name, s.ty⟩ : Qst) = none) from by cases qOk (⟨s.name, s.ty⟩ : Qst) <;> cases Zuc z.sets (⟨s.name, s.ty⟩ : Qst) <;> simp) with hqz | ⟨hqz, o, hmz⟩ | ⟨hqz, hmz⟩
       ·
        skip
        have hfz := find_Re (z := z) hqz
        have ff := And.intro @hfz ff
        refine stp Lun ?_ (hok := by (try simp only [go_sem, ff]); all_goals (first | done | ((repeat' (with_reducible apply And.intro)) <;> first | exact Zib zfit hfz | (intros; exact Zib zfit hfz) | exact ez9 | skip)))
        refine Zaa ?_
        refine stp Lun ?_
        refine cd (fun c5 => ?_) (fun c5 => ?_) (hp := rfl) (hq := rfl)
        ·
         skip
         refine stp Lun ?_
         refine Zba ?_
         exact fin 0 (hr := by (try simp only [go_sem, ff]); all_goals (rfl))
        ·
         skip
         exfalso; simp at c5; done
       ·
        skip
        have hfz := find_Rs u2.ok hqz hmz
        have ff := And.intro @hfz ff
        refine stp Lun ?_ (hok := by (try simp only [go_sem, ff]); all_goals (first | done | ((repeat' (with_reducible apply And.intro)) <;> first | exact Zib zfit hfz | (intros; exact Zib zfit hfz) | exact ez9 | skip)))
        refine Zaa ?_
        refine stp Lun ?_
        refine cd (fun c5 => ?_) (fun c5 => ?_) (hp := rfl) (hq := rfl)
        ·
         skip
         refine stp Lun ?_
         refine Zba ?_
         exact fin 0 (hr := by (try simp only [go_sem, ff]); all_goals (rfl))
        ·
         skip
         exfalso; simp at c5; done
       ·
        skip
        have hfz := find_Rn u2.ok hqz hmz
        have ff := And.intro @hfz ff
        refine stp Lun ?_ (hok := by (try simp only [go_sem, ff]); all_goals (first | done | ((repeat' (with_reducible apply And.intro)) <;> first | exact Zib zfit hfz | (intros; exact Zib zfit hfz) | exact ez9 | skip)))
        refine Zaa ?_
        refine stp Lun ?_
        refine cd (fun c5 => ?_) (fun c5 => ?_) (hp := rfl) (hq := rfl)
        ·
         skip
         exfalso; simp at c5; done
        ·
         skip
         refine dw_skip ?_
         show DW _ _ _ _ _
         rcases hg : updR z ⟨[], [⟨1, s⟩]⟩ with ⟨x2, g⟩
         by_cases hg0 : g = 0
         ·
          skip
          subst hg0
          obtain ⟨w, hw, hse⟩ := upd_back hmz hg
          obtain ⟨w0, hwm⟩ := upd_yes hw
          have hwo := hwm.plain.1.ok
          have hss : sameZ (settF z) (settF z) = true := decide_eq_true rfl
          have ff := And.intro @hg (And.intro @hw (And.intro @hse (And.intro @hss ff)))
          refine stp Lun ?_ (hok := by (try simp only [go_sem, ff]); all_goals (first | done | ((repeat' (with_reducible apply And.intro)) <;> first | exact Zna hg | (intros; exact Zna hg) | exact ez9 | skip)))
          refine stp Lun ?_ (hok := by (try simp only [go_sem, ff]); all_goals (first | done | ((repeat' (with_reducible apply And.intro)) <;> first | exact Zna hw | (intros; exact Zna hw) | exact ez9 | skip)))
          refine stp Lun ?_ (hok := by (try simp only [go_sem, ff]); all_goals (first | done | ((repeat' (with_reducible apply And.intro)) <;> first | exact (fun _ => Zla hwo) | (intros; exact (fun _ => Zla hwo)) | exact Zla hwo | (intros; exact Zla hwo) | exact (fun _ => Zla u2.ok) | (intros; exact (fun _ => Zla u2.ok)) | exact (fun _ => (by have h9 := Zla hwo; rw [hse] at h9; exact h9)) | (intros; exact (fun _ => (by have h9 := Zla hwo; rw [hse] at h9; exact h9))) | exact (fun _ => Zpa (Zsd u2.ok)) | (intros; exact (fun _ => Zpa (Zsd u2.ok))) | exact ez9 | skip)))
          refine Zba ?_
          exact fin 0 (hr := by (try simp only [go_sem, ff]); all_goals (first | rfl | (simp; done) | simp_all))
         ·
          skip
          have hgb : (g != 0) = true := bne_iff_ne.2 hg0
          rcases hw : updR x2 ⟨[], [⟨2, s⟩]⟩ with ⟨w, hh⟩
          have ff := And.intro @hg (And.intro @hgb (And.intro @hw ff))
          refine stp Lun ?_ (hok := by (try simp only [go_sem, ff]); all_goals (first | done | ((repeat' (with_reducible apply And.intro)) <;> first | exact Zna hg | (intros; exact Zna hg) | exact ez9 | skip)))
          refine stp Lun ?_ (hok := by (try simp only [go_sem, ff]); all_goals (first | done | ((repeat' (with_reducible apply And.intro)) <;> first | exact Zna hw | (intros; exact Zna hw) | exact ez9 | skip)))
          refine stp Lun ?_ (hok := by (try simp only [go_sem, ff]); all_goals (first | done | ((repeat' (with_reducible apply And.intro)) <;> first | exact (fun _ => Zla hwo) | (intros; exact (fun _ => Zla hwo)) | exact Zla hwo | (intros; exact Zla hwo) | exact (fun _ => Zla u2.ok) | (intros; exact (fun _ => Zla u2.ok)) | exact (fun _ => (by have h9 := Zla hwo; rw [hse] at h9; exact h9)) | (intros; exact (fun _ => (by have h9 := Zla hwo; rw [hse] at h9; exact h9))) | exact (fun _ => Zpa (Zsd u2.ok)) | (intros; exact (fun _ => Zpa (Zsd u2.ok))) | exact ez9 | skip)))
          refine Zba ?_
          exact fin 0 (hr := by (try simp only [go_sem, ff]); all_goals (first | rfl | (simp; done) | simp_all))
   ·
    skip
    exfalso; simp at c2; done
  ·
   skip
   have ff := And.intro @hx ff
   refine stp Lun ?_ (hok := by (try simp only [go_sem, ff]); all_goals (first | done | ((repeat' (with_reducible apply And.intro)) <;> first | exact Zna hx | (intros; exact Zna hx) | exact ez9 | skip)))
   refine Zaa ?_
   refine stp Lun ?_
   refine cd (fun c2 => ?_) (fun c2 => ?_) (hp := rfl)
   ·
    skip
    exact absurd c2 (by simpa using he)
   ·
    skip
    refine dw_skip ?_
    show DW _ _ _ _ _
    rcases (show qOk (⟨s.name, s.ty⟩ : Qst) = false ∨ (qOk (⟨s.name, s.ty⟩ : Qst) = true ∧ ∃ o, Zuc z.sets (⟨s.name, s.ty⟩ : Qst) = some o) ∨ (qOk (⟨s.name, s.ty⟩ : Qst) = true ∧ Zuc z.sets (⟨s.name, s.ty⟩ : Qst) = none) from by cases qOk (⟨s.name, s.ty⟩ : Qst) <;> cases Zuc z.sets (⟨s.name, s.ty⟩ : Qst) <;> simp) with hqz | ⟨hqz, o, hmz⟩ | ⟨hqz, hmz⟩
    ·
     skip
     have hfz := find_Re (z := z) hqz
     have ff := And.intro @hfz ff
     refine stp Lun ?_ (hok := by (try simp only [go_sem, ff]); all_goals (first | done | ((repeat' (with_reducible apply And.intro)) <;> first | exact Zib zfit hfz | (intros; exact Zib zfit hfz) | exact ez9 | skip)))
     refine Zaa ?_
     refine stp Lun ?_
     refine cd (fun c5 => ?_) (fun c5 => ?_) (hp := rfl) (hq := rfl)
     ·
      skip
      refine stp Lun ?_
      refine Zba ?_
      exact fin 0 (hr := by (try simp only [go_sem, ff]); all_goals (rfl))
     ·
      skip
      exfalso; simp at c5; done
    ·
     skip
     have hfz := find_Rs u2.ok hqz hmz
     have ff := And.intro @hfz ff
     refine stp Lun ?_ (hok := by (try simp only [go_sem, ff]); all_goals (first | done | ((repeat' (with_reducible apply And.intro)) <;> first | exact Zib zfit hfz | (intros; exact Zib zfit hfz) | exact ez9 | skip)))
     refine Zaa ?_
     refine stp Lun ?_
     refine cd (fun c5 => ?_) (fun c5 => ?_) (hp := rfl) (hq := rfl)
     ·
      skip
      refine stp Lun ?_
      refine Zba ?_
      exact fin 0 (hr := by (try simp only [go_sem, ff]); all_goals (rfl))
     ·
      skip
      exfalso; simp at c5; done
    ·
     skip
     have hfz := find_Rn u2.ok hqz hmz
     have ff := And.intro @hfz ff
     refine stp Lun ?_ (hok := by (try simp only [go_sem, ff]); all_goals (first | done | ((repeat' (with_reducible apply And.intro)) <;> first | exact Zib zfit hfz | (intros; exact Zib zfit hfz) | exact ez9 | skip)))
     refine Zaa ?_
     refine stp Lun ?_
     refine cd (fun c5 => ?_) (fun c5 => ?_) (hp := rfl) (hq := rfl)
     ·
      skip
      exfalso; simp at c5; done
     ·
      skip
      refine dw_skip ?_
      show DW _ _ _ _ _
      rcases hg : updR z ⟨[], [⟨1, s⟩]⟩ with ⟨x2, g⟩
      by_cases hg0 : g = 0
      ·
       skip
       subst hg0
       obtain ⟨w, hw, hse⟩ := upd_back hmz hg
       obtain ⟨w0, hwm⟩ := upd_yes hw
       have hwo := hwm.plain.1.ok
       have hss : sameZ (settF z) (settF z) = true := decide_eq_true rfl
       have ff := And.intro @hg (And.intro @hw (And.intro @hse (And.intro @hss ff)))
       refine stp Lun ?_ (hok := by (try simp only [go_sem, ff]); all_goals (first | done | ((repeat' (with_reducible apply And.intro)) <;> first | exact Zna hg | (intros; exact Zna hg) | exact ez9 | skip)))
       refine stp Lun ?_ (hok := by (try simp only [go_sem, ff]); all_goals (first | done | ((repeat' (with_reducible apply And.intro)) <;> first | exact Zna hw | (intros; exact Zna hw) | exact ez9 | skip)))
       refine stp Lun ?_ (hok := by (try simp only [go_sem, ff]); all_goals (first | done | ((repeat' (with_reducible apply And.intro)) <;> first | exact (fun _ => Zla hwo) | (intros; exact (fun _ => Zla hwo)) | exact Zla hwo | (intros; exact Zla hwo) | exact (fun _ => Zla u2.ok) | (intros; exact (fun _ => Zla u2.ok)) | exact (fun _ => (by have h9 := Zla hwo; rw [hse] at h9; exact h9)) | (intros; exact (fun _ => (by have h9 := Zla hwo; rw [hse] at h9; exact h9))) | exact (fun _ => Zpa (Zsd u2.ok)) | (intros; exact (fun _ => Zpa (Zsd u2.ok))) | exact ez9 | skip)))
       refine Zba ?_
       exact fin 0 (hr := by (try simp only [go_sem, ff]); all_goals (first | rfl | (simp; done) | simp_all))
      ·
       skip
       have hgb : (g != 0) = true := bne_iff_ne.2 hg0
       rcases hw : updR x2 ⟨[], [⟨2, s⟩]⟩ with ⟨w, hh⟩
       have ff := And.intro @hg (And.intro @hgb (And.intro @hw ff))
       refine stp Lun ?_ (hok := by (try simp only [go_sem, ff]); all_goals (first | done | ((repeat' (with_reducible apply And.intro)) <;> first | exact Zna hg | (intros; exact Zna hg) | exact ez9 | skip)))
       refine stp Lun ?_ (hok := by (try simp only [go_sem, ff]); all_goals (first | done | ((repeat' (with_reducible apply And.intro)) <;> first | exact Zna hw | (intros; exact Zna hw) | exact ez9 | skip)))
       refine stp Lun ?_ (hok := by (try simp only [go_sem, ff]); all_goals (first | done | ((repeat' (with_reducible apply And.intro)) <;> first | exact (fun _ => Zla hwo) | (intros; exact (fun _ => Zla hwo)) | exact Zla hwo | (intros; exact Zla hwo) | exact (fun _ => Zla u2.ok) | (intros; exact (fun _ => Zla u2.ok)) | exact (fun _ => (by have h9 := Zla hwo; rw [hse] at h9; exact h9)) | (intros; exact (fun _ => (by have h9 := Zla hwo; rw [hse] at h9; exact h9))) | exact (fun _ => Zpa (Zsd u2.ok)) | (intros; exact (fun _ => Zpa (Zsd u2.ok))) | exact ez9 | skip)))
       refine Zba ?_
       exact fin 0 (hr := by (try simp only [go_sem, ff]); all_goals (first | rfl | (simp; done) | simp_all))
end Go.Proofs.YtmkblfajmnhccaaGreatDoor
