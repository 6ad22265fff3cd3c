/-
  MANY TEXTS OF MINE IN ONE (a claim has a limit of files): UlW6. Conditions: none.
-/
import Derived.Test.YtmkblfajmnhccaaGreatDoorMT5
set_option linter.unusedVariables false
set_option linter.unusedSimpArgs false
set_option linter.unusedSectionVars false
namespace Go.Proofs.YtmkblfajmnhccaaGreatDoor
open Go.DL Go.Str Go.Rec Go.Cmp Go.Zon
set_option maxRecDepth 10000
theorem Zzj {z : Zon} (h : zoneOk z = true) : PureCt Tryz.prog 23 [.agg z.d] (.tuple [.i (Zcc z), .i 0]) := by
 have h9 := Ze4 z
 rw [← Zfn h]
 first | exact h9 | (rw [h] at h9; exact h9) | (simp only [h, if_true] at h9; exact h9)
theorem ref_zone {z : Zon} (h : zoneOk z = true) : refOk z = true := by rw [← Zec]; exact h
theorem Zdk {z : Zon} (h : PlainZ z) : PureCt Tryz.prog 24 [.agg z.d] (.b true) := by
 have := Zyk z (by have := h.zo.len; omega)
 rwa [h.p] at this
theorem Zqg {z : Zon} (h : zoneOk z = true) : PureCt Tryz.prog 25 [.agg z.d] (.b true) := by
 have := Zac z
 rwa [h] at this
theorem chTo_end {l : List Chg} {k : Nat} (h : ∀ i, i < k → l[i]!.kind = 4 ∨ l[i]!.set.ty ≠ 4) (hk : l.length ≤ k) : ∀ c ∈ l, c.kind = 4 ∨ c.set.ty ≠ 4 := by
 intro c hc
 obtain ⟨i, hi, rfl⟩ := mem_ix.1 hc
 exact h i (by omega)
theorem Zs2 {z : Zon} (h : zoneOk z = true) : fitL (settF z).sets := by
 rw [Zcv h]
 have hz := Zdp h
 have hl : (Zqe z 0).sets.length ≤ z.sets.length + 1 := putL_len _
 refine ⟨by have := (Zuf h).len; omega, fun k hk => ?_⟩
 have hm : (Zqe z 0).sets[k]! ∈ Zvo z.sets (stN z 0) := Zya hk
 rcases putL_mem.1 hm with e | e
 ·
  rw [e]; exact ⟨by show (1 : Nat) ≤ _; omega, by show (0 : Nat) ≤ _; omega⟩
 ·
  obtain ⟨i, hi, e2⟩ := mem_ix.1 e.1
  rw [← e2]
  exact hz.2 i hi
theorem Zck {z : Zon} (h : zoneOk z = true) : PureCt Tryz.prog 19 [.agg z.d] (.agg (settF z).d) := by
 have hr := ref_zone h
 exact Zu4 z (by have := (Zuf h).len; omega) (fun _ => Zz2 hr)
theorem want_eq (z : Zon) (n : Str) : (⟨z.apex, Zlb z.sets n z.sets.length⟩ : Zon) = Zkl z n := by
 unfold Zkl
 rw [Zoi _ _ _ (Nat.le_refl _), List.take_length]
theorem bo7 : Zea Tryz.prog 7 = true := by kernel_rfl
theorem lawUS_ct (z : Zon) (u : Upd) : PureCt Tryz.prog 7 [.agg z.d, .agg u.d] (.b true) := by
 refine Zca Tryz.func7 rfl bo7 (by simp [go_sem, D.nr, nrs, nrr]) (by simp [Tryz.f7]) ?_
 unfold Tryz.f7
 simp only [Zfa]
 have ff := True.intro
 refine stp Lun ?_
 refine stp Lun ?_ (hok := by (try simp only [go_sem, ff]); all_goals (exact Zjr))
 refine Zaa ?_
 refine stp Lun ?_ (hok := by (try simp only [go_sem, ff]); all_goals (first | done | ((repeat' (with_reducible apply And.intro)) <;> first | exact Zce z u | (intros; exact Zce z u) | exact ez9 | skip)))
 refine cd (fun c1 => ?_) (fun c1 => ?_)
 ·
  refine stp Lun ?_
  refine Zba ?_
  exact fin 0 (hr := by (try simp only [go_sem, ff]); all_goals (rfl))
 ·
  have hus : Zbi z u = true := by grind
  obtain ⟨u1, u2, u3, u4, u5⟩ := Zgh hus
  refine dw_skip ?_
  show DW _ _ _ _ _
  rcases hx : updR z u with ⟨y, e⟩
  by_cases he : e = 0
  ·
   subst he
   obtain ⟨y0, hm⟩ := Zuu hx
   obtain ⟨hy, hap, -⟩ := hm.plain
   obtain ⟨-, sr1, sr2, -, -⟩ := Zlh u2.ok
   have hapb : (y.apex != z.apex) = false := by rw [hap]; simp
   have hzo := u2.ok
   have hyo := hy.ok
   have hs1 := Zfn hzo
   have hs2 := Zfn hyo
   have hpb := hy.p
   have ff := And.intro @hx (And.intro @hapb (And.intro @hzo (And.intro @hyo (And.intro @hs1 (And.intro @hs2 (And.intro @hpb ff))))))
   refine stp Lun ?_ (hok := by (try simp only [go_sem, ff]); all_goals (first | done | ((repeat' (with_reducible apply And.intro)) <;> first | exact Zqa hx | (intros; exact Zqa hx) | exact ez9 | skip)))
   refine Zaa ?_
   refine stp Lun ?_
   refine cd (fun c2 => ?_) (fun c2 => ?_) (hp := rfl)
   ·
    exfalso; simp at c2
   ·
    refine dw_skip ?_
    show DW _ _ _ _ _
    refine stp Lun ?_ (hok := by (try simp only [go_sem, ff]); all_goals (first | done | ((repeat' (with_reducible apply And.intro)) <;> first | exact Zzj u2.ok | (intros; exact Zzj u2.ok) | exact ez9 | skip)))
    refine stp Lun ?_ (hok := by (try simp only [go_sem, ff]); all_goals (first | done | ((repeat' (with_reducible apply And.intro)) <;> first | exact Zzj hy.ok | (intros; exact Zzj hy.ok) | exact ez9 | skip)))
    refine Zaa ?_
    refine stp Lun ?_ (hok := by (try simp only [go_sem, ff]); all_goals (first | done | ((repeat' (with_reducible apply And.intro)) <;> first | exact (fun _ => Zdk hy) | (intros; exact (fun _ => Zdk hy)) | exact (fun _ => Zqg hy.ok) | (intros; exact (fun _ => Zqg hy.ok)) | exact Zdk hy | (intros; exact Zdk hy) | exact Zqg hy.ok | (intros; exact Zqg hy.ok) | exact ez9 | skip)))
    refine cd (fun c3 => ?_) (fun c3 => ?_) (hp := rfl) (hq := rfl)
    ·
     exfalso; simp at c3; done
    ·
     refine dw_skip ?_
     show DW _ _ _ _ _
     refine Zaa ?_
     refine stp Lun ?_
     refine Zda ?_
     refine lp (α := (Nat) × Nat) [2, 3, 5, 6, 8, 10, 69, 70] (fun ⟨k, nx⟩ => (k ≤ u.chgs.length) ∧ (15 < nx) ∧ (∀ i, i < k → u.chgs[i]!.kind = 4 ∨ u.chgs[i]!.set.ty ≠ 4) ∧ True) (fun ⟨k, nx⟩ => u.chgs.length - k) (fun ⟨k, nx⟩ => [(71, .i k)]) (fun ⟨k, nx⟩ => [(0, ⟨24, [z.d]⟩), (1, ⟨28, [u.d]⟩), (15, ⟨24, [y.d]⟩)]) (fun ⟨k, nx⟩ => nx) (0, _) (hA := ⟨iv, iv, (by first | (intro i hi; omega) | (dsimp only; intro i hi; omega)), trivial⟩) (round := ?_)
     rintro ⟨k, nx⟩ ⟨hk, hx8, hv, -⟩
     show DW _ _ _ _ { n := _, t := tab _, h := _, nx := _, e := _ }
     simp only [List.cons_append, List.nil_append]
     have ff := And.intro @hx8 ff
     refine stp Lun ?_
     refine Zaa ?_
     refine cd (fun c4 => ?_) (fun c4 => ?_) (hp := rfl)
     ·
      have hk2 : k < u.chgs.length := by simpa using c4
      have ff := And.intro (Zke hk2) ff
      refine dw_skip ?_
      show DW _ _ _ _ _
      refine Zaa ?_
      refine Zda ?_
      refine stp Lun ?_
      refine stp Lun ?_
      refine cd (fun c5 => ?_) (fun c5 => ?_)
      ·
       refine stp Lun ?_
       refine Zba ?_
       exact fin 0 (hr := by (try simp only [go_sem, ff]); all_goals (rfl))
      ·
       refine dw_skip ?_
       show DW _ _ _ _ _
       refine rgn Lun ?_
       show ∃ _, _
       exact rnd (k + 1, _) (h1 := ⟨iv, iv, (by (try dsimp only); intro i hi; by_cases e : i = k; subst e; grind; exact hv i (by omega)), trivial⟩)
     ·
      have hk3 : u.chgs.length ≤ k := by omega
      have hcs := chTo_end hv hk3
      refine Zja ?_
      show DW _ _ _ _ _
      refine Zaa ?_
      refine stp Lun ?_ (hok := by (try simp only [go_sem, ff]); all_goals (first | done | ((repeat' (with_reducible apply And.intro)) <;> first | exact Zgq z y (Zdp u2.ok) | (intros; exact Zgq z y (Zdp u2.ok)) | exact ez9 | skip)))
      refine cd (fun c6 => ?_) (fun c6 => ?_)
      ·
       refine stp Lun ?_
       refine Zba ?_
       exact fin 0 (hr := by (try simp only [go_sem, ff]); all_goals (have ezy : z = y := of_decide_eq_true c6; rw [ezy]; simp))
      ·
       have hne : z ≠ y := fun e => by rw [e] at c6; exact absurd c6 (by simp [sameZ])
       obtain ⟨hsr, hpos⟩ := Zj4 hx hcs hne
       have hsr2 := hsr.symm
       have hnx := Zv4 (Zcc z) (by omega) (by omega)
       rw [← hsr] at hnx
       have ff := And.intro @hsr2 ff
       refine dw_skip ?_
       show DW _ _ _ _ _
       refine stp Lun ?_ (hok := by (try simp only [go_sem, ff]); all_goals (first | done | ((repeat' (with_reducible apply And.intro)) <;> first | exact (fun _ => hnx) | (intros; exact (fun _ => hnx)) | exact hnx | (intros; exact hnx) | exact ez9 | skip)))
       refine Zba ?_
       exact fin 0 (hr := by (try simp only [go_sem, ff]); all_goals (first | rfl | (simp; omega) | simp_all))
  ·
   have hy0 := Zvu hx he
   have hl0 : y.sets.length = 0 := by rw [hy0]; rfl
   have ff := And.intro @hx (And.intro @hl0 ff)
   refine stp Lun ?_ (hok := by (try simp only [go_sem, ff]); all_goals (first | done | ((repeat' (with_reducible apply And.intro)) <;> first | exact Zqa hx | (intros; exact Zqa hx) | exact ez9 | skip)))
   refine Zaa ?_
   refine stp Lun ?_
   refine cd (fun c2 => ?_) (fun c2 => ?_) (hq := rfl)
   ·
    refine stp Lun ?_
    refine Zba ?_
    exact fin 0 (hr := by (try simp only [go_sem, ff]); all_goals (rfl))
   ·
    exact absurd c2 (by simpa using he)
theorem bo6 : Zea Tryz.prog 6 = true := by kernel_rfl
theorem lawUK_ct (z : Zon) (n : Str) : PureCt Tryz.prog 6 [.agg z.d, .v (.string (bs n))] (.b true) := by
 refine Zca Tryz.func6 rfl bo6 (by simp [go_sem, D.nr, nrs, nrr]) (by simp [Tryz.f6]) ?_
 unfold Tryz.f6
 simp only [Zfa]
 have ff := True.intro
 refine stp Lun ?_
 refine stp Lun ?_ (hok := by (try simp only [go_sem, ff]); all_goals (exact Zjr))
 refine stp Lun ?_
 refine Zaa ?_
 refine stp Lun ?_ (hok := by (try simp only [go_sem, ff]); all_goals (first | done | ((repeat' (with_reducible apply And.intro)) <;> first | exact Zce z ⟨[], [Zej n]⟩ | (intros; exact Zce z ⟨[], [Zej n]⟩) | exact (fun _ => Zoa n) | (intros; exact (fun _ => Zoa n)) | exact (fun h => Zkd n z.apex (by have := Zsa (l := n) (by simp_all); omega) (by have h9 := Zgh (z := z) (u := ⟨[], [Zej n]⟩) (by first | exact h.1 | simp_all [Zej]); have := Zsa h9.2.1.zo.apex; omega)) | (intros; exact (fun h => Zkd n z.apex (by have := Zsa (l := n) (by simp_all); omega) (by have h9 := Zgh (z := z) (u := ⟨[], [Zej n]⟩) (by first | exact h.1 | simp_all [Zej]); have := Zsa h9.2.1.zo.apex; omega))) | exact ez9 | skip)))
 refine cd (fun c1 => ?_) (fun c1 => ?_)
 ·
  refine stp Lun ?_
  refine Zba ?_
  exact fin 0 (hr := by (try simp only [go_sem, ff]); all_goals (rfl))
 ·
  have hus : Zbi z ⟨[], [Zej n]⟩ = true := by grind [Zej]
  obtain ⟨u1, u2, u3, u4, u5⟩ := Zgh hus
  have hn : nameOk n = true := by grind
  have hin : inB n z.apex = true := by grind
  have zlen := u2.zo.len
  refine dw_skip ?_
  show DW _ _ _ _ _
  refine stp Lun ?_
  refine Zaa ?_
  refine Zcw 30 1 24 52 (by simp only [go_sem, ff]; exact rfl) (by rfl) (by simp only [go_sem, ff]) ?_
  simp only [List.set_cons_succ, List.set_cons_zero]
  refine stp Lun ?_
  refine Zda ?_
  refine lp (α := (Nat) × (Nat) × Nat) [1, 2, 5, 6, 7, 41, 42] (fun ⟨k, r, nx⟩ => (k ≤ z.sets.length) ∧ (r < nx) ∧ (30 < r) ∧ True) (fun ⟨k, r, nx⟩ => z.sets.length - k) (fun ⟨k, r, nx⟩ => [(43, .i k)]) (fun ⟨k, r, nx⟩ => [(0, ⟨24, [z.d]⟩), (9, ⟨28, [[.list true [], .list true [[.i 4, .v (.string (bs n)), .i 0, .i 0, .list true []]]]]⟩), (30, ⟨24, [[.v (.string (bs z.apex)), .mrow r 0 (Zlb z.sets n (k)).length]]⟩), (r, ⟨52, (Zlb z.sets n (k)).map Sgd.d⟩)]) (fun ⟨k, r, nx⟩ => nx) (0, 32, _) (hA := ⟨iv, iv, iv, trivial⟩) (round := ?_)
  rintro ⟨k, r, nx⟩ ⟨hk, hr, hr9, -⟩
  show DW _ _ _ _ { n := _, t := tab _, h := _, nx := _, e := _ }
  simp only [List.cons_append, List.nil_append]
  have n0 : 30 < nx := by omega
  have hll := Znt z.sets n k
  have z0_9 : (0 = 9) = False := eq_false (by omega)
  have y9_0 : (9 = 0) = False := eq_false (by omega)
  have z0_30 : (0 = 30) = False := eq_false (by omega)
  have y30_0 : (30 = 0) = False := eq_false (by omega)
  have z0_r : (0 = r) = False := eq_false (by omega)
  have yr_0 : (r = 0) = False := eq_false (by omega)
  have z9_30 : (9 = 30) = False := eq_false (by omega)
  have y30_9 : (30 = 9) = False := eq_false (by omega)
  have z9_r : (9 = r) = False := eq_false (by omega)
  have yr_9 : (r = 9) = False := eq_false (by omega)
  have z30_r : (30 = r) = False := eq_false (by omega)
  have yr_30 : (r = 30) = False := eq_false (by omega)
  have znx3_0 : (nx + 3 = 0) = False := eq_false (by omega)
  have y0_nx3 : (0 = nx + 3) = False := eq_false (by omega)
  have znx3_9 : (nx + 3 = 9) = False := eq_false (by omega)
  have y9_nx3 : (9 = nx + 3) = False := eq_false (by omega)
  have znx3_30 : (nx + 3 = 30) = False := eq_false (by omega)
  have y30_nx3 : (30 = nx + 3) = False := eq_false (by omega)
  have znx3_r : (nx + 3 = r) = False := eq_false (by omega)
  have yr_nx3 : (r = nx + 3) = False := eq_false (by omega)
  have znx14_0 : (nx + 14 = 0) = False := eq_false (by omega)
  have y0_nx14 : (0 = nx + 14) = False := eq_false (by omega)
  have znx14_9 : (nx + 14 = 9) = False := eq_false (by omega)
  have y9_nx14 : (9 = nx + 14) = False := eq_false (by omega)
  have znx14_30 : (nx + 14 = 30) = False := eq_false (by omega)
  have y30_nx14 : (30 = nx + 14) = False := eq_false (by omega)
  have znx14_r : (nx + 14 = r) = False := eq_false (by omega)
  have yr_nx14 : (r = nx + 14) = False := eq_false (by omega)
  have ff := And.intro @hr (And.intro @n0 (And.intro @z0_9 (And.intro @y9_0 (And.intro @z0_30 (And.intro @y30_0 (And.intro @z0_r (And.intro @yr_0 (And.intro @z9_30 (And.intro @y30_9 (And.intro @z9_r (And.intro @yr_9 (And.intro @z30_r (And.intro @yr_30 (And.intro @znx3_0 (And.intro @y0_nx3 (And.intro @znx3_9 (And.intro @y9_nx3 (And.intro @znx3_30 (And.intro @y30_nx3 (And.intro @znx3_r (And.intro @yr_nx3 (And.intro @znx14_0 (And.intro @y0_nx14 (And.intro @znx14_9 (And.intro @y9_nx14 (And.intro @znx14_30 (And.intro @y30_nx14 (And.intro @znx14_r (And.intro @yr_nx14 ff)))))))))))))))))))))))))))))
  refine stp Lun ?_
  refine Zaa ?_
  refine cd (fun c2 => ?_) (fun c2 => ?_) (hp := rfl) (hq := rfl)
  ·
   have hk2 : k < z.sets.length := by simpa using c2
   have ff := And.intro (Zla hk2) ff
   refine dw_skip ?_
   show DW _ _ _ _ _
   refine Zaa ?_
   refine Zda ?_
   refine stp Lun ?_
   refine stp Lun ?_
   refine cd (fun c3 => ?_) (fun c3 => ?_)
   ·
    refine rgn Lun ?_
    show DW _ _ _ _ _
    refine rgn Lun ?_
    show ∃ _, _
    have hst : Zlb z.sets n (k + 1) = (Zlb z.sets n (k)) ++ [z.sets[k]!] := if_neg c3
    have hsl : (Zlb z.sets n (k + 1)).length = (Zlb z.sets n (k)).length + 1 := by rw [hst, List.length_append]; rfl
    have hsd : (Zlb z.sets n (k + 1)).map Sgd.d = (Zlb z.sets n (k)).map Sgd.d ++ [z.sets[k]!.d] := by rw [hst, List.map_append]; rfl
    have ff := And.intro hsl (And.intro hsd ff)
    exact rnd (k + 1, (nx + 14), _) (h1 := ⟨iv, iv, iv, trivial⟩)
   ·
    refine dw_skip ?_
    show DW _ _ _ _ _
    refine rgn Lun ?_
    show ∃ _, _
    have hst : Zlb z.sets n (k + 1) = (Zlb z.sets n (k)) := if_pos c3
    have ff := And.intro hst ff
    exact rnd (k + 1, r, _) (h1 := ⟨iv, iv, iv, trivial⟩)
  ·
   have hk3 : k = z.sets.length := by have : ¬ k < z.sets.length := (by simpa using c2); omega
   subst hk3
   refine Zja ?_
   show DW _ _ _ _ _
   have hwe : (⟨z.apex, Zlb z.sets n z.sets.length⟩ : Zon) = Zkl z n := want_eq z n
   rcases hzw : zoneOk (Zkl z n) with _ | _
   ·
    have hx : updR z ⟨[], [⟨4, ⟨n, 0, 0, []⟩⟩]⟩ = (zon0, 6) := want_no u2 hn hin hzw
    have hrw : refOk (⟨z.apex, Zlb z.sets n z.sets.length⟩ : Zon) = false := by rw [hwe, ← Zec]; exact hzw
    have ff := And.intro @hx (And.intro @hrw ff)
    refine Zhd 30 1 r (rows := (Zlb z.sets n (z.sets.length)).map Sgd.d) (off := 0) (len := (Zlb z.sets n (z.sets.length)).length) (by simp only [go_sem, ff]; exact rfl) (by rfl) (by simp only [go_sem, ff]; exact rfl) (by omega) (by simp) Zkn ?_
    simp only [List.drop_zero, Zrg, List.set_cons_succ, List.set_cons_zero]
    refine stp Lun ?_ (hok := by (try simp only [go_sem, ff]); all_goals (first | done | ((repeat' (with_reducible apply And.intro)) <;> first | exact Zqa hx | (intros; exact Zqa hx) | exact ez9 | skip)))
    refine Zaa ?_
    refine stp Lun ?_ (hok := by (try simp only [go_sem, ff]); all_goals (first | done | ((repeat' (with_reducible apply And.intro)) <;> first | exact (by have h9 := Zue (⟨z.apex, Zlb z.sets n z.sets.length⟩ : Zon); rw [hrw] at h9; exact h9) | (intros; exact (by have h9 := Zue (⟨z.apex, Zlb z.sets n z.sets.length⟩ : Zon); rw [hrw] at h9; exact h9)) | exact ez9 | skip)))
    refine cd (fun c4 => ?_) (fun c4 => ?_) (hp := rfl) (hq := rfl)
    ·
     refine stp Lun ?_
     refine Zba ?_
     exact fin 0 (hr := by (try simp only [go_sem, ff]); all_goals (rfl))
    ·
     exfalso; simp at c4
   ·
    obtain ⟨y, hx, hse, hho, hyo⟩ := want_yes u2 hn hin hzw
    have hx : updR z ⟨[], [⟨4, ⟨n, 0, 0, []⟩⟩]⟩ = (y, 0) := hx
    have hna : (n != z.apex) = true := bne_iff_ne.2 (Zwp hzw)
    have hrw : refOk (⟨z.apex, Zlb z.sets n z.sets.length⟩ : Zon) = true := by rw [hwe, ← Zec]; exact hzw
    have hse2 : settF (⟨z.apex, Zlb z.sets n z.sets.length⟩ : Zon) = settF y := by rw [hwe]; exact hse.symm
    have hss : sameZ (settF y) (settF y) = true := decide_eq_true rfl
    have ff := And.intro @hx (And.intro @hrw (And.intro @hna (And.intro @hho (And.intro @hse2 (And.intro @hss ff)))))
    refine Zhd 30 1 r (rows := (Zlb z.sets n (z.sets.length)).map Sgd.d) (off := 0) (len := (Zlb z.sets n (z.sets.length)).length) (by simp only [go_sem, ff]; exact rfl) (by rfl) (by simp only [go_sem, ff]; exact rfl) (by omega) (by simp) Zkn ?_
    simp only [List.drop_zero, Zrg, List.set_cons_succ, List.set_cons_zero]
    refine stp Lun ?_ (hok := by (try simp only [go_sem, ff]); all_goals (first | done | ((repeat' (with_reducible apply And.intro)) <;> first | exact Zqa hx | (intros; exact Zqa hx) | exact ez9 | skip)))
    refine Zaa ?_
    refine stp Lun ?_ (hok := by (try simp only [go_sem, ff]); all_goals (first | done | ((repeat' (with_reducible apply And.intro)) <;> first | exact (by have h9 := Zue (⟨z.apex, Zlb z.sets n z.sets.length⟩ : Zon); rw [hrw] at h9; exact h9) | (intros; exact (by have h9 := Zue (⟨z.apex, Zlb z.sets n z.sets.length⟩ : Zon); rw [hrw] at h9; exact h9)) | exact ez9 | skip)))
    refine cd (fun c4 => ?_) (fun c4 => ?_) (hp := rfl) (hq := rfl)
    ·
     exfalso; simp at c4
    ·
     refine dw_skip ?_
     show DW _ _ _ _ _
     refine stp Lun ?_ (hok := by (try simp only [go_sem, ff]); all_goals (first | done | ((repeat' (with_reducible apply And.intro)) <;> first | exact Zmc hho | (intros; exact Zmc hho) | exact ez9 | skip)))
     refine stp Lun ?_ (hok := by (try simp only [go_sem, ff]); all_goals (first | done | ((repeat' (with_reducible apply And.intro)) <;> first | exact (fun _ => Zck hyo) | (intros; exact (fun _ => Zck hyo)) | exact Zck hyo | (intros; exact Zck hyo) | exact (fun _ => (by have h9 := Zck (z := (⟨z.apex, Zlb z.sets n z.sets.length⟩ : Zon)) (by rw [hwe]; exact hzw); rw [hse2] at h9; exact h9)) | (intros; exact (fun _ => (by have h9 := Zck (z := (⟨z.apex, Zlb z.sets n z.sets.length⟩ : Zon)) (by rw [hwe]; exact hzw); rw [hse2] at h9; exact h9))) | exact (fun _ => Zwa (Zs2 hyo)) | (intros; exact (fun _ => Zwa (Zs2 hyo))) | exact ez9 | skip)))
     refine Zba ?_
     exact fin 0 (hr := by (try simp only [go_sem, ff]); all_goals (rfl))
end Go.Proofs.YtmkblfajmnhccaaGreatDoor
