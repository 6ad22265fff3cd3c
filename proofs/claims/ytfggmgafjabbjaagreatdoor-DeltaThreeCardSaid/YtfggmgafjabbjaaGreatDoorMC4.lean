/-
  MANY TEXTS OF MINE IN ONE (a claim has a limit of files): Zdt, Zdu, DGrow, DClaim, DLaid, LbCon, NmW1, NmW2, NmW3, NmW4, NmW5, NmW6, RcW1, RcW3, RcW4, RcW5, ZoW1, ZoW2, ZoW3, ZoW4, ZoW5. Conditions: none.
-/
import Derived.Shelf.Spec.SlicesGrow
import Derived.BigFrame
import Derived.Carry
import Derived.RowKit
import Derived.ChangeSame
import Derived.OpenShut
import Derived.LaidMore
import Derived.Lay
import Derived.Test.YtfggmgafjabbjaaGreatDoorMC3
/-
  JOIN: what package delta computes as a plain function; its laws; Diff, Apply and Join answer as the document does. Conditions: none.
-/
set_option linter.unusedVariables false
set_option linter.unusedSimpArgs false
namespace Go.Zon
open Go.DL Go.Str Go.Rec Go.Cmp

/-! ### neighbours that are equal -/
def cpTo (l : List Qst) : Nat → List Qst
  | 0 => []
  | k + 1 => if k = 0 ∨ l[k]! ≠ l[k - 1]! then cpTo l k ++ [l[k]!] else cpTo l k
def cpF (l : List Qst) : List Qst := cpTo l l.length
theorem cp_yes {l : List Qst} {k : Nat} (h : k = 0 ∨ l[k]! ≠ l[k - 1]!) : cpTo l (k + 1) = cpTo l k ++ [l[k]!] := if_pos h
theorem cp_no {l : List Qst} {k : Nat} (h : ¬ (k = 0 ∨ l[k]! ≠ l[k - 1]!)) : cpTo l (k + 1) = cpTo l k := if_neg h
theorem cp_len (l : List Qst) : ∀ k, (cpTo l k).length ≤ k
  | 0 => Nat.le_refl _
  | k + 1 => by
    have := cp_len l k
    by_cases h : k = 0 ∨ l[k]! ≠ l[k - 1]!
    · rw [cp_yes h, List.length_append]; simp; omega
    · rw [cp_no h]; omega
theorem cp_take {l : List Qst} : ∀ k, k ≤ l.length → (∀ i, 0 < i → i < k → l[i]! ≠ l[i - 1]!) → cpTo l k = l.take k
  | 0, _, _ => by simp [cpTo]
  | k + 1, hk, h => by
    rw [cp_yes, cp_take k (by omega) (fun i h1 h2 => h i h1 (by omega)), take_succ! (by omega)]
    by_cases e : k = 0
    · exact .inl e
    · exact .inr (h k (by omega) (by omega))
theorem cp_spec {l : List Qst} (hs : l.Pairwise fun a b => qp a b ≤ 0) : ∀ k, k ≤ l.length → Strict qp (cpTo l k) ∧ ∀ x, x ∈ cpTo l k ↔ x ∈ l.take k
  | 0, _ => ⟨.nil, fun x => by simp [cpTo]⟩
  | k + 1, hk => by
    obtain ⟨h1, h2⟩ := cp_spec hs k (by omega)
    have hat : ∀ i j, i < j → j < l.length → qp l[i]! l[j]! ≤ 0 := fun i j hij hj => by
      rw [getElem!_pos l i (by omega), getElem!_pos l j hj]
      exact List.pairwise_iff_getElem.1 hs i j (by omega) hj hij
    by_cases h : k = 0 ∨ l[k]! ≠ l[k - 1]!
    · rw [cp_yes h, take_succ! (by omega)]
      refine ⟨List.pairwise_append.2 ⟨h1, List.pairwise_singleton _ _, fun x hx y hy => ?_⟩, fun x => by rw [List.mem_append, List.mem_append, h2]⟩
      rw [List.mem_singleton] at hy
      subst hy
      obtain ⟨i, hi, rfl⟩ := mem_ix.1 ((h2 x).1 hx)
      have hi' : i < k := by simp at hi; omega
      rw [show (l.take k)[i]! = l[i]! from by rw [getElem!_pos _ i hi, getElem!_pos l i (by omega), List.getElem_take]]
      have hne := h.resolve_left (by omega)
      have hlt : qp l[k - 1]! l[k]! < 0 := by
        have := hat (k - 1) k (by omega) (by omega)
        have h3 : qp l[k - 1]! l[k]! ≠ 0 := fun e => hne (qp_eq.1 e).symm
        omega
      by_cases e : i = k - 1
      · rw [e]; exact hlt
      · exact cm_q.le_lt (hat i (k - 1) (by omega) (by omega)) hlt
    · rw [cp_no h, take_succ! (by omega)]
      refine ⟨h1, fun x => ?_⟩
      rw [h2, List.mem_append, List.mem_singleton]
      refine ⟨.inl, fun h3 => h3.elim id fun e => ?_⟩
      have e2 : l[k]! = l[k - 1]! := Classical.byContradiction fun q => h (.inr q)
      have hk0 : k ≠ 0 := fun q => h (.inl q)
      rw [e, e2]
      refine mem_ix.2 ⟨k - 1, by simp; omega, ?_⟩
      rw [getElem!_pos _ (k - 1) (by simp; omega), getElem!_pos l (k - 1) (by omega), List.getElem_take]
theorem cpF_strict {l : List Qst} (hs : l.Pairwise fun a b => qp a b ≤ 0) : Strict qp (cpF l) := (cp_spec hs _ (Nat.le_refl _)).1
theorem cpF_mem {l : List Qst} (hs : l.Pairwise fun a b => qp a b ≤ 0) {x : Qst} : x ∈ cpF l ↔ x ∈ l := by
  have := (cp_spec hs _ (Nat.le_refl _)).2 x
  rwa [List.take_length] at this
theorem cpF_len (l : List Qst) : (cpF l).length ≤ l.length := cp_len l _

/-! ### Join -/
def stayJ (d e : Dlt) : List Sgd := stayP ⟨d.apex, d.put⟩ e
def putP (d e : Dlt) : List Sgd := sortS (stayJ d e ++ e.put)
def dropP (d e : Dlt) : List Qst := (cpF (sortQ (d.drop ++ e.drop))).filterMap (j3S (mapP (putP d e)))
def uniP (d e : Dlt) : Dlt := ⟨d.apex, d.frm, e.too, dropP d e, putP d e⟩
def joinP (d e : Dlt) : Dlt × Int :=
  if dltOk d = false ∨ dltOk e = false ∨ d.apex ≠ e.apex then (dlt0, 1) else if d.too ≠ e.frm ∨ befB d.frm e.too = false then (dlt0, 23) else
  if 20000 < (dropP d e).length ∨ 20000 < (putP d e).length then (dlt0, 2) else (uniP d e, 0)
theorem putP_mem {d e : Dlt} {x : Sgd} : x ∈ putP d e ↔ (x ∈ d.put ∧ x.q ∉ e.drop ∧ ∀ s ∈ e.put, s.q ≠ x.q) ∨ x ∈ e.put := by
  unfold putP stayJ
  rw [sortS_mem, List.mem_append, stay_mem]
theorem putP_once {d e : Dlt} (hd : Ord d.put) (he : Ord e.put) : Once (stayJ d e ++ e.put) := new_once (z := ⟨d.apex, d.put⟩) hd he
theorem putP_ord {d e : Dlt} (hd : Ord d.put) (he : Ord e.put) : Ord (putP d e) := sortS_ord (putP_once hd he)
theorem putP_len (d e : Dlt) : (putP d e).length ≤ d.put.length + e.put.length := by
  have := stay_len ⟨d.apex, d.put⟩ e
  unfold putP
  rw [sortS_len, List.length_append]
  have h2 : (stayJ d e).length ≤ d.put.length := this
  omega
theorem stayJ_len (d e : Dlt) : (stayJ d e).length ≤ d.put.length := stay_len ⟨d.apex, d.put⟩ e
theorem j3S_same (m : PM) (x y : Qst) (h : j3S m x = some y) : y = x := by
  unfold j3S at h
  split at h
  · exact (Option.some.inj h).symm
  · cases h
theorem j3S_mem {m : PM} {l : List Qst} {x : Qst} : x ∈ l.filterMap (j3S m) ↔ x ∈ l ∧ pget m x = none := by
  rw [List.mem_filterMap]
  unfold j3S newB
  constructor
  · rintro ⟨y, hy, h⟩
    cases e : pget m y with
    | none => simp [e] at h; subst h; exact ⟨hy, e⟩
    | some v => simp [e] at h
  · rintro ⟨h1, h2⟩; exact ⟨x, h1, by simp [h2]⟩
theorem dropP_mem {d e : Dlt} {q : Qst} : q ∈ dropP d e ↔ (q ∈ d.drop ∨ q ∈ e.drop) ∧ ∀ s ∈ putP d e, s.q ≠ q := by
  unfold dropP
  rw [j3S_mem, cpF_mem (sortQ_sorted _), sortQ_mem, List.mem_append, pget_none, mapP_has]
  constructor
  · rintro ⟨h1, h2⟩; exact ⟨h1, fun s hs e => h2 ⟨s, hs, e⟩⟩
  · rintro ⟨h1, h2⟩; exact ⟨h1, fun ⟨s, hs, e⟩ => h2 s hs e⟩
theorem dropP_strict (d e : Dlt) : Strict qp (dropP d e) := fm_pair (j3S_same _) (cpF_strict (sortQ_sorted _))
theorem dropP_len (d e : Dlt) : (dropP d e).length ≤ d.drop.length + e.drop.length := by
  have h1 : (dropP d e).length ≤ (cpF (sortQ (d.drop ++ e.drop))).length := List.length_filterMap_le _ _
  have h2 := cpF_len (sortQ (d.drop ++ e.drop))
  rw [sortQ_len, List.length_append] at h2
  omega
theorem uni_ok {d e : Dlt} (hd : DOk d) (he : DOk e) (hb : befB d.frm e.too = true) (h1 : (dropP d e).length ≤ 20000) (h2 : (putP d e).length ≤ 20000) : DOk (uniP d e) := by
  refine ⟨hd.apex, hd.wild, hd.frm, he.too, hb, h1, h2, fun q hq => ?_, dropP_strict d e, fun s hs => ?_, putP_ord hd.pord he.pord, fun s hs hq => ?_⟩
  · exact (dropP_mem.1 hq).1.elim (hd.dok q) (he.dok q)
  · exact (putP_mem.1 hs).elim (fun k => hd.pok s k.1) (he.pok s)
  · exact (dropP_mem.1 hq).2 s hs rfl
theorem new_mem {z : Zon} {d : Dlt} {x : Sgd} : x ∈ (newP z d).sets ↔ (x ∈ z.sets ∧ x.q ∉ d.drop ∧ ∀ s ∈ d.put, s.q ≠ x.q) ∨ x ∈ d.put := by
  show x ∈ sortS _ ↔ _
  rw [sortS_mem, List.mem_append, stay_mem]
theorem new_ord {z : Zon} {d : Dlt} (hz : Ord z.sets) (hd : Ord d.put) : Ord (newP z d).sets := sortS_ord (new_once hz hd)
/-- ONE DIFFERENCE AFTER THE OTHER is both of them at once -/
theorem join_new {z : Zon} {d e : Dlt} (hz : Ord z.sets) (hd : DOk d) (he : DOk e) : newP z (uniP d e) = newP (newP z d) e := by
  have h : (newP z (uniP d e)).sets = (newP (newP z d) e).sets := by
    refine strict_ext cm_s (new_ord hz (putP_ord hd.pord he.pord)) (new_ord (new_ord hz hd.pord) he.pord) fun x => ?_
    rw [new_mem, new_mem, new_mem]
    show (x ∈ z.sets ∧ x.q ∉ dropP d e ∧ ∀ s ∈ putP d e, s.q ≠ x.q) ∨ x ∈ putP d e ↔ _
    rw [dropP_mem, putP_mem]
    constructor
    · rintro (⟨h1, h2, h3⟩ | ⟨h1, h2, h3⟩ | h1)
      · have h4 : ¬ (x.q ∈ d.drop ∨ x.q ∈ e.drop) := fun q => h2 ⟨q, h3⟩
        have h5 : ∀ s ∈ e.put, s.q ≠ x.q := fun s hs => h3 s (putP_mem.2 (.inr hs))
        refine .inl ⟨.inl ⟨h1, fun q => h4 (.inl q), fun s hs q => ?_⟩, fun q => h4 (.inr q), h5⟩
        refine h3 s (putP_mem.2 (.inl ⟨hs, fun k => h4 (.inr (q ▸ k)), fun t ht k => h5 t ht (k.trans q)⟩)) q
      · exact .inl ⟨.inr h1, h2, h3⟩
      · exact .inr h1
    · rintro (⟨⟨h1, h2, h3⟩ | h1, h4, h5⟩ | h1)
      · refine .inl ⟨h1, fun q => q.1.elim h2 h4, fun s hs q => ?_⟩
        rcases putP_mem.1 hs with k | k
        · exact h3 s k.1 q
        · exact h5 s k q
      · exact .inr (.inl ⟨h1, h4, h5⟩)
      · exact .inr (.inr h1)
  show (⟨z.apex, _⟩ : Zon) = ⟨z.apex, _⟩
  rw [Zon.mk.injEq]
  exact ⟨rfl, h⟩
theorem join_yes {d e : Dlt} (h1 : dltOk d = true) (h2 : dltOk e = true) (h3 : d.apex = e.apex) (h4 : d.too = e.frm) (h5 : befB d.frm e.too = true) (h6 : (dropP d e).length ≤ 20000) (h7 : (putP d e).length ≤ 20000) : joinP d e = (uniP d e, 0) := by
  unfold joinP
  rw [if_neg (by rintro (q | q | q); rw [h1] at q; cases q; rw [h2] at q; cases q; exact q h3), if_neg (by rintro (q | q); exact q h4; rw [h5] at q; cases q), if_neg (by omega)]
theorem join_old {d e : Dlt} (h1 : dltOk d = true) (h2 : dltOk e = true) (h3 : d.apex = e.apex) (h5 : befB d.frm e.too = false) : joinP d e = (dlt0, 23) := by
  unfold joinP
  rw [if_neg (by rintro (q | q | q); rw [h1] at q; cases q; rw [h2] at q; cases q; exact q h3), if_pos (.inr h5)]
theorem join_apply {z : Zon} {d e : Dlt} (h : AOk z d) (k : AOk (newP z d) e) (hb : befB d.frm e.too = true) (h6 : (dropP d e).length ≤ 20000) (h7 : (putP d e).length ≤ 20000) : applyP z (uniP d e) = (newP (newP z d) e, 0) := by
  have hd := dlt_iff.1 h.dok
  have he := dlt_iff.1 k.dok
  have hj := join_new (zone_ord h.zok).ord hd he
  have := apply_yes (z := z) (d := uniP d e) h.zok (dlt_iff.2 (uni_ok hd he hb h6 h7)) h.apex h.frm (by rw [hj]; exact k.new) (by rw [hj]; exact k.too)
  rw [hj] at this
  exact this
theorem applyP_ok {z : Zon} {d : Dlt} {x : Zon} (h : applyP z d = (x, 0)) : x = newP z d ∧ AOk z d := by
  rcases apply_cases z d with ha | ⟨ha, _⟩ | ha | ha | ⟨ha, hk⟩
  · rw [ha] at h; cases h
  · rw [ha] at h; cases h
  · rw [ha] at h; cases h
  · rw [ha] at h; cases h
  · rw [ha] at h; exact ⟨(Prod.mk.injEq _ _ _ _ ▸ h).1.symm, hk⟩
theorem strict_sub {α : Type} {c : α → α → Int} (h : Cm c) : ∀ {l m : List α}, Strict c l → Strict c m → (∀ x ∈ l, x ∈ m) → l.length ≤ m.length
  | [], _, _, _, _ => Nat.zero_le _
  | a :: l, m, hl, hm, k => by
    have hl' := List.pairwise_cons.1 hl
    obtain ⟨m1, m2, rfl⟩ := List.append_of_mem (k a (by simp))
    have hm' := List.pairwise_append.1 hm
    have := strict_sub h hl'.2 (List.pairwise_cons.1 hm'.2.1).2 fun x hx => by
      have h1 := hl'.1 x hx
      rcases List.mem_append.1 (k x (by simp [hx])) with e | e
      · have := hm'.2.2 x e a (by simp)
        have := h.anti x a
        omega
      · rcases List.mem_cons.1 e with e | e
        · subst e; have := h.self x; omega
        · exact e
    simp only [List.length_append, List.length_cons]
    omega
/-! ### the differences of three versions -/
theorem three_put {a b c : Zon} (ha : Ord a.sets) (hb : Ord b.sets) (hc : Ord c.sets) : (putD a c).length ≤ (putP (dD a b) (dD b c)).length := by
  refine strict_sub cm_s (put_ord hc) (putP_ord (put_ord hb) (put_ord hc)) fun x hx => ?_
  obtain ⟨h1, h2⟩ := (put_mem ha).1 hx
  refine putP_mem.2 ?_
  by_cases e : x ∈ b.sets
  · refine .inl ⟨(put_mem ha).2 ⟨e, h2⟩, fun k => (drop_mem.1 k).2 x h1 rfl, fun s hs k => ?_⟩
    obtain ⟨h3, h4⟩ := (put_mem hb).1 hs
    have := mget_mem hc h3
    rw [k, mget_mem hc h1] at this
    rw [← Option.some.inj this] at h4
    exact h4 e
  · exact .inr ((put_mem hb).2 ⟨h1, e⟩)
theorem three_drop {a b c : Zon} (ha : Ord a.sets) (hb : Ord b.sets) (hc : Ord c.sets) : (dropD a c).length ≤ (dropP (dD a b) (dD b c)).length := by
  refine strict_sub cm_q (drop_ord ha) (dropP_strict _ _) fun q hq => ?_
  obtain ⟨h1, h2⟩ := drop_mem.1 hq
  refine dropP_mem.2 ⟨?_, fun s hs e => ?_⟩
  · by_cases k : ∀ s ∈ b.sets, s.q ≠ q
    · exact .inl (drop_mem.2 ⟨h1, k⟩)
    · refine .inr (drop_mem.2 ⟨Classical.byContradiction fun k2 => k fun s hs e => k2 ⟨s, hs, e⟩, h2⟩)
  · rcases putP_mem.1 hs with ⟨k1, k2, _⟩ | k1
    · refine k2 (drop_mem.2 ⟨⟨s, ((put_mem ha).1 k1).1, rfl⟩, fun t ht k => h2 t ht (k.trans e)⟩)
    · exact h2 s ((put_mem hb).1 k1).1 e
/-! ### what the document answers -/
theorem insTo_spec {α : Type} [Inhabited α] {c : α → α → Int} (h : Cm c) {gt : α → Bool} {l : List α} {s : α} (hl : Strict c l) (hg : ∀ x ∈ l, gt x = decide (0 < c x s)) (hn : ∀ x ∈ l, c x s ≠ 0) : ∀ k, k ≤ l.length →
    Strict c (insTo gt l s k).1 ∧ (∀ x ∈ (insTo gt l s k).1, ∀ j, k ≤ j → j < l.length → c x l[j]! < 0) ∧ ((insTo gt l s k).2 = false → ∀ x ∈ (insTo gt l s k).1, c x s < 0) ∧ (∀ x, x ∈ (insTo gt l s k).1 ↔ x ∈ l.take k ∨ ((insTo gt l s k).2 = true ∧ x = s))
  | 0, _ => ⟨.nil, by simp [insTo], by simp [insTo], by simp [insTo]⟩
  | k + 1, hk => by
    obtain ⟨h1, h2, h3, h4⟩ := insTo_spec h hl hg hn k (by omega)
    have hm : l[k]! ∈ l := ix_mem (by omega)
    have hgk := hg _ hm
    have hnk := hn _ hm
    have hat : ∀ j, k + 1 ≤ j → j < l.length → c l[k]! l[j]! < 0 := fun j h5 h6 => strict_at hl (by omega) h6
    by_cases e : (insTo gt l s k).2 = false ∧ gt l[k]! = true
    · rw [insTo_yes e]
      obtain ⟨e1, e2⟩ := e
      rw [e2] at hgk
      have hgt : 0 < c l[k]! s := of_decide_eq_true hgk.symm
      have hlt : c s l[k]! < 0 := by have := h.anti l[k]! s; omega
      refine ⟨?_, fun x hx j h5 h6 => ?_, fun q => by simp at q, fun x => ?_⟩
      · refine List.pairwise_append.2 ⟨List.pairwise_append.2 ⟨h1, List.pairwise_singleton _ _, fun x hx y hy => ?_⟩, List.pairwise_singleton _ _, fun x hx y hy => ?_⟩
        · rw [List.mem_singleton] at hy; subst hy; exact h3 e1 x hx
        · rw [List.mem_singleton] at hy; subst hy
          rcases List.mem_append.1 hx with q | q
          · exact h2 x q k (Nat.le_refl _) (by omega)
          · rw [List.mem_singleton] at q; subst q; exact hlt
      · have h7 := hat j h5 h6
        rcases List.mem_append.1 hx with q | q
        · rcases List.mem_append.1 q with q | q
          · exact h2 x q j (by omega) h6
          · rw [List.mem_singleton] at q; subst q; exact h.lt_le hlt (by omega)
        · rw [List.mem_singleton] at q; subst q; exact h7
      · rw [List.mem_append, List.mem_append, h4, take_succ! (by omega), List.mem_append, e1]
        simp only [Bool.false_eq_true, false_and, or_false, true_and, List.mem_singleton]
        constructor
        · rintro ((q | q) | q)
          · exact .inl (.inl q)
          · exact .inr q
          · exact .inl (.inr q)
        · rintro ((q | q) | q)
          · exact .inl (.inl q)
          · exact .inr q
          · exact .inl (.inr q)
    · rw [insTo_no e]
      refine ⟨?_, fun x hx j h5 h6 => ?_, fun q x hx => ?_, fun x => ?_⟩
      · refine List.pairwise_append.2 ⟨h1, List.pairwise_singleton _ _, fun x hx y hy => ?_⟩
        rw [List.mem_singleton] at hy; subst hy; exact h2 x hx k (Nat.le_refl _) (by omega)
      · rcases List.mem_append.1 hx with q | q
        · exact h2 x q j (by omega) h6
        · rw [List.mem_singleton] at q; subst q; exact hat j h5 h6
      · simp only at q
        rcases List.mem_append.1 hx with q2 | q2
        · exact h3 q x q2
        · rw [List.mem_singleton] at q2; subst q2
          have : gt l[k]! ≠ true := fun k => e ⟨q, k⟩
          rw [hgk] at this
          have : ¬ 0 < c l[k]! s := fun k => this (decide_eq_true k)
          omega
      · rw [List.mem_append, h4, take_succ! (by omega), List.mem_append]
        constructor
        · rintro ((q | q) | q)
          · exact .inl (.inl q)
          · exact .inr q
          · exact .inl (.inr q)
        · rintro ((q | q) | q)
          · exact .inl (.inl q)
          · exact .inr q
          · exact .inl (.inr q)
theorem insF_spec {α : Type} [Inhabited α] {c : α → α → Int} (h : Cm c) {gt : α → Bool} {l : List α} {s : α} (hl : Strict c l) (hg : ∀ x ∈ l, gt x = decide (0 < c x s)) (hn : ∀ x ∈ l, c x s ≠ 0) : Strict c (insF gt l s) ∧ ∀ x, x ∈ insF gt l s ↔ x = s ∨ x ∈ l := by
  obtain ⟨h1, h2, h3, h4⟩ := insTo_spec h hl hg hn _ (Nat.le_refl _)
  rw [List.take_length] at h4
  unfold insF
  split
  · rename_i e
    refine ⟨List.pairwise_append.2 ⟨h1, List.pairwise_singleton _ _, fun x hx y hy => ?_⟩, fun x => ?_⟩
    · rw [List.mem_singleton] at hy; subst hy; exact h3 e x hx
    · rw [List.mem_append, h4, e, List.mem_singleton]
      simp only [Bool.false_eq_true, false_and, or_false]
      exact ⟨fun q => q.symm, fun q => q.symm⟩
  · rename_i e
    have e : (insTo gt l s l.length).2 = true := by simpa using e
    refine ⟨h1, fun x => ?_⟩
    rw [h4, e]
    simp only [true_and]
    exact ⟨fun q => q.symm, fun q => q.symm⟩
theorem sortedF_spec {l : List Sgd} {s : Sgd} (hl : Ord l) (hn : ∀ x ∈ l, nameOk x.q.name = true) (hs : nameOk s.q.name = true) (hne : ∀ x ∈ l, x.q ≠ s.q) : Ord (sortedF l s) ∧ ∀ x, x ∈ sortedF l s ↔ x = s ∨ x ∈ l :=
  insF_spec cm_s hl (fun x hx => by rw [qO_qp (hn x hx) hs]; rfl) fun x hx e => hne x hx (qp_eq.1 e)
theorem addF_spec {l : List Qst} {s : Qst} (hl : Strict qp l) (hn : ∀ x ∈ l, nameOk x.name = true) (hs : nameOk s.name = true) : Strict qp (addF l s) ∧ ∀ x, x ∈ addF l s ↔ x = s ∨ x ∈ l := by
  unfold addF askB
  by_cases e : s ∈ l
  · rw [if_pos (decide_eq_true e)]
    exact ⟨hl, fun x => ⟨.inr, fun q => q.elim (fun q => q ▸ e) id⟩⟩
  · rw [if_neg (by simpa using e)]
    exact insF_spec cm_q hl (fun x hx => by rw [qO_qp (hn x hx) hs]) fun x hx q => e (qp_eq.1 q ▸ hx)
theorem take_mem {α : Type} {l : List α} {k : Nat} {x : α} (h : x ∈ l.take k) : x ∈ l := List.mem_of_mem_take h
theorem once_at {l : List Sgd} (h : Ord l) {k : Nat} (hk : k < l.length) {x : Sgd} (hx : x ∈ l.take k) : x.q ≠ l[k]!.q := by
  obtain ⟨i, hi, rfl⟩ := mem_ix.1 hx
  have hi' : i < k := by simp at hi; omega
  rw [show (l.take k)[i]! = l[i]! from by rw [getElem!_pos _ i hi, getElem!_pos l i (by omega), List.getElem_take]]
  intro e
  have h2 : sp l[i]! l[k]! < 0 := strict_at h hi' hk
  unfold sp at h2
  rw [qp_eq.2 e] at h2
  omega
theorem addTo_spec {put l : List Sgd} (hl : Ord l) (hp : Ord put) (hn : ∀ x ∈ l, nameOk x.q.name = true) (hm : ∀ x ∈ put, nameOk x.q.name = true) (ha : ∀ x ∈ l, ∀ y ∈ put, x.q ≠ y.q) : ∀ k, k ≤ put.length → Ord (addTo put l k) ∧ ∀ x, x ∈ addTo put l k ↔ x ∈ l ∨ x ∈ put.take k
  | 0, _ => ⟨hl, fun x => by simp [addTo]⟩
  | k + 1, hk => by
    obtain ⟨h1, h2⟩ := addTo_spec hl hp hn hm ha k (by omega)
    have hx : put[k]! ∈ put := ix_mem (by omega)
    obtain ⟨h3, h4⟩ := sortedF_spec (s := put[k]!) h1 (fun x hx => ((h2 x).1 hx).elim (hn x) fun q => hm x (take_mem q)) (hm _ hx) fun x hx2 => ((h2 x).1 hx2).elim (fun q => ha x q _ hx) fun q => once_at hp (by omega) q
    refine ⟨h3, fun x => ?_⟩
    show x ∈ sortedF _ _ ↔ _
    rw [h4, h2, take_succ! (by omega), List.mem_append, List.mem_singleton]
    constructor
    · rintro (q | q | q)
      · exact .inr (.inr q)
      · exact .inl q
      · exact .inr (.inl q)
    · rintro (q | q | q)
      · exact .inr (.inl q)
      · exact .inr (.inr q)
      · exact .inl q
theorem new_iff {m : PM} {s : Sgd} : newB m s.q = true ↔ ¬ (pget m s.q).isSome = true := by unfold newB; simp
theorem keptTo_stay {a : Zon} {d : Dlt} : ∀ k, k ≤ a.sets.length → keptTo a d k = (a.sets.take k).filterMap (goS (goesF d.put d.drop))
  | 0, _ => by simp [keptTo]
  | k + 1, hk => by
    have ih := keptTo_stay (a := a) (d := d) k (by omega)
    have key : (askB d.drop a.sets[k]!.q = false ∧ atF d.put a.sets[k]!.q < 0) ↔ newB (goesF d.put d.drop) a.sets[k]!.q = true := by
      rw [new_iff, goes_has, atF_no, mget_none]
      unfold askB
      rw [decide_eq_false_iff_not]
      constructor
      · rintro ⟨h1, h2⟩ (h3 | ⟨s, h3, h4⟩)
        · exact h1 h3
        · exact h2 s h3 h4
      · intro h; exact ⟨fun q => h (.inl q), fun s hs e => h (.inr ⟨s, hs, e⟩)⟩
    by_cases h : askB d.drop a.sets[k]!.q = false ∧ atF d.put a.sets[k]!.q < 0
    · rw [kept_yes h, ih, fm_yes (by omega) (show goS _ a.sets[k]! = some a.sets[k]! from if_pos (key.1 h))]
    · rw [kept_no h, ih, fm_no (by omega) (show goS _ a.sets[k]! = none from if_neg fun q => h (key.2 q))]
theorem applyZ_new {z : Zon} {d : Dlt} (hz : ZOrd z) (hd : DOk d) : applyZ z d = newP z d := by
  unfold applyZ newP
  have e : keptTo z d z.sets.length = stayP z d := by rw [keptTo_stay _ (Nat.le_refl _), List.take_length]; rfl
  rw [e]
  obtain ⟨h1, h2⟩ := addTo_spec (stay_ord (d := d) hz.ord) hd.pord (fun x hx => hz.nms x (stay_mem.1 hx).1) (fun x hx => (hd.pok x hx).name) (fun x hx y hy e => (stay_mem.1 hx).2.2 y hy e.symm) d.put.length (Nat.le_refl _)
  rw [List.take_length] at h2
  rw [strict_ext cm_s h1 (sortS_ord (new_once hz.ord hd.pord)) fun x => by rw [h2, sortS_mem, List.mem_append]]
theorem applyR_P (z : Zon) (d : Dlt) : applyR z d = applyP z d := by
  unfold applyR applyP
  rw [← zoneOk_ref z]
  by_cases h1 : zoneOk z = false ∨ dltOk d = false ∨ z.apex ≠ d.apex
  · rw [if_pos h1, if_pos h1]
  · have hz : zoneOk z = true := by cases q : zoneOk z with | true => rfl | false => exact absurd (.inl q) h1
    have hd : dltOk d = true := by cases q : dltOk d with | true => rfl | false => exact absurd (.inr (.inl q)) h1
    have e := applyZ_new (zone_ord hz) (dlt_iff.1 hd)
    rw [if_neg h1, if_neg h1, e, new_len, ← serial_ref hz, ← zoneOk_ref]
    by_cases h2 : serialOf z ≠ d.frm
    · rw [if_pos h2, if_pos h2]
    · rw [if_neg h2, if_neg h2]
      by_cases h3 : 20000 < (stayP z d).length + d.put.length
      · rw [if_pos h3, if_pos h3]
      · rw [if_neg h3, if_neg h3]
        cases q : zoneOk (newP z d) with
        | false => rw [if_pos (.inl rfl), if_pos (.inl rfl)]
        | true => rw [← serial_ref q]
theorem dropTo_D {a b : Zon} : ∀ k, k ≤ a.sets.length → dropTo a b k = (a.sets.take k).filterMap (d1S (mapP b.sets))
  | 0, _ => by simp [dropTo]
  | k + 1, hk => by
    have ih := dropTo_D (a := a) (b := b) k (by omega)
    have key : atF b.sets a.sets[k]!.q < 0 ↔ newB (mapP b.sets) a.sets[k]!.q = true := by
      rw [new_iff, mapP_has, atF_no, mget_none]
      exact ⟨fun h ⟨s, hs, e⟩ => h s hs e, fun h s hs e => h ⟨s, hs, e⟩⟩
    by_cases h : atF b.sets a.sets[k]!.q < 0
    · rw [drop_yes h, ih, fm_yes (by omega) (show d1S _ a.sets[k]! = some a.sets[k]!.q from if_pos (key.1 h))]
    · rw [drop_no h, ih, fm_no (by omega) (show d1S _ a.sets[k]! = none from if_neg fun q => h (key.2 q))]
theorem putTo_D {a b : Zon} (ha : Ord a.sets) : ∀ k, k ≤ b.sets.length → putTo a b k = (b.sets.take k).filterMap (d2S (mapP a.sets))
  | 0, _ => by simp [putTo]
  | k + 1, hk => by
    have ih := putTo_D (a := a) (b := b) ha k (by omega)
    have key : (atF a.sets b.sets[k]!.q < 0 ∨ sameSgd a.sets[(atF a.sets b.sets[k]!.q).toNat]! b.sets[k]! = false) ↔ diffS (pget (mapP a.sets) b.sets[k]!.q) b.sets[k]! = true := by
      rw [mapP_ord ha]
      cases e : mget a.sets b.sets[k]!.q with
      | none => simp only [diffS, iff_true]; exact .inl (atF_no.2 e)
      | some v =>
        obtain ⟨h1, h2⟩ := atF_yes e
        have h3 := (mget_some e).2
        rw [h2]
        simp only [diffS, Bool.not_eq_true']
        constructor
        · rintro (q | q)
          · omega
          · cases q2 : sameX v b.sets[k]! with
            | false => rfl
            | true => rw [(sameX_q h3).1 q2, sameSgd_self] at q; cases q
        · intro q
          refine .inr (decide_eq_false fun q2 => ?_)
          rw [(sameX_q h3).2 q2] at q; cases q
    by_cases h : atF a.sets b.sets[k]!.q < 0 ∨ sameSgd a.sets[(atF a.sets b.sets[k]!.q).toNat]! b.sets[k]! = false
    · rw [put_yes h, ih, fm_yes (by omega) (show d2S _ b.sets[k]! = some b.sets[k]! from if_pos (key.1 h))]
    · rw [put_no h, ih, fm_no (by omega) (show d2S _ b.sets[k]! = none from if_neg fun q => h (key.2 q))]
theorem diffR_P (a b : Zon) : diffR a b = diffP a b := by
  unfold diffR diffP
  rw [← zoneOk_ref a, ← zoneOk_ref b]
  by_cases h1 : zoneOk a = false ∨ zoneOk b = false ∨ a.apex ≠ b.apex
  · rw [if_pos h1, if_pos h1]
  · have ha : zoneOk a = true := by cases q : zoneOk a with | true => rfl | false => exact absurd (.inl q) h1
    have hb : zoneOk b = true := by cases q : zoneOk b with | true => rfl | false => exact absurd (.inr (.inl q)) h1
    unfold diffD
    rw [if_neg h1, if_neg h1, ← serial_ref ha, ← serial_ref hb, dropTo_D _ (Nat.le_refl _), putTo_D (zone_ord ha).ord _ (Nat.le_refl _), List.take_length, List.take_length]
theorem putJ_spec {d e : Dlt} (hd : DOk d) (he : DOk e) : ∀ k, k ≤ d.put.length → Ord (putJ d e k) ∧ ∀ x, x ∈ putJ d e k ↔ (x ∈ d.put.take k ∧ x.q ∉ e.drop ∧ ∀ s ∈ e.put, s.q ≠ x.q) ∨ x ∈ e.put
  | 0, _ => ⟨he.pord, fun x => by simp [putJ]⟩
  | k + 1, hk => by
    obtain ⟨h1, h2⟩ := putJ_spec hd he k (by omega)
    have hx : d.put[k]! ∈ d.put := ix_mem (by omega)
    have key : (atF e.put d.put[k]!.q < 0 ∧ askB e.drop d.put[k]!.q = false) ↔ (d.put[k]!.q ∉ e.drop ∧ ∀ s ∈ e.put, s.q ≠ d.put[k]!.q) := by
      rw [atF_no, mget_none]
      unfold askB
      rw [decide_eq_false_iff_not]
      exact ⟨fun q => q.symm, fun q => q.symm⟩
    by_cases h : atF e.put d.put[k]!.q < 0 ∧ askB e.drop d.put[k]!.q = false
    · rw [putJ_yes h]
      have h5 := key.1 h
      obtain ⟨h3, h4⟩ := sortedF_spec (s := d.put[k]!) h1 (fun x hx => ((h2 x).1 hx).elim (fun q => (hd.pok x (take_mem q.1)).name) fun q => (he.pok x q).name) (hd.pok _ hx).name fun x hx2 => ((h2 x).1 hx2).elim (fun q => once_at hd.pord (by omega) q.1) fun q => h5.2 x q
      refine ⟨h3, fun x => ?_⟩
      rw [h4, h2, take_succ! (by omega), List.mem_append, List.mem_singleton]
      constructor
      · rintro (q | q | q)
        · subst q; exact .inl ⟨.inr rfl, h5⟩
        · exact .inl ⟨.inl q.1, q.2⟩
        · exact .inr q
      · rintro (⟨q | q, q2⟩ | q)
        · exact .inr (.inl ⟨q, q2⟩)
        · exact .inl q
        · exact .inr (.inr q)
    · rw [putJ_no h]
      refine ⟨h1, fun x => ?_⟩
      rw [h2, take_succ! (by omega), List.mem_append, List.mem_singleton]
      constructor
      · rintro (q | q)
        · exact .inl ⟨.inl q.1, q.2⟩
        · exact .inr q
      · rintro (⟨q | q, q2⟩ | q)
        · exact .inl ⟨q, q2⟩
        · subst q; exact absurd (key.2 q2) h
        · exact .inr q
theorem putJ_P {d e : Dlt} (hd : DOk d) (he : DOk e) : putJF d e = putP d e := by
  obtain ⟨h1, h2⟩ := putJ_spec hd he _ (Nat.le_refl _)
  rw [List.take_length] at h2
  exact strict_ext cm_s h1 (putP_ord hd.pord he.pord) fun x => by rw [putP_mem]; exact h2 x
theorem dropJ_spec {p : List Sgd} {l : List Qst} (hn : ∀ q ∈ l, nameOk q.name = true) : ∀ k, k ≤ l.length → Strict qp (dropJ p l k) ∧ ∀ x, x ∈ dropJ p l k ↔ x ∈ l.take k ∧ ∀ s ∈ p, s.q ≠ x
  | 0, _ => ⟨.nil, fun x => by simp [dropJ]⟩
  | k + 1, hk => by
    obtain ⟨h1, h2⟩ := dropJ_spec (p := p) hn k (by omega)
    have hx : l[k]! ∈ l := ix_mem (by omega)
    have key : atF p l[k]! < 0 ↔ ∀ s ∈ p, s.q ≠ l[k]! := by rw [atF_no, mget_none]
    by_cases h : atF p l[k]! < 0
    · rw [dropJ_yes h]
      obtain ⟨h3, h4⟩ := addF_spec (s := l[k]!) h1 (fun x hx => hn x (take_mem ((h2 x).1 hx).1)) (hn _ hx)
      refine ⟨h3, fun x => ?_⟩
      rw [h4, h2, take_succ! (by omega), List.mem_append, List.mem_singleton]
      constructor
      · rintro (q | q)
        · subst q; exact ⟨.inr rfl, key.1 h⟩
        · exact ⟨.inl q.1, q.2⟩
      · rintro ⟨q | q, q2⟩
        · exact .inr ⟨q, q2⟩
        · exact .inl q
    · rw [dropJ_no h]
      refine ⟨h1, fun x => ?_⟩
      rw [h2, take_succ! (by omega), List.mem_append, List.mem_singleton]
      constructor
      · rintro q; exact ⟨.inl q.1, q.2⟩
      · rintro ⟨q | q, q2⟩
        · exact ⟨q, q2⟩
        · subst q; exact absurd (key.2 q2) h
theorem unitD_P {d e : Dlt} (hd : DOk d) (he : DOk e) : unitD d e = uniP d e := by
  unfold unitD uniP
  rw [putJ_P hd he]
  have hn : ∀ q ∈ d.drop ++ e.drop, nameOk q.name = true := fun q hq => (List.mem_append.1 hq).elim (fun k => qOk_nm (hd.dok q k)) fun k => qOk_nm (he.dok q k)
  obtain ⟨h1, h2⟩ := dropJ_spec (p := putP d e) hn _ (Nat.le_refl _)
  rw [List.take_length] at h2
  rw [strict_ext cm_q h1 (dropP_strict d e) fun x => by rw [h2, dropP_mem, List.mem_append]]
theorem joinR_P (d e : Dlt) : joinR d e = joinP d e := by
  unfold joinR joinP
  by_cases h1 : dltOk d = false ∨ dltOk e = false ∨ d.apex ≠ e.apex
  · rw [if_pos h1, if_pos h1]
  · have hd : dltOk d = true := by cases q : dltOk d with | true => rfl | false => exact absurd (.inl q) h1
    have he : dltOk e = true := by cases q : dltOk e with | true => rfl | false => exact absurd (.inr (.inl q)) h1
    rw [if_neg h1, if_neg h1, unitD_P (dlt_iff.1 hd) (dlt_iff.1 he)]
    rfl
theorem joinD_names {d e : Dlt} (hd : DOk d) (he : DOk e) : ∀ q ∈ d.drop ++ e.drop, nameOk q.name = true := fun q hq => (List.mem_append.1 hq).elim (fun k => qOk_nm (hd.dok q k)) fun k => qOk_nm (he.dok q k)
theorem stayJ_names {d e : Dlt} (hd : DOk d) (he : DOk e) : ∀ s ∈ stayJ d e ++ e.put, nameOk s.q.name = true := fun s hs => (List.mem_append.1 hs).elim (fun k => (hd.pok s (stay_mem.1 k).1).name) fun k => (he.pok s k).name
theorem putP_fit {d e : Dlt} (hd : fitL d.put) (he : fitL e.put) (h1 : d.put.length ≤ 20000) (h2 : e.put.length ≤ 20000) : fitL (putP d e) := fit_of (by have := putP_len d e; omega) fun s hs => (putP_mem.1 hs).elim (fun k => fit_mem hd k.1) fun k => fit_mem he k
end Go.Zon
/-
  JOIN, 2: the rows while equal neighbours go; two lists put together. Conditions: none.
-/
set_option linter.unusedVariables false
set_option linter.unusedSimpArgs false
namespace Go.Zon
open Go.DL Go.Str Go.Rec Go.Cmp

/-- the rows: what stays, and behind it what stood there -/
def cpR (l : List Qst) (k : Nat) : List (List D) := (cpTo l k).map Qst.d ++ (l.map Qst.d).drop (cpTo l k).length
theorem cpR_len {l : List Qst} {k : Nat} (hk : k ≤ l.length) : (cpR l k).length = l.length := by
  have := cp_len l k
  unfold cpR; simp; omega
theorem cpR_at {l : List Qst} {k i : Nat} (h1 : (cpTo l k).length ≤ i) (h2 : i < l.length) : (cpR l k).getD i [] = [.v (.string (bs l[i]!.name)), .i l[i]!.ty] := by
  unfold cpR
  rw [List.getD_eq_getElem?_getD, List.getElem?_append_right (by simpa using h1), List.getElem?_drop, List.length_map, show (cpTo l k).length + (i - (cpTo l k).length) = i from by omega, List.getElem?_map, List.getElem?_eq_getElem h2, getElem!_pos l i h2]
  rfl
theorem cpR_set {l : List Qst} {k : Nat} (h : k = 0 ∨ l[k]! ≠ l[k - 1]!) (hk : k < l.length) : (cpR l k).set (cpTo l k).length [.v (.string (bs l[k]!.name)), .i l[k]!.ty] = cpR l (k + 1) := by
  have := cp_len l k
  unfold cpR
  rw [cp_yes h, List.set_append_right _ _ (by simp), List.length_map, Nat.sub_self, List.drop_eq_getElem_cons (by simp; omega), List.set_cons_zero, List.length_append, List.map_append, List.append_assoc]
  rfl
theorem cpR_skip {l : List Qst} {k : Nat} (h : ¬ (k = 0 ∨ l[k]! ≠ l[k - 1]!)) : cpR l (k + 1) = cpR l k := by unfold cpR; rw [cp_no h]
theorem cpR_take (l : List Qst) (k : Nat) : (cpR l k).take (cpTo l k).length = (cpTo l k).map Qst.d := by
  unfold cpR
  rw [List.take_append_of_le_length (by simp), List.take_of_length_le (by simp)]
theorem cpR_same {l : List Qst} {k : Nat} (hk : k ≤ l.length) (h : ∀ i, 0 < i → i < k → l[i]! ≠ l[i - 1]!) : cpR l k = l.map Qst.d := by
  unfold cpR
  rw [cp_take k hk h, List.length_take, Nat.min_eq_left hk, ← List.map_drop, ← List.map_append, List.take_append_drop]
theorem cpF_same {l : List Qst} (h : ∀ i, 0 < i → i < l.length → l[i]! ≠ l[i - 1]!) : cpF l = l := by
  unfold cpF
  rw [cp_take _ (Nat.le_refl _) h, List.take_length]
/-- two lists, so far -/
def catL {α : Type} (a b : List α) : Nat → List α
  | 0 => []
  | 1 => a
  | _ => a ++ b
theorem catL_len {α : Type} (a b : List α) (k : Nat) : (catL a b k).length ≤ a.length + b.length := by
  match k with
  | 0 => simp [catL]
  | 1 => simp [catL]
  | _ + 2 => simp [catL]
@[go_sem] theorem catL_0 {α : Type} {a b : List α} : catL a b 0 = [] := rfl
@[go_sem] theorem catL_11 {α : Type} {a b : List α} : catL a b 1 = a := rfl
@[go_sem] theorem catL_22 {α : Type} {a b : List α} : catL a b 2 = a ++ b := rfl
theorem fewD_len {d : Dlt} (h : fewD d = true) : d.drop.length ≤ 50 ∧ d.put.length ≤ 50 := by
  unfold fewD at h
  simp only [Bool.and_eq_true, decide_eq_true_eq] at h
  exact ⟨h.1.2, h.2⟩
theorem join_cases (d e : Dlt) : (joinP d e = (dlt0, 1)) ∨ (joinP d e = (dlt0, 23)) ∨ joinP d e = (dlt0, 2) ∨ (joinP d e = (uniP d e, 0) ∧ dltOk d = true ∧ dltOk e = true) := by
  unfold joinP
  by_cases h1 : dltOk d = false ∨ dltOk e = false ∨ d.apex ≠ e.apex
  · exact .inl (if_pos h1)
  · rw [if_neg h1]
    by_cases h2 : d.too ≠ e.frm ∨ befB d.frm e.too = false
    · exact .inr (.inl (if_pos h2))
    · rw [if_neg h2]
      by_cases h3 : 20000 < (dropP d e).length ∨ 20000 < (putP d e).length
      · exact .inr (.inr (.inl (if_pos h3)))
      · refine .inr (.inr (.inr ⟨if_neg h3, ?_, ?_⟩))
        · cases q : dltOk d with | true => rfl | false => exact absurd (.inl q) h1
        · cases q : dltOk e with | true => rfl | false => exact absurd (.inr (.inl q)) h1
theorem fit_nil : fitL [] := ⟨by simp, fun k hk => by simp at hk⟩
theorem diff_small {a b : Zon} {x : Dlt} {k : Int} (ha : fitL a.sets) (hb : fitL b.sets) (h : diffP a b = (x, k)) : fitL x.put ∧ x.drop.length ≤ 1000000 := by
  rcases diff_cases a b with ⟨e, _⟩ | ⟨e, _⟩ | ⟨e, _⟩
  · rw [e] at h; cases h; exact ⟨fit_nil, by simp [dlt0]⟩
  · rw [e] at h; cases h; exact ⟨fit_nil, by simp [dlt0]⟩
  · rw [e] at h; cases h; exact ⟨putD_fit hb, Nat.le_trans (List.length_filterMap_le _ _) ha.1⟩
theorem join_small {d e : Dlt} {x : Dlt} {k : Int} (hd : fitL d.put) (he : fitL e.put) (h1 : d.drop.length ≤ 50 ∧ d.put.length ≤ 50) (h2 : e.drop.length ≤ 50 ∧ e.put.length ≤ 50) (h : joinP d e = (x, k)) : fitL x.put ∧ x.drop.length ≤ 1000000 := by
  rcases join_cases d e with e1 | e1 | e1 | ⟨e1, _⟩
  · rw [e1] at h; cases h; exact ⟨fit_nil, by simp [dlt0]⟩
  · rw [e1] at h; cases h; exact ⟨fit_nil, by simp [dlt0]⟩
  · rw [e1] at h; cases h; exact ⟨fit_nil, by simp [dlt0]⟩
  · rw [e1] at h; cases h; exact ⟨putP_fit hd he (by omega) (by omega), by have := dropP_len d e; show (dropP d e).length ≤ _; omega⟩
theorem apply_small {z : Zon} {d : Dlt} {x : Zon} {k : Int} (h : applyP z d = (x, k)) : fitL x.sets := by
  rcases apply_cases z d with e | ⟨e, _⟩ | e | e | ⟨e, hk⟩
  · rw [e] at h; cases h; exact fit_nil
  · rw [e] at h; cases h; exact fit_nil
  · rw [e] at h; cases h; exact fit_nil
  · rw [e] at h; cases h; exact fit_nil
  · rw [e] at h; cases h; exact zone_fit hk.new
theorem sameD_self (x : Dlt) : sameD x x = true := decide_eq_true rfl
theorem fewZ_len {z : Zon} (h : fewZ z = true) : z.sets.length ≤ 100 := by
  unfold fewZ at h
  rw [Bool.and_eq_true, decide_eq_true_eq] at h
  exact h.1
theorem fewAll_iff {a b : Zon} {d e : Dlt} (h : fewAll a b d e = true) : fewZ a = true ∧ fewZ b = true ∧ fewD d = true ∧ fewD e = true := by
  unfold fewAll at h
  simp only [Bool.and_eq_true] at h
  exact ⟨h.1.1.1, h.1.1.2, h.1.2, h.2⟩
/-- what two differences, one after the other, give -/
theorem join_two {z : Zon} {d e : Dlt} (hz : AOk z d) (he : AOk (newP z d) e) (h1 : d.drop.length ≤ 200 ∧ d.put.length ≤ 200) (h2 : e.drop.length ≤ 200 ∧ e.put.length ≤ 200) (hb : befB d.frm e.too = true) :
    joinP d e = (uniP d e, 0) ∧ applyP z (uniP d e) = (newP (newP z d) e, 0) := by
  have l1 := dropP_len d e
  have l2 := putP_len d e
  exact ⟨join_yes hz.dok he.dok (hz.apex.symm.trans he.apex) (hz.too.symm.trans he.frm) hb (by omega) (by omega), join_apply hz he hb (by omega) (by omega)⟩
theorem diffP_ok {a b : Zon} {x : Dlt} (h : diffP a b = (x, 0)) : x = dD a b ∧ zoneOk a = true ∧ zoneOk b = true ∧ a.apex = b.apex ∧ befB (serialOf a) (serialOf b) = true := by
  rcases diff_cases a b with ⟨e, _⟩ | ⟨e, _⟩ | ⟨e, h1⟩
  · rw [e] at h; cases h
  · rw [e] at h; cases h
  · rw [e] at h; cases h; exact ⟨rfl, h1⟩
theorem dD_len (a b : Zon) : (dD a b).drop.length ≤ a.sets.length ∧ (dD a b).put.length ≤ b.sets.length := ⟨List.length_filterMap_le _ _, List.length_filterMap_le _ _⟩
/-- THREE VERSIONS -/
theorem three_ok {a b c : Zon} (la : a.sets.length ≤ 100) (lb : b.sets.length ≤ 100) (lc : c.sets.length ≤ 100) (ha : zoneOk a = true) (hb : zoneOk b = true) (hc : zoneOk c = true) (h1 : a.apex = b.apex) (h2 : b.apex = c.apex) (s1 : befB (serialOf a) (serialOf b) = true) (s2 : befB (serialOf b) (serialOf c) = true) (s3 : befB (serialOf a) (serialOf c) = true) :
    joinP (dD a b) (dD b c) = (uniP (dD a b) (dD b c), 0) ∧ applyP a (uniP (dD a b) (dD b c)) = (c, 0) ∧ applyP a (dD a c) = (c, 0) ∧ (dD a c).put.length ≤ (uniP (dD a b) (dD b c)).put.length ∧ (dD a c).drop.length ≤ (uniP (dD a b) (dD b c)).drop.length := by
  obtain ⟨e1, k1⟩ := applyP_ok (apply_diff ha hb h1 s1)
  obtain ⟨e2, k2⟩ := applyP_ok (apply_diff hb hc h2 s2)
  have d1 := dD_len a b
  have d2 := dD_len b c
  have k2' : AOk (newP a (dD a b)) (dD b c) := by rw [← e1]; exact k2
  have := join_two k1 k2' (by omega) (by omega) s3
  rw [← e1, ← e2] at this
  have oa := (zone_ord ha).ord
  have ob := (zone_ord hb).ord
  have oc := (zone_ord hc).ord
  exact ⟨this.1, this.2, apply_diff ha hc (h1.trans h2) s3, three_put oa ob oc, three_drop oa ob oc⟩
theorem uni_fit {d e : Dlt} (hd : fitL d.put) (he : fitL e.put) (h1 : d.put.length ≤ 200) (h2 : e.put.length ≤ 200) : fitL (uniP d e).put := putP_fit hd he (by omega) (by omega)
end Go.Zon
/-
  THE D LAYER, 25: slices.Grow of a nil slice (the library's proved contract, told on plain data); the builtin clear. Conditions: none.
-/
set_option linter.unusedVariables false
namespace Go.DL
open Go.RowKit
variable {P : Program} {ro : Option Nat} {Q : Exit → S → Prop}
theorem zeroCells_add (cells : Array Value) (a b : Nat) : Builtin.zeroCells cells a ++ Builtin.zeroCells cells b = Builtin.zeroCells cells (a + b) := by
  unfold Builtin.zeroCells
  apply Array.ext
  · simp [Nat.add_mul]
  · intro i h1 h2
    rw [Array.getElem_append]
    split
    · simp
    · rename_i h3
      simp at h3
      simp only [Array.getElem_map, Array.getElem_range, Array.size_map, Array.size_range]
      congr 1
      obtain ⟨j, rfl⟩ : ∃ j, i = a * cells.size + j := ⟨i - a * cells.size, by omega⟩
      rw [Nat.add_sub_cancel_left, Nat.mul_comm a, Nat.mul_add_mod]
theorem grow_rct [Glob P] {ρ : Go.Shelf.Ren} (L : Go.Proofs.Lays8.n4 P ρ) {fG ty : Nat} (hfG : ρ.f 4 = fG) (hty : ρ.t 25 = ty) (hb : hasBody P fG = true) (hz : zeroLen P ty = true) (hp : 0 < P.cellsOf ty) {h : H} {nf m : Nat} (hm : m * P.bytesOf ty ≤ 140737488355328) (h63 : m ≤ 4611686018427387904) :
    RCt P fG [.list true [], .i m] h nf (fun d h' n' => d = .mrow nf 0 0 ∧ h' = upd h nf (some ⟨ty, []⟩) ∧ n' = nf + 1) := by
  refine ⟨hb, fun w g vs hm0 hU hrs => ?_⟩
  obtain ⟨x, vs1, rfl, hx, h1⟩ := hrs.of_cons
  obtain ⟨y, vs2, rfl, hy, h2⟩ := h1.of_cons
  rw [h2.of_nil]
  obtain ⟨a, rfl⟩ := empty_slice hx
  have hy' := hy.v_inv
  subst hy'
  have hnu : ¬ g.U nf := fun k => Nat.lt_irrefl _ (hU _ k)
  obtain ⟨i, hi, hs⟩ := info_of_pos hp
  unfold zeroLen at hz
  cases hzz : i.zero with
  | none => simp [hi, hzz] at hz
  | some z =>
    simp only [hi, hzz, Option.bind_some, beq_iff_eq] at hz
    have hby : i.bytes = P.bytesOf ty := by simp [Program.bytesOf, hi]
    by_cases hm1 : m = 0
    · subst hm1
      have key := Go.Proofs.Any8.slices_Grow_room L a 0 0 0 w (Nat.le_refl _) (by omega) (by omega) (by omega)
      rw [hfG] at key
      refine callsIn_wide.2 (key.mono ?_)
      rintro e w' ⟨rfl, rfl⟩
      obtain ⟨g', g1, g2, g3, g4, g5⟩ := hm0.putNone (h' := upd h nf (some ⟨ty, []⟩)) nf ⟨ty, []⟩ hnu (upd_same _ _ _) (fun r hr => .inl (upd_ne _ _ _ _ hr)) hp rfl
      exact ⟨_, g', _, _, _, ⟨rfl, rfl, rfl⟩, rfl, rep_none g1 ((g2 nf).2 (.inr rfl)) a, g4, g5, fun r hr => by
        rcases (g2 r).1 hr with k | k
        · exact Nat.lt_succ_of_lt (hU r k)
        · subst k; exact Nat.lt_succ_self _⟩
    · have key := Go.Proofs.Any8.slices_Grow_grow L i z (by rw [hty]; exact hi) hzz (by rw [hs]; exact hp) a 0 0 m [] w (Nat.le_refl _) (by omega) (by rw [hby]; simpa using hm) (by omega) (by simp) (fun _ => rfl) (fun _ _ j v hj => by simp at hj)
      rw [hfG, hty] at key
      refine callsIn_wide.2 (key.mono ?_)
      rintro e w' ⟨rfl, rfl⟩
      have hge := grownCap_ge w (0 + m) 0 ty
      obtain ⟨g', k1, k2, k3, k4⟩ := grown_put (h' := upd h nf (some ⟨ty, []⟩)) (rows := []) (cs := []) (z := z) hm0 hnu .nil hp hz (upd_same _ _ _) (fun r hr => .inl (upd_ne _ _ _ _ hr)) (grownCap w (0 + m) 0 ty) (Nat.zero_le _) (by omega) (grownCap_le_maxLen _ _ _ _ (by simp only [maxLen]; omega))
      have hw : (([] : List Value).toArray ++ Builtin.zeroCells z.cells (0 + m - 0) ++ Builtin.zeroCells z.cells (grownCap w (0 + m) 0 ty - (0 + m))) = (([] : List Value).toArray ++ Builtin.zeroCells z.cells (grownCap w (0 + m) 0 ty - ([] : List (List D)).length)) := by
        rw [Array.append_assoc, zeroCells_add]
        congr 2
        simp only [List.length_nil]
        omega
      rw [hw]
      exact ⟨_, g', _, _, _, ⟨rfl, rfl, rfl⟩, rfl, k1, k2, k3, fun r hr => by
        rcases k4 r hr with k | k
        · exact Nat.lt_succ_of_lt (hU r k)
        · subst k; exact Nat.lt_succ_self _⟩
theorem HM.shrink [Glob P] {h : H} {g : Mem} {w : World} (hm : HM P h g w) {r : Nat} {bl : Blk} (hr : h r = some bl) (k : Nat) : HM P (upd h r (some ⟨bl.ty, bl.rows.take k⟩)) g w := by
  refine ⟨fun q hq => ?_, fun q bl' hq => ?_, hm.inj, hm.used, hm.imm, hm.gr⟩
  · by_cases e : q = r
    · subst e; rw [upd_same] at hq; cases hq
    · rw [upd_ne _ _ _ _ e] at hq; exact hm.dead q hq
  · by_cases e : q = r
    · subst e
      rw [upd_same] at hq
      cases hq
      obtain ⟨blk, c, h1, h2, h3, h4, h5⟩ := hm.blk q bl hr
      refine ⟨blk, c, h1, h2, Nat.le_trans (by simp; omega) h3, h4, h5.imp id ?_⟩
      rintro ⟨b, cur, e1, e2, e3, e4, e5⟩
      refine ⟨b, cur, e1, e2, e3, e4, fun i row hi => ?_⟩
      simp only [List.getElem?_take] at hi
      split at hi
      · exact e5 i row hi
      · cases hi
    · rw [upd_ne _ _ _ _ e] at hq; exact hm.blk q bl' hq
/-- CLEAR of a part of a slice: what stands before it is as it was. -/
theorem clear_sound [Glob P] {h : H} {g : Mem} {w : World} (hm : HM P h g w) {t e : TypeId} {r off len : Nat} {rows : List (List D)} {v : Value} (ht : P.underlying t = some (.slice e)) (hr : h r = some ⟨e, rows⟩) (hz : zeroLen P e = true) (ho : (zeroCells P e).all D.one = true)
    (hl : off + len ≤ rows.length) (hv : Rep w g (.mrow r off len) v) (ty : TypeId) :
    ∃ g' w', (Builtin.clear_ #[t] ty #[v]).run P w = .ok (.tuple #[]) w' ∧ HM P (upd h r (some ⟨e, rows.take off⟩)) g' w' ∧ Mono g g' w w' ∧ ∀ r, g'.U r → g.U r := by
  cases hv with | mrow _ _ _ _ hx hU hvv =>
  obtain ⟨blk, c, h1, h2, h3, h4, h5⟩ := hm.blk r _ hr
  simp only at h1 h2 h3 h5
  obtain ⟨p1, p2⟩ := hvv _ _ _ h1
  by_cases hn : len = 0
  · subst hn
    obtain ⟨a, c', rfl, _, _⟩ := hx
    refine ⟨g, w, ?_, hm.shrink hr off, Mono.refl _ _, fun _ k => k⟩
    cases a <;> simp [Builtin.clear_, run_underlying ht]
  · rcases h5 with ⟨_, e0⟩ | ⟨b, cur, rfl, h6, h7, h8, h9⟩
    · omega
    rcases p2 with ⟨e0, _⟩ | ⟨e0, b', hb', rfl⟩
    · omega
    cases hb'
    have h6 := h6.cells p1.2
    have h7 := h7 p1.2
    obtain ⟨i, hi, hs⟩ := info_of_pos h2
    have hz' := hz
    unfold zeroLen at hz
    cases hzz : i.zero with
    | none => simp [hi, hzz] at hz
    | some z =>
      simp only [hi, hzz, Option.bind_some, beq_iff_eq] at hz
      have hzv : ∀ w, (zeroValue e).run P w = .ok z w := fun w => by simp [zeroValue, typeInfo, hi, hzz]
      have hlen : (Builtin.zeroCells z.cells len).toList.length = len * P.cellsOf e := by simp [size_zeroCells, hz]
      have hone : ∀ u ∈ (Builtin.zeroCells z.cells len).toList, u.oneCell' = true := by
        intro u hu
        have hz1 := (zero_rep hi hzz w g ho).2.1
        unfold Builtin.zeroCells at hu
        simp only [Array.toList_map, List.mem_map] at hu
        obtain ⟨k, _, rfl⟩ := hu
        have hk : k % z.cells.size < z.cells.size := Nat.mod_lt _ (by omega)
        rw [getElem!_pos z.cells _ hk]
        exact hz1 _ (by simp)
      have hmul : (off + len) * P.cellsOf e ≤ c * P.cellsOf e := Nat.mul_le_mul_right _ (by omega)
      rw [Nat.add_mul] at hmul
      have hfit : off * P.cellsOf e + (Builtin.zeroCells z.cells len).toList.length ≤ cur.size := by rw [hlen, h7]; exact hmul
      have hst := run_storeCells_at P b (off * P.cellsOf e) e (Builtin.zeroCells z.cells len).toList 0 cur w h6 (by simpa using hfit) hone
      simp only [Nat.add_zero] at hst
      generalize hnew : (List.take (off * P.cellsOf e) cur.toList ++ (Builtin.zeroCells z.cells len).toList ++ List.drop (off * P.cellsOf e + (Builtin.zeroCells z.cells len).toList.length) cur.toList) = new at hst
      have hnl : new.length = cur.size := by
        have e1 : cur.toList.length = cur.size := Array.length_toList
        rw [← hnew, List.length_append, List.length_append, List.length_take, List.length_drop, e1]
        omega
      have hget : ∀ k, k < off * P.cellsOf e → new[k]? = cur[k]? := by
        intro k hk
        rw [← hnew, List.append_assoc, List.getElem?_append_left (by simp only [List.length_take, Array.length_toList]; omega), List.getElem?_take, if_pos hk]
        simp
      obtain ⟨g', g1, g2, g3, g4, g5⟩ := hm.put (h' := upd h r (some ⟨e, rows.take off⟩)) (w' := w.setRow b new.toArray) r b c ⟨e, rows.take off⟩ new.toArray (.inr h1) (upd_same _ _ _) (fun r' hr' => .inl (upd_ne _ _ _ _ hr')) (.inr ⟨r, c, _, h1, .inl rfl⟩)
        (setRow_heap w b cur _ e _ h6) (by simp [hnl, h7]) h2 (by simp; omega) p1.2 (by
          intro i' row' hi'
          simp only [List.getElem?_take] at hi'
          split at hi'
          · rename_i hlt
            obtain ⟨k1, k2⟩ := h9 i' row' hi'
            refine ⟨k1, fun j d hj => ?_⟩
            have hjl : j < P.cellsOf e := by have := (List.getElem?_eq_some_iff.1 hj).1; simp only at k1; omega
            obtain ⟨u, u1, u2, u3⟩ := k2 j d hj
            refine ⟨u, ?_, u2, u3⟩
            simp only [List.getElem?_toArray]
            rw [hget _ (idx_lt hlt hjl)]
            exact u1
          · cases hi') ⟨rfl, rfl, rfl, by simp, fun k _ hk => setRow_other w b k _ (fun e => hk (by rw [e]))⟩
      refine ⟨g', _, ?_, g4, g5, fun r' hr' => ?_⟩
      · obtain ⟨m, rfl⟩ : ∃ m, len = m + 1 := ⟨len - 1, by omega⟩
        simp [Builtin.clear_, run_underlying ht, hzv, hst]
      · rcases (g2 r').1 hr' with k | k
        · exact k
        · subst k; exact hU
theorem seg_clear [Glob P] {C : Con} {s s1 : S} {ops : Array Oper} {i b : Nat} (k : Nat) {o : Oper} {t e : TypeId} {x : Operand} {r off len : Nat} {rows : List (List D)} (hik : i ≤ k) (ho : ops[k]? = some o) (hg : o.guard = none)
    (hop : o.op = .call { callee := .builtin .clear, args := #[x], argTypes := #[t] }) (ht : P.underlying t = some (.slice e)) (hz : zeroLen P e = true) (h1 : (zeroCells P e).all D.one = true)
    (he : execFrom P (words P) C ops.toList b i ((ops.toList.drop i).take (k - i)) s = s1) (hok : s1.ok) (hd : dstOk s1.n o.dst = true) (hx : s1.ev x = .mrow r off len) (hr : s1.h r = some ⟨e, rows⟩) (hl : off + len ≤ rows.length)
    (hk : SegW P ro ops (k + 1) b { n := s1.n, t := s1.put o.dst (.tuple []), h := upd s1.h r (some ⟨e, rows.take off⟩), nx := s1.nx, ok := True, e := s1.e } Q) : SegW P ro ops i b s Q := by
  refine seg_does (C := C) k (fun d h' => d = .tuple [] ∧ h' = upd s1.h r (some ⟨e, rows.take off⟩)) hik ho hg (fun c e => by rw [hop] at e; cases e) he hok hd (fun B g a w hs _ => ?_) (fun d h' ⟨hy, hh⟩ => by subst hy; subst hh; exact hk)
  have hv := ev_rep hs x
  rw [hx] at hv
  obtain ⟨g', w', q1, q2, q3, q4⟩ := clear_sound hs.mem ht hr hz h1 hl hv o.type
  refine ⟨.tuple [], _, ⟨rfl, rfl⟩, .tuple #[], g', w', .inl ?_, .mk_tuple (vs := #[]) .nil, q2, q3, fun r hr => .inl (q4 r hr)⟩
  obtain ⟨od, oo, oty, op, oa, og⟩ := o
  simp only at hop
  subst hop
  simp [Go.BigFrame.execOp_builtin, Go.BigFrame.builtin_clear, q1]
/-- a slice in a slot is written no more, amid a region -/
theorem seg_freezet [Glob P] {s : S} {ops : Array Oper} {i b : Nat} (j r : Nat) {ty : TypeId} {rows : List (List D)} {off len : Nat} (hi : s.t j = .mrow r off len) (hr : s.h r = some ⟨ty, rows⟩) (hl : off + len ≤ rows.length) (hn : nrr rows = true)
    (h : SegW P ro ops i b { n := s.n, t := upd s.t j (.list false ((rows.drop off).take len)), h := upd s.h r none, nx := s.nx, ok := s.ok, e := s.e } Q) : SegW P ro ops i b s Q := by
  intro B g0 g a w0 w hs hm hU
  have mono := frz_mono g r w
  have hst : St P B { n := s.n, t := upd s.t j (.list false ((rows.drop off).take len)), h := upd s.h r none, nx := s.nx, ok := s.ok, e := s.e } (frzMem g r) a w := by
    refine ⟨hs.sz, fun k => ?_, frz_hm hs.mem r, hs.df.later hs.mem mono, Env.later hs.mem mono hs.en, hs.bd⟩
    by_cases e : k = j
    · subst e
      simp only [upd_same]
      have hj := hs.tm k
      rw [hi] at hj
      exact frz_rep hs.mem hr hn hl hj
    · simp only [upd_ne _ _ _ _ e]
      exact (hs.tm k).later hs.mem mono
  exact h B g0 (frzMem g r) a w0 w hst (hm.trans mono) hU
section
variable {C : Con}
/-- A CALL whose arguments keep what is known of their capacities. -/
theorem dw_call0 [Glob P] {s s1 : S} {id : Nat} {ops : Array Oper} (k : Nat) {o : Oper} {f : Operand} {args : Array Operand} {ts : Array TypeId} {fid : FuncId} {first caps xs : List D} (R : D → H → Nat → Prop)
    (ho : ops[k]? = some o) (hop : o.op = .call { callee := .value f, args := args, argTypes := ts }) (hg : o.guard = none)
    (he : execFrom P (words P) C ops.toList s.nx 0 (ops.toList.take k) { n := s.n, t := s.t, h := s.h, nx := s.nx + k, ok := s.ok, e := s.e } = s1) (hok : s1.ok) (hd : dstOk s1.n o.dst = true)
    (hf : s1.ev f = .fn (.func fid) first caps) (hxg : (args.toList.map s1.ev).all sg = true) (hx : (args.toList.map s1.ev).map sd = xs) (hct : RCt P fid (first ++ xs ++ caps) s1.h (s.nx + k) R)
    (hk : ∀ res h' n', R res h' n' → ∃ s2, execFrom P (words P) C ops.toList n' (k + 1) (ops.toList.drop (k + 1)) { n := s1.n, t := s1.put o.dst res, h := h', nx := n' + ops.size, ok := True, e := s1.e } = s2 ∧ s2.ok ∧ Q .normal s2.clear) :
    DW P ro (.region id ops false) Q s := by
  intro B g a w hs hU
  have hlt : k < ops.size := (Array.getElem?_eq_some_iff.1 ho).1
  refine wpIn_region ?_
  have hr : List.range ops.size = List.range' 0 k ++ (k :: List.range' (k + 1) (ops.size - (k + 1))) := by
    rw [List.range_eq_range']
    have : ops.size = k + ((ops.size - (k + 1)) + 1) := by omega
    conv => lhs; rw [this]
    rw [← List.range'_append_1, List.range'_succ]
    simp
  rw [hr]
  have hs0 : St P B { n := s.n, t := s.t, h := s.h, nx := s.nx + k, ok := s.ok, e := s.e } g a w := ⟨hs.sz, hs.tm, hs.mem, hs.df, hs.en, hs.bd⟩
  have e0 : (ops.toList.drop 0).take k = ops.toList.take k := rfl
  refine execSeg_sound (C := C) (b := s.nx) k 0 _ g a w hs0 (Mono.refl _ _) (fun r hr => by have := hU r hr; omega) (by omega) (by rw [e0, he]; exact hok) fun g1 a1 w1 hs1 hm1 hU1 => ?_
  rw [e0, he] at hs1
  rw [wpOpsIn_cons]
  unfold wpOpIn
  rw [ho]
  simp only
  have hw : Region.wanted o (yielded ops a1.tmps) = true := by simp [Region.wanted, hg]
  rw [if_pos hw]
  have hdef : ∀ c, o.op ≠ .defer c := by intro c e; rw [e] at hop; cases hop
  have hsem : o.semAt (Fw ro).round a1.eval = execOp a1.eval o := Oper.semAt_eq _ _ _ hdef
  refine ⟨fun _ _ => trivial, ?_⟩
  rw [hsem]
  obtain ⟨hbd, hct⟩ := hct
  have hfr := ev_rep hs1 f
  rw [hf] at hfr
  have hxr := strips_rep (evs_rep hs1 args.toList) hxg
  rw [hx] at hxr
  generalize hv : a1.eval f = vf at hfr
  cases hfr with | fn _ _ _ fs cs l1 l2 r1 r2 =>
  have hrun : (execOp a1.eval o).run P w1 = .ok (.enter fid (fs ++ args.map a1.eval ++ cs)) w1 := by
    simp [execOp, hop, resolve, Deferred.ofValue, hv, invoke, callFunc_run hbd]
  rw [hrun, Oper.uponIn_enter]
  have e : fs ++ args.map a1.eval ++ cs = (fs.toList ++ args.toList.map a1.eval ++ cs.toList).toArray := by apply Array.ext'; simp
  rw [e]
  refine ⟨fun h => by simp [Fw, Fence.wide] at h, callsIn_Fw ((hct w1 g1 _ hs1.mem (fun r hr => by have := hU1 r hr; omega) (Reps.append (Reps.append ⟨by simpa using l1, fun i d x h1 h2 => r1 i d x h1 (by simpa using h2)⟩ hxr) ⟨by simpa using l2, fun i d x h1 h2 => r2 i d x h1 (by simpa using h2)⟩)).mono ?_)⟩
  rintro e w' ⟨v, g', res, h', n', hR, rfl, q1, q2, q3, q4⟩
  obtain ⟨s2, e2, ok2, hQ⟩ := hk res h' n' hR
  have hs2 := put_st hs1 q3 q2 hd q1 True
  have hs3 : St P B { n := s1.n, t := s1.put o.dst res, h := h', nx := n' + ops.size, ok := True, e := s1.e } g' (a1.put o.dst v) w' := ⟨hs2.sz, hs2.tm, hs2.mem, hs2.df, hs2.en, hs2.bd⟩
  have hnx : ∀ (l : List Oper) (i : Nat) (u : S), (execFrom P (words P) C ops.toList n' i l u).nx = u.nx := by
    intro l
    induction l with
    | nil => intro i u; rfl
    | cons x l ih => intro i u; simp only [execFrom]; rw [ih, exec1_n.2]
  have hex : ∀ (l : List Oper) (i b : Nat) (u : S), (execFrom P (words P) C ops.toList b i l u).e = u.e := by
    intro l
    induction l with
    | nil => intro i b u; rfl
    | cons x l ih =>
      intro i b u
      simp only [execFrom]
      rw [ih]
      unfold exec1
      split <;> rfl
  have e3 : (ops.toList.drop (k + 1)).take (ops.size - (k + 1)) = ops.toList.drop (k + 1) := List.take_of_length_le (by simp)
  have := execSeg_sound (ro := ro) (P := P) (C := C) (B := B) (ops := ops) (b := n') (n := 0) (rest := []) (g0 := g) (w0 := w) (Q := fun e a' w' => ∃ s' g', Q e s' ∧ St P B s' g' a' w' ∧ MonoX s.e.x g g' w w' ∧ (∀ r, g'.U r → r < s'.nx) ∧ s'.e.x = s.e.x) (ops.size - (k + 1)) (k + 1) _ g' _ w' hs3 (hm1.trans q3) (fun r hr => by have := q4 r hr; omega) (by omega)
    (by rw [e3, e2]; exact ok2) fun g'' a'' w'' p1 p2 p3 => by
      rw [e3, e2] at p1
      refine ⟨_, g'', hQ, p1.clear, p2.toX, fun r hr => ?_, ?_⟩
      · have h3 := p3 r hr
        have h4 := hnx (ops.toList.drop (k + 1)) (k + 1) { n := s1.n, t := s1.put o.dst res, h := h', nx := n' + ops.size, ok := True, e := s1.e }
        rw [e2] at h4
        show r < s2.nx
        rw [h4]
        show r < n' + ops.size
        omega
      · have h5 := hex (ops.toList.drop (k + 1)) (k + 1) n' { n := s1.n, t := s1.put o.dst res, h := h', nx := n' + ops.size, ok := True, e := s1.e }
        rw [e2] at h5
        have h6 := hex (ops.toList.take k) 0 s.nx { n := s.n, t := s.t, h := s.h, nx := s.nx + k, ok := s.ok, e := s.e }
        rw [he] at h6
        show s2.e.x = s.e.x
        rw [h5]
        show s1.e.x = s.e.x
        rw [h6]
  rw [List.append_nil] at this
  exact this
end
section
variable [Glob P] (C : Con) {s s1 : S} {id : Nat} {ops : Array Oper} {o : Oper} {f : Operand} {args : Array Operand} {ts : Array TypeId} {fid : FuncId} {first caps xs : List D} {R : D → H → Nat → Prop}
/-- one call that is told by a relation -/
theorem cal0 (k : Nat) (ho : ops[k]? = some o := by exact arr_at rfl) (hop : o.op = .call { callee := .value f, args := args, argTypes := ts } := by exact rfl) (hg : o.guard = none := by exact rfl)
    (he : execFrom P (words P) C ops.toList s.nx 0 (ops.toList.take k) { n := s.n, t := s.t, h := s.h, nx := s.nx + k, ok := s.ok, e := s.e } = s1 := by simp only [List.take_succ_cons, List.take_zero, go_sem, ff]; exact rfl) (hok : s1.ok := by (try simp only [go_sem, ff]); all_goals exact ok0) (hd : dstOk s1.n o.dst = true := by (try simp only [go_sem, ff]); all_goals (first | done | rfl | decide | simp))
    (hf : s1.ev f = .fn (.func fid) first caps := by simp only [go_sem, ff]; exact rfl) (hxg : (args.toList.map s1.ev).all sg = true := by simp only [go_sem, ff]) (hx : (args.toList.map s1.ev).map sd = xs := by simp only [go_sem, ff]; exact rfl) (hct : RCt P fid (first ++ xs ++ caps) s1.h (s.nx + k) R)
    (hk : ∀ res h' n', R res h' n' → Nxt P C ops.toList n' (k + 1) (ops.toList.drop (k + 1)) { n := s1.n, t := s1.put o.dst res, h := h', nx := n' + ops.size, ok := True, e := s1.e } Q) :
    DW P ro (.region id ops false) Q s := dw_call0 k R ho hop hg he hok hd hf hxg hx hct hk
end
end Go.DL
/-
  THE D LAYER, 19: from a contract on plain data to a given row: what arguments read as; a law that answers true. Conditions: none.
-/
namespace Go.DL
open Go.RowKit Go.ChangeShapes Go.WideShapes
variable {P : Program}

/-! ### data of a type -/
def ShSt (Q : TypeId → List D → Prop) : List Field → List D → Prop
  | [], ds => ds = []
  | f :: fs, ds => ∃ a b, ds = a ++ b ∧ Q f.type a ∧ ShSt Q fs b
def Sh (P : Program) [Glob P] : Nat → TypeId → List D → Prop
  | 0, _, _ => False
  | k + 1, t, ds => match P.underlying t with
    | some .bool => ∃ b, ds = [.v (.bool b)]
    | some (.int q) => ∃ n, ds = [.v (.int q n)] ∧ (Lit.int q n).wf = true
    | some .string => ∃ s, ds = [.v (.string s)] ∧ s.size ≤ maxLen
    | some (.slice e) => ∃ rows, ds = [.list false rows] ∧ ∀ r ∈ rows, Sh P k e r
    | some (.struct fs) => ShSt (Sh P k) fs.toList ds
    | _ => False
def shB (P : Program) [Glob P] : Nat → TypeId → Bool
  | 0, _ => false
  | k + 1, t => match P.underlying t with
    | some .bool | some (.int _) | some .string => true
    | some (.slice e) => decide (0 < P.cellsOf e) && decide (e < P.types.size) && shB P k e
    | some (.struct fs) => fs.toList.all fun f => decide (f.type < P.types.size) && shB P k f.type
    | _ => false
/-- cells that stand for data -/
def RepC (w : World) (g : Mem) (ds : List D) (cs : List Value) : Prop := Reps w g ds cs ∧ ∀ v ∈ cs, v.oneCell' = true
theorem RepC.nil {w : World} {g : Mem} : RepC w g [] [] := ⟨.nil, fun v h => by cases h⟩
theorem RepC.one {w : World} {g : Mem} {d : D} {v : Value} (h : Rep w g d v) (h1 : v.oneCell' = true) : RepC w g [d] [v] :=
  ⟨.cons h .nil, fun u hu => by rw [List.mem_singleton] at hu; subst hu; exact h1⟩
theorem RepC.append {w : World} {g : Mem} {ds es : List D} {cs us : List Value} (h : RepC w g ds cs) (k : RepC w g es us) : RepC w g (ds ++ es) (cs ++ us) :=
  ⟨h.1.append k.1, fun v hv => (List.mem_append.1 hv).elim (h.2 v) (k.2 v)⟩
theorem cells_block {w : World} {a : Addr} {v : Value} (h : w.cell? a = some v) : a.block < w.heap.size := by
  unfold World.cell? at h
  split at h
  · rename_i c _ _ hb; exact (Array.getElem?_eq_some_iff.1 hb).1
  · cases h
theorem cells_get {w : World} {base : Nat} {a : Addr} {n : Nat} {cs : List Value} (h : w.cells? base a n = some cs) : cs.length = n ∧ ∀ j, j < n → w.cell? (a.add j) = cs[j]? := by
  unfold World.cells? at h
  split at h
  · have key : ∀ (l : List Nat) (cs : List Value), l.mapM (fun i => w.cell? (a.add i)) = some cs → cs.length = l.length ∧ ∀ (j i : Nat), l[j]? = some i → w.cell? (a.add i) = cs[j]? := by
      intro l
      induction l with
      | nil => intro cs h; simp at h; subst h; exact ⟨rfl, fun j i h => by simp at h⟩
      | cons i l ih =>
        intro cs h
        rw [List.mapM_cons] at h
        cases hc : w.cell? (a.add i) with
        | none => rw [hc] at h; simp at h
        | some v =>
          rw [hc] at h
          simp only [Option.bind_eq_bind, Option.bind_some] at h
          cases hr : l.mapM (fun i => w.cell? (a.add i)) with
          | none => rw [hr] at h; simp at h
          | some r =>
            rw [hr] at h
            simp at h
            subst h
            obtain ⟨h1, h2⟩ := ih r hr
            refine ⟨by simp [h1], fun j i' hj => ?_⟩
            cases j with
            | zero => simp at hj; subst hj; simpa using hc
            | succ j => simp at hj; simpa using h2 j i' hj
    obtain ⟨h1, h2⟩ := key _ _ h
    exact ⟨by simpa using h1, fun j hj => h2 j j (by simp [hj])⟩
  · cases h
theorem take_drop_append {α : Type} (l : List α) (m n : Nat) : (l.drop m).take n ++ (l.drop (m + n)) = l.drop m := by
  rw [← List.drop_drop]; exact List.take_append_drop n (l.drop m)

/-- WHAT IS READ STANDS FOR DATA OF ITS TYPE. -/
theorem reads [Glob P] {H : Type} {enc : TypeId × Value → H} {w : World} {base : Nat} {spare : Nat → Bool} {held : Bool} (hl : laidOutB P = true) :
    ∀ (k : Nat) (t : TypeId) (cs : List Value) (fuel : Nat) (x : DataW H × List MemPlace), t < P.types.size → shB P k t = true → DataW.trod enc P w base spare held fuel t cs = some x →
      ∃ ds, Sh P k t ds ∧ RepC w (noM fun b => b < w.heap.size) ds cs := by
  intro k
  induction k with
  | zero => intro t cs fuel x _ h; cases h
  | succ k ih =>
    intro t cs fuel x htl hs hr
    unfold shB at hs
    unfold Sh
    split at hs
    · rename_i hu
      obtain ⟨b, rfl, _⟩ := DataW.trod_bool hu hr
      exact ⟨_, ⟨b, rfl⟩, .one (.v _) rfl⟩
    · rename_i q hu
      obtain ⟨n, rfl, _, hw⟩ := DataW.trod_int hu hr
      exact ⟨_, ⟨n, rfl, hw⟩, .one (.v _) rfl⟩
    · rename_i hu
      obtain ⟨s, rfl, _, hw⟩ := DataW.trod_string hu hr
      exact ⟨_, ⟨s, rfl, hw⟩, .one (.v _) rfl⟩
    · rename_i e hu
      simp only [Bool.and_eq_true, decide_eq_true_eq] at hs
      obtain ⟨⟨hpos, hel⟩, hs⟩ := hs
      rcases DataW.trod_slice hu hr with ⟨rfl, _⟩ | ⟨a, len, cap, elems, rest, n, _, rfl, _, _, hlc, hcm, hlen, hrd, _, _⟩
      · exact ⟨_, ⟨[], rfl, fun r h => by cases h⟩, .one (.empty false none 0 (fun h => by cases h) (by simp [maxLen])) rfl⟩
      · -- each element
        have hrow : ∀ i, i < len → ∃ ds, Sh P k e ds ∧ ds.length = P.cellsOf e ∧ ∀ (j : Nat) d, ds[j]? = some d → ∃ v, w.cell? (a.add (i * P.cellsOf e + j)) = some v ∧ v.oneCell' = true ∧ Rep w (noM fun b => b < w.heap.size) d v := by
          intro i hi
          have h1 := hrd i hi
          have h2 : elems[i]? = some (elems[i]'(by omega)) := List.getElem?_eq_getElem _
          rw [h2] at h1
          rw [Option.bind_eq_some_iff] at h1
          obtain ⟨cs', hc, ht⟩ := h1
          obtain ⟨hcl, hcg⟩ := cells_get hc
          obtain ⟨ds, hsh, ⟨hrl, hrr⟩, ho⟩ := ih e cs' n _ hel hs ht
          refine ⟨ds, hsh, by rw [hrl, hcl], fun j d hd => ?_⟩
          have hj : j < cs'.length := by rw [← hrl]; exact (List.getElem?_eq_some_iff.1 hd).1
          have hcj := hcg j (by omega)
          rw [add_add'] at hcj
          have hg : cs'[j]? = some (cs'[j]'hj) := List.getElem?_eq_getElem _
          exact ⟨cs'[j]'hj, by rw [hcj, hg], ho _ (List.getElem_mem _), hrr j d _ hd hg⟩
        have hch : ∃ rows : List (List D), rows.length = len ∧ ∀ i r, rows[i]? = some r → Sh P k e r ∧ r.length = P.cellsOf e ∧ ∀ (j : Nat) d, r[j]? = some d → ∃ v, w.cell? (a.add (i * P.cellsOf e + j)) = some v ∧ v.oneCell' = true ∧ Rep w (noM fun b => b < w.heap.size) d v := by
          refine ⟨(List.range len).map fun i => if h : i < len then Classical.choose (hrow i h) else [], by simp, fun i r hr => ?_⟩
          rw [List.getElem?_map] at hr
          by_cases hi : i < len
          · rw [List.getElem?_range hi] at hr
            simp only [Option.map_some, Option.some.injEq] at hr
            rw [dif_pos hi] at hr
            subst hr
            exact Classical.choose_spec (hrow i hi)
          · rw [List.getElem?_eq_none (by simpa using hi)] at hr; cases hr
        obtain ⟨rows, hrl, hrr⟩ := hch
        refine ⟨_, ⟨rows, rfl, fun r h => by obtain ⟨i, hi⟩ := List.getElem?_of_mem h; exact (hrr i r hi).1⟩, .one ?_ rfl⟩
        cases hz : len with
        | zero =>
          subst hz
          have : rows = [] := List.eq_nil_of_length_eq_zero hrl
          subst this
          exact .empty false _ _ (fun h => by cases h) hcm
        | succ m =>
          rw [← hz, ← hrl]
          have hcv : ∀ i j, ∃ u, ∀ row d, rows[i]? = some row → row[j]? = some d → w.cell? (a.add (i * P.cellsOf e + j)) = some u ∧ u.oneCell' = true ∧ Rep w (noM fun b => b < w.heap.size) d u := by
            intro i j
            by_cases hh : ∃ row d, rows[i]? = some row ∧ row[j]? = some d
            · obtain ⟨row, d, q1, q2⟩ := hh
              obtain ⟨u, q3⟩ := (hrr i row q1).2.2 j d q2
              refine ⟨u, fun row' d' q1' q2' => ?_⟩
              rw [q1] at q1'; cases q1'
              rw [q2] at q2'; cases q2'
              exact q3
            · exact ⟨undef, fun row d q1 q2 => absurd ⟨row, d, q1, q2⟩ hh⟩
          have hcs : ∀ i j row d, rows[i]? = some row → row[j]? = some d → w.cell? (a.add (i * P.cellsOf e + j)) = some (Classical.choose (hcv i j)) ∧ (Classical.choose (hcv i j)).oneCell' = true ∧ Rep w (noM fun b => b < w.heap.size) d (Classical.choose (hcv i j)) := fun i j row d h1 h2 => Classical.choose_spec (hcv i j) row d h1 h2
          refine .list false rows a cap (P.cellsOf e) (fun i j => Classical.choose (hcv i j)) ?_ (by omega) (fun h => by cases h) hcm (fun r hr => ?_) (fun i j r d h1 h2 => ⟨(hcs i j r d h1 h2).1, (hcs i j r d h1 h2).2.1⟩) fun i j r d h1 h2 => (hcs i j r d h1 h2).2.2
          · show a.block < w.heap.size
            have h0 : rows[0]? = some (rows[0]'(by omega)) := List.getElem?_eq_getElem _
            obtain ⟨_, q2, q3⟩ := hrr 0 _ h0
            have h1 : (rows[0]'(by omega))[0]? = some ((rows[0]'(by omega))[0]'(by omega)) := List.getElem?_eq_getElem _
            obtain ⟨v, hv, _⟩ := q3 0 _ h1
            have := cells_block hv
            rwa [block_add] at this
          · obtain ⟨i, hi⟩ := List.getElem?_of_mem hr
            exact (hrr i r hi).2.1
    · rename_i fs hu
      obtain ⟨xs, n, _, _, hcl, hxl, hf⟩ := DataW.trod_struct hu hr
      obtain ⟨_, hsum, hoff⟩ := kid_struct hl htl hu
      simp only [List.all_eq_true, Bool.and_eq_true, decide_eq_true_eq] at hs
      have key : ∀ (fl : List Field) (i off : Nat), fs.toList.drop i = fl → off = ((fs.toList.take i).map fun f => P.cellsOf f.type).sum → ∃ ds, ShSt (Sh P k) fl ds ∧ RepC w (noM fun b => b < w.heap.size) ds (cs.drop off) := by
        intro fl
        induction fl with
        | nil =>
          intro i off hd ho
          have hil : fs.toList.length ≤ i := by
            have := congrArg List.length hd
            simp only [List.length_drop, List.length_nil] at this; omega
          have : off = cs.length := by rw [hcl, hsum, ho, List.take_of_length_le hil]
          rw [this, List.drop_length]
          exact ⟨[], rfl, .nil⟩
        | cons f fl ihf =>
          intro i off hd ho
          have hil : i < fs.toList.length := by
            have := congrArg List.length hd
            simp only [List.length_drop, List.length_cons] at this; omega
          have hfi : fs.toList[i]? = some f := by
            have : (fs.toList.drop i)[0]? = some f := by rw [hd]; rfl
            simpa using this
          have hofs := hoff i f hfi
          have hxi : xs[i]? = some (xs[i]'(by rw [hxl]; simpa using hil)) := List.getElem?_eq_getElem _
          have hrd := hf i f (by simpa using hfi)
          rw [hxi, hofs, ← ho] at hrd
          have hmem := List.mem_of_getElem? hfi
          obtain ⟨ds1, h1, h2⟩ := ih f.type _ n _ (hs f hmem).1 (hs f hmem).2 hrd
          have htk : fs.toList.take (i + 1) = fs.toList.take i ++ [f] := by rw [List.take_add_one, hfi]; rfl
          obtain ⟨ds2, h3, h4⟩ := ihf (i + 1) (off + P.cellsOf f.type) (by rw [← List.drop_drop, hd]; rfl) (by rw [htk, List.map_append, List.sum_append, ← ho]; simp)
          refine ⟨ds1 ++ ds2, ⟨ds1, ds2, rfl, h1, h3⟩, ?_⟩
          rw [← take_drop_append cs off (P.cellsOf f.type)]
          exact h2.append h4
      obtain ⟨ds, h1, h2⟩ := key fs.toList 0 0 rfl (by simp)
      exact ⟨ds, h1, by simpa using h2⟩
    · cases hs

/-! ### arguments -/
def shFuel : Nat := 12
def ShV (P : Program) [Glob P] (t : TypeId) (x : D) : Prop := match P.underlying t with
  | some (.struct _) => ∃ cs, x = .agg cs ∧ Sh P shFuel t cs
  | _ => Sh P shFuel t [x]
def ShArgs (P : Program) [Glob P] : List TypeId → List D → Prop
  | [], xs => xs = []
  | t :: ts, xs => ∃ x ys, xs = x :: ys ∧ ShV P t x ∧ ShArgs P ts ys
theorem readV [Glob P] {H : Type} {enc : TypeId × Value → H} {w : World} {spare : Nat → Bool} {held : Bool} {b0 : Nat} {t : TypeId} {v : Value} {d : DataW H} {ps : List MemPlace} (hl : laidOutB P = true) (htl : t < P.types.size) (hs : shB P shFuel t = true) (hv : Value.okWide P w .any b0 t v) (h : DataW.Trod enc P w 0 spare held t v d ps) :
    ∃ x, ShV P t x ∧ Rep w (noM fun b => b < w.heap.size) x v := by
  obtain ⟨fuel, h⟩ := h
  obtain ⟨ds, h1, h2⟩ := reads hl shFuel t v.cells.toList fuel _ htl hs h
  have one : v.cells = #[v] → ShV P t (ds.headD .junk) ∧ Rep w (noM fun b => b < w.heap.size) (ds.headD .junk) v ∨ (∃ fs, P.underlying t = some (.struct fs)) := by
    intro hc
    rw [hc] at h2
    have hlen : ds.length = 1 := h2.1.1
    match ds, hlen with
    | [x], _ =>
      by_cases hst : ∃ fs, P.underlying t = some (.struct fs)
      · exact .inr hst
      · refine .inl ⟨?_, h2.1.head⟩
        unfold ShV
        split
        · rename_i fs hu; exact absurd ⟨fs, hu⟩ hst
        · exact h1
  unfold shFuel shB at hs
  split at hs
  · rename_i hu
    obtain ⟨b, rfl⟩ := okWide_bool hu hv
    rcases one rfl with h | ⟨fs, h⟩
    · exact ⟨_, h⟩
    · rw [hu] at h; cases h
  · rename_i q hu
    obtain ⟨n, rfl⟩ := okWide_int hu hv
    rcases one rfl with h | ⟨fs, h⟩
    · exact ⟨_, h⟩
    · rw [hu] at h; cases h
  · rename_i hu
    obtain ⟨s, rfl⟩ := okWide_string hu hv
    rcases one rfl with h | ⟨fs, h⟩
    · exact ⟨_, h⟩
    · rw [hu] at h; cases h
  · rename_i e hu
    obtain ⟨a, len, cap, rfl⟩ := okWide_slice hu hv
    rcases one rfl with h | ⟨fs, h⟩
    · exact ⟨_, h⟩
    · rw [hu] at h; cases h
  · rename_i fs hu
    obtain ⟨cs, rfl, _⟩ := okWide_struct hu hv
    refine ⟨.agg ds, ?_, .mk_agg ?_⟩
    · unfold ShV; rw [hu]; exact ⟨ds, rfl, h1⟩
    · have : (Value.agg cs).cells = cs := rfl
      rw [this] at h2
      exact h2.1
  · cases hs
theorem readAll [Glob P] {H : Type} {enc : TypeId × Value → H} {w : World} {spare : Nat → Bool} {held : Bool} {b0 : Nat} (hl : laidOutB P = true) : ∀ (ts : List TypeId) (vs : List Value) (ds : List (DataW H)) (ps : List MemPlace), (∀ t ∈ ts, t < P.types.size ∧ shB P shFuel t = true) →
    (∀ (j : Nat) t v, ts[j]? = some t → vs[j]? = some v → Value.okWide P w .any b0 t v) → DataW.TrodAll enc P w 0 spare held ts vs ds ps → ∃ xs, ShArgs P ts xs ∧ Reps w (noM fun b => b < w.heap.size) xs vs
  | [], [], [], _, _, _, _ => ⟨[], rfl, .nil⟩
  | t :: ts, v :: vs, d :: ds, ps, ht, hv, ⟨p, q, h1, h2, _⟩ => by
    obtain ⟨x, hx1, hx2⟩ := readV hl (ht t (by simp)).1 (ht t (by simp)).2 (hv 0 t v rfl rfl) h1
    obtain ⟨xs, hy1, hy2⟩ := readAll hl ts vs ds q (fun t' h => ht t' (by simp [h])) (fun j t' v' e1 e2 => hv (j + 1) t' v' (by simpa using e1) (by simpa using e2)) h2
    exact ⟨x :: xs, ⟨x, xs, rfl, hx1, hy1⟩, .cons hx2 hy2⟩

/-! ### behind the call -/
theorem bel_kept {W W' : World} (hb : Bel W W') (may : MemPlace → Prop) : W.keptBut W' may := by
  refine ⟨hb.os, hb.output, fun i hi => ?_⟩
  rw [hb.block i hi]
  cases h : W.heap[i]? with
  | none => trivial
  | some o =>
    cases o <;> first
      | exact ⟨rfl, rfl, rfl, fun _ _ => rfl⟩
      | exact .inr ⟨rfl, rfl⟩
      | rfl
theorem trodAll_stays [Glob P] {H : Type} {enc : TypeId × Value → H} {W W' : World} (hl : laidOutB P = true) (hb : Bel W W') : ∀ (ts : List TypeId) (vs : List Value) (ds : List (DataW H)) (ps : List MemPlace), (∀ t ∈ ts, P.readableRec t = true ∧ t < P.types.size) →
    DataW.TrodAll enc P W 0 (fun _ => true) true ts vs ds ps → (∀ x ∈ ps, x.block < W.heap.size) → ∀ sp : Nat → Bool, (∀ x ∈ ps, sp x.block = true) → DataW.TrodAll enc P W' 0 sp true ts vs ds ps
  | [], [], [], _, _, h, _, _, _ => h
  | t :: ts, v :: vs, d :: ds, ps, ht, ⟨p, q, h1, h2, e⟩, hlt, sp, hsp => by
    subst e
    have hbe : Below W.heap.size W W' := ⟨hb.os, hb.tape, hb.output, hb.size, hb.block⟩
    exact ⟨p, q, WideElems.Trod_stays hl (ht t (by simp)).1 (ht t (by simp)).2 h1 (fun x hx => hbe.same (hlt x (List.mem_append_left _ hx))) (fun x hx => hsp x (List.mem_append_left _ hx)),
      trodAll_stays hl hb ts vs ds q (fun t' h => ht t' (by simp [h])) h2 (fun x hx => hlt x (List.mem_append_right _ hx)) sp (fun x hx => hsp x (List.mem_append_right _ hx)), rfl⟩
/-- A LAW THAT ANSWERS TRUE, and leaves memory alone. -/
theorem law_contract_g [Glob P] {H : Type} {enc : TypeId × Value → H} {f : FuncId} {fn : Func} {s : ChangeSpec} {tb : TypeId} {apart fresh handsOn again : Bool} (hl : laidOutB P = true) (hvars : s.vars = []) (hrt : fn.resultTypes = #[tb]) (hbool : P.underlying tb = some .bool)
    (hpar : (fn.params.toList.all fun t => P.readableRec t && decide (t < P.types.size) && shB P shFuel t) = true)
    (hfn : ∀ ds : List (DataW H), ds.length = fn.params.toList.length → s.fn H ds = { results := [.lit (.bool true)], args := ds })
    (hct : ∀ xs : List D, ShArgs P fn.params.toList xs → PureCt P f xs (.b true)) :
    ∀ (W : World) (base : Nat) (args : Array Value) (ds gs : List (DataW H)) (before : List MemPlace), Gr P (fun b => b < W.heap.size) W → (∀ (j : Nat) t v, fn.params[j]? = some t → args[j]? = some v → Value.okWide P W .any base t v) →
      DataW.Whole enc P fn.params.toList s.vars apart W args.toList ds gs before →
      Calls P f args W fun e W' => ∃ v, e = .returned v ∧ s.post enc P fn apart fresh handsOn again W args v W' := by
  intro W base args ds gs before hgr hval hW
  simp only [List.all_eq_true, Bool.and_eq_true, decide_eq_true_eq] at hpar
  have hW' := hW
  obtain ⟨p, q, hA, hV, hpq, hfz, hnd⟩ := hW
  rw [hvars] at hV
  obtain ⟨rfl, rfl⟩ : gs = [] ∧ q = [] := by
    cases gs with
    | nil => exact ⟨rfl, hV⟩
    | cons g gs => exact False.elim hV
  rw [List.append_nil] at hpq
  obtain ⟨xs, hx1, hx2⟩ := readAll hl _ _ _ _ (fun t ht => ⟨(hpar t ht).1.2, (hpar t ht).2⟩) (fun j t v h1 h2 => hval j t v (by simpa using h1) (by simpa using h2)) hA
  obtain ⟨_, _, hct⟩ := hct xs hx1
  have hlen : ∀ {ts : List TypeId} {vs : List Value} {ds : List (DataW H)} {ps : List MemPlace}, DataW.TrodAll enc P W 0 (fun _ => true) true ts vs ds ps → ds.length = ts.length := by
    intro ts
    induction ts with
    | nil => intro vs ds ps h; cases vs <;> cases ds <;> first | rfl | exact False.elim h
    | cons t ts ih =>
      intro vs ds ps h
      cases vs <;> cases ds <;> first | exact False.elim h | skip
      obtain ⟨_, _, _, h2, _⟩ := h
      simp [ih h2]
  have hres := hfn ds (hlen hA)
  have := callsIn_wide.1 (hct W (fun b => b < W.heap.size) _ (fun b h => h) hgr hx2)
  have ea : args.toList.toArray = args := by simp
  rw [ea] at this
  refine this.mono ?_
  rintro e W' ⟨v, rfl, hb, hv⟩
  rw [hv.v_inv]
  refine ⟨_, rfl, ?_⟩
  have hlt : ∀ x ∈ before, x.block < W.heap.size := fun x hx => hW'.lt x hx
  have hsp : ∀ sp : Nat → Bool, (∀ x ∈ before, sp x.block = true) → DataW.TrodAll enc P W' 0 sp true fn.params.toList args.toList ds before := by
    intro sp h
    rw [hpq] at h hlt ⊢
    exact trodAll_stays hl hb _ _ _ _ (fun t ht => (hpar t ht).1) hA hlt sp h
  have hfn' : s.fn H (ds ++ []) = { results := [.lit (.bool true)], args := ds } := by rw [List.append_nil]; exact hres
  have hrs : ∀ (b : Nat) (sp : Nat → Bool) (hd : Bool), DataW.TrodAll enc P W' b sp hd fn.resultTypes.toList ((Value.bool true).resultList fn.resultTypes.size) [.lit (.bool true)] [] := by
    intro b sp hd
    rw [hrt]
    exact trodAll_cons_mk (shut_bool hbool _) trodAll_mk0
  have hold : ∀ x ∈ before, (fun b => decide (b < W.heap.size)) x.block = true := fun x hx => by simpa using hlt x hx
  have hvs : ∀ sp : Nat → Bool, DataW.TrodVars enc P W' sp s.vars [] [] := fun sp => by rw [hvars]; exact rfl
  have hfz' : ∀ x ∈ before, ∀ b off, x = MemPlace.cell b off → W'.frozen? ⟨b, off, none⟩ = false := by
    intro x hx b off e
    subst e
    have hbl : b < W.heap.size := hlt _ hx
    have e2 : W'.frozen? ⟨b, off, none⟩ = W.frozen? ⟨b, off, none⟩ := World.frozen?_of_block (hb.block b hbl)
    rw [e2]
    exact hfz b off hx
  unfold ChangeSpec.post
  refine ⟨ds, [], before, [], before, [], hW', ?_, ?_, ?_, World.keptBut_mono (fun x hx => ⟨hx, .inr (.inl hx)⟩) (bel_kept hb (· ∈ before)), fun _ => ⟨?_, ?_⟩⟩
  · rw [hfn']; exact hrs _ _ _
  · rw [hfn']; exact hsp _ hold
  · rw [hfn']; exact hvs _
  · exact ok_one hrt rfl (okWide_bool_mk hbool _)
  · refine ⟨_, [], ([] ++ before) ++ [], ⟨[] ++ before, [], trodAll_append (hsp _ fun _ _ => rfl) (hrs _ _ _), hvs _, rfl, ?_, ?_⟩, ?_⟩
    · intro b off hx
      exact hfz' _ (by simpa using hx) b off rfl
    · intro ha
      simpa using hnd ha
    · intro x hx _
      simpa using hx
end Go.DL
/-
  THE D LAYER, 21: package-level variables that a row lists: what their cells hold. Conditions: none.
-/
set_option linter.unusedVariables false
set_option linter.unusedSimpArgs false
namespace Go.DL
open Go.RowKit Go.ChangeShapes Go.WideShapes
variable {P : Program}

def litV : Lit → Value
  | .bool b => .bool b
  | .int k n => .int k n
  | .string s => .string ⟨s.toArray⟩
  | _ => undef
/-- the cells that a datum stands for -/
def litCells {H : Type} : Nat → DataW H → List Value
  | 0, _ => []
  | k + 1, d => match d with
    | .lit l => [litV l]
    | .agg ds => ds.flatMap (litCells k)
    | _ => []
def litB (P : Program) : Nat → TypeId → Bool
  | 0, _ => false
  | k + 1, t => match P.underlying t with
    | some .bool | some (.int _) | some .string => true
    | some (.array _ e) => decide (e < P.types.size) && litB P k e
    | some (.struct fs) => fs.toList.all fun f => decide (f.type < P.types.size) && litB P k f.type
    | _ => false
theorem lits {H : Type} {enc : TypeId × Value → H} {w : World} {base : Nat} {spare : Nat → Bool} {held : Bool} (hl : laidOutB P = true) :
    ∀ (k : Nat) (t : TypeId) (cs : List Value) (fuel : Nat) (x : DataW H × List MemPlace), t < P.types.size → litB P k t = true → DataW.trod enc P w base spare held fuel t cs = some x → cs = litCells k x.1 := by
  intro k
  induction k with
  | zero => intro t cs fuel x _ h; cases h
  | succ k ih =>
    intro t cs fuel x htl hs hr
    unfold litB at hs
    split at hs
    · rename_i hu
      obtain ⟨b, rfl, rfl⟩ := DataW.trod_bool hu hr
      rfl
    · rename_i q hu
      obtain ⟨n, rfl, rfl, _⟩ := DataW.trod_int hu hr
      rfl
    · rename_i hu
      obtain ⟨s, rfl, rfl, _⟩ := DataW.trod_string hu hr
      show [Value.string s] = [Value.string ⟨s.data.toList.toArray⟩]
      simp
    · rename_i n e hu
      simp only [Bool.and_eq_true, decide_eq_true_eq] at hs
      obtain ⟨xs, m, _, rfl, hcl, hxl, hel⟩ := DataW.trod_array hu hr
      obtain ⟨_, hcn⟩ := kid_array hl htl hu
      have key : ∀ (j i : Nat), i + j = n → cs.drop (i * P.cellsOf e) = ((xs.drop i).map (·.1)).flatMap (litCells k) := by
        intro j
        induction j with
        | zero =>
          intro i hi
          have hi' : i = n := by omega
          subst hi'
          rw [← hcn, ← hcl, List.drop_length, ← hxl, List.drop_length]
          rfl
        | succ j ihj =>
          intro i hi
          have hlt : i < xs.length := by omega
          have h1 := hel i (by omega)
          rw [List.getElem?_eq_getElem hlt] at h1
          have h2 := ih e _ m _ hs.1 hs.2 h1
          have h3 := ihj (i + 1) (by omega)
          have e1 : (i + 1) * P.cellsOf e = i * P.cellsOf e + P.cellsOf e := by rw [Nat.succ_mul]
          rw [e1] at h3
          rw [List.drop_eq_getElem_cons hlt, List.map_cons, List.flatMap_cons, ← h3, ← h2]
          exact (take_drop_append cs _ _).symm
      have := key n 0 (by omega)
      simpa [litCells] using this
    · rename_i fs hu
      obtain ⟨xs, n, _, rfl, hcl, hxl, hf⟩ := DataW.trod_struct hu hr
      obtain ⟨_, hsum, hoff⟩ := kid_struct hl htl hu
      simp only [List.all_eq_true, Bool.and_eq_true, decide_eq_true_eq] at hs
      have hxl' : xs.length = fs.toList.length := by simpa using hxl
      have key : ∀ (j i : Nat), i + j = fs.toList.length → cs.drop ((fs.toList.take i).map fun f => P.cellsOf f.type).sum = ((xs.drop i).map (·.1)).flatMap (litCells k) := by
        intro j
        induction j with
        | zero =>
          intro i hi
          have hi' : i = fs.toList.length := by omega
          subst hi'
          rw [List.take_length, ← hsum, ← hcl, List.drop_length, ← hxl', List.drop_length]
          rfl
        | succ j ihj =>
          intro i hi
          have hlt : i < fs.toList.length := by omega
          have hltx : i < xs.length := by omega
          have hfi : fs.toList[i]? = some fs.toList[i] := List.getElem?_eq_getElem hlt
          have h1 := hf i fs.toList[i] (by simp)
          rw [hoff i _ hfi, List.getElem?_eq_getElem hltx] at h1
          have hm := hs _ (List.getElem_mem hlt)
          have h2 := ih _ _ n _ hm.1 hm.2 h1
          have h3 := ihj (i + 1) (by omega)
          have htk : fs.toList.take (i + 1) = fs.toList.take i ++ [fs.toList[i]] := by rw [List.take_add_one, hfi]; rfl
          rw [htk, List.map_append, List.sum_append] at h3
          simp only [List.map_cons, List.map_nil, List.sum_cons, List.sum_nil, Nat.add_zero] at h3
          rw [List.drop_eq_getElem_cons hltx, List.map_cons, List.flatMap_cons, ← h3, ← h2]
          exact (take_drop_append cs _ _).symm
      have := key fs.toList.length 0 (by omega)
      simpa [litCells] using this
    · cases hs
/-- WHAT A LISTED VARIABLE's CELLS HOLD: one variable. -/
theorem laid_one [Glob P] {nm : String} {d : DataW Unit} {W : World} {g : Nat} {t : TypeId} {k : Nat} {cells : List Value} (hl : laidOutB P = true) (hplain : ([(nm, d)].all fun x => x.2.handleName?.isNone) = true)
    (hg : P.globalNamed nm = some g) (ht : (P.globals[g]?).map (·.type) = some t) (htl : t < P.types.size) (hb : litB P k t = true) (hc : litCells k d = cells) (hgl : ∀ x cs, Glob.tab P x = some cs → x = g ∧ cs = cells) (hsz : 0 < cells.length)
    (h : laidMetH P [(nm, d)] W) : Gr P (fun b => b < W.heap.size) W := by
  rw [MakeChecks.laidMetH_plain _ _ _ hplain] at h
  obtain ⟨ps, ⟨g0, t0, cs, fuel, p, q, hg0, ht0, hv, hd, _, _⟩, _, _⟩ := h
  obtain rfl := Option.some.inj (hg.symm.trans hg0)
  obtain rfl := Option.some.inj (ht.symm.trans ht0)
  have hcs := lits hl k t _ _ _ htl hb hd
  rw [show litCells k (d, p).1 = cells from hc] at hcs
  intro x cs' hx
  obtain ⟨rfl, rfl⟩ := hgl x cs' hx
  have hcell := fun j => World.var?_cell hg0 hv j
  have hj : ∀ (j : Nat) v, cs'[j]? = some v → W.cell? ⟨x, j, none⟩ = some v := by
    intro j v hv'
    rw [hcell j]
    obtain ⟨l⟩ := cs
    simp only at hcs
    subst hcs
    simp [hv']
  refine ⟨?_, hj⟩
  have h0 : cs'[0]? = some (cs'[0]'hsz) := List.getElem?_eq_getElem hsz
  have := cells_block (hj 0 _ h0)
  exact this
end Go.DL
/-
  MADE BY A PROGRAM OF MINE: what the functions that leave memory alone give. Conditions: none.
-/
namespace Go.Proofs.YtfggmgafjabbjaaGreatDoor
open Go.DL Go.Str Go.Rec Go.Zon
set_option linter.unusedVariables false
def Kn : Con where
  pure := fun k => [176, 169, 153, 114, 113, 81, 123, 90, 115, 171, 155, 122, 120, 125, 127, 172, 116, 156, 173, 126, 159, 124, 91, 128, 110, 157, 150, 119, 129, 118, 158, 130, 93, 83, 117, 85, 63, 165, 141, 102, 84, 82, 101, 92, 103, 86, 104, 89, 61, 111, 20, 60, 18, 100, 99, 46, 47, 48, 50, 51, 52, 53, 49, 14, 13, 59, 32, 33, 34, 151, 121, 87, 35, 88, 36, 11, 17, 9, 65, 64, 16, 54, 23, 22, 25, 24, 67, 41, 112, 66, 78, 79, 80, 77, 27, 10, 21, 26, 30, 29, 31, 97, 98, 45, 62, 19, 38, 105, 106, 58, 56, 57, 40, 68, 44, 76, 69, 75, 55, 73, 39, 43, 96, 72, 109, 37, 15, 12, 28, 8, 5, 6, 7].contains k
  pf := fun k xs => match k, xs with
    | 176, [x0, x1] => .i (lastIx (str1 x0) (int1 x1))
    | 169, [x0, x1] => .i (lastIx (str1 x0) (int1 x1))
    | 153, [x0] => .b (labelOk (str1 x0))
    | 114, [x0] => .b (labelOk (str1 x0))
    | 113, [x0] => .list false ((splitF (str1 x0)).map sR)
    | 81, [x0] => .b (nameOk (str1 x0))
    | 123, [x0] => .b (nameOk (str1 x0))
    | 90, [x0] => .b (nameOk (str1 x0))
    | 115, [x0] => .list false ((partsOf (str1 x0)).map sR)
    | 171, [x0, x1] => .i (Go.Lib.compareBytes (str1 x0) (str1 x1))
    | 155, [x0, x1] => .i (Go.Lib.compareBytes (str1 x0) (str1 x1))
    | 122, [x0, x1] => .i (nmOrd (str1 x0) (str1 x1))
    | 120, [x0, x1] => .tuple [.i (if nameOk (str1 x0) && nameOk (str1 x1) then nmCmp (str1 x0) (str1 x1) else 0), .i (if nameOk (str1 x0) && nameOk (str1 x1) then 0 else 11)]
    | 125, [x0, x1] => .tuple [.i (if nameOk (str1 x0) && nameOk (str1 x1) then nmCmp (str1 x0) (str1 x1) else 0), .i (if nameOk (str1 x0) && nameOk (str1 x1) then 0 else 11)]
    | 127, [x0, x1, x2] => .b (inR (int1 x0) (int1 x1) (int1 x2))
    | 172, [x0, x1, x2] => .b (inR (int1 x0) (int1 x1) (int1 x2))
    | 116, [x0, x1, x2] => .b (inR (int1 x0) (int1 x1) (int1 x2))
    | 156, [x0] => .b ((int1 x0) != (int1 x0))
    | 173, [x0] => .b ((str1 x0) != (str1 x0))
    | 126, [x0, x1] => .i (cmpI (int1 x0) (int1 x1))
    | 159, [x0, x1] => .i (cmpS (str1 x0) (str1 x1))
    | 124, [x0, x1] => .b (hasPre (str1 x0) (str1 x1))
    | 91, [x0, x1] => .b (hasPre (str1 x0) (str1 x1))
    | 128, [x0] => .b (wildB (str1 x0))
    | 110, [x0] => .b (wildB (str1 x0))
    | 157, [x0] => .b (freeB (str1 x0))
    | 150, [x0] => .b (freeB (str1 x0))
    | 119, [x0, x1] => .b (less (dat1 x0) (dat1 x1))
    | 129, [x0, x1] => .b (datOk (rule1 x0) (dat1 x1))
    | 118, [x0, x1] => .b (rDatOk (int1 x0) (dat1 x1))
    | 158, [x0] => .i (orFrom (ints1 x0) 0)
    | 130, [x0, x1] => .i (datC (dat1 x0) (dat1 x1))
    | 93, [x0] => .b (setOk (set1 x0))
    | 83, [x0] => .b (setOk (set1 x0))
    | 117, [x0] => .b (singleB (int1 x0))
    | 85, [x0, x1] => .i (rOrd (set1 x0) (set1 x1))
    | 63, [x0, x1] => .b (sameB (set1 x0) (set1 x1))
    | 165, [x0, x1] => .b (hasSuf (str1 x0) (str1 x1))
    | 141, [x0, x1] => .b (hasSuf (str1 x0) (str1 x1))
    | 102, [x0, x1] => .tuple [.b (underV (str1 x0) (str1 x1)), .i (if nameOk (str1 x0) && nameOk (str1 x1) then 0 else 11)]
    | 84, [x0, x1] => .b (inB (str1 x0) (str1 x1))
    | 82, [x0] => .b (wild1 (str1 x0))
    | 101, [x0, x1, x2, x3] => .i (qC ⟨(str1 x0), (int1 x1)⟩ ⟨(str1 x2), (int1 x3)⟩)
    | 92, [x0, x1] => .i (qC (qst1 x0) (qst1 x1))
    | 103, [x0, x1] => .b (fits (int1 x0) (bool1 x1))
    | 86, [x0, x1] => .b (fits (int1 x0) (bool1 x1))
    | 104, [x0, x1] => .b (sigsOk (sigs1 x0) (str1 x1))
    | 89, [x0, x1] => .b (sigsOk (sigs1 x0) (str1 x1))
    | 61, [x0] => .b (qOk (qst1 x0))
    | 111, [x0] => .b (qOk (qst1 x0))
    | 20, [x0, x1] => .b (sameSgd (sgd1 x0) (sgd1 x1))
    | 60, [x0, x1] => .b (sameList (sgds1 x0) (sgds1 x1))
    | 18, [x0, x1] => .b (sameZ (zon1 x0) (zon1 x1))
    | 100, [x0, x1] => .i (qC (sgd1 x0).q (qst1 x1))
    | 99, [x0, x1, x2] => .tuple [.i (findIx (sgds1 x0) (qst1 x1)), .b (findOk (sgds1 x0) (qst1 x1))]
    | 46, [x0, x1] => .tuple [.i (findIx (zon1 x0).sets (qst1 x1)), .b (findOk (zon1 x0).sets (qst1 x1))]
    | 47, [x0] => .b (ordered (zon1 x0))
    | 48, [x0] => .b (apexHolds (zon1 x0))
    | 50, [x0] => .b (aliasB (lay1 x0))
    | 51, [x0] => .b (cutB (lay1 x0))
    | 52, [x0] => .b (glueB (lay1 x0))
    | 53, [x0] => .b (formB (lay1 x0))
    | 49, [x0] => .agg (layOf (zon1 x0)).d
    | 14, [x0] => .b (zoneOk (zon1 x0))
    | 13, [x0] => .tuple [.i (if zoneOk (zon1 x0) then serialOf (zon1 x0) else 0), .i (if zoneOk (zon1 x0) then 0 else 1)]
    | 59, [x0, x1] => .i (atF (zon1 x0).sets (qst1 x1))
    | 32, [x0] => .b (oneB (zon1 x0))
    | 33, [x0] => .b (twoB (zon1 x0))
    | 34, [x0] => .b (threeB (zon1 x0))
    | 151, [x0] => .list false ((cutsF (zon1 x0)).map sR)
    | 121, [x0] => .list false ((highF (zon1 x0)).map sR)
    | 87, [x0] => .list false ((behR (zon1 x0)).map sR)
    | 35, [x0] => .b (fourB (zon1 x0))
    | 88, [x0] => .list false ((ownF (zon1 x0)).map bR)
    | 36, [x0] => .b (fiveB (zon1 x0))
    | 11, [x0] => .b (refOk (zon1 x0))
    | 17, [x0] => .i (serialR (zon1 x0))
    | 9, [x0] => .b (fewZ (zon1 x0))
    | 65, [x0] => .b (serB (int1 x0))
    | 64, [x0] => .b (serB (int1 x0))
    | 16, [x0, x1] => .b (befB (int1 x0) (int1 x1))
    | 54, [x0, x1] => .b (befB (int1 x0) (int1 x1))
    | 23, [x0, x1] => .tuple [.b (lessF (int1 x0) (int1 x1)).1, .i (lessF (int1 x0) (int1 x1)).2]
    | 22, [x0, x1] => .tuple [.b (lessF (int1 x0) (int1 x1)).1, .i (lessF (int1 x0) (int1 x1)).2]
    | 25, [x0] => .tuple [.i (afterF (int1 x0)).1, .i (afterF (int1 x0)).2]
    | 24, [x0] => .tuple [.i (afterF (int1 x0)).1, .i (afterF (int1 x0)).2]
    | 67, [x0] => .agg (sgd1 x0).q.d
    | 41, [x0] => .agg (sgd1 x0).q.d
    | 112, [x0, x1] => .i (qO (qst1 x0) (qst1 x1))
    | 66, [x0, x1] => .i (atF (sgds1 x0) (qst1 x1))
    | 78, [x0, x1] => .b (askB (qsts1 x0) (qst1 x1))
    | 79, [x0, x1] => .list false ((sortedF (sgds1 x0) (sgd1 x1)).map Sgd.d)
    | 80, [x0, x1] => .list false ((addF (qsts1 x0) (qst1 x1)).map Qst.d)
    | 77, [x0] => .b (dltOk (dlt1 x0))
    | 27, [x0, x1] => .b (sameD (dlt1 x0) (dlt1 x1))
    | 10, [x0] => .b (fewD (dlt1 x0))
    | 21, [x0, x1, x2, x3] => .b (fewAll (zon1 x0) (zon1 x1) (dlt1 x2) (dlt1 x3))
    | 26, [x0, x1] => .tuple [.agg (diffR (zon1 x0) (zon1 x1)).1.d, .i (diffR (zon1 x0) (zon1 x1)).2]
    | 30, [x0, x1] => .tuple [.agg (applyR (zon1 x0) (dlt1 x1)).1.d, .i (applyR (zon1 x0) (dlt1 x1)).2]
    | 29, [x0, x1] => .tuple [.agg (joinR (dlt1 x0) (dlt1 x1)).1.d, .i (joinR (dlt1 x0) (dlt1 x1)).2]
    | 31, [x0, x1] => .agg (smallZ (int1 x0) (str1 x1)).d
    | 97, [x0] => .list false ((dats1 x0).map Dat.d)
    | 98, [x0] => .list false ((sigs1 x0).map RSig.d)
    | 45, [x0] => .agg (sgd1 x0).d
    | 62, [x0] => .agg (sgd1 x0).d
    | 19, [x0, x1] => .tuple [.agg (findR (zon1 x0) (qst1 x1)).1.d, .b (findR (zon1 x0) (qst1 x1)).2.1, .i (findR (zon1 x0) (qst1 x1)).2.2]
    | 38, [x0] => .fmap (kvP (mapP (sgds1 x0)))
    | 105, [x0, x1] => .b (eqDat (dats1 x0) (dats1 x1))
    | 106, [x0, x1] => .b (eqSig (sigs1 x0) (sigs1 x1))
    | 58, [x0, x1] => .b (sameX (sgd1 x0) (sgd1 x1))
    | 56, [x0, x1] => .tuple [.agg (sgd1 x0).q.d, .b (newB (mapc1 x1) (sgd1 x0).q)]
    | 57, [x0, x1] => .tuple [.agg (sgd1 x0).d, .b (diffS (pget (mapc1 x1) (sgd1 x0).q) (sgd1 x0))]
    | 40, [x0, x1] => .tuple [.agg (sgd1 x0).d, .b (newB (mapc1 x1) (sgd1 x0).q)]
    | 68, [x0, x1] => .tuple [.agg (sgd1 x0).d, .b (newB (mapc1 x1) (sgd1 x0).q)]
    | 44, [x0] => .tuple [.agg (sgd1 x0).d, .b true]
    | 76, [x0] => .tuple [.agg (sgd1 x0).d, .b true]
    | 69, [x0] => .agg (qst1 x0).d
    | 75, [x0, x1] => .tuple [.agg (qst1 x0).d, .b (newB (mapc1 x1) (qst1 x0))]
    | 55, [x0, x1] => .list false (((sgds1 x0).filterMap (d1S (capm1 x1))).map Qst.d)
    | 73, [x0, x1] => .list false (((qsts1 x0).filterMap (j3S (capm1 x1))).map Qst.d)
    | 39, [x0, x1] => .list false (((sgds1 x0).filterMap (semS (x1))).map Sgd.d)
    | 43, [x0] => .fn (.func 96) [] [.eptr [.fn (.func 41) [] []]]
    | 96, [x0, x1, x2] => .i (qC (sgd1 x0).q (sgd1 x1).q)
    | 72, [x0] => .fn (.func 109) [] [.eptr [.fn (.func 69) [] []]]
    | 109, [x0, x1, x2] => .i (qC (qst1 x0) (qst1 x1))
    | 37, [x0] => .b (dltOk (dlt1 x0))
    | 15, [x0, x1] => .tuple [.agg (diffP (zon1 x0) (zon1 x1)).1.d, .i (diffP (zon1 x0) (zon1 x1)).2]
    | 12, [x0, x1] => .tuple [.agg (applyP (zon1 x0) (dlt1 x1)).1.d, .i (applyP (zon1 x0) (dlt1 x1)).2]
    | 28, [x0, x1] => .tuple [.agg (joinP (dlt1 x0) (dlt1 x1)).1.d, .i (joinP (dlt1 x0) (dlt1 x1)).2]
    | 8, [] => .b true
    | 5, [x0, x1, x2, x3, x4, x5] => .b true
    | 6, [x0, x1, x2] => .b true
    | 7, [x0, x1, x2] => .b true
    | _, _ => .junk
@[go_sem] theorem knp176 : Kn.pure 176 = true := rfl
@[go_sem] theorem knf176 {x0 x1 : D} : Kn.pf 176 [x0, x1] = .i (lastIx (str1 x0) (int1 x1)) := rfl
@[go_sem] theorem knp169 : Kn.pure 169 = true := rfl
@[go_sem] theorem knf169 {x0 x1 : D} : Kn.pf 169 [x0, x1] = .i (lastIx (str1 x0) (int1 x1)) := rfl
@[go_sem] theorem knp153 : Kn.pure 153 = true := rfl
@[go_sem] theorem knf153 {x0 : D} : Kn.pf 153 [x0] = .b (labelOk (str1 x0)) := rfl
@[go_sem] theorem knp114 : Kn.pure 114 = true := rfl
@[go_sem] theorem knf114 {x0 : D} : Kn.pf 114 [x0] = .b (labelOk (str1 x0)) := rfl
@[go_sem] theorem knp113 : Kn.pure 113 = true := rfl
@[go_sem] theorem knf113 {x0 : D} : Kn.pf 113 [x0] = .list false ((splitF (str1 x0)).map sR) := rfl
@[go_sem] theorem knp81 : Kn.pure 81 = true := rfl
@[go_sem] theorem knf81 {x0 : D} : Kn.pf 81 [x0] = .b (nameOk (str1 x0)) := rfl
@[go_sem] theorem knp123 : Kn.pure 123 = true := rfl
@[go_sem] theorem knf123 {x0 : D} : Kn.pf 123 [x0] = .b (nameOk (str1 x0)) := rfl
@[go_sem] theorem knp90 : Kn.pure 90 = true := rfl
@[go_sem] theorem knf90 {x0 : D} : Kn.pf 90 [x0] = .b (nameOk (str1 x0)) := rfl
@[go_sem] theorem knp115 : Kn.pure 115 = true := rfl
@[go_sem] theorem knf115 {x0 : D} : Kn.pf 115 [x0] = .list false ((partsOf (str1 x0)).map sR) := rfl
@[go_sem] theorem knp171 : Kn.pure 171 = true := rfl
@[go_sem] theorem knf171 {x0 x1 : D} : Kn.pf 171 [x0, x1] = .i (Go.Lib.compareBytes (str1 x0) (str1 x1)) := rfl
@[go_sem] theorem knp155 : Kn.pure 155 = true := rfl
@[go_sem] theorem knf155 {x0 x1 : D} : Kn.pf 155 [x0, x1] = .i (Go.Lib.compareBytes (str1 x0) (str1 x1)) := rfl
@[go_sem] theorem knp122 : Kn.pure 122 = true := rfl
@[go_sem] theorem knf122 {x0 x1 : D} : Kn.pf 122 [x0, x1] = .i (nmOrd (str1 x0) (str1 x1)) := rfl
@[go_sem] theorem knp120 : Kn.pure 120 = true := rfl
@[go_sem] theorem knf120 {x0 x1 : D} : Kn.pf 120 [x0, x1] = .tuple [.i (if nameOk (str1 x0) && nameOk (str1 x1) then nmCmp (str1 x0) (str1 x1) else 0), .i (if nameOk (str1 x0) && nameOk (str1 x1) then 0 else 11)] := rfl
@[go_sem] theorem knp125 : Kn.pure 125 = true := rfl
@[go_sem] theorem knf125 {x0 x1 : D} : Kn.pf 125 [x0, x1] = .tuple [.i (if nameOk (str1 x0) && nameOk (str1 x1) then nmCmp (str1 x0) (str1 x1) else 0), .i (if nameOk (str1 x0) && nameOk (str1 x1) then 0 else 11)] := rfl
@[go_sem] theorem knp127 : Kn.pure 127 = true := rfl
@[go_sem] theorem knf127 {x0 x1 x2 : D} : Kn.pf 127 [x0, x1, x2] = .b (inR (int1 x0) (int1 x1) (int1 x2)) := rfl
@[go_sem] theorem knp172 : Kn.pure 172 = true := rfl
@[go_sem] theorem knf172 {x0 x1 x2 : D} : Kn.pf 172 [x0, x1, x2] = .b (inR (int1 x0) (int1 x1) (int1 x2)) := rfl
@[go_sem] theorem knp116 : Kn.pure 116 = true := rfl
@[go_sem] theorem knf116 {x0 x1 x2 : D} : Kn.pf 116 [x0, x1, x2] = .b (inR (int1 x0) (int1 x1) (int1 x2)) := rfl
@[go_sem] theorem knp156 : Kn.pure 156 = true := rfl
@[go_sem] theorem knf156 {x0 : D} : Kn.pf 156 [x0] = .b ((int1 x0) != (int1 x0)) := rfl
@[go_sem] theorem knp173 : Kn.pure 173 = true := rfl
@[go_sem] theorem knf173 {x0 : D} : Kn.pf 173 [x0] = .b ((str1 x0) != (str1 x0)) := rfl
@[go_sem] theorem knp126 : Kn.pure 126 = true := rfl
@[go_sem] theorem knf126 {x0 x1 : D} : Kn.pf 126 [x0, x1] = .i (cmpI (int1 x0) (int1 x1)) := rfl
@[go_sem] theorem knp159 : Kn.pure 159 = true := rfl
@[go_sem] theorem knf159 {x0 x1 : D} : Kn.pf 159 [x0, x1] = .i (cmpS (str1 x0) (str1 x1)) := rfl
@[go_sem] theorem knp124 : Kn.pure 124 = true := rfl
@[go_sem] theorem knf124 {x0 x1 : D} : Kn.pf 124 [x0, x1] = .b (hasPre (str1 x0) (str1 x1)) := rfl
@[go_sem] theorem knp91 : Kn.pure 91 = true := rfl
@[go_sem] theorem knf91 {x0 x1 : D} : Kn.pf 91 [x0, x1] = .b (hasPre (str1 x0) (str1 x1)) := rfl
@[go_sem] theorem knp128 : Kn.pure 128 = true := rfl
@[go_sem] theorem knf128 {x0 : D} : Kn.pf 128 [x0] = .b (wildB (str1 x0)) := rfl
@[go_sem] theorem knp110 : Kn.pure 110 = true := rfl
@[go_sem] theorem knf110 {x0 : D} : Kn.pf 110 [x0] = .b (wildB (str1 x0)) := rfl
@[go_sem] theorem knp157 : Kn.pure 157 = true := rfl
@[go_sem] theorem knf157 {x0 : D} : Kn.pf 157 [x0] = .b (freeB (str1 x0)) := rfl
@[go_sem] theorem knp150 : Kn.pure 150 = true := rfl
@[go_sem] theorem knf150 {x0 : D} : Kn.pf 150 [x0] = .b (freeB (str1 x0)) := rfl
@[go_sem] theorem knp119 : Kn.pure 119 = true := rfl
@[go_sem] theorem knf119 {x0 x1 : D} : Kn.pf 119 [x0, x1] = .b (less (dat1 x0) (dat1 x1)) := rfl
@[go_sem] theorem knp129 : Kn.pure 129 = true := rfl
@[go_sem] theorem knf129 {x0 x1 : D} : Kn.pf 129 [x0, x1] = .b (datOk (rule1 x0) (dat1 x1)) := rfl
@[go_sem] theorem knp118 : Kn.pure 118 = true := rfl
@[go_sem] theorem knf118 {x0 x1 : D} : Kn.pf 118 [x0, x1] = .b (rDatOk (int1 x0) (dat1 x1)) := rfl
@[go_sem] theorem knp158 : Kn.pure 158 = true := rfl
@[go_sem] theorem knf158 {x0 : D} : Kn.pf 158 [x0] = .i (orFrom (ints1 x0) 0) := rfl
@[go_sem] theorem knp130 : Kn.pure 130 = true := rfl
@[go_sem] theorem knf130 {x0 x1 : D} : Kn.pf 130 [x0, x1] = .i (datC (dat1 x0) (dat1 x1)) := rfl
@[go_sem] theorem knp93 : Kn.pure 93 = true := rfl
@[go_sem] theorem knf93 {x0 : D} : Kn.pf 93 [x0] = .b (setOk (set1 x0)) := rfl
@[go_sem] theorem knp83 : Kn.pure 83 = true := rfl
@[go_sem] theorem knf83 {x0 : D} : Kn.pf 83 [x0] = .b (setOk (set1 x0)) := rfl
@[go_sem] theorem knp117 : Kn.pure 117 = true := rfl
@[go_sem] theorem knf117 {x0 : D} : Kn.pf 117 [x0] = .b (singleB (int1 x0)) := rfl
@[go_sem] theorem knp85 : Kn.pure 85 = true := rfl
@[go_sem] theorem knf85 {x0 x1 : D} : Kn.pf 85 [x0, x1] = .i (rOrd (set1 x0) (set1 x1)) := rfl
@[go_sem] theorem knp63 : Kn.pure 63 = true := rfl
@[go_sem] theorem knf63 {x0 x1 : D} : Kn.pf 63 [x0, x1] = .b (sameB (set1 x0) (set1 x1)) := rfl
@[go_sem] theorem knp165 : Kn.pure 165 = true := rfl
@[go_sem] theorem knf165 {x0 x1 : D} : Kn.pf 165 [x0, x1] = .b (hasSuf (str1 x0) (str1 x1)) := rfl
@[go_sem] theorem knp141 : Kn.pure 141 = true := rfl
@[go_sem] theorem knf141 {x0 x1 : D} : Kn.pf 141 [x0, x1] = .b (hasSuf (str1 x0) (str1 x1)) := rfl
@[go_sem] theorem knp102 : Kn.pure 102 = true := rfl
@[go_sem] theorem knf102 {x0 x1 : D} : Kn.pf 102 [x0, x1] = .tuple [.b (underV (str1 x0) (str1 x1)), .i (if nameOk (str1 x0) && nameOk (str1 x1) then 0 else 11)] := rfl
@[go_sem] theorem knp84 : Kn.pure 84 = true := rfl
@[go_sem] theorem knf84 {x0 x1 : D} : Kn.pf 84 [x0, x1] = .b (inB (str1 x0) (str1 x1)) := rfl
@[go_sem] theorem knp82 : Kn.pure 82 = true := rfl
@[go_sem] theorem knf82 {x0 : D} : Kn.pf 82 [x0] = .b (wild1 (str1 x0)) := rfl
@[go_sem] theorem knp101 : Kn.pure 101 = true := rfl
@[go_sem] theorem knf101 {x0 x1 x2 x3 : D} : Kn.pf 101 [x0, x1, x2, x3] = .i (qC ⟨(str1 x0), (int1 x1)⟩ ⟨(str1 x2), (int1 x3)⟩) := rfl
@[go_sem] theorem knp92 : Kn.pure 92 = true := rfl
@[go_sem] theorem knf92 {x0 x1 : D} : Kn.pf 92 [x0, x1] = .i (qC (qst1 x0) (qst1 x1)) := rfl
@[go_sem] theorem knp103 : Kn.pure 103 = true := rfl
@[go_sem] theorem knf103 {x0 x1 : D} : Kn.pf 103 [x0, x1] = .b (fits (int1 x0) (bool1 x1)) := rfl
@[go_sem] theorem knp86 : Kn.pure 86 = true := rfl
@[go_sem] theorem knf86 {x0 x1 : D} : Kn.pf 86 [x0, x1] = .b (fits (int1 x0) (bool1 x1)) := rfl
@[go_sem] theorem knp104 : Kn.pure 104 = true := rfl
@[go_sem] theorem knf104 {x0 x1 : D} : Kn.pf 104 [x0, x1] = .b (sigsOk (sigs1 x0) (str1 x1)) := rfl
@[go_sem] theorem knp89 : Kn.pure 89 = true := rfl
@[go_sem] theorem knf89 {x0 x1 : D} : Kn.pf 89 [x0, x1] = .b (sigsOk (sigs1 x0) (str1 x1)) := rfl
@[go_sem] theorem knp61 : Kn.pure 61 = true := rfl
@[go_sem] theorem knf61 {x0 : D} : Kn.pf 61 [x0] = .b (qOk (qst1 x0)) := rfl
@[go_sem] theorem knp111 : Kn.pure 111 = true := rfl
@[go_sem] theorem knf111 {x0 : D} : Kn.pf 111 [x0] = .b (qOk (qst1 x0)) := rfl
@[go_sem] theorem knp20 : Kn.pure 20 = true := rfl
@[go_sem] theorem knf20 {x0 x1 : D} : Kn.pf 20 [x0, x1] = .b (sameSgd (sgd1 x0) (sgd1 x1)) := rfl
@[go_sem] theorem knp60 : Kn.pure 60 = true := rfl
@[go_sem] theorem knf60 {x0 x1 : D} : Kn.pf 60 [x0, x1] = .b (sameList (sgds1 x0) (sgds1 x1)) := rfl
@[go_sem] theorem knp18 : Kn.pure 18 = true := rfl
@[go_sem] theorem knf18 {x0 x1 : D} : Kn.pf 18 [x0, x1] = .b (sameZ (zon1 x0) (zon1 x1)) := rfl
@[go_sem] theorem knp100 : Kn.pure 100 = true := rfl
@[go_sem] theorem knf100 {x0 x1 : D} : Kn.pf 100 [x0, x1] = .i (qC (sgd1 x0).q (qst1 x1)) := rfl
@[go_sem] theorem knp99 : Kn.pure 99 = true := rfl
@[go_sem] theorem knf99 {x0 x1 x2 : D} : Kn.pf 99 [x0, x1, x2] = .tuple [.i (findIx (sgds1 x0) (qst1 x1)), .b (findOk (sgds1 x0) (qst1 x1))] := rfl
@[go_sem] theorem knp46 : Kn.pure 46 = true := rfl
@[go_sem] theorem knf46 {x0 x1 : D} : Kn.pf 46 [x0, x1] = .tuple [.i (findIx (zon1 x0).sets (qst1 x1)), .b (findOk (zon1 x0).sets (qst1 x1))] := rfl
@[go_sem] theorem knp47 : Kn.pure 47 = true := rfl
@[go_sem] theorem knf47 {x0 : D} : Kn.pf 47 [x0] = .b (ordered (zon1 x0)) := rfl
@[go_sem] theorem knp48 : Kn.pure 48 = true := rfl
@[go_sem] theorem knf48 {x0 : D} : Kn.pf 48 [x0] = .b (apexHolds (zon1 x0)) := rfl
@[go_sem] theorem knp50 : Kn.pure 50 = true := rfl
@[go_sem] theorem knf50 {x0 : D} : Kn.pf 50 [x0] = .b (aliasB (lay1 x0)) := rfl
@[go_sem] theorem knp51 : Kn.pure 51 = true := rfl
@[go_sem] theorem knf51 {x0 : D} : Kn.pf 51 [x0] = .b (cutB (lay1 x0)) := rfl
@[go_sem] theorem knp52 : Kn.pure 52 = true := rfl
@[go_sem] theorem knf52 {x0 : D} : Kn.pf 52 [x0] = .b (glueB (lay1 x0)) := rfl
@[go_sem] theorem knp53 : Kn.pure 53 = true := rfl
@[go_sem] theorem knf53 {x0 : D} : Kn.pf 53 [x0] = .b (formB (lay1 x0)) := rfl
@[go_sem] theorem knp49 : Kn.pure 49 = true := rfl
@[go_sem] theorem knf49 {x0 : D} : Kn.pf 49 [x0] = .agg (layOf (zon1 x0)).d := rfl
@[go_sem] theorem knp14 : Kn.pure 14 = true := rfl
@[go_sem] theorem knf14 {x0 : D} : Kn.pf 14 [x0] = .b (zoneOk (zon1 x0)) := rfl
@[go_sem] theorem knp13 : Kn.pure 13 = true := rfl
@[go_sem] theorem knf13 {x0 : D} : Kn.pf 13 [x0] = .tuple [.i (if zoneOk (zon1 x0) then serialOf (zon1 x0) else 0), .i (if zoneOk (zon1 x0) then 0 else 1)] := rfl
@[go_sem] theorem knp59 : Kn.pure 59 = true := rfl
@[go_sem] theorem knf59 {x0 x1 : D} : Kn.pf 59 [x0, x1] = .i (atF (zon1 x0).sets (qst1 x1)) := rfl
@[go_sem] theorem knp32 : Kn.pure 32 = true := rfl
@[go_sem] theorem knf32 {x0 : D} : Kn.pf 32 [x0] = .b (oneB (zon1 x0)) := rfl
@[go_sem] theorem knp33 : Kn.pure 33 = true := rfl
@[go_sem] theorem knf33 {x0 : D} : Kn.pf 33 [x0] = .b (twoB (zon1 x0)) := rfl
@[go_sem] theorem knp34 : Kn.pure 34 = true := rfl
@[go_sem] theorem knf34 {x0 : D} : Kn.pf 34 [x0] = .b (threeB (zon1 x0)) := rfl
@[go_sem] theorem knp151 : Kn.pure 151 = true := rfl
@[go_sem] theorem knf151 {x0 : D} : Kn.pf 151 [x0] = .list false ((cutsF (zon1 x0)).map sR) := rfl
@[go_sem] theorem knp121 : Kn.pure 121 = true := rfl
@[go_sem] theorem knf121 {x0 : D} : Kn.pf 121 [x0] = .list false ((highF (zon1 x0)).map sR) := rfl
@[go_sem] theorem knp87 : Kn.pure 87 = true := rfl
@[go_sem] theorem knf87 {x0 : D} : Kn.pf 87 [x0] = .list false ((behR (zon1 x0)).map sR) := rfl
@[go_sem] theorem knp35 : Kn.pure 35 = true := rfl
@[go_sem] theorem knf35 {x0 : D} : Kn.pf 35 [x0] = .b (fourB (zon1 x0)) := rfl
@[go_sem] theorem knp88 : Kn.pure 88 = true := rfl
@[go_sem] theorem knf88 {x0 : D} : Kn.pf 88 [x0] = .list false ((ownF (zon1 x0)).map bR) := rfl
@[go_sem] theorem knp36 : Kn.pure 36 = true := rfl
@[go_sem] theorem knf36 {x0 : D} : Kn.pf 36 [x0] = .b (fiveB (zon1 x0)) := rfl
@[go_sem] theorem knp11 : Kn.pure 11 = true := rfl
@[go_sem] theorem knf11 {x0 : D} : Kn.pf 11 [x0] = .b (refOk (zon1 x0)) := rfl
@[go_sem] theorem knp17 : Kn.pure 17 = true := rfl
@[go_sem] theorem knf17 {x0 : D} : Kn.pf 17 [x0] = .i (serialR (zon1 x0)) := rfl
@[go_sem] theorem knp9 : Kn.pure 9 = true := rfl
@[go_sem] theorem knf9 {x0 : D} : Kn.pf 9 [x0] = .b (fewZ (zon1 x0)) := rfl
@[go_sem] theorem knp65 : Kn.pure 65 = true := rfl
@[go_sem] theorem knf65 {x0 : D} : Kn.pf 65 [x0] = .b (serB (int1 x0)) := rfl
@[go_sem] theorem knp64 : Kn.pure 64 = true := rfl
@[go_sem] theorem knf64 {x0 : D} : Kn.pf 64 [x0] = .b (serB (int1 x0)) := rfl
@[go_sem] theorem knp16 : Kn.pure 16 = true := rfl
@[go_sem] theorem knf16 {x0 x1 : D} : Kn.pf 16 [x0, x1] = .b (befB (int1 x0) (int1 x1)) := rfl
@[go_sem] theorem knp54 : Kn.pure 54 = true := rfl
@[go_sem] theorem knf54 {x0 x1 : D} : Kn.pf 54 [x0, x1] = .b (befB (int1 x0) (int1 x1)) := rfl
@[go_sem] theorem knp23 : Kn.pure 23 = true := rfl
@[go_sem] theorem knf23 {x0 x1 : D} : Kn.pf 23 [x0, x1] = .tuple [.b (lessF (int1 x0) (int1 x1)).1, .i (lessF (int1 x0) (int1 x1)).2] := rfl
@[go_sem] theorem knp22 : Kn.pure 22 = true := rfl
@[go_sem] theorem knf22 {x0 x1 : D} : Kn.pf 22 [x0, x1] = .tuple [.b (lessF (int1 x0) (int1 x1)).1, .i (lessF (int1 x0) (int1 x1)).2] := rfl
@[go_sem] theorem knp25 : Kn.pure 25 = true := rfl
@[go_sem] theorem knf25 {x0 : D} : Kn.pf 25 [x0] = .tuple [.i (afterF (int1 x0)).1, .i (afterF (int1 x0)).2] := rfl
@[go_sem] theorem knp24 : Kn.pure 24 = true := rfl
@[go_sem] theorem knf24 {x0 : D} : Kn.pf 24 [x0] = .tuple [.i (afterF (int1 x0)).1, .i (afterF (int1 x0)).2] := rfl
@[go_sem] theorem knp67 : Kn.pure 67 = true := rfl
@[go_sem] theorem knf67 {x0 : D} : Kn.pf 67 [x0] = .agg (sgd1 x0).q.d := rfl
@[go_sem] theorem knp41 : Kn.pure 41 = true := rfl
@[go_sem] theorem knf41 {x0 : D} : Kn.pf 41 [x0] = .agg (sgd1 x0).q.d := rfl
@[go_sem] theorem knp112 : Kn.pure 112 = true := rfl
@[go_sem] theorem knf112 {x0 x1 : D} : Kn.pf 112 [x0, x1] = .i (qO (qst1 x0) (qst1 x1)) := rfl
@[go_sem] theorem knp66 : Kn.pure 66 = true := rfl
@[go_sem] theorem knf66 {x0 x1 : D} : Kn.pf 66 [x0, x1] = .i (atF (sgds1 x0) (qst1 x1)) := rfl
@[go_sem] theorem knp78 : Kn.pure 78 = true := rfl
@[go_sem] theorem knf78 {x0 x1 : D} : Kn.pf 78 [x0, x1] = .b (askB (qsts1 x0) (qst1 x1)) := rfl
@[go_sem] theorem knp79 : Kn.pure 79 = true := rfl
@[go_sem] theorem knf79 {x0 x1 : D} : Kn.pf 79 [x0, x1] = .list false ((sortedF (sgds1 x0) (sgd1 x1)).map Sgd.d) := rfl
@[go_sem] theorem knp80 : Kn.pure 80 = true := rfl
@[go_sem] theorem knf80 {x0 x1 : D} : Kn.pf 80 [x0, x1] = .list false ((addF (qsts1 x0) (qst1 x1)).map Qst.d) := rfl
@[go_sem] theorem knp77 : Kn.pure 77 = true := rfl
@[go_sem] theorem knf77 {x0 : D} : Kn.pf 77 [x0] = .b (dltOk (dlt1 x0)) := rfl
@[go_sem] theorem knp27 : Kn.pure 27 = true := rfl
@[go_sem] theorem knf27 {x0 x1 : D} : Kn.pf 27 [x0, x1] = .b (sameD (dlt1 x0) (dlt1 x1)) := rfl
@[go_sem] theorem knp10 : Kn.pure 10 = true := rfl
@[go_sem] theorem knf10 {x0 : D} : Kn.pf 10 [x0] = .b (fewD (dlt1 x0)) := rfl
@[go_sem] theorem knp21 : Kn.pure 21 = true := rfl
@[go_sem] theorem knf21 {x0 x1 x2 x3 : D} : Kn.pf 21 [x0, x1, x2, x3] = .b (fewAll (zon1 x0) (zon1 x1) (dlt1 x2) (dlt1 x3)) := rfl
@[go_sem] theorem knp26 : Kn.pure 26 = true := rfl
@[go_sem] theorem knf26 {x0 x1 : D} : Kn.pf 26 [x0, x1] = .tuple [.agg (diffR (zon1 x0) (zon1 x1)).1.d, .i (diffR (zon1 x0) (zon1 x1)).2] := rfl
@[go_sem] theorem knp30 : Kn.pure 30 = true := rfl
@[go_sem] theorem knf30 {x0 x1 : D} : Kn.pf 30 [x0, x1] = .tuple [.agg (applyR (zon1 x0) (dlt1 x1)).1.d, .i (applyR (zon1 x0) (dlt1 x1)).2] := rfl
@[go_sem] theorem knp29 : Kn.pure 29 = true := rfl
@[go_sem] theorem knf29 {x0 x1 : D} : Kn.pf 29 [x0, x1] = .tuple [.agg (joinR (dlt1 x0) (dlt1 x1)).1.d, .i (joinR (dlt1 x0) (dlt1 x1)).2] := rfl
@[go_sem] theorem knp31 : Kn.pure 31 = true := rfl
@[go_sem] theorem knf31 {x0 x1 : D} : Kn.pf 31 [x0, x1] = .agg (smallZ (int1 x0) (str1 x1)).d := rfl
@[go_sem] theorem knp97 : Kn.pure 97 = true := rfl
@[go_sem] theorem knf97 {x0 : D} : Kn.pf 97 [x0] = .list false ((dats1 x0).map Dat.d) := rfl
@[go_sem] theorem knp98 : Kn.pure 98 = true := rfl
@[go_sem] theorem knf98 {x0 : D} : Kn.pf 98 [x0] = .list false ((sigs1 x0).map RSig.d) := rfl
@[go_sem] theorem knp45 : Kn.pure 45 = true := rfl
@[go_sem] theorem knf45 {x0 : D} : Kn.pf 45 [x0] = .agg (sgd1 x0).d := rfl
@[go_sem] theorem knp62 : Kn.pure 62 = true := rfl
@[go_sem] theorem knf62 {x0 : D} : Kn.pf 62 [x0] = .agg (sgd1 x0).d := rfl
@[go_sem] theorem knp19 : Kn.pure 19 = true := rfl
@[go_sem] theorem knf19 {x0 x1 : D} : Kn.pf 19 [x0, x1] = .tuple [.agg (findR (zon1 x0) (qst1 x1)).1.d, .b (findR (zon1 x0) (qst1 x1)).2.1, .i (findR (zon1 x0) (qst1 x1)).2.2] := rfl
@[go_sem] theorem knp38 : Kn.pure 38 = true := rfl
@[go_sem] theorem knf38 {x0 : D} : Kn.pf 38 [x0] = .fmap (kvP (mapP (sgds1 x0))) := rfl
@[go_sem] theorem knp105 : Kn.pure 105 = true := rfl
@[go_sem] theorem knf105 {x0 x1 : D} : Kn.pf 105 [x0, x1] = .b (eqDat (dats1 x0) (dats1 x1)) := rfl
@[go_sem] theorem knp106 : Kn.pure 106 = true := rfl
@[go_sem] theorem knf106 {x0 x1 : D} : Kn.pf 106 [x0, x1] = .b (eqSig (sigs1 x0) (sigs1 x1)) := rfl
@[go_sem] theorem knp58 : Kn.pure 58 = true := rfl
@[go_sem] theorem knf58 {x0 x1 : D} : Kn.pf 58 [x0, x1] = .b (sameX (sgd1 x0) (sgd1 x1)) := rfl
@[go_sem] theorem knp56 : Kn.pure 56 = true := rfl
@[go_sem] theorem knf56 {x0 x1 : D} : Kn.pf 56 [x0, x1] = .tuple [.agg (sgd1 x0).q.d, .b (newB (mapc1 x1) (sgd1 x0).q)] := rfl
@[go_sem] theorem knp57 : Kn.pure 57 = true := rfl
@[go_sem] theorem knf57 {x0 x1 : D} : Kn.pf 57 [x0, x1] = .tuple [.agg (sgd1 x0).d, .b (diffS (pget (mapc1 x1) (sgd1 x0).q) (sgd1 x0))] := rfl
@[go_sem] theorem knp40 : Kn.pure 40 = true := rfl
@[go_sem] theorem knf40 {x0 x1 : D} : Kn.pf 40 [x0, x1] = .tuple [.agg (sgd1 x0).d, .b (newB (mapc1 x1) (sgd1 x0).q)] := rfl
@[go_sem] theorem knp68 : Kn.pure 68 = true := rfl
@[go_sem] theorem knf68 {x0 x1 : D} : Kn.pf 68 [x0, x1] = .tuple [.agg (sgd1 x0).d, .b (newB (mapc1 x1) (sgd1 x0).q)] := rfl
@[go_sem] theorem knp44 : Kn.pure 44 = true := rfl
@[go_sem] theorem knf44 {x0 : D} : Kn.pf 44 [x0] = .tuple [.agg (sgd1 x0).d, .b true] := rfl
@[go_sem] theorem knp76 : Kn.pure 76 = true := rfl
@[go_sem] theorem knf76 {x0 : D} : Kn.pf 76 [x0] = .tuple [.agg (sgd1 x0).d, .b true] := rfl
@[go_sem] theorem knp69 : Kn.pure 69 = true := rfl
@[go_sem] theorem knf69 {x0 : D} : Kn.pf 69 [x0] = .agg (qst1 x0).d := rfl
@[go_sem] theorem knp75 : Kn.pure 75 = true := rfl
@[go_sem] theorem knf75 {x0 x1 : D} : Kn.pf 75 [x0, x1] = .tuple [.agg (qst1 x0).d, .b (newB (mapc1 x1) (qst1 x0))] := rfl
@[go_sem] theorem knp55 : Kn.pure 55 = true := rfl
@[go_sem] theorem knf55 {x0 x1 : D} : Kn.pf 55 [x0, x1] = .list false (((sgds1 x0).filterMap (d1S (capm1 x1))).map Qst.d) := rfl
@[go_sem] theorem knp73 : Kn.pure 73 = true := rfl
@[go_sem] theorem knf73 {x0 x1 : D} : Kn.pf 73 [x0, x1] = .list false (((qsts1 x0).filterMap (j3S (capm1 x1))).map Qst.d) := rfl
@[go_sem] theorem knp39 : Kn.pure 39 = true := rfl
@[go_sem] theorem knf39 {x0 x1 : D} : Kn.pf 39 [x0, x1] = .list false (((sgds1 x0).filterMap (semS (x1))).map Sgd.d) := rfl
@[go_sem] theorem knp43 : Kn.pure 43 = true := rfl
@[go_sem] theorem knf43 {x0 : D} : Kn.pf 43 [x0] = .fn (.func 96) [] [.eptr [.fn (.func 41) [] []]] := rfl
@[go_sem] theorem knp96 : Kn.pure 96 = true := rfl
@[go_sem] theorem knf96 {x0 x1 x2 : D} : Kn.pf 96 [x0, x1, x2] = .i (qC (sgd1 x0).q (sgd1 x1).q) := rfl
@[go_sem] theorem knp72 : Kn.pure 72 = true := rfl
@[go_sem] theorem knf72 {x0 : D} : Kn.pf 72 [x0] = .fn (.func 109) [] [.eptr [.fn (.func 69) [] []]] := rfl
@[go_sem] theorem knp109 : Kn.pure 109 = true := rfl
@[go_sem] theorem knf109 {x0 x1 x2 : D} : Kn.pf 109 [x0, x1, x2] = .i (qC (qst1 x0) (qst1 x1)) := rfl
@[go_sem] theorem knp37 : Kn.pure 37 = true := rfl
@[go_sem] theorem knf37 {x0 : D} : Kn.pf 37 [x0] = .b (dltOk (dlt1 x0)) := rfl
@[go_sem] theorem knp15 : Kn.pure 15 = true := rfl
@[go_sem] theorem knf15 {x0 x1 : D} : Kn.pf 15 [x0, x1] = .tuple [.agg (diffP (zon1 x0) (zon1 x1)).1.d, .i (diffP (zon1 x0) (zon1 x1)).2] := rfl
@[go_sem] theorem knp12 : Kn.pure 12 = true := rfl
@[go_sem] theorem knf12 {x0 x1 : D} : Kn.pf 12 [x0, x1] = .tuple [.agg (applyP (zon1 x0) (dlt1 x1)).1.d, .i (applyP (zon1 x0) (dlt1 x1)).2] := rfl
@[go_sem] theorem knp28 : Kn.pure 28 = true := rfl
@[go_sem] theorem knf28 {x0 x1 : D} : Kn.pf 28 [x0, x1] = .tuple [.agg (joinP (dlt1 x0) (dlt1 x1)).1.d, .i (joinP (dlt1 x0) (dlt1 x1)).2] := rfl
@[go_sem] theorem knp8 : Kn.pure 8 = true := rfl
@[go_sem] theorem knf8 : Kn.pf 8 [] = .b true := rfl
@[go_sem] theorem knp5 : Kn.pure 5 = true := rfl
@[go_sem] theorem knf5 {x0 x1 x2 x3 x4 x5 : D} : Kn.pf 5 [x0, x1, x2, x3, x4, x5] = .b true := rfl
@[go_sem] theorem knp6 : Kn.pure 6 = true := rfl
@[go_sem] theorem knf6 {x0 x1 x2 : D} : Kn.pf 6 [x0, x1, x2] = .b true := rfl
@[go_sem] theorem knp7 : Kn.pure 7 = true := rfl
@[go_sem] theorem knf7 {x0 x1 x2 : D} : Kn.pf 7 [x0, x1, x2] = .b true := rfl
def KnB : Con := { Kn with bs := true }
@[go_sem] theorem knB_p {k : FuncId} : KnB.pure k = Kn.pure k := rfl
@[go_sem] theorem knB_f {k : FuncId} {xs : List D} : KnB.pf k xs = Kn.pf k xs := rfl
@[go_sem] theorem knB_b : KnB.bs = true := rfl
@[go_sem] theorem kn_b : Kn.bs = false := rfl
@[go_sem] theorem kn_c : Kn.cf = false := rfl
@[go_sem] theorem knB_c : KnB.cf = false := rfl
def KnF : Con := { Kn with cf := true }
@[go_sem] theorem knF_p {k : FuncId} : KnF.pure k = Kn.pure k := rfl
@[go_sem] theorem knF_f {k : FuncId} {xs : List D} : KnF.pf k xs = Kn.pf k xs := rfl
@[go_sem] theorem knF_b : KnF.bs = false := rfl
@[go_sem] theorem knF_c : KnF.cf = true := rfl
end Go.Proofs.YtfggmgafjabbjaaGreatDoor
namespace Go.Proofs.YtfggmgafjabbjaaGreatDoor
open Go.DL Go.Str
set_option maxRecDepth 10000
set_option linter.unusedSimpArgs false
set_option linter.unusedVariables false
theorem bo176 : hasBody Tryz.prog 176 = true := by kernel_rfl
theorem lastbyteS_ct (s : Str) (c : Int) (hs : s.length ≤ 9223372036854775806) : PureCt Tryz.prog 176 [.v (.string (bs s)), .v (.int .u8 c)] (.i (lastIx s c)) := by
  rw [lastIx]
  refine pure_of_dw Tryz.func176 rfl bo176 (by simp [go_sem, D.nr, nrs, nrr]) (by simp [Tryz.f176]) ?_
  unfold Tryz.f176
  simp only [init_eq]
  have ff := True.intro
  refine stp Kn ?_
  refine dw_seq ?_
  refine stp Kn ?_
  refine dw_block ?_
  refine lp (α := (Nat) × Nat) [0, 1] (fun ⟨k, nx⟩ => (k ≤ s.length) ∧ (lastFrom s c s.length = lastFrom s c k) ∧ True) (fun ⟨k, nx⟩ => k) (fun ⟨k, nx⟩ => [(5, .i ((k : Int) - 1))]) (fun ⟨k, nx⟩ => []) (fun ⟨k, nx⟩ => nx) (s.length, _) (hA := ⟨iv, rfl, trivial⟩) (round := ?_)
  rintro ⟨k, nx⟩ ⟨hk, hv, -⟩
  show DW _ _ _ _ { n := _, t := tab _, h := _, nx := _, e := _ }
  simp only [List.cons_append, List.nil_append]
  refine dw_seq ?_
  refine stp Kn ?_
  refine cd (fun c1 => ?_) (fun c1 => ?_) (hp := rfl) (hq := rfl)
  · skip
    have hk2 : 0 < k := by have h7 : (0:Int) ≤ (k:Int) - 1 := (by simpa using c1); omega
    have e1 : ((k:Int) - 1).toNat = k - 1 := by omega
    have ff := And.intro @e1 ff
    refine dw_skip ?_
    show DW _ _ _ _ _
    refine dw_seq ?_
    refine dw_block ?_
    refine stp Kn ?_
    refine cd (fun c2 => ?_) (fun c2 => ?_)
    · skip
      refine stp Kn ?_
      refine dw_ret ?_
      exact fin 0 (hr := by (try simp only [go_sem, ff]); all_goals (rw [hv, lastFrom_step hk2, if_pos c2]; congr 2; omega))
    · skip
      refine dw_skip ?_
      show DW _ _ _ _ _
      refine rgn Kn ?_
      show ∃ _, _
      exact rnd (k - 1, _) (h1 := ⟨iv, (by (try dsimp only); rw [hv, lastFrom_step hk2, if_neg c2]), trivial⟩)
  · skip
    have hk2 : k = 0 := by have h7 : ¬ (0:Int) ≤ (k:Int) - 1 := (by simpa using c1); omega
    refine dw_exit ?_
    show DW _ _ _ _ _
    refine stp Kn ?_
    refine dw_ret ?_
    exact fin 0 (hr := by (try simp only [go_sem, ff]); all_goals (rw [hv, hk2]; rfl))
theorem bo169 : hasBody Tryz.prog 169 = true := by kernel_rfl
theorem lastbyte_ct (s : Str) (c : Int) (hs : s.length ≤ 9223372036854775806) : PureCt Tryz.prog 169 [.v (.string (bs s)), .v (.int .u8 c)] (.i (lastIx s c)) := by
  refine pure_of_dw Tryz.func169 rfl bo169 (by simp [go_sem, D.nr, nrs, nrr]) (by simp [Tryz.f169]) ?_
  unfold Tryz.f169
  simp only [init_eq]
  have ff := True.intro
  refine stp Kn ?_
  refine stp Kn ?_ (hok := by (try simp only [go_sem, ff]); all_goals (exact lastbyteS_ct _ _ hs))
  refine dw_ret ?_
  exact fin 0 (hr := by (try simp only [go_sem, ff]); all_goals (rfl))
theorem bo153 : hasBody Tryz.prog 153 = true := by kernel_rfl
theorem islabel_ct (s : Str) : PureCt Tryz.prog 153 [.v (.string (bs s))] (.b (labelOk s)) := by
  rw [labelOk_P]
  refine pure_of_dw Tryz.func153 rfl bo153 (by simp [go_sem, D.nr, nrs, nrr]) (by simp [Tryz.f153]) ?_
  unfold Tryz.f153
  simp only [init_eq]
  have ff := True.intro
  have e1 : ((s.length:Int) - 1).toNat = s.length - 1 := by omega
  have ff := And.intro @e1 ff
  refine stp Kn ?_
  refine dw_seq ?_
  refine stp Kn ?_
  refine cd (fun c1 => ?_) (fun c1 => ?_)
  · skip
    refine stp Kn ?_
    refine dw_ret ?_
    exact fin 0 (hr := by (try simp only [go_sem, ff]); all_goals ((repeat' split) <;> first | rfl | (exfalso; omega)))
  · skip
    refine dw_skip ?_
    show DW _ _ _ _ _
    refine dw_seq ?_
    refine stp Kn ?_
    refine dw_block ?_
    refine lp (α := (Nat) × Nat) [0, 27] (fun ⟨k, nx⟩ => (k ≤ s.length) ∧ (allN s.length (okIn s) 0 = allN s.length (okIn s) k) ∧ True) (fun ⟨k, nx⟩ => s.length - k) (fun ⟨k, nx⟩ => [(28, .i k)]) (fun ⟨k, nx⟩ => []) (fun ⟨k, nx⟩ => nx) (0, _) (hA := ⟨iv, rfl, trivial⟩) (round := ?_)
    rintro ⟨k, nx⟩ ⟨hk, hv, -⟩
    show DW _ _ _ _ { n := _, t := tab _, h := _, nx := _, e := _ }
    simp only [List.cons_append, List.nil_append]
    refine stp Kn ?_
    refine dw_seq ?_
    refine cd (fun c2 => ?_) (fun c2 => ?_) (hp := rfl)
    · skip
      have hk2 : k < s.length := by simpa using c2
      refine dw_skip ?_
      show DW _ _ _ _ _
      refine dw_seq ?_
      refine dw_block ?_
      refine stp Kn ?_
      refine stp Kn ?_
      refine stp Kn ?_
      refine cd (fun c3 => ?_) (fun c3 => ?_)
      · skip
        refine stp Kn ?_
        refine dw_ret ?_
        exact fin 0 (hr := by (try simp only [go_sem, ff]); all_goals (have h8 : okIn s k = false := (by simp only [okIn, alnum, Bool.or_eq_false_iff, Bool.and_eq_false_iff, decide_eq_false_iff_not]; omega); rw [hv, allN_eq, if_pos hk2, h8]; (repeat' split) <;> rfl))
      · skip
        refine dw_skip ?_
        show DW _ _ _ _ _
        refine rgn Kn ?_
        show ∃ _, _
        exact rnd (k + 1, _) (h1 := ⟨iv, (by (try dsimp only); have h8 : okIn s k = true := (by simp only [okIn, alnum, Bool.or_eq_true, Bool.and_eq_true, decide_eq_true_eq]; omega); rw [hv, allN_eq, if_pos hk2, h8]; rfl), trivial⟩)
    · skip
      refine dw_exit ?_
      show DW _ _ _ _ _
      refine stp Kn ?_
      refine dw_ret ?_
      exact fin 0 (hr := by (try simp only [go_sem, ff]); all_goals (rw [hv, allN_eq, if_neg (by omega), if_neg (by omega), if_neg (by omega), if_neg (by omega), if_neg (by omega)]))
theorem bo114 : hasBody Tryz.prog 114 = true := by kernel_rfl
theorem rlabel_ct (s : Str) (hs : s.length ≤ 9223372036854775806) : PureCt Tryz.prog 114 [.v (.string (bs s))] (.b (labelOk s)) := by
  rw [labelOk]
  refine pure_of_dw Tryz.func114 rfl bo114 (by simp [go_sem, D.nr, nrs, nrr]) (by simp [Tryz.f114]) ?_
  unfold Tryz.f114
  simp only [init_eq]
  have ff := True.intro
  refine stp Kn ?_
  refine dw_seq ?_
  refine stp Kn ?_
  refine dw_block ?_
  refine lp (α := (Nat) × Nat) [0] (fun ⟨k, nx⟩ => (k ≤ s.length) ∧ (allN s.length (okAt s) 0 = allN s.length (okAt s) k) ∧ True) (fun ⟨k, nx⟩ => s.length - k) (fun ⟨k, nx⟩ => [(3, .i k)]) (fun ⟨k, nx⟩ => []) (fun ⟨k, nx⟩ => nx) (0, _) (hA := ⟨iv, rfl, trivial⟩) (round := ?_)
  rintro ⟨k, nx⟩ ⟨hk, hv, -⟩
  show DW _ _ _ _ { n := _, t := tab _, h := _, nx := _, e := _ }
  simp only [List.cons_append, List.nil_append]
  refine dw_seq ?_
  refine stp Kn ?_
  refine cd (fun c1 => ?_) (fun c1 => ?_) (hp := rfl)
  · skip
    have hk2 : k < s.length := by simpa using c1
    refine dw_skip ?_
    show DW _ _ _ _ _
    refine dw_seq ?_
    refine dw_block ?_
    refine stp Kn ?_
    refine stp Kn ?_
    refine stp Kn ?_
    refine cd (fun c2 => ?_) (fun c2 => ?_)
    · skip
      refine stp Kn ?_
      refine dw_ret ?_
      exact fin 0 (hr := by (try simp only [go_sem, ff]); all_goals (have h8 : okAt s k = false := (by simp only [okAt, alnum, Bool.or_eq_false_iff, Bool.and_eq_false_iff, decide_eq_false_iff_not]; omega); rw [hv, allN_eq, if_pos hk2, h8]; rfl))
    · skip
      refine dw_skip ?_
      show DW _ _ _ _ _
      refine rgn Kn ?_
      show ∃ _, _
      exact rnd (k + 1, _) (h1 := ⟨iv, (by (try dsimp only); have h8 : okAt s k = true := (by simp only [okAt, alnum, Bool.or_eq_true, Bool.and_eq_true, decide_eq_true_eq]; omega); rw [hv, allN_eq, if_pos hk2, h8]; rfl), trivial⟩)
  · skip
    refine dw_exit ?_
    show DW _ _ _ _ _
    refine stp Kn ?_
    refine dw_ret ?_
    exact fin 0 (hr := by (try simp only [go_sem, ff]); all_goals (rw [hv, allN_eq, if_neg (by omega)]; congr 2; rw [Bool.eq_iff_iff]; simp only [Bool.and_eq_true, decide_eq_true_eq, Bool.true_and]; omega))
theorem bo113 : hasBody Tryz.prog 113 = true := by kernel_rfl
theorem rsplit_ct (s : Str) (hs : s.length ≤ 1000) : PureCt Tryz.prog 113 [.v (.string (bs s))] (.list false ((splitF s).map sR)) := by
  rw [splitF]
  refine pure_of_dw Tryz.func113 rfl bo113 (by simp [go_sem, D.nr, nrs, nrr]) (by simp [Tryz.f113]) ?_
  unfold Tryz.f113
  simp only [init_eq]
  have ff := True.intro
  refine stp Kn ?_
  refine stp KnB ?_
  refine dw_seq ?_
  refine stp Kn ?_
  refine dw_block ?_
  refine lp (α := (Nat) × (List Str) × (Nat) × Nat) [0] (fun ⟨k, out, r, nx⟩ => (k ≤ s.length) ∧ (1 ≤ out.length) ∧ (out.length ≤ k + 1) ∧ (∀ x ∈ out, x.length ≤ k) ∧ (splitFrom s 0 [[]] = splitFrom s k out) ∧ (r < nx) ∧ True) (fun ⟨k, out, r, nx⟩ => s.length - k) (fun ⟨k, out, r, nx⟩ => [(3, .mrow r 0 out.length), (4, .i k)]) (fun ⟨k, out, r, nx⟩ => [(r, ⟨9, out.map sR⟩)]) (fun ⟨k, out, r, nx⟩ => nx) (0, [[]], 1, _) (hA := ⟨iv, (by first | (simp) | (dsimp only; simp)), (by first | (simp) | (dsimp only; simp)), (by first | (simp) | (dsimp only; simp)), rfl, iv, trivial⟩) (round := ?_)
  rintro ⟨k, out, r, nx⟩ ⟨hk, ho1, ho, hl, hv, hr, -⟩
  show DW _ _ _ _ { n := _, t := tab _, h := _, nx := _, e := _ }
  simp only [List.cons_append, List.nil_append]
  have ff := And.intro @hr ff
  refine dw_seq ?_
  refine stp Kn ?_
  refine cd (fun c1 => ?_) (fun c1 => ?_) (hp := rfl)
  · skip
    have hk2 : k < s.length := by simpa using c1
    have hk3 : out.length - 1 < out.length := by omega
    have e1 : ((out.length : Int) - 1).toNat = out.length - 1 := by omega
    have e5 : ((k : Int) + 1).toNat = k + 1 := by omega
    have hl3 : out[out.length - 1]!.length ≤ k := hl _ (by rw [getElem!_pos out _ hk3]; exact List.getElem_mem _)
    have ff := And.intro @e1 (And.intro @e5 (And.intro (getD_sR hk3) (And.intro (one_cut hk2) ff)))
    refine dw_skip ?_
    show DW _ _ _ _ _
    refine dw_seq ?_
    refine dw_block ?_
    refine stp Kn ?_
    refine cd (fun c2 => ?_) (fun c2 => ?_)
    · skip
      have e2 := splitStep_t (out := out) (c := s.getD k 0) c2
      refine rgn Kn ?_
      show DW _ _ _ _ _
      refine rgn Kn ?_
      show ∃ _, _
      exact rnd (k + 1, out ++ [[]], (nx + 10), _) (h1 := ⟨iv, (by first | (simp) | (dsimp only; simp)), (by first | (simp; omega) | (dsimp only; simp; omega)), (by (try dsimp only); intro x hx; rcases List.mem_append.1 hx with h | h; exact Nat.le_succ_of_le (hl x h); simp at h; subst h; exact Nat.zero_le _), (by (try dsimp only); rw [hv, splitFrom_eq, if_pos hk2, e2]), iv, trivial⟩) (h3 := by (try simp only [go_sem, ff]); all_goals (first | done | (simp [sR]; done) | (simp [sR]; omega) | ((repeat' (with_reducible apply And.intro)) <;> first | (left; simp [sR]; done) | (right; simp [go_sem, sR]; done)))) (h4 := by (try simp only [go_sem, ff]); all_goals (first | done | (simp [sR]; done) | (simp [sR]; omega) | ((repeat' (with_reducible apply And.intro)) <;> first | (left; simp [sR]; done) | (right; simp [go_sem, sR]; done)))) (h5 := by (try simp only [go_sem, ff]); all_goals (first | done | (simp [sR]; done) | (simp [sR]; omega) | ((repeat' (with_reducible apply And.intro)) <;> first | (left; simp [sR]; done) | (right; simp [go_sem, sR]; done))))
    · skip
      have e2 := splitStep_f (out := out) (c := s.getD k 0) c2
      refine rgn Kn ?_
      show DW _ _ _ _ _
      refine rgn Kn ?_
      show ∃ _, _
      exact rnd (k + 1, out.set (out.length - 1) (out[out.length - 1]! ++ [s.getD k 0]), r, _) (h1 := ⟨iv, (by first | (simp; omega) | (dsimp only; simp; omega)), (by first | (simp; omega) | (dsimp only; simp; omega)), (by (try dsimp only); intro x hx; rcases List.mem_or_eq_of_mem_set hx with h | h; exact Nat.le_succ_of_le (hl x h); subst h; rw [List.length_append]; exact Nat.succ_le_succ hl3), (by (try dsimp only); rw [hv, splitFrom_eq, if_pos hk2, e2]), iv, trivial⟩) (h3 := by (try simp only [go_sem, ff]); all_goals (first | done | (simp [sR]; done) | (simp [sR]; omega) | ((repeat' (with_reducible apply And.intro)) <;> first | (left; simp [sR]; done) | (right; simp [go_sem, sR]; done)))) (h4 := by (try simp only [go_sem, ff]); all_goals (first | done | (simp [sR]; done) | (simp [sR]; omega) | ((repeat' (with_reducible apply And.intro)) <;> first | (left; simp [sR]; done) | (right; simp [go_sem, sR]; done)))) (h5 := by (try simp only [go_sem, ff]); all_goals (first | done | (simp [sR]; done) | (simp [sR]; omega) | ((repeat' (with_reducible apply And.intro)) <;> first | (left; simp [sR]; done) | (right; simp [go_sem, sR]; done))))
  · skip
    refine dw_exit ?_
    show DW _ _ _ _ _
    refine stp Kn ?_
    refine dw_ret ?_
    exact fin 1 (hr := by (try simp only [go_sem, ff]); all_goals (rw [hv, splitFrom_eq, if_neg (by omega)]))
theorem bo81 : hasBody Tryz.prog 81 = true := by kernel_rfl
theorem rnvalid_ct (s : Str) : PureCt Tryz.prog 81 [.v (.string (bs s))] (.b (nameOk s)) := by
  rw [nameOk]
  refine pure_of_dw Tryz.func81 rfl bo81 (by simp [go_sem, D.nr, nrs, nrr]) (by simp [Tryz.f81]) ?_
  unfold Tryz.f81
  simp only [init_eq]
  have ff := True.intro
  refine stp Kn ?_
  refine dw_seq ?_
  refine stp Kn ?_
  refine cd (fun c1 => ?_) (fun c1 => ?_)
  · skip
    refine stp Kn ?_
    refine dw_ret ?_
    exact fin 0 (hr := by (try simp only [go_sem, ff]); all_goals (rw [if_pos c1]))
  · skip
    refine dw_skip ?_
    show DW _ _ _ _ _
    refine dw_seq ?_
    refine stp Kn ?_
    refine cd (fun c2 => ?_) (fun c2 => ?_)
    · skip
      refine stp Kn ?_
      refine dw_ret ?_
      exact fin 0 (hr := by (try simp only [go_sem, ff]); all_goals (rw [if_neg c1, if_pos (by omega)]))
    · skip
      refine dw_skip ?_
      show DW _ _ _ _ _
      refine stp Kn ?_ (hok := by (try simp only [go_sem, ff]); all_goals (exact rsplit_ct _ (by omega)))
      refine dw_seq ?_
      refine stp Kn ?_
      refine dw_block ?_
      refine lp (α := (Nat) × Nat) [3] (fun ⟨k, nx⟩ => (k ≤ (splitF s).length) ∧ (allN (splitF s).length (partOk (splitF s)) 0 = allN (splitF s).length (partOk (splitF s)) k) ∧ True) (fun ⟨k, nx⟩ => (splitF s).length - k) (fun ⟨k, nx⟩ => [(4, .i k)]) (fun ⟨k, nx⟩ => []) (fun ⟨k, nx⟩ => nx) (0, _) (hA := ⟨iv, rfl, trivial⟩) (round := ?_)
      rintro ⟨k, nx⟩ ⟨hk, hv, -⟩
      show DW _ _ _ _ { n := _, t := tab _, h := _, nx := _, e := _ }
      simp only [List.cons_append, List.nil_append]
      have hsl := splitF_at s k
      have hsn := (splitF_len s).2
      refine dw_seq ?_
      refine stp Kn ?_
      refine cd (fun c3 => ?_) (fun c3 => ?_) (hp := rfl)
      · skip
        have hk2 : k < (splitF s).length := by simpa using c3
        have ff := And.intro (getD_sR hk2) ff
        refine dw_skip ?_
        show DW _ _ _ _ _
        refine dw_seq ?_
        refine dw_block ?_
        refine stp Kn ?_ (hok := by (try simp only [go_sem, ff]); all_goals (first | done | exact rlabel_ct _ (by omega) | ((repeat' (with_reducible apply And.intro)) <;> first | omega | exact rlabel_ct _ (by omega))))
        refine stp Kn ?_ (hok := by (try simp only [go_sem, ff]); all_goals (refine ⟨fun _ => ⟨by omega, by omega⟩, fun h1 _ => ⟨h1, fun h3 => by rw [h1, h3]; rfl⟩⟩))
        refine cd (fun c4 => ?_) (fun c4 => ?_)
        · skip
          refine stp Kn ?_
          refine dw_ret ?_
          exact fin 0 (hr := by (try simp only [go_sem, ff]); all_goals (rw [if_neg c1, if_neg (by omega), hv, allN_eq, if_pos hk2, partOk_f c4.1 (by first | exact c4.2 | (rcases c4.2 with h | h; exact .inl (by omega); exact .inr h))]; rfl))
        · skip
          refine dw_skip ?_
          show DW _ _ _ _ _
          refine rgn Kn ?_
          show ∃ _, _
          exact rnd (k + 1, _) (h1 := ⟨iv, (by (try dsimp only); rw [hv, allN_eq, if_pos hk2, partOk_t (by first | exact c4 | (rcases c4 with h | h; exact .inl h; exact .inr ⟨by omega, h.2⟩))]; rfl), trivial⟩)
      · skip
        refine dw_exit ?_
        show DW _ _ _ _ _
        refine stp Kn ?_
        refine dw_ret ?_
        exact fin 0 (hr := by (try simp only [go_sem, ff]); all_goals (rw [if_neg c1, if_neg (by omega), hv, allN_eq, if_neg (by omega), Bool.true_and]; congr 2; exact decide_eq_decide.2 (by omega)))
theorem bo115 : hasBody Tryz.prog 115 = true := by kernel_rfl
theorem rparts1_ct (s : Str) (hs : s.length ≤ 1000) : PureCt Tryz.prog 115 [.v (.string (bs s))] (.list false ((partsOf s).map sR)) := by
  rw [partsOf]
  refine pure_of_dw Tryz.func115 rfl bo115 (by simp [go_sem, D.nr, nrs, nrr]) (by simp [Tryz.f115]) ?_
  unfold Tryz.f115
  simp only [init_eq]
  have ff := True.intro
  refine stp Kn ?_
  refine dw_seq ?_
  refine stp Kn ?_
  refine cd (fun c1 => ?_) (fun c1 => ?_)
  · skip
    refine stp Kn ?_
    refine dw_ret ?_
    exact fin 0 (hr := by (try simp only [go_sem, ff]); all_goals (rw [if_pos c1]; rfl))
  · skip
    refine dw_skip ?_
    show DW _ _ _ _ _
    refine stp Kn ?_ (hok := by (try simp only [go_sem, ff]); all_goals (exact rsplit_ct _ hs))
    refine dw_ret ?_
    exact fin 0 (hr := by (try simp only [go_sem, ff]); all_goals (rw [if_neg c1]))

end Go.Proofs.YtfggmgafjabbjaaGreatDoor
namespace Go.Proofs.YtfggmgafjabbjaaGreatDoor
open Go.DL Go.Str
set_option maxRecDepth 10000
set_option linter.unusedSimpArgs false
set_option linter.unusedVariables false
theorem bo152 : hasBody Tryz.prog 152 = true := by kernel_rfl
theorem bo123 : hasBody Tryz.prog 123 = true := by kernel_rfl
theorem tvalid_ct (s : Str) : PureCt Tryz.prog 123 [.v (.string (bs s))] (.b (nameOk s)) := by
  refine pure_of_dw Tryz.func123 rfl bo123 (by simp [go_sem, D.nr, nrs, nrr]) (by simp [Tryz.f123]) ?_
  unfold Tryz.f123
  simp only [init_eq]
  have ff := True.intro
  refine stp Kn ?_
  refine dw_seq ?_
  refine stp Kn ?_
  refine cd (fun c1 => ?_) (fun c1 => ?_)
  · skip
    refine stp Kn ?_
    refine dw_ret ?_
    exact fin 0 (hr := by (try simp only [go_sem, ff]); all_goals (rw [nameOk, if_pos c1]))
  · skip
    refine dw_skip ?_
    show DW _ _ _ _ _
    refine dw_seq ?_
    refine stp Kn ?_
    refine cd (fun c3 => ?_) (fun c3 => ?_)
    · skip
      refine stp Kn ?_
      refine dw_ret ?_
      exact fin 0 (hr := by (try simp only [go_sem, ff]); all_goals (rw [nameOk, if_neg c1, if_pos (by omega)]))
    · skip
      refine dw_skip ?_
      show DW _ _ _ _ _
      refine stp Kn ?_
      refine dw_seq ?_
      refine stp Kn ?_
      refine dw_block ?_
      refine dw_rangeFunc (by simp only [go_sem, ff]) (by simp only [go_sem, ff]; exact rfl) Tryz.func152 rfl bo152 (by simp [Tryz.f152]) rfl (fun l rL hp ha hb hn => ?_)
      unfold Tryz.f152
      refine dw_seq ?_
      refine stp Kn ?_
      refine cd (fun d0 => ?_) (fun d0 => ?_)
      · skip
        exact absurd d0 c1
      · skip
        refine dw_skip ?_
        show DW _ _ _ _ _
        refine stp Kn ?_
        refine dw_block ?_
        refine lp (α := (Str) × (Nat) × (Bool) × Nat) [1] (fun ⟨rest, n, wild, nx⟩ => (n ≤ 8) ∧ (rest.length ≤ s.length) ∧ (7 < nx) ∧ (nameOk s = vscan (rparts rest) n wild) ∧ True) (fun ⟨rest, n, wild, nx⟩ => rest.length) (fun ⟨rest, n, wild, nx⟩ => [(4, .v (.string (bs rest)))]) (fun ⟨rest, n, wild, nx⟩ => [(0, ⟨4, [[.b false]]⟩), (6, ⟨3, [[.i n]]⟩), (7, ⟨4, [[.b wild]]⟩)]) (fun ⟨rest, n, wild, nx⟩ => nx) (s, 0, false, _) (hA := ⟨(by first | (omega) | (dsimp only; omega)), (by first | (first | omega | (simp; omega)) | (dsimp only; first | omega | (simp; omega))), iv, (by (try dsimp only); rw [nameOk_scan, if_neg c1, if_neg (by omega)]), trivial⟩) (round := ?_)
        rintro ⟨rest, n, wild, nx⟩ ⟨hn8, hl, hx, hv, -⟩
        show DW _ _ _ _ { n := _, t := tab _, h := _, nx := _, e := _ }
        simp only [List.cons_append, List.nil_append]
        have hL := lastIx_lt rest 46
        have n0 : 0 < nx := by omega
        have n6 : 6 < nx := by omega
        have n7 : 7 < nx := by omega
        refine dw_block ?_
        refine stp Kn ?_ (hok := by (try simp only [go_sem, ff]); all_goals (first | done | exact lastbyte_ct _ _ (by omega)))
        refine dw_seq ?_
        refine dw_seq ?_
        refine dw_yield (C := Kn) (r := rL) 5 (arr_at rfl) rfl rfl rfl (by simp only [List.take_succ_cons, List.take_zero, go_sem, ff]; exact rfl) ?_ (by simp only [go_sem, ff]; exact rfl) (by first | (simp only [go_sem, ff]; done) | (simp only [go_sem, ff]; exact rfl)) (by simp only [go_sem, ff]) (by simp only [go_sem, ff]; exact rfl) (by rw [hp]; rfl) (by rw [hp, hn]; show ∀ p ∈ [13], p < 30; decide) ?_
        · try simp only [go_sem, ff]
          all_goals (first | done | (repeat' (with_reducible apply And.intro)) <;> first | omega | (with_reducible assumption) | (intros; omega) | (intros; simp only [decide_eq_true_eq, decide_eq_false_iff_not, Bool.or_eq_true, Bool.and_eq_true, Bool.or_eq_false_iff, Bool.not_eq_true', Bool.not_eq_false'] at *; omega) | (simp_all; done) | (simp_all; omega))
        rw [ha, hb, hp, hn]
        show DW _ _ _ _ { n := _, t := setPs _ [13] _, h := _, nx := _ }
        simp only [setPs_cons, setPs_nil]
        refine rgn Kn ?_
        refine ⟨rfl, ?_⟩
        refine dw_block ?_
        refine stp Kn ?_
        refine dw_seq ?_
        refine stp Kn ?_
        refine cd (fun c9 => ?_) (fun c9 => ?_) (hp := rfl) (hq := rfl)
        · skip
          refine stp Kn ?_
          refine dw_ret ?_
          refine ⟨rfl, false, some .ret, ⟨rfl, rfl⟩, ⟨_, _, _, _, _, _⟩, by simp only [List.drop_succ_cons, List.drop_zero, S.put, go_sem, ff]; exact rfl, ?_, ?_⟩
          · try simp only [go_sem, ff]
            all_goals (first | done | (repeat' (with_reducible apply And.intro)) <;> first | omega | (with_reducible assumption) | (intros; omega) | (intros; simp only [decide_eq_true_eq, decide_eq_false_iff_not, Bool.or_eq_true, Bool.and_eq_true, Bool.or_eq_false_iff, Bool.not_eq_true', Bool.not_eq_false'] at *; omega) | (simp_all; done) | (simp_all; omega))
          try simp only [clear_eq]
          show DW _ _ _ _ _
          refine cd (fun d3 => ?_) (fun d3 => ?_) (hp := rfl) (hq := rfl)
          · skip
            refine dw_ret ?_
            refine ⟨.inr rfl, some .ret, rfl, ?_⟩
            exact fin 0 (hr := by (try simp only [go_sem, ff]); all_goals (first | (rw [hv, rparts_eq, vscan_1 c9]; done) | (rw [hv, rparts_eq, vscan_2 c9 c12])))
          · skip
            simp at d3
        · skip
          have c9b := cnt_le c9
          refine dw_skip ?_
          show DW _ _ _ _ _
          refine stp Kn ?_
          refine stp Kn ?_ (hok := by (try simp only [go_sem, ff]); all_goals (first | done | (intros; exact islabel_ct _)))
          refine cd (fun c12 => ?_) (fun c12 => ?_) (hp := rfl) (hq := rfl)
          · skip
            refine stp Kn ?_
            refine dw_ret ?_
            refine ⟨rfl, false, some .ret, ⟨rfl, rfl⟩, ⟨_, _, _, _, _, _⟩, by simp only [List.drop_succ_cons, List.drop_zero, S.put, go_sem, ff]; exact rfl, ?_, ?_⟩
            · try simp only [go_sem, ff]
              all_goals (first | done | (repeat' (with_reducible apply And.intro)) <;> first | omega | (with_reducible assumption) | (intros; omega) | (intros; simp only [decide_eq_true_eq, decide_eq_false_iff_not, Bool.or_eq_true, Bool.and_eq_true, Bool.or_eq_false_iff, Bool.not_eq_true', Bool.not_eq_false'] at *; omega) | (simp_all; done) | (simp_all; omega))
            try simp only [clear_eq]
            show DW _ _ _ _ _
            refine cd (fun d3 => ?_) (fun d3 => ?_) (hp := rfl) (hq := rfl)
            · skip
              refine dw_ret ?_
              refine ⟨.inr rfl, some .ret, rfl, ?_⟩
              exact fin 0 (hr := by (try simp only [go_sem, ff]); all_goals (first | (rw [hv, rparts_eq, vscan_1 c9]; done) | (rw [hv, rparts_eq, vscan_2 c9 c12])))
            · skip
              simp at d3
          · skip
            refine dw_skip ?_
            refine ⟨rfl, true, none, ⟨rfl, rfl⟩, ⟨_, _, _, _, _, _⟩, by simp only [List.drop_succ_cons, List.drop_zero, S.put, go_sem, ff]; exact rfl, ?_, ?_⟩
            · try simp only [go_sem, ff]
              all_goals (first | done | (repeat' (with_reducible apply And.intro)) <;> first | omega | (with_reducible assumption) | (intros; omega) | (intros; simp only [decide_eq_true_eq, decide_eq_false_iff_not, Bool.or_eq_true, Bool.and_eq_true, Bool.or_eq_false_iff, Bool.not_eq_true', Bool.not_eq_false'] at *; omega) | (simp_all; done) | (simp_all; omega))
            try simp only [clear_eq]
            show DW _ _ _ _ _
            refine cd (fun d3 => ?_) (fun d3 => ?_)
            · skip
              refine dw_ret ?_
              refine ⟨.inr rfl, none, rfl, ?_⟩
              show DW _ _ _ _ _
              refine stp Kn ?_
              refine dw_ret ?_
              exact fin 0 (hr := by (try simp only [go_sem, ff]); all_goals (rw [hv, rparts_eq, vscan_3 c9 c12, if_pos d3]; rfl))
            · skip
              refine dw_skip ?_
              show DW _ _ _ _ _
              refine rgn Kn ?_
              show ∃ _, _
              exact rnd (rest.take (lastIx rest 46).toNat, n + 1, ((rest.drop (lastIx rest 46 + 1).toNat) == [42]), _) (h1 := ⟨(by first | (omega) | (dsimp only; omega)), (by first | (first | omega | (simp; omega)) | (dsimp only; first | omega | (simp; omega))), iv, (by (try dsimp only); rw [hv, rparts_eq, vscan_3 c9 c12, if_neg d3]), trivial⟩) (h2 := by show (_ : Nat) < _; (simp; omega))
theorem bo90 : hasBody Tryz.prog 90 = true := by kernel_rfl
theorem nvalid_ct (s : Str) : PureCt Tryz.prog 90 [.v (.string (bs s))] (.b (nameOk s)) := by
  refine pure_of_dw Tryz.func90 rfl bo90 (by simp [go_sem, D.nr, nrs, nrr]) (by simp [Tryz.f90]) ?_
  unfold Tryz.f90
  simp only [init_eq]
  have ff := True.intro
  refine stp Kn ?_
  refine stp Kn ?_ (hok := by (try simp only [go_sem, ff]); all_goals (exact tvalid_ct _))
  refine dw_ret ?_
  exact fin 0 (hr := by (try simp only [go_sem, ff]); all_goals (rfl))

end Go.Proofs.YtfggmgafjabbjaaGreatDoor
namespace Go.Proofs.YtfggmgafjabbjaaGreatDoor
open Go.DL Go.Str Go.RowKit
set_option maxRecDepth 10000
set_option linter.unusedSimpArgs false
set_option linter.unusedVariables false
def cmpRen : Go.Shelf.Ren := { f := fun x => match x with | 213 => 171 | 265 => 177 | n => n, t := fun x => match x with | 3 => 3 | 9 => 9 | n => n, g := fun n => n }
theorem cmpLays : Go.Proofs.Lays.n213 Tryz.prog cmpRen := {
  mixed := mix
  f213 := Tryz.func171.trans (by kernel_rfl)
  f265 := Tryz.func177.trans (by kernel_rfl)
  t3 := Tryz.underlying3
  a3 := Tryz.isAgg3
  z3 := Tryz.sizeOf3
  v3 := Tryz.zeroValue3
  t9 := Tryz.underlying9
  a9 := Tryz.isAgg9
  z9 := Tryz.sizeOf9
  v9 := Tryz.zeroValue9 }
theorem cmpS0_ct (a b : Str) : PureCt Tryz.prog 171 [.v (.string (bs a)), .v (.string (bs b))] (.i (Go.Lib.compareBytes a b)) := by
  refine ⟨by kernel_rfl, by simp [D.nr], fun w I vs hI hg hr => ?_⟩
  obtain ⟨x, l, rfl, h1, h2⟩ := hr.of_cons
  obtain ⟨y, l, rfl, h3, h4⟩ := h2.of_cons
  rw [h4.of_nil, h1.v_inv, h3.v_inv]
  have := Go.Proofs.Any.bytealg_CompareString cmpLays (bs a) (bs b) w
  refine callsIn_wide.2 (this.mono ?_)
  rintro e w' ⟨rfl, rfl⟩
  refine ⟨_, rfl, ⟨rfl, rfl, rfl, Nat.le_refl _, Nat.le_refl _, fun _ _ => rfl⟩, ?_⟩
  rw [bs_data, bs_data]
  exact .v _
theorem bo155 : hasBody Tryz.prog 155 = true := by kernel_rfl
theorem cmpS1_ct (a : Str) (b : Str) : PureCt Tryz.prog 155 [.v (.string (bs a)), .v (.string (bs b))] (.i (Go.Lib.compareBytes a b)) := by
  refine pure_of_dw Tryz.func155 rfl bo155 (by simp [go_sem, D.nr, nrs, nrr]) (by simp [Tryz.f155]) ?_
  unfold Tryz.f155
  simp only [init_eq]
  have ff := True.intro
  refine stp Kn ?_
  refine stp Kn ?_ (hok := by (try simp only [go_sem, ff]); all_goals (exact cmpS0_ct _ _))
  refine dw_ret ?_
  exact fin 0 (hr := by (try simp only [go_sem, ff]); all_goals (rfl))

end Go.Proofs.YtfggmgafjabbjaaGreatDoor
namespace Go.Proofs.YtfggmgafjabbjaaGreatDoor
open Go.DL Go.Str Go.RowKit
set_option maxRecDepth 10000
set_option linter.unusedSimpArgs false
set_option linter.unusedVariables false
theorem bo154 : hasBody Tryz.prog 154 = true := by kernel_rfl
theorem puller_ct (s : Str) (h : H) (n : Nat) : RCt Tryz.prog 154 [.v (.string (bs s))] h n (fun d h' n' => d = .fn (.func 170) [] [.mptr (n + 5) 0 0, .mptr (n + 4) 0 0] ∧ h' = upd (upd h (n + 4) (some ⟨9, [[.v (.string (bs s))]]⟩)) (n + 5) (some ⟨4, [[.b (s != [46])]]⟩) ∧ n' = n + 10) := by
  refine rct_of_dw Tryz.func154 rfl bo154 (by simp [Tryz.f154]) (fun hnone => ?_)
  unfold Tryz.f154
  have ff := True.intro
  have e45 : (n + 4 = n + 5) = False := eq_false (by omega)
  have e54 : (n + 5 = n + 4) = False := eq_false (by omega)
  have ff := And.intro @e45 (And.intro @e54 ff)
  refine stp Kn ?_
  refine stp Kn ?_
  refine stp Kn ?_
  refine dw_ret ?_
  exact finr (upd (upd h (n + 4) (some ⟨9, [[.v (.string (bs s))]]⟩)) (n + 5) (some ⟨4, [[.b (s != [46])]]⟩)) (hr := by (try simp only [go_sem, ff]); all_goals (exact ⟨rfl, rfl, rfl⟩)) (hh := by intro q; left; by_cases e1 : q = n + 5 <;> by_cases e2 : q = n + 4 <;> simp [upd, e1, e2])
theorem bo170 : hasBody Tryz.prog 170 = true := by kernel_rfl
theorem pull_ct (more : Bool) (rest : Str) (m r : Nat) (h : H) (n : Nat) (hm : h m = some ⟨4, [[.b more]]⟩) (hr : h r = some ⟨9, [[.v (.string (bs rest))]]⟩) (hmr : m ≠ r) (hl : rest.length ≤ 1000) : RCt Tryz.prog 170 [.mptr m 0 0, .mptr r 0 0] h n (fun d h' n' => d = .tuple [.v (.string (bs (plGive more rest))), .b more] ∧ h' = upd (upd h m (some ⟨4, [[.b (plMore more rest)]]⟩)) r (some ⟨9, [[.v (.string (bs (plRest more rest)))]]⟩) ∧ n ≤ n') := by
  refine rct_of_dw Tryz.func170 rfl bo170 (by simp [Tryz.f170]) (fun hnone => ?_)
  unfold Tryz.f170
  have ff := True.intro
  have hrm : r ≠ m := fun e => hmr e.symm
  have hL := lastIx_lt rest 46
  have ff := And.intro @hm (And.intro @hr (And.intro @hmr (And.intro @hrm ff)))
  refine stp Kn ?_
  refine dw_seq ?_
  refine stp Kn ?_
  refine cd (fun c1 => ?_) (fun c1 => ?_)
  · skip
    refine stp Kn ?_
    refine dw_ret ?_
    exact finr (upd (upd h m (some ⟨4, [[.b (plMore more rest)]]⟩)) r (some ⟨9, [[.v (.string (bs (plRest more rest)))]]⟩)) (hr := by (try simp only [go_sem, ff]); all_goals (first | exact Nat.le_add_right _ _ | (refine ⟨?_, Nat.le_add_right _ _⟩; simp_all [plGive]))) (hh := by intro q; left; by_cases e1 : q = r <;> by_cases e2 : q = m <;> simp_all [upd, plMore, plRest] <;> (rw [if_neg (by omega)]))
  · skip
    refine dw_skip ?_
    show DW _ _ _ _ _
    refine stp Kn ?_ (hok := by (try simp only [go_sem, ff]); all_goals (first | done | exact lastbyte_ct _ _ (by omega)))
    refine stp Kn ?_
    refine dw_seq ?_
    refine stp Kn ?_
    refine cd (fun c2 => ?_) (fun c2 => ?_)
    · skip
      refine rgn Kn ?_
      show DW _ _ _ _ _
      refine stp Kn ?_
      refine dw_ret ?_
      exact finr (upd (upd h m (some ⟨4, [[.b (plMore more rest)]]⟩)) r (some ⟨9, [[.v (.string (bs (plRest more rest)))]]⟩)) (hr := by (try simp only [go_sem, ff]); all_goals (first | exact Nat.le_add_right _ _ | (refine ⟨?_, Nat.le_add_right _ _⟩; simp_all [plGive]))) (hh := by intro q; left; by_cases e1 : q = r <;> by_cases e2 : q = m <;> simp_all [upd, plMore, plRest] <;> (rw [if_neg (by omega)]))
    · skip
      refine rgn Kn ?_
      show DW _ _ _ _ _
      refine stp Kn ?_
      refine dw_ret ?_
      exact finr (upd (upd h m (some ⟨4, [[.b (plMore more rest)]]⟩)) r (some ⟨9, [[.v (.string (bs (plRest more rest)))]]⟩)) (hr := by (try simp only [go_sem, ff]); all_goals (first | exact Nat.le_add_right _ _ | (refine ⟨?_, Nat.le_add_right _ _⟩; simp_all [plGive]))) (hh := by intro q; left; by_cases e1 : q = r <;> by_cases e2 : q = m <;> simp_all [upd, plMore, plRest] <;> (rw [if_neg (by omega)]))

end Go.Proofs.YtfggmgafjabbjaaGreatDoor
namespace Go.Proofs.YtfggmgafjabbjaaGreatDoor
open Go.DL Go.Str Go.RowKit
set_option maxRecDepth 10000
set_option linter.unusedSimpArgs false
set_option linter.unusedVariables false
theorem bo125 : hasBody Tryz.prog 125 = true := by kernel_rfl
theorem ncompare_ct (a : Str) (b : Str) : PureCt Tryz.prog 125 [.v (.string (bs a)), .v (.string (bs b))] (.tuple [.i (if nameOk a && nameOk b then nmCmp a b else 0), .i (if nameOk a && nameOk b then 0 else 11)]) := by
  refine pure_of_dw Tryz.func125 rfl bo125 (by simp [go_sem, D.nr, nrs, nrr]) (by simp [Tryz.f125]) ?_
  unfold Tryz.f125
  simp only [init_eq]
  have ff := True.intro
  refine stp Kn ?_
  refine stp Kn ?_
  refine dw_seq ?_
  refine stp Kn ?_ (hok := by (try simp only [go_sem, ff]); all_goals (first | done | (simp only [tvalid_ct, and_true, implies_true]; done) | ((repeat' (with_reducible apply And.intro)) <;> first | exact tvalid_ct _ | (intros; exact tvalid_ct _))))
  refine cd (fun c1 => ?_) (fun c1 => ?_) (hp := rfl)
  · skip
    refine stp Kn ?_
    refine dw_ret ?_
    exact fin 1 (hr := by (try simp only [go_sem, ff]); all_goals ((have e : (nameOk a && nameOk b) = false := by revert c1; cases nameOk a <;> cases nameOk b <;> simp); rw [e]; rfl))
  · skip
    refine dw_skip ?_
    show DW _ _ _ _ _
    refine dw_seq ?_
    refine stp Kn ?_
    refine cd (fun c2 => ?_) (fun c2 => ?_)
    · skip
      refine stp Kn ?_
      refine dw_ret ?_
      exact fin 1 (hr := by (try simp only [go_sem, ff]); all_goals (rw [c1.1, c1.2, nmCmp, if_pos c2]; rfl))
    · skip
      refine dw_skip ?_
      show DW _ _ _ _ _
      refine dw_seq (cal1 Kn 1 (hct := by exact puller_ct b _ _) (hk := ?_))
      rintro res h2 n2 ⟨rfl, rfl, rfl⟩
      refine cal2 Kn ?_
      show DW _ _ _ _ _
      refine stp Kn ?_
      refine dw_seq ?_
      refine stp Kn ?_
      refine dw_block ?_
      refine dw_rangeFunc (by simp only [go_sem, ff]) (by simp only [go_sem, ff]; exact rfl) Tryz.func152 rfl bo152 (by simp [Tryz.f152]) rfl (fun l rL hp ha hb hn => ?_)
      unfold Tryz.f152
      refine dw_seq ?_
      refine stp Kn ?_
      refine cd (fun d0 => ?_) (fun d0 => ?_)
      · skip
        refine dw_ret ?_
        refine ⟨.inr rfl, none, rfl, ?_⟩
        show DW _ _ _ _ _
        refine stp Kn ?_
        refine dw_ret ?_
        exact fin 1 (hr := by (try simp only [go_sem, ff]); all_goals (first | (rw [c1.1, c1.2, nmCmp, if_neg c2, hv, cmp_3 c11 c14, if_pos d3]; rfl) | (rw [c1.1, c1.2, nmCmp, if_neg c2, d0]; rfl)))
      · skip
        refine dw_skip ?_
        show DW _ _ _ _ _
        refine stp Kn ?_
        refine dw_block ?_
        refine lp (α := (Str) × (Bool) × (Str) × Nat) [1] (fun ⟨rest, more, rest2, nx⟩ => (rest.length ≤ 60) ∧ (rest2.length ≤ 60) ∧ (30 < nx) ∧ (cmpLp (rlabs a) (rlabs b) = cmpLp (rparts rest) (pl more rest2)) ∧ True) (fun ⟨rest, more, rest2, nx⟩ => rest.length) (fun ⟨rest, more, rest2, nx⟩ => [(4, .v (.string (bs rest)))]) (fun ⟨rest, more, rest2, nx⟩ => [(0, ⟨3, [[.i 0]]⟩), (1, ⟨31, [[.i 0]]⟩), (22, ⟨9, [[.v (.string (bs rest2))]]⟩), (23, ⟨4, [[.b more]]⟩), (30, ⟨162, [[.fn (.func 170) [] [.mptr 23 0 0, .mptr 22 0 0]]]⟩)]) (fun ⟨rest, more, rest2, nx⟩ => nx) (a, (b != [46]), b, _) (hA := ⟨(by first | (exact nameOk_len c1.1) | (dsimp only; exact nameOk_len c1.1)), (by first | (exact nameOk_len c1.2) | (dsimp only; exact nameOk_len c1.2)), iv, (by (try dsimp only); rw [rlabs_pl b, rlabs, if_neg d0]), trivial⟩) (round := ?_)
        rintro ⟨rest, more, rest2, nx⟩ ⟨hl, hl2, hx, hv, -⟩
        show DW _ _ _ _ { n := _, t := tab _, h := _, nx := _, e := _ }
        simp only [List.cons_append, List.nil_append]
        have hL := lastIx_lt rest 46
        have n0 : 0 < nx := by omega
        have n1 : 1 < nx := by omega
        have n22 : 22 < nx := by omega
        have n23 : 23 < nx := by omega
        refine dw_block ?_
        refine stp Kn ?_ (hok := by (try simp only [go_sem, ff]); all_goals (first | done | exact lastbyte_ct _ _ (by omega)))
        refine dw_seq ?_
        refine dw_seq ?_
        refine dw_yield (C := Kn) (r := rL) 5 (arr_at rfl) rfl rfl rfl (by simp only [List.take_succ_cons, List.take_zero, go_sem, ff]; exact rfl) ?_ (by simp only [go_sem, ff]; exact rfl) (by first | (simp only [go_sem, ff]; done) | (simp only [go_sem, ff]; exact rfl)) (by simp only [go_sem, ff]) (by simp only [go_sem, ff]; exact rfl) (by rw [hp]; rfl) (by rw [hp, hn]; show ∀ p ∈ [32], p < 46; decide) ?_
        · try simp only [go_sem, ff]
          all_goals (first | done | (repeat' (with_reducible apply And.intro)) <;> first | omega | (with_reducible assumption) | (intros; omega) | (intros; simp only [decide_eq_true_eq, decide_eq_false_iff_not, Bool.or_eq_true, Bool.and_eq_true, Bool.or_eq_false_iff, Bool.not_eq_true', Bool.not_eq_false'] at *; omega) | (simp_all; done) | (simp_all; omega))
        rw [ha, hb, hp, hn]
        show DW _ _ _ _ { n := _, t := setPs _ [32] _, h := _, nx := _ }
        simp only [setPs_cons, setPs_nil]
        refine rgn Kn ?_
        refine ⟨rfl, ?_⟩
        refine dw_block ?_
        refine dw_seq (cal1 Kn 1 (hct := by exact pull_ct more rest2 23 22 _ _ rfl rfl (by decide) (by omega)) (hk := ?_))
        rintro res h2 n2 ⟨rfl, rfl, hn2⟩
        refine cal2 Kn ?_
        show DW _ _ _ _ _
        refine dw_seq ?_
        refine stp Kn ?_
        refine cd (fun c11 => ?_) (fun c11 => ?_) (hp := rfl) (hq := rfl)
        · skip
          refine stp Kn ?_
          refine dw_ret ?_
          refine ⟨rfl, false, some .ret, ⟨rfl, rfl⟩, ⟨_, _, _, _, _, _⟩, by simp only [List.drop_succ_cons, List.drop_zero, S.put, go_sem, ff]; exact rfl, ?_, ?_⟩
          · try simp only [go_sem, ff]
            all_goals (first | done | (repeat' (with_reducible apply And.intro)) <;> first | omega | (with_reducible assumption) | (intros; omega) | (intros; simp only [decide_eq_true_eq, decide_eq_false_iff_not, Bool.or_eq_true, Bool.and_eq_true, Bool.or_eq_false_iff, Bool.not_eq_true', Bool.not_eq_false'] at *; omega) | (simp_all; done) | (simp_all; omega))
          try simp only [clear_eq]
          show DW _ _ _ _ _
          refine cd (fun d3 => ?_) (fun d3 => ?_) (hp := rfl) (hq := rfl)
          · skip
            refine dw_ret ?_
            refine ⟨.inr rfl, some .ret, rfl, ?_⟩
            exact fin 1 (hr := by (try simp only [go_sem, ff]); all_goals (first | (rw [c1.1, c1.2, nmCmp, if_neg c2, hv, cmp_1 c11]; done) | (rw [c1.1, c1.2, nmCmp, if_neg c2, hv, cmp_1 c11]; rfl) | (rw [c1.1, c1.2, nmCmp, if_neg c2, hv, cmp_2 c11 c14]; rfl)))
          · skip
            simp at d3
        · skip
          refine dw_skip ?_
          show DW _ _ _ _ _
          refine stp Kn ?_ (hok := by (try simp only [go_sem, ff]); all_goals (exact cmpS1_ct _ _))
          refine stp Kn ?_
          refine cd (fun c14 => ?_) (fun c14 => ?_) (hp := rfl) (hq := rfl)
          · skip
            refine stp Kn ?_
            refine dw_ret ?_
            refine ⟨rfl, false, some .ret, ⟨rfl, rfl⟩, ⟨_, _, _, _, _, _⟩, by simp only [List.drop_succ_cons, List.drop_zero, S.put, go_sem, ff]; exact rfl, ?_, ?_⟩
            · try simp only [go_sem, ff]
              all_goals (first | done | (repeat' (with_reducible apply And.intro)) <;> first | omega | (with_reducible assumption) | (intros; omega) | (intros; simp only [decide_eq_true_eq, decide_eq_false_iff_not, Bool.or_eq_true, Bool.and_eq_true, Bool.or_eq_false_iff, Bool.not_eq_true', Bool.not_eq_false'] at *; omega) | (simp_all; done) | (simp_all; omega))
            try simp only [clear_eq]
            show DW _ _ _ _ _
            refine cd (fun d3 => ?_) (fun d3 => ?_) (hp := rfl) (hq := rfl)
            · skip
              refine dw_ret ?_
              refine ⟨.inr rfl, some .ret, rfl, ?_⟩
              exact fin 1 (hr := by (try simp only [go_sem, ff]); all_goals (first | (rw [c1.1, c1.2, nmCmp, if_neg c2, hv, cmp_1 c11]; done) | (rw [c1.1, c1.2, nmCmp, if_neg c2, hv, cmp_1 c11]; rfl) | (rw [c1.1, c1.2, nmCmp, if_neg c2, hv, cmp_2 c11 c14]; rfl)))
            · skip
              simp at d3
          · skip
            refine dw_skip ?_
            refine ⟨rfl, true, none, ⟨rfl, rfl⟩, ⟨_, _, _, _, _, _⟩, by simp only [List.drop_succ_cons, List.drop_zero, S.put, go_sem, ff]; exact rfl, ?_, ?_⟩
            · try simp only [go_sem, ff]
              all_goals (first | done | (repeat' (with_reducible apply And.intro)) <;> first | omega | (with_reducible assumption) | (intros; omega) | (intros; simp only [decide_eq_true_eq, decide_eq_false_iff_not, Bool.or_eq_true, Bool.and_eq_true, Bool.or_eq_false_iff, Bool.not_eq_true', Bool.not_eq_false'] at *; omega) | (simp_all; done) | (simp_all; omega))
            try simp only [clear_eq]
            show DW _ _ _ _ _
            refine cd (fun d3 => ?_) (fun d3 => ?_)
            · skip
              refine dw_ret ?_
              refine ⟨.inr rfl, none, rfl, ?_⟩
              show DW _ _ _ _ _
              refine stp Kn ?_
              refine dw_ret ?_
              exact fin 1 (hr := by (try simp only [go_sem, ff]); all_goals (first | (rw [c1.1, c1.2, nmCmp, if_neg c2, hv, cmp_3 c11 c14, if_pos d3]; rfl) | (rw [c1.1, c1.2, nmCmp, if_neg c2, d0]; rfl)))
            · skip
              refine dw_skip ?_
              show DW _ _ _ _ _
              refine rgn Kn ?_
              show ∃ _, _
              exact rnd (rest.take (lastIx rest 46).toNat, plMore more rest2, plRest more rest2, _) (h1 := ⟨(by first | (first | omega | (simp; omega)) | (dsimp only; first | omega | (simp; omega))), (by (try dsimp only); first | omega | (have := plRest_len more rest2; omega)), iv, (by (try dsimp only); rw [hv, cmp_3 c11 c14, if_neg d3]), trivial⟩) (h2 := by show (_ : Nat) < _; (simp; omega))

end Go.Proofs.YtfggmgafjabbjaaGreatDoor
namespace Go.Proofs.YtfggmgafjabbjaaGreatDoor
open Go.DL Go.Str Go.RowKit
set_option maxRecDepth 10000
set_option linter.unusedSimpArgs false
set_option linter.unusedVariables false
theorem bo122 : hasBody Tryz.prog 122 = true := by kernel_rfl
theorem rorder_ct (a : Str) (b : Str) (ha : a.length ≤ 1000) (hb : b.length ≤ 1000) : PureCt Tryz.prog 122 [.v (.string (bs a)), .v (.string (bs b))] (.i (nmOrd a b)) := by
  rw [nmOrd_ix]
  refine pure_of_dw Tryz.func122 rfl bo122 (by simp [go_sem, D.nr, nrs, nrr]) (by simp [Tryz.f122]) ?_
  unfold Tryz.f122
  simp only [init_eq]
  have ff := True.intro
  have hl := (partsOf_len a).2
  have hm := (partsOf_len b).2
  refine stp Kn ?_
  refine stp Kn ?_ (hok := by (try simp only [go_sem, ff]); all_goals (exact rparts1_ct _ ha))
  refine stp Kn ?_ (hok := by (try simp only [go_sem, ff]); all_goals (exact rparts1_ct _ hb))
  refine dw_seq ?_
  refine stp Kn ?_
  refine dw_block ?_
  refine lp (α := (Nat) × Nat) [5, 6] (fun ⟨k, nx⟩ => (1 ≤ k) ∧ (k ≤ (partsOf a).length + 1) ∧ (ordIx (partsOf a) (partsOf b) 1 = ordIx (partsOf a) (partsOf b) k) ∧ True) (fun ⟨k, nx⟩ => (partsOf a).length + 1 - k) (fun ⟨k, nx⟩ => [(7, .i k)]) (fun ⟨k, nx⟩ => []) (fun ⟨k, nx⟩ => nx) (1, _) (hA := ⟨iv, iv, rfl, trivial⟩) (round := ?_)
  rintro ⟨k, nx⟩ ⟨hk, hk1, hv, -⟩
  show DW _ _ _ _ { n := _, t := tab _, h := _, nx := _, e := _ }
  simp only [List.cons_append, List.nil_append]
  refine dw_seq ?_
  refine stp Kn ?_
  refine cd (fun c1 => ?_) (fun c1 => ?_) (hp := rfl) (hq := rfl)
  · skip
    have hk2 : k ≤ (partsOf a).length ∧ k ≤ (partsOf b).length := by simp only [Bool.and_eq_true, decide_eq_true_eq] at c1; omega
    have e1 : (((partsOf a).length : Int) - k).toNat = (partsOf a).length - k := by omega
    have e2 : (((partsOf b).length : Int) - k).toNat = (partsOf b).length - k := by omega
    have g1 : (partsOf a).length - k < (partsOf a).length := by omega
    have g2 : (partsOf b).length - k < (partsOf b).length := by omega
    have ff := And.intro @e1 (And.intro @e2 (And.intro (getD_sR g1) (And.intro (getD_sR g2) ff)))
    refine dw_skip ?_
    show DW _ _ _ _ _
    refine dw_seq ?_
    refine dw_block ?_
    refine stp Kn ?_
    refine stp Kn ?_
    refine dw_seq ?_
    refine stp Kn ?_
    refine cd (fun c2 => ?_) (fun c2 => ?_) (hp := rfl) (hq := rfl)
    · skip
      refine stp Kn ?_
      refine dw_ret ?_
      exact fin 0 (hr := by (try simp only [go_sem, ff]); all_goals (rw [hv, ordIx_eq, if_pos hk2, if_pos c2]))
    · skip
      refine dw_skip ?_
      show DW _ _ _ _ _
      refine stp Kn ?_
      refine cd (fun c3 => ?_) (fun c3 => ?_) (hp := rfl) (hq := rfl)
      · skip
        refine stp Kn ?_
        refine dw_ret ?_
        exact fin 0 (hr := by (try simp only [go_sem, ff]); all_goals (rw [hv, ordIx_eq, if_pos hk2, if_neg (by rw [c2]; simp), if_pos c3]))
      · skip
        refine dw_skip ?_
        show DW _ _ _ _ _
        refine rgn Kn ?_
        show ∃ _, _
        exact rnd (k + 1, _) (h1 := ⟨iv, iv, (by (try dsimp only); rw [hv, ordIx_eq, if_pos hk2, if_neg (by rw [c2]; simp), if_neg (by rw [c3]; simp)]), trivial⟩)
  · skip
    have hk2 : ¬ (k ≤ (partsOf a).length ∧ k ≤ (partsOf b).length) := by simp only [Bool.and_eq_false_iff, decide_eq_false_iff_not] at c1; omega
    refine dw_exit ?_
    show DW _ _ _ _ _
    refine dw_seq ?_
    refine stp Kn ?_
    refine cd (fun c4 => ?_) (fun c4 => ?_)
    · skip
      refine stp Kn ?_
      refine dw_ret ?_
      exact fin 0 (hr := by (try simp only [go_sem, ff]); all_goals (rw [hv, ordIx_eq, if_neg hk2, if_pos (by omega)]))
    · skip
      refine dw_skip ?_
      show DW _ _ _ _ _
      refine dw_seq ?_
      refine stp Kn ?_
      refine cd (fun c5 => ?_) (fun c5 => ?_)
      · skip
        refine stp Kn ?_
        refine dw_ret ?_
        exact fin 0 (hr := by (try simp only [go_sem, ff]); all_goals (rw [hv, ordIx_eq, if_neg hk2, if_neg (by omega), if_pos (by omega)]))
      · skip
        refine dw_skip ?_
        show DW _ _ _ _ _
        refine stp Kn ?_
        refine dw_ret ?_
        exact fin 0 (hr := by (try simp only [go_sem, ff]); all_goals (rw [hv, ordIx_eq, if_neg hk2, if_neg (by omega), if_neg (by omega)]))
theorem bo120 : hasBody Tryz.prog 120 = true := by kernel_rfl
theorem rncompare_ct (a : Str) (b : Str) : PureCt Tryz.prog 120 [.v (.string (bs a)), .v (.string (bs b))] (.tuple [.i (if nameOk a && nameOk b then nmCmp a b else 0), .i (if nameOk a && nameOk b then 0 else 11)]) := by
  refine pure_of_dw Tryz.func120 rfl bo120 (by simp [go_sem, D.nr, nrs, nrr]) (by simp [Tryz.f120]) ?_
  unfold Tryz.f120
  simp only [init_eq]
  have ff := True.intro
  refine stp Kn ?_
  refine stp Kn ?_ (hok := by (try simp only [go_sem, ff]); all_goals (exact rnvalid_ct _))
  refine stp Kn ?_ (hok := by (try simp only [go_sem, ff]); all_goals (exact rnvalid_ct _))
  refine dw_seq ?_
  refine stp Kn ?_
  refine cd (fun c1 => ?_) (fun c1 => ?_) (hp := rfl)
  · skip
    have e : (nameOk a && nameOk b) = false := by revert c1; cases nameOk a <;> cases nameOk b <;> simp
    refine stp Kn ?_
    refine dw_ret ?_
    exact fin 1 (hr := by (try simp only [go_sem, ff]); all_goals (rw [e]; rfl))
  · skip
    have e : (nameOk a && nameOk b) = true := by rw [c1.1, c1.2]; rfl
    have la := nameOk_len c1.1
    have lb := nameOk_len c1.2
    refine dw_skip ?_
    show DW _ _ _ _ _
    refine stp Kn ?_ (hok := by (try simp only [go_sem, ff]); all_goals (exact rorder_ct _ _ (by omega) (by omega)))
    refine dw_ret ?_
    exact fin 1 (hr := by (try simp only [go_sem, ff]); all_goals (rw [e, nmCmp_ord]; rfl))

end Go.Proofs.YtfggmgafjabbjaaGreatDoor
namespace Go.Proofs.YtfggmgafjabbjaaGreatDoor
open Go.DL Go.Str Go.Rec
set_option maxRecDepth 10000
set_option linter.unusedSimpArgs false
set_option linter.unusedVariables false
theorem bo127 : hasBody Tryz.prog 127 = true := by kernel_rfl
theorem within_ct (x : Int) (lo : Int) (hi : Int) : PureCt Tryz.prog 127 [.i x, .i lo, .i hi] (.b (inR x lo hi)) := by
  refine pure_of_dw Tryz.func127 rfl bo127 (by simp [go_sem, D.nr, nrs, nrr]) (by simp [Tryz.f127]) ?_
  unfold Tryz.f127
  simp only [init_eq]
  have ff := True.intro
  refine stp Kn ?_
  refine stp Kn ?_
  refine dw_ret ?_
  exact fin 0 (hr := by (try simp only [go_sem, ff]); all_goals (rfl))
theorem bo172 : hasBody Tryz.prog 172 = true := by kernel_rfl
theorem withinb_ct (x : Int) (lo : Int) (hi : Int) : PureCt Tryz.prog 172 [.v (.int .u8 x), .v (.int .u8 lo), .v (.int .u8 hi)] (.b (inR x lo hi)) := by
  refine pure_of_dw Tryz.func172 rfl bo172 (by simp [go_sem, D.nr, nrs, nrr]) (by simp [Tryz.f172]) ?_
  unfold Tryz.f172
  simp only [init_eq]
  have ff := True.intro
  refine stp Kn ?_
  refine stp Kn ?_
  refine dw_ret ?_
  exact fin 0 (hr := by (try simp only [go_sem, ff]); all_goals (rfl))
theorem bo116 : hasBody Tryz.prog 116 = true := by kernel_rfl
theorem rwithin_ct (x : Int) (lo : Int) (hi : Int) : PureCt Tryz.prog 116 [.i x, .i lo, .i hi] (.b (inR x lo hi)) := by
  refine pure_of_dw Tryz.func116 rfl bo116 (by simp [go_sem, D.nr, nrs, nrr]) (by simp [Tryz.f116]) ?_
  unfold Tryz.f116
  simp only [init_eq]
  have ff := True.intro
  refine stp Kn ?_
  refine stp Kn ?_
  refine dw_ret ?_
  exact fin 0 (hr := by (try simp only [go_sem, ff]); all_goals (rfl))
theorem bo156 : hasBody Tryz.prog 156 = true := by kernel_rfl
theorem nanI_ct (x : Int) : PureCt Tryz.prog 156 [.i x] (.b (x != x)) := by
  refine pure_of_dw Tryz.func156 rfl bo156 (by simp [go_sem, D.nr, nrs, nrr]) (by simp [Tryz.f156]) ?_
  unfold Tryz.f156
  simp only [init_eq]
  have ff := True.intro
  refine stp Kn ?_
  refine stp Kn ?_
  refine dw_ret ?_
  exact fin 0 (hr := by (try simp only [go_sem, ff]); all_goals (rfl))
theorem bo173 : hasBody Tryz.prog 173 = true := by kernel_rfl
theorem nanS_ct (x : Str) : PureCt Tryz.prog 173 [.v (.string (bs x))] (.b (x != x)) := by
  refine pure_of_dw Tryz.func173 rfl bo173 (by simp [go_sem, D.nr, nrs, nrr]) (by simp [Tryz.f173]) ?_
  unfold Tryz.f173
  simp only [init_eq]
  have ff := True.intro
  refine stp Kn ?_
  refine stp Kn ?_
  refine dw_ret ?_
  exact fin 0 (hr := by (try simp only [go_sem, ff]); all_goals (rfl))
theorem bo126 : hasBody Tryz.prog 126 = true := by kernel_rfl
theorem cmpint_ct (x : Int) (y : Int) : PureCt Tryz.prog 126 [.i x, .i y] (.i (cmpI x y)) := by
  refine pure_of_dw Tryz.func126 rfl bo126 (by simp [go_sem, D.nr, nrs, nrr]) (by simp [Tryz.f126]) ?_
  unfold Tryz.f126
  simp only [init_eq]
  have ff := True.intro
  refine stp Kn ?_
  refine stp Kn ?_ (hok := by (try simp only [go_sem, ff]); all_goals (have h := nanI_ct x; simp only [bne_self_eq_false] at h; exact h))
  refine stp Kn ?_ (hok := by (try simp only [go_sem, ff]); all_goals (have h := nanI_ct y; simp only [bne_self_eq_false] at h; exact h))
  refine dw_seq ?_
  refine stp Kn ?_
  refine cd (fun c1 => ?_) (fun c1 => ?_) (hp := rfl)
  · skip
    simp at c1
  · skip
    refine dw_skip ?_
    show DW _ _ _ _ _
    refine dw_seq ?_
    refine stp Kn ?_
    refine cd (fun c2 => ?_) (fun c2 => ?_) (hp := rfl)
    · skip
      simp at c2
    · skip
      refine dw_skip ?_
      show DW _ _ _ _ _
      refine dw_seq ?_
      refine stp Kn ?_
      refine cd (fun c3 => ?_) (fun c3 => ?_)
      · skip
        refine stp Kn ?_
        refine dw_ret ?_
        exact fin 0 (hr := by (try simp only [go_sem, ff]); all_goals (simp only [cmpI, cmpS, ltS]; first | (simp_all; done) | ((repeat' split) <;> first | rfl | omega)))
      · skip
        refine dw_skip ?_
        show DW _ _ _ _ _
        refine dw_seq ?_
        refine stp Kn ?_
        refine cd (fun c4 => ?_) (fun c4 => ?_)
        · skip
          refine stp Kn ?_
          refine dw_ret ?_
          exact fin 0 (hr := by (try simp only [go_sem, ff]); all_goals (simp only [cmpI, cmpS, ltS]; first | (simp_all; done) | ((repeat' split) <;> first | rfl | omega)))
        · skip
          refine dw_skip ?_
          show DW _ _ _ _ _
          refine stp Kn ?_
          refine dw_ret ?_
          exact fin 0 (hr := by (try simp only [go_sem, ff]); all_goals (simp only [cmpI, cmpS, ltS]; first | (simp_all; done) | ((repeat' split) <;> first | rfl | omega)))
theorem bo159 : hasBody Tryz.prog 159 = true := by kernel_rfl
theorem cmpstr_ct (x : Str) (y : Str) : PureCt Tryz.prog 159 [.v (.string (bs x)), .v (.string (bs y))] (.i (cmpS x y)) := by
  refine pure_of_dw Tryz.func159 rfl bo159 (by simp [go_sem, D.nr, nrs, nrr]) (by simp [Tryz.f159]) ?_
  unfold Tryz.f159
  simp only [init_eq]
  have ff := True.intro
  refine stp Kn ?_
  refine stp Kn ?_ (hok := by (try simp only [go_sem, ff]); all_goals (have h := nanS_ct x; simp only [bne_self_eq_false] at h; exact h))
  refine stp Kn ?_ (hok := by (try simp only [go_sem, ff]); all_goals (have h := nanS_ct y; simp only [bne_self_eq_false] at h; exact h))
  refine dw_seq ?_
  refine stp Kn ?_
  refine cd (fun c1 => ?_) (fun c1 => ?_) (hp := rfl)
  · skip
    simp at c1
  · skip
    refine dw_skip ?_
    show DW _ _ _ _ _
    refine dw_seq ?_
    refine stp Kn ?_
    refine cd (fun c2 => ?_) (fun c2 => ?_) (hp := rfl)
    · skip
      simp at c2
    · skip
      refine dw_skip ?_
      show DW _ _ _ _ _
      refine dw_seq ?_
      refine stp Kn ?_
      refine cd (fun c3 => ?_) (fun c3 => ?_)
      · skip
        refine stp Kn ?_
        refine dw_ret ?_
        exact fin 0 (hr := by (try simp only [go_sem, ff]); all_goals (simp only [cmpI, cmpS, ltS]; first | (simp_all; done) | ((repeat' split) <;> first | rfl | omega)))
      · skip
        refine dw_skip ?_
        show DW _ _ _ _ _
        refine dw_seq ?_
        refine stp Kn ?_
        refine cd (fun c4 => ?_) (fun c4 => ?_)
        · skip
          refine stp Kn ?_
          refine dw_ret ?_
          exact fin 0 (hr := by (try simp only [go_sem, ff]); all_goals (simp only [cmpI, cmpS, ltS]; first | (simp_all; done) | ((repeat' split) <;> first | rfl | omega)))
        · skip
          refine dw_skip ?_
          show DW _ _ _ _ _
          refine stp Kn ?_
          refine dw_ret ?_
          exact fin 0 (hr := by (try simp only [go_sem, ff]); all_goals (simp only [cmpI, cmpS, ltS]; first | (simp_all; done) | ((repeat' split) <;> first | rfl | omega)))
theorem bo124 : hasBody Tryz.prog 124 = true := by kernel_rfl
theorem haspre0_ct (s : Str) (p : Str) : PureCt Tryz.prog 124 [.v (.string (bs s)), .v (.string (bs p))] (.b (hasPre s p)) := by
  refine pure_of_dw Tryz.func124 rfl bo124 (by simp [go_sem, D.nr, nrs, nrr]) (by simp [Tryz.f124]) ?_
  unfold Tryz.f124
  simp only [init_eq]
  have ff := True.intro
  refine stp Kn ?_
  refine stp Kn ?_
  refine dw_ret ?_
  exact fin 0 (hr := by (try simp only [go_sem, ff]); all_goals (have e : decide ((p.length : Int) ≤ s.length) = decide (p.length ≤ s.length) := decide_eq_decide.2 (by omega); rw [hasPre, e]))
theorem bo91 : hasBody Tryz.prog 91 = true := by kernel_rfl
theorem haspre_ct (s : Str) (p : Str) : PureCt Tryz.prog 91 [.v (.string (bs s)), .v (.string (bs p))] (.b (hasPre s p)) := by
  refine pure_of_dw Tryz.func91 rfl bo91 (by simp [go_sem, D.nr, nrs, nrr]) (by simp [Tryz.f91]) ?_
  unfold Tryz.f91
  simp only [init_eq]
  have ff := True.intro
  refine stp Kn ?_
  refine stp Kn ?_ (hok := by (try simp only [go_sem, ff]); all_goals (first | exact ok0 | (apply haspre0_ct <;> omega) | (intros; apply haspre0_ct <;> omega)))
  refine dw_ret ?_
  exact fin 0 (hr := by (try simp only [go_sem, ff]); all_goals (rfl))
theorem bo128 : hasBody Tryz.prog 128 = true := by kernel_rfl
theorem iswild_ct (s : Str) : PureCt Tryz.prog 128 [.v (.string (bs s))] (.b (wildB s)) := by
  refine pure_of_dw Tryz.func128 rfl bo128 (by simp [go_sem, D.nr, nrs, nrr]) (by simp [Tryz.f128]) ?_
  unfold Tryz.f128
  simp only [init_eq]
  have ff := True.intro
  refine stp Kn ?_
  refine stp Kn ?_ (hok := by (try simp only [go_sem, ff]); all_goals (first | exact ok0 | (apply haspre_ct <;> omega) | (intros; apply haspre_ct <;> omega)))
  refine dw_ret ?_
  exact fin 0 (hr := by (try simp only [go_sem, ff]); all_goals (rw [wild_pre]))
theorem bo110 : hasBody Tryz.prog 110 = true := by kernel_rfl
theorem rwild_ct (s : Str) : PureCt Tryz.prog 110 [.v (.string (bs s))] (.b (wildB s)) := by
  refine pure_of_dw Tryz.func110 rfl bo110 (by simp [go_sem, D.nr, nrs, nrr]) (by simp [Tryz.f110]) ?_
  unfold Tryz.f110
  simp only [init_eq]
  have ff := True.intro
  refine stp Kn ?_
  refine stp Kn ?_
  refine dw_ret ?_
  exact fin 0 (hr := by (try simp only [go_sem, ff]); all_goals (rw [wildB]; congr 2; rw [Bool.eq_iff_iff]; simp only [Bool.and_eq_true, decide_eq_true_eq, beq_iff_eq]; omega))
theorem bo157 : hasBody Tryz.prog 157 = true := by kernel_rfl
theorem isfree_ct (s : Str) : PureCt Tryz.prog 157 [.v (.string (bs s))] (.b (freeB s)) := by
  rw [freeB]
  refine pure_of_dw Tryz.func157 rfl bo157 (by simp [go_sem, D.nr, nrs, nrr]) (by simp [Tryz.f157]) ?_
  unfold Tryz.f157
  simp only [init_eq]
  have ff := True.intro
  have e1 : ((s.length:Int) - 1).toNat = s.length - 1 := by omega
  have ff := And.intro @e1 ff
  refine stp Kn ?_
  refine dw_seq ?_
  have hin : inR (s.length : Int) 1 40 = true → (1:Int) ≤ s.length ∧ (s.length : Int) ≤ 40 := by intro h; simp only [inR, Bool.and_eq_true, decide_eq_true_eq] at h; exact h
  refine stp Kn ?_ (hok := by (try simp only [go_sem, ff]); all_goals (refine ⟨⟨⟨within_ct _ _ _, fun h => by have := hin h; omega⟩, fun h => ?_⟩, fun h => ?_⟩ <;> (rw [Bool.or_eq_false_iff, Bool.not_eq_false'] at h; have := hin h.1; omega)))
  refine cd (fun c1 => ?_) (fun c1 => ?_)
  · skip
    try simp only [inR, Bool.and_eq_true, Bool.and_eq_false_iff, decide_eq_true_eq, decide_eq_false_iff_not] at c1
    refine stp Kn ?_
    refine dw_ret ?_
    exact fin 0 (hr := by (try simp only [go_sem, ff]); all_goals ((repeat' split) <;> first | rfl | (exfalso; omega)))
  · skip
    try simp only [inR, Bool.and_eq_true, Bool.and_eq_false_iff, decide_eq_true_eq, decide_eq_false_iff_not] at c1
    refine dw_skip ?_
    show DW _ _ _ _ _
    refine dw_seq ?_
    refine stp Kn ?_
    refine dw_block ?_
    refine lp (α := (Nat) × Nat) [0, 23] (fun ⟨k, nx⟩ => (k ≤ s.length) ∧ (allN s.length (freeIn s) 0 = allN s.length (freeIn s) k) ∧ True) (fun ⟨k, nx⟩ => s.length - k) (fun ⟨k, nx⟩ => [(24, .i k)]) (fun ⟨k, nx⟩ => []) (fun ⟨k, nx⟩ => nx) (0, _) (hA := ⟨iv, rfl, trivial⟩) (round := ?_)
    rintro ⟨k, nx⟩ ⟨hk, hv, -⟩
    show DW _ _ _ _ { n := _, t := tab _, h := _, nx := _, e := _ }
    simp only [List.cons_append, List.nil_append]
    refine stp Kn ?_
    refine dw_seq ?_
    refine cd (fun c2 => ?_) (fun c2 => ?_) (hp := rfl)
    · skip
      have hk2 : k < s.length := by simpa using c2
      refine dw_skip ?_
      show DW _ _ _ _ _
      refine dw_seq ?_
      refine dw_block ?_
      refine stp Kn ?_
      refine stp Kn ?_
      refine stp Kn ?_ (hok := by (try simp only [go_sem, ff]); all_goals (first | done | (simp only [withinb_ct, and_true, implies_true]; done) | ((repeat' (with_reducible apply And.intro)) <;> first | exact withinb_ct _ _ _ | (intros; exact withinb_ct _ _ _) | (intros; simp_all; done))))
      refine cd (fun c3 => ?_) (fun c3 => ?_)
      · skip
        refine stp Kn ?_
        refine dw_ret ?_
        exact fin 0 (hr := by (try simp only [go_sem, ff]); all_goals (have h8 : freeIn s k = false := (by simp only [freeIn, alnum, Bool.or_eq_false_iff, Bool.and_eq_false_iff, decide_eq_false_iff_not]; (try simp only [inR, Bool.and_eq_true, Bool.and_eq_false_iff, decide_eq_true_eq, decide_eq_false_iff_not] at c3); omega); rw [hv, allN_eq, if_pos hk2, h8]; (repeat' split) <;> rfl))
      · skip
        refine dw_skip ?_
        show DW _ _ _ _ _
        refine rgn Kn ?_
        show ∃ _, _
        exact rnd (k + 1, _) (h1 := ⟨iv, (by (try dsimp only); have h8 : freeIn s k = true := (by simp only [freeIn, alnum, Bool.or_eq_true, Bool.and_eq_true, decide_eq_true_eq]; (try simp only [inR, Bool.and_eq_true, Bool.and_eq_false_iff, decide_eq_true_eq, decide_eq_false_iff_not] at c3); omega); rw [hv, allN_eq, if_pos hk2, h8]; rfl), trivial⟩)
    · skip
      refine dw_exit ?_
      show DW _ _ _ _ _
      refine stp Kn ?_
      refine dw_ret ?_
      exact fin 0 (hr := by (try simp only [go_sem, ff]); all_goals (rw [hv, allN_eq, if_neg (by omega), if_neg (by omega), if_neg (by omega), if_neg (by omega), if_neg (by omega)]))
theorem bo150 : hasBody Tryz.prog 150 = true := by kernel_rfl
theorem rtext_ct (s : Str) : PureCt Tryz.prog 150 [.v (.string (bs s))] (.b (freeB s)) := by
  rw [freeB]
  refine pure_of_dw Tryz.func150 rfl bo150 (by simp [go_sem, D.nr, nrs, nrr]) (by simp [Tryz.f150]) ?_
  unfold Tryz.f150
  simp only [init_eq]
  have ff := True.intro
  have e1 : ((s.length:Int) - 1).toNat = s.length - 1 := by omega
  have ff := And.intro @e1 ff
  refine stp Kn ?_
  refine stp Kn ?_
  refine dw_seq ?_
  refine stp Kn ?_
  refine cd (fun c1 => ?_) (fun c1 => ?_)
  · skip
    refine stp Kn ?_
    refine dw_ret ?_
    exact fin 0 (hr := by (try simp only [go_sem, ff]); all_goals ((repeat' split) <;> first | rfl | (exfalso; omega)))
  · skip
    refine dw_skip ?_
    show DW _ _ _ _ _
    refine dw_seq ?_
    refine stp Kn ?_
    refine dw_block ?_
    refine lp (α := (Nat) × Nat) [0, 3] (fun ⟨k, nx⟩ => (k ≤ s.length) ∧ (allN s.length (freeIn s) 0 = allN s.length (freeIn s) k) ∧ True) (fun ⟨k, nx⟩ => s.length - k) (fun ⟨k, nx⟩ => [(4, .i k)]) (fun ⟨k, nx⟩ => []) (fun ⟨k, nx⟩ => nx) (0, _) (hA := ⟨iv, rfl, trivial⟩) (round := ?_)
    rintro ⟨k, nx⟩ ⟨hk, hv, -⟩
    show DW _ _ _ _ { n := _, t := tab _, h := _, nx := _, e := _ }
    simp only [List.cons_append, List.nil_append]
    refine dw_seq ?_
    refine stp Kn ?_
    refine cd (fun c2 => ?_) (fun c2 => ?_) (hp := rfl)
    · skip
      have hk2 : k < s.length := by simpa using c2
      refine dw_skip ?_
      show DW _ _ _ _ _
      refine dw_seq ?_
      refine dw_block ?_
      refine stp Kn ?_
      refine stp Kn ?_
      refine cd (fun c3 => ?_) (fun c3 => ?_)
      · skip
        refine stp Kn ?_
        refine dw_ret ?_
        exact fin 0 (hr := by (try simp only [go_sem, ff]); all_goals (have h8 : freeIn s k = false := (by simp only [freeIn, alnum, Bool.or_eq_false_iff, Bool.and_eq_false_iff, decide_eq_false_iff_not]; (try simp only [inR, Bool.and_eq_true, Bool.and_eq_false_iff, decide_eq_true_eq, decide_eq_false_iff_not] at c3); omega); rw [hv, allN_eq, if_pos hk2, h8]; (repeat' split) <;> rfl))
      · skip
        refine dw_skip ?_
        show DW _ _ _ _ _
        refine rgn Kn ?_
        show ∃ _, _
        exact rnd (k + 1, _) (h1 := ⟨iv, (by (try dsimp only); have h8 : freeIn s k = true := (by simp only [freeIn, alnum, Bool.or_eq_true, Bool.and_eq_true, decide_eq_true_eq]; (try simp only [inR, Bool.and_eq_true, Bool.and_eq_false_iff, decide_eq_true_eq, decide_eq_false_iff_not] at c3); omega); rw [hv, allN_eq, if_pos hk2, h8]; rfl), trivial⟩)
    · skip
      refine dw_exit ?_
      show DW _ _ _ _ _
      refine stp Kn ?_
      refine dw_ret ?_
      exact fin 0 (hr := by (try simp only [go_sem, ff]); all_goals (rw [hv, allN_eq, if_neg (by omega), if_neg (by omega), if_neg (by omega), if_neg (by omega), if_neg (by omega)]))
theorem bo119 : hasBody Tryz.prog 119 = true := by kernel_rfl
theorem rless_ct (a : Dat) (b : Dat) : PureCt Tryz.prog 119 [.agg a.d, .agg b.d] (.b (less a b)) := by
  rw [less]
  refine pure_of_dw Tryz.func119 rfl bo119 (by simp [go_sem, D.nr, nrs, nrr]) (by simp [Tryz.f119]) ?_
  unfold Tryz.f119
  simp only [init_eq]
  have ff := True.intro
  refine stp Kn ?_
  refine dw_seq ?_
  refine stp Kn ?_
  refine cd (fun c1 => ?_) (fun c1 => ?_) (hp := rfl) (hq := rfl)
  · skip
    refine stp Kn ?_
    refine dw_ret ?_
    exact fin 0 (hr := by (try simp only [go_sem, ff]); all_goals (rw [if_pos c1]; rfl))
  · skip
    refine dw_skip ?_
    show DW _ _ _ _ _
    refine dw_seq ?_
    refine stp Kn ?_
    refine cd (fun c2 => ?_) (fun c2 => ?_) (hp := rfl) (hq := rfl)
    · skip
      refine stp Kn ?_
      refine dw_ret ?_
      exact fin 0 (hr := by (try simp only [go_sem, ff]); all_goals (rw [if_neg (by rw [c1]; simp), if_pos c2]))
    · skip
      refine dw_skip ?_
      show DW _ _ _ _ _
      refine stp Kn ?_
      refine dw_ret ?_
      exact fin 0 (hr := by (try simp only [go_sem, ff]); all_goals (rw [if_neg (by rw [c1]; simp), if_neg (by rw [c2]; simp)]))

end Go.Proofs.YtfggmgafjabbjaaGreatDoor
namespace Go.Proofs.YtfggmgafjabbjaaGreatDoor
open Go.DL Go.Str Go.Rec
set_option maxRecDepth 10000
set_option linter.unusedSimpArgs false
set_option linter.unusedVariables false
theorem bo158 : hasBody Tryz.prog 158 = true := by kernel_rfl
theorem cmpor_ct (l : List Int) : PureCt Tryz.prog 158 [.list false (l.map iR)] (.i (orFrom l 0)) := by
  refine pure_of_dw Tryz.func158 rfl bo158 (by simp [go_sem, D.nr, nrs, nrr]) (by simp [Tryz.f158]) ?_
  unfold Tryz.f158
  simp only [init_eq]
  have ff := True.intro
  refine dw_len 0 rfl fun hlen => ?_
  simp only [List.length_map, maxLen] at hlen
  refine stp Kn ?_
  refine stp Kn ?_
  refine dw_seq ?_
  refine stp Kn ?_
  refine dw_block ?_
  refine lp (α := (Nat) × Nat) [3, 6, 7] (fun ⟨k, nx⟩ => (k ≤ l.length) ∧ (orFrom l 0 = orFrom l k) ∧ True) (fun ⟨k, nx⟩ => l.length - k) (fun ⟨k, nx⟩ => [(8, .i k)]) (fun ⟨k, nx⟩ => []) (fun ⟨k, nx⟩ => nx) (0, _) (hA := ⟨iv, rfl, trivial⟩) (round := ?_)
  rintro ⟨k, nx⟩ ⟨hk, hv, -⟩
  show DW _ _ _ _ { n := _, t := tab _, h := _, nx := _, e := _ }
  simp only [List.cons_append, List.nil_append]
  refine stp Kn ?_
  refine dw_seq ?_
  refine cd (fun c1 => ?_) (fun c1 => ?_) (hp := rfl)
  · skip
    have hk2 : k < l.length := by simpa using c1
    have ff := And.intro (getD_iR hk2) ff
    refine dw_skip ?_
    show DW _ _ _ _ _
    refine dw_seq ?_
    refine dw_block ?_
    refine stp Kn ?_
    refine stp Kn ?_
    refine cd (fun c2 => ?_) (fun c2 => ?_) (hp := rfl) (hq := rfl)
    · skip
      refine stp Kn ?_
      refine dw_ret ?_
      exact fin 0 (hr := by (try simp only [go_sem, ff]); all_goals (rw [hv, orFrom_eq, if_pos hk2, if_pos c2]))
    · skip
      refine dw_skip ?_
      show DW _ _ _ _ _
      refine rgn Kn ?_
      show ∃ _, _
      exact rnd (k + 1, _) (h1 := ⟨iv, (by (try dsimp only); rw [hv, orFrom_eq, if_pos hk2, if_neg (by rw [c2]; simp)]), trivial⟩)
  · skip
    refine dw_exit ?_
    show DW _ _ _ _ _
    refine stp Kn ?_
    refine dw_ret ?_
    exact fin 0 (hr := by (try simp only [go_sem, ff]); all_goals (rw [hv, orFrom_eq, if_neg (by omega)]))
theorem bo130 : hasBody Tryz.prog 130 = true := by kernel_rfl
theorem cmpdata_ct (a : Dat) (b : Dat) : PureCt Tryz.prog 130 [.agg a.d, .agg b.d] (.i (datC a b)) := by
  refine pure_of_dw Tryz.func130 rfl bo130 (by simp [go_sem, D.nr, nrs, nrr]) (by simp [Tryz.f130]) ?_
  unfold Tryz.f130
  simp only [init_eq]
  have ff := True.intro
  refine stp Kn ?_
  refine stp Kn ?_ (hok := by (try simp only [go_sem, ff]); all_goals (first | done | ((repeat' (with_reducible apply And.intro)) <;> first | exact cmpstr_ct _ _ | exact cmpint_ct _ _ | exact cmpor_ct [_, _, _] | omega)))
  refine dw_ret ?_
  exact fin 0 (hr := by (try simp only [go_sem, ff]); all_goals (rw [← orFrom_dat]; rfl))
theorem bo117 : hasBody Tryz.prog 117 = true := by kernel_rfl
theorem rsingle_ct (k : Int) : PureCt Tryz.prog 117 [.i k] (.b (singleB k)) := by
  refine pure_of_dw Tryz.func117 rfl bo117 (by simp [go_sem, D.nr, nrs, nrr]) (by simp [Tryz.f117]) ?_
  unfold Tryz.f117
  simp only [init_eq]
  have ff := True.intro
  refine stp Kn ?_
  refine stp Kn ?_
  refine dw_ret ?_
  exact fin 0 (hr := by (try simp only [go_sem, ff]); all_goals (first | rfl | (unfold singleB; simp)))
theorem bo129 : hasBody Tryz.prog 129 = true := by kernel_rfl
theorem vdatum_ct (r : Rule) (d : Dat) (hr : r.even = true → 0 ≤ r.n0) : PureCt Tryz.prog 129 [.agg r.d, .agg d.d] (.b (datOk r d)) := by
  refine pure_of_dw Tryz.func129 rfl bo129 (by simp [go_sem, D.nr, nrs, nrr]) (by simp [Tryz.f129]) ?_
  unfold Tryz.f129
  simp only [init_eq]
  have ff := True.intro
  refine stp Kn ?_
  refine dw_seq ?_
  refine stp Kn ?_ (hok := by (try simp only [go_sem, ff]); all_goals (first | done | ((repeat' (with_reducible apply And.intro)) <;> first | exact within_ct _ _ _ | (intros; exact within_ct _ _ _) | (intro h; simp only [Bool.and_eq_true, Bool.not_eq_true', Bool.or_eq_false_iff, Bool.not_eq_false', inR_iff] at h; have := hr h.2; omega) | (intros; simp_all; done))))
  refine cd (fun c1 => ?_) (fun c1 => ?_)
  · skip
    refine stp Kn ?_
    refine dw_ret ?_
    exact fin 0 (hr := by (try simp only [go_sem, ff]); all_goals (rcases c1 with (h | h) | ⟨h1, h2⟩ <;> simp [datOk, *]))
  · skip
    refine dw_skip ?_
    show DW _ _ _ _ _
    refine dw_seq ?_
    refine stp Kn ?_
    refine dw_block ?_
    refine stp Kn ?_
    refine cd (fun c2 => ?_) (fun c2 => ?_)
    · skip
      refine stp Kn ?_ (hok := by (try simp only [go_sem, ff]); all_goals (first | done | ((repeat' (with_reducible apply And.intro)) <;> first | exact nvalid_ct _ | (intros; exact nvalid_ct _) | exact iswild_ct _ | (intros; exact iswild_ct _))))
      refine dw_ret ?_
      exact fin 0 (hr := by (try simp only [go_sem, ff]); all_goals (obtain ⟨⟨h1, h2⟩, h3⟩ := c1; rcases h3 with h3 | h3 <;> simp [datOk, textOk, *]))
    · skip
      refine stp Kn ?_
      refine cd (fun c3 => ?_) (fun c3 => ?_)
      · skip
        refine stp Kn ?_ (hok := by (try simp only [go_sem, ff]); all_goals (exact nvalid_ct _))
        refine dw_ret ?_
        exact fin 0 (hr := by (try simp only [go_sem, ff]); all_goals (obtain ⟨⟨h1, h2⟩, h3⟩ := c1; rcases h3 with h3 | h3 <;> simp [datOk, textOk, *]))
      · skip
        refine stp Kn ?_
        refine cd (fun c4 => ?_) (fun c4 => ?_)
        · skip
          refine stp Kn ?_ (hok := by (try simp only [go_sem, ff]); all_goals (exact isfree_ct _))
          refine dw_ret ?_
          exact fin 0 (hr := by (try simp only [go_sem, ff]); all_goals (obtain ⟨⟨h1, h2⟩, h3⟩ := c1; rcases h3 with h3 | h3 <;> simp [datOk, textOk, *]))
        · skip
          refine dw_skip ?_
          show DW _ _ _ _ _
          refine stp Kn ?_
          refine dw_ret ?_
          exact fin 0 (hr := by (try simp only [go_sem, ff]); all_goals (obtain ⟨⟨h1, h2⟩, h3⟩ := c1; rcases h3 with h3 | h3 <;> simp [datOk, textOk, *] <;> cases d.t <;> rfl))
theorem bo118 : hasBody Tryz.prog 118 = true := by kernel_rfl
theorem rdatum_ct (k : Int) (d : Dat) : PureCt Tryz.prog 118 [.i k, .agg d.d] (.b (rDatOk k d)) := by
  refine pure_of_dw Tryz.func118 rfl bo118 (by simp [go_sem, D.nr, nrs, nrr]) (by simp [Tryz.f118]) ?_
  unfold Tryz.f118
  simp only [init_eq]
  have ff := True.intro
  refine stp Kn ?_
  refine dw_seq ?_
  refine stp Kn ?_
  refine dw_block ?_
  refine stp Kn ?_
  refine cd (fun c1 => ?_) (fun c1 => ?_)
  · skip
    refine stp Kn ?_ (hok := by (try simp only [go_sem, ff]); all_goals (first | done | ((repeat' (with_reducible apply And.intro)) <;> first | exact rwithin_ct _ _ _ | (intros; exact rwithin_ct _ _ _) | exact rnvalid_ct _ | (intros; exact rnvalid_ct _) | exact rwild_ct _ | (intros; exact rwild_ct _) | (intro h; simp only [Bool.and_eq_true, inR_iff] at h; omega) | omega)))
    refine dw_ret ?_
    exact fin 0 (hr := by (try simp only [go_sem, ff]); all_goals (simp [rDatOk, *]))
  · skip
    refine dw_seq ?_
    refine stp Kn ?_
    refine cd (fun c2 => ?_) (fun c2 => ?_)
    · skip
      refine dw_skip ?_
      show DW _ _ _ _ _
      refine cd (fun c3 => ?_) (fun c3 => ?_)
      · skip
        refine stp Kn ?_ (hok := by (try simp only [go_sem, ff]); all_goals (first | done | ((repeat' (with_reducible apply And.intro)) <;> first | exact rwithin_ct _ _ _ | (intros; exact rwithin_ct _ _ _) | exact rnvalid_ct _ | (intros; exact rnvalid_ct _) | exact rwild_ct _ | (intros; exact rwild_ct _) | (intro h; simp only [Bool.and_eq_true, inR_iff] at h; omega) | omega)))
        refine dw_ret ?_
        exact fin 0 (hr := by (try simp only [go_sem, ff]); all_goals (simp [rDatOk, *]))
      · skip
        exact absurd c2 c3
    · skip
      refine rgn Kn ?_
      show DW _ _ _ _ _
      refine cd (fun c4 => ?_) (fun c4 => ?_)
      · skip
        refine stp Kn ?_ (hok := by (try simp only [go_sem, ff]); all_goals (first | done | ((repeat' (with_reducible apply And.intro)) <;> first | exact rwithin_ct _ _ _ | (intros; exact rwithin_ct _ _ _) | exact rnvalid_ct _ | (intros; exact rnvalid_ct _) | exact rwild_ct _ | (intros; exact rwild_ct _) | (intro h; simp only [Bool.and_eq_true, inR_iff] at h; omega) | omega)))
        refine dw_ret ?_
        exact fin 0 (hr := by (try simp only [go_sem, ff]); all_goals (simp [rDatOk, *]))
      · skip
        refine stp Kn ?_
        refine cd (fun c5 => ?_) (fun c5 => ?_)
        · skip
          refine stp Kn ?_ (hok := by (try simp only [go_sem, ff]); all_goals (first | done | ((repeat' (with_reducible apply And.intro)) <;> first | exact rwithin_ct _ _ _ | (intros; exact rwithin_ct _ _ _) | exact rnvalid_ct _ | (intros; exact rnvalid_ct _) | exact rwild_ct _ | (intros; exact rwild_ct _) | (intro h; simp only [Bool.and_eq_true, inR_iff] at h; omega) | omega)))
          refine dw_ret ?_
          exact fin 0 (hr := by (try simp only [go_sem, ff]); all_goals (simp [rDatOk, *]))
        · skip
          refine stp Kn ?_
          refine cd (fun c6 => ?_) (fun c6 => ?_)
          · skip
            refine stp Kn ?_ (hok := by (try simp only [go_sem, ff]); all_goals (first | done | exact rtext_ct _))
            refine dw_ret ?_
            exact fin 0 (hr := by (try simp only [go_sem, ff]); all_goals (simp [rDatOk, *]))
          · skip
            refine dw_seq ?_
            refine stp Kn ?_
            refine cd (fun c7 => ?_) (fun c7 => ?_)
            · skip
              refine dw_skip ?_
              show DW _ _ _ _ _
              refine cd (fun c8 => ?_) (fun c8 => ?_)
              · skip
                refine stp Kn ?_ (hok := by (try simp only [go_sem, ff]); all_goals (first | done | ((repeat' (with_reducible apply And.intro)) <;> first | exact rwithin_ct _ _ _ | (intros; exact rwithin_ct _ _ _) | exact rnvalid_ct _ | (intros; exact rnvalid_ct _) | exact rwild_ct _ | (intros; exact rwild_ct _) | (intro h; simp only [Bool.and_eq_true, inR_iff] at h; omega) | omega)))
                refine dw_ret ?_
                exact fin 0 (hr := by (try simp only [go_sem, ff]); all_goals (simp [rDatOk, *]))
              · skip
                exact absurd c7 c8
            · skip
              refine rgn Kn ?_
              show DW _ _ _ _ _
              refine cd (fun c9 => ?_) (fun c9 => ?_)
              · skip
                refine stp Kn ?_ (hok := by (try simp only [go_sem, ff]); all_goals (first | done | ((repeat' (with_reducible apply And.intro)) <;> first | exact rwithin_ct _ _ _ | (intros; exact rwithin_ct _ _ _) | exact rnvalid_ct _ | (intros; exact rnvalid_ct _) | exact rwild_ct _ | (intros; exact rwild_ct _) | (intro h; simp only [Bool.and_eq_true, inR_iff] at h; omega) | omega)))
                refine dw_ret ?_
                exact fin 0 (hr := by (try simp only [go_sem, ff]); all_goals (simp [rDatOk, *]))
              · skip
                refine stp Kn ?_
                refine cd (fun c10 => ?_) (fun c10 => ?_)
                · skip
                  refine stp Kn ?_ (hok := by (try simp only [go_sem, ff]); all_goals (first | done | ((repeat' (with_reducible apply And.intro)) <;> first | exact rwithin_ct _ _ _ | (intros; exact rwithin_ct _ _ _) | exact rnvalid_ct _ | (intros; exact rnvalid_ct _) | exact rwild_ct _ | (intros; exact rwild_ct _) | (intro h; simp only [Bool.and_eq_true, inR_iff] at h; omega) | omega)))
                  refine dw_ret ?_
                  exact fin 0 (hr := by (try simp only [go_sem, ff]); all_goals (simp [rDatOk, *]))
                · skip
                  refine dw_skip ?_
                  show DW _ _ _ _ _
                  refine stp Kn ?_
                  refine dw_ret ?_
                  exact fin 0 (hr := by (try simp only [go_sem, ff]); all_goals (simp [rDatOk, *]))

end Go.Proofs.YtfggmgafjabbjaaGreatDoor
namespace Go.Proofs.YtfggmgafjabbjaaGreatDoor
open Go.DL Go.Str Go.Rec Go.Cmp
set_option maxRecDepth 10000
set_option linter.unusedSimpArgs false
set_option linter.unusedVariables false
theorem rule_ldc {k : Nat} (h1 : 1 ≤ k) (h8 : k ≤ 8) : ∃ rest : List D, ∀ hh, ldc Tryz.prog (.v (.pointer (some ⟨0, k * 8, none⟩))) hh = (ruleAt k).d ++ rest := by
  refine ⟨(rulesTab.drop (k * 8 + 8)).map D.v, fun hh => ?_⟩
  have : k = 1 ∨ k = 2 ∨ k = 3 ∨ k = 4 ∨ k = 5 ∨ k = 6 ∨ k = 7 ∨ k = 8 := by omega
  rcases this with e | e | e | e | e | e | e | e <;> subst e <;> rfl
theorem bo93 : hasBody Tryz.prog 93 = true := by kernel_rfl
theorem rvalid_ct (s : RSet) : PureCt Tryz.prog 93 [.agg s.d] (.b (setOk s)) := by
  refine pure_of_dw Tryz.func93 rfl bo93 (by simp [go_sem, D.nr, nrs, nrr]) (by simp [Tryz.f93]) ?_
  unfold Tryz.f93
  simp only [init_eq]
  have ff := True.intro
  refine stp Kn ?_
  refine dw_seq ?_
  refine stp Kn ?_ (hok := by (try simp only [go_sem, ff]); all_goals (first | done | ((repeat' (with_reducible apply And.intro)) <;> first | exact nvalid_ct _ | (intros; exact nvalid_ct _) | exact within_ct _ _ _ | (intros; exact within_ct _ _ _) | (intros; simp_all; done) | omega)))
  refine cd (fun c1 => ?_) (fun c1 => ?_)
  · skip
    refine stp Kn ?_
    refine dw_ret ?_
    exact fin 0 (hr := by (try simp only [go_sem, ff]); all_goals (rcases c1 with (h | h) | h <;> simp [setOk, h]))
  · skip
    refine dw_skip ?_
    show DW _ _ _ _ _
    refine dw_seq ?_
    refine stp Kn ?_ (hok := by (try simp only [go_sem, ff]); all_goals (exact within_ct _ _ _))
    refine cd (fun c2 => ?_) (fun c2 => ?_)
    · skip
      refine stp Kn ?_
      refine dw_ret ?_
      exact fin 0 (hr := by (try simp only [go_sem, ff]); all_goals (simp [setOk, c2]))
    · skip
      have hty := inR_iff.1 c1.1.2
      obtain ⟨rest, hld⟩ := rule_ldc (k := s.ty.toNat) (by omega) (by omega)
      have ff := And.intro @hld ff
      refine dw_skip ?_
      show DW _ _ _ _ _
      refine stp Kn ?_ (hok := by (try simp only [go_sem, ff]); all_goals (first | done | omega | ((repeat' (with_reducible apply And.intro)) <;> first | omega | rfl)))
      refine dw_seq ?_
      refine stp Kn ?_ (hok := by (try simp only [go_sem, ff]); all_goals (first | done | ((repeat' (with_reducible apply And.intro)) <;> first | exact iswild_ct _ | (intros; exact iswild_ct _) | (intros; simp_all; done) | (intros; by_cases hq : (ruleAt s.ty.toNat).single = true <;> simp_all))))
      refine cd (fun c3 => ?_) (fun c3 => ?_)
      · skip
        refine stp Kn ?_
        refine dw_ret ?_
        exact fin 0 (hr := by (try simp only [go_sem, ff]); all_goals (rcases c3 with ⟨h1, h2⟩ | ⟨h1, h2⟩ <;> simp [setOk, h1, h2]))
      · skip
        refine dw_skip ?_
        show DW _ _ _ _ _
        refine dw_seq ?_
        refine stp Kn ?_
        refine dw_block ?_
        refine lp (α := (Nat) × Nat) [1, 3, 50, 51] (fun ⟨k, nx⟩ => (k ≤ s.data.length) ∧ (27 < nx) ∧ (allN s.data.length (datAt s.ty.toNat s.data) 0 = allN s.data.length (datAt s.ty.toNat s.data) k) ∧ True) (fun ⟨k, nx⟩ => s.data.length - k) (fun ⟨k, nx⟩ => [(52, .i k)]) (fun ⟨k, nx⟩ => [(0, ⟨46, [s.d]⟩), (27, ⟨142, [(ruleAt s.ty.toNat).d]⟩)]) (fun ⟨k, nx⟩ => nx) (0, _) (hA := ⟨iv, iv, rfl, trivial⟩) (round := ?_)
        rintro ⟨k, nx⟩ ⟨hk, hx, hv, -⟩
        show DW _ _ _ _ { n := _, t := tab _, h := _, nx := _, e := _ }
        simp only [List.cons_append, List.nil_append]
        have n0 : 0 < nx := by omega
        have ff := And.intro @hx (And.intro @n0 ff)
        refine stp Kn ?_
        refine dw_seq ?_
        refine cd (fun c4 => ?_) (fun c4 => ?_) (hp := rfl)
        · skip
          have hk2 : k < s.data.length := by simpa using c4
          have ff := And.intro (getD_dat hk2) ff
          refine dw_skip ?_
          show DW _ _ _ _ _
          refine dw_seq ?_
          refine dw_block ?_
          refine stp Kn ?_
          have hl8 := inR_iff.1 c2
          have e1 : ((k:Int) - 1).toNat = k - 1 := by omega
          have hk1 : k - 1 < s.data.length := by omega
          have ff := And.intro @e1 (And.intro (getD_dat hk1) ff)
          refine stp Kn ?_ (hok := by (try simp only [go_sem, ff]); all_goals (first | done | ((repeat' (with_reducible apply And.intro)) <;> first | exact vdatum_ct _ _ (rule_even _) | (intros; exact vdatum_ct _ _ (rule_even _)) | exact cmpdata_ct _ _ | (intros; exact cmpdata_ct _ _) | (intros; simp_all; done) | (intro h; simp only [Bool.and_eq_true, decide_eq_true_eq] at h; have := h.2; omega) | skip)))
          refine cd (fun c5 => ?_) (fun c5 => ?_)
          · skip
            refine stp Kn ?_
            refine dw_ret ?_
            exact fin 0 (hr := by (try simp only [go_sem, ff]); all_goals (rw [set_rest c1 c2 c3, hv, allN_eq, if_pos hk2, dat_no c5]; rfl))
          · skip
            refine dw_skip ?_
            show DW _ _ _ _ _
            refine rgn Kn ?_
            show ∃ _, _
            exact rnd (k + 1, _) (h1 := ⟨iv, iv, (by (try dsimp only); rw [hv, allN_eq, if_pos hk2, dat_yes c5]; rfl), trivial⟩)
        · skip
          refine dw_exit ?_
          show DW _ _ _ _ _
          refine stp Kn ?_
          refine dw_ret ?_
          exact fin 0 (hr := by (try simp only [go_sem, ff]); all_goals (rw [set_rest c1 c2 c3, hv, allN_eq, if_neg (by omega)]))

end Go.Proofs.YtfggmgafjabbjaaGreatDoor
namespace Go.Proofs.YtfggmgafjabbjaaGreatDoor
open Go.DL Go.Str Go.Rec Go.Cmp
set_option maxRecDepth 10000
set_option linter.unusedSimpArgs false
set_option linter.unusedVariables false
theorem bo83 : hasBody Tryz.prog 83 = true := by kernel_rfl
theorem rrvalid_ct (s : RSet) : PureCt Tryz.prog 83 [.agg s.d] (.b (setOk s)) := by
  refine pure_of_dw Tryz.func83 rfl bo83 (by simp [go_sem, D.nr, nrs, nrr]) (by simp [Tryz.f83]) ?_
  unfold Tryz.f83
  simp only [init_eq]
  have ff := True.intro
  refine stp Kn ?_
  refine stp Kn ?_
  refine dw_seq ?_
  refine stp Kn ?_ (hok := by (try simp only [go_sem, ff]); all_goals (first | done | ((repeat' (with_reducible apply And.intro)) <;> first | exact rnvalid_ct _ | (intros; exact rnvalid_ct _) | exact rwithin_ct _ _ _ | (intros; exact rwithin_ct _ _ _) | exact rsingle_ct _ | (intros; exact rsingle_ct _) | (intros; simp_all; done) | skip)))
  refine cd (fun c1 => ?_) (fun c1 => ?_)
  · skip
    refine stp Kn ?_
    refine dw_ret ?_
    exact fin 0 (hr := by (try simp only [go_sem, ff]); all_goals (rw [set_no_r c1]))
  · skip
    refine dw_skip ?_
    show DW _ _ _ _ _
    refine dw_seq ?_
    refine stp Kn ?_ (hok := by (try simp only [go_sem, ff]); all_goals (first | done | ((repeat' (with_reducible apply And.intro)) <;> first | exact rwild_ct _ | (intros; exact rwild_ct _) | (intros; simp_all; done) | skip)))
    refine cd (fun c2 => ?_) (fun c2 => ?_) (hp := rfl) (hq := rfl)
    · skip
      rw [wild4 _ c1.1.1.1.2] at c2
      try simp only [decide_eq_true_eq, decide_eq_false_iff_not, Bool.or_eq_true, Bool.and_eq_true, Bool.or_eq_false_iff, Bool.not_eq_true', Bool.not_eq_false', Bool.and_eq_false_iff, beq_iff_eq, beq_eq_false_iff_ne, bne_iff_ne, bne_eq_false_iff_eq, ne_eq] at c2
      refine stp Kn ?_
      refine dw_ret ?_
      exact fin 0 (hr := by (try simp only [go_sem, ff]); all_goals (rw [set_no_w c2]))
    · skip
      rw [wild4 _ c1.1.1.1.2] at c2
      try simp only [decide_eq_true_eq, decide_eq_false_iff_not, Bool.or_eq_true, Bool.and_eq_true, Bool.or_eq_false_iff, Bool.not_eq_true', Bool.not_eq_false', Bool.and_eq_false_iff, beq_iff_eq, beq_eq_false_iff_ne, bne_iff_ne, bne_eq_false_iff_eq, ne_eq] at c2
      refine dw_skip ?_
      show DW _ _ _ _ _
      refine dw_seq ?_
      refine stp Kn ?_
      refine dw_block ?_
      refine lp (α := (Nat) × Nat) [1, 3] (fun ⟨k, nx⟩ => (k ≤ s.data.length) ∧ (0 < nx) ∧ (allN s.data.length (datAt s.ty.toNat s.data) 0 = allN s.data.length (datAt s.ty.toNat s.data) k) ∧ True) (fun ⟨k, nx⟩ => s.data.length - k) (fun ⟨k, nx⟩ => [(4, .i k)]) (fun ⟨k, nx⟩ => [(0, ⟨46, [s.d]⟩)]) (fun ⟨k, nx⟩ => nx) (0, _) (hA := ⟨iv, iv, rfl, trivial⟩) (round := ?_)
      rintro ⟨k, nx⟩ ⟨hk, hx, hv, -⟩
      show DW _ _ _ _ { n := _, t := tab _, h := _, nx := _, e := _ }
      simp only [List.cons_append, List.nil_append]
      have ff := And.intro @hx ff
      refine dw_seq ?_
      refine stp Kn ?_
      refine cd (fun c3 => ?_) (fun c3 => ?_) (hp := rfl)
      · skip
        have hk2 : k < s.data.length := by simpa using c3
        have ff := And.intro (getD_dat hk2) ff
        refine dw_skip ?_
        show DW _ _ _ _ _
        refine dw_seq ?_
        refine dw_block ?_
        have hl8 := inR_iff.1 c1.1.2
        have e1 : ((k:Int) - 1).toNat = k - 1 := by omega
        have hk1 : k - 1 < s.data.length := by omega
        have ff := And.intro @e1 (And.intro (getD_dat hk1) ff)
        refine stp Kn ?_ (hok := by (try simp only [go_sem, ff]); all_goals (first | done | ((repeat' (with_reducible apply And.intro)) <;> first | exact rdatum_ct _ _ | (intros; exact rdatum_ct _ _) | exact rless_ct _ _ | (intros; exact rless_ct _ _) | (intros; simp_all; done) | (intro h; simp only [Bool.and_eq_true, decide_eq_true_eq] at h; have := h.2; omega) | skip)))
        refine cd (fun c4 => ?_) (fun c4 => ?_)
        · skip
          refine stp Kn ?_
          refine dw_ret ?_
          exact fin 0 (hr := by (try simp only [go_sem, ff]); all_goals (rw [set_rest_r c1 c2, hv, allN_eq, if_pos hk2, dat_no_r c1.1.1.1.2 c4]; rfl))
        · skip
          refine dw_skip ?_
          show DW _ _ _ _ _
          refine rgn Kn ?_
          show ∃ _, _
          exact rnd (k + 1, _) (h1 := ⟨iv, iv, (by (try dsimp only); rw [hv, allN_eq, if_pos hk2, dat_yes_r c1.1.1.1.2 c4]; rfl), trivial⟩)
      · skip
        refine dw_exit ?_
        show DW _ _ _ _ _
        refine stp Kn ?_
        refine dw_ret ?_
        exact fin 0 (hr := by (try simp only [go_sem, ff]); all_goals (rw [set_rest_r c1 c2, hv, allN_eq, if_neg (by omega)]))
theorem bo85 : hasBody Tryz.prog 85 = true := by kernel_rfl
theorem rord02_ct (a : RSet) (b : RSet) : PureCt Tryz.prog 85 [.agg a.d, .agg b.d] (.i (rOrd a b)) := by
  refine pure_of_dw Tryz.func85 rfl bo85 (by simp [go_sem, D.nr, nrs, nrr]) (by simp [Tryz.f85]) ?_
  unfold Tryz.f85
  simp only [init_eq]
  have ff := True.intro
  refine stp Kn ?_
  refine stp Kn ?_ (hok := by (try simp only [go_sem, ff]); all_goals (exact rncompare_ct _ _))
  refine dw_seq ?_
  refine stp Kn ?_
  refine cd (fun c1 => ?_) (fun c1 => ?_)
  · skip
    refine stp Kn ?_
    refine dw_ret ?_
    exact fin 0 (hr := by (try simp only [go_sem, ff]); all_goals (simp only [rOrd, thenC_eq, nmC, Go.Rec.cmpI]; simp_all <;> (repeat' split) <;> omega))
  · skip
    refine dw_skip ?_
    show DW _ _ _ _ _
    refine dw_seq ?_
    refine stp Kn ?_
    refine cd (fun c2 => ?_) (fun c2 => ?_)
    · skip
      refine stp Kn ?_
      refine dw_ret ?_
      exact fin 0 (hr := by (try simp only [go_sem, ff]); all_goals (simp only [rOrd, thenC_eq, nmC, Go.Rec.cmpI]; simp_all <;> (repeat' split) <;> omega))
    · skip
      refine dw_skip ?_
      show DW _ _ _ _ _
      refine dw_seq ?_
      refine stp Kn ?_
      refine cd (fun c3 => ?_) (fun c3 => ?_)
      · skip
        refine stp Kn ?_
        refine dw_ret ?_
        exact fin 0 (hr := by (try simp only [go_sem, ff]); all_goals (simp only [rOrd, thenC_eq, nmC, Go.Rec.cmpI]; simp_all <;> (repeat' split) <;> omega))
      · skip
        refine dw_skip ?_
        show DW _ _ _ _ _
        refine stp Kn ?_
        refine dw_ret ?_
        exact fin 0 (hr := by (try simp only [go_sem, ff]); all_goals (simp only [rOrd, thenC_eq, nmC, Go.Rec.cmpI]; simp_all <;> (repeat' split) <;> omega))
theorem bo63 : hasBody Tryz.prog 63 = true := by kernel_rfl
theorem rsame02_ct (a : RSet) (b : RSet) (ha : a.data.length ≤ 100000) : PureCt Tryz.prog 63 [.agg a.d, .agg b.d] (.b (sameB a b)) := by
  refine pure_of_dw Tryz.func63 rfl bo63 (by simp [go_sem, D.nr, nrs, nrr]) (by simp [Tryz.f63]) ?_
  unfold Tryz.f63
  simp only [init_eq]
  have ff := True.intro
  refine stp Kn ?_
  refine dw_seq ?_
  refine stp Kn ?_
  refine cd (fun c1 => ?_) (fun c1 => ?_)
  · skip
    refine stp Kn ?_
    refine dw_ret ?_
    exact fin 0 (hr := by (try simp only [go_sem, ff]); all_goals (rw [sameB_no c1]))
  · skip
    refine dw_skip ?_
    show DW _ _ _ _ _
    refine dw_seq ?_
    refine stp Kn ?_
    refine dw_block ?_
    refine lp (α := (Nat) × Nat) [2, 3] (fun ⟨k, nx⟩ => (k ≤ a.data.length) ∧ (1 < nx) ∧ (∀ i, i < k → a.data[i]! = b.data[i]!) ∧ True) (fun ⟨k, nx⟩ => a.data.length - k) (fun ⟨k, nx⟩ => [(5, .i k)]) (fun ⟨k, nx⟩ => [(0, ⟨46, [a.d]⟩), (1, ⟨46, [b.d]⟩)]) (fun ⟨k, nx⟩ => nx) (0, _) (hA := ⟨iv, iv, (by first | (intro i hi; omega) | (dsimp only; intro i hi; omega)), trivial⟩) (round := ?_)
    rintro ⟨k, nx⟩ ⟨hk, hx, hv, -⟩
    show DW _ _ _ _ { n := _, t := tab _, h := _, nx := _, e := _ }
    simp only [List.cons_append, List.nil_append]
    have n0 : 0 < nx := by omega
    have ff := And.intro @hx (And.intro @n0 ff)
    refine dw_seq ?_
    refine stp Kn ?_
    refine cd (fun c2 => ?_) (fun c2 => ?_) (hp := rfl)
    · skip
      have hk2 : k < a.data.length := by simpa using c2
      have hk3 : k < b.data.length := by have := c1.2; omega
      have ff := And.intro (getD_dat hk2) (And.intro (getD_dat hk3) ff)
      refine dw_skip ?_
      show DW _ _ _ _ _
      refine dw_seq ?_
      refine dw_block ?_
      refine stp Kn ?_
      refine cd (fun c3 => ?_) (fun c3 => ?_) (hp := rfl) (hq := rfl)
      · skip
        refine stp Kn ?_
        refine dw_ret ?_
        exact fin 0 (hr := by (try simp only [go_sem, ff]); all_goals (rw [sameB_at (dat_diff c3)]))
      · skip
        refine dw_skip ?_
        show DW _ _ _ _ _
        refine rgn Kn ?_
        show ∃ _, _
        exact rnd (k + 1, _) (h1 := ⟨iv, iv, (by (try dsimp only); intro i hi; by_cases e : i = k; subst e; exact dat_same c3; exact hv i (by omega)), trivial⟩)
    · skip
      refine dw_exit ?_
      show DW _ _ _ _ _
      refine stp Kn ?_
      refine dw_ret ?_
      exact fin 0 (hr := by (try simp only [go_sem, ff]); all_goals (rw [sameB_yes c1 fun i hi => hv i (by omega)]))

end Go.Proofs.YtfggmgafjabbjaaGreatDoor
namespace Go.Proofs.YtfggmgafjabbjaaGreatDoor
open Go.DL Go.Str Go.Rec Go.Cmp Go.Zon
set_option maxRecDepth 10000
set_option linter.unusedSimpArgs false
set_option linter.unusedVariables false
theorem bo165 : hasBody Tryz.prog 165 = true := by kernel_rfl
theorem hassuf0_ct (s : Str) (p : Str) (hs : s.length ≤ 1000000) : PureCt Tryz.prog 165 [.v (.string (bs s)), .v (.string (bs p))] (.b (hasSuf s p)) := by
  refine pure_of_dw Tryz.func165 rfl bo165 (by simp [go_sem, D.nr, nrs, nrr]) (by simp [Tryz.f165]) ?_
  unfold Tryz.f165
  simp only [init_eq]
  have ff := True.intro
  have e1 : ((s.length : Int) - p.length).toNat = s.length - p.length := by omega
  have ff := And.intro @e1 ff
  refine stp Kn ?_
  refine stp Kn ?_
  refine dw_ret ?_
  exact fin 0 (hr := by (try simp only [go_sem, ff]); all_goals (simp [hasSuf]))
theorem bo141 : hasBody Tryz.prog 141 = true := by kernel_rfl
theorem hassuf_ct (s : Str) (p : Str) (hs : s.length ≤ 1000000) : PureCt Tryz.prog 141 [.v (.string (bs s)), .v (.string (bs p))] (.b (hasSuf s p)) := by
  refine pure_of_dw Tryz.func141 rfl bo141 (by simp [go_sem, D.nr, nrs, nrr]) (by simp [Tryz.f141]) ?_
  unfold Tryz.f141
  simp only [init_eq]
  have ff := True.intro
  refine stp Kn ?_
  refine stp Kn ?_ (hok := by (try simp only [go_sem, ff]); all_goals (exact hassuf0_ct _ _ hs))
  refine dw_ret ?_
  exact fin 0 (hr := by (try simp only [go_sem, ff]); all_goals (rfl))
theorem bo102 : hasBody Tryz.prog 102 = true := by kernel_rfl
theorem nunder_ct (s : Str) (z : Str) : PureCt Tryz.prog 102 [.v (.string (bs s)), .v (.string (bs z))] (.tuple [.b (underV s z), .i (if nameOk s && nameOk z then 0 else 11)]) := by
  refine pure_of_dw Tryz.func102 rfl bo102 (by simp [go_sem, D.nr, nrs, nrr]) (by simp [Tryz.f102]) ?_
  unfold Tryz.f102
  simp only [init_eq]
  have ff := True.intro
  refine stp Kn ?_
  refine dw_seq ?_
  refine stp Kn ?_ (hok := by (try simp only [go_sem, ff]); all_goals (first | done | ((repeat' (with_reducible apply And.intro)) <;> first | exact tvalid_ct _ | (intros; exact tvalid_ct _) | skip)))
  refine cd (fun c1 => ?_) (fun c1 => ?_)
  · skip
    refine stp Kn ?_
    refine dw_ret ?_
    exact fin 1 (hr := by (try simp only [go_sem, ff]); all_goals (first | (simp_all [underV, under]; done) | (simp; simp only [underV, under]; grind)))
  · skip
    refine dw_skip ?_
    show DW _ _ _ _ _
    refine dw_seq ?_
    refine stp Kn ?_
    refine cd (fun c2 => ?_) (fun c2 => ?_)
    · skip
      refine stp Kn ?_
      refine dw_ret ?_
      exact fin 1 (hr := by (try simp only [go_sem, ff]); all_goals (first | (simp_all [underV, under]; done) | (simp; simp only [underV, under]; grind)))
    · skip
      refine dw_skip ?_
      show DW _ _ _ _ _
      have hn := nameOk_len c1.1
      have hm := nameOk_len c1.2
      have e1 : ((s.length : Int) - z.length - 1).toNat = s.length - z.length - 1 := by omega
      have ff := And.intro @e1 ff
      refine stp Kn ?_ (hok := by (try simp only [go_sem, ff]); all_goals (first | done | ((repeat' (with_reducible apply And.intro)) <;> first | exact hassuf_ct _ _ (by omega) | (intros; exact hassuf_ct _ _ (by omega)) | (intro h; simp at h; omega) | skip)))
      refine dw_ret ?_
      exact fin 1 (hr := by (try simp only [go_sem, ff]); all_goals (first | (simp_all [underV, under]; done) | (simp; simp only [underV, under]; grind)))
theorem bo82 : hasBody Tryz.prog 82 = true := by kernel_rfl
theorem rwild1_ct (s : Str) (hs : s.length ≤ 1000) : PureCt Tryz.prog 82 [.v (.string (bs s))] (.b (wild1 s)) := by
  refine pure_of_dw Tryz.func82 rfl bo82 (by simp [go_sem, D.nr, nrs, nrr]) (by simp [Tryz.f82]) ?_
  unfold Tryz.f82
  simp only [init_eq]
  have ff := True.intro
  refine stp Kn ?_
  refine stp Kn ?_ (hok := by (try simp only [go_sem, ff]); all_goals (first | exact ok0 | (apply rparts1_ct <;> omega) | (intros; apply rparts1_ct <;> omega)))
  rcases hps : partsOf s with _ | ⟨p0, ps⟩
  · skip
    have ff := And.intro @hps ff
    refine stp Kn ?_
    refine dw_ret ?_
    exact fin 0 (hr := by (try simp only [go_sem, ff]); all_goals (simp [wild1, hps]))
  · skip
    have ff := And.intro @hps ff
    refine stp Kn ?_
    refine dw_ret ?_
    exact fin 0 (hr := by (try simp only [go_sem, ff]); all_goals (simp [wild1, hps]))
theorem bo101 : hasBody Tryz.prog 101 = true := by kernel_rfl
theorem zcmppl_ct (a : Str) (s : Int) (b : Str) (t : Int) : PureCt Tryz.prog 101 [.v (.string (bs a)), .i s, .v (.string (bs b)), .i t] (.i (qC ⟨a, s⟩ ⟨b, t⟩)) := by
  refine pure_of_dw Tryz.func101 rfl bo101 (by simp [go_sem, D.nr, nrs, nrr]) (by simp [Tryz.f101]) ?_
  unfold Tryz.f101
  simp only [init_eq]
  have ff := True.intro
  refine stp Kn ?_
  refine dw_seq ?_
  refine stp Kn ?_
  refine cd (fun c1 => ?_) (fun c1 => ?_)
  · skip
    refine stp Kn ?_ (hok := by (try simp only [go_sem, ff]); all_goals (exact ncompare_ct _ _))
    refine stp Kn ?_
    refine dw_ret ?_
    exact fin 0 (hr := by (try simp only [go_sem, ff]); all_goals (simp [qC, *]))
  · skip
    refine dw_skip ?_
    show DW _ _ _ _ _
    refine stp Kn ?_ (hok := by (try simp only [go_sem, ff]); all_goals (first | exact ok0 | (apply cmpint_ct <;> omega) | (intros; apply cmpint_ct <;> omega)))
    refine dw_ret ?_
    exact fin 0 (hr := by (try simp only [go_sem, ff]); all_goals (simp [qC, *]))
theorem bo92 : hasBody Tryz.prog 92 = true := by kernel_rfl
theorem dcmppl_ct (a : Qst) (b : Qst) : PureCt Tryz.prog 92 [.agg a.d, .agg b.d] (.i (qC a b)) := by
  refine pure_of_dw Tryz.func92 rfl bo92 (by simp [go_sem, D.nr, nrs, nrr]) (by simp [Tryz.f92]) ?_
  unfold Tryz.f92
  simp only [init_eq]
  have ff := True.intro
  refine stp Kn ?_
  refine dw_seq ?_
  refine stp Kn ?_
  refine cd (fun c1 => ?_) (fun c1 => ?_)
  · skip
    refine stp Kn ?_ (hok := by (try simp only [go_sem, ff]); all_goals (exact ncompare_ct _ _))
    refine stp Kn ?_
    refine dw_ret ?_
    exact fin 0 (hr := by (try simp only [go_sem, ff]); all_goals (simp [qC, *]))
  · skip
    refine dw_skip ?_
    show DW _ _ _ _ _
    refine stp Kn ?_ (hok := by (try simp only [go_sem, ff]); all_goals (first | exact ok0 | (apply cmpint_ct <;> omega) | (intros; apply cmpint_ct <;> omega)))
    refine dw_ret ?_
    exact fin 0 (hr := by (try simp only [go_sem, ff]); all_goals (simp [qC, *]))
theorem bo103 : hasBody Tryz.prog 103 = true := by kernel_rfl
theorem fitsapex_ct (t : Int) (a : Bool) : PureCt Tryz.prog 103 [.i t, .b a] (.b (fits t a)) := by
  refine pure_of_dw Tryz.func103 rfl bo103 (by simp [go_sem, D.nr, nrs, nrr]) (by simp [Tryz.f103]) ?_
  unfold Tryz.f103
  simp only [init_eq]
  have ff := True.intro
  refine stp Kn ?_
  refine dw_seq ?_
  refine stp Kn ?_
  refine dw_block ?_
  refine dw_seq ?_
  refine stp Kn ?_
  refine cd (fun c1 => ?_) (fun c1 => ?_)
  · skip
    refine dw_skip ?_
    show DW _ _ _ _ _
    refine cd (fun c2 => ?_) (fun c2 => ?_)
    · skip
      refine stp Kn ?_
      refine dw_ret ?_
      exact fin 0 (hr := by (try simp only [go_sem, ff]); all_goals (simp_all [fits]))
    · skip
      refine dw_seq ?_
      refine stp Kn ?_
      refine cd (fun c3 => ?_) (fun c3 => ?_)
      · skip
        refine dw_skip ?_
        show DW _ _ _ _ _
        refine cd (fun c4 => ?_) (fun c4 => ?_)
        · skip
          refine stp Kn ?_
          refine dw_ret ?_
          exact fin 0 (hr := by (try simp only [go_sem, ff]); all_goals (simp_all [fits]))
        · skip
          refine dw_skip ?_
          show DW _ _ _ _ _
          refine stp Kn ?_
          refine dw_ret ?_
          exact fin 0 (hr := by (try simp only [go_sem, ff]); all_goals (simp_all [fits]))
      · skip
        refine rgn Kn ?_
        show DW _ _ _ _ _
        refine cd (fun c5 => ?_) (fun c5 => ?_)
        · skip
          refine stp Kn ?_
          refine dw_ret ?_
          exact fin 0 (hr := by (try simp only [go_sem, ff]); all_goals (simp_all [fits]))
        · skip
          refine dw_skip ?_
          show DW _ _ _ _ _
          refine stp Kn ?_
          refine dw_ret ?_
          exact fin 0 (hr := by (try simp only [go_sem, ff]); all_goals (simp_all [fits]))
  · skip
    refine rgn Kn ?_
    show DW _ _ _ _ _
    refine cd (fun c6 => ?_) (fun c6 => ?_)
    · skip
      refine stp Kn ?_
      refine dw_ret ?_
      exact fin 0 (hr := by (try simp only [go_sem, ff]); all_goals (simp_all [fits]))
    · skip
      refine dw_seq ?_
      refine stp Kn ?_
      refine cd (fun c7 => ?_) (fun c7 => ?_)
      · skip
        refine dw_skip ?_
        show DW _ _ _ _ _
        refine cd (fun c8 => ?_) (fun c8 => ?_)
        · skip
          refine stp Kn ?_
          refine dw_ret ?_
          exact fin 0 (hr := by (try simp only [go_sem, ff]); all_goals (simp_all [fits]))
        · skip
          refine dw_skip ?_
          show DW _ _ _ _ _
          refine stp Kn ?_
          refine dw_ret ?_
          exact fin 0 (hr := by (try simp only [go_sem, ff]); all_goals (simp_all [fits]))
      · skip
        refine rgn Kn ?_
        show DW _ _ _ _ _
        refine cd (fun c9 => ?_) (fun c9 => ?_)
        · skip
          refine stp Kn ?_
          refine dw_ret ?_
          exact fin 0 (hr := by (try simp only [go_sem, ff]); all_goals (simp_all [fits]))
        · skip
          refine dw_skip ?_
          show DW _ _ _ _ _
          refine stp Kn ?_
          refine dw_ret ?_
          exact fin 0 (hr := by (try simp only [go_sem, ff]); all_goals (simp_all [fits]))
theorem bo86 : hasBody Tryz.prog 86 = true := by kernel_rfl
theorem rplaced_ct (t : Int) (a : Bool) : PureCt Tryz.prog 86 [.i t, .b a] (.b (fits t a)) := by
  refine pure_of_dw Tryz.func86 rfl bo86 (by simp [go_sem, D.nr, nrs, nrr]) (by simp [Tryz.f86]) ?_
  unfold Tryz.f86
  simp only [init_eq]
  have ff := True.intro
  refine stp Kn ?_
  refine dw_seq ?_
  refine stp Kn ?_
  refine cd (fun c1 => ?_) (fun c1 => ?_)
  · skip
    refine stp Kn ?_
    refine dw_ret ?_
    exact fin 0 (hr := by (try simp only [go_sem, ff]); all_goals (simp; simp only [fits]; grind))
  · skip
    refine dw_skip ?_
    show DW _ _ _ _ _
    refine stp Kn ?_
    refine dw_ret ?_
    exact fin 0 (hr := by (try simp only [go_sem, ff]); all_goals (simp; simp only [fits]; grind))
theorem bo111 : hasBody Tryz.prog 111 = true := by kernel_rfl
theorem rquest_ct (q : Qst) : PureCt Tryz.prog 111 [.agg q.d] (.b (qOk q)) := by
  refine pure_of_dw Tryz.func111 rfl bo111 (by simp [go_sem, D.nr, nrs, nrr]) (by simp [Tryz.f111]) ?_
  unfold Tryz.f111
  simp only [init_eq]
  have ff := True.intro
  refine stp Kn ?_
  refine stp Kn ?_ (hok := by (try simp only [go_sem, ff]); all_goals (first | done | ((repeat' (with_reducible apply And.intro)) <;> first | exact rnvalid_ct _ | (intros; exact rnvalid_ct _) | skip)))
  refine dw_ret ?_
  exact fin 0 (hr := by (try simp only [go_sem, ff]); all_goals (simp [qOk, inR, Bool.and_assoc]))

end Go.Proofs.YtfggmgafjabbjaaGreatDoor
namespace Go.Proofs.YtfggmgafjabbjaaGreatDoor
open Go.DL Go.Str Go.Rec Go.Cmp Go.Zon
set_option maxRecDepth 10000
set_option linter.unusedSimpArgs false
set_option linter.unusedVariables false
theorem bo84 : hasBody Tryz.prog 84 = true := by kernel_rfl
theorem rin1_ct (s : Str) (z : Str) (hs : s.length ≤ 1000) (hz : z.length ≤ 1000) : PureCt Tryz.prog 84 [.v (.string (bs s)), .v (.string (bs z))] (.b (inB s z)) := by
  refine pure_of_dw Tryz.func84 rfl bo84 (by simp [go_sem, D.nr, nrs, nrr]) (by simp [Tryz.f84]) ?_
  unfold Tryz.f84
  simp only [init_eq]
  have ff := True.intro
  refine stp Kn ?_
  refine stp Kn ?_ (hok := by (try simp only [go_sem, ff]); all_goals (exact rparts1_ct _ hs))
  refine stp Kn ?_ (hok := by (try simp only [go_sem, ff]); all_goals (exact rparts1_ct _ hz))
  refine dw_seq ?_
  refine stp Kn ?_
  refine cd (fun c1 => ?_) (fun c1 => ?_)
  · skip
    refine stp Kn ?_
    refine dw_ret ?_
    exact fin 0 (hr := by (try simp only [go_sem, ff]); all_goals (simp [inB]; omega))
  · skip
    have hp := partsOf_le s
    have hq := partsOf_le z
    refine dw_skip ?_
    show DW _ _ _ _ _
    refine dw_seq ?_
    refine stp Kn ?_
    refine dw_block ?_
    refine lp (α := (Nat) × Nat) [5, 6] (fun ⟨k, nx⟩ => (k ≤ (partsOf z).length) ∧ (allN (partsOf z).length (inAt (partsOf s) (partsOf z)) 0 = allN (partsOf z).length (inAt (partsOf s) (partsOf z)) k) ∧ True) (fun ⟨k, nx⟩ => (partsOf z).length - k) (fun ⟨k, nx⟩ => [(7, .i k)]) (fun ⟨k, nx⟩ => []) (fun ⟨k, nx⟩ => nx) (0, _) (hA := ⟨iv, rfl, trivial⟩) (round := ?_)
    rintro ⟨k, nx⟩ ⟨hk, hv, -⟩
    show DW _ _ _ _ { n := _, t := tab _, h := _, nx := _, e := _ }
    simp only [List.cons_append, List.nil_append]
    refine dw_seq ?_
    refine stp Kn ?_
    refine cd (fun c2 => ?_) (fun c2 => ?_) (hp := rfl)
    · skip
      have hk2 : k < (partsOf z).length := by simpa using c2
      have hk3 : (partsOf s).length - (partsOf z).length + k < (partsOf s).length := by omega
      have e1 : (((partsOf s).length : Int) - (partsOf z).length + k).toNat = (partsOf s).length - (partsOf z).length + k := by omega
      have ff := And.intro @e1 (And.intro (getD_sR hk2) (And.intro (getD_sR hk3) ff))
      refine dw_skip ?_
      show DW _ _ _ _ _
      refine dw_seq ?_
      refine dw_block ?_
      refine stp Kn ?_
      refine cd (fun c3 => ?_) (fun c3 => ?_)
      · skip
        refine stp Kn ?_
        refine dw_ret ?_
        exact fin 0 (hr := by (try simp only [go_sem, ff]); all_goals (have hF : (inAt (partsOf s) (partsOf z)) k = false := (by simp only [inAt]; grind); simp only [inB]; rw [hv, allN_no hk2 hF]; try simp))
      · skip
        refine dw_skip ?_
        show DW _ _ _ _ _
        refine rgn Kn ?_
        show ∃ _, _
        have h8 : (inAt (partsOf s) (partsOf z)) k = true := by simp only [inAt]; grind
        exact rnd (k + 1, _) (h1 := ⟨iv, (by first | (rw [hv, allN_yes hk2 h8]) | (dsimp only; rw [hv, allN_yes hk2 h8])), trivial⟩)
    · skip
      refine dw_exit ?_
      show DW _ _ _ _ _
      refine stp Kn ?_
      refine dw_ret ?_
      exact fin 0 (hr := by (try simp only [go_sem, ff]); all_goals (simp only [inB]; rw [hv, allN_end (by omega)]; simp; omega))
theorem bo104 : hasBody Tryz.prog 104 = true := by kernel_rfl
theorem zinform_ct (l : List RSig) (a : Str) : PureCt Tryz.prog 104 [.list false (l.map RSig.d), .v (.string (bs a))] (.b (sigsOk l a)) := by
  refine pure_of_dw Tryz.func104 rfl bo104 (by simp [go_sem, D.nr, nrs, nrr]) (by simp [Tryz.f104]) ?_
  unfold Tryz.f104
  simp only [init_eq]
  have ff := True.intro
  refine stp Kn ?_
  refine dw_seq ?_
  refine stp Kn ?_
  refine cd (fun c1 => ?_) (fun c1 => ?_)
  · skip
    refine stp Kn ?_
    refine dw_ret ?_
    exact fin 0 (hr := by (try simp only [go_sem, ff]); all_goals (simp [sigsOk]; omega))
  · skip
    refine dw_skip ?_
    show DW _ _ _ _ _
    refine dw_seq ?_
    refine stp Kn ?_
    refine dw_block ?_
    refine lp (α := (Nat) × Nat) [0, 1, 10, 11] (fun ⟨k, nx⟩ => (k ≤ l.length) ∧ (allN l.length (sigAt a l) 0 = allN l.length (sigAt a l) k) ∧ True) (fun ⟨k, nx⟩ => l.length - k) (fun ⟨k, nx⟩ => [(12, .i k)]) (fun ⟨k, nx⟩ => []) (fun ⟨k, nx⟩ => nx) (0, _) (hA := ⟨iv, rfl, trivial⟩) (round := ?_)
    rintro ⟨k, nx⟩ ⟨hk, hv, -⟩
    show DW _ _ _ _ { n := _, t := tab _, h := _, nx := _, e := _ }
    simp only [List.cons_append, List.nil_append]
    refine stp Kn ?_
    refine dw_seq ?_
    refine cd (fun c2 => ?_) (fun c2 => ?_) (hp := rfl)
    · skip
      have hk2 : k < l.length := by simpa using c2
      have h0 : 0 < l.length := by omega
      have hk1 : k - 1 < l.length := by omega
      have e1 : ((k:Int) - 1).toNat = k - 1 := by omega
      have ff := And.intro (getD_sig hk2) (And.intro (getD_sig h0) (And.intro (getD_sig hk1) (And.intro @e1 ff)))
      refine dw_skip ?_
      show DW _ _ _ _ _
      refine dw_seq ?_
      refine dw_block ?_
      refine stp Kn ?_
      refine dw_seq ?_
      refine stp Kn ?_
      refine cd (fun c3 => ?_) (fun c3 => ?_)
      · skip
        refine stp Kn ?_
        refine dw_ret ?_
        exact fin 0 (hr := by (try simp only [go_sem, ff]); all_goals (have hF : (sigAt a l) k = false := (by simp only [sigAt, inR]; grind); simp only [sigsOk]; rw [hv, allN_no hk2 hF]; try simp))
      · skip
        refine dw_skip ?_
        show DW _ _ _ _ _
        refine dw_seq ?_
        refine stp Kn ?_
        refine cd (fun c4 => ?_) (fun c4 => ?_)
        · skip
          refine stp Kn ?_
          refine dw_ret ?_
          exact fin 0 (hr := by (try simp only [go_sem, ff]); all_goals (have hF : (sigAt a l) k = false := (by simp only [sigAt, inR]; grind); simp only [sigsOk]; rw [hv, allN_no hk2 hF]; try simp))
        · skip
          refine dw_skip ?_
          show DW _ _ _ _ _
          refine stp Kn ?_
          refine cd (fun c5 => ?_) (fun c5 => ?_)
          · skip
            refine stp Kn ?_
            refine dw_ret ?_
            exact fin 0 (hr := by (try simp only [go_sem, ff]); all_goals (have hF : (sigAt a l) k = false := (by simp only [sigAt, inR]; grind); simp only [sigsOk]; rw [hv, allN_no hk2 hF]; try simp))
          · skip
            refine dw_skip ?_
            show DW _ _ _ _ _
            refine rgn Kn ?_
            show ∃ _, _
            have h8 : (sigAt a l) k = true := by simp only [sigAt, inR]; grind
            exact rnd (k + 1, _) (h1 := ⟨iv, (by first | (rw [hv, allN_yes hk2 h8]) | (dsimp only; rw [hv, allN_yes hk2 h8])), trivial⟩)
    · skip
      refine dw_exit ?_
      show DW _ _ _ _ _
      refine stp Kn ?_
      refine dw_ret ?_
      exact fin 0 (hr := by (try simp only [go_sem, ff]); all_goals (simp only [sigsOk]; rw [hv, allN_end (by omega)]; simp; omega))
theorem bo89 : hasBody Tryz.prog 89 = true := by kernel_rfl
theorem rsigs_ct (l : List RSig) (a : Str) : PureCt Tryz.prog 89 [.list false (l.map RSig.d), .v (.string (bs a))] (.b (sigsOk l a)) := by
  refine pure_of_dw Tryz.func89 rfl bo89 (by simp [go_sem, D.nr, nrs, nrr]) (by simp [Tryz.f89]) ?_
  unfold Tryz.f89
  simp only [init_eq]
  have ff := True.intro
  refine stp Kn ?_
  refine dw_seq ?_
  refine stp Kn ?_
  refine cd (fun c1 => ?_) (fun c1 => ?_)
  · skip
    refine stp Kn ?_
    refine dw_ret ?_
    exact fin 0 (hr := by (try simp only [go_sem, ff]); all_goals (simp [sigsOk]; omega))
  · skip
    refine dw_skip ?_
    show DW _ _ _ _ _
    refine dw_seq ?_
    refine stp Kn ?_
    refine dw_block ?_
    refine lp (α := (Nat) × Nat) [0, 1] (fun ⟨k, nx⟩ => (k ≤ l.length) ∧ (allN l.length (sigAt a l) 0 = allN l.length (sigAt a l) k) ∧ True) (fun ⟨k, nx⟩ => l.length - k) (fun ⟨k, nx⟩ => [(5, .i k)]) (fun ⟨k, nx⟩ => []) (fun ⟨k, nx⟩ => nx) (0, _) (hA := ⟨iv, rfl, trivial⟩) (round := ?_)
    rintro ⟨k, nx⟩ ⟨hk, hv, -⟩
    show DW _ _ _ _ { n := _, t := tab _, h := _, nx := _, e := _ }
    simp only [List.cons_append, List.nil_append]
    refine dw_seq ?_
    refine stp Kn ?_
    refine cd (fun c2 => ?_) (fun c2 => ?_) (hp := rfl)
    · skip
      have hk2 : k < l.length := by simpa using c2
      have h0 : 0 < l.length := by omega
      have hk1 : k - 1 < l.length := by omega
      have e1 : ((k:Int) - 1).toNat = k - 1 := by omega
      have ff := And.intro (getD_sig hk2) (And.intro (getD_sig h0) (And.intro (getD_sig hk1) (And.intro @e1 ff)))
      refine dw_skip ?_
      show DW _ _ _ _ _
      refine dw_seq ?_
      refine dw_block ?_
      refine stp Kn ?_
      refine dw_seq ?_
      refine stp Kn ?_
      refine cd (fun c3 => ?_) (fun c3 => ?_)
      · skip
        refine stp Kn ?_
        refine dw_ret ?_
        exact fin 0 (hr := by (try simp only [go_sem, ff]); all_goals (have hF : (sigAt a l) k = false := (by simp only [sigAt, inR]; grind); simp only [sigsOk]; rw [hv, allN_no hk2 hF]; try simp))
      · skip
        refine dw_skip ?_
        show DW _ _ _ _ _
        refine stp Kn ?_
        refine cd (fun c4 => ?_) (fun c4 => ?_)
        · skip
          refine stp Kn ?_
          refine dw_ret ?_
          exact fin 0 (hr := by (try simp only [go_sem, ff]); all_goals (have hF : (sigAt a l) k = false := (by simp only [sigAt, inR]; grind); simp only [sigsOk]; rw [hv, allN_no hk2 hF]; try simp))
        · skip
          refine dw_skip ?_
          show DW _ _ _ _ _
          refine rgn Kn ?_
          show ∃ _, _
          have h8 : (sigAt a l) k = true := by simp only [sigAt, inR]; grind
          exact rnd (k + 1, _) (h1 := ⟨iv, (by first | (rw [hv, allN_yes hk2 h8]) | (dsimp only; rw [hv, allN_yes hk2 h8])), trivial⟩)
    · skip
      refine dw_exit ?_
      show DW _ _ _ _ _
      refine stp Kn ?_
      refine dw_ret ?_
      exact fin 0 (hr := by (try simp only [go_sem, ff]); all_goals (simp only [sigsOk]; rw [hv, allN_end (by omega)]; simp; omega))

end Go.Proofs.YtfggmgafjabbjaaGreatDoor
namespace Go.Proofs.YtfggmgafjabbjaaGreatDoor
open Go.DL Go.Str Go.Rec Go.Cmp Go.Zon
set_option maxRecDepth 10000
set_option linter.unusedSimpArgs false
set_option linter.unusedVariables false
theorem find_step {l : List Sgd} {q : Qst} {i j : Nat} (hv : findIx l q = bsIx (fun k => qC l[k]!.q q) i j) (h : i < j) : (qC l[(i + j) / 2]!.q q < 0 → findIx l q = bsIx (fun k => qC l[k]!.q q) ((i + j) / 2 + 1) j) ∧ (¬ qC l[(i + j) / 2]!.q q < 0 → findIx l q = bsIx (fun k => qC l[k]!.q q) i ((i + j) / 2)) := by
  rw [bsIx_eq, if_pos h] at hv
  exact ⟨fun h2 => by rw [if_pos h2] at hv; exact hv, fun h2 => by rw [if_neg h2] at hv; exact hv⟩
theorem bo100 : hasBody Tryz.prog 100 = true := by kernel_rfl
theorem zfind1_ct (s : Sgd) (q : Qst) : PureCt Tryz.prog 100 [.agg s.d, .agg q.d] (.i (qC s.q q)) := by
  refine pure_of_dw Tryz.func100 rfl bo100 (by simp [go_sem, D.nr, nrs, nrr]) (by simp [Tryz.f100]) ?_
  unfold Tryz.f100
  simp only [init_eq]
  have ff := True.intro
  refine stp Kn ?_
  refine stp Kn ?_ (hok := by (try simp only [go_sem, ff]); all_goals (exact zcmppl_ct _ _ _ _))
  refine dw_ret ?_
  exact fin 0 (hr := by (try simp only [go_sem, ff]); all_goals (rfl))
theorem bo99 : hasBody Tryz.prog 99 = true := by kernel_rfl
theorem zbsf_ct (l : List Sgd) (q : Qst) (hl : l.length ≤ 1000000) : PureCt Tryz.prog 99 [.list false (l.map Sgd.d), .agg q.d, .fn (.func 100) [] []] (.tuple [.i (findIx l q), .b (findOk l q)]) := by
  refine pure_of_dw Tryz.func99 rfl bo99 (by simp [go_sem, D.nr, nrs, nrr]) (by simp [Tryz.f99]) ?_
  unfold Tryz.f99
  simp only [init_eq]
  have ff := True.intro
  refine stp Kn ?_
  refine stp Kn ?_
  refine stp Kn ?_
  refine dw_seq ?_
  refine dw_block ?_
  refine lp (α := (Nat) × (Nat) × Nat) [0, 2, 4, 8] (fun ⟨i, j, nx⟩ => (i ≤ j) ∧ (j ≤ l.length) ∧ (0 < nx) ∧ (findIx l q = bsIx (fun k => qC l[k]!.q q) i j) ∧ True) (fun ⟨i, j, nx⟩ => j - i) (fun ⟨i, j, nx⟩ => [(9, .i i), (10, .i j)]) (fun ⟨i, j, nx⟩ => [(0, ⟨43, [q.d]⟩)]) (fun ⟨i, j, nx⟩ => nx) (0, l.length, _) (hA := ⟨iv, iv, iv, rfl, trivial⟩) (round := ?_)
  rintro ⟨i, j, nx⟩ ⟨hij, hj, hx, hv, -⟩
  show DW _ _ _ _ { n := _, t := tab _, h := _, nx := _, e := _ }
  simp only [List.cons_append, List.nil_append]
  have ff := And.intro @hx ff
  refine dw_seq ?_
  refine stp Kn ?_
  refine cd (fun c1 => ?_) (fun c1 => ?_) (hp := rfl)
  · skip
    have hk2 : i < j := by simpa using c1
    have hm : (i + j) / 2 < l.length := by omega
    have ff := And.intro (mid_eq (i := i) (j := j) (by omega)) (And.intro (getD_sgd hm) ff)
    refine dw_skip ?_
    show DW _ _ _ _ _
    refine dw_block ?_
    refine stp Kn ?_
    refine stp Kn ?_ (hok := by (try simp only [go_sem, ff]); all_goals (first | done | ((repeat' (with_reducible apply And.intro)) <;> first | exact zfind1_ct l[(i + j) / 2]! q | (intros; exact zfind1_ct l[(i + j) / 2]! q) | omega)))
    refine cd (fun c2 => ?_) (fun c2 => ?_)
    · skip
      refine rgn Kn ?_
      show ∃ _, _
      exact rnd ((i + j) / 2 + 1, j, _) (h1 := ⟨iv, iv, iv, (by first | (exact (find_step hv hk2).1 c2) | (dsimp only; exact (find_step hv hk2).1 c2)), trivial⟩)
    · skip
      refine rgn Kn ?_
      show ∃ _, _
      exact rnd (i, (i + j) / 2, _) (h1 := ⟨iv, iv, iv, (by (try dsimp only); exact (find_step hv hk2).2 (by omega)), trivial⟩)
  · skip
    refine dw_exit ?_
    show DW _ _ _ _ _
    have hij2 : i = j := by have h9 : ¬ i < j := (by simpa using c1); omega
    have hv2 : findIx l q = i := by rw [hv, bsIx_eq, if_neg (by omega)]
    by_cases hk4 : i < l.length
    · skip
      have ff := And.intro (getD_sgd hk4) ff
      refine stp Kn ?_ (hok := by (try simp only [go_sem, ff]); all_goals (first | done | ((repeat' (with_reducible apply And.intro)) <;> first | exact zfind1_ct l[i]! q | (intros; exact zfind1_ct l[i]! q) | omega | (intro h; have h := of_decide_eq_true h; omega))))
      refine dw_ret ?_
      exact fin 1 (hr := by (try simp only [go_sem, ff]); all_goals (simp only [findOk]; rw [hv2]; simp [hk4]))
    · skip
      have ff := And.intro (getD_off (f := Sgd.d) (Nat.le_of_not_lt hk4)) ff
      refine stp Kn ?_ (hok := by (try simp only [go_sem, ff]); all_goals (first | done | ((repeat' (with_reducible apply And.intro)) <;> first | exact zfind1_ct l[i]! q | (intros; exact zfind1_ct l[i]! q) | omega | (intro h; have h := of_decide_eq_true h; omega))))
      refine dw_ret ?_
      exact fin 1 (hr := by (try simp only [go_sem, ff]); all_goals (simp only [findOk]; rw [hv2]; simp [hk4]))
theorem bo46 : hasBody Tryz.prog 46 = true := by kernel_rfl
theorem zfind_ct (z : Zon) (q : Qst) (hl : z.sets.length ≤ 1000000) : PureCt Tryz.prog 46 [.agg z.d, .agg q.d] (.tuple [.i (findIx z.sets q), .b (findOk z.sets q)]) := by
  refine pure_of_dw Tryz.func46 rfl bo46 (by simp [go_sem, D.nr, nrs, nrr]) (by simp [Tryz.f46]) ?_
  unfold Tryz.f46
  simp only [init_eq]
  have ff := True.intro
  refine stp Kn ?_
  refine stp Kn ?_ (hok := by (try simp only [go_sem, ff]); all_goals (first | done | ((repeat' (with_reducible apply And.intro)) <;> first | exact zbsf_ct _ _ hl | (intros; exact zbsf_ct _ _ hl) | skip)))
  refine dw_ret ?_
  exact fin 1 (hr := by (try simp only [go_sem, ff]); all_goals (rfl))
theorem bo47 : hasBody Tryz.prog 47 = true := by kernel_rfl
theorem zordered_ct (z : Zon) : PureCt Tryz.prog 47 [.agg z.d] (.b (ordered z)) := by
  refine pure_of_dw Tryz.func47 rfl bo47 (by simp [go_sem, D.nr, nrs, nrr]) (by simp [Tryz.f47]) ?_
  unfold Tryz.f47
  simp only [init_eq]
  have ff := True.intro
  refine stp Kn ?_
  refine dw_seq ?_
  refine stp Kn ?_ (hok := by (try simp only [go_sem, ff]); all_goals (first | done | ((repeat' (with_reducible apply And.intro)) <;> first | exact nvalid_ct _ | (intros; exact nvalid_ct _) | exact haspre_ct _ _ | (intros; exact haspre_ct _ _) | skip)))
  refine cd (fun c1 => ?_) (fun c1 => ?_)
  · skip
    refine stp Kn ?_
    refine dw_ret ?_
    exact fin 0 (hr := by (try simp only [go_sem, ff]); all_goals (simp only [ordered]; rw [wild_pre] at *; grind))
  · skip
    refine dw_skip ?_
    show DW _ _ _ _ _
    refine dw_seq ?_
    refine stp Kn ?_
    refine dw_block ?_
    refine lp (α := (Nat) × Nat) [1, 28, 29] (fun ⟨k, nx⟩ => (k ≤ z.sets.length) ∧ (allN z.sets.length (ordAt z.apex z.sets) 0 = allN z.sets.length (ordAt z.apex z.sets) k) ∧ (0 < nx) ∧ True) (fun ⟨k, nx⟩ => z.sets.length - k) (fun ⟨k, nx⟩ => [(30, .i k)]) (fun ⟨k, nx⟩ => [(0, ⟨75, [z.d]⟩)]) (fun ⟨k, nx⟩ => nx) (0, _) (hA := ⟨iv, rfl, iv, trivial⟩) (round := ?_)
    rintro ⟨k, nx⟩ ⟨hk, hv, hx, -⟩
    show DW _ _ _ _ { n := _, t := tab _, h := _, nx := _, e := _ }
    simp only [List.cons_append, List.nil_append]
    have ff := And.intro @hx ff
    refine stp Kn ?_
    refine dw_seq ?_
    refine cd (fun c2 => ?_) (fun c2 => ?_) (hp := rfl)
    · skip
      have hk2 : k < z.sets.length := by simpa using c2
      have h0 : 0 < z.sets.length := by omega
      have hk1 : k - 1 < z.sets.length := by omega
      have e1 : ((k:Int) - 1).toNat = k - 1 := by omega
      have ff := And.intro (getD_sgd hk2) (And.intro (getD_sgd h0) (And.intro (getD_sgd hk1) (And.intro @e1 ff)))
      refine dw_skip ?_
      show DW _ _ _ _ _
      refine dw_seq ?_
      refine dw_block ?_
      refine stp Kn ?_
      refine dw_seq ?_
      refine stp Kn ?_ (hok := by (try simp only [go_sem, ff]); all_goals (exact rvalid_ct _))
      refine cd (fun c3 => ?_) (fun c3 => ?_)
      · skip
        refine stp Kn ?_
        refine dw_ret ?_
        exact fin 0 (hr := by (try simp only [go_sem, ff]); all_goals (have hF : (ordAt z.apex z.sets) k = false := (by simp only [ordAt]; grind [Sgd.q]); simp only [ordered]; rw [hv, allN_no hk2 hF]; try simp))
      · skip
        refine dw_skip ?_
        show DW _ _ _ _ _
        refine dw_seq ?_
        refine stp Kn ?_ (hok := by (try simp only [go_sem, ff]); all_goals (exact nunder_ct _ _))
        refine stp Kn ?_
        refine cd (fun c4 => ?_) (fun c4 => ?_)
        · skip
          refine stp Kn ?_
          refine dw_ret ?_
          exact fin 0 (hr := by (try simp only [go_sem, ff]); all_goals (have hF : (ordAt z.apex z.sets) k = false := (by simp only [ordAt]; grind [Sgd.q]); simp only [ordered]; rw [hv, allN_no hk2 hF]; try simp))
        · skip
          refine dw_skip ?_
          show DW _ _ _ _ _
          refine dw_seq ?_
          refine stp Kn ?_
          refine cd (fun c5 => ?_) (fun c5 => ?_)
          · skip
            refine dw_exit ?_
            show DW _ _ _ _ _
            refine rgn Kn ?_
            show ∃ _, _
            have h8 : (ordAt z.apex z.sets) k = true := by simp only [ordAt]; grind [Sgd.q]
            exact rnd (k + 1, _) (h1 := ⟨iv, (by first | (rw [hv, allN_yes hk2 h8]) | (dsimp only; rw [hv, allN_yes hk2 h8])), iv, trivial⟩)
          · skip
            refine dw_skip ?_
            show DW _ _ _ _ _
            refine stp Kn ?_
            refine stp Kn ?_ (hok := by (try simp only [go_sem, ff]); all_goals (exact zcmppl_ct _ _ _ _))
            refine cd (fun c6 => ?_) (fun c6 => ?_)
            · skip
              refine stp Kn ?_
              refine dw_ret ?_
              exact fin 0 (hr := by (try simp only [go_sem, ff]); all_goals (have hF : (ordAt z.apex z.sets) k = false := (by simp only [ordAt]; grind [Sgd.q]); simp only [ordered]; rw [hv, allN_no hk2 hF]; try simp))
            · skip
              refine dw_skip ?_
              show DW _ _ _ _ _
              refine rgn Kn ?_
              show ∃ _, _
              have h8 : (ordAt z.apex z.sets) k = true := by simp only [ordAt]; grind [Sgd.q]
              exact rnd (k + 1, _) (h1 := ⟨iv, (by first | (rw [hv, allN_yes hk2 h8]) | (dsimp only; rw [hv, allN_yes hk2 h8])), iv, trivial⟩)
    · skip
      refine dw_exit ?_
      show DW _ _ _ _ _
      refine stp Kn ?_
      refine dw_ret ?_
      exact fin 0 (hr := by (try simp only [go_sem, ff]); all_goals (simp only [ordered]; rw [wild_pre] at *; rw [hv, allN_end (by omega)]; grind))
theorem bo48 : hasBody Tryz.prog 48 = true := by kernel_rfl
theorem zapex_ct (z : Zon) (hl : z.sets.length ≤ 1000000) : PureCt Tryz.prog 48 [.agg z.d] (.b (apexHolds z)) := by
  refine pure_of_dw Tryz.func48 rfl bo48 (by simp [go_sem, D.nr, nrs, nrr]) (by simp [Tryz.f48]) ?_
  unfold Tryz.f48
  simp only [init_eq]
  have ff := True.intro
  refine stp Kn ?_
  refine dw_seq ?_
  refine stp Kn ?_
  refine dw_block ?_
  refine lp (α := (Nat) × Nat) [1, 9, 10] (fun ⟨k, nx⟩ => (k ≤ 2) ∧ (allN 2 (apexAt z) 0 = allN 2 (apexAt z) k) ∧ (0 < nx) ∧ True) (fun ⟨k, nx⟩ => 2 - k) (fun ⟨k, nx⟩ => [(11, .i k)]) (fun ⟨k, nx⟩ => [(0, ⟨75, [z.d]⟩)]) (fun ⟨k, nx⟩ => nx) (0, _) (hA := ⟨iv, rfl, iv, trivial⟩) (round := ?_)
  rintro ⟨k, nx⟩ ⟨hk, hv1, hx, -⟩
  show DW _ _ _ _ { n := _, t := tab _, h := _, nx := _, e := _ }
  simp only [List.cons_append, List.nil_append]
  have ff := And.intro @hx ff
  refine stp Kn ?_
  refine dw_seq ?_
  refine cd (fun c1 => ?_) (fun c1 => ?_) (hp := rfl)
  · skip
    have hk2 : k < 2 := by have h9 : (k:Int) < 2 := (by simpa using c1); omega
    refine dw_skip ?_
    show DW _ _ _ _ _
    refine dw_seq ?_
    refine dw_block ?_
    have h01 : k = 0 ∨ k = 1 := by omega
    rcases h01 with e0 | e0
    · skip
      have ff := And.intro @e0 ff
      refine stp Kn ?_
      refine stp Kn ?_ (hok := by (try simp only [go_sem, ff]); all_goals (first | done | ((repeat' (with_reducible apply And.intro)) <;> first | exact zfind_ct z ⟨z.apex, 4⟩ hl | (intros; exact zfind_ct z ⟨z.apex, 4⟩ hl) | exact zfind_ct z ⟨z.apex, 2⟩ hl | (intros; exact zfind_ct z ⟨z.apex, 2⟩ hl) | skip)))
      refine stp Kn ?_
      refine cd (fun c2 => ?_) (fun c2 => ?_)
      · skip
        refine stp Kn ?_
        refine dw_ret ?_
        exact fin 0 (hr := by (try simp only [go_sem, ff]); all_goals (have hF : (apexAt z) k = false := (by simpa [apexAt, e0] using c2); simp only [apexHolds]; rw [hv1, allN_no hk2 hF]; try simp))
      · skip
        refine dw_skip ?_
        show DW _ _ _ _ _
        refine rgn Kn ?_
        show ∃ _, _
        have h8 : (apexAt z) k = true := by simpa [apexAt, e0] using c2
        exact rnd (k + 1, _) (h1 := ⟨iv, (by first | (rw [hv1, allN_yes hk2 h8]) | (dsimp only; rw [hv1, allN_yes hk2 h8])), iv, trivial⟩)
    · skip
      have ff := And.intro @e0 ff
      refine stp Kn ?_
      refine stp Kn ?_ (hok := by (try simp only [go_sem, ff]); all_goals (first | done | ((repeat' (with_reducible apply And.intro)) <;> first | exact zfind_ct z ⟨z.apex, 4⟩ hl | (intros; exact zfind_ct z ⟨z.apex, 4⟩ hl) | exact zfind_ct z ⟨z.apex, 2⟩ hl | (intros; exact zfind_ct z ⟨z.apex, 2⟩ hl) | skip)))
      refine stp Kn ?_
      refine cd (fun c2 => ?_) (fun c2 => ?_)
      · skip
        refine stp Kn ?_
        refine dw_ret ?_
        exact fin 0 (hr := by (try simp only [go_sem, ff]); all_goals (have hF : (apexAt z) k = false := (by simpa [apexAt, e0] using c2); simp only [apexHolds]; rw [hv1, allN_no hk2 hF]; try simp))
      · skip
        refine dw_skip ?_
        show DW _ _ _ _ _
        refine rgn Kn ?_
        show ∃ _, _
        have h8 : (apexAt z) k = true := by simpa [apexAt, e0] using c2
        exact rnd (k + 1, _) (h1 := ⟨iv, (by first | (rw [hv1, allN_yes hk2 h8]) | (dsimp only; rw [hv1, allN_yes hk2 h8])), iv, trivial⟩)
  · skip
    refine dw_exit ?_
    show DW _ _ _ _ _
    refine dw_seq ?_
    refine stp Kn ?_
    refine dw_block ?_
    refine lp (α := (Nat) × Nat) [1, 30, 31] (fun ⟨k, nx⟩ => (k ≤ z.sets.length) ∧ (allN z.sets.length (fitAt z.apex z.sets) 0 = allN z.sets.length (fitAt z.apex z.sets) k) ∧ (0 < nx) ∧ True) (fun ⟨k, nx⟩ => z.sets.length - k) (fun ⟨k, nx⟩ => [(32, .i k)]) (fun ⟨k, nx⟩ => [(0, ⟨75, [z.d]⟩)]) (fun ⟨k, nx⟩ => nx) (0, _) (hA := ⟨iv, rfl, iv, trivial⟩) (round := ?_)
    rintro ⟨k, nx⟩ ⟨hk, hv, hx, -⟩
    show DW _ _ _ _ { n := _, t := tab _, h := _, nx := _, e := _ }
    simp only [List.cons_append, List.nil_append]
    have ff := And.intro @hx ff
    refine stp Kn ?_
    refine dw_seq ?_
    refine cd (fun c3 => ?_) (fun c3 => ?_) (hp := rfl)
    · skip
      have hk2 : k < z.sets.length := by simpa using c3
      have ff := And.intro (getD_sgd hk2) ff
      refine dw_skip ?_
      show DW _ _ _ _ _
      refine dw_seq ?_
      refine dw_block ?_
      refine stp Kn ?_
      refine stp Kn ?_ (hok := by (try simp only [go_sem, ff]); all_goals (exact fitsapex_ct _ _))
      refine cd (fun c4 => ?_) (fun c4 => ?_)
      · skip
        refine stp Kn ?_
        refine dw_ret ?_
        exact fin 0 (hr := by (try simp only [go_sem, ff]); all_goals (have hF : (fitAt z.apex z.sets) k = false := (by simp only [fitAt]; grind); simp only [apexHolds]; rw [hv, allN_no hk2 hF]; try simp))
      · skip
        refine dw_skip ?_
        show DW _ _ _ _ _
        refine rgn Kn ?_
        show ∃ _, _
        have h8 : (fitAt z.apex z.sets) k = true := by simp only [fitAt]; grind
        exact rnd (k + 1, _) (h1 := ⟨iv, (by first | (rw [hv, allN_yes hk2 h8]) | (dsimp only; rw [hv, allN_yes hk2 h8])), iv, trivial⟩)
    · skip
      refine dw_exit ?_
      show DW _ _ _ _ _
      refine stp Kn ?_
      refine dw_ret ?_
      exact fin 0 (hr := by (try simp only [go_sem, ff]); all_goals (simp only [apexHolds]; rw [hv1, hv, allN_end (n := 2) (by omega), allN_end (by omega)]; rfl))

end Go.Proofs.YtfggmgafjabbjaaGreatDoor
namespace Go.Proofs.YtfggmgafjabbjaaGreatDoor
open Go.DL Go.Str Go.Rec Go.Cmp Go.Zon
set_option maxRecDepth 10000
set_option linter.unusedSimpArgs false
set_option linter.unusedVariables false
@[go_sem] theorem keysOk_T {m : List Str} : keysOk Tryz.prog 9 (kvT m) = true := by
  induction m with
  | nil => rfl
  | cons s m ih => rw [kvT_cons]; simp only [keysOk, ih, ko9, Bool.and_self]
theorem bo50 : hasBody Tryz.prog 50 = true := by kernel_rfl
theorem zalias_ct (x : Lay) (hl : x.z.sets.length ≤ 1000000) : PureCt Tryz.prog 50 [.agg x.d] (.b (aliasB x)) := by
  refine pure_of_dw Tryz.func50 rfl bo50 (by simp [go_sem, D.nr, nrs, nrr]) (by simp [Tryz.f50]) ?_
  unfold Tryz.f50
  simp only [init_eq]
  have ff := True.intro
  refine stp Kn ?_
  refine dw_seq ?_
  refine stp Kn ?_
  refine dw_block ?_
  refine lp (α := (Nat) × Nat) [1, 8, 9] (fun ⟨k, nx⟩ => (k ≤ x.z.sets.length) ∧ (allN x.z.sets.length (aliasAt x.z.sets) 0 = allN x.z.sets.length (aliasAt x.z.sets) k) ∧ (0 < nx) ∧ True) (fun ⟨k, nx⟩ => x.z.sets.length - k) (fun ⟨k, nx⟩ => [(10, .i k)]) (fun ⟨k, nx⟩ => [(0, ⟨81, [x.d]⟩)]) (fun ⟨k, nx⟩ => nx) (0, _) (hA := ⟨iv, rfl, iv, trivial⟩) (round := ?_)
  rintro ⟨k, nx⟩ ⟨hk, hv, hx, -⟩
  show DW _ _ _ _ { n := _, t := tab _, h := _, nx := _, e := _ }
  simp only [List.cons_append, List.nil_append]
  have ff := And.intro @hx ff
  refine stp Kn ?_
  refine dw_seq ?_
  refine cd (fun c1 => ?_) (fun c1 => ?_) (hp := rfl)
  · skip
    have hk2 : k < x.z.sets.length := by simpa using c1
    have hk1 : k - 1 < x.z.sets.length := by omega
    have e1 : ((k:Int) - 1).toNat = k - 1 := by omega
    have e2 : ((k:Int) + 1).toNat = k + 1 := by omega
    have ff := And.intro (getD_sgd hk2) (And.intro (getD_sgd hk1) (And.intro @e1 (And.intro @e2 ff)))
    refine dw_skip ?_
    show DW _ _ _ _ _
    refine dw_seq ?_
    refine dw_block ?_
    refine stp Kn ?_
    refine dw_seq ?_
    refine stp Kn ?_
    refine cd (fun c2 => ?_) (fun c2 => ?_)
    · skip
      refine dw_exit ?_
      show DW _ _ _ _ _
      refine rgn Kn ?_
      show ∃ _, _
      have h8 : (aliasAt x.z.sets) k = true := by simp only [aliasAt]; grind
      exact rnd (k + 1, _) (h1 := ⟨iv, (by first | (rw [hv, allN_yes hk2 h8]) | (dsimp only; rw [hv, allN_yes hk2 h8])), iv, trivial⟩)
    · skip
      refine dw_skip ?_
      show DW _ _ _ _ _
      refine dw_seq ?_
      refine stp Kn ?_
      refine cd (fun c3 => ?_) (fun c3 => ?_)
      · skip
        refine stp Kn ?_
        refine dw_ret ?_
        exact fin 0 (hr := by (try simp only [go_sem, ff]); all_goals (have hF : (aliasAt x.z.sets) k = false := (by simp only [aliasAt]; grind); simp only [aliasB]; rw [hv, allN_no hk2 hF]; try simp))
      · skip
        refine dw_skip ?_
        show DW _ _ _ _ _
        by_cases hk4 : k + 1 < x.z.sets.length
        · skip
          have ff := And.intro (getD_sgd hk4) ff
          refine stp Kn ?_
          refine cd (fun c4 => ?_) (fun c4 => ?_)
          · skip
            refine stp Kn ?_
            refine dw_ret ?_
            exact fin 0 (hr := by (try simp only [go_sem, ff]); all_goals (have hF : (aliasAt x.z.sets) k = false := (by simp only [aliasAt]; grind); simp only [aliasB]; rw [hv, allN_no hk2 hF]; try simp))
          · skip
            refine dw_skip ?_
            show DW _ _ _ _ _
            refine rgn Kn ?_
            show ∃ _, _
            have h8 : (aliasAt x.z.sets) k = true := by simp only [aliasAt]; grind
            exact rnd (k + 1, _) (h1 := ⟨iv, (by first | (rw [hv, allN_yes hk2 h8]) | (dsimp only; rw [hv, allN_yes hk2 h8])), iv, trivial⟩)
        · skip
          have e9 : decide (((k + 1 : Nat) : Int) < x.z.sets.length) = false := decide_eq_false (by omega)
          have ff := And.intro (getD_off (f := Sgd.d) (Nat.le_of_not_lt hk4)) ff
          refine stp Kn ?_
          refine cd (fun c5 => ?_) (fun c5 => ?_)
          · skip
            refine stp Kn ?_
            refine dw_ret ?_
            exact fin 0 (hr := by (try simp only [go_sem, ff]); all_goals (have hF : (aliasAt x.z.sets) k = false := (by simp only [aliasAt]; grind); simp only [aliasB]; rw [hv, allN_no hk2 hF]; try simp))
          · skip
            refine dw_skip ?_
            show DW _ _ _ _ _
            refine rgn Kn ?_
            show ∃ _, _
            have h8 : (aliasAt x.z.sets) k = true := by simp only [aliasAt]; grind
            exact rnd (k + 1, _) (h1 := ⟨iv, (by first | (rw [hv, allN_yes hk2 h8]) | (dsimp only; rw [hv, allN_yes hk2 h8])), iv, trivial⟩)
  · skip
    refine dw_exit ?_
    show DW _ _ _ _ _
    refine stp Kn ?_
    refine dw_ret ?_
    exact fin 0 (hr := by (try simp only [go_sem, ff]); all_goals (simp only [aliasB]; rw [hv, allN_end (by omega)]))
theorem bo51 : hasBody Tryz.prog 51 = true := by kernel_rfl
theorem zcuts_ct (x : Lay) (hl : x.z.sets.length ≤ 1000000) (hb : x.b.length = x.z.sets.length) : PureCt Tryz.prog 51 [.agg x.d] (.b (cutB x)) := by
  refine pure_of_dw Tryz.func51 rfl bo51 (by simp [go_sem, D.nr, nrs, nrr]) (by simp [Tryz.f51]) ?_
  unfold Tryz.f51
  simp only [init_eq]
  have ff := True.intro
  refine stp Kn ?_
  refine dw_seq ?_
  refine stp Kn ?_
  refine dw_block ?_
  refine lp (α := (Nat) × Nat) [1, 9, 10] (fun ⟨k, nx⟩ => (k ≤ x.z.sets.length) ∧ (allN x.z.sets.length (cutAt x) 0 = allN x.z.sets.length (cutAt x) k) ∧ (0 < nx) ∧ True) (fun ⟨k, nx⟩ => x.z.sets.length - k) (fun ⟨k, nx⟩ => [(11, .i k)]) (fun ⟨k, nx⟩ => [(0, ⟨81, [x.d]⟩)]) (fun ⟨k, nx⟩ => nx) (0, _) (hA := ⟨iv, rfl, iv, trivial⟩) (round := ?_)
  rintro ⟨k, nx⟩ ⟨hk, hv, hx, -⟩
  show DW _ _ _ _ { n := _, t := tab _, h := _, nx := _, e := _ }
  simp only [List.cons_append, List.nil_append]
  have ff := And.intro @hx ff
  refine stp Kn ?_
  refine dw_seq ?_
  refine cd (fun c1 => ?_) (fun c1 => ?_) (hp := rfl)
  · skip
    have hk2 : k < x.z.sets.length := by simpa using c1
    have hk3 : k < x.b.length := by omega
    have ff := And.intro (getD_sgd hk2) (And.intro (getD_sR hk3) ff)
    refine dw_skip ?_
    show DW _ _ _ _ _
    refine dw_seq ?_
    refine dw_block ?_
    refine stp Kn ?_
    refine stp Kn ?_
    refine stp Kn ?_
    refine dw_block ?_
    refine stp Kn ?_
    refine cd (fun c2 => ?_) (fun c2 => ?_)
    · skip
      refine stp Kn ?_
      refine cd (fun c3 => ?_) (fun c3 => ?_)
      · skip
        refine stp Kn ?_
        refine dw_ret ?_
        exact fin 0 (hr := by (try simp only [go_sem, ff]); all_goals (have hF : (cutAt x) k = false := (by simp only [cutAt]; grind); simp only [cutB]; rw [hv, allN_no hk2 hF]; try simp))
      · skip
        refine dw_skip ?_
        show DW _ _ _ _ _
        refine rgn Kn ?_
        show ∃ _, _
        have h8 : (cutAt x) k = true := by simp only [cutAt]; grind
        exact rnd (k + 1, _) (h1 := ⟨iv, (by first | (rw [hv, allN_yes hk2 h8]) | (dsimp only; rw [hv, allN_yes hk2 h8])), iv, trivial⟩)
    · skip
      refine stp Kn ?_
      refine cd (fun c4 => ?_) (fun c4 => ?_)
      · skip
        refine stp Kn ?_
        refine cd (fun c5 => ?_) (fun c5 => ?_)
        · skip
          refine stp Kn ?_
          refine dw_ret ?_
          exact fin 0 (hr := by (try simp only [go_sem, ff]); all_goals (have hF : (cutAt x) k = false := (by simp only [cutAt]; grind); simp only [cutB]; rw [hv, allN_no hk2 hF]; try simp))
        · skip
          refine dw_skip ?_
          show DW _ _ _ _ _
          refine rgn Kn ?_
          show ∃ _, _
          have h8 : (cutAt x) k = true := by simp only [cutAt]; grind
          exact rnd (k + 1, _) (h1 := ⟨iv, (by first | (rw [hv, allN_yes hk2 h8]) | (dsimp only; rw [hv, allN_yes hk2 h8])), iv, trivial⟩)
      · skip
        refine stp Kn ?_
        refine cd (fun c6 => ?_) (fun c6 => ?_)
        · skip
          refine stp Kn ?_
          refine dw_ret ?_
          exact fin 0 (hr := by (try simp only [go_sem, ff]); all_goals (have hF : (cutAt x) k = false := (by simp only [cutAt]; grind); simp only [cutB]; rw [hv, allN_no hk2 hF]; try simp))
        · skip
          refine dw_skip ?_
          show DW _ _ _ _ _
          refine rgn Kn ?_
          show ∃ _, _
          have h8 : (cutAt x) k = true := by simp only [cutAt]; grind
          exact rnd (k + 1, _) (h1 := ⟨iv, (by first | (rw [hv, allN_yes hk2 h8]) | (dsimp only; rw [hv, allN_yes hk2 h8])), iv, trivial⟩)
  · skip
    refine dw_exit ?_
    show DW _ _ _ _ _
    refine stp Kn ?_
    refine dw_ret ?_
    exact fin 0 (hr := by (try simp only [go_sem, ff]); all_goals (simp only [cutB]; rw [hv, allN_end (by omega)]))
theorem bo52 : hasBody Tryz.prog 52 = true := by kernel_rfl
theorem zglue_ct (x : Lay) (hl : x.z.sets.length ≤ 1000000) (hb : x.b.length = x.z.sets.length) : PureCt Tryz.prog 52 [.agg x.d] (.b (glueB x)) := by
  refine pure_of_dw Tryz.func52 rfl bo52 (by simp [go_sem, D.nr, nrs, nrr]) (by simp [Tryz.f52]) ?_
  unfold Tryz.f52
  simp only [init_eq]
  have ff := True.intro
  refine stp Kn ?_
  refine dw_seq ?_
  refine stp Kn ?_
  refine dw_block ?_
  refine lp (α := (Nat) × Nat) [1, 9, 10] (fun ⟨k, nx⟩ => (k ≤ x.z.sets.length) ∧ (allN x.z.sets.length (glueAt x) 0 = allN x.z.sets.length (glueAt x) k) ∧ (0 < nx) ∧ True) (fun ⟨k, nx⟩ => x.z.sets.length - k) (fun ⟨k, nx⟩ => [(11, .i k)]) (fun ⟨k, nx⟩ => [(0, ⟨81, [x.d]⟩)]) (fun ⟨k, nx⟩ => nx) (0, _) (hA := ⟨iv, rfl, iv, trivial⟩) (round := ?_)
  rintro ⟨k, nx⟩ ⟨hk, hv, hx, -⟩
  show DW _ _ _ _ { n := _, t := tab _, h := _, nx := _, e := _ }
  simp only [List.cons_append, List.nil_append]
  have ff := And.intro @hx ff
  refine stp Kn ?_
  refine dw_seq ?_
  refine cd (fun c1 => ?_) (fun c1 => ?_) (hp := rfl)
  · skip
    have hk2 : k < x.z.sets.length := by simpa using c1
    have hk3 : k < x.b.length := by omega
    have ff := And.intro (getD_sgd hk2) (And.intro (getD_sR hk3) ff)
    refine dw_skip ?_
    show DW _ _ _ _ _
    refine dw_seq ?_
    refine dw_block ?_
    refine stp Kn ?_
    refine stp Kn ?_
    refine stp Kn ?_
    refine cd (fun c2 => ?_) (fun c2 => ?_)
    · skip
      refine stp Kn ?_
      refine dw_ret ?_
      exact fin 0 (hr := by (try simp only [go_sem, ff]); all_goals (have hF : (glueAt x) k = false := (by simp only [glueAt]; grind); simp only [glueB]; rw [hv, allN_no hk2 hF]; try simp))
    · skip
      refine dw_skip ?_
      show DW _ _ _ _ _
      refine rgn Kn ?_
      show ∃ _, _
      have h8 : (glueAt x) k = true := by simp only [glueAt]; grind
      exact rnd (k + 1, _) (h1 := ⟨iv, (by first | (rw [hv, allN_yes hk2 h8]) | (dsimp only; rw [hv, allN_yes hk2 h8])), iv, trivial⟩)
  · skip
    refine dw_exit ?_
    show DW _ _ _ _ _
    refine stp Kn ?_
    refine dw_ret ?_
    exact fin 0 (hr := by (try simp only [go_sem, ff]); all_goals (simp only [glueB]; rw [hv, allN_end (by omega)]))
theorem bo53 : hasBody Tryz.prog 53 = true := by kernel_rfl
theorem zform_ct (x : Lay) (hl : x.z.sets.length ≤ 1000000) : PureCt Tryz.prog 53 [.agg x.d] (.b (formB x)) := by
  refine pure_of_dw Tryz.func53 rfl bo53 (by simp [go_sem, D.nr, nrs, nrr]) (by simp [Tryz.f53]) ?_
  unfold Tryz.f53
  simp only [init_eq]
  have ff := True.intro
  refine stp Kn ?_
  refine dw_seq ?_
  refine stp Kn ?_
  refine dw_block ?_
  refine lp (α := (Nat) × Nat) [1, 8, 9] (fun ⟨k, nx⟩ => (k ≤ x.z.sets.length) ∧ (allN x.z.sets.length (formAt x.z) 0 = allN x.z.sets.length (formAt x.z) k) ∧ (0 < nx) ∧ True) (fun ⟨k, nx⟩ => x.z.sets.length - k) (fun ⟨k, nx⟩ => [(10, .i k)]) (fun ⟨k, nx⟩ => [(0, ⟨81, [x.d]⟩)]) (fun ⟨k, nx⟩ => nx) (0, _) (hA := ⟨iv, rfl, iv, trivial⟩) (round := ?_)
  rintro ⟨k, nx⟩ ⟨hk, hv, hx, -⟩
  show DW _ _ _ _ { n := _, t := tab _, h := _, nx := _, e := _ }
  simp only [List.cons_append, List.nil_append]
  have ff := And.intro @hx ff
  refine stp Kn ?_
  refine dw_seq ?_
  refine cd (fun c1 => ?_) (fun c1 => ?_) (hp := rfl)
  · skip
    have hk2 : k < x.z.sets.length := by simpa using c1
    have ff := And.intro (getD_sgd hk2) ff
    refine dw_skip ?_
    show DW _ _ _ _ _
    refine dw_seq ?_
    refine dw_block ?_
    refine stp Kn ?_
    refine stp Kn ?_ (hok := by (try simp only [go_sem, ff]); all_goals (exact zinform_ct _ _))
    refine cd (fun c2 => ?_) (fun c2 => ?_)
    · skip
      refine stp Kn ?_
      refine dw_ret ?_
      exact fin 0 (hr := by (try simp only [go_sem, ff]); all_goals (have hF : (formAt x.z) k = false := (by simpa only [formAt] using c2); simp only [formB]; rw [hv, allN_no hk2 hF]; try simp))
    · skip
      refine dw_skip ?_
      show DW _ _ _ _ _
      refine rgn Kn ?_
      show ∃ _, _
      have h8 : (formAt x.z) k = true := by simpa only [formAt] using c2
      exact rnd (k + 1, _) (h1 := ⟨iv, (by first | (rw [hv, allN_yes hk2 h8]) | (dsimp only; rw [hv, allN_yes hk2 h8])), iv, trivial⟩)
  · skip
    refine dw_exit ?_
    show DW _ _ _ _ _
    refine stp Kn ?_
    refine dw_ret ?_
    exact fin 0 (hr := by (try simp only [go_sem, ff]); all_goals (simp only [formB]; rw [hv, allN_end (by omega)]))

end Go.Proofs.YtfggmgafjabbjaaGreatDoor
namespace Go.Proofs.YtfggmgafjabbjaaGreatDoor
open Go.DL Go.Str Go.Rec Go.Cmp Go.Zon
set_option maxRecDepth 10000
set_option linter.unusedSimpArgs false
set_option linter.unusedVariables false
theorem bo49 : hasBody Tryz.prog 49 = true := by kernel_rfl
theorem zlay_ct (z : Zon) (hl : z.sets.length ≤ 1000000) : PureCt Tryz.prog 49 [.agg z.d] (.agg (layOf z).d) := by
  refine pure_of_dw Tryz.func49 rfl bo49 (by simp [go_sem, D.nr, nrs, nrr]) (by simp [Tryz.f49]) ?_
  unfold Tryz.f49
  simp only [init_eq]
  have ff := True.intro
  refine stp Kn ?_
  refine stp Kn ?_
  refine dw_seq ?_
  refine stp Kn ?_
  refine dw_block ?_
  refine lp (α := (Nat) × Nat) [1, 2, 3, 16, 17] (fun ⟨k, nx⟩ => (k ≤ z.sets.length) ∧ (2 < nx) ∧ True) (fun ⟨k, nx⟩ => z.sets.length - k) (fun ⟨k, nx⟩ => [(18, .i k)]) (fun ⟨k, nx⟩ => [(0, ⟨75, [z.d]⟩), (1, ⟨81, [[.v (.string (bs [])), .list true [], .list true []]]⟩), (2, ⟨126, mapRows (kvT (cutsTo z (k)))⟩)]) (fun ⟨k, nx⟩ => nx) (0, _) (hA := ⟨iv, iv, trivial⟩) (round := ?_)
  rintro ⟨k, nx⟩ ⟨hk, hx, -⟩
  show DW _ _ _ _ { n := _, t := tab _, h := _, nx := _, e := _ }
  simp only [List.cons_append, List.nil_append]
  have n0 : 0 < nx := by omega
  have n1 : 1 < nx := by omega
  have ff := And.intro @hx (And.intro @n0 (And.intro @n1 ff))
  refine stp Kn ?_
  refine dw_seq ?_
  refine cd (fun c1 => ?_) (fun c1 => ?_) (hp := rfl)
  · skip
    have hk2 : k < z.sets.length := by simpa using c1
    have ff := And.intro (getD_sgd hk2) ff
    refine dw_skip ?_
    show DW _ _ _ _ _
    refine dw_seq ?_
    refine dw_block ?_
    refine stp Kn ?_
    refine stp Kn ?_
    refine cd (fun c2 => ?_) (fun c2 => ?_)
    · skip
      refine rgn Kn ?_
      show DW _ _ _ _ _
      refine rgn Kn ?_
      show ∃ _, _
      have ff := And.intro (cuts_yes (z := z) (k := k) (by grind)) ff
      exact rnd (k + 1, _) (h1 := ⟨iv, iv, trivial⟩)
    · skip
      refine dw_skip ?_
      show DW _ _ _ _ _
      refine rgn Kn ?_
      show ∃ _, _
      have ff := And.intro (cuts_no (z := z) (k := k) (by grind)) ff
      exact rnd (k + 1, _) (h1 := ⟨iv, iv, trivial⟩)
  · skip
    refine dw_exit ?_
    show DW _ _ _ _ _
    refine dw_freezem 3 2 ev ev rfl nrs_kvT ?_
    refine stp Kn ?_
    refine stp Kn ?_
    refine dw_seq ?_
    refine stp Kn ?_
    refine dw_block ?_
    refine lp (α := (Nat) × (Str) × (Nat) × (Nat) × Nat) [2, 3, 49, 50] (fun ⟨k, cut, r6, rb, nx⟩ => (k ≤ z.sets.length) ∧ (rb < nx) ∧ (r6 < nx) ∧ (2 < rb ∧ rb < r6) ∧ (cut = (behTo (cutsTo z z.sets.length) z.sets k).2) ∧ True) (fun ⟨k, cut, r6, rb, nx⟩ => z.sets.length - k) (fun ⟨k, cut, r6, rb, nx⟩ => [(6, .mptr r6 0 0), (7, .v (.string (bs cut))), (51, .i k)]) (fun ⟨k, cut, r6, rb, nx⟩ => [(0, ⟨75, [z.d]⟩), (1, ⟨81, [[.v (.string (bs [])), .list true [], .list true []]]⟩), (r6, ⟨81, [[.v (.string (bs z.apex)), .list false (z.sets.map Sgd.d), .mrow rb 0 z.sets.length]]⟩), (rb, ⟨9, (rowsB (cutsTo z z.sets.length) z.sets z.sets.length (k)).map sR⟩)]) (fun ⟨k, cut, r6, rb, nx⟩ => nx) (0, [], (nx + 8), (nx + 6), _) (hA := ⟨iv, iv, iv, iv, iv, trivial⟩) (round := ?_)
    rintro ⟨k, cut, r6, rb, nx⟩ ⟨hk, hx, hx6, hbr, hc, -⟩
    show DW _ _ _ _ { n := _, t := tab _, h := _, nx := _, e := _ }
    simp only [List.cons_append, List.nil_append]
    have n0 : 0 < nx := by omega
    have n1 : 1 < nx := by omega
    have zr6_rb : (r6 = rb) = False := eq_false (by omega)
    have yrb_r6 : (rb = r6) = False := eq_false (by omega)
    have z0_rb : (0 = rb) = False := eq_false (by omega)
    have yrb_0 : (rb = 0) = False := eq_false (by omega)
    have z1_rb : (1 = rb) = False := eq_false (by omega)
    have yrb_1 : (rb = 1) = False := eq_false (by omega)
    have z0_r6 : (0 = r6) = False := eq_false (by omega)
    have yr6_0 : (r6 = 0) = False := eq_false (by omega)
    have z1_r6 : (1 = r6) = False := eq_false (by omega)
    have yr6_1 : (r6 = 1) = False := eq_false (by omega)
    have ff := And.intro @hx (And.intro @hx6 (And.intro @n0 (And.intro @n1 (And.intro @zr6_rb (And.intro @yrb_r6 (And.intro @z0_rb (And.intro @yrb_0 (And.intro @z1_rb (And.intro @yrb_1 (And.intro @z0_r6 (And.intro @yr6_0 (And.intro @z1_r6 (And.intro @yr6_1 ff)))))))))))))
    refine stp Kn ?_
    refine dw_seq ?_
    refine cd (fun c3 => ?_) (fun c3 => ?_) (hp := rfl)
    · skip
      have hk2 : k < z.sets.length := by simpa using c3
      have ff := And.intro (getD_sgd hk2) (And.intro (rowsB_len (m := (cutsTo z z.sets.length)) (l := z.sets) hk) (And.intro (getD_sR (l := rowsB (cutsTo z z.sets.length) z.sets z.sets.length k) (n := k) (by rw [rowsB_len hk]; exact hk2)) ff))
      refine dw_skip ?_
      show DW _ _ _ _ _
      refine dw_seq ?_
      refine dw_block ?_
      refine stp Kn ?_
      refine stp Kn ?_
      refine dw_seq ?_
      refine stp Kn ?_
      refine cd (fun c4 => ?_) (fun c4 => ?_)
      · skip
        refine stp Kn ?_ (hok := by (try simp only [go_sem, ff]); all_goals (exact nunder_ct _ _))
        refine stp Kn ?_
        refine cd (fun c5 => ?_) (fun c5 => ?_)
        · skip
          refine rgn Kn ?_
          show DW _ _ _ _ _
          refine dw_seq ?_
          refine stp Kn ?_
          refine cd (fun c6 => ?_) (fun c6 => ?_)
          · skip
            refine rgn Kn ?_
            show DW _ _ _ _ _
            refine rgn Kn ?_
            show DW _ _ _ _ _
            refine rgn Kn ?_
            show ∃ _, _
            have hcc : (behTo (cutsTo z z.sets.length) z.sets (k + 1)).2 = z.sets[k]!.set.name := by show stepC _ (behTo _ _ k).2 _ = _; rw [← hc]; simp only [stepC]; grind
            have ff := And.intro (rowsB_setD hk2 hcc) (And.intro hcc ff)
            exact rnd (k + 1, (behTo (cutsTo z z.sets.length) z.sets (k + 1)).2, r6, rb, _) (h1 := ⟨iv, iv, iv, iv, iv, trivial⟩)
          · skip
            refine dw_skip ?_
            show DW _ _ _ _ _
            refine rgn Kn ?_
            show DW _ _ _ _ _
            refine rgn Kn ?_
            show ∃ _, _
            have hcc : (behTo (cutsTo z z.sets.length) z.sets (k + 1)).2 = [] := by show stepC _ (behTo _ _ k).2 _ = _; rw [← hc]; simp only [stepC]; grind
            have ff := And.intro (rowsB_setD hk2 hcc) (And.intro hcc ff)
            exact rnd (k + 1, (behTo (cutsTo z z.sets.length) z.sets (k + 1)).2, r6, rb, _) (h1 := ⟨iv, iv, iv, iv, iv, trivial⟩)
        · skip
          refine dw_skip ?_
          show DW _ _ _ _ _
          refine dw_seq ?_
          refine stp Kn ?_
          refine cd (fun c6 => ?_) (fun c6 => ?_)
          · skip
            refine rgn Kn ?_
            show DW _ _ _ _ _
            refine rgn Kn ?_
            show DW _ _ _ _ _
            refine rgn Kn ?_
            show ∃ _, _
            have hcc : (behTo (cutsTo z z.sets.length) z.sets (k + 1)).2 = z.sets[k]!.set.name := by show stepC _ (behTo _ _ k).2 _ = _; rw [← hc]; simp only [stepC]; grind
            have ff := And.intro (rowsB_setD hk2 hcc) (And.intro hcc ff)
            exact rnd (k + 1, (behTo (cutsTo z z.sets.length) z.sets (k + 1)).2, r6, rb, _) (h1 := ⟨iv, iv, iv, iv, iv, trivial⟩)
          · skip
            refine dw_skip ?_
            show DW _ _ _ _ _
            refine rgn Kn ?_
            show DW _ _ _ _ _
            refine rgn Kn ?_
            show ∃ _, _
            have hcc : (behTo (cutsTo z z.sets.length) z.sets (k + 1)).2 = cut := by show stepC _ (behTo _ _ k).2 _ = _; rw [← hc]; simp only [stepC]; grind
            have ff := And.intro (rowsB_setD hk2 hcc) (And.intro hcc ff)
            exact rnd (k + 1, (behTo (cutsTo z z.sets.length) z.sets (k + 1)).2, r6, rb, _) (h1 := ⟨iv, iv, iv, iv, iv, trivial⟩)
      · skip
        refine dw_skip ?_
        show DW _ _ _ _ _
        refine dw_seq ?_
        refine stp Kn ?_
        refine cd (fun c6 => ?_) (fun c6 => ?_)
        · skip
          refine rgn Kn ?_
          show DW _ _ _ _ _
          refine rgn Kn ?_
          show DW _ _ _ _ _
          refine rgn Kn ?_
          show ∃ _, _
          have hcc : (behTo (cutsTo z z.sets.length) z.sets (k + 1)).2 = z.sets[k]!.set.name := by show stepC _ (behTo _ _ k).2 _ = _; rw [← hc]; simp only [stepC]; grind
          have ff := And.intro (rowsB_setD hk2 hcc) (And.intro hcc ff)
          exact rnd (k + 1, (behTo (cutsTo z z.sets.length) z.sets (k + 1)).2, r6, rb, _) (h1 := ⟨iv, iv, iv, iv, iv, trivial⟩)
        · skip
          refine dw_skip ?_
          show DW _ _ _ _ _
          refine rgn Kn ?_
          show DW _ _ _ _ _
          refine rgn Kn ?_
          show ∃ _, _
          have hcc : (behTo (cutsTo z z.sets.length) z.sets (k + 1)).2 = cut := by show stepC _ (behTo _ _ k).2 _ = _; rw [← hc]; simp only [stepC]; grind
          have ff := And.intro (rowsB_setD hk2 hcc) (And.intro hcc ff)
          exact rnd (k + 1, (behTo (cutsTo z z.sets.length) z.sets (k + 1)).2, r6, rb, _) (h1 := ⟨iv, iv, iv, iv, iv, trivial⟩)
    · skip
      refine dw_exit ?_
      show DW _ _ _ _ _
      have e9 : k = z.sets.length := by omega
      subst e9
      have tk : List.take z.sets.length ((rowsB (cutsTo z z.sets.length) z.sets z.sets.length z.sets.length).map sR) = (behOf z).map sR := by rw [rowsB_n]; exact List.take_of_length_le (by rw [List.length_map, behTo_len]; exact Nat.le_refl _)
      have ff := And.intro @tk (And.intro (rowsB_len (m := (cutsTo z z.sets.length)) (l := z.sets) (Nat.le_refl z.sets.length)) ff)
      refine stp Kn ?_
      refine dw_ret ?_
      exact fin 2 (hr := by (try simp only [go_sem, ff]); all_goals (rfl)) (hk := by (try simp only [go_sem, ff]); all_goals (exact behOf_len z))
theorem bo14 : hasBody Tryz.prog 14 = true := by kernel_rfl
theorem zvalid_ct (z : Zon) : PureCt Tryz.prog 14 [.agg z.d] (.b (zoneOk z)) := by
  refine pure_of_dw Tryz.func14 rfl bo14 (by simp [go_sem, D.nr, nrs, nrr]) (by simp [Tryz.f14]) ?_
  unfold Tryz.f14
  simp only [init_eq]
  have ff := True.intro
  refine stp Kn ?_
  refine stp Kn ?_
  refine dw_seq ?_
  refine stp Kn ?_ (hok := by (try simp only [go_sem, ff]); all_goals (first | done | ((repeat' (with_reducible apply And.intro)) <;> first | exact zordered_ct z | (intros; exact zordered_ct z) | (intro h; exact zapex_ct z (ord_len h)) | (intros; simp_all; done) | skip)))
  refine cd (fun c1 => ?_) (fun c1 => ?_)
  · skip
    refine stp Kn ?_
    refine dw_ret ?_
    exact fin 0 (hr := by (try simp only [go_sem, ff]); all_goals (simp only [zoneOk]; grind))
  · skip
    refine dw_skip ?_
    show DW _ _ _ _ _
    have ho := ord_len c1.1
    refine stp Kn ?_ (hok := by (try simp only [go_sem, ff]); all_goals (exact zlay_ct z ho))
    refine stp Kn ?_ (hok := by (try simp only [go_sem, ff]); all_goals (first | done | ((repeat' (with_reducible apply And.intro)) <;> first | exact zalias_ct (layOf z) ho | (intros; exact zalias_ct (layOf z) ho) | exact zcuts_ct (layOf z) ho (behOf_len z) | (intros; exact zcuts_ct (layOf z) ho (behOf_len z)) | exact zglue_ct (layOf z) ho (behOf_len z) | (intros; exact zglue_ct (layOf z) ho (behOf_len z)) | exact zform_ct (layOf z) ho | (intros; exact zform_ct (layOf z) ho) | skip)))
    refine dw_ret ?_
    exact fin 0 (hr := by (try simp only [go_sem, ff]); all_goals (simp only [zoneOk]; rw [c1.1, c1.2]; simp [Bool.and_assoc]))
theorem bo13 : hasBody Tryz.prog 13 = true := by kernel_rfl
theorem zserial_ct (z : Zon) : PureCt Tryz.prog 13 [.agg z.d] (.tuple [.i (if zoneOk z then serialOf z else 0), .i (if zoneOk z then 0 else 1)]) := by
  refine pure_of_dw Tryz.func13 rfl bo13 (by simp [go_sem, D.nr, nrs, nrr]) (by simp [Tryz.f13]) ?_
  unfold Tryz.f13
  simp only [init_eq]
  have ff := True.intro
  refine stp Kn ?_
  refine dw_seq ?_
  refine stp Kn ?_ (hok := by (try simp only [go_sem, ff]); all_goals (exact zvalid_ct z))
  refine cd (fun c1 => ?_) (fun c1 => ?_)
  · skip
    refine stp Kn ?_
    refine dw_ret ?_
    exact fin 1 (hr := by (try simp only [go_sem, ff]); all_goals (simp [c1]))
  · skip
    refine dw_skip ?_
    show DW _ _ _ _ _
    refine stp Kn ?_ (hok := by (try simp only [go_sem, ff]); all_goals (exact zfind_ct z ⟨z.apex, 4⟩ (ok_len c1)))
    obtain ⟨hf1, hf2⟩ := start_at c1
    have ff := And.intro (getD_sgd hf1) (And.intro (getD_dat hf2) ff)
    refine stp Kn ?_
    refine dw_ret ?_
    exact fin 1 (hr := by (try simp only [go_sem, ff]); all_goals (simp [c1, serialOf]))

end Go.Proofs.YtfggmgafjabbjaaGreatDoor
