/-
  STRETCHES: the plain law, second part: what the five other laws of span lean on. No program in sight. Conditions: none.
-/
import Derived.Test.YtfcdbijmoiegiaaSpanLaw
namespace Go.Span
theorem range_of {l : List Sp} (h : Vd l) : ∀ s ∈ l, 0 ≤ s.a ∧ s.b ≤ 20000000 := fun s hs => ⟨(h.1 s hs).1, (h.1 s hs).2.2⟩
theorem range_of' {l : List Sp} (h : Vd l) : ∀ s ∈ l, 0 ≤ s.a ∧ s.a ≤ s.b ∧ s.b ≤ 20000000 := fun s hs => ⟨(h.1 s hs).1, Int.le_of_lt (h.1 s hs).2.1, (h.1 s hs).2.2⟩
theorem rvalid_of {l : List Sp} (h : Vd l) (hl : l.length ≤ 20000) : rvalid l = true := rvalid_iff.2 ⟨h, hl⟩
theorem lim_ok {l : List Sp} (hl : l.length ≤ 20000) : rlimited l = (l, 0) := by
  unfold rlimited
  rw [if_neg (by omega)]
theorem rhas_congr {l m : List Sp} {t : Int} (h : Has l t ↔ Has m t) : rhas l t = rhas m t := by
  rw [Bool.eq_iff_iff, rhas_iff, rhas_iff]; exact h
theorem few {l : List Sp} (h : rfew l = true) : l.length ≤ 60 := by
  simp [rfew] at h; omega

/-! ### SpanNormal -/
theorem norm_err {l : List Sp} (hl : l.length ≤ 60) (h : ((rnormal l).2 != 0) = true) : rnormal l = ([], 1) ∧ rvalid l = false := by
  unfold rnormal at h ⊢
  split
  · rename_i h1
    rw [if_pos h1, if_neg (by omega)] at h
    simp at h
  · rename_i h1
    refine ⟨rfl, ?_⟩
    cases hv : rvalid l with
    | false => rfl
    | true => exact absurd (nNoBad_of (range_of' (vd_of hv))) h1
theorem norm_ok {l : List Sp} (hl : l.length ≤ 60) (h : ((rnormal l).2 != 0) = false) : nNoBad l 0 = true ∧ rnormal l = (rall l, 0) := by
  unfold rnormal at h ⊢
  split
  · rename_i h1
    exact ⟨h1, by rw [if_neg (by omega)]⟩
  · rename_i h1
    rw [if_neg h1] at h
    simp at h
theorem rall_vd {l : List Sp} (h : nNoBad l 0 = true) : Vd (rall l) ∧ ∀ t, Has (rall l) t ↔ Has l t := rall_ok fun s hs => ⟨(nNoBad_mem h s hs).1, (nNoBad_mem h s hs).2.2⟩
theorem norm_rev {l : List Sp} (hl : l.length ≤ 60) (h : nNoBad l 0 = true) : rnormal l.reverse = (rall l, 0) := by
  have hr : nNoBad l.reverse 0 = true := nNoBad_of fun s hs => nNoBad_mem h s (List.mem_reverse.1 hs)
  unfold rnormal
  rw [if_pos hr, if_neg (by rw [List.length_reverse]; omega)]
  obtain ⟨h1, h2⟩ := rall_vd h
  obtain ⟨h3, h4⟩ := rall_vd hr
  rw [uniq _ _ h3 h1 fun t => ((h4 t).trans (has_perm (List.reverse_perm l) t)).trans (h2 t).symm]
theorem norm_again {l : List Sp} (hl : l.length ≤ 60) (h : nNoBad l 0 = true) : rnormal (rall l) = (rall l, 0) := by
  obtain ⟨h1, h2⟩ := rall_vd h
  have hr : nNoBad (rall l) 0 = true := nNoBad_of (range_of' h1)
  have := rall_len l
  unfold rnormal
  rw [if_pos hr, if_neg (by omega)]
  obtain ⟨h3, h4⟩ := rall_vd hr
  rw [uniq _ _ h3 h1 h4]
theorem norm_valid {l : List Sp} (hl : l.length ≤ 60) (h : nNoBad l 0 = true) : rvalid (rall l) = true := rvalid_of (rall_vd h).1 (by have := rall_len l; omega)
theorem norm_has {l : List Sp} {t : Int} (h : nNoBad l 0 = true) : rhas (rall l) t = rhas l t := rhas_congr ((rall_vd h).2 t)
theorem rev_take {l : List Sp} {k : Nat} (h : k < l.length) : l.reverse.take k ++ [l[l.length - 1 - k]!] = l.reverse.take (k + 1) := by
  rw [List.take_add_one, List.getElem?_reverse h, getElem!_pos l _ (by omega), List.getElem?_eq_getElem (by omega)]
  rfl

/-! ### SpanTimes -/
theorem union_ok {a b : List Sp} (ha : rvalid a = true) (hb : rvalid b = true) (hl : (reither a b).length ≤ 20000) : runion a b = (reither a b, 0) := by
  unfold runion; rw [ha, hb]; exact lim_ok hl
theorem cross_ok {a b : List Sp} (ha : rvalid a = true) (hb : rvalid b = true) (hl : (rboth a b).length ≤ 20000) : rcross a b = (rboth a b, 0) := by
  unfold rcross; rw [ha, hb]; exact lim_ok hl
theorem minus_ok {a b : List Sp} (ha : rvalid a = true) (hb : rvalid b = true) (hl : (rmin a b).length ≤ 20000) : rminus a b = (rmin a b, 0) := by
  unfold rminus; rw [ha, hb]; exact lim_ok hl
theorem either_len (a b : List Sp) : (reither a b).length ≤ a.length + b.length := by
  have h1 := allFrom_len b b.length 0 (rall a) (by omega)
  have h2 := rall_len a
  unfold reither
  omega
theorem both_len {a b : List Sp} {m n : Nat} (ha : a.length ≤ m) (hb : b.length ≤ n) : (rboth a b).length ≤ m * n := Nat.le_trans (rboth_len a b) (Nat.mul_le_mul ha hb)
theorem min_len {a b : List Sp} {m n : Nat} (ha : a.length ≤ m) (hb : b.length ≤ n) : (rmin a b).length ≤ m * (n + 1) := both_len ha (by have := rnot_len b; omega)
theorem has_either {a b : List Sp} (ha : rvalid a = true) (hb : rvalid b = true) (t : Int) : rhas (reither a b) t = (rhas a t || rhas b t) := by
  rw [Bool.eq_iff_iff, Bool.or_eq_true, rhas_iff, rhas_iff, rhas_iff]; exact (reither_ok (vd_of ha) (vd_of hb)).2 t
theorem has_both {a b : List Sp} (ha : rvalid a = true) (hb : rvalid b = true) (t : Int) : rhas (rboth a b) t = (rhas a t && rhas b t) := by
  rw [Bool.eq_iff_iff, Bool.and_eq_true, rhas_iff, rhas_iff, rhas_iff]; exact (rboth_ok (vd_of ha) (vd_of hb)).2 t
theorem has_min {a b : List Sp} (ha : rvalid a = true) (hb : rvalid b = true) (t : Int) : rhas (rmin a b) t = (rhas a t && !rhas b t) := by
  have h := (rmin_ok (vd_of ha) (vd_of hb)).2 t
  rw [Bool.eq_iff_iff, Bool.and_eq_true, Bool.not_eq_true', rhas_iff, rhas_iff, ← Bool.not_eq_true, rhas_iff]; exact h

/-! ### SpanParts -/
section
variable {a b c : List Sp} (ha : rvalid a = true) (hb : rvalid b = true) (hc : rvalid c = true) (la : a.length ≤ 60) (lb : b.length ≤ 60) (lc : c.length ≤ 60)
include ha hb la lb
theorem parts_in : rcross a b = (rboth a b, 0) ∧ rvalid (rboth a b) = true ∧ (rboth a b).length ≤ 3600 := by
  have h := both_len la lb
  exact ⟨cross_ok ha hb (by omega), rvalid_of (rboth_ok (vd_of ha) (vd_of hb)).1 (by omega), h⟩
theorem parts_out : rminus a b = (rmin a b, 0) ∧ rvalid (rmin a b) = true ∧ (rmin a b).length ≤ 3660 := by
  have h := min_len la lb
  exact ⟨minus_ok ha hb (by omega), rvalid_of (rmin_ok (vd_of ha) (vd_of hb)).1 (by omega), h⟩
theorem parts_all : runion (rboth a b) (rmin a b) = (a, 0) := by
  obtain ⟨_, h1, _⟩ := parts_in ha hb la lb
  obtain ⟨_, h2, _⟩ := parts_out ha hb la lb
  obtain ⟨h3, h4⟩ := reither_ok (vd_of h1) (vd_of h2)
  have e : reither (rboth a b) (rmin a b) = a := uniq _ _ h3 (vd_of ha) fun t => by
    rw [h4, (rboth_ok (vd_of ha) (vd_of hb)).2, (rmin_ok (vd_of ha) (vd_of hb)).2]
    by_cases k : Has b t <;> simp [k]
  have := union_ok h1 h2 (by rw [e]; omega)
  rwa [e] at this
theorem parts_none : rcross (rboth a b) (rmin a b) = ([], 0) := by
  obtain ⟨_, h1, _⟩ := parts_in ha hb la lb
  obtain ⟨_, h2, _⟩ := parts_out ha hb la lb
  obtain ⟨h3, h4⟩ := rboth_ok (vd_of h1) (vd_of h2)
  have e : rboth (rboth a b) (rmin a b) = [] := uniq _ _ h3 .nil fun t => by
    rw [h4, (rboth_ok (vd_of ha) (vd_of hb)).2, (rmin_ok (vd_of ha) (vd_of hb)).2]
    exact ⟨fun h => absurd h.1.2 h.2.2, fun h => absurd h has_nil⟩
  have := cross_ok h1 h2 (by rw [e]; simp)
  rwa [e] at this
theorem parts_turn : rcross b a = (rboth a b, 0) := by
  obtain ⟨_, _, hl⟩ := parts_in ha hb la lb
  have e : rboth b a = rboth a b := uniq _ _ (rboth_ok (vd_of hb) (vd_of ha)).1 (rboth_ok (vd_of ha) (vd_of hb)).1 fun t => by
    rw [(rboth_ok (vd_of hb) (vd_of ha)).2, (rboth_ok (vd_of ha) (vd_of hb)).2]; exact and_comm
  have := cross_ok hb ha (by rw [e]; omega)
  rwa [e] at this
theorem union_two : runion a b = (reither a b, 0) ∧ runion b a = (reither a b, 0) ∧ rvalid (reither a b) = true ∧ (reither a b).length ≤ 120 := by
  have h := either_len a b
  have e : reither b a = reither a b := uniq _ _ (reither_ok (vd_of hb) (vd_of ha)).1 (reither_ok (vd_of ha) (vd_of hb)).1 fun t => by
    rw [(reither_ok (vd_of hb) (vd_of ha)).2, (reither_ok (vd_of ha) (vd_of hb)).2]; exact or_comm
  have h2 := union_ok hb ha (by rw [e]; omega)
  rw [e] at h2
  exact ⟨union_ok ha hb (by omega), h2, rvalid_of (reither_ok (vd_of ha) (vd_of hb)).1 (by omega), by omega⟩
include hc lc
theorem parts_away : rminus a (reither b c) = (rmin a (reither b c), 0) ∧ rminus (rmin a b) c = (rmin a (reither b c), 0) := by
  obtain ⟨_, _, hu, lu⟩ := union_two hb hc lb lc
  obtain ⟨_, ho, _⟩ := parts_out ha hb la lb
  have h := min_len la lu
  have e : rmin (rmin a b) c = rmin a (reither b c) := uniq _ _ (rmin_ok (vd_of ho) (vd_of hc)).1 (rmin_ok (vd_of ha) (vd_of hu)).1 fun t => by
    rw [(rmin_ok (vd_of ho) (vd_of hc)).2, (rmin_ok (vd_of ha) (vd_of hb)).2, (rmin_ok (vd_of ha) (vd_of hu)).2, (reither_ok (vd_of hb) (vd_of hc)).2, not_or, and_assoc]
  have h2 := minus_ok ho hc (by rw [e]; omega)
  rw [e] at h2
  exact ⟨minus_ok ha hu (by omega), h2⟩
end

/-! ### SpanGrows -/
theorem growFrom_len (l : List Sp) (before after : Int) : ∀ (n k : Nat) (out : List Sp), l.length - k = n → (growFrom l before after k out).length ≤ out.length + n := by
  intro n
  induction n with
  | zero => intro k out h; rw [growFrom_eq, if_neg (by omega)]; exact Nat.le_refl _
  | succ n ih =>
    intro k out h
    have hk : k < l.length := by omega
    rw [growFrom_eq, if_pos hk]
    have h1 := ih (k + 1) (with1 out ⟨max 0 (l[k]!.a - before), min 20000000 (l[k]!.b + after)⟩) (by omega)
    have h2 := with1_len out ⟨max 0 (l[k]!.a - before), min 20000000 (l[k]!.b + after)⟩
    omega
def gw (l : List Sp) (before after : Int) : List Sp := growFrom l before after 0 []
theorem gw_len (l : List Sp) (before after : Int) : (gw l before after).length ≤ l.length := by simpa [gw] using growFrom_len l before after l.length 0 [] (by omega)
theorem gw_has {l : List Sp} {before after : Int} (hb : 0 ≤ before) (ha : 0 ≤ after) (hl : Vd l) (t : Int) : Has (gw l before after) t ↔ (0 ≤ t ∧ t < 20000000 ∧ ∃ u, Has l u ∧ u - before ≤ t ∧ t ≤ u + after) := by
  rw [gw, (growFrom_ok (l := l)).2]
  constructor
  · rintro ⟨x, hx, h1, h2⟩
    obtain ⟨s, hs, rfl⟩ := List.mem_map.1 hx
    simp only [gr] at h1 h2
    have h3 := hl.1 s hs
    unfold In at h3
    refine ⟨by omega, by omega, max s.a (min (s.b - 1) (t + before)), ⟨s, hs, by omega, by omega⟩, by omega, by omega⟩
  · rintro ⟨h1, h2, u, ⟨s, hs, h3, h4⟩, h5, h6⟩
    exact ⟨gr before after s, List.mem_map.2 ⟨s, hs, rfl⟩, by simp only [gr]; omega, by simp only [gr]; omega⟩
theorem grow_ok {l : List Sp} {before after : Int} (hl : rvalid l = true) (hb : 0 ≤ before) (hb' : before ≤ 20000000) (ha : 0 ≤ after) (ha' : after ≤ 20000000) : rgrow l before after = (gw l before after, 0) ∧ rvalid (gw l before after) = true := by
  have hbad : badGrow before after = false := by
    unfold badGrow
    simp only [Bool.or_eq_false_iff, decide_eq_false_iff_not]
    omega
  refine ⟨?_, rvalid_of (growFrom_ok (l := l)).1 ?_⟩
  · unfold rgrow
    rw [hl, hbad]
    rfl
  · have h1 := gw_len l before after
    have h2 := rvalid_len hl
    show (gw l before after).length ≤ 20000
    omega
theorem grow_zero {l : List Sp} (hl : rvalid l = true) : rgrow l 0 0 = (l, 0) := by
  obtain ⟨h1, h2⟩ := grow_ok hl (Int.le_refl 0) (by omega) (Int.le_refl 0) (by omega)
  rw [h1, uniq _ _ (vd_of h2) (vd_of hl) fun t => ?_]
  rw [gw_has (Int.le_refl 0) (Int.le_refl 0) (vd_of hl)]
  constructor
  · rintro ⟨_, _, u, h, h3, h4⟩
    have : u = t := by omega
    exact this ▸ h
  · intro h
    have := vd_range (vd_of hl) h
    exact ⟨this.1, this.2, t, h, by omega, by omega⟩
theorem grow_twice {l : List Sp} {b a m n : Int} (hl : rvalid l = true) (hb : 0 ≤ b ∧ b < 10000000) (ha : 0 ≤ a ∧ a < 10000000) (hm : 0 ≤ m ∧ m < 10000000) (hn : 0 ≤ n ∧ n < 10000000) : rgrow (gw l b a) m n = (gw l (b + m) (a + n), 0) := by
  obtain ⟨_, h1⟩ := grow_ok hl hb.1 (by omega) ha.1 (by omega)
  obtain ⟨h2, h3⟩ := grow_ok h1 hm.1 (by omega) hn.1 (by omega)
  obtain ⟨_, h4⟩ := grow_ok hl (before := b + m) (after := a + n) (by omega) (by omega) (by omega) (by omega)
  rw [h2, uniq _ _ (vd_of h3) (vd_of h4) fun t => ?_]
  rw [gw_has hm.1 hn.1 (vd_of h1), gw_has (by omega) (by omega) (vd_of hl)]
  constructor
  · rintro ⟨q1, q2, v, hv, q3, q4⟩
    obtain ⟨q5, q6, u, hu, q7, q8⟩ := (gw_has hb.1 ha.1 (vd_of hl) v).1 hv
    exact ⟨q1, q2, u, hu, by omega, by omega⟩
  · rintro ⟨q1, q2, u, hu, q3, q4⟩
    have hr := vd_range (vd_of hl) hu
    refine ⟨q1, q2, max (max 0 (u - b)) (t - n), (gw_has hb.1 ha.1 (vd_of hl) _).2 ⟨by omega, by omega, u, hu, by omega, by omega⟩, by omega, by omega⟩
def wantG (l : List Sp) (b a at' : Int) : Bool := l.any fun s => decide (s.a - b ≤ at') && decide (at' < s.b + a)
theorem grow_want {l : List Sp} {b a t : Int} (ht : 0 ≤ t) (ht' : t < 20000000) : rhas (gw l b a) t = wantG l b a t := by
  rw [Bool.eq_iff_iff, rhas_iff, gw, (growFrom_ok (l := l)).2]
  simp only [wantG, List.any_eq_true, Bool.and_eq_true, decide_eq_true_eq]
  constructor
  · rintro ⟨x, hx, h1, h2⟩
    obtain ⟨s, hs, rfl⟩ := List.mem_map.1 hx
    simp only [gr] at h1 h2
    exact ⟨s, hs, by omega, by omega⟩
  · rintro ⟨s, hs, h1, h2⟩
    exact ⟨gr b a s, List.mem_map.2 ⟨s, hs, rfl⟩, by simp only [gr]; omega, by simp only [gr]; omega⟩

/-! ### SpanOne -/
def bndr (s : Sp) : List Int := [s.a - 1, s.a, s.b - 1, s.b]
theorem one_law : ∀ (a b : List Sp), Vd a → Vd b → (∀ s ∈ a, ∀ t ∈ bndr s, Has a t ↔ Has b t) → (∀ s ∈ b, ∀ t ∈ bndr s, Has a t ↔ Has b t) → a = b
  | [], [], _, _, _, _ => rfl
  | [], y :: b, _, hb, _, h => by
    have := (vd_cons.1 hb).1
    exact absurd ((h y (by simp) y.a (by simp [bndr])).2 (has_cons.2 (.inl ⟨Int.le_refl _, this.2.1⟩))) has_nil
  | x :: a, [], ha, _, h, _ => by
    have := (vd_cons.1 ha).1
    exact absurd ((h x (by simp) x.a (by simp [bndr])).1 (has_cons.2 (.inl ⟨Int.le_refl _, this.2.1⟩))) has_nil
  | x :: a, y :: b, ha, hb, h1, h2 => by
    obtain ⟨x1, x2, x3⟩ := vd_cons.1 ha
    obtain ⟨y1, y2, y3⟩ := vd_cons.1 hb
    unfold In at x1 y1
    -- first and last times are met in both
    have start : ∀ {l : List Sp} {t : Int}, Vd l → Has l t → ¬ Has l (t - 1) → ∃ s ∈ l, s.a = t := by
      intro l t hl ⟨s, hs, q1, q2⟩ hn
      refine ⟨s, hs, ?_⟩
      refine Classical.byContradiction fun e => hn ⟨s, hs, by omega, by omega⟩
    have stop : ∀ {l : List Sp} {t : Int}, Vd l → Has l (t - 1) → ¬ Has l t → ∃ s ∈ l, s.b = t := by
      intro l t hl ⟨s, hs, q1, q2⟩ hn
      refine ⟨s, hs, ?_⟩
      refine Classical.byContradiction fun e => hn ⟨s, hs, by omega, by omega⟩
    have low : ∀ {x : Sp} {l : List Sp}, In x → (∀ y ∈ l, x.b < y.a) → ∀ s ∈ x :: l, x.a ≤ s.a := by
      intro x l hx hl s hs
      unfold In at hx
      rcases List.mem_cons.1 hs with rfl | hs
      · exact Int.le_refl _
      · have := hl s hs; omega
    have lowb : ∀ {x : Sp} {l : List Sp}, (∀ y ∈ l, x.b < y.a) → Vd (x :: l) → ∀ s ∈ x :: l, x.b ≤ s.b := by
      intro x l hl hv s hs
      have h3 := hv.1 s hs
      unfold In at h3
      rcases List.mem_cons.1 hs with rfl | hs
      · exact Int.le_refl _
      · have := hl s hs; omega
    have before : ∀ {x : Sp} {l : List Sp}, In x → (∀ y ∈ l, x.b < y.a) → ¬ Has (x :: l) (x.a - 1) := by
      intro x l hx hl ⟨s, hs, q1, _⟩
      have := low hx hl s hs
      omega
    have behind : ∀ {x : Sp} {l : List Sp}, In x → (∀ y ∈ l, x.b < y.a) → ¬ Has (x :: l) x.b := by
      intro x l hx hl ⟨s, hs, q1, q2⟩
      rcases List.mem_cons.1 hs with rfl | hs
      · omega
      · have := hl s hs; omega
    have hx0 : Has (x :: a) x.a := has_cons.2 (.inl ⟨Int.le_refl _, x1.2.1⟩)
    have hx9 : Has (x :: a) (x.b - 1) := has_cons.2 (.inl ⟨by omega, by omega⟩)
    have hy0 : Has (y :: b) y.a := has_cons.2 (.inl ⟨Int.le_refl _, y1.2.1⟩)
    have hy9 : Has (y :: b) (y.b - 1) := has_cons.2 (.inl ⟨by omega, by omega⟩)
    have ix := h1 x (by simp)
    have iy := h2 y (by simp)
    have e1 : x.a = y.a := by
      obtain ⟨s, hs, q1⟩ := start hb ((ix x.a (by simp [bndr])).1 hx0) fun q => before x1 x2 ((ix (x.a - 1) (by simp [bndr])).2 q)
      obtain ⟨s', hs', q2⟩ := start ha ((iy y.a (by simp [bndr])).2 hy0) fun q => before y1 y2 ((iy (y.a - 1) (by simp [bndr])).1 q)
      have := low y1 y2 s hs
      have := low x1 x2 s' hs'
      omega
    have e2 : x.b = y.b := by
      obtain ⟨s, hs, q1⟩ := stop hb ((ix (x.b - 1) (by simp [bndr])).1 hx9) fun q => behind x1 x2 ((ix x.b (by simp [bndr])).2 q)
      obtain ⟨s', hs', q2⟩ := stop ha ((iy (y.b - 1) (by simp [bndr])).2 hy9) fun q => behind y1 y2 ((iy y.b (by simp [bndr])).1 q)
      have := lowb y2 hb s hs
      have := lowb x2 ha s' hs'
      omega
    have e : x = y := by cases x; cases y; simp only at e1 e2; rw [e1, e2]
    subst e
    have late : ∀ {l : List Sp} {t : Int}, x.b ≤ t → (Has (x :: l) t ↔ Has l t) := by
      intro l t ht
      rw [has_cons]
      exact ⟨fun q => q.elim (fun q => by omega) id, .inr⟩
    have tl : ∀ s, x.b < s.a → s.a < s.b → ∀ t ∈ bndr s, x.b ≤ t := by
      intro s q1 q2 t ht
      simp only [bndr, List.mem_cons, List.not_mem_nil, or_false] at ht
      rcases ht with rfl | rfl | rfl | rfl <;> omega
    rw [one_law a b x3 y3 (fun s hs t ht => ?_) (fun s hs t ht => ?_)]
    · have hk := tl s (x2 s hs) (x3.1 s hs).2.1 t ht
      rw [← late hk, ← late (l := b) hk]
      exact h1 s (by simp [hs]) t ht
    · have hk := tl s (y2 s hs) (y3.1 s hs).2.1 t ht
      rw [← late hk, ← late (l := b) hk]
      exact h2 s (by simp [hs]) t ht
def okAt (a b : List Sp) (t : Int) : Bool := rhas a t == rhas b t
def oneAll (a b l : List Sp) : Bool := l.all fun s => (bndr s).all (okAt a b)
theorem one_iff {a b : List Sp} (ha : rvalid a = true) (hb : rvalid b = true) : (oneAll a b a && oneAll a b b) = rsame a b := by
  rw [Bool.eq_iff_iff, rsame_iff, Bool.and_eq_true]
  have hk : ∀ l : List Sp, oneAll a b l = true ↔ ∀ s ∈ l, ∀ t ∈ bndr s, Has a t ↔ Has b t := by
    intro l
    simp only [oneAll, List.all_eq_true, okAt, beq_iff_eq]
    constructor
    · intro h s hs t ht
      have := h s hs t ht
      rw [← rhas_iff, ← rhas_iff, this]
    · intro h s hs t ht
      exact rhas_congr (h s hs t ht)
  rw [hk, hk]
  constructor
  · rintro ⟨h1, h2⟩
    exact one_law a b (vd_of ha) (vd_of hb) h1 h2
  · rintro rfl
    exact ⟨fun _ _ _ _ => Iff.rfl, fun _ _ _ _ => Iff.rfl⟩
def wantFrom (l : List Sp) (b a t : Int) (k : Nat) : Bool := (l.take k).any fun s => decide (s.a - b ≤ t) && decide (t < s.b + a)
theorem wantFrom_step {l : List Sp} {b a t : Int} {k : Nat} (hk : k < l.length) : wantFrom l b a t (k + 1) = (wantFrom l b a t k || (decide (l[k]!.a - b ≤ t) && decide (t < l[k]!.b + a))) := by
  unfold wantFrom
  rw [List.take_add_one, List.any_append, List.getElem?_eq_getElem hk, getElem!_pos l k hk]
  simp
theorem wantFrom_all {l : List Sp} {b a t : Int} {k : Nat} (hk : l.length ≤ k) : wantFrom l b a t k = wantG l b a t := by
  unfold wantFrom wantG
  rw [List.take_of_length_le hk]
/-- the three loops of SpanOne -/
def one3 (a b : List Sp) (s : Sp) (k : Nat) : Bool := ((bndr s).take k).all (okAt a b)
def one2 (a b l : List Sp) (k : Nat) : Bool := (l.take k).all fun s => (bndr s).all (okAt a b)
def one1 (a b : List Sp) (k : Nat) : Bool := (([a, b] : List (List Sp)).take k).all (oneAll a b)
theorem one3_step {a b : List Sp} {s : Sp} {k : Nat} (hk : k < 4) : one3 a b s (k + 1) = (one3 a b s k && okAt a b (bndr s)[k]!) := by
  unfold one3
  have hl : k < (bndr s).length := hk
  rw [List.take_add_one, List.all_append, List.getElem?_eq_getElem hl, getElem!_pos (bndr s) k hl]
  simp
theorem one3_all {a b : List Sp} {s : Sp} : one3 a b s 4 = (bndr s).all (okAt a b) := rfl
theorem one2_step {a b l : List Sp} {k : Nat} (hk : k < l.length) : one2 a b l (k + 1) = (one2 a b l k && (bndr l[k]!).all (okAt a b)) := by
  unfold one2
  rw [List.take_add_one, List.all_append, List.getElem?_eq_getElem hk, getElem!_pos l k hk]
  simp
theorem one2_all {a b l : List Sp} {k : Nat} (hk : l.length ≤ k) : one2 a b l k = oneAll a b l := by
  unfold one2 oneAll
  rw [List.take_of_length_le hk]
theorem one1_step {a b : List Sp} {k : Nat} (hk : k < 2) : one1 a b (k + 1) = (one1 a b k && oneAll a b ([a, b] : List (List Sp))[k]!) := by
  match k, hk with
  | 0, _ => simp [one1]
  | 1, _ => simp [one1]
theorem one1_all {a b : List Sp} : one1 a b 2 = (oneAll a b a && oneAll a b b) := by simp [one1]
end Go.Span
