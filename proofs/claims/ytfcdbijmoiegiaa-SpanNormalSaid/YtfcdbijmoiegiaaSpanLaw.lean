/-
  STRETCHES: the plain law: what the functions compute, told by the times that lists have. No program in sight. Conditions: none.
-/
import Derived.Test.YtfcdbijmoiegiaaSpanModel
namespace Go.Span
open Classical
def Has (l : List Sp) (t : Int) : Prop := ∃ s ∈ l, s.a ≤ t ∧ t < s.b
def In (s : Sp) : Prop := 0 ≤ s.a ∧ s.a < s.b ∧ s.b ≤ 20000000
def Vd (l : List Sp) : Prop := (∀ s ∈ l, In s) ∧ l.Pairwise fun x y => x.b < y.a

theorem has_nil {t : Int} : ¬ Has [] t := fun ⟨s, h, _⟩ => by cases h
theorem has_cons {x : Sp} {l : List Sp} {t : Int} : Has (x :: l) t ↔ (x.a ≤ t ∧ t < x.b) ∨ Has l t := by
  unfold Has
  constructor
  · rintro ⟨s, h, k⟩
    rcases List.mem_cons.1 h with rfl | h
    · exact .inl k
    · exact .inr ⟨s, h, k⟩
  · rintro (k | ⟨s, h, k⟩)
    · exact ⟨x, by simp, k⟩
    · exact ⟨s, by simp [h], k⟩
theorem has_append {l m : List Sp} {t : Int} : Has (l ++ m) t ↔ Has l t ∨ Has m t := by
  unfold Has
  constructor
  · rintro ⟨s, h, k⟩
    rcases List.mem_append.1 h with h | h
    · exact .inl ⟨s, h, k⟩
    · exact .inr ⟨s, h, k⟩
  · rintro (⟨s, h, k⟩ | ⟨s, h, k⟩)
    · exact ⟨s, by simp [h], k⟩
    · exact ⟨s, by simp [h], k⟩
theorem has_one {x : Sp} {t : Int} : Has [x] t ↔ x.a ≤ t ∧ t < x.b := by
  rw [has_cons]; exact ⟨fun h => h.elim id fun h => absurd h has_nil, .inl⟩
theorem has_perm {l m : List Sp} (h : l.Perm m) (t : Int) : Has l t ↔ Has m t := by
  unfold Has
  exact ⟨fun ⟨s, k, r⟩ => ⟨s, h.mem_iff.1 k, r⟩, fun ⟨s, k, r⟩ => ⟨s, h.mem_iff.2 k, r⟩⟩
theorem Vd.nil : Vd [] := ⟨fun s h => (by cases h), List.Pairwise.nil⟩
theorem vd_cons {x : Sp} {l : List Sp} : Vd (x :: l) ↔ In x ∧ (∀ y ∈ l, x.b < y.a) ∧ Vd l := by
  unfold Vd
  rw [List.pairwise_cons]
  exact ⟨fun ⟨h, k, r⟩ => ⟨h x (by simp), k, fun s hs => h s (by simp [hs]), r⟩, fun ⟨h, k, r, q⟩ => ⟨fun s hs => by
    rcases List.mem_cons.1 hs with rfl | hs
    · exact h
    · exact r s hs, k, q⟩⟩
theorem vd_one {x : Sp} (h : In x) : Vd [x] := vd_cons.2 ⟨h, fun _ h => (by cases h), .nil⟩
theorem vd_append {l m : List Sp} : Vd (l ++ m) ↔ Vd l ∧ Vd m ∧ ∀ x ∈ l, ∀ y ∈ m, x.b < y.a := by
  unfold Vd
  rw [List.pairwise_append]
  constructor
  · rintro ⟨h, k, r, q⟩
    exact ⟨⟨fun s hs => h s (by simp [hs]), k⟩, ⟨fun s hs => h s (by simp [hs]), r⟩, q⟩
  · rintro ⟨⟨h1, h2⟩, ⟨h3, h4⟩, h5⟩
    refine ⟨fun s hs => ?_, h2, h4, h5⟩
    rcases List.mem_append.1 hs with hs | hs
    · exact h1 s hs
    · exact h3 s hs
theorem vd_range {l : List Sp} (h : Vd l) {t : Int} (k : Has l t) : 0 ≤ t ∧ t < 20000000 := by
  obtain ⟨s, h1, h2, h3⟩ := k
  have := h.1 s h1
  unfold In at this
  omega

/-- ONE VALID LIST FOR A SET OF TIMES. -/
theorem uniq : ∀ (l m : List Sp), Vd l → Vd m → (∀ t, Has l t ↔ Has m t) → l = m
  | [], [], _, _, _ => rfl
  | [], y :: m, _, hm, h => by
    have := (vd_cons.1 hm).1
    exact absurd ((h y.a).2 (has_cons.2 (.inl ⟨Int.le_refl _, this.2.1⟩))) has_nil
  | x :: l, [], hl, _, h => by
    have := (vd_cons.1 hl).1
    exact absurd ((h x.a).1 (has_cons.2 (.inl ⟨Int.le_refl _, this.2.1⟩))) has_nil
  | x :: l, y :: m, hl, hm, h => by
    obtain ⟨x1, x2, x3⟩ := vd_cons.1 hl
    obtain ⟨y1, y2, y3⟩ := vd_cons.1 hm
    have first : ∀ {x : Sp} {l : List Sp} {t : Int}, In x → (∀ y ∈ l, x.b < y.a) → Has (x :: l) t → x.a ≤ t := by
      intro x l t h1 h2 h3
      unfold In at h1
      rcases has_cons.1 h3 with h | ⟨s, h4, h5, _⟩
      · exact h.1
      · have := h2 s h4; omega
    have none : ∀ {x : Sp} {l : List Sp} {t : Int}, (∀ y ∈ l, x.b < y.a) → t ≤ x.b → ¬ Has l t := by
      intro x l t h2 h3 ⟨s, h4, h5, _⟩
      have := h2 s h4; omega
    unfold In at x1 y1
    have e1 : x.a = y.a := by
      have h1 := first y1 y2 ((h x.a).1 (has_cons.2 (.inl ⟨Int.le_refl _, x1.2.1⟩)))
      have h2 := first x1 x2 ((h y.a).2 (has_cons.2 (.inl ⟨Int.le_refl _, y1.2.1⟩)))
      omega
    have e2 : x.b = y.b := by
      rcases Int.lt_trichotomy x.b y.b with k | k | k
      · have h1 := (h x.b).2 (has_cons.2 (.inl ⟨by omega, k⟩))
        rcases has_cons.1 h1 with h1 | h1
        · omega
        · exact absurd h1 (none x2 (Int.le_refl _))
      · exact k
      · have h1 := (h y.b).1 (has_cons.2 (.inl ⟨by omega, k⟩))
        rcases has_cons.1 h1 with h1 | h1
        · omega
        · exact absurd h1 (none y2 (Int.le_refl _))
    have e : x = y := by cases x; cases y; simp only at e1 e2; rw [e1, e2]
    subst e
    have := uniq l m x3 y3 fun t => by
      have ht := h t
      rw [has_cons, has_cons] at ht
      by_cases k : t < x.b
      · exact ⟨fun q => absurd q (none x2 (by omega)), fun q => absurd q (none y2 (by omega))⟩
      · constructor
        · intro q; rcases ht.1 (.inr q) with r | r
          · omega
          · exact r
        · intro q; rcases ht.2 (.inr q) with r | r
          · omega
          · exact r
    rw [this]

theorem drop_cons {α : Type} [Inhabited α] {l : List α} {k : Nat} (h : k < l.length) : l.drop k = l[k]! :: l.drop (k + 1) := by
  rw [List.drop_eq_getElem_cons h, getElem!_pos l k h]
theorem get_mem {l : List Sp} {k : Nat} (h : k < l.length) : l[k]! ∈ l := by rw [getElem!_pos l k h]; exact List.getElem_mem _

/-! ### valid -/
theorem noBad_of {l : List Sp} : ∀ (n k : Nat), l.length - k = n → (∀ j, k ≤ j → j < l.length → badAt l j = false) → noBad l k = true := by
  intro n
  induction n with
  | zero => intro k h _; rw [noBad_eq, if_neg (by omega)]
  | succ n ih =>
    intro k h hb
    rw [noBad_eq, if_pos (by omega), hb k (Nat.le_refl _) (by omega)]
    exact ih (k + 1) (by omega) fun j h1 h2 => hb j (by omega) h2
theorem vd_noBad {l : List Sp} (h : noBad l 0 = true) : Vd l := by
  have hat : ∀ k, k < l.length → 0 ≤ l[k]!.a ∧ l[k]!.a < l[k]!.b ∧ l[k]!.b ≤ 20000000 ∧ (0 < k → l[k - 1]!.b < l[k]!.a) := fun k hk => valid_at h hk
  refine ⟨fun s hs => ?_, ?_⟩
  · obtain ⟨k, hk, rfl⟩ := List.getElem_of_mem hs
    have := hat k hk
    rw [getElem!_pos l k hk] at this
    exact ⟨this.1, this.2.1, this.2.2.1⟩
  · have key : ∀ j, j < l.length → ∀ i, i < j → l[i]!.b < l[j]!.a := by
      intro j
      induction j with
      | zero => intro _ i hi; omega
      | succ j ih =>
        intro hj i hi
        have h1 := hat (j + 1) hj
        have h2 := hat j (by omega)
        have h3 := h1.2.2.2 (by omega)
        rw [show j + 1 - 1 = j from rfl] at h3
        by_cases e : i = j
        · subst e; exact h3
        · have := ih (by omega) i (by omega); omega
    rw [List.pairwise_iff_getElem]
    intro i j hi hj hij
    have := key j hj i hij
    rwa [getElem!_pos l i hi, getElem!_pos l j hj] at this
theorem noBad_vd {l : List Sp} (h : Vd l) : noBad l 0 = true := by
  refine noBad_of l.length 0 (by omega) fun j _ hj => ?_
  have h1 := h.1 _ (get_mem hj)
  unfold In at h1
  have h2 : 0 < j → l[j - 1]!.b < l[j]!.a := by
    intro h0
    have := (List.pairwise_iff_getElem.1 h.2) (j - 1) j (by omega) hj (by omega)
    rwa [getElem!_pos l (j - 1) (by omega), getElem!_pos l j hj]
  unfold badAt
  simp only [Bool.or_eq_false_iff, Bool.and_eq_false_iff, decide_eq_false_iff_not]
  by_cases h0 : 0 < j
  · have := h2 h0; omega
  · omega
theorem rvalid_iff {l : List Sp} : rvalid l = true ↔ Vd l ∧ l.length ≤ 20000 := by
  simp only [rvalid, Bool.and_eq_true, decide_eq_true_eq]
  exact ⟨fun h => ⟨vd_noBad h.1, by omega⟩, fun h => ⟨noBad_vd h.1, by omega⟩⟩
theorem valid_eq (l : List Sp) : valid l = rvalid l := by
  unfold valid rvalid
  split
  · rename_i h
    have : ¬ ((l.length : Int) ≤ 20000) := by omega
    simp [this]
  · rename_i h
    have : ((l.length : Int) ≤ 20000) := by omega
    simp [this]
theorem vd_of {l : List Sp} (h : rvalid l = true) : Vd l := (rvalid_iff.1 h).1

/-! ### one more -/
def ins : List Sp → Sp → List Sp
  | [], s => [s]
  | x :: m, s => if x.b < s.a then x :: ins m s else if s.b < x.a then s :: x :: m else ins m ⟨min s.a x.a, max s.b x.b⟩
theorem withFrom_put {l : List Sp} (h : Vd l) : ∀ (n k : Nat) (out : List Sp) (s : Sp), l.length - k = n → s.a < s.b → (∀ x ∈ l.drop k, s.b < x.a) → withFrom l k out true s = (out ++ l.drop k, true, s) := by
  intro n
  induction n with
  | zero => intro k out s hk _ _; rw [withFrom_eq, if_neg (by omega), List.drop_eq_nil_of_le (by omega), List.append_nil]
  | succ n ih =>
    intro k out s hk hs hx
    have hk2 : k < l.length := by omega
    have hd := drop_cons hk2
    rw [hd] at hx
    have h1 := hx l[k]! List.mem_cons_self
    have h2 := h.1 _ (get_mem hk2)
    unfold In at h2
    rw [withFrom_eq, if_pos hk2, if_neg (by omega), if_pos h1, if_pos rfl, ih (k + 1) _ s (by omega) hs (fun x hx' => hx x (by simp [hx'])), hd]
    simp only [List.append_assoc, List.cons_append, List.nil_append]
theorem withFrom_ins {l : List Sp} (h : Vd l) : ∀ (n k : Nat) (out : List Sp) (s : Sp), l.length - k = n → s.a < s.b → endWith (withFrom l k out false s) = out ++ ins (l.drop k) s := by
  intro n
  induction n with
  | zero => intro k out s hk _; rw [withFrom_eq, if_neg (by omega), List.drop_eq_nil_of_le (by omega)]; rfl
  | succ n ih =>
    intro k out s hk hs
    have hk2 : k < l.length := by omega
    have hd := drop_cons hk2
    rw [withFrom_eq, if_pos hk2, hd]
    simp only [ins]
    split
    · rw [ih (k + 1) _ s (by omega) hs]; simp
    · split
      · rename_i h1 h2
        have hv : ∀ x ∈ l.drop (k + 1), s.b < x.a := by
          intro x hx
          have h3 : Vd (l.drop k) := ⟨fun y hy => h.1 y (List.mem_of_mem_drop hy), h.2.sublist (List.drop_sublist _ _)⟩
          rw [hd] at h3
          have h4 := (vd_cons.1 h3).2.1 x hx
          have h5 := (vd_cons.1 h3).1
          unfold In at h5
          omega
        simp only [Bool.false_eq_true, if_false]
        rw [withFrom_put h (l.length - (k + 1)) (k + 1) _ s rfl hs hv]
        simp [endWith]
      · exact ih (k + 1) out _ (by omega) (by simp only; omega)
theorem with1_ins {l : List Sp} (h : Vd l) {s : Sp} (hs : s.a < s.b) : with1 l s = ins l s := by
  unfold with1
  rw [if_neg (by omega), withFrom_ins h l.length 0 [] s (by omega) hs]
  simp
theorem ins_low {c : Int} : ∀ (l : List Sp) (s : Sp), c < s.a → (∀ x ∈ l, c < x.a) → ∀ y ∈ ins l s, c < y.a
  | [], s, h1, _, y, hy => by simp [ins] at hy; subst hy; exact h1
  | x :: l, s, h1, h2, y, hy => by
    simp only [ins] at hy
    split at hy
    · rcases List.mem_cons.1 hy with rfl | hy
      · exact h2 _ (by simp)
      · exact ins_low l s h1 (fun z hz => h2 z (by simp [hz])) y hy
    · split at hy
      · rcases List.mem_cons.1 hy with rfl | hy
        · exact h1
        · exact h2 y hy
      · exact ins_low l _ (by have := h2 x (by simp); simp only; omega) (fun z hz => h2 z (by simp [hz])) y hy
theorem ins_vd : ∀ (l : List Sp) (s : Sp), Vd l → In s → Vd (ins l s)
  | [], s, _, hs => vd_one hs
  | x :: l, s, hl, hs => by
    obtain ⟨h1, h2, h3⟩ := vd_cons.1 hl
    simp only [ins]
    split
    · rename_i h
      exact vd_cons.2 ⟨h1, fun y hy => ins_low l s h h2 y hy, ins_vd l s h3 hs⟩
    · split
      · rename_i h
        exact vd_cons.2 ⟨hs, fun y hy => by
          unfold In at h1
          rcases List.mem_cons.1 hy with rfl | hy
          · exact h
          · have := h2 y hy; omega, hl⟩
      · exact ins_vd l _ h3 (by unfold In at *; simp only; omega)
theorem ins_has {t : Int} : ∀ (l : List Sp) (s : Sp), (∀ x ∈ l, x.a < x.b) → s.a < s.b → (Has (ins l s) t ↔ Has l t ∨ (s.a ≤ t ∧ t < s.b))
  | [], s, _, _ => by simp only [ins]; rw [has_one]; exact ⟨.inr, fun h => h.elim (fun h => absurd h has_nil) id⟩
  | x :: l, s, hl, hs => by
    have hx := hl x (by simp)
    have hl' : ∀ y ∈ l, y.a < y.b := fun y hy => hl y (by simp [hy])
    simp only [ins]
    split
    · rw [has_cons, has_cons, ins_has l s hl' hs, or_assoc]
    · split
      · rw [has_cons (x := s)]; exact or_comm
      · rw [ins_has l _ hl' (by simp only; omega), has_cons]
        simp only
        constructor
        · rintro (h | h)
          · exact .inl (.inr h)
          · by_cases k : x.a ≤ t ∧ t < x.b
            · exact .inl (.inl k)
            · exact .inr (by omega)
        · rintro ((h | h) | h)
          · exact .inr (by omega)
          · exact .inl h
          · exact .inr (by omega)
theorem with1_ok {l : List Sp} (h : Vd l) {s : Sp} (hs : 0 ≤ s.a ∧ s.b ≤ 20000000) : Vd (with1 l s) ∧ ∀ t, Has (with1 l s) t ↔ Has l t ∨ (s.a ≤ t ∧ t < s.b) := by
  by_cases k : s.a < s.b
  · rw [with1_ins h k]
    exact ⟨ins_vd l s h ⟨hs.1, k, hs.2⟩, fun t => ins_has l s (fun x hx => (h.1 x hx).2.1) k⟩
  · unfold with1
    rw [if_pos (by omega)]
    exact ⟨h, fun t => ⟨.inl, fun q => q.elim id fun q => by omega⟩⟩
theorem fold_ok : ∀ (m : List Sp) (l : List Sp), Vd l → (∀ s ∈ m, 0 ≤ s.a ∧ s.b ≤ 20000000) → Vd (m.foldl with1 l) ∧ ∀ t, Has (m.foldl with1 l) t ↔ Has l t ∨ Has m t
  | [], l, hl, _ => ⟨hl, fun t => ⟨.inl, fun h => h.elim id fun h => absurd h has_nil⟩⟩
  | x :: m, l, hl, hm => by
    obtain ⟨h1, h2⟩ := with1_ok hl (hm x (by simp))
    obtain ⟨h3, h4⟩ := fold_ok m _ h1 fun s hs => hm s (by simp [hs])
    refine ⟨h3, fun t => ?_⟩
    rw [List.foldl_cons, h4, h2, has_cons, or_assoc]
theorem allFrom_fold (l : List Sp) : ∀ (n k : Nat) (out : List Sp), l.length - k = n → allFrom l k out = (l.drop k).foldl with1 out := by
  intro n
  induction n with
  | zero => intro k out h; rw [allFrom_eq, if_neg (by omega), List.drop_eq_nil_of_le (by omega)]; rfl
  | succ n ih =>
    intro k out h
    have hk : k < l.length := by omega
    rw [allFrom_eq, if_pos hk, ih (k + 1) _ (by omega), drop_cons hk]
    rfl
theorem rall_fold (l : List Sp) : rall l = l.foldl with1 [] := by rw [rall, allFrom_fold l l.length 0 [] (by omega)]; rfl
theorem rall_ok {l : List Sp} (h : ∀ s ∈ l, 0 ≤ s.a ∧ s.b ≤ 20000000) : Vd (rall l) ∧ ∀ t, Has (rall l) t ↔ Has l t := by
  rw [rall_fold]
  obtain ⟨h1, h2⟩ := fold_ok l [] .nil h
  exact ⟨h1, fun t => (h2 t).trans ⟨fun h => h.elim (fun h => absurd h has_nil) id, .inr⟩⟩
theorem reither_ok {a b : List Sp} (ha : Vd a) (hb : Vd b) : Vd (reither a b) ∧ ∀ t, Has (reither a b) t ↔ Has a t ∨ Has b t := by
  have h0 : ∀ {l : List Sp}, Vd l → ∀ s ∈ l, 0 ≤ s.a ∧ s.b ≤ 20000000 := fun h s hs => ⟨(h.1 s hs).1, (h.1 s hs).2.2⟩
  obtain ⟨h1, h2⟩ := rall_ok (h0 ha)
  rw [reither, allFrom_fold b b.length 0 _ (by omega)]
  obtain ⟨h3, h4⟩ := fold_ok b _ h1 (h0 hb)
  exact ⟨h3, fun t => (h4 t).trans (or_congr (h2 t) Iff.rfl)⟩
theorem growFrom_fold (l : List Sp) (before after : Int) : ∀ (n k : Nat) (out : List Sp), l.length - k = n → growFrom l before after k out = ((l.drop k).map fun x : Sp => (⟨max 0 (x.a - before), min 20000000 (x.b + after)⟩ : Sp)).foldl with1 out := by
  intro n
  induction n with
  | zero => intro k out h; rw [growFrom_eq, if_neg (by omega), List.drop_eq_nil_of_le (by omega)]; rfl
  | succ n ih =>
    intro k out h
    have hk : k < l.length := by omega
    rw [growFrom_eq, if_pos hk, ih (k + 1) _ (by omega), drop_cons hk]
    rfl
def gr (before after : Int) (x : Sp) : Sp := ⟨max 0 (x.a - before), min 20000000 (x.b + after)⟩
theorem growFrom_ok {l : List Sp} {before after : Int} : Vd (growFrom l before after 0 []) ∧ ∀ t, Has (growFrom l before after 0 []) t ↔ Has (l.map (gr before after)) t := by
  rw [growFrom_fold l before after l.length 0 [] (by omega)]
  obtain ⟨h1, h2⟩ := fold_ok (l.map (gr before after)) [] .nil (fun s hs => by
    obtain ⟨x, _, rfl⟩ := List.mem_map.1 hs
    simp only [gr]; omega)
  exact ⟨h1, fun t => (h2 t).trans ⟨fun h => h.elim (fun h => absurd h has_nil) id, .inr⟩⟩

/-! ### both -/
def cr (x y : Sp) : Option Sp := if max x.a y.a < min x.b y.b then some ⟨max x.a y.a, min x.b y.b⟩ else none
theorem both2_map (a b : List Sp) (i : Nat) : ∀ (n k : Nat) (out : List Sp), b.length - k = n → both2 a b i k out = out ++ (b.drop k).filterMap (cr a[i]!) := by
  intro n
  induction n with
  | zero => intro k out h; rw [both2_eq, if_neg (by omega), List.drop_eq_nil_of_le (by omega)]; simp
  | succ n ih =>
    intro k out h
    have hk : k < b.length := by omega
    rw [both2_eq, if_pos hk, ih (k + 1) _ (by omega), drop_cons hk, List.filterMap_cons]
    unfold cr
    split <;> simp
theorem both1_map (a b : List Sp) : ∀ (n i : Nat) (out : List Sp), a.length - i = n → both1 a b i out = out ++ (a.drop i).flatMap fun x => b.filterMap (cr x) := by
  intro n
  induction n with
  | zero => intro k out h; rw [both1_eq, if_neg (by omega), List.drop_eq_nil_of_le (by omega)]; simp
  | succ n ih =>
    intro i out h
    have hi : i < a.length := by omega
    rw [both1_eq, if_pos hi, ih (i + 1) _ (by omega), drop_cons hi, both2_map a b i b.length 0 out (by omega)]
    simp
theorem rboth_map (a b : List Sp) : rboth a b = a.flatMap fun x => b.filterMap (cr x) := by
  rw [rboth, both1_map a b a.length 0 [] (by omega)]; simp
theorem rboth_mem {a b : List Sp} {s : Sp} : s ∈ rboth a b ↔ ∃ x ∈ a, ∃ y ∈ b, cr x y = some s := by
  rw [rboth_map]
  simp only [List.mem_flatMap, List.mem_filterMap]
theorem cr_some {x y s : Sp} (h : cr x y = some s) : s.a = max x.a y.a ∧ s.b = min x.b y.b ∧ s.a < s.b := by
  unfold cr at h
  split at h
  · cases h; exact ⟨rfl, rfl, by assumption⟩
  · cases h
theorem rboth_ok {a b : List Sp} (ha : Vd a) (hb : Vd b) : Vd (rboth a b) ∧ ∀ t, Has (rboth a b) t ↔ Has a t ∧ Has b t := by
  refine ⟨⟨fun s hs => ?_, ?_⟩, fun t => ?_⟩
  · obtain ⟨x, hx, y, hy, h⟩ := rboth_mem.1 hs
    obtain ⟨h1, h2, h3⟩ := cr_some h
    have := ha.1 x hx
    have := hb.1 y hy
    unfold In at *
    omega
  · rw [rboth_map, List.pairwise_flatMap]
    refine ⟨fun x hx => ?_, ?_⟩
    · rw [List.pairwise_filterMap]
      refine hb.2.imp fun {y1 y2} hy s1 h1 s2 h2 => ?_
      have k1 := cr_some h1
      have k2 := cr_some h2
      omega
    · refine ha.2.imp fun {x1 x2} hx s1 h1 s2 h2 => ?_
      obtain ⟨y1, _, h1⟩ := List.mem_filterMap.1 h1
      obtain ⟨y2, _, h2⟩ := List.mem_filterMap.1 h2
      have k1 := cr_some h1
      have k2 := cr_some h2
      omega
  · constructor
    · rintro ⟨s, hs, h1, h2⟩
      obtain ⟨x, hx, y, hy, h⟩ := rboth_mem.1 hs
      have k := cr_some h
      exact ⟨⟨x, hx, by omega, by omega⟩, ⟨y, hy, by omega, by omega⟩⟩
    · rintro ⟨⟨x, hx, h1, h2⟩, ⟨y, hy, h3, h4⟩⟩
      have : cr x y = some ⟨max x.a y.a, min x.b y.b⟩ := by unfold cr; rw [if_pos (by omega)]
      exact ⟨_, rboth_mem.2 ⟨x, hx, y, hy, this⟩, by simp only; omega, by simp only; omega⟩
theorem rboth_len (a b : List Sp) : (rboth a b).length ≤ a.length * b.length := by
  rw [rboth_map]
  induction a with
  | nil => simp
  | cons x a ih =>
    simp only [List.flatMap_cons, List.length_append, List.length_cons, Nat.add_mul, Nat.one_mul]
    have := List.length_filterMap_le (cr x) b
    omega

/-! ### not -/
def nt : List Sp → Int → List Sp
  | [], c => if c < 20000000 then [⟨c, 20000000⟩] else []
  | x :: l, c => if c < x.a then ⟨c, x.a⟩ :: nt l x.b else nt l x.b
theorem notFrom_nt (l : List Sp) : ∀ (n k : Nat) (c : Int) (out : List Sp), l.length - k = n → (if (notFrom l k c out).2 < 20000000 then (notFrom l k c out).1 ++ [⟨(notFrom l k c out).2, 20000000⟩] else (notFrom l k c out).1) = out ++ nt (l.drop k) c := by
  intro n
  induction n with
  | zero =>
    intro k c out h
    have hk : ¬ k < l.length := by omega
    rw [notFrom_eq, if_neg hk, List.drop_eq_nil_of_le (by omega)]
    simp only [nt]
    split <;> simp
  | succ n ih =>
    intro k c out h
    have hk : k < l.length := by omega
    rw [notFrom_eq, if_pos hk, ih (k + 1) _ _ (by omega), drop_cons hk]
    simp only [nt]
    split <;> simp
theorem rnot_nt (l : List Sp) : rnot l = nt l 0 := by
  have := notFrom_nt l l.length 0 0 [] (by omega)
  simpa [rnot] using this
theorem nt_ok : ∀ (l : List Sp) (c : Int), Vd l → 0 ≤ c → c ≤ 20000000 → (∀ x ∈ l, c ≤ x.a) → Vd (nt l c) ∧ (∀ y ∈ nt l c, c ≤ y.a) ∧ ∀ t, Has (nt l c) t ↔ c ≤ t ∧ t < 20000000 ∧ ¬ Has l t
  | [], c, _, h0, h1, _ => by
    simp only [nt]
    split
    · refine ⟨vd_one ⟨h0, by assumption, Int.le_refl _⟩, fun y hy => ?_, fun t => ?_⟩
      · rw [List.mem_singleton] at hy; subst hy; exact Int.le_refl _
      · rw [has_one]; exact ⟨fun h => ⟨h.1, h.2, has_nil⟩, fun h => ⟨h.1, h.2.1⟩⟩
    · exact ⟨.nil, fun _ h => (by cases h), fun t => ⟨fun h => absurd h has_nil, fun h => by omega⟩⟩
  | x :: l, c, hl, h0, h1, h2 => by
    obtain ⟨k1, k2, k3⟩ := vd_cons.1 hl
    have hx := h2 x (by simp)
    unfold In at k1
    obtain ⟨q1, q2, q3⟩ := nt_ok l x.b k3 (by omega) (by omega) fun y hy => by have := k2 y hy; omega
    have hno : ∀ t, t < x.b → ¬ Has l t := fun t ht ⟨s, hs, h3, _⟩ => by have := k2 s hs; omega
    simp only [nt]
    split
    · rename_i hc
      refine ⟨vd_cons.2 ⟨⟨h0, hc, by simp only; omega⟩, fun y hy => by have := q2 y hy; simp only; omega, q1⟩, fun y hy => ?_, fun t => ?_⟩
      · rcases List.mem_cons.1 hy with rfl | hy
        · exact Int.le_refl _
        · have := q2 y hy; omega
      · rw [has_cons, has_cons, q3]
        simp only
        constructor
        · rintro (h | ⟨h3, h4, h5⟩)
          · exact ⟨h.1, by omega, fun h' => h'.elim (fun h' => by omega) (hno t (by omega))⟩
          · exact ⟨by omega, h4, fun h' => h'.elim (fun h' => by omega) h5⟩
        · rintro ⟨h3, h4, h5⟩
          by_cases k : t < x.a
          · exact .inl ⟨h3, k⟩
          · have : ¬ (x.a ≤ t ∧ t < x.b) := fun h => h5 (.inl h)
            exact .inr ⟨by omega, h4, fun h => h5 (.inr h)⟩
    · rename_i hc
      refine ⟨q1, fun y hy => by have := q2 y hy; omega, fun t => ?_⟩
      rw [has_cons, q3]
      constructor
      · rintro ⟨h3, h4, h5⟩
        exact ⟨by omega, h4, fun h' => h'.elim (fun h' => by omega) h5⟩
      · rintro ⟨h3, h4, h5⟩
        have : ¬ (x.a ≤ t ∧ t < x.b) := fun h => h5 (.inl h)
        exact ⟨by omega, h4, fun h => h5 (.inr h)⟩
theorem rnot_ok {l : List Sp} (h : Vd l) : Vd (rnot l) ∧ ∀ t, Has (rnot l) t ↔ 0 ≤ t ∧ t < 20000000 ∧ ¬ Has l t := by
  rw [rnot_nt]
  obtain ⟨h1, _, h2⟩ := nt_ok l 0 h (Int.le_refl _) (by omega) fun x hx => (h.1 x hx).1
  exact ⟨h1, h2⟩
def rmin (a b : List Sp) : List Sp := rboth a (rnot b)
theorem rmin_ok {a b : List Sp} (ha : Vd a) (hb : Vd b) : Vd (rmin a b) ∧ ∀ t, Has (rmin a b) t ↔ Has a t ∧ ¬ Has b t := by
  obtain ⟨h1, h2⟩ := rnot_ok hb
  obtain ⟨h3, h4⟩ := rboth_ok ha h1
  refine ⟨h3, fun t => (h4 t).trans ⟨fun ⟨h5, h6⟩ => ⟨h5, ((h2 t).1 h6).2.2⟩, fun ⟨h5, h6⟩ => ⟨h5, (h2 t).2 ?_⟩⟩⟩
  have := vd_range ha h5
  exact ⟨this.1, this.2, h6⟩

/-! ### united -/
def st (out : List Sp) (x : Sp) : List Sp := if 0 < out.length ∧ x.a ≤ out[out.length - 1]!.b then out.set (out.length - 1) ⟨out[out.length - 1]!.a, max out[out.length - 1]!.b x.b⟩ else out ++ [x]
theorem unitedFrom_fold (l : List Sp) : ∀ (n k : Nat) (out : List Sp), l.length - k = n → unitedFrom l k out = (l.drop k).foldl st out := by
  intro n
  induction n with
  | zero => intro k out h; rw [unitedFrom_eq, if_neg (by omega), List.drop_eq_nil_of_le (by omega)]; rfl
  | succ n ih =>
    intro k out h
    have hk : k < l.length := by omega
    rw [unitedFrom_eq, if_pos hk, ih (k + 1) _ (by omega), drop_cons hk]
    rfl
theorem united_fold (l : List Sp) : united l = l.foldl st [] := by rw [united, unitedFrom_fold l l.length 0 [] (by omega)]; rfl
theorem st_ok {out : List Sp} {x : Sp} (h : Vd out) (hx : In x) (hle : ∀ o ∈ out, o.a ≤ x.a) : Vd (st out x) ∧ (∀ o ∈ st out x, o.a ≤ x.a) ∧ ∀ t, Has (st out x) t ↔ Has out t ∨ (x.a ≤ t ∧ t < x.b) := by
  rcases List.eq_nil_or_concat out with rfl | ⟨pre, z, rfl⟩
  · have e : st [] x = [x] := by simp [st]
    rw [e]
    refine ⟨vd_one hx, fun o ho => ?_, fun t => ?_⟩
    · rw [List.mem_singleton] at ho; subst ho; exact Int.le_refl _
    · rw [has_one]; exact ⟨.inr, fun h => h.elim (fun h => absurd h has_nil) id⟩
  · rw [List.concat_eq_append] at *
    obtain ⟨h1, h2, h3⟩ := vd_append.1 h
    have hz := (vd_cons.1 h2).1
    have hlen : (pre ++ [z]).length - 1 = pre.length := by simp
    have hg : (pre ++ [z])[pre.length]! = z := by simp
    have hzx := hle z (by simp)
    unfold st
    rw [hlen, hg]
    unfold In at hx hz
    split
    · rename_i hc
      have e : (pre ++ [z]).set pre.length ⟨z.a, max z.b x.b⟩ = pre ++ [⟨z.a, max z.b x.b⟩] := by simp
      rw [e]
      refine ⟨vd_append.2 ⟨h1, vd_one ⟨hz.1, by simp only; omega, by simp only; omega⟩, fun y hy w hw => ?_⟩, fun o ho => ?_, fun t => ?_⟩
      · rw [List.mem_singleton] at hw; subst hw; exact h3 y hy z (by simp)
      · rcases List.mem_append.1 ho with ho | ho
        · exact hle o (by simp [ho])
        · rw [List.mem_singleton] at ho; subst ho; exact hzx
      · rw [has_append, has_append, has_one, has_one, or_assoc]
        refine or_congr Iff.rfl ?_
        simp only
        omega
    · rename_i hc
      have hc' : z.b < x.a := by simp at hc; omega
      refine ⟨vd_append.2 ⟨h, vd_one hx, fun y hy w hw => ?_⟩, fun o ho => ?_, fun t => ?_⟩
      · rw [List.mem_singleton] at hw; subst hw
        rcases List.mem_append.1 hy with hy | hy
        · have := h3 y hy z (by simp); omega
        · rw [List.mem_singleton] at hy; subst hy; exact hc'
      · rcases List.mem_append.1 ho with ho | ho
        · exact hle o ho
        · rw [List.mem_singleton] at ho; subst ho; exact Int.le_refl _
      · rw [has_append, has_one]
theorem foldst_ok : ∀ (l out : List Sp), Vd out → (∀ x ∈ l, In x) → l.Pairwise (fun x y => x.a ≤ y.a) → (∀ o ∈ out, ∀ x ∈ l, o.a ≤ x.a) → Vd (l.foldl st out) ∧ ∀ t, Has (l.foldl st out) t ↔ Has out t ∨ Has l t
  | [], out, h, _, _, _ => ⟨h, fun t => ⟨.inl, fun h => h.elim id fun h => absurd h has_nil⟩⟩
  | x :: l, out, h, h1, h2, h3 => by
    obtain ⟨p1, p2⟩ := List.pairwise_cons.1 h2
    obtain ⟨q1, q2, q3⟩ := st_ok h (h1 x (by simp)) fun o ho => h3 o ho x (by simp)
    obtain ⟨r1, r2⟩ := foldst_ok l (st out x) q1 (fun y hy => h1 y (by simp [hy])) p2 fun o ho y hy => Int.le_trans (q2 o ho) (p1 y hy)
    refine ⟨r1, fun t => ?_⟩
    rw [List.foldl_cons, r2, q3, has_cons, or_assoc]
theorem united_ok {l : List Sp} (h1 : ∀ x ∈ l, In x) (h2 : l.Pairwise fun x y => x.a ≤ y.a) : Vd (united l) ∧ ∀ t, Has (united l) t ↔ Has l t := by
  rw [united_fold]
  obtain ⟨p1, p2⟩ := foldst_ok l [] .nil h1 h2 fun o ho => by cases ho
  exact ⟨p1, fun t => (p2 t).trans ⟨fun h => h.elim (fun h => absurd h has_nil) id, .inr⟩⟩
theorem sift_filter (l : List Sp) : ∀ (n k : Nat) (out : List Sp), l.length - k = n → siftFrom l k out = out ++ (l.drop k).filter fun s => decide (s.a < s.b) := by
  intro n
  induction n with
  | zero => intro k out h; rw [siftFrom_eq, if_neg (by omega), List.drop_eq_nil_of_le (by omega)]; simp
  | succ n ih =>
    intro k out h
    have hk : k < l.length := by omega
    rw [siftFrom_eq, if_pos hk, ih (k + 1) _ (by omega), drop_cons hk, List.filter_cons]
    by_cases c : l[k]!.a < l[k]!.b
    · simp only [c, if_true, decide_true, List.append_assoc, List.cons_append, List.nil_append]
    · simp only [c, if_false, decide_false, Bool.false_eq_true]
theorem sift_eq (l : List Sp) : sift l = l.filter fun s => decide (s.a < s.b) := by
  rw [sift, sift_filter l l.length 0 [] (by omega)]; simp
theorem nNoBad_mem {l : List Sp} (h : nNoBad l 0 = true) : ∀ s ∈ l, 0 ≤ s.a ∧ s.a ≤ s.b ∧ s.b ≤ 20000000 := by
  have key : ∀ (n k : Nat), l.length - k = n → nNoBad l k = true → ∀ s ∈ l.drop k, 0 ≤ s.a ∧ s.a ≤ s.b ∧ s.b ≤ 20000000 := by
    intro n
    induction n with
    | zero => intro k hk _ s hs; rw [List.drop_eq_nil_of_le (by omega)] at hs; cases hs
    | succ n ih =>
      intro k hk hv s hs
      have hk2 : k < l.length := by omega
      rw [nNoBad_eq, if_pos hk2] at hv
      split at hv
      · cases hv
      · rename_i hb
        rw [drop_cons hk2] at hs
        rcases List.mem_cons.1 hs with rfl | hs
        · unfold nbad at hb
          simp only [Bool.or_eq_true, decide_eq_true_eq] at hb
          omega
        · exact ih (k + 1) (by omega) hv s hs
  exact key l.length 0 (by omega) h
theorem nNoBad_of {l : List Sp} (h : ∀ s ∈ l, 0 ≤ s.a ∧ s.a ≤ s.b ∧ s.b ≤ 20000000) : nNoBad l 0 = true := by
  have key : ∀ (n k : Nat), l.length - k = n → nNoBad l k = true := by
    intro n
    induction n with
    | zero => intro k hk; rw [nNoBad_eq, if_neg (by omega)]
    | succ n ih =>
      intro k hk
      have hk2 : k < l.length := by omega
      have := h _ (get_mem hk2)
      rw [nNoBad_eq, if_pos hk2, if_neg, ih (k + 1) (by omega)]
      unfold nbad
      simp only [Bool.or_eq_true, decide_eq_true_eq]
      omega
  exact key l.length 0 (by omega)
theorem normal_law {l rows : List Sp} (h : nNoBad l 0 = true) (hp : rows.Perm (sift l)) (hs : rows.Pairwise fun x y => x.a ≤ y.a) : united rows = rall l := by
  have hm := nNoBad_mem h
  have hin : ∀ x ∈ rows, In x := by
    intro x hx
    have := hp.mem_iff.1 hx
    rw [sift_eq, List.mem_filter] at this
    have h1 := hm x this.1
    simp only [decide_eq_true_eq] at this
    exact ⟨h1.1, this.2, h1.2.2⟩
  obtain ⟨h1, h2⟩ := united_ok hin hs
  obtain ⟨h3, h4⟩ := rall_ok fun s hs => ⟨(hm s hs).1, (hm s hs).2.2⟩
  refine uniq _ _ h1 h3 fun t => ?_
  rw [h2, h4, has_perm hp, sift_eq]
  constructor
  · rintro ⟨s, hs, k⟩
    exact ⟨s, (List.mem_filter.1 hs).1, k⟩
  · rintro ⟨s, hs, k⟩
    exact ⟨s, List.mem_filter.2 ⟨hs, by simp; omega⟩, k⟩
theorem growS_map (l : List Sp) (before after : Int) : ∀ (n k : Nat) (out : List Sp), l.length - k = n → growSFrom l before after k out = out ++ (l.drop k).map (gr before after) := by
  intro n
  induction n with
  | zero => intro k out h; rw [growSFrom_eq, if_neg (by omega), List.drop_eq_nil_of_le (by omega)]; simp
  | succ n ih =>
    intro k out h
    have hk : k < l.length := by omega
    rw [growSFrom_eq, if_pos hk, ih (k + 1) _ (by omega), drop_cons hk]
    simp [gr]
theorem gr_in {l : List Sp} (h : Vd l) {before after : Int} (hb : 0 ≤ before) (ha : 0 ≤ after) : ∀ x ∈ l.map (gr before after), In x := by
  intro x hx
  obtain ⟨s, hs, rfl⟩ := List.mem_map.1 hx
  have := h.1 s hs
  unfold In gr at *
  simp only
  omega
theorem grow_law (l : List Sp) (before after : Int) : grow l before after = rgrow l before after := by
  unfold grow rgrow
  rw [valid_eq]
  split
  · rfl
  · rename_i hc
    simp only [Bool.or_eq_true, Bool.not_eq_true', not_or, Bool.not_eq_false] at hc
    have hv := vd_of hc.1
    have hb : 0 ≤ before ∧ 0 ≤ after := by
      have := hc.2
      simp only [badGrow, Bool.or_eq_true, decide_eq_true_eq] at this
      omega
    rw [growS_map l before after l.length 0 [] (by omega)]
    simp only [List.nil_append, List.drop_zero]
    congr 1
    obtain ⟨h1, h2⟩ := united_ok (gr_in hv hb.1 hb.2) (by
      rw [List.pairwise_map]
      refine hv.2.imp_of_mem fun {x y} hx hy hxy => ?_
      have h1 := hv.1 x hx
      unfold In at h1
      simp only [gr]
      omega)
    obtain ⟨h3, h4⟩ := growFrom_ok (l := l) (before := before) (after := after)
    exact uniq _ _ h1 h3 fun t => (h2 t).trans (h4 t).symm

/-! ### has, same -/
theorem hasFrom_any (l : List Sp) (t : Int) : ∀ (n k : Nat), l.length - k = n → (hasFrom l t k = true ↔ Has (l.drop k) t) := by
  intro n
  induction n with
  | zero => intro k h; rw [hasFrom_eq, if_neg (by omega), List.drop_eq_nil_of_le (by omega)]; exact ⟨fun h => (by cases h), fun h => absurd h has_nil⟩
  | succ n ih =>
    intro k h
    have hk : k < l.length := by omega
    rw [hasFrom_eq, if_pos hk, drop_cons hk, has_cons]
    split
    · rename_i hc
      simp only [has1, Bool.and_eq_true, decide_eq_true_eq] at hc
      exact ⟨fun _ => .inl hc, fun _ => rfl⟩
    · rename_i hc
      simp only [has1, Bool.and_eq_true, decide_eq_true_eq] at hc
      rw [ih (k + 1) (by omega)]
      exact ⟨.inr, fun h => h.elim (fun h => absurd h hc) id⟩
theorem rhas_iff {l : List Sp} {t : Int} : rhas l t = true ↔ Has l t := by
  have := hasFrom_any l t l.length 0 (by omega)
  simpa [rhas] using this
theorem sameFrom_iff (a b : List Sp) (hl : a.length = b.length) : ∀ (n k : Nat), a.length - k = n → (sameFrom a b k = true ↔ a.drop k = b.drop k) := by
  intro n
  induction n with
  | zero => intro k h; rw [sameFrom_eq, if_neg (by omega), List.drop_eq_nil_of_le (by omega), List.drop_eq_nil_of_le (by omega)]; simp
  | succ n ih =>
    intro k h
    have hk : k < a.length := by omega
    rw [sameFrom_eq, if_pos hk, drop_cons hk, drop_cons (l := b) (by omega), List.cons.injEq]
    have e : neAt a b k = true ↔ ¬ a[k]! = b[k]! := by
      unfold neAt
      simp only [Bool.not_eq_true', Bool.and_eq_false_iff, beq_eq_false_iff_ne]
      constructor
      · rintro (h | h) e <;> exact h (by rw [e])
      · intro h
        by_cases h1 : a[k]!.a = b[k]!.a
        · refine .inr fun h2 => h ?_
          cases ha : a[k]!; cases hb : b[k]!
          rw [ha, hb] at h1 h2
          simp only at h1 h2
          rw [h1, h2]
        · exact .inl h1
    split
    · rename_i hc
      exact ⟨fun h => (by cases h), fun h => absurd h.1 (e.1 hc)⟩
    · rename_i hc
      rw [ih (k + 1) (by omega)]
      have : a[k]! = b[k]! := Classical.byContradiction fun h => hc (e.2 h)
      exact ⟨fun h => ⟨this, h⟩, fun h => h.2⟩
theorem rsame_iff {a b : List Sp} : rsame a b = true ↔ a = b := by
  unfold rsame
  split
  · rename_i h
    have : a.length ≠ b.length := by
      have : ¬ (a.length : Int) = b.length := by simpa using h
      omega
    exact ⟨fun h => (by cases h), fun h => absurd (by rw [h]) this⟩
  · rename_i h
    have : a.length = b.length := by
      have : (a.length : Int) = b.length := by simpa using h
      omega
    have k := sameFrom_iff a b this a.length 0 (by omega)
    simpa using k
theorem rsame_self (a : List Sp) : rsame a a = true := rsame_iff.2 rfl

/-! ### the sweep -/
theorem flat_struct (l : List Sp) : ∀ (n k : Nat) (out : List Int), l.length - k = n → flatFrom l k out = out ++ (l.drop k).flatMap fun s => [s.a, s.b] := by
  intro n
  induction n with
  | zero => intro k out h; rw [flatFrom_eq, if_neg (by omega), List.drop_eq_nil_of_le (by omega)]; simp
  | succ n ih =>
    intro k out h
    have hk : k < l.length := by omega
    rw [flatFrom_eq, if_pos hk, ih (k + 1) _ (by omega), drop_cons hk, List.flatMap_cons, List.append_assoc]
theorem flatL_eq (l : List Sp) : flatL l = l.flatMap fun s => [s.a, s.b] := by
  rw [flatL, flat_struct l l.length 0 [] (by omega)]; simp
theorem flatL_cons (x : Sp) (l : List Sp) : flatL (x :: l) = x.a :: x.b :: flatL l := by
  rw [flatL_eq, flatL_eq, List.flatMap_cons]; rfl
theorem flatL_mem {l : List Sp} (h : Vd l) : ∀ e ∈ flatL l, 0 ≤ e ∧ e ≤ 20000000 := by
  intro e he
  rw [flatL_eq, List.mem_flatMap] at he
  obtain ⟨s, hs, he⟩ := he
  have := h.1 s hs
  unfold In at this
  simp only [List.mem_cons, List.not_mem_nil, or_false] at he
  rcases he with rfl | rfl <;> omega
theorem flatL_sorted : ∀ {l : List Sp}, Vd l → (flatL l).Pairwise (· < ·)
  | [], _ => by simp [flatL_eq]
  | x :: l, h => by
    obtain ⟨h1, h2, h3⟩ := vd_cons.1 h
    unfold In at h1
    have hall : ∀ e ∈ flatL l, x.b < e := by
      intro e he
      rw [flatL_eq, List.mem_flatMap] at he
      obtain ⟨s, hs, he⟩ := he
      have k1 := h2 s hs
      have k2 := h3.1 s hs
      unfold In at k2
      simp only [List.mem_cons, List.not_mem_nil, or_false] at he
      rcases he with rfl | rfl <;> omega
    rw [flatL_cons, List.pairwise_cons, List.pairwise_cons]
    refine ⟨fun e he => ?_, hall, flatL_sorted h3⟩
    rcases List.mem_cons.1 he with rfl | he
    · exact h1.2.1
    · have := hall e he; omega
/-- the times of a list, told by how many ends are behind -/
theorem flat_has : ∀ {l : List Sp} {t : Int} {i : Nat}, Vd l → i ≤ (flatL l).length → (∀ e ∈ (flatL l).take i, e ≤ t) → (∀ e ∈ (flatL l).drop i, t < e) → (Has l t ↔ i % 2 = 1)
  | [], t, i, _, hi, _, _ => by
    rw [flatL_eq] at hi
    have : i = 0 := by simpa using hi
    subst this
    exact ⟨fun h => absurd h has_nil, fun h => by omega⟩
  | x :: l, t, i, h, hi, h1, h2 => by
    obtain ⟨k1, k2, k3⟩ := vd_cons.1 h
    unfold In at k1
    rw [flatL_cons] at hi h1 h2
    have hno : t < x.b → ¬ Has l t := fun ht ⟨s, hs, h3, _⟩ => by have := k2 s hs; omega
    rw [has_cons]
    match i, hi, h1, h2 with
    | 0, _, _, h2 =>
      have := h2 x.a (by simp)
      exact ⟨fun h => h.elim (fun h => by omega) fun h => absurd h (hno (by omega)), fun h => by omega⟩
    | 1, _, h1, h2 =>
      have q1 := h1 x.a (by simp)
      have q2 := h2 x.b (by simp)
      exact ⟨fun _ => rfl, fun _ => .inl ⟨q1, q2⟩⟩
    | i + 2, hi, h1, h2 =>
      have q2 := h1 x.b (by simp)
      have := flat_has (l := l) (t := t) (i := i) k3 (by simpa using hi) (fun e he => h1 e (by simp [he])) (fun e he => h2 e (by simpa using he))
      rw [show (i + 2) % 2 = i % 2 from by omega, ← this]
      exact ⟨fun h => h.elim (fun h => by omega) id, .inr⟩

structure Sw where
  i : Nat
  j : Nat
  fr : Int
  out : List Sp
def evT (x y : List Int) (i j : Nat) : Int := if j < y.length then min (if i < x.length then min 20000000 x[i]! else 20000000) y[j]! else (if i < x.length then min 20000000 x[i]! else 20000000)
def nxt (x : List Int) (i : Nat) (t : Int) : Nat := if decide (i < x.length) && (x[i]! == t) then i + 1 else i
def odd (i : Nat) : Bool := i % 2 == 1
/-- what is known before each end that is still to come -/
structure Inv (c : Nat) (a b : List Sp) (s : Sw) : Prop where
  i : s.i ≤ (flatL a).length
  j : s.j ≤ (flatL b).length
  len : s.out.length ≤ s.i + s.j
  now : ∃ p : Int, -1 ≤ p ∧ (∀ e ∈ (flatL a).take s.i, e ≤ p) ∧ (∀ e ∈ (flatL b).take s.j, e ≤ p) ∧ (∀ e ∈ (flatL a).drop s.i, p < e) ∧ (∀ e ∈ (flatL b).drop s.j, p < e) ∧
    Vd s.out ∧ (∀ o ∈ s.out, o.b ≤ p) ∧ (s.fr = -1 ∨ (0 ≤ s.fr ∧ s.fr ≤ p ∧ ∀ o ∈ s.out, o.b < s.fr)) ∧ (0 ≤ s.fr ↔ cnt c (odd s.i) (odd s.j) = true) ∧
    ∀ t, (∀ e ∈ (flatL a).drop s.i, t < e) → (∀ e ∈ (flatL b).drop s.j, t < e) → ((Has s.out t ∨ (0 ≤ s.fr ∧ s.fr ≤ t)) ↔ cnt c (decide (Has a t)) (decide (Has b t)) = true)
def stepSw (c : Nat) (x y : List Int) (s : Sw) : Sw :=
  let t := evT x y s.i s.j
  let i := nxt x s.i t
  let j := nxt y s.j t
  let now := cnt c (odd i) (odd j)
  let fr1 := if now && decide (s.fr < 0) then t else s.fr
  if !now && decide (0 ≤ fr1) then ⟨i, j, -1, s.out ++ [⟨fr1, t⟩]⟩ else ⟨i, j, fr1, s.out⟩
theorem nx_ok {x : List Int} {i : Nat} {p t : Int} (hs : x.Pairwise (· < ·)) (hi : i ≤ x.length) (h1 : ∀ e ∈ x.take i, e ≤ p) (hp : p < t) (h2 : ∀ e ∈ x.drop i, t ≤ e) :
    nxt x i t ≤ x.length ∧ i ≤ nxt x i t ∧ (∀ e ∈ x.take (nxt x i t), e ≤ t) ∧ (∀ e ∈ x.drop (nxt x i t), t < e) ∧ (i < x.length → x[i]! = t → nxt x i t = i + 1) := by
  by_cases hlt : i < x.length
  · have hd := drop_cons hlt
    have hsd : (x.drop i).Pairwise (· < ·) := hs.sublist (List.drop_sublist _ _)
    rw [hd] at hsd h2
    have hgt := (List.pairwise_cons.1 hsd).1
    have h0 := h2 x[i]! List.mem_cons_self
    by_cases e : x[i]! = t
    · have en : nxt x i t = i + 1 := by simp only [nxt, hlt, e, decide_true, BEq.rfl, Bool.and_self, if_true]
      rw [en]
      refine ⟨by omega, by omega, fun z hz => ?_, fun z hz => ?_, fun _ _ => rfl⟩
      · rw [List.take_succ_eq_append_getElem hlt] at hz
        rcases List.mem_append.1 hz with hz | hz
        · have := h1 z hz; omega
        · rw [List.mem_singleton] at hz
          rw [getElem!_pos x i hlt] at e
          omega
      · have := hgt z hz; omega
    · have en : nxt x i t = i := by
        unfold nxt
        rw [beq_eq_false_iff_ne.2 e, Bool.and_false]
        rfl
      rw [en]
      refine ⟨hi, Nat.le_refl _, fun z hz => by have := h1 z hz; omega, fun z hz => ?_, fun _ h => absurd h e⟩
      rw [hd] at hz
      rcases List.mem_cons.1 hz with rfl | hz
      · omega
      · have := hgt z hz; omega
  · have en : nxt x i t = i := by unfold nxt; rw [if_neg]; simp [hlt]
    rw [en]
    refine ⟨hi, Nat.le_refl _, fun z hz => by have := h1 z hz; omega, fun z hz => ?_, fun h => absurd h hlt⟩
    rw [List.drop_eq_nil_of_le (by omega)] at hz
    cases hz
theorem evT_ok {x y : List Int} {i j : Nat} (hx : x.Pairwise (· < ·)) (hy : y.Pairwise (· < ·)) (hxm : ∀ e ∈ x, e ≤ 20000000) (hym : ∀ e ∈ y, e ≤ 20000000) (h : i < x.length ∨ j < y.length) :
    (∀ e ∈ x.drop i, evT x y i j ≤ e) ∧ (∀ e ∈ y.drop j, evT x y i j ≤ e) ∧ ((i < x.length ∧ x[i]! = evT x y i j) ∨ (j < y.length ∧ y[j]! = evT x y i j)) := by
  have low : ∀ {x : List Int} {i : Nat}, x.Pairwise (· < ·) → i < x.length → ∀ e ∈ x.drop i, x[i]! ≤ e := by
    intro x i hx hi e he
    have hd := drop_cons hi
    have hsd : (x.drop i).Pairwise (· < ·) := hx.sublist (List.drop_sublist _ _)
    rw [hd] at hsd he
    rcases List.mem_cons.1 he with rfl | he
    · exact Int.le_refl _
    · have := (List.pairwise_cons.1 hsd).1 e he; omega
  have gm : ∀ {x : List Int} {i : Nat}, i < x.length → x[i]! ∈ x := fun {x i} hi => by rw [getElem!_pos x i hi]; exact List.getElem_mem _
  have none : ∀ {x : List Int} {i : Nat}, ¬ i < x.length → ∀ e, e ∉ x.drop i := fun {x i} hi e he => by rw [List.drop_eq_nil_of_le (by omega)] at he; cases he
  unfold evT
  by_cases h1 : i < x.length <;> by_cases h2 : j < y.length
  · have a1 := low hx h1
    have a2 := low hy h2
    have b1 := hxm _ (gm h1)
    have b2 := hym _ (gm h2)
    rw [if_pos h2, if_pos h1]
    refine ⟨fun e he => by have := a1 e he; omega, fun e he => by have := a2 e he; omega, ?_⟩
    by_cases k : x[i]! ≤ y[j]!
    · exact .inl ⟨h1, by omega⟩
    · exact .inr ⟨h2, by omega⟩
  · have a1 := low hx h1
    have b1 := hxm _ (gm h1)
    rw [if_neg h2, if_pos h1]
    exact ⟨fun e he => by have := a1 e he; omega, fun e he => absurd he (none h2 e), .inl ⟨h1, by omega⟩⟩
  · have a2 := low hy h2
    have b2 := hym _ (gm h2)
    rw [if_pos h2, if_neg h1]
    exact ⟨fun e he => absurd he (none h1 e), fun e he => by have := a2 e he; omega, .inr ⟨h2, by omega⟩⟩
  · omega
theorem odd_dec {l : List Sp} {t : Int} {i : Nat} (h : Has l t ↔ i % 2 = 1) : decide (Has l t) = odd i := by
  unfold odd
  by_cases k : i % 2 = 1
  · rw [decide_eq_true (h.2 k), k]; rfl
  · rw [decide_eq_false (fun q => k (h.1 q))]
    have : i % 2 = 0 := by omega
    rw [this]; rfl
theorem no_has {out : List Sp} {p t : Int} (h : ∀ o ∈ out, o.b ≤ p) (hp : p ≤ t) : ¬ Has out t := fun ⟨s, hs, _, h2⟩ => by have := h s hs; omega
theorem inv_init {c : Nat} (hc : c = 35 ∨ c = 38 ∨ c = 40) {a b : List Sp} (ha : Vd a) (hb : Vd b) : Inv c a b ⟨0, 0, -1, []⟩ := by
  have hx := fun e he => (flatL_mem ha e he).1
  have hy := fun e he => (flatL_mem hb e he).1
  have hcf : cnt c false false = false := by rcases hc with rfl | rfl | rfl <;> rfl
  refine ⟨Nat.zero_le _, Nat.zero_le _, Nat.zero_le _, -1, Int.le_refl _, fun e he => by simp at he, fun e he => by simp at he, fun e he => by have := hx e (by simpa using he); omega, fun e he => by have := hy e (by simpa using he); omega,
    Vd.nil, fun o ho => (by cases ho), .inl rfl, ?_, fun t h1 h2 => ?_⟩
  · constructor
    · intro h; simp at h
    · intro h; simp only [odd] at h; rw [show cnt c (0 % 2 == 1) (0 % 2 == 1) = cnt c false false from rfl, hcf] at h; cases h
  · have e1 := odd_dec (flat_has (i := 0) ha (Nat.zero_le _) (fun e he => by simp at he) h1)
    have e2 := odd_dec (flat_has (i := 0) hb (Nat.zero_le _) (fun e he => by simp at he) h2)
    rw [e1, e2]
    constructor
    · rintro (h | h)
      · exact absurd h has_nil
      · simp at h
    · intro h; rw [show cnt c (odd 0) (odd 0) = cnt c false false from rfl, hcf] at h; cases h
theorem inv_step {c : Nat} {a b : List Sp} {s : Sw} (ha : Vd a) (hb : Vd b) (h : Inv c a b s) (hlt : s.i < (flatL a).length ∨ s.j < (flatL b).length) :
    Inv c a b (stepSw c (flatL a) (flatL b) s) ∧ (flatL a).length - (stepSw c (flatL a) (flatL b) s).i + ((flatL b).length - (stepSw c (flatL a) (flatL b) s).j) < (flatL a).length - s.i + ((flatL b).length - s.j) := by
  obtain ⟨i, j, fr, out⟩ := s
  obtain ⟨hi, hj, hlen, p, hp, p1, p2, p3, p4, hv, hob, hfr, hnow, hold⟩ := h
  simp only at *
  obtain ⟨t1, t2, t3⟩ := evT_ok (flatL_sorted ha) (flatL_sorted hb) (fun e he => (flatL_mem ha e he).2) (fun e he => (flatL_mem hb e he).2) hlt
  unfold stepSw
  simp only
  have t4 : evT (flatL a) (flatL b) i j ≤ 20000000 := by unfold evT; split <;> split <;> omega
  generalize evT (flatL a) (flatL b) i j = t at *
  have gd : ∀ {x : List Int} {i : Nat}, i < x.length → x[i]! ∈ x.drop i := fun {x i} hi => by rw [drop_cons hi]; exact List.mem_cons_self
  have hpt : p < t := by
    rcases t3 with ⟨k1, k2⟩ | ⟨k1, k2⟩
    · rw [← k2]; exact p3 _ (gd k1)
    · rw [← k2]; exact p4 _ (gd k1)
  obtain ⟨n1, n2, n3, n4, n5⟩ := nx_ok (flatL_sorted ha) hi p1 hpt t1
  obtain ⟨m1, m2, m3, m4, m5⟩ := nx_ok (flatL_sorted hb) hj p2 hpt t2
  have hadv : i + j < nxt (flatL a) i t + nxt (flatL b) j t := by
    rcases t3 with ⟨k1, k2⟩ | ⟨k1, k2⟩
    · have := n5 k1 k2; omega
    · have := m5 k1 k2; omega
  generalize nxt (flatL a) i t = i' at *
  generalize nxt (flatL b) j t = j' at *
  -- times behind t
  have late : ∀ u, t ≤ u → (∀ e ∈ (flatL a).drop i', u < e) → (∀ e ∈ (flatL b).drop j', u < e) → cnt c (decide (Has a u)) (decide (Has b u)) = cnt c (odd i') (odd j') := by
    intro u hu h1 h2
    rw [odd_dec (flat_has ha n1 (fun e he => by have := n3 e he; omega) h1), odd_dec (flat_has hb m1 (fun e he => by have := m3 e he; omega) h2)]
  have early : ∀ u, u < t → ((Has out u ∨ (0 ≤ fr ∧ fr ≤ u)) ↔ cnt c (decide (Has a u)) (decide (Has b u)) = true) := fun u hu => hold u (fun e he => by have := t1 e he; omega) fun e he => by have := t2 e he; omega
  cases hn : cnt c (odd i') (odd j') with
  | true =>
    simp only [Bool.true_and, Bool.not_true, Bool.false_and, Bool.false_eq_true, if_false]
    refine ⟨⟨n1, m1, by simp only; omega, t, by omega, n3, m3, n4, m4, hv, fun o ho => by have := hob o ho; omega, ?_, ?_, fun u h1 h2 => ?_⟩, by first | omega | (simp only; omega)⟩
    · simp only
      split
      · rename_i hq
        exact .inr ⟨by omega, Int.le_refl _, fun o ho => by have := hob o ho; omega⟩
      · rename_i hq
        simp only [decide_eq_true_eq] at hq
        rcases hfr with h | h
        · omega
        · exact .inr ⟨h.1, by omega, h.2.2⟩
    · simp only [hn, iff_true]
      split
      · omega
      · rename_i hq; simp only [decide_eq_true_eq] at hq; omega
    · simp only
      by_cases hu : u < t
      · rw [← early u hu]
        refine or_congr Iff.rfl ?_
        split
        · rename_i hq; simp only [decide_eq_true_eq] at hq; omega
        · exact Iff.rfl
      · rw [late u (by omega) h1 h2, hn]
        refine ⟨fun _ => rfl, fun _ => .inr ?_⟩
        split
        · omega
        · rename_i hq
          simp only [decide_eq_true_eq] at hq
          rcases hfr with h | h <;> omega
  | false =>
    simp only [Bool.false_and, Bool.not_false, Bool.true_and, Bool.false_eq_true, if_false, decide_eq_true_eq]
    split
    · rename_i hq
      have hfr' : 0 ≤ fr ∧ fr ≤ p ∧ ∀ o ∈ out, o.b < fr := by
        rcases hfr with h | h
        · omega
        · exact h
      refine ⟨⟨n1, m1, by simp only [List.length_append, List.length_cons, List.length_nil]; omega, t, by omega, n3, m3, n4, m4, vd_append.2 ⟨hv, vd_one ⟨hq, by simp only; omega, t4⟩, fun o ho y hy => ?_⟩, fun o ho => ?_, .inl rfl, ?_, fun u h1 h2 => ?_⟩, by first | omega | (simp only; omega)⟩
      · rw [List.mem_singleton] at hy; subst hy; exact hfr'.2.2 o ho
      · rcases List.mem_append.1 ho with ho | ho
        · have := hob o ho; omega
        · rw [List.mem_singleton] at ho; subst ho; exact Int.le_refl _
      · simp only [hn]; exact ⟨fun h => by omega, fun h => by cases h⟩
      · simp only
        rw [has_append, has_one]
        simp only
        by_cases hu : u < t
        · rw [← early u hu]
          constructor
          · rintro ((h | h) | h)
            · exact .inl h
            · exact .inr ⟨hq, h.1⟩
            · omega
          · rintro (h | h)
            · exact .inl (.inl h)
            · exact .inl (.inr ⟨h.2, hu⟩)
        · rw [late u (by omega) h1 h2, hn]
          have := no_has hob (t := u) (by omega)
          exact ⟨fun h => by rcases h with (h | h) | h
                             · exact absurd h this
                             · omega
                             · omega, fun h => by cases h⟩
    · rename_i hq
      refine ⟨⟨n1, m1, by simp only; omega, t, by omega, n3, m3, n4, m4, hv, fun o ho => by have := hob o ho; omega, ?_, ?_, fun u h1 h2 => ?_⟩, by first | omega | (simp only; omega)⟩
      · rcases hfr with h | h
        · exact .inl h
        · exact absurd h.1 hq
      · simp only [hn]; exact ⟨fun h => absurd h hq, fun h => by cases h⟩
      · simp only
        by_cases hu : u < t
        · exact early u hu
        · rw [late u (by omega) h1 h2, hn]
          have := no_has hob (t := u) (by omega)
          exact ⟨fun h => by rcases h with h | h
                             · exact absurd h this
                             · exact absurd h.1 hq, fun h => by cases h⟩
theorem inv_final {c : Nat} (hc : c = 35 ∨ c = 38 ∨ c = 40) {a b : List Sp} {s : Sw} (h : Inv c a b s) (hend : ¬ (s.i < (flatL a).length ∨ s.j < (flatL b).length)) : Vd s.out ∧ ∀ t, Has s.out t ↔ cnt c (decide (Has a t)) (decide (Has b t)) = true := by
  obtain ⟨hi, hj, hlen, p, hp, p1, p2, p3, p4, hv, hob, hfr, hnow, hold⟩ := h
  have ei : s.i = (flatL a).length := by omega
  have ej : s.j = (flatL b).length := by omega
  have even : ∀ l : List Sp, odd (flatL l).length = false := fun l => by
    unfold odd; rw [flat_len]
    have : 2 * l.length % 2 = 0 := by omega
    rw [this]; rfl
  have hcf : cnt c false false = false := by rcases hc with rfl | rfl | rfl <;> rfl
  have hneg : ¬ 0 ≤ s.fr := by rw [hnow, ei, ej, even, even, hcf]; simp
  refine ⟨hv, fun t => ?_⟩
  have := hold t (fun e he => by rw [ei, List.drop_eq_nil_of_le (Nat.le_refl _)] at he; cases he) fun e he => by rw [ej, List.drop_eq_nil_of_le (Nat.le_refl _)] at he; cases he
  rw [← this]
  exact ⟨.inl, fun h => h.elim id fun h => absurd h.1 hneg⟩
/-- what the sweep comes to -/
def swept (c : Nat) (a b : List Sp) : List Sp × Int := if c = 35 then runion a b else if c = 38 then rcross a b else rminus a b
theorem sweep_out {c : Nat} (hc : c = 35 ∨ c = 38 ∨ c = 40) {a b : List Sp} (ha : rvalid a = true) (hb : rvalid b = true) {s : Sw} (h : Inv c a b s) (hend : ¬ (s.i < (flatL a).length ∨ s.j < (flatL b).length)) : swept c a b = rlimited s.out := by
  obtain ⟨h1, h2⟩ := inv_final hc h hend
  have va := vd_of ha
  have vb := vd_of hb
  rcases hc with rfl | rfl | rfl
  · obtain ⟨h3, h4⟩ := reither_ok va vb
    have e : s.out = reither a b := uniq _ _ h1 h3 fun t => by rw [h2, h4]; simp [cnt]
    simp only [swept, if_true, runion, ha, hb, Bool.and_self, e]
  · obtain ⟨h3, h4⟩ := rboth_ok va vb
    have e : s.out = rboth a b := uniq _ _ h1 h3 fun t => by rw [h2, h4]; simp [cnt]
    simp only [swept, rcross, ha, hb, Bool.and_self, e]; rfl
  · obtain ⟨h3, h4⟩ := rmin_ok va vb
    have e : s.out = rmin a b := uniq _ _ h1 h3 fun t => by rw [h2, h4]; simp [cnt]
    simp only [swept, rminus, ha, hb, Bool.and_self, e]; rfl
theorem swept_bad {c : Nat} {a b : List Sp} (h : (rvalid a && rvalid b) = false) : swept c a b = ([], 1) := by
  unfold swept runion rcross rminus
  simp only [h, Bool.false_eq_true, if_false]
  split
  · rfl
  · split <;> rfl
theorem odd_cast (i : Nat) : (((i : Int) % 2) == 1) = odd i := by
  unfold odd
  rw [Bool.eq_iff_iff]
  simp only [beq_iff_eq]
  omega
theorem stepSw_close {c : Nat} {x y : List Int} {s : Sw} {t fr1 : Int} {i j : Nat} (ht : t = evT x y s.i s.j) (hi : i = nxt x s.i t) (hj : j = nxt y s.j t) (hf : fr1 = if cnt c (odd i) (odd j) && decide (s.fr < 0) then t else s.fr)
    (hc : (!cnt c (odd i) (odd j) && decide (0 ≤ fr1)) = true) : stepSw c x y s = ⟨i, j, -1, s.out ++ [⟨fr1, t⟩]⟩ := by
  unfold stepSw
  simp only [← ht, ← hi, ← hj, ← hf]
  rw [if_pos hc]
theorem stepSw_keep {c : Nat} {x y : List Int} {s : Sw} {t fr1 : Int} {i j : Nat} (ht : t = evT x y s.i s.j) (hi : i = nxt x s.i t) (hj : j = nxt y s.j t) (hf : fr1 = if cnt c (odd i) (odd j) && decide (s.fr < 0) then t else s.fr)
    (hc : (!cnt c (odd i) (odd j) && decide (0 ≤ fr1)) = false) : stepSw c x y s = ⟨i, j, fr1, s.out⟩ := by
  unfold stepSw
  simp only [← ht, ← hi, ← hj, ← hf]
  rw [if_neg (by rw [hc]; simp)]
end Go.Span
