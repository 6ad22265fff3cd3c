/-
  SORTING IN PLACE, in plain Lean: insertion, rotation, merging without a second list (what package slices does for a stable sort). Conditions: none.
-/
import Derived.Test.YtfggmgafjabbjaaDoorCmp
set_option linter.unusedVariables false
set_option linter.unusedSimpArgs false
set_option linter.unusedSectionVars false
namespace Go.Cmp
variable {α : Type} [Inhabited α] {c : α → α → Int}

/-- two places exchanged -/
def sw (s : List α) (i j : Nat) : List α := (s.set i s[j]!).set j s[i]!
theorem getBang_app {A : List α} {x : α} {B : List α} {i : Nat} (h : i = A.length) : (A ++ x :: B)[i]! = x := by
  subst h
  rw [getElem!_pos (A ++ x :: B) A.length (by simp)]
  simp
theorem set_app {A : List α} {x y : α} {B : List α} {i : Nat} (h : i = A.length) : (A ++ x :: B).set i y = A ++ y :: B := by
  subst h
  rw [List.set_append_right (h := Nat.le_refl _)]
  simp
theorem sw_app {A M B : List α} {x y : α} {i j : Nat} (hi : i = A.length) (hj : j = A.length + 1 + M.length) : sw (A ++ x :: (M ++ y :: B)) i j = A ++ y :: (M ++ x :: B) := by
  have e : A ++ x :: (M ++ y :: B) = (A ++ x :: M) ++ y :: B := by simp
  have h1 : (A ++ x :: (M ++ y :: B))[j]! = y := by rw [e]; exact getBang_app (by simp; omega)
  have h2 : (A ++ x :: (M ++ y :: B))[i]! = x := getBang_app hi
  unfold sw
  rw [h1, h2, set_app hi]
  have e2 : A ++ y :: (M ++ y :: B) = (A ++ y :: M) ++ y :: B := by simp
  rw [e2, set_app (by simp; omega)]
  simp
theorem sw_app' {A M B : List α} {x y : α} {i j : Nat} (hi : i = A.length) (hj : j = A.length + 1 + M.length) : sw (A ++ x :: (M ++ y :: B)) j i = A ++ y :: (M ++ x :: B) := by
  have e : A ++ x :: (M ++ y :: B) = (A ++ x :: M) ++ y :: B := by simp
  have h1 : (A ++ x :: (M ++ y :: B))[j]! = y := by rw [e]; exact getBang_app (by simp; omega)
  have h2 : (A ++ x :: (M ++ y :: B))[i]! = x := getBang_app hi
  unfold sw
  rw [h1, h2, e, set_app (by simp; omega)]
  have e2 : (A ++ x :: M) ++ x :: B = A ++ x :: (M ++ x :: B) := by simp
  rw [e2, set_app hi]
theorem sw_len (s : List α) (i j : Nat) : (sw s i j).length = s.length := by simp [sw]
theorem sw_self (s : List α) (i : Nat) : sw s i i = s := by
  unfold sw
  by_cases h : i < s.length
  · simp [getElem!_pos, h]
  · simp [List.set_eq_of_length_le (by omega : s.length ≤ i)]
/-- pieces -/
theorem cut3 (s : List α) (a b : Nat) (h : a ≤ b) (hb : b ≤ s.length) : ∃ A M B, s = A ++ (M ++ B) ∧ A.length = a ∧ M.length = b - a := by
  refine ⟨s.take a, (s.drop a).take (b - a), s.drop b, ?_, by simp; omega, by simp; omega⟩
  have : s.drop b = (s.drop a).drop (b - a) := by rw [List.drop_drop]; congr 1; omega
  rw [this, List.take_append_drop, List.take_append_drop]
theorem split_at {α : Type} (X : List α) (k : Nat) (h : k ≤ X.length) : ∃ X1 X2, X = X1 ++ X2 ∧ X1.length = k := ⟨X.take k, X.drop k, (List.take_append_drop k X).symm, by simp; omega⟩

/-! ### sorted pieces -/
theorem sorted_append (h : Cm c) {X Y : List α} : Sorted c (X ++ Y) ↔ Sorted c X ∧ Sorted c Y ∧ ∀ x ∈ X, ∀ y ∈ Y, c x y ≤ 0 := List.pairwise_append
theorem sorted_join (h : Cm c) {X Y : List α} (hX : Sorted c X) (hY : Sorted c Y) (hm : ∀ p x y q, X = p ++ [x] → Y = y :: q → c x y ≤ 0) : Sorted c (X ++ Y) := by
  refine (sorted_append h).2 ⟨hX, hY, fun x hx y hy => ?_⟩
  rcases List.eq_nil_or_concat X with e | ⟨p, z, e⟩
  · subst e; cases hx
  · rw [List.concat_eq_append] at e
    cases Y with
    | nil => cases hy
    | cons w q =>
      have h1 : c z w ≤ 0 := hm p z w q e rfl
      have h2 : c x z ≤ 0 := by
        subst e
        rcases List.mem_append.1 hx with k | k
        · exact ((sorted_append h).1 hX).2.2 x k z (by simp)
        · simp at k; subst k; have := h.self x; omega
      have h3 : c w y ≤ 0 := by
        rcases List.mem_cons.1 hy with k | k
        · subst k; have := h.self y; omega
        · exact (List.pairwise_cons.1 hY).1 y k
      exact h.tr _ _ _ h2 (h.tr _ _ _ h1 h3)
/-- what merging leaves -/
def Mg (c : α → α → Int) (X Y Z : List α) : Prop := Z.Perm (X ++ Y) ∧ Sorted c Z
theorem mg_all (h : Cm c) {X Y Z U V W : List α} (k1 : Mg c X Y Z) (k2 : Mg c U V W) (h1 : ∀ z ∈ X ++ Y, ∀ w ∈ U ++ V, c z w ≤ 0) : Sorted c (Z ++ W) :=
  (sorted_append h).2 ⟨k1.2, k2.2, fun z hz w hw => h1 z (k1.1.mem_iff.1 hz) w (k2.1.mem_iff.1 hw)⟩
/-- THE CUT OF A MERGE: X = X1 ++ X2, Y = Y1 ++ Y2, found by search -/
theorem mg_cut (h : Cm c) {X1 X2 Y1 Y2 Z W : List α} (hX : Sorted c (X1 ++ X2)) (hY : Sorted c (Y1 ++ Y2)) (ha : ∀ p x y q, X1 = p ++ [x] → Y2 = y :: q → c x y ≤ 0) (hb : ∀ p y x q, Y1 = p ++ [y] → X2 = x :: q → c y x ≤ 0)
    (k1 : Mg c X1 Y1 Z) (k2 : Mg c X2 Y2 W) : Mg c (X1 ++ X2) (Y1 ++ Y2) (Z ++ W) := by
  have sX := (sorted_append h).1 hX
  have sY := (sorted_append h).1 hY
  have j1 := (sorted_append h).1 (sorted_join h sX.1 sY.2.1 ha)
  have j2 := (sorted_append h).1 (sorted_join h sY.1 sX.2.1 hb)
  refine ⟨?_, mg_all h k1 k2 fun z hz w hw => ?_⟩
  · refine (k1.1.append k2.1).trans ?_
    have : (X1 ++ Y1 ++ (X2 ++ Y2)).Perm (X1 ++ (X2 ++ Y1) ++ Y2) := by
      have e : X1 ++ Y1 ++ (X2 ++ Y2) = X1 ++ (Y1 ++ X2) ++ Y2 := by simp
      rw [e]
      exact (List.Perm.append_left _ List.perm_append_comm).append_right _
    refine this.trans (by simp)
  · rcases List.mem_append.1 hz with q | q <;> rcases List.mem_append.1 hw with r | r
    · exact sX.2.2 z q w r
    · exact j1.2.2 z q w r
    · exact j2.2.2 z q w r
    · exact sY.2.2 z q w r
theorem mg_nil_l {Y : List α} (h : Sorted c Y) : Mg c [] Y Y := ⟨.refl _, h⟩
theorem mg_nil_r {X : List α} (h : Sorted c X) : Mg c X [] X := ⟨by simp, h⟩
/-- one element put in its place -/
theorem mg_one_l (h : Cm c) {x : α} {Y1 Y2 : List α} (hY : Sorted c (Y1 ++ Y2)) (h1 : ∀ p y, Y1 = p ++ [y] → c y x ≤ 0) (h2 : ∀ y q, Y2 = y :: q → c x y ≤ 0) : Mg c [x] (Y1 ++ Y2) (Y1 ++ x :: Y2) := by
  have sY := (sorted_append h).1 hY
  refine ⟨List.perm_middle, ?_⟩
  have hx : Sorted c ([x] ++ Y2) := sorted_join h (by simp [Sorted]) sY.2.1 fun p z y q e1 e2 => by
    have : z = x := by
      rcases p with _ | ⟨w, p⟩
      · simpa using e1.symm
      · simp at e1
    subst this; exact h2 y q e2
  exact sorted_join h sY.1 hx fun p y z q e1 e2 => by
    have : z = x := by simpa using (List.cons.inj e2).1.symm
    subst this; exact h1 p y e1
theorem mg_one_r (h : Cm c) {x : α} {Y1 Y2 : List α} (hY : Sorted c (Y1 ++ Y2)) (h1 : ∀ p y, Y1 = p ++ [y] → c y x ≤ 0) (h2 : ∀ y q, Y2 = y :: q → c x y ≤ 0) : Mg c (Y1 ++ Y2) [x] (Y1 ++ x :: Y2) := by
  obtain ⟨k1, k2⟩ := mg_one_l h hY h1 h2
  exact ⟨k1.trans List.perm_append_comm, k2⟩
/-- blocks of a list -/
def Blocks (c : α → α → Int) (n : Nat) (s : List α) : Prop := ∀ k, Sorted c ((s.drop (k * n)).take n)
theorem blocks_all {s : List α} {n : Nat} (h : Blocks c n s) (hn : s.length ≤ n) : Sorted c s := by
  have := h 0
  rwa [Nat.zero_mul, List.drop_zero, List.take_of_length_le hn] at this
theorem piece_app {A Z B : List α} {a n : Nat} (ha : A.length = a) (hz : Z.length = n) : ((A ++ (Z ++ B)).drop a).take n = Z := by
  subst ha; subst hz
  rw [List.drop_left, List.take_left]
theorem piece_left {A B B' : List α} {k n : Nat} (h : k + n ≤ A.length) : ((A ++ B).drop k).take n = ((A ++ B').drop k).take n := by
  rw [List.drop_append_of_le_length (by omega), List.drop_append_of_le_length (by omega), List.take_append_of_le_length (by simp; omega), List.take_append_of_le_length (by simp; omega)]
theorem piece_right {A A' B : List α} {k n : Nat} (h : A.length ≤ k) (e : A.length = A'.length) : ((A ++ B).drop k).take n = ((A' ++ B).drop k).take n := by
  have e1 : A.drop k = [] := List.drop_eq_nil_of_le h
  have e2 : A'.drop k = [] := List.drop_eq_nil_of_le (by omega)
  rw [List.drop_append, List.drop_append, e1, e2, e]

/-! ### insertion, as the library writes it -/
def insIn (c : α → α → Int) (s : List α) (a j : Nat) : List α := if a < j ∧ c s[j]! s[j - 1]! < 0 then insIn c (sw s j (j - 1)) a (j - 1) else s
termination_by j
decreasing_by omega
theorem insIn_eq (c : α → α → Int) (s : List α) (a j : Nat) : insIn c s a j = if a < j ∧ c s[j]! s[j - 1]! < 0 then insIn c (sw s j (j - 1)) a (j - 1) else s := by rw [insIn]
def insOut (c : α → α → Int) (s : List α) (a b i : Nat) : List α := if i < b then insOut c (insIn c s a i) a b (i + 1) else s
termination_by b - i
theorem insOut_eq (c : α → α → Int) (s : List α) (a b i : Nat) : insOut c s a b i = if i < b then insOut c (insIn c s a i) a b (i + 1) else s := by rw [insOut]
def isort (c : α → α → Int) (s : List α) (a b : Nat) : List α := insOut c s a b (a + 1)
theorem insIn_len (c : α → α → Int) (s : List α) (a j : Nat) : (insIn c s a j).length = s.length := by
  rw [insIn_eq]
  split
  · rw [insIn_len c _ a (j - 1), sw_len]
  · rfl
termination_by j
decreasing_by omega
theorem insOut_len (c : α → α → Int) (s : List α) (a b i : Nat) : (insOut c s a b i).length = s.length := by
  rw [insOut_eq]
  split
  · rw [insOut_len c _ a b (i + 1), insIn_len]
  · rfl
termination_by b - i
/-- the place where an element goes: nothing ahead of it is greater, all behind is -/
theorem ins_done (h : Cm c) {S1 S2 : List α} {x : α} (hs : Sorted c (S1 ++ S2)) (h2 : ∀ y ∈ S2, c x y < 0) (h1 : ∀ p y, S1 = p ++ [y] → ¬ c x y < 0) : Sorted c (S1 ++ x :: S2) :=
  (mg_one_l h hs (fun p y e => by have := h1 p y e; have := h.anti x y; omega) fun y q e => by have := h2 y (by rw [e]; simp); omega).2
theorem insIn_law (h : Cm c) {A R S1 S2 : List α} {x : α} (hs : Sorted c (S1 ++ S2)) (h2 : ∀ y ∈ S2, c x y < 0) :
    ∃ S', insIn c (A ++ (S1 ++ x :: (S2 ++ R))) A.length (A.length + S1.length) = A ++ (S' ++ R) ∧ S'.Perm (x :: (S1 ++ S2)) ∧ Sorted c S' := by
  rw [insIn_eq]
  rcases List.eq_nil_or_concat S1 with e | ⟨p, y, e⟩
  · subst e
    rw [if_neg (by simp)]
    exact ⟨x :: S2, by simp, by simp, by
      have := ins_done h (S1 := []) hs h2 fun p y e => by simp at e
      simpa using this⟩
  · rw [List.concat_eq_append] at e
    subst e
    have hj : A.length + (p ++ [y]).length = (A ++ (p ++ [y])).length := by simp
    have e1 : (A ++ ((p ++ [y]) ++ x :: (S2 ++ R)))[A.length + (p ++ [y]).length]! = x := by
      rw [← List.append_assoc]; exact getBang_app hj
    have e0 : A ++ ((p ++ [y]) ++ x :: (S2 ++ R)) = (A ++ p) ++ y :: x :: (S2 ++ R) := by simp
    have e2 : (A ++ ((p ++ [y]) ++ x :: (S2 ++ R)))[A.length + (p ++ [y]).length - 1]! = y := by
      rw [e0]; exact getBang_app (by simp <;> omega)
    rw [e1, e2]
    by_cases q : c x y < 0
    · rw [if_pos ⟨by simp <;> omega, q⟩]
      have e3 : sw (A ++ ((p ++ [y]) ++ x :: (S2 ++ R))) (A.length + (p ++ [y]).length) (A.length + (p ++ [y]).length - 1) = A ++ (p ++ x :: ((y :: S2) ++ R)) := by
        rw [e0]
        have := sw_app' (A := A ++ p) (M := []) (B := S2 ++ R) (x := y) (y := x) (i := A.length + (p ++ [y]).length - 1) (j := A.length + (p ++ [y]).length) (by simp <;> omega) (by simp <;> omega)
        rw [List.nil_append] at this
        rw [this]
        simp
      rw [e3]
      have e4 : A.length + (p ++ [y]).length - 1 = A.length + p.length := by simp <;> omega
      rw [e4]
      have hs' : Sorted c (p ++ y :: S2) := by simpa using hs
      obtain ⟨S', k1, k2, k3⟩ := insIn_law h (A := A) (R := R) (S1 := p) (S2 := y :: S2) (x := x) hs' fun z hz => by
        rcases List.mem_cons.1 hz with e | e
        · subst e; exact q
        · exact h2 z e
      exact ⟨S', k1, by simpa using k2, k3⟩
    · rw [if_neg (by simp [q])]
      exact ⟨(p ++ [y]) ++ x :: S2, by simp, List.perm_middle, ins_done h hs h2 fun p' y' e => by
        have := List.append_inj_right' e rfl
        simp at this; subst this; exact q⟩
termination_by S1.length
decreasing_by all_goals (first | (simp; done) | omega | (simp_all; done) | (simp_all; omega))
theorem insOut_law (h : Cm c) {A B : List α} : ∀ (R S : List α), Sorted c S → ∃ M', insOut c (A ++ (S ++ (R ++ B))) A.length (A.length + S.length + R.length) (A.length + S.length) = A ++ (M' ++ B) ∧ M'.Perm (S ++ R) ∧ Sorted c M'
  | [], S, hs => ⟨S, by rw [insOut_eq, if_neg (by simp)]; simp, by simp, hs⟩
  | x :: R, S, hs => by
    rw [insOut_eq, if_pos (by simp)]
    obtain ⟨S', k1, k2, k3⟩ := insIn_law h (A := A) (R := R ++ B) (S1 := S) (S2 := []) (x := x) (by simpa using hs) (by simp)
    have e : A ++ (S ++ ((x :: R) ++ B)) = A ++ (S ++ x :: ([] ++ (R ++ B))) := by simp
    rw [e, k1]
    have hl : S'.length = S.length + 1 := by have := k2.length_eq; simpa using this
    obtain ⟨M', m1, m2, m3⟩ := insOut_law h (A := A) (B := B) R S' k3
    have e2 : A.length + S.length + (x :: R).length = A.length + S'.length + R.length := by simp; omega
    have e3 : A.length + S.length + 1 = A.length + S'.length := by omega
    rw [e2, e3]
    refine ⟨M', m1, m2.trans ?_, m3⟩
    refine (k2.append_right R).trans ?_
    simp only [List.append_nil]
    exact List.perm_middle.symm
theorem isort_law (h : Cm c) {A M B : List α} : ∃ M', isort c (A ++ (M ++ B)) A.length (A.length + M.length) = A ++ (M' ++ B) ∧ M'.Perm M ∧ Sorted c M' := by
  unfold isort
  cases M with
  | nil => exact ⟨[], by rw [insOut_eq, if_neg (by simp)], .refl _, by simp [Sorted]⟩
  | cons x M =>
    have := insOut_law h (A := A) (B := B) M [x] (by simp [Sorted])
    simpa [Nat.add_comm, Nat.add_left_comm] using this
end Go.Cmp
