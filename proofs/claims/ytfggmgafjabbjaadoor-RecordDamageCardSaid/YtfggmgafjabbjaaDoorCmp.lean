/-
  COMPARING AND MERGING, in plain Lean: comparators, ordered insertion that unites, sorted lists. Conditions: none.
-/
import Derived.Test.YtfggmgafjabbjaaDoorStr
set_option linter.unusedVariables false
set_option linter.unusedSimpArgs false
set_option linter.unusedSectionVars false
namespace Go.Cmp
open Go.Str

/-- a comparator: -1, 0, 1 -/
structure Cm {α : Type} (c : α → α → Int) : Prop where
  anti : ∀ x y, c y x = - c x y
  tr : ∀ x y z, c x y ≤ 0 → c y z ≤ 0 → c x z ≤ 0
  lo : ∀ x y, -1 ≤ c x y
namespace Cm
variable {α : Type} {c : α → α → Int} (h : Cm c)
include h
theorem hi (x y : α) : c x y ≤ 1 := by have := h.lo y x; have := h.anti x y; omega
theorem self (x : α) : c x x = 0 := by have := h.anti x x; omega
theorem lt_le {x y z : α} (a : c x y < 0) (b : c y z ≤ 0) : c x z < 0 := by
  have h1 := h.tr x y z (by omega) b
  by_cases e : c x z = 0
  · have h2 := h.tr y z x b (by have := h.anti x z; omega)
    have := h.anti x y; omega
  · omega
theorem le_lt {x y z : α} (a : c x y ≤ 0) (b : c y z < 0) : c x z < 0 := by
  have h1 := h.tr x y z a (by omega)
  by_cases e : c x z = 0
  · have h2 := h.tr z x y (by have := h.anti x z; omega) a
    have := h.anti y z; omega
  · omega
theorem eq_eq {x y z : α} (a : c x y = 0) (b : c y z = 0) : c x z = 0 := by
  have h1 := h.tr x y z (by omega) (by omega)
  have h2 := h.tr z y x (by have := h.anti y z; omega) (by have := h.anti x y; omega)
  have := h.anti x z; omega
end Cm
/-- first by one, then by another -/
def thenC (a b : Int) : Int := if a != 0 then a else b
theorem cm_then {α : Type} {c d : α → α → Int} (h : Cm c) (k : Cm d) : Cm fun x y => thenC (c x y) (d x y) := by
  have e : ∀ x y, thenC (c x y) (d x y) = if c x y = 0 then d x y else c x y := by
    intro x y; unfold thenC; by_cases q : c x y = 0 <;> simp [q]
  refine ⟨fun x y => ?_, fun x y z => ?_, fun x y => ?_⟩
  · simp only [e]
    have := h.anti x y; have := k.anti x y
    split <;> split <;> omega
  · simp only [e]
    intro a b
    by_cases e1 : c x y = 0 <;> by_cases e2 : c y z = 0
    · rw [if_pos e1] at a; rw [if_pos e2] at b
      rw [if_pos (h.eq_eq e1 e2)]; exact k.tr _ _ _ a b
    · rw [if_neg e2] at b
      have := h.le_lt (x := x) (by omega : c x y ≤ 0) (by omega : c y z < 0)
      rw [if_neg (by omega)]; omega
    · rw [if_neg e1] at a
      have := h.lt_le (by omega : c x y < 0) (by omega : c y z ≤ 0)
      rw [if_neg (by omega)]; omega
    · rw [if_neg e1] at a; rw [if_neg e2] at b
      have := h.lt_le (by omega : c x y < 0) (by omega : c y z ≤ 0)
      rw [if_neg (by omega)]; omega
  · simp only [e]
    have := h.lo x y; have := k.lo x y
    split <;> omega
theorem cm_on {α β : Type} {c : β → β → Int} (h : Cm c) (f : α → β) : Cm fun x y => c (f x) (f y) :=
  ⟨fun x y => h.anti _ _, fun x y z => h.tr _ _ _, fun x y => h.lo _ _⟩
def cmpI (x y : Int) : Int := if x < y then -1 else if y < x then 1 else 0
theorem cm_int : Cm cmpI := by
  refine ⟨fun x y => ?_, fun x y z => ?_, fun x y => ?_⟩ <;> unfold cmpI <;> (repeat' split) <;> omega
theorem cmpI_eq {x y : Int} : cmpI x y = 0 ↔ x = y := by
  unfold cmpI; (repeat' split) <;> omega
/-- lists, one letter after the other -/
def lex {α : Type} (c : α → α → Int) : List α → List α → Int
  | [], [] => 0
  | [], _ :: _ => -1
  | _ :: _, [] => 1
  | x :: xs, y :: ys => thenC (c x y) (lex c xs ys)
theorem thenC_eq {a b : Int} : thenC a b = if a = 0 then b else a := by
  unfold thenC; by_cases q : a = 0 <;> simp [q]
theorem cm_lex {α : Type} {c : α → α → Int} (h : Cm c) : Cm (lex c) := by
  refine ⟨?_, ?_, ?_⟩
  · intro x
    induction x with
    | nil => intro y; cases y <;> rfl
    | cons x xs ih =>
      intro y
      cases y with
      | nil => rfl
      | cons y ys =>
        simp only [lex, thenC_eq]
        have := h.anti x y; have := ih ys
        split <;> split <;> omega
  · intro x
    induction x with
    | nil =>
      intro y z _ _
      cases z
      · simp [lex]
      · simp [lex]
    | cons x xs ih =>
      intro y z a b
      cases y with
      | nil => simp [lex] at a
      | cons y ys =>
        cases z with
        | nil => simp [lex] at b
        | cons z zs =>
          simp only [lex, thenC_eq] at a b ⊢
          by_cases e1 : c x y = 0 <;> by_cases e2 : c y z = 0
          · rw [if_pos e1] at a; rw [if_pos e2] at b
            rw [if_pos (h.eq_eq e1 e2)]; exact ih _ _ a b
          · rw [if_neg e2] at b
            have := h.le_lt (x := x) (by omega : c x y ≤ 0) (by omega : c y z < 0)
            rw [if_neg (by omega)]; omega
          · rw [if_neg e1] at a
            have := h.lt_le (by omega : c x y < 0) (by omega : c y z ≤ 0)
            rw [if_neg (by omega)]; omega
          · rw [if_neg e1] at a; rw [if_neg e2] at b
            have := h.lt_le (by omega : c x y < 0) (by omega : c y z ≤ 0)
            rw [if_neg (by omega)]; omega
  · intro x
    induction x with
    | nil => intro y; cases y <;> simp [lex]
    | cons x xs ih =>
      intro y
      cases y with
      | nil => simp [lex]
      | cons y ys =>
        simp only [lex, thenC_eq]
        have := h.lo x y; have := ih ys
        split <;> omega
theorem lex_eq {α : Type} {c : α → α → Int} (h : ∀ x y, c x y = 0 → x = y) : ∀ xs ys : List α, lex c xs ys = 0 → xs = ys
  | [], [], _ => rfl
  | [], _ :: _, e => by simp [lex] at e
  | _ :: _, [], e => by simp [lex] at e
  | x :: xs, y :: ys, e => by
    simp only [lex, thenC_eq] at e
    split at e
    · rename_i q; rw [h _ _ q, lex_eq h xs ys e]
    · rename_i q; exact absurd e q
/-! ### letters, names -/
def cmpU (x y : UInt8) : Int := cmpI x.toNat y.toNat
theorem cm_u : Cm cmpU := cm_on cm_int fun x : UInt8 => (x.toNat : Int)
theorem cmpU_eq {x y : UInt8} (h : cmpU x y = 0) : x = y := UInt8.toNat_inj.1 (by have := cmpI_eq.1 h; omega)
theorem compareBytes_lex : ∀ a b : Str, Go.Lib.compareBytes a b = lex cmpU a b
  | [], [] => rfl
  | [], _ :: _ => rfl
  | _ :: _, [] => rfl
  | x :: a, y :: b => by
    unfold Go.Lib.compareBytes lex
    have ih := compareBytes_lex a b
    simp only [thenC_eq, cmpU, cmpI]
    by_cases h1 : x < y
    · have : (x.toNat : Int) < y.toNat := by have : x.toNat < y.toNat := h1; omega
      simp [h1, this]
    · have h1' : ¬ (x.toNat : Int) < y.toNat := by have : ¬ x.toNat < y.toNat := h1; omega
      by_cases h2 : y < x
      · have : (y.toNat : Int) < x.toNat := by have : y.toNat < x.toNat := h2; omega
        simp [h1, h2, h1', this]
      · have h2' : ¬ (y.toNat : Int) < x.toNat := by have : ¬ y.toNat < x.toNat := h2; omega
        simp [h1, h2, h1', h2', ih]
theorem cm_bytes : Cm (Go.Lib.compareBytes) := by
  have : Go.Lib.compareBytes = lex cmpU := by funext a b; exact compareBytes_lex a b
  rw [this]; exact cm_lex cm_u
theorem bytes_eq {a b : Str} (h : Go.Lib.compareBytes a b = 0) : a = b := by
  rw [compareBytes_lex] at h; exact lex_eq (fun _ _ => cmpU_eq) a b h
theorem ordL_lex : ∀ xs ys : List Str, ordL xs ys = lex Go.Lib.compareBytes xs ys
  | [], [] => rfl
  | [], _ :: _ => rfl
  | _ :: _, [] => rfl
  | x :: xs, y :: ys => by
    unfold ordL lex
    have ih := ordL_lex xs ys
    rw [cmpB_eq, thenC_eq, ih]
    by_cases h1 : Go.Op.bytesLess x y = true
    · simp [h1]
    · by_cases h2 : x = y
      · subst h2; simp [bytesLess_irrefl]
      · have h3 : (x == y) = false := by simpa using h2
        simp [h1, h3]
theorem cm_nm : Cm nmOrd := by
  have : nmOrd = fun a b => lex Go.Lib.compareBytes (rlabs a) (rlabs b) := by funext a b; exact ordL_lex _ _
  rw [this]; exact cm_on (cm_lex cm_bytes) rlabs
theorem nm_eq {a b : Str} (h : nmOrd a b = 0) : a = b := by
  unfold nmOrd at h
  rw [ordL_lex] at h
  exact rlabs_inj (lex_eq (fun _ _ => bytes_eq) _ _ h)

/-! ### inserting, uniting -/
section
variable {α : Type} (c : α → α → Int) (m : α → α → α)
def ins : List α → α → List α
  | [], x => [x]
  | y :: r, x => if c y x < 0 then y :: ins r x else if 0 < c y x then x :: y :: r else m y x :: r
/-- uniting keeps the place -/
structure Un : Prop where
  left : ∀ x y, c x y = 0 → c (m x y) x = 0
  comm : ∀ x y, c x y = 0 → m x y = m y x
  swap : ∀ x y z, c x y = 0 → c x z = 0 → m (m x y) z = m (m x z) y
variable {c m}
theorem Cm.congr (h : Cm c) {x y : α} (e : c x y = 0) (z : α) : c x z = c y z := by
  have e' : c y x = 0 := by have := h.anti x y; omega
  have l1 := h.lo x z; have l2 := h.lo y z; have u1 := h.hi x z; have u2 := h.hi y z
  rcases Int.lt_trichotomy (c x z) 0 with q | q | q
  · have := h.le_lt (by omega : c y x ≤ 0) q; omega
  · have := h.eq_eq e' q; omega
  · have a1 := h.anti x z
    have : c z x < 0 := by omega
    have := h.lt_le this (by omega : c x y ≤ 0)
    have := h.anti y z; omega
theorem Cm.congr_r (h : Cm c) {x y : α} (e : c x y = 0) (z : α) : c z x = c z y := by
  have := h.anti x z; have := h.anti y z; have := h.congr e z; omega
theorem ins_comm (h : Cm c) (u : Un c m) : ∀ (l : List α) (x z : α), ins c m (ins c m l x) z = ins c m (ins c m l z) x
  | [], x, z => by
    simp only [ins]
    have := h.anti x z
    rcases Int.lt_trichotomy (c x z) 0 with q | q | q
    · rw [if_pos q, if_neg (by omega), if_pos (by omega)]
    · rw [if_neg (by omega), if_neg (by omega), if_neg (by omega), if_neg (by omega), u.comm x z q]
    · rw [if_neg (by omega), if_pos q, if_pos (by omega)]
  | y :: r, x, z => by
    have ih := ins_comm h u r x z
    have axz := h.anti x z
    have ayx := h.anti y x
    have ayz := h.anti y z
    rcases Int.lt_trichotomy (c y x) 0 with q | q | q <;> rcases Int.lt_trichotomy (c y z) 0 with p | p | p
    · simp only [ins, if_pos q, if_pos p, ih]
    · have e := h.congr (u.left y z p) x
      simp only [ins, if_pos q, if_neg (by omega : ¬ c y z < 0), if_neg (by omega : ¬ 0 < c y z), if_pos (by omega : c (m y z) x < 0)]
    · have : c z x < 0 := h.lt_le (y := y) (by omega) (by omega)
      simp only [ins, if_pos q, if_neg (by omega : ¬ c y z < 0), if_pos p, if_pos this]
    · have e := h.congr (u.left y x q) z
      simp only [ins, if_pos p, if_neg (by omega : ¬ c y x < 0), if_neg (by omega : ¬ 0 < c y x), if_pos (by omega : c (m y x) z < 0)]
    · have e := h.congr (u.left y z p) x
      have e' := h.congr (u.left y x q) z
      simp only [ins, if_neg (by omega : ¬ c y x < 0), if_neg (by omega : ¬ 0 < c y x), if_neg (by omega : ¬ c y z < 0), if_neg (by omega : ¬ 0 < c y z), if_neg (by omega : ¬ c (m y x) z < 0), if_neg (by omega : ¬ 0 < c (m y x) z), if_neg (by omega : ¬ c (m y z) x < 0), if_neg (by omega : ¬ 0 < c (m y z) x), u.swap y x z q p]
    · have e := h.congr (u.left y x q) z
      have : c z x < 0 := h.lt_le (y := y) (by omega) (by omega)
      simp only [ins, if_neg (by omega : ¬ c y x < 0), if_neg (by omega : ¬ 0 < c y x), if_neg (by omega : ¬ c y z < 0), if_pos p, if_neg (by omega : ¬ c (m y x) z < 0), if_pos (by omega : 0 < c (m y x) z), if_pos this]
    · have : c x z < 0 := h.lt_le (y := y) (by omega) (by omega)
      simp only [ins, if_neg (by omega : ¬ c y x < 0), if_pos q, if_pos p, if_pos this]
    · have e := h.congr (u.left y z p) x
      have : c x z < 0 := h.lt_le (y := y) (by omega) (by omega)
      simp only [ins, if_neg (by omega : ¬ c y x < 0), if_pos q, if_neg (by omega : ¬ c y z < 0), if_neg (by omega : ¬ 0 < c y z), if_pos this, if_neg (by omega : ¬ c (m y z) x < 0), if_pos (by omega : 0 < c (m y z) x)]
    · simp only [ins, if_neg (by omega : ¬ c y x < 0), if_pos q, if_neg (by omega : ¬ c y z < 0), if_pos p]
      rcases Int.lt_trichotomy (c x z) 0 with s | s | s
      · simp only [if_pos s, if_neg (by omega : ¬ c z x < 0), if_pos (by omega : 0 < c z x)]
      · simp only [if_neg (by omega : ¬ c x z < 0), if_neg (by omega : ¬ 0 < c x z), if_neg (by omega : ¬ c z x < 0), if_neg (by omega : ¬ 0 < c z x), u.comm x z s]
      · simp only [if_neg (by omega : ¬ c x z < 0), if_pos s, if_pos (by omega : c z x < 0)]
theorem ins_perm (h : Cm c) (u : Un c m) {l l' : List α} (p : l.Perm l') : ∀ acc, l.foldl (ins c m) acc = l'.foldl (ins c m) acc := by
  induction p with
  | nil => intro acc; rfl
  | cons x _ ih => intro acc; exact ih _
  | swap x y l => intro acc; simp only [List.foldl_cons, ins_comm h u acc y x]
  | trans _ _ ih1 ih2 => intro acc; rw [ih1, ih2]
/-- behind the end -/
theorem ins_end : ∀ (l : List α) (x : α), (∀ y ∈ l, c y x < 0) → ins c m l x = l ++ [x]
  | [], _, _ => rfl
  | y :: r, x, h => by
    simp only [ins, if_pos (h y (by simp)), ins_end r x fun z hz => h z (by simp [hz])]
    rfl
theorem ins_last : ∀ (l : List α) (y x : α), (∀ z ∈ l, c z x < 0) → c y x = 0 → ins c m (l ++ [y]) x = l ++ [m y x]
  | [], y, x, _, e => by simp only [List.nil_append, ins, if_neg (by omega : ¬ c y x < 0), if_neg (by omega : ¬ 0 < c y x)]
  | z :: r, y, x, h, e => by
    simp only [List.cons_append, ins, if_pos (h z (by simp)), ins_last r y x (fun z hz => h z (by simp [hz])) e]
/-- those at one place united, of a sorted list: the first is y already -/
def groups (c : α → α → Int) (m : α → α → α) : α → List α → List α
  | y, [] => [y]
  | y, x :: r => if c y x = 0 then groups c m (m y x) r else y :: groups c m x r
def groupsL (c : α → α → Int) (m : α → α → α) : List α → List α
  | [] => []
  | x :: r => groups c m x r
def Sorted (c : α → α → Int) (l : List α) : Prop := l.Pairwise fun x y => c x y ≤ 0
def Strict (c : α → α → Int) (l : List α) : Prop := l.Pairwise fun x y => c x y < 0
theorem groups_fold (h : Cm c) (u : Un c m) : ∀ (s : List α) (acc : List α) (y : α), (∀ z ∈ acc, c z y < 0) → (∀ x ∈ s, c y x ≤ 0) → Sorted c s → s.foldl (ins c m) (acc ++ [y]) = acc ++ groups c m y s
  | [], _, _, _, _, _ => rfl
  | x :: r, acc, y, h1, h2, h3 => by
    have hyx := h2 x (by simp)
    have hax : ∀ z ∈ acc, c z x < 0 := fun z hz => h.lt_le (h1 z hz) hyx
    unfold Sorted at h3
    rw [List.pairwise_cons] at h3
    rw [List.foldl_cons, groups]
    by_cases e : c y x = 0
    · rw [if_pos e, ins_last acc y x hax e]
      have q := u.left y x e
      refine groups_fold h u r acc (m y x) (fun z hz => ?_) (fun z hz => ?_) h3.2
      · have := h.congr_r q z; have := h1 z hz; omega
      · have := h.congr q z; have := h2 z (by simp [hz]); omega
    · rw [if_neg e, ins_end]
      · rw [groups_fold h u r (acc ++ [y]) x]
        · simp
        · intro z hz
          rcases List.mem_append.1 hz with hz | hz
          · exact hax z hz
          · simp at hz; subst hz; omega
        · exact h3.1
        · exact h3.2
      · intro z hz
        rcases List.mem_append.1 hz with hz | hz
        · exact hax z hz
        · simp at hz; subst hz; omega
/-- UNITING A SORTED LIST is inserting, in whatever order -/
theorem groups_ins (h : Cm c) (u : Un c m) {s l : List α} (hs : Sorted c s) (p : s.Perm l) : groupsL c m s = l.foldl (ins c m) [] := by
  rw [← ins_perm h u p []]
  cases s with
  | nil => rfl
  | cons x r =>
    unfold Sorted at hs
    rw [List.pairwise_cons] at hs
    exact (groups_fold h u r [] x (by simp) hs.1 hs.2).symm
theorem ins_mem_c (h : Cm c) (u : Un c m) : ∀ (l : List α) (x y : α), y ∈ ins c m l x → c y x = 0 ∨ y ∈ l
  | [], x, y, hy => by simp [ins] at hy; subst hy; exact .inl (h.self y)
  | z :: r, x, y, hy => by
    unfold ins at hy
    split at hy
    · rcases List.mem_cons.1 hy with e | e
      · subst e; exact .inr (by simp)
      · exact (ins_mem_c h u r x y e).imp id fun k => by simp [k]
    · split at hy
      · rcases List.mem_cons.1 hy with e | e
        · subst e; exact .inl (h.self y)
        · exact .inr e
      · rename_i h1 h2
        have e0 : c z x = 0 := by omega
        rcases List.mem_cons.1 hy with e | e
        · subst e; left; have := h.congr (u.left z x e0) x; omega
        · exact .inr (by simp [e])
theorem ins_strict (h : Cm c) (u : Un c m) : ∀ (l : List α) (x : α), Strict c l → Strict c (ins c m l x)
  | [], x, _ => by simp [ins, Strict]
  | y :: r, x, hs => by
    unfold Strict at hs
    rw [List.pairwise_cons] at hs
    unfold ins
    split
    · rename_i q
      refine List.pairwise_cons.2 ⟨fun z hz => ?_, ins_strict h u r x hs.2⟩
      rcases ins_mem_c h u r x z hz with e | e
      · have := h.congr_r (by have := h.anti z x; omega : c x z = 0) y; omega
      · exact hs.1 z e
    · split
      · rename_i q
        have ay := h.anti y x
        refine List.pairwise_cons.2 ⟨fun z hz => ?_, List.pairwise_cons.2 hs⟩
        rcases List.mem_cons.1 hz with e | e
        · subst e; omega
        · have := hs.1 z e
          exact h.lt_le (y := y) (by omega) (by omega)
      · have e0 : c y x = 0 := by omega
        refine List.pairwise_cons.2 ⟨fun z hz => ?_, hs.2⟩
        have := h.congr (u.left y x e0) z; have := hs.1 z hz; omega
theorem fold_strict (h : Cm c) (u : Un c m) : ∀ (l acc : List α), Strict c acc → Strict c (l.foldl (ins c m) acc)
  | [], _, k => k
  | x :: l, acc, k => fold_strict h u l _ (ins_strict h u acc x k)
/-- what is strictly sorted is not changed by inserting -/
theorem fold_self : ∀ (s acc : List α), (∀ z ∈ acc, ∀ x ∈ s, c z x < 0) → Strict c s → s.foldl (ins c m) acc = acc ++ s
  | [], acc, _, _ => by simp
  | x :: r, acc, h1, h2 => by
    unfold Strict at h2
    rw [List.pairwise_cons] at h2
    rw [List.foldl_cons, ins_end acc x fun z hz => h1 z hz x (by simp), fold_self r (acc ++ [x])]
    · simp
    · intro z hz w hw
      rcases List.mem_append.1 hz with hz | hz
      · exact h1 z hz w (by simp [hw])
      · simp at hz; subst hz; exact h2.1 w hw
    · exact h2.2
end
end Go.Cmp
