/-
  STRINGS AS LISTS OF LETTERS; names: plain functions, and what is true of them. Conditions: none.
-/
import Derived.Test.YtfggmgafjabbjaaDoorTypes
import Derived.Test.YtfggmgafjabbjaaDoorDRange
import Derived.Lib.Bytealg
import Derived.Shelf.Small.Strs
namespace Go.Str
open Go.DL

abbrev Str := List UInt8
def bs (l : Str) : ByteArray := ⟨l.toArray⟩
@[go_sem] theorem bs_mk (l : Str) : (ByteArray.mk l.toArray) = bs l := rfl
@[go_sem] theorem bs_data (l : Str) : (bs l).data.toList = l := by simp [bs]
@[go_sem] theorem bs_size (l : Str) : (bs l).size = l.length := by simp [bs, ByteArray.size]
theorem ba_ext {a b : ByteArray} (h : a.data.toList = b.data.toList) : a = b := by
  cases a; cases b; congr 1; exact Array.ext' h
@[go_sem] theorem bs_extract (l : Str) (i j : Nat) : (bs l).extract i j = bs ((l.take j).drop i) := by
  apply ba_ext
  rw [ByteArray.data_extract]
  simp [bs, List.drop_take]
@[go_sem] theorem bs_append (a b : Str) : bs a ++ bs b = bs (a ++ b) := by
  apply ba_ext
  rw [ByteArray.data_append]
  simp [bs]
theorem bs_of (a : ByteArray) : a = bs a.data.toList := by apply ba_ext; simp [bs]
theorem bs_inj {a b : Str} (h : bs a = bs b) : a = b := by rw [← bs_data a, ← bs_data b, h]
/-- a text, a letter, as plain data -/
def bD (b : UInt8) : List D := [.v (.int .u8 b.toNat)]
def sR (s : Str) : List D := [.v (.string (bs s))]
def str1 : D → Str
  | .v (.string s) => s.data.toList
  | _ => []
def int1 : D → Int
  | .v (.int _ n) => n
  | _ => 0
def bool1 : D → Bool
  | .v (.bool b) => b
  | _ => false
def ofSR : List D → Str
  | [d] => str1 d
  | _ => []
def strs1 : D → List Str
  | .list _ rows => rows.map ofSR
  | _ => []
def bytes1 : D → Str
  | .list _ rows => rows.map Go.DL.byteOf
  | _ => []
@[go_sem] theorem str1_v {s : ByteArray} : str1 (.v (.string s)) = s.data.toList := rfl
@[go_sem] theorem int1_v {k : IntKind} {n : Int} : int1 (.v (.int k n)) = n := rfl
@[go_sem] theorem bool1_v {b : Bool} : bool1 (.v (.bool b)) = b := rfl
theorem map_id_of {α β : Type} {f : α → β} {g : β → α} (h : ∀ x, g (f x) = x) (l : List α) : (l.map f).map g = l := by
  rw [List.map_map]
  exact (List.map_congr_left fun x _ => h x).trans (List.map_id l)
@[go_sem] theorem strs1_map {f : Bool} {l : List Str} : strs1 (.list f (l.map sR)) = l := map_id_of (f := sR) (g := ofSR) (fun x => bs_data x) l
@[go_sem] theorem bytes1_map {f : Bool} {l : Str} : bytes1 (.list f (l.map bD)) = l := map_id_of (f := bD) (g := Go.DL.byteOf) (fun x => by simp [Go.DL.byteOf, bD]) l
@[go_sem] theorem strs1_nil {f : Bool} : strs1 (.list f []) = [] := rfl
@[go_sem] theorem bytes1_nil {f : Bool} : bytes1 (.list f []) = [] := rfl
attribute [go_sem] sR bD
theorem getD_sR {l : List Str} {n : Nat} (h : n < l.length) : (l.map sR).getD n [] = [.v (.string (bs l[n]!))] := by
  simp [List.getD, h, getElem!_pos, sR]
@[go_sem] theorem wkr_sR {l : List Str} : wkr (l.map sR) = l.map sR := by
  induction l with
  | nil => rfl
  | cons x l ih => simp only [List.map_cons, wkr, ih]; rfl
@[go_sem] theorem nrr_sR {l : List Str} : nrr (l.map sR) = true := by
  induction l with
  | nil => rfl
  | cons x l ih => simp only [List.map_cons, nrr, ih]; rfl
@[go_sem] theorem wkr_bD {l : Str} : wkr (l.map bD) = l.map bD := by
  induction l with
  | nil => rfl
  | cons x l ih => simp only [List.map_cons, wkr, ih]; rfl
@[go_sem] theorem nrr_bD {l : Str} : nrr (l.map bD) = true := by
  induction l with
  | nil => rfl
  | cons x l ih => simp only [List.map_cons, nrr, ih]; rfl

/-! ### loops that ask one thing of each place -/
def allN (n : Nat) (p : Nat → Bool) (k : Nat) : Bool := if k < n then p k && allN n p (k + 1) else true
termination_by n - k
theorem allN_eq (n : Nat) (p : Nat → Bool) (k : Nat) : allN n p k = if k < n then p k && allN n p (k + 1) else true := by rw [allN]
theorem allN_iff (n : Nat) (p : Nat → Bool) (k : Nat) : allN n p k = true ↔ ∀ i, k ≤ i → i < n → p i = true := by
  rw [allN_eq]
  split
  · rename_i h
    rw [Bool.and_eq_true, allN_iff n p (k + 1)]
    refine ⟨fun ⟨h1, h2⟩ i hi hn => ?_, fun h1 => ⟨h1 k (Nat.le_refl _) h, fun i hi hn => h1 i (by omega) hn⟩⟩
    by_cases e : i = k
    · subst e; exact h1
    · exact h2 i (by omega) hn
  · rename_i h
    exact ⟨fun _ i hi hn => by omega, fun _ => rfl⟩
termination_by n - k

/-! ### names -/
def alnum (c : UInt8) : Bool := (decide (97 ≤ c.toNat) && decide (c.toNat ≤ 122)) || (decide (48 ≤ c.toNat) && decide (c.toNat ≤ 57))
/-- letter i of a label is as it must be -/
def okAt (l : Str) (i : Nat) : Bool := alnum (l.getD i 0) || (decide ((l.getD i 0).toNat = 45) && decide (0 < i) && decide (i + 1 < l.length))
def labelOk (l : Str) : Bool := allN l.length (okAt l) 0 && decide (1 ≤ l.length) && decide (l.length ≤ 12)
def okIn (l : Str) (i : Nat) : Bool := alnum (l.getD i 0) || decide ((l.getD i 0).toNat = 45)
/-- the same, as the program asks it -/
theorem labelOk_P (l : Str) : labelOk l = if l.length < 1 then false else if 12 < l.length then false else if (l.getD 0 0).toNat = 45 then false else if (l.getD (l.length - 1) 0).toNat = 45 then false else allN l.length (okIn l) 0 := by
  by_cases h1 : l.length < 1
  · rw [if_pos h1]; unfold labelOk; rw [decide_eq_false (by omega : ¬ 1 ≤ l.length)]; simp
  rw [if_neg h1]
  by_cases h2 : 12 < l.length
  · rw [if_pos h2]; unfold labelOk; rw [decide_eq_false (by omega : ¬ l.length ≤ 12)]; simp
  rw [if_neg h2]
  have e : labelOk l = allN l.length (okAt l) 0 := by
    unfold labelOk; rw [decide_eq_true (by omega : 1 ≤ l.length), decide_eq_true (by omega : l.length ≤ 12)]; simp
  rw [e]
  have not45 : ∀ c : UInt8, c.toNat = 45 → alnum c = false := by
    intro c hc; simp [alnum, hc]
  by_cases h3 : (l.getD 0 0).toNat = 45
  · rw [if_pos h3]
    cases h : allN l.length (okAt l) 0 with
    | false => rfl
    | true =>
      have := (allN_iff _ _ _).1 h 0 (Nat.le_refl _) (by omega)
      simp only [okAt, not45 _ h3, Nat.lt_irrefl, decide_false, Bool.and_false, Bool.false_and, Bool.or_false] at this
      exact this.symm
  rw [if_neg h3]
  by_cases h4 : (l.getD (l.length - 1) 0).toNat = 45
  · rw [if_pos h4]
    cases h : allN l.length (okAt l) 0 with
    | false => rfl
    | true =>
      have := (allN_iff _ _ _).1 h (l.length - 1) (Nat.zero_le _) (by omega)
      simp only [okAt, not45 _ h4, Bool.false_or, Bool.and_eq_true, decide_eq_true_eq] at this
      omega
  rw [if_neg h4, Bool.eq_iff_iff, allN_iff, allN_iff]
  refine ⟨fun h i hi hn => ?_, fun h i hi hn => ?_⟩
  · have := h i hi hn
    simp only [okAt, okIn, Bool.or_eq_true, Bool.and_eq_true, decide_eq_true_eq] at this ⊢
    exact this.imp id fun h => h.1.1
  · have := h i hi hn
    simp only [okAt, okIn, Bool.or_eq_true, Bool.and_eq_true, decide_eq_true_eq] at this ⊢
    rcases this with h5 | h5
    · exact .inl h5
    · refine .inr ⟨⟨h5, ?_⟩, ?_⟩
      · rcases Nat.eq_zero_or_pos i with e | e
        · subst e; exact absurd h5 h3
        · exact e
      · rcases Nat.lt_or_ge (i + 1) l.length with e | e
        · exact e
        · have : i = l.length - 1 := by omega
          subst this; exact absurd h5 h4
/-- the parts of a text between its dots -/
def split (l : Str) : List Str := match l with
  | [] => [[]]
  | c :: r => if c = 46 then [] :: split r else match split r with
    | [] => [[c]]
    | p :: ps => (c :: p) :: ps
def splitStep (out : List Str) (c : UInt8) : List Str := if c = 46 then out ++ [[]] else out.set (out.length - 1) (out[out.length - 1]! ++ [c])
theorem splitStep_t {out : List Str} {c : UInt8} (h : (c.toNat : Int) = 46) : splitStep out c = out ++ [[]] := by
  have : c = 46 := by apply UInt8.toNat_inj.1; simpa using Int.ofNat.inj h
  unfold splitStep; rw [if_pos this]
theorem splitStep_f {out : List Str} {c : UInt8} (h : ¬ (c.toNat : Int) = 46) : splitStep out c = out.set (out.length - 1) (out[out.length - 1]! ++ [c]) := by
  unfold splitStep; rw [if_neg]; intro e; subst e; exact h rfl
theorem one_cut {l : Str} {k : Nat} (h : k < l.length) : (l.take (k + 1)).drop k = [l.getD k 0] := by
  rw [List.take_add_one, List.drop_append_of_le_length (by simp; omega), List.drop_eq_nil_of_le (by simp; omega)]
  simp [List.getD, h]
theorem map_setAt {α β : Type} (f : α → β) (l : List α) (i : Nat) (x : α) : (l.map f).set i (f x) = (l.set i x).map f := (List.map_set).symm
def splitFrom (l : Str) (k : Nat) (out : List Str) : List Str := if k < l.length then splitFrom l (k + 1) (splitStep out (l.getD k 0)) else out
termination_by l.length - k
theorem splitFrom_eq (l : Str) (k : Nat) (out : List Str) : splitFrom l k out = if k < l.length then splitFrom l (k + 1) (splitStep out (l.getD k 0)) else out := by rw [splitFrom]
def splitF (l : Str) : List Str := splitFrom l 0 [[]]
/-- the last place of a letter before place k; -1 if there is none -/
def lastFrom (l : Str) (c : Int) : Nat → Int
  | 0 => -1
  | k + 1 => if ((l.getD k 0).toNat : Int) = c then k else lastFrom l c k
theorem lastFrom_step {l : Str} {c : Int} {k : Nat} (h : 0 < k) : lastFrom l c k = if ((l.getD (k - 1) 0).toNat : Int) = c then ((k - 1 : Nat) : Int) else lastFrom l c (k - 1) := by
  obtain ⟨j, rfl⟩ : ∃ j, k = j + 1 := ⟨k - 1, by omega⟩
  rw [lastFrom]; rfl
def lastIx (l : Str) (c : Int) : Int := lastFrom l c l.length
theorem lastFrom_lt (l : Str) (c : Int) : ∀ k, lastFrom l c k < k ∧ -1 ≤ lastFrom l c k
  | 0 => by simp [lastFrom]
  | k + 1 => by
    have := lastFrom_lt l c k
    unfold lastFrom
    split <;> omega
theorem lastIx_lt (l : Str) (c : Int) : lastIx l c < l.length ∧ -1 ≤ lastIx l c := lastFrom_lt l c l.length
theorem splitStep_len {out : List Str} {c : UInt8} {k : Nat} (h : ∀ x ∈ out, x.length ≤ k) : (∀ x ∈ splitStep out c, x.length ≤ k + 1) ∧ (splitStep out c).length ≤ out.length + 1 := by
  unfold splitStep
  split
  · refine ⟨fun x hx => ?_, by simp⟩
    rcases List.mem_append.1 hx with hx | hx
    · exact Nat.le_succ_of_le (h x hx)
    · simp at hx; subst hx; exact Nat.zero_le _
  · refine ⟨fun x hx => ?_, by simp⟩
    rcases List.mem_or_eq_of_mem_set hx with hx | hx
    · exact Nat.le_succ_of_le (h x hx)
    · subst hx
      rw [List.length_append]
      refine Nat.succ_le_succ ?_
      by_cases ho : out.length - 1 < out.length
      · exact h _ (by rw [getElem!_pos out _ ho]; exact List.getElem_mem _)
      · rw [getElem!_neg out _ ho]; exact Nat.zero_le _
theorem splitFrom_len (l : Str) (k : Nat) (out : List Str) (hk : k ≤ l.length) (h : ∀ x ∈ out, x.length ≤ k) : (∀ x ∈ splitFrom l k out, x.length ≤ l.length) ∧ (splitFrom l k out).length ≤ out.length + (l.length - k) := by
  rw [splitFrom_eq]
  split
  · rename_i hlt
    obtain ⟨h1, h2⟩ := splitStep_len (c := l.getD k 0) h
    obtain ⟨h3, h4⟩ := splitFrom_len l (k + 1) _ (by omega) h1
    exact ⟨h3, by omega⟩
  · exact ⟨fun x hx => Nat.le_trans (h x hx) hk, by omega⟩
termination_by l.length - k
theorem splitF_len (l : Str) : (∀ x ∈ splitF l, x.length ≤ l.length) ∧ (splitF l).length ≤ l.length + 1 := by
  obtain ⟨h1, h2⟩ := splitFrom_len l 0 [[]] (Nat.zero_le _) (by simp)
  exact ⟨h1, by unfold splitF; simp only [List.length_cons, List.length_nil] at h2; omega⟩
theorem splitF_at (l : Str) (i : Nat) : (splitF l)[i]!.length ≤ l.length := by
  by_cases h : i < (splitF l).length
  · exact (splitF_len l).1 _ (by rw [getElem!_pos (splitF l) i h]; exact List.getElem_mem _)
  · rw [getElem!_neg (splitF l) i h]; exact Nat.zero_le _
/-- the labels from the last one on -/
def rparts (l : Str) : List Str := l.drop (lastIx l 46 + 1).toNat :: (if _h : lastIx l 46 < 0 then [] else rparts (l.take (lastIx l 46).toNat))
termination_by l.length
decreasing_by
  have := lastFrom_lt l 46 l.length
  unfold lastIx at *
  simp
  omega
theorem rparts_eq (l : Str) : rparts l = l.drop (lastIx l 46 + 1).toNat :: (if lastIx l 46 < 0 then [] else rparts (l.take (lastIx l 46).toNat)) := by
  rw [rparts]; split <;> rfl
def partOk (ps : List Str) (i : Nat) : Bool := labelOk ps[i]! || (decide (i = 0) && ps[i]! == [42])
def nameOk (l : Str) : Bool := if l = [46] then true else if 60 < l.length then false else allN (splitF l).length (partOk (splitF l)) 0 && decide ((splitF l).length ≤ 8)
def partsOf (l : Str) : List Str := if l = [46] then [] else splitF l
/-- what the program asks of the labels -/
def vscan : List Str → Nat → Bool → Bool
  | [], _, _ => true
  | x :: r, n, wild => if wild || decide (8 < n + 1) then false else if !(x == [42]) && !labelOk x then false else vscan r (n + 1) (x == [42])
theorem split_ne (l : Str) : split l ≠ [] := by
  cases l with
  | nil => simp [split]
  | cons c r =>
    unfold split
    split
    · simp
    · split <;> simp
theorem splitStep_cons {x : Str} {xs : List Str} (c : UInt8) (h : xs ≠ []) : splitStep (x :: xs) c = x :: splitStep xs c := by
  unfold splitStep
  split
  · rfl
  · have hl : 0 < xs.length := List.length_pos_iff.2 h
    obtain ⟨n, hn⟩ : ∃ n, xs.length = n + 1 := ⟨xs.length - 1, by omega⟩
    simp [hn]
theorem split_snoc (c : UInt8) : ∀ p : Str, split (p ++ [c]) = splitStep (split p) c
  | [] => by
    by_cases h : c = 46
    · subst h; rfl
    · simp [split, splitStep, h]
  | a :: p => by
    have ih := split_snoc c p
    show split (a :: (p ++ [c])) = _
    rw [split, split.eq_2 a p]
    by_cases h : a = 46
    · rw [if_pos h, if_pos h, ih, splitStep_cons c (split_ne p)]
    · rw [if_neg h, if_neg h, ih]
      cases hq : split p with
      | nil => exact absurd hq (split_ne p)
      | cons q qs =>
        by_cases hc : c = 46
        · simp [splitStep, hc]
        · cases qs with
          | nil => simp [splitStep, hc]
          | cons r rs =>
            rw [splitStep_cons (x := q) (xs := r :: rs) c (by simp), splitStep_cons (x := a :: q) (xs := r :: rs) c (by simp)]
theorem splitFrom_split (l : Str) (k : Nat) (hk : k ≤ l.length) : splitFrom l k (split (l.take k)) = split l := by
  rw [splitFrom_eq]
  split
  · rename_i h
    rw [← split_snoc, ← splitFrom_split l (k + 1) (by omega)]
    congr 2
    rw [List.take_add_one]
    simp [List.getD, h]
  · rw [List.take_of_length_le (by omega)]
termination_by l.length - k
theorem splitF_split (l : Str) : splitF l = split l := splitFrom_split l 0 (Nat.zero_le _)
theorem split_no : ∀ l : Str, (∀ x ∈ l, x ≠ 46) → split l = [l]
  | [], _ => rfl
  | c :: r, h => by
    rw [split, if_neg (h c (by simp)), split_no r (fun x hx => h x (by simp [hx]))]
theorem split_app (b : Str) : ∀ a : Str, split (a ++ 46 :: b) = split a ++ split b
  | [] => by rfl
  | x :: a => by
    show split (x :: (a ++ 46 :: b)) = _
    rw [split, split.eq_2 x a, split_app b a]
    by_cases h : x = 46
    · rw [if_pos h, if_pos h]; rfl
    · rw [if_neg h, if_neg h]
      cases hq : split a with
      | nil => exact absurd hq (split_ne a)
      | cons q qs => rfl
theorem lastFrom_spec (l : Str) (c : Int) : ∀ k, (lastFrom l c k < 0 → ∀ j, j < k → ¬ ((l.getD j 0).toNat : Int) = c) ∧ (0 ≤ lastFrom l c k → ((l.getD (lastFrom l c k).toNat 0).toNat : Int) = c ∧ ∀ j, (lastFrom l c k).toNat < j → j < k → ¬ ((l.getD j 0).toNat : Int) = c)
  | 0 => by simp [lastFrom]
  | k + 1 => by
    obtain ⟨h1, h2⟩ := lastFrom_spec l c k
    unfold lastFrom
    by_cases h : ((l.getD k 0).toNat : Int) = c
    · rw [if_pos h]
      exact ⟨fun h3 => by omega, fun _ => ⟨by simpa using h, fun j h4 h5 => by simp at h4; omega⟩⟩
    · rw [if_neg h]
      refine ⟨fun h3 j hj => ?_, fun h3 => ⟨(h2 h3).1, fun j h4 h5 => ?_⟩⟩
      · by_cases e : j = k
        · subst e; exact h
        · exact h1 h3 j (by omega)
      · by_cases e : j = k
        · subst e; exact h
        · exact (h2 h3).2 j h4 (by omega)
theorem not46 {l : Str} {n : Nat} (h : ∀ j, n ≤ j → j < l.length → ¬ ((l.getD j 0).toNat : Int) = 46) : ∀ x ∈ l.drop n, x ≠ 46 := by
  intro x hx e
  subst e
  obtain ⟨i, hi, he⟩ := List.getElem_of_mem hx
  rw [List.getElem_drop] at he
  have hi' : n + i < l.length := by simp at hi; omega
  refine h (n + i) (by omega) hi' ?_
  have : l.getD (n + i) 0 = 46 := by simp only [List.getD, List.getElem?_eq_getElem hi', Option.getD_some]; exact he
  rw [this]; rfl
theorem rparts_split (l : Str) : rparts l = (split l).reverse := by
  rw [rparts_eq]
  obtain ⟨h1, h2⟩ := lastFrom_spec l 46 l.length
  obtain ⟨h3, h4⟩ := lastIx_lt l 46
  by_cases h : lastIx l 46 < 0
  · rw [if_pos h]
    have e : (lastIx l 46 + 1).toNat = 0 := by omega
    have hs := split_no l (fun x hx => by have := not46 (l := l) (n := 0) (fun j _ hj => h1 h j hj) x; exact this (by simpa using hx))
    rw [e, hs]; rfl
  · rw [if_neg h]
    obtain ⟨h5, h6⟩ := h2 (by unfold lastIx at h; omega)
    generalize hi : (lastIx l 46).toNat = i at *
    have hi' : (lastFrom l 46 l.length).toNat = i := hi
    have e : (lastIx l 46 + 1).toNat = i + 1 := by omega
    have hlt : i < l.length := by omega
    rw [hi'] at h5 h6
    have hl : l = l.take i ++ 46 :: l.drop (i + 1) := by
      have hc : l[i] = 46 := by
        have : l.getD i 0 = l[i] := by simp [List.getD, hlt]
        rw [this] at h5
        apply UInt8.toNat_inj.1; simpa using Int.ofNat.inj h5
      conv => lhs; rw [← List.take_append_drop i l]
      rw [List.drop_eq_getElem_cons hlt, hc]
    have hs := split_no (l.drop (i + 1)) (not46 fun j hj hn => h6 j (by omega) hn)
    have ih := rparts_split (l.take i)
    rw [e, ih]
    conv => rhs; rw [hl]
    rw [split_app, hs]
    simp
termination_by l.length
decreasing_by
  simp; omega
theorem vscan_1 {x : Str} {r : List Str} {n : Nat} {w : Bool} (h : (w || decide (8 < (n : Int) + 1)) = true) : vscan (x :: r) n w = false := by
  unfold vscan
  rw [if_pos]
  rw [← h, decide_eq_decide.2 (by omega : 8 < n + 1 ↔ 8 < (n : Int) + 1)]
theorem cnt_le {n : Nat} {w : Bool} (h : (w || decide (8 < (n : Int) + 1)) = false) : n + 1 ≤ 8 := by
  rw [Bool.or_eq_false_iff, decide_eq_false_iff_not] at h
  omega
theorem vscan_2 {x : Str} {r : List Str} {n : Nat} {w : Bool} (h : (w || decide (8 < (n : Int) + 1)) = false) (k : (!(x == [42]) && !labelOk x) = true) : vscan (x :: r) n w = false := by
  unfold vscan
  rw [if_neg, if_pos k]
  rw [decide_eq_decide.2 (by omega : 8 < n + 1 ↔ 8 < (n : Int) + 1), h]
  simp
theorem vscan_3 {x : Str} {r : List Str} {n : Nat} {w : Bool} (h : (w || decide (8 < (n : Int) + 1)) = false) (k : (!(x == [42]) && !labelOk x) = false) : vscan (x :: r) n w = vscan r (n + 1) (x == [42]) := by
  conv => lhs; unfold vscan
  rw [if_neg, if_neg]
  · rw [k]; simp
  · rw [decide_eq_decide.2 (by omega : 8 < n + 1 ↔ 8 < (n : Int) + 1), h]
    simp
theorem star_no : labelOk [42] = false := by
  unfold labelOk
  rw [allN_eq]
  rfl
theorem vscan_snoc (h : Str) : ∀ (ys : List Str) (n : Nat) (w : Bool), vscan (ys ++ [h]) n w = (!w && ys.all labelOk && (labelOk h || h == [42]) && decide (n + ys.length + 1 ≤ 8))
  | [], n, w => by
    simp only [List.nil_append, vscan, List.all_nil, List.length_nil, Nat.add_zero]
    cases w <;> cases h1 : labelOk h <;> cases h2 : (h == [42]) <;> by_cases h3 : n + 1 ≤ 8 <;> simp [h3, show ¬ 8 < n + 1 ↔ n + 1 ≤ 8 by omega] <;> omega
  | y :: ys, n, w => by
    have ih := vscan_snoc h ys (n + 1) (y == [42])
    simp only [List.cons_append, vscan, List.all_cons, List.length_cons]
    rw [ih]
    have e : n + 1 + ys.length + 1 = n + (ys.length + 1) + 1 := by omega
    rw [e]
    by_cases hs : y = [42]
    · subst hs
      rw [star_no]
      cases w <;> simp
    · have hs' : (y == [42]) = false := by simpa using hs
      rw [hs']
      by_cases h3 : 8 < n + 1
      · have h4 : ¬ n + (ys.length + 1) + 1 ≤ 8 := by omega
        simp [h3, h4]
      · cases w <;> cases labelOk y <;> simp [h3]
theorem allParts (h : Str) (t : List Str) : allN (h :: t).length (partOk (h :: t)) 0 = (t.all labelOk && (labelOk h || h == [42])) := by
  rw [Bool.eq_iff_iff, allN_iff]
  simp only [partOk, Bool.and_eq_true, Bool.or_eq_true, List.all_eq_true, decide_eq_true_eq, beq_iff_eq]
  refine ⟨fun q => ⟨fun x hx => ?_, ?_⟩, fun ⟨q1, q2⟩ i _ hi => ?_⟩
  · obtain ⟨i, hi, rfl⟩ := List.getElem_of_mem hx
    have := q (i + 1) (Nat.zero_le _) (by simp; omega)
    rcases this with h1 | h1
    · simpa [hi] using h1
    · omega
  · have := q 0 (Nat.le_refl _) (by simp)
    simpa using this
  · cases i with
    | zero => simpa using q2
    | succ i =>
      have hi' : i < t.length := by simpa using hi
      exact .inl (by simpa [hi'] using q1 t[i] (List.getElem_mem hi'))
theorem nameOk_scan (l : Str) : nameOk l = if l = [46] then true else if 60 < l.length then false else vscan (rparts l) 0 false := by
  unfold nameOk
  rw [rparts_split, ← splitF_split]
  cases hq : splitF l with
  | nil => exact absurd (by rw [← splitF_split]; exact hq) (split_ne l)
  | cons h t =>
    rw [allParts, List.reverse_cons, vscan_snoc]
    simp
theorem partOk_f {ps : List Str} {k : Nat} (h1 : labelOk ps[k]! = false) (h2 : 0 < k ∨ ¬ ps[k]! = [42]) : partOk ps k = false := by
  unfold partOk
  rw [h1, Bool.false_or, Bool.and_eq_false_iff, decide_eq_false_iff_not, beq_eq_false_iff_ne]
  rcases h2 with h | h
  · exact .inl (by omega)
  · exact .inr h
theorem partOk_t {ps : List Str} {k : Nat} (h : labelOk ps[k]! = true ∨ (¬ 0 < k ∧ ps[k]! = [42])) : partOk ps k = true := by
  unfold partOk
  rw [Bool.or_eq_true, Bool.and_eq_true, decide_eq_true_eq, beq_iff_eq]
  rcases h with h | ⟨h1, h2⟩
  · exact .inl h
  · exact .inr ⟨by omega, h2⟩

/-! ### the order of names -/
def rlabs (l : Str) : List Str := if l = [46] then [] else rparts l
/-- what a puller has still to give -/
def pl (more : Bool) (rest : Str) : List Str := if more then rparts rest else []
/-- what it gives next, and keeps -/
def plGive (more : Bool) (rest : Str) : Str := if more then rest.drop (lastIx rest 46 + 1).toNat else []
def plMore (more : Bool) (rest : Str) : Bool := more && decide (0 ≤ lastIx rest 46)
def plRest (more : Bool) (rest : Str) : Str := if plMore more rest then rest.take (lastIx rest 46).toNat else rest
theorem pl_next {rest : Str} : pl true rest = plGive true rest :: pl (plMore true rest) (plRest true rest) := by
  unfold pl plGive plMore plRest plMore
  rw [if_pos rfl, if_pos rfl, rparts_eq]
  by_cases h : lastIx rest 46 < 0
  · have : ¬ 0 ≤ lastIx rest 46 := by omega
    simp [h, this]
  · have : 0 ≤ lastIx rest 46 := by omega
    simp [h, this]
theorem plRest_len (more : Bool) (rest : Str) : (plRest more rest).length ≤ rest.length := by
  unfold plRest
  split
  · simp; omega
  · exact Nat.le_refl _
/-- the program's comparing of labels -/
def cmpLp : List Str → List Str → Int
  | [], _ => -1
  | _ :: _, [] => 1
  | x :: xs, y :: ys => if Go.Lib.compareBytes x y != 0 then Go.Lib.compareBytes x y else cmpLp xs ys
def nmCmp (a b : Str) : Int := if a = b then 0 else cmpLp (rlabs a) (rlabs b)
theorem nameOk_len {l : Str} (h : nameOk l = true) : l.length ≤ 60 := by
  unfold nameOk at h
  split at h
  · rename_i e; subst e; decide
  · split at h
    · cases h
    · omega
theorem rlabs_pl (l : Str) : rlabs l = pl (l != [46]) l := by
  unfold rlabs pl
  by_cases h : l = [46]
  · subst h; rfl
  · have : (l != [46]) = true := by simpa using h
    rw [if_neg h, this]; rfl
theorem cmp_1 {more : Bool} {rest r2 : Str} (h : (!more) = true) : cmpLp (rparts rest) (pl more r2) = 1 := by
  cases more with
  | true => cases h
  | false => rw [rparts_eq]; rfl
theorem cmp_2 {more : Bool} {rest r2 : Str} (h : (!more) = false) (k : (Go.Lib.compareBytes (rest.drop (lastIx rest 46 + 1).toNat) (plGive more r2) != 0) = true) : cmpLp (rparts rest) (pl more r2) = Go.Lib.compareBytes (rest.drop (lastIx rest 46 + 1).toNat) (plGive more r2) := by
  cases more with
  | false => cases h
  | true => rw [rparts_eq, pl_next, cmpLp, if_pos k]
theorem cmp_3 {more : Bool} {rest r2 : Str} (h : (!more) = false) (k : (Go.Lib.compareBytes (rest.drop (lastIx rest 46 + 1).toNat) (plGive more r2) != 0) = false) : cmpLp (rparts rest) (pl more r2) = cmpLp (if lastIx rest 46 < 0 then [] else rparts (rest.take (lastIx rest 46).toNat)) (pl (plMore more r2) (plRest more r2)) := by
  cases more with
  | false => cases h
  | true => rw [rparts_eq, pl_next, cmpLp, if_neg (by rw [k]; simp)]
/-- and the answer's -/
def ordL : List Str → List Str → Int
  | [], [] => 0
  | [], _ :: _ => -1
  | _ :: _, [] => 1
  | x :: xs, y :: ys => if Go.Op.bytesLess x y then -1 else if !(Go.Op.bytesLess x y || x == y) then 1 else ordL xs ys
def nmOrd (a b : Str) : Int := ordL (rlabs a) (rlabs b)
def ordIx (l m : List Str) (i : Nat) : Int := if i ≤ l.length ∧ i ≤ m.length then (if Go.Op.bytesLess l[l.length - i]! m[m.length - i]! then -1 else if !(Go.Op.bytesLess l[l.length - i]! m[m.length - i]! || l[l.length - i]! == m[m.length - i]!) then 1 else ordIx l m (i + 1)) else if l.length < m.length then -1 else if m.length < l.length then 1 else 0
termination_by l.length + 1 - i
theorem ordIx_eq (l m : List Str) (i : Nat) : ordIx l m i = if i ≤ l.length ∧ i ≤ m.length then (if Go.Op.bytesLess l[l.length - i]! m[m.length - i]! then -1 else if !(Go.Op.bytesLess l[l.length - i]! m[m.length - i]! || l[l.length - i]! == m[m.length - i]!) then 1 else ordIx l m (i + 1)) else if l.length < m.length then -1 else if m.length < l.length then 1 else 0 := by rw [ordIx]
theorem rev_drop {l : List Str} {k : Nat} (h : k < l.length) : l.reverse.drop k = l[l.length - (k + 1)]! :: l.reverse.drop (k + 1) := by
  rw [List.drop_eq_getElem_cons (by simpa using h), List.getElem_reverse]
  congr 1
  have h2 : l.length - 1 - k < l.length := by omega
  have e : l.length - (k + 1) = l.length - 1 - k := by omega
  rw [e, getElem!_pos l _ h2]
theorem ordIx_L (l m : List Str) (k : Nat) (h1 : k ≤ l.length) (h2 : k ≤ m.length) : ordIx l m (k + 1) = ordL (l.reverse.drop k) (m.reverse.drop k) := by
  rw [ordIx_eq]
  by_cases h : k + 1 ≤ l.length ∧ k + 1 ≤ m.length
  · rw [if_pos h, rev_drop (by omega : k < l.length), rev_drop (by omega : k < m.length), ordL, ordIx_L l m (k + 1) h.1 h.2]
  · rw [if_neg h]
    by_cases e1 : k = l.length
    · rw [List.drop_eq_nil_of_le (by simp; omega)]
      by_cases e2 : k = m.length
      · rw [List.drop_eq_nil_of_le (by simp; omega), if_neg (by omega), if_neg (by omega)]; rfl
      · rw [rev_drop (by omega : k < m.length), if_pos (by omega)]; rfl
    · have e2 : k = m.length := by omega
      have hm : m.reverse.drop k = [] := List.drop_eq_nil_of_le (by simp; omega)
      rw [hm, rev_drop (by omega : k < l.length), if_neg (by omega), if_pos (by omega)]; rfl
termination_by l.length - k
theorem partsOf_rev (l : Str) : (partsOf l).reverse = rlabs l := by
  unfold partsOf rlabs
  split
  · rfl
  · rw [rparts_split, splitF_split]
theorem nmOrd_ix (a b : Str) : nmOrd a b = ordIx (partsOf a) (partsOf b) 1 := by
  rw [ordIx_L _ _ 0 (Nat.zero_le _) (Nat.zero_le _), List.drop_zero, List.drop_zero, partsOf_rev, partsOf_rev]; rfl
theorem bytesLess_irrefl : ∀ a : Str, Go.Op.bytesLess a a = false
  | [] => rfl
  | c :: r => by simp [Go.Op.bytesLess, bytesLess_irrefl r]
theorem cmpB_eq : ∀ a b : Str, Go.Lib.compareBytes a b = if Go.Op.bytesLess a b then -1 else if a == b then 0 else 1
  | [], [] => rfl
  | [], _ :: _ => rfl
  | _ :: _, [] => by simp [Go.Lib.compareBytes, Go.Op.bytesLess]
  | x :: a, y :: b => by
    unfold Go.Lib.compareBytes Go.Op.bytesLess
    by_cases h1 : x < y
    · simp [h1]
    · by_cases h2 : y < x
      · have h3 : ¬ x = y := fun e => by subst e; exact h1 h2
        simp [h1, h2, h3]
      · have h3 : x = y := by
          apply UInt8.toNat_inj.1
          have h4 : ¬ x.toNat < y.toNat := h1
          have h5 : ¬ y.toNat < x.toNat := h2
          omega
        subst h3
        simp [h1, cmpB_eq a b]
theorem cmpL_ord : ∀ xs ys : List Str, xs ≠ ys → cmpLp xs ys = ordL xs ys
  | [], [], h => absurd rfl h
  | [], _ :: _, _ => rfl
  | _ :: _, [], _ => rfl
  | x :: xs, y :: ys, h => by
    unfold cmpLp ordL
    rw [cmpB_eq]
    by_cases h1 : Go.Op.bytesLess x y = true
    · simp [h1]
    · by_cases h2 : x = y
      · subst h2
        simp [bytesLess_irrefl]
        exact cmpL_ord xs ys fun e => h (by rw [e])
      · have h3 : (x == y) = false := by simpa using h2
        simp [h1, h3]
theorem ordL_self : ∀ xs : List Str, ordL xs xs = 0
  | [] => rfl
  | x :: xs => by simp [ordL, bytesLess_irrefl, ordL_self xs]
def joinD : List Str → Str
  | [] => []
  | [p] => p
  | p :: q :: r => p ++ 46 :: joinD (q :: r)
theorem join_split : ∀ l : Str, joinD (split l) = l
  | [] => rfl
  | c :: r => by
    have ih := join_split r
    unfold split
    by_cases h : c = 46
    · rw [if_pos h]
      cases hs : split r with
      | nil => exact absurd hs (split_ne r)
      | cons q qs => rw [hs] at ih; rw [joinD, ih, h]; rfl
    · rw [if_neg h]
      cases hs : split r with
      | nil => exact absurd hs (split_ne r)
      | cons q qs =>
        rw [hs] at ih
        cases qs with
        | nil => simp only [joinD] at ih ⊢; rw [ih]
        | cons q2 qs2 => simp only [joinD] at ih ⊢; rw [← ih]; rfl
theorem rlabs_inj {a b : Str} (h : rlabs a = rlabs b) : a = b := by
  unfold rlabs at h
  have ne : ∀ l : Str, rparts l ≠ [] := fun l e => by rw [rparts_eq] at e; cases e
  by_cases ha : a = [46] <;> by_cases hb : b = [46]
  · rw [ha, hb]
  · rw [if_pos ha, if_neg hb] at h; exact absurd h.symm (ne b)
  · rw [if_neg ha, if_pos hb] at h; exact absurd h (ne a)
  · rw [if_neg ha, if_neg hb, rparts_split, rparts_split] at h
    rw [← join_split a, ← join_split b, List.reverse_inj.1 h]
theorem nmCmp_ord (a b : Str) : nmCmp a b = nmOrd a b := by
  unfold nmCmp nmOrd
  by_cases h : a = b
  · subst h; rw [if_pos rfl, ordL_self]
  · rw [if_neg h, cmpL_ord _ _ fun e => h (rlabs_inj e)]
theorem partsOf_len (l : Str) : (∀ x ∈ partsOf l, x.length ≤ l.length) ∧ (partsOf l).length ≤ l.length + 1 := by
  unfold partsOf
  split
  · exact ⟨by simp, Nat.zero_le _⟩
  · exact splitF_len l
end Go.Str
