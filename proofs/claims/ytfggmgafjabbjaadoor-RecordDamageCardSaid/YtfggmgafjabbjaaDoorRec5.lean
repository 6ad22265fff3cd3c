/-
  SETS OF DATA, 5: what the contracts say: plain functions. Conditions: none.
-/
import Derived.Test.YtfggmgafjabbjaaDoorRec4
namespace Go.Rec
open Go.DL Go.Str Go.Cmp

def cmpF (a b : RSet) : Int × Int := if setOk a && setOk b then (plc a b, 0) else (0, 1)
def sameB (a b : RSet) : Bool := decide (a = b)
def sameSetsB (a b : List RSet) : Bool := decide (a = b)
def sameStr (a b : Str) : Bool := decide (a = b)
def fewAt (l : List RSet) (i : Nat) : Bool := decide (l[i]!.data.length ≤ 20) && decide (l[i]!.name.length ≤ 200)
def fewB (l : List RSet) : Bool := decide (l.length ≤ 50) && allN l.length (fewAt l) 0
theorem getD_iR {l : List Int} {n : Nat} (h : n < l.length) : (l.map iR).getD n [] = [.i l[n]!] := by
  simp [List.getD, h, getElem!_pos, iR]
theorem getD_dat {l : List Dat} {n : Nat} (h : n < l.length) : (l.map Dat.d).getD n [] = l[n]!.d := by
  simp [List.getD, h, getElem!_pos]
theorem getD_set {l : List RSet} {n : Nat} (h : n < l.length) : (l.map RSet.d).getD n [] = l[n]!.d := by
  simp [List.getD, h, getElem!_pos]
@[go_sem] theorem nrr_iR {l : List Int} : nrr (l.map iR) = true := by
  induction l with
  | nil => rfl
  | cons x l ih => simp only [List.map_cons, nrr, ih]; rfl
@[go_sem] theorem nrr_dat {l : List Dat} : nrr (l.map Dat.d) = true := by
  induction l with
  | nil => rfl
  | cons x l ih => simp only [List.map_cons, nrr, ih]; rfl
@[go_sem] theorem wkr_dat {l : List Dat} : wkr (l.map Dat.d) = l.map Dat.d := by
  induction l with
  | nil => rfl
  | cons x l ih => simp only [List.map_cons, wkr, ih]; rfl
@[go_sem] theorem nrr_set {l : List RSet} : nrr (l.map RSet.d) = true := by
  induction l with
  | nil => rfl
  | cons x l ih => simp only [List.map_cons, nrr, ih, RSet.d, nrs, D.nr, nrr_dat]; rfl
@[go_sem] theorem wkr_set {l : List RSet} : wkr (l.map RSet.d) = l.map RSet.d := by
  induction l with
  | nil => rfl
  | cons x l ih => simp only [List.map_cons, wkr, ih, RSet.d, wk, wks, wkr_dat]
theorem set_rest {s : RSet} (c1 : (nameOk s.name = true ∧ inR s.ty 1 8 = true) ∧ inR s.life 0 100000 = true) (c2 : inR s.data.length 1 8 = true) (c3 : ((ruleAt s.ty.toNat).single = false ∨ (s.data.length : Int) = 1) ∧ (wildB s.name = false ∨ (ruleAt s.ty.toNat).wild = true)) : setOk s = allN s.data.length (datAt s.ty.toNat s.data) 0 := by
  obtain ⟨h1, h2⟩ := c3
  unfold setOk
  rw [c2, c1.1.1, c1.1.2, c1.2]
  rcases h1 with h1 | h1 <;> rcases h2 with h2 | h2 <;> simp [h1, h2]
theorem dat_yes {l : List Dat} {t k : Nat} (h : datOk (ruleAt t) l[k]! = true ∧ (¬ (0 : Int) < k ∨ ¬ 0 ≤ datC l[k - 1]! l[k]!)) : datAt t l k = true := by
  unfold datAt
  rw [Bool.and_eq_true, Bool.or_eq_true, decide_eq_true_eq, decide_eq_true_eq]
  exact ⟨h.1, h.2.imp (fun q => by omega) fun q => by omega⟩
theorem dat_no {l : List Dat} {t k : Nat} (h : datOk (ruleAt t) l[k]! = false ∨ ((0 : Int) < k ∧ 0 ≤ datC l[k - 1]! l[k]!)) : datAt t l k = false := by
  unfold datAt
  rw [Bool.and_eq_false_iff, Bool.or_eq_false_iff, decide_eq_false_iff_not, decide_eq_false_iff_not]
  exact h.imp id fun q => ⟨by omega, by omega⟩
theorem wild4 {k : Int} (w : Bool) (h : inR k 1 8 = true) : (((w && (k != 1)) && (k != 5)) && (k != 8)) = (w && !(ruleAt k.toNat).wild) := by
  rw [← wild_r h, Bool.and_assoc, Bool.and_assoc, Bool.and_assoc]
theorem set_rest_r {s : RSet} (c1 : (((nameOk s.name = true ∧ inR s.ty 1 8 = true) ∧ inR s.life 0 100000 = true) ∧ inR s.data.length 1 8 = true) ∧ (singleB s.ty = false ∨ ¬ (1 : Int) < s.data.length)) (c2 : wildB s.name = false ∨ (ruleAt s.ty.toNat).wild = true) : setOk s = allN s.data.length (datAt s.ty.toNat s.data) 0 := by
  obtain ⟨⟨⟨⟨h1, h2⟩, h3⟩, h4⟩, h5⟩ := c1
  refine set_rest ⟨⟨h1, h2⟩, h3⟩ h4 ⟨?_, c2⟩
  rw [single_r h2] at h5
  have := inR_iff.1 h4
  exact h5.imp id fun q => by omega
theorem set_no_r {s : RSet} (c1 : (((nameOk s.name = false ∨ inR s.ty 1 8 = false) ∨ inR s.life 0 100000 = false) ∨ inR s.data.length 1 8 = false) ∨ (singleB s.ty = true ∧ (1 : Int) < s.data.length)) : setOk s = false := by
  cases q : setOk s with
  | false => rfl
  | true =>
    have h := (setOk_iff s).1 q
    rcases c1 with (((c1 | c1) | c1) | c1) | ⟨c1, c2⟩
    · rw [h.name] at c1; cases c1
    · rw [h.ty] at c1; cases c1
    · rw [h.life] at c1; cases c1
    · have := inR_iff.2 (show (1 : Int) ≤ s.data.length ∧ (s.data.length : Int) ≤ 8 by have := h.len; omega)
      rw [this] at c1; cases c1
    · rw [single_r h.ty] at c1
      have := h.single c1
      omega
theorem set_no_w {s : RSet} (c : wildB s.name = true ∧ (ruleAt s.ty.toNat).wild = false) : setOk s = false := by
  cases q : setOk s with
  | false => rfl
  | true =>
    have h := ((setOk_iff s).1 q).wild c.1
    rw [c.2] at h; cases h
theorem dat_yes_r {l : List Dat} {t : Int} {k : Nat} (ht : inR t 1 8 = true) (h : rDatOk t l[k]! = true ∧ (¬ (0 : Int) < k ∨ less l[k - 1]! l[k]! = true)) : datAt t.toNat l k = true := by
  rw [datOk_r ht, less_iff] at h
  exact dat_yes ⟨h.1, h.2.imp id fun q => by have := of_decide_eq_true q; omega⟩
theorem dat_no_r {l : List Dat} {t : Int} {k : Nat} (ht : inR t 1 8 = true) (h : rDatOk t l[k]! = false ∨ ((0 : Int) < k ∧ less l[k - 1]! l[k]! = false)) : datAt t.toNat l k = false := by
  rw [datOk_r ht, less_iff] at h
  exact dat_no (h.imp id fun q => ⟨q.1, by have := of_decide_eq_false q.2; omega⟩)
theorem cmpF_yes {a b : RSet} (h : setOk a = true ∧ setOk b = true) : cmpF a b = (plC a b, 0) := by
  rw [plC_c ((setOk_iff a).1 h.1).name ((setOk_iff b).1 h.2).name]
  unfold cmpF; rw [h.1, h.2]; rfl
theorem cmpF_yes_r {a b : RSet} (h : setOk a = true ∧ setOk b = true) : cmpF a b = (rOrd a b, 0) := by
  rw [rOrd_c ((setOk_iff a).1 h.1).name ((setOk_iff b).1 h.2).name]
  unfold cmpF; rw [h.1, h.2]; rfl
theorem cmpF_no {a b : RSet} (h : setOk a = false ∨ setOk b = false) : cmpF a b = (0, 1) := by
  unfold cmpF
  rcases h with h | h <;> simp [h]
theorem sameB_yes {a b : RSet} (h1 : ((a.name = b.name ∧ a.ty = b.ty) ∧ a.life = b.life) ∧ (a.data.length : Int) = b.data.length) (h2 : ∀ i, i < a.data.length → a.data[i]! = b.data[i]!) : sameB a b = true := by
  unfold sameB
  rw [decide_eq_true_eq]
  obtain ⟨an, at', al, ad⟩ := a
  obtain ⟨bn, bt, bl, bd⟩ := b
  simp only at h1 h2
  obtain ⟨⟨⟨rfl, rfl⟩, rfl⟩, h3⟩ := h1
  congr 1
  refine List.ext_getElem (by omega) fun i hi hj => ?_
  have := h2 i hi
  rwa [getElem!_pos ad i hi, getElem!_pos bd i hj] at this
theorem sameB_no {a b : RSet} (h : ((a.name ≠ b.name ∨ a.ty ≠ b.ty) ∨ a.life ≠ b.life) ∨ (a.data.length : Int) ≠ b.data.length) : sameB a b = false := by
  unfold sameB
  rw [decide_eq_false_iff_not]
  rintro rfl
  simp at h
theorem sameB_at {a b : RSet} {k : Nat} (h : a.data[k]! ≠ b.data[k]!) : sameB a b = false := by
  unfold sameB
  rw [decide_eq_false_iff_not]
  rintro rfl
  exact h rfl
theorem sameSets_yes {a b : List RSet} (h1 : (a.length : Int) = b.length) (h2 : ∀ i, i < a.length → a[i]! = b[i]!) : sameSetsB a b = true := by
  unfold sameSetsB
  rw [decide_eq_true_eq]
  refine List.ext_getElem (by omega) fun i hi hj => ?_
  have := h2 i hi
  rwa [getElem!_pos a i hi, getElem!_pos b i hj] at this
theorem sameSets_no {a b : List RSet} (h : (a.length : Int) ≠ b.length) : sameSetsB a b = false := by
  unfold sameSetsB
  rw [decide_eq_false_iff_not]
  rintro rfl
  exact h rfl
theorem sameSets_at {a b : List RSet} {k : Nat} (h : sameB a[k]! b[k]! = false) : sameSetsB a b = false := by
  unfold sameSetsB
  rw [decide_eq_false_iff_not]
  rintro rfl
  simp [sameB] at h
theorem sameB_iff {a b : RSet} : sameB a b = true ↔ a = b := decide_eq_true_iff
theorem dat_same {x y : Dat} (h : (!(x.t == y.t && (x.n == y.n && x.m == y.m))) = false) : x = y := by
  obtain ⟨a, b, c⟩ := x
  obtain ⟨d, e, f⟩ := y
  simp at h
  simp [h]
theorem dat_diff {x y : Dat} (h : (!(x.t == y.t && (x.n == y.n && x.m == y.m))) = true) : x ≠ y := by
  rintro rfl
  simp at h
@[go_sem] theorem rowsOf_str {t : Str} {h : H} : rowsOf (.v (.string (bs t))) h = t.map bD := by
  simp only [rowsOf, bs_data]; rfl
@[go_sem] theorem wrap8_len (n : Nat) : IntKind.u8.wrap (n : Int) = ((lenB n).toNat : Int) := by
  rw [IntKind.wrap_u8]
  simp [lenB]
theorem rows_text (b t : Str) : b.map bD ++ ([[.v (.int .u8 ((lenB t.length).toNat : Int))]] ++ t.map bD) = (b ++ textB t).map bD := by
  simp [textB, bD]
theorem rule_even (k : Nat) : (ruleAt k).even = true → 0 ≤ (ruleAt k).n0 := by
  unfold ruleAt
  split <;> simp
end Go.Rec
