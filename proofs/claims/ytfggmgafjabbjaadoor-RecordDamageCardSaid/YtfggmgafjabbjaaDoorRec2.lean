/-
  SETS OF DATA, 2: valid sets, their order: plain functions, and what is true of them. Conditions: none.
-/
import Derived.Test.YtfggmgafjabbjaaDoorRec
import Derived.Test.YtfggmgafjabbjaaDoorCmp
set_option linter.unusedVariables false
set_option linter.unusedSimpArgs false
set_option linter.unusedSectionVars false
namespace Go.Rec
open Go.DL Go.Str Go.Cmp

/-! ### valid data, valid sets -/
def ruleAt (k : Nat) : Rule := match k with
  | 1 => ⟨0, 1, 1000000, 0, 0, false, false, true⟩
  | 2 => ⟨1, 0, 0, 0, 0, false, false, false⟩
  | 3 => ⟨1, 0, 0, 0, 0, false, true, false⟩
  | 4 => ⟨0, 0, 65535, 0, 100000, false, true, false⟩
  | 5 => ⟨3, 0, 0, 0, 0, false, false, true⟩
  | 6 => ⟨0, 1, 1000000, 1, 3, false, false, false⟩
  | 7 => ⟨0, 1, 1000000, 1, 3, false, false, false⟩
  | 8 => ⟨2, 2, 510, 0, 0, true, false, true⟩
  | _ => ⟨0, 0, 0, 0, 0, false, false, false⟩
def textOk (k : Int) (t : Str) : Bool := if k = 1 then nameOk t && !wildB t else if k = 2 then nameOk t else if k = 3 then freeB t else t == []
def datOk (r : Rule) (d : Dat) : Bool := inR d.n r.n0 r.n1 && inR d.m r.m0 r.m1 && !(r.even && d.n % 2 != 0) && textOk r.text d.t
/-- the answer's words for it -/
def rDatOk (k : Int) (d : Dat) : Bool :=
  if k = 1 then d.t == [] && inR d.n 1 1000000 && d.m == 0
  else if k = 2 ∨ k = 3 then nameOk d.t && !wildB d.t && d.n == 0 && d.m == 0
  else if k = 4 then d.t == [] && inR d.n 0 65535 && inR d.m 0 100000
  else if k = 5 then freeB d.t && d.n == 0 && d.m == 0
  else if k = 6 ∨ k = 7 then d.t == [] && inR d.n 1 1000000 && inR d.m 1 3
  else if k = 8 then nameOk d.t && inR d.n 2 510 && d.n % 2 == 0 && d.m == 0
  else false
theorem inR_self (n : Int) : inR n 0 0 = (n == 0) := by
  unfold inR
  rw [Bool.eq_iff_iff, Bool.and_eq_true, decide_eq_true_eq, decide_eq_true_eq, beq_iff_eq]
  omega
theorem inR_iff {n a b : Int} : inR n a b = true ↔ a ≤ n ∧ n ≤ b := by
  unfold inR
  rw [Bool.and_eq_true, decide_eq_true_eq, decide_eq_true_eq]
theorem kinds {k : Int} (h : inR k 1 8 = true) : k = 1 ∨ k = 2 ∨ k = 3 ∨ k = 4 ∨ k = 5 ∨ k = 6 ∨ k = 7 ∨ k = 8 := by
  have := inR_iff.1 h
  omega
theorem datOk_r {k : Int} (h : inR k 1 8 = true) (d : Dat) : rDatOk k d = datOk (ruleAt k.toNat) d := by
  rw [Bool.eq_iff_iff]
  rcases kinds h with h | h | h | h | h | h | h | h <;> subst h <;> simp [rDatOk, datOk, ruleAt, textOk, inR_self] <;> constructor <;> intro q <;> simp_all
def singleB (k : Int) : Bool := decide (k = 3) || decide (k = 4)
theorem single_r {k : Int} (h : inR k 1 8 = true) : singleB k = (ruleAt k.toNat).single := by
  rcases kinds h with h | h | h | h | h | h | h | h <;> subst h <;> rfl
theorem wild_r {k : Int} (h : inR k 1 8 = true) : (k != 1 && k != 5 && k != 8) = !(ruleAt k.toNat).wild := by
  rcases kinds h with h | h | h | h | h | h | h | h <;> subst h <;> rfl
/-- comparing data -/
def datC (a b : Dat) : Int := thenC (Go.Lib.compareBytes a.t b.t) (thenC (Go.Cmp.cmpI a.n b.n) (Go.Cmp.cmpI a.m b.m))
theorem cm_dat : Cm datC := cm_then (cm_on cm_bytes Dat.t) (cm_then (cm_on cm_int Dat.n) (cm_on cm_int Dat.m))
theorem datC_eq {a b : Dat} (h : datC a b = 0) : a = b := by
  unfold datC at h
  rw [thenC_eq] at h
  split at h
  · rename_i h1
    rw [thenC_eq] at h
    split at h
    · rename_i h2
      have e1 := bytes_eq h1
      have e2 := cmpI_eq.1 h2
      have e3 := cmpI_eq.1 h
      cases a; cases b; simp only at e1 e2 e3; subst e1; subst e2; subst e3; rfl
    · exact absurd h ‹_›
  · exact absurd h ‹_›
theorem less_iff (a b : Dat) : less a b = decide (datC a b < 0) := by
  unfold less datC ltS
  rw [thenC_eq, thenC_eq, cmpB_eq]
  by_cases h1 : a.t = b.t
  · rw [h1]
    simp [bytesLess_irrefl]
    by_cases h2 : a.n = b.n
    · rw [h2]; simp [Go.Cmp.cmpI]
      by_cases h3 : a.m < b.m
      · simp [h3]
      · simp [h3]; split <;> omega
    · simp [h2, Go.Cmp.cmpI]
      by_cases h3 : a.n < b.n
      · simp [h3]
      · have : b.n < a.n := by omega
        simp [h3, this]
  · have h2 : (a.t == b.t) = false := by simpa using h1
    simp [h1, h2]
    cases h3 : Go.Op.bytesLess a.t b.t <;> simp
theorem cmpS_bytes (a b : Str) : cmpS a b = Go.Lib.compareBytes a b := by
  rw [cmpB_eq]
  unfold cmpS ltS
  by_cases h : Go.Op.bytesLess a b = true
  · simp [h]
  · cases h2 : (a == b) <;> simp [h]
theorem orFrom3 (a b c : Int) : orFrom [a, b, c] 0 = if a != 0 then a else if b != 0 then b else if c != 0 then c else 0 := by
  rw [orFrom_eq, orFrom_eq _ (0 + 1), orFrom_eq _ (0 + 1 + 1), orFrom_eq _ (0 + 1 + 1 + 1)]
  simp
theorem orFrom_dat (a b : Dat) : orFrom [cmpS a.t b.t, cmpI a.n b.n, cmpI a.m b.m] 0 = datC a b := by
  rw [orFrom3, cmpS_bytes]
  unfold datC thenC
  show (if _ then _ else if _ then _ else if Go.Cmp.cmpI a.m b.m != 0 then Go.Cmp.cmpI a.m b.m else 0) = _
  by_cases h : Go.Cmp.cmpI a.m b.m = 0
  · simp [h]; rfl
  · simp [h]; rfl
def datAt (k : Nat) (l : List Dat) (i : Nat) : Bool := datOk (ruleAt k) l[i]! && (decide (i = 0) || decide (datC l[i - 1]! l[i]! < 0))
def setOk (s : RSet) : Bool := nameOk s.name && inR s.ty 1 8 && inR s.life 0 100000 && inR s.data.length 1 8 && !((ruleAt s.ty.toNat).single && (s.data.length : Int) != 1) && !(wildB s.name && !(ruleAt s.ty.toNat).wild) && allN s.data.length (datAt s.ty.toNat s.data) 0
structure SetOk (s : RSet) : Prop where
  name : nameOk s.name = true
  ty : inR s.ty 1 8 = true
  life : inR s.life 0 100000 = true
  len : 1 ≤ s.data.length ∧ s.data.length ≤ 8
  single : (ruleAt s.ty.toNat).single = true → s.data.length = 1
  wild : wildB s.name = true → (ruleAt s.ty.toNat).wild = true
  dat : ∀ d ∈ s.data, datOk (ruleAt s.ty.toNat) d = true
  sorted : Strict datC s.data
theorem strict_of_at {l : List Dat} (h : ∀ i, 0 < i → i < l.length → datC l[i - 1]! l[i]! < 0) : Strict datC l := by
  induction l with
  | nil => exact .nil
  | cons x r ih =>
    have ih := ih fun i h1 h2 => by
      have := h (i + 1) (by omega) (by simp; omega)
      obtain ⟨j, rfl⟩ : ∃ j, i = j + 1 := ⟨i - 1, by omega⟩
      simpa using this
    refine List.pairwise_cons.2 ⟨fun y hy => ?_, ih⟩
    cases r with
    | nil => cases hy
    | cons z r =>
      have hxz : datC x z < 0 := by simpa using h 1 (by omega) (by simp)
      rcases List.mem_cons.1 hy with e | e
      · subst e; exact hxz
      · have := (List.pairwise_cons.1 ih).1 y e
        exact cm_dat.lt_le hxz (by omega)
theorem at_of_strict {l : List Dat} (h : Strict datC l) {i j : Nat} (h1 : i < j) (h2 : j < l.length) : datC l[i]! l[j]! < 0 := by
  rw [getElem!_pos l i (by omega), getElem!_pos l j h2]
  exact List.pairwise_iff_getElem.1 h i j (by omega) h2 h1
theorem setOk_iff (s : RSet) : setOk s = true ↔ SetOk s := by
  unfold setOk
  simp only [Bool.and_eq_true, Bool.not_eq_true', Bool.and_eq_false_iff, bne_eq_false_iff_eq, Bool.not_eq_false', allN_iff]
  constructor
  · rintro ⟨⟨⟨⟨⟨⟨h1, h2⟩, h3⟩, h4⟩, h5⟩, h6⟩, h7⟩
    have h4 := inR_iff.1 h4
    have hd : ∀ i, i < s.data.length → datOk (ruleAt s.ty.toNat) s.data[i]! = true := fun i hi => by
      have := h7 i (Nat.zero_le _) hi
      unfold datAt at this
      exact (Bool.and_eq_true _ _ ▸ this).1
    refine ⟨h1, h2, h3, by omega, fun q => ?_, fun q => ?_, fun d hd' => ?_, strict_of_at fun i hi hl => ?_⟩
    · rcases h5 with h | h
      · rw [q] at h; cases h
      · omega
    · rcases h6 with h | h
      · rw [q] at h; cases h
      · exact h
    · obtain ⟨i, hi, rfl⟩ := List.getElem_of_mem hd'
      have := hd i hi
      rwa [getElem!_pos s.data i hi] at this
    · have := h7 i (Nat.zero_le _) hl
      unfold datAt at this
      rw [Bool.and_eq_true, Bool.or_eq_true, decide_eq_true_eq, decide_eq_true_eq] at this
      exact this.2.resolve_left (by omega)
  · intro ⟨h1, h2, h3, h4, h5, h6, h7, h8⟩
    refine ⟨⟨⟨⟨⟨⟨h1, h2⟩, h3⟩, inR_iff.2 (by omega)⟩, ?_⟩, ?_⟩, fun i _ hi => ?_⟩
    · by_cases q : (ruleAt s.ty.toNat).single = true
      · right; have := h5 q; omega
      · left; simpa using q
    · by_cases q : wildB s.name = true
      · right; exact h6 q
      · left; simpa using q
    · unfold datAt
      rw [Bool.and_eq_true, Bool.or_eq_true, decide_eq_true_eq, decide_eq_true_eq]
      refine ⟨by rw [getElem!_pos s.data i hi]; exact h7 _ (List.getElem_mem _), ?_⟩
      by_cases e : i = 0
      · exact .inl e
      · exact .inr (at_of_strict h8 (by omega) hi)
instance (s : RSet) : Decidable (SetOk s) := decidable_of_iff _ (setOk_iff s)

/-! ### the order of sets -/
def nmC (a b : Str) : Int := if nameOk a && nameOk b then nmCmp a b else 0
def plC (a b : RSet) : Int := if a.name = b.name then cmpI a.ty b.ty else nmC a.name b.name
def rOrd (a b : RSet) : Int := thenC (nmC a.name b.name) (cmpI a.ty b.ty)
/-- the same for sets with names -/
def plc (a b : RSet) : Int := thenC (nmOrd a.name b.name) (cmpI a.ty b.ty)
theorem cm_pl : Cm plc := cm_then (cm_on cm_nm RSet.name) (cm_on cm_int RSet.ty)
theorem plc_eq {a b : RSet} : plc a b = 0 ↔ a.name = b.name ∧ a.ty = b.ty := by
  unfold plc
  rw [thenC_eq]
  constructor
  · intro h
    split at h
    · exact ⟨nm_eq ‹_›, cmpI_eq.1 h⟩
    · exact absurd h ‹_›
  · rintro ⟨h1, h2⟩
    rw [h1, h2, if_pos (cm_nm.self _)]
    exact cmpI_eq.2 rfl
theorem plC_c {a b : RSet} (ha : nameOk a.name = true) (hb : nameOk b.name = true) : plC a b = plc a b := by
  unfold plC plc nmC
  rw [ha, hb, thenC_eq]
  by_cases h : a.name = b.name
  · rw [if_pos h, h, if_pos (cm_nm.self _)]
  · rw [if_neg h, if_neg (fun e => h (nm_eq e)), nmCmp_ord]; rfl
theorem rOrd_c {a b : RSet} (ha : nameOk a.name = true) (hb : nameOk b.name = true) : rOrd a b = plc a b := by
  unfold rOrd plc nmC
  rw [ha, hb, nmCmp_ord]; rfl
end Go.Rec
