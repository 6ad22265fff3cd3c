/-
  SETS OF DATA, 4: what is written is read, and what is read is what was written: plain laws. Conditions: none.
-/
import Derived.Test.YtfggmgafjabbjaaDoorRec3
set_option linter.unusedVariables false
set_option linter.unusedSimpArgs false
set_option linter.unusedSectionVars false
namespace Go.Rec
open Go.DL Go.Str Go.Cmp

def i64 (n : Int) : Prop := -9223372036854775808 ≤ n ∧ n ≤ 9223372036854775807
structure DatSz (d : Dat) : Prop where
  t : d.t.length ≤ 255
  n : i64 d.n
  m : i64 d.m
structure SetSz (s : RSet) : Prop where
  name : s.name.length ≤ 255
  ty : i64 s.ty
  life : i64 s.life
  len : s.data.length ≤ 255
  dat : ∀ d ∈ s.data, DatSz d
theorem numOf_i64 (l : Str) : i64 (numOf l) := by
  unfold i64 numOf sN
  rw [IntKind.wrap_i64]
  omega
theorem lenB_n {n : Nat} (h : n ≤ 255) : (lenB n).toNat = n := by
  unfold lenB
  simp
  omega
theorem lenB_of (c : UInt8) : lenB c.toNat = c := by
  apply UInt8.toNat_inj.1
  rw [lenB_n (by have := c.toNat_lt; omega)]
theorem count_cons (c : UInt8) (r : Str) : pCount (c :: r, false) = (c.toNat, (r, false)) := by
  have e := take_ok (st := (c :: r, false)) (n := 1) rfl (by simp)
  rw [show ((1 : Nat) : Int) = 1 from rfl] at e
  unfold pCount
  rw [e]
  rfl
theorem text_fwd {t more : Str} (h : t.length ≤ 255) : pText (textB t ++ more, false) = (t, (more, false)) := by
  unfold pText textB
  rw [List.cons_append, count_cons]
  show pTake ((lenB t.length).toNat : Nat) (t ++ more, false) = _
  rw [lenB_n h, take_ok rfl (by simp)]
  simp
theorem num_fwd {n : Int} {more : Str} (h : i64 n) : pNum (be8 n ++ more, false) = (n, (more, false)) := by
  have e := take_ok (st := (be8 n ++ more, false)) (n := 8) rfl (by simp [be8_len])
  rw [show ((8 : Nat) : Int) = 8 from rfl] at e
  unfold pNum
  rw [e]
  show (numOf ((be8 n ++ more).take 8), ((be8 n ++ more).drop 8, false)) = _
  rw [List.take_left' (be8_len n), List.drop_left' (be8_len n), numOf_be8 h]
theorem dat_fwd {d : Dat} {more : Str} (h : DatSz d) : pDat (datB d ++ more, false) = (d, (more, false)) := by
  unfold pDat datB
  rw [List.append_assoc, List.append_assoc, text_fwd h.t, num_fwd h.n, num_fwd h.m]
theorem dats_fwd : ∀ (l out : List Dat) (more : Str), (∀ d ∈ l, DatSz d) → pDats l.length out (l.flatMap datB ++ more, false) = (out ++ l, (more, false))
  | [], out, more, _ => by simp [pDats]
  | d :: l, out, more, h => by
    have e : ((d :: l).flatMap datB ++ more) = datB d ++ (l.flatMap datB ++ more) := by simp
    rw [e, List.length_cons, pDats, dat_fwd (h d (by simp))]
    show (if false = true then _ else pDats l.length (out ++ [d]) (l.flatMap datB ++ more, false)) = _
    rw [if_neg (by simp), dats_fwd l _ more fun x hx => h x (by simp [hx])]
    simp
theorem set_fwd {s : RSet} {more : Str} (h : SetSz s) : pSet (setB s ++ more, false) = (s, (more, false)) := by
  unfold pSet setB
  have e : textB s.name ++ be8 s.ty ++ be8 s.life ++ lenB s.data.length :: s.data.flatMap datB ++ more = textB s.name ++ (be8 s.ty ++ (be8 s.life ++ (lenB s.data.length :: (s.data.flatMap datB ++ more)))) := by simp
  rw [e]
  simp only [text_fwd h.name, num_fwd h.ty, num_fwd h.life, count_cons, lenB_n h.len, dats_fwd s.data [] more h.dat]
  rfl
theorem take_inv {n : Nat} {s : RS} (h : (pTake n s).2.2 = false) : s.2 = false ∧ n ≤ s.1.length := by
  by_cases q : s.2 = true ∨ (s.1.length : Int) < n
  · rw [take_no q] at h; cases h
  · have : ¬ s.2 = true ∧ ¬ (s.1.length : Int) < n := not_or.1 q
    exact ⟨by simpa using this.1, by omega⟩
theorem count_inv {s : RS} (h : (pCount s).2.2 = false) : ∃ c r, s = (c :: r, false) ∧ pCount s = (c.toNat, (r, false)) := by
  obtain ⟨h1, h2⟩ := take_inv (n := 1) (s := s) h
  obtain ⟨l, b⟩ := s
  simp only at h1 h2
  subst h1
  cases l with
  | nil => simp at h2
  | cons c r => exact ⟨c, r, rfl, count_cons c r⟩
theorem text_inv {s : RS} (h : (pText s).2.2 = false) : s.1 = textB (pText s).1 ++ (pText s).2.1 ∧ (pText s).1.length ≤ 255 := by
  have hc : (pCount s).2.2 = false := (take_inv (n := (pCount s).1) (s := (pCount s).2) h).1
  obtain ⟨c, r, rfl, e⟩ := count_inv hc
  have hl := (take_inv (n := (pCount (c :: r, false)).1) (s := (pCount (c :: r, false)).2) h).2
  unfold pText
  rw [e] at hl ⊢
  have hl : c.toNat ≤ r.length := hl
  have e2 : pTake (((c.toNat, (r, false)) : Nat × RS).1 : Nat) ((c.toNat, (r, false)) : Nat × RS).2 = (r.take c.toNat, (r.drop c.toNat, false)) := take_ok (st := (r, false)) rfl hl
  rw [e2]
  have hcl := c.toNat_lt
  refine ⟨?_, by show (r.take c.toNat).length ≤ 255; simp; omega⟩
  show c :: r = lenB (r.take c.toNat).length :: r.take c.toNat ++ r.drop c.toNat
  have : (r.take c.toNat).length = c.toNat := by simp; omega
  rw [this, lenB_of]
  simp
theorem num_inv {s : RS} (h : (pNum s).2.2 = false) : s.1 = be8 (pNum s).1 ++ (pNum s).2.1 ∧ i64 (pNum s).1 := by
  obtain ⟨h1, h2⟩ := take_inv (n := 8) (s := s) h
  have e := take_ok (n := 8) h1 h2
  rw [show ((8 : Nat) : Int) = 8 from rfl] at e
  unfold pNum
  rw [e]
  refine ⟨?_, numOf_i64 _⟩
  show s.1 = be8 (numOf (s.1.take 8)) ++ s.1.drop 8
  rw [be8_numOf (by simp; omega), List.take_append_drop]
theorem dat_inv {s : RS} (h : (pDat s).2.2 = false) : s.1 = datB (pDat s).1 ++ (pDat s).2.1 ∧ DatSz (pDat s).1 := by
  have q1 : (pNum (pText s).2).2.2 = false := ok_of_num h
  have q2 := ok_of_num q1
  obtain ⟨a1, a2⟩ := text_inv q2
  obtain ⟨b1, b2⟩ := num_inv q1
  obtain ⟨c1, c2⟩ := num_inv (s := (pNum (pText s).2).2) h
  refine ⟨?_, ⟨a2, b2, c2⟩⟩
  unfold pDat datB
  rw [a1, b1, c1]
  simp
theorem dats_inv : ∀ (k : Nat) (out : List Dat) (s : RS), s.2 = false → (pDats k out s).2.2 = false → ∃ l, (pDats k out s).1 = out ++ l ∧ l.length = k ∧ s.1 = l.flatMap datB ++ (pDats k out s).2.1 ∧ ∀ d ∈ l, DatSz d
  | 0, out, s, _, _ => ⟨[], by simp [pDats]⟩
  | k + 1, out, s, hs, h => by
    unfold pDats at h ⊢
    cases q : (pDat s).2.2 with
    | true => rw [q, if_pos rfl, q] at h; cases h
    | false =>
      rw [q, if_neg (by simp)] at h
      rw [if_neg (by simp)]
      obtain ⟨a1, a2⟩ := dat_inv q
      obtain ⟨l, b1, b2, b3, b4⟩ := dats_inv k _ _ q h
      refine ⟨(pDat s).1 :: l, by rw [b1]; simp, by simp [b2], by rw [a1]; conv => lhs; rw [b3]
                                                                  simp, fun d hd => ?_⟩
      rcases List.mem_cons.1 hd with e | e
      · subst e; exact a2
      · exact b4 d e
theorem set_inv {s : RS} (h : (pSet s).2.2 = false) : s.1 = setB (pSet s).1 ++ (pSet s).2.1 ∧ SetSz (pSet s).1 := by
  have hd : (pDats (pCount (pNum (pNum (pText s).2).2).2).1 [] (pCount (pNum (pNum (pText s).2).2).2).2).2.2 = false := h
  have q4 : (pCount (pNum (pNum (pText s).2).2).2).2.2 = false := by
    cases q : (pCount (pNum (pNum (pText s).2).2).2).2.2 with
    | false => rfl
    | true => rw [dats_bad _ _ _ q] at hd; cases hd
  have q3 := ok_of_count q4
  have q2 := ok_of_num q3
  have q1 := ok_of_num q2
  obtain ⟨a1, a2⟩ := text_inv q1
  obtain ⟨b1, b2⟩ := num_inv q2
  obtain ⟨c1, c2⟩ := num_inv q3
  obtain ⟨c, r, d1, d2⟩ := count_inv q4
  obtain ⟨l, e1, e2, e3, e4⟩ := dats_inv _ _ _ q4 hd
  have hcl := c.toNat_lt
  have hl : l.length = c.toNat := by rw [e2, d2]
  have hs : (pSet s).1 = ⟨(pText s).1, (pNum (pText s).2).1, (pNum (pNum (pText s).2).2).1, l⟩ := by
    show RSet.mk _ _ _ _ = _
    rw [e1]; rfl
  rw [hs]
  refine ⟨?_, ⟨a2, b2, c2, by show l.length ≤ 255; omega, e4⟩⟩
  have e5 : (pSet s).2.1 = (pDats (pCount (pNum (pNum (pText s).2).2).2).1 [] (pCount (pNum (pNum (pText s).2).2).2).2).2.1 := rfl
  rw [e5, a1]
  conv => lhs; rw [b1, c1, d1]
  have e6 : r = (pCount (pNum (pNum (pText s).2).2).2).2.1 := by rw [d2]
  show textB _ ++ (be8 _ ++ (be8 _ ++ c :: r)) = (textB _ ++ be8 _ ++ be8 _ ++ lenB l.length :: l.flatMap datB) ++ _
  rw [hl, lenB_of, e6]
  conv => lhs; rw [e3]
  simp
theorem textOk_len {k : Int} {t : Str} (h : textOk k t = true) : t.length ≤ 60 := by
  unfold textOk at h
  split at h
  · rw [Bool.and_eq_true] at h; exact nameOk_len h.1
  · split at h
    · exact nameOk_len h
    · split at h
      · unfold freeB at h
        split at h
        · cases h
        · split at h
          · cases h
          · omega
      · rw [beq_iff_eq] at h; subst h; simp
theorem datOk_sz {k : Int} (hk : inR k 1 8 = true) {d : Dat} (h : datOk (ruleAt k.toNat) d = true) : DatSz d ∧ d.t.length ≤ 60 ∧ 0 ≤ d.n ∧ 0 ≤ d.m := by
  unfold datOk at h
  simp only [Bool.and_eq_true, inR_iff] at h
  have ht := textOk_len h.2
  have hn := h.1.1.1
  have hm := h.1.1.2
  refine ⟨⟨by omega, ?_, ?_⟩, ht, ?_, ?_⟩ <;> (try unfold i64) <;> rcases kinds hk with e | e | e | e | e | e | e | e <;> subst e <;> simp [ruleAt] at hn hm <;> omega
theorem setOk_sz {s : RSet} (h : SetOk s) : SetSz s := by
  have h1 := nameOk_len h.name
  have h2 := inR_iff.1 h.ty
  have h3 := inR_iff.1 h.life
  refine ⟨by omega, ?_, ?_, by have := h.len; omega, fun d hd => (datOk_sz h.ty (h.dat d hd)).1⟩ <;> unfold i64 <;> omega
def bytesF (s : RSet) : Str × Int := if setOk s then (setB s, 0) else ([], 1)
/-- WHAT IS WRITTEN IS READ -/
theorem read_bytes {s : RSet} (h : SetOk s) : readF (setB s) = (s, 0) := by
  have e := set_fwd (more := []) (setOk_sz h)
  rw [List.append_nil] at e
  unfold readF
  rw [e]
  simp [(setOk_iff s).2 h]
theorem read_more {s : RSet} (h : SetOk s) {more : Str} (hm : more ≠ []) : readF (setB s ++ more) = (noSet, 10) := by
  unfold readF
  rw [set_fwd (setOk_sz h)]
  have : 0 < more.length := List.length_pos_iff.2 hm
  simp [this]
/-- what is read is what was written -/
theorem bytes_read {x : Str} (h : (readF x).2 = 0) : SetOk (readF x).1 ∧ setB (readF x).1 = x := by
  unfold readF at h ⊢
  split at h
  · cases h
  · rename_i q
    rw [if_neg q]
    simp only [Bool.or_eq_true, not_or, decide_eq_true_eq, Bool.not_eq_true', Bool.not_eq_false] at q
    obtain ⟨⟨q1, q2⟩, q3⟩ := q
    have q1 : (pSet (x, false)).2.2 = false := by simpa using q1
    obtain ⟨h1, _⟩ := set_inv q1
    have h2 : (pSet (x, false)).2.1 = [] := List.eq_nil_of_length_eq_zero (by omega)
    rw [h2, List.append_nil] at h1
    exact ⟨(setOk_iff _).1 q3, h1.symm⟩
/-- and a beginning is read as none -/
theorem read_less {s : RSet} (h : SetOk s) {j : Nat} (hj : j < (setB s).length) : readF ((setB s).take j) = (noSet, 10) := by
  by_cases q : (readF ((setB s).take j)).2 = 0
  · exfalso
    have q' := q
    unfold readF at q'
    split at q'
    · cases q'
    · rename_i q0
      simp only [Bool.or_eq_true, not_or, decide_eq_true_eq, Bool.not_eq_true', Bool.not_eq_false] at q0
      have q1 : (pSet ((setB s).take j, false)).2.2 = false := by simpa using q0.1.1
      obtain ⟨h1, h2⟩ := set_inv q1
      have h3 : (pSet ((setB s).take j, false)).2.1 = [] := List.eq_nil_of_length_eq_zero (by omega)
      rw [h3, List.append_nil] at h1
      have e : setB s = setB (pSet ((setB s).take j, false)).1 ++ (setB s).drop j := by
        rw [← h1]; exact (List.take_append_drop j _).symm
      have e1 := set_fwd (more := (setB s).drop j) h2
      rw [← e] at e1
      have e2 := set_fwd (more := []) (setOk_sz h)
      rw [List.append_nil, e1] at e2
      have e3 : (setB s).drop j = [] := (Prod.mk.inj (Prod.mk.inj e2).2).1
      have := congrArg List.length e3
      simp only [List.length_drop, List.length_nil] at this
      omega
  · unfold readF at q ⊢
    split
    · rfl
    · rename_i q0
      rw [if_neg q0] at q
      exact absurd rfl q
end Go.Rec
