/-
  SETS OF DATA, 3: their bytes, and what is read out of bytes: plain functions, and what is true of them. Conditions: none.
-/
import Derived.Test.YtfggmgafjabbjaaDoorRec2
set_option linter.unusedVariables false
set_option linter.unusedSimpArgs false
set_option linter.unusedSectionVars false
namespace Go.Rec
open Go.DL Go.Str Go.Cmp

/-! ### numbers as bytes -/
def two64 : Nat := 18446744073709551616
/-- the number as the machine has it without a sign -/
def uN (n : Int) : Nat := (n % 18446744073709551616).toNat
def byteAt (u sh : Nat) : UInt8 := UInt8.ofNat (u / 2 ^ sh)
def be8 (n : Int) : Str := [byteAt (uN n) 56, byteAt (uN n) 48, byteAt (uN n) 40, byteAt (uN n) 32, byteAt (uN n) 24, byteAt (uN n) 16, byteAt (uN n) 8, byteAt (uN n) 0]
theorem be8_len (n : Int) : (be8 n).length = 8 := rfl
theorem uN_lt (n : Int) : uN n < 18446744073709551616 := by unfold uN; omega
/-- one byte more -/
def stepN (n : Nat) (c : UInt8) : Nat := (n * 256 + c.toNat) % 18446744073709551616
def numU (l : Str) : Nat := l.foldl stepN 0
def sN (n : Nat) : Int := IntKind.i64.wrap (n : Int)
def numOf (l : Str) : Int := sN (numU l)
theorem byteAt_n (u sh : Nat) : (byteAt u sh).toNat = u / 2 ^ sh % 256 := by simp [byteAt]
theorem stepN_byte (u s : Nat) (h : u < 18446744073709551616) : stepN (u / 2 ^ (s + 8)) (byteAt u s) = u / 2 ^ s := by
  unfold stepN
  rw [byteAt_n]
  have e : u / 2 ^ (s + 8) = u / 2 ^ s / 256 := by rw [Nat.pow_add, ← Nat.div_div_eq_div_mul]
  have l : u / 2 ^ s ≤ u := Nat.div_le_self _ _
  rw [e]
  omega
theorem numU_be8 (n : Int) : numU (be8 n) = uN n := by
  have h := uN_lt n
  unfold be8
  generalize uN n = u at h
  have a7 : stepN 0 (byteAt u 56) = u / 2 ^ 56 := by
    have := stepN_byte u 56 h
    rwa [Nat.div_eq_of_lt (show u < 2 ^ (56 + 8) from h)] at this
  have a6 : stepN (u / 2 ^ 56) (byteAt u 48) = u / 2 ^ 48 := stepN_byte u 48 h
  have a5 : stepN (u / 2 ^ 48) (byteAt u 40) = u / 2 ^ 40 := stepN_byte u 40 h
  have a4 : stepN (u / 2 ^ 40) (byteAt u 32) = u / 2 ^ 32 := stepN_byte u 32 h
  have a3 : stepN (u / 2 ^ 32) (byteAt u 24) = u / 2 ^ 24 := stepN_byte u 24 h
  have a2 : stepN (u / 2 ^ 24) (byteAt u 16) = u / 2 ^ 16 := stepN_byte u 16 h
  have a1 : stepN (u / 2 ^ 16) (byteAt u 8) = u / 2 ^ 8 := stepN_byte u 8 h
  have a0 : stepN (u / 2 ^ 8) (byteAt u 0) = u / 2 ^ 0 := stepN_byte u 0 h
  simp only [numU, List.foldl_cons, List.foldl_nil]
  rw [a7, a6, a5, a4, a3, a2, a1, a0]
  simp
theorem numU_lt : ∀ l : Str, numU l < 18446744073709551616 := by
  intro l
  unfold numU
  rcases List.eq_nil_or_concat l with e | ⟨p, z, e⟩
  · subst e; decide
  · rw [e, List.concat_eq_append, List.foldl_append, List.foldl_cons, List.foldl_nil]
    unfold stepN
    omega
theorem uN_sN {u : Nat} (h : u < 18446744073709551616) : uN (sN u) = u := by
  unfold uN sN
  rw [IntKind.wrap_i64]
  omega
theorem be8_numOf {l : Str} (h : l.length = 8) : be8 (numOf l) = l := by
  unfold numOf be8
  rw [uN_sN (numU_lt l)]
  match l, h with
  | [c0, c1, c2, c3, c4, c5, c6, c7], _ =>
    have h0 := c0.toNat_lt; have h1 := c1.toNat_lt; have h2 := c2.toNat_lt; have h3 := c3.toNat_lt
    have h4 := c4.toNat_lt; have h5 := c5.toNat_lt; have h6 := c6.toNat_lt; have h7 := c7.toNat_lt
    have e : numU [c0, c1, c2, c3, c4, c5, c6, c7] = ((((((c0.toNat * 256 + c1.toNat) * 256 + c2.toNat) * 256 + c3.toNat) * 256 + c4.toNat) * 256 + c5.toNat) * 256 + c6.toNat) * 256 + c7.toNat := by
      simp only [numU, List.foldl_cons, List.foldl_nil, stepN]
      omega
    have k : ∀ (s : Nat) (c : UInt8), numU [c0, c1, c2, c3, c4, c5, c6, c7] / 2 ^ s % 256 = c.toNat → byteAt (numU [c0, c1, c2, c3, c4, c5, c6, c7]) s = c := fun s c q => UInt8.toNat_inj.1 (by rw [byteAt_n]; exact q)
    rw [k 56 c0 (by rw [e]; omega), k 48 c1 (by rw [e]; omega), k 40 c2 (by rw [e]; omega), k 32 c3 (by rw [e]; omega), k 24 c4 (by rw [e]; omega), k 16 c5 (by rw [e]; omega), k 8 c6 (by rw [e]; omega), k 0 c7 (by rw [e]; omega)]
theorem sN_uN {n : Int} (h : -9223372036854775808 ≤ n ∧ n ≤ 9223372036854775807) : sN (uN n) = n := by
  unfold sN uN
  rw [IntKind.wrap_i64]
  omega
theorem numOf_be8 {n : Int} (h : -9223372036854775808 ≤ n ∧ n ≤ 9223372036854775807) : numOf (be8 n) = n := by
  unfold numOf; rw [numU_be8, sN_uN h]

def lenB (n : Nat) : UInt8 := UInt8.ofNat n
def textB (t : Str) : Str := lenB t.length :: t
def datB (d : Dat) : Str := textB d.t ++ be8 d.n ++ be8 d.m
def setB (s : RSet) : Str := textB s.name ++ be8 s.ty ++ be8 s.life ++ lenB s.data.length :: s.data.flatMap datB

/-! ### reading: what is left, and whether there was too little -/
abbrev RS := Str × Bool
def pTake (n : Int) (st : RS) : Str × RS := if st.2 || decide ((st.1.length : Int) < n) then ([], (st.1, true)) else (st.1.take n.toNat, (st.1.drop n.toNat, false))
def pCount (st : RS) : Nat × RS := (if (pTake 1 st).1.length = 1 then ((pTake 1 st).1.getD 0 0).toNat else 0, (pTake 1 st).2)
def pText (st : RS) : Str × RS := pTake (pCount st).1 (pCount st).2
def pNum (st : RS) : Int × RS := (numOf (pTake 8 st).1, (pTake 8 st).2)
def pDat (st : RS) : Dat × RS := (⟨(pText st).1, (pNum (pText st).2).1, (pNum (pNum (pText st).2).2).1⟩, (pNum (pNum (pText st).2).2).2)
def pDats : Nat → List Dat → RS → List Dat × RS
  | 0, out, st => (out, st)
  | k + 1, out, st => if (pDat st).2.2 then (out, (pDat st).2) else pDats k (out ++ [(pDat st).1]) (pDat st).2
def pSet (st : RS) : RSet × RS :=
  let a := pText st
  let b := pNum a.2
  let c := pNum b.2
  let n := pCount c.2
  let d := pDats n.1 [] n.2
  (⟨a.1, b.1, c.1, d.1⟩, d.2)
def noSet : RSet := ⟨[], 0, 0, []⟩
def readF (x : Str) : RSet × Int := if (pSet (x, false)).2.2 || decide (0 < (pSet (x, false)).2.1.length) || !setOk (pSet (x, false)).1 then (noSet, 10) else ((pSet (x, false)).1, 0)

/-! ### the answer's reading: the place, and whether there was too little -/
abbrev RT := Nat × Bool
def rNext (b : Str) (st : RT) : UInt8 × RT := if b.length ≤ st.1 then (0, (st.1, true)) else (b.getD st.1 0, (st.1 + 1, st.2))
def rWordL (b : Str) : Nat → Str → RT → Str × RT
  | 0, s, st => (s, st)
  | k + 1, s, st => if st.2 then (s, st) else rWordL b k (s ++ [(rNext b st).1]) (rNext b st).2
def rWord (b : Str) (st : RT) : Str × RT := rWordL b (rNext b st).1.toNat [] (rNext b st).2
def rValL (b : Str) : Nat → Nat → RT → Nat × RT
  | 0, n, st => (n, st)
  | k + 1, n, st => rValL b k (stepN n (rNext b st).1) (rNext b st).2
def rVal (b : Str) (st : RT) : Int × RT := (sN (rValL b 8 0 st).1, (rValL b 8 0 st).2)
def rDatR (b : Str) (st : RT) : Dat × RT := (⟨(rWord b st).1, (rVal b (rWord b st).2).1, (rVal b (rVal b (rWord b st).2).2).1⟩, (rVal b (rVal b (rWord b st).2).2).2)
def rDats (b : Str) : Nat → List Dat → RT → List Dat × RT
  | 0, out, st => (out, st)
  | k + 1, out, st => if st.2 then (out, st) else rDats b k (out ++ [(rDatR b st).1]) (rDatR b st).2
def rSet (b : Str) (st : RT) : RSet × RT :=
  let a := rWord b st
  let t := rVal b a.2
  let c := rVal b t.2
  let n := rNext b c.2
  let d := rDats b n.1.toNat [] n.2
  (⟨a.1, t.1, c.1, d.1⟩, d.2)
def readR (x : Str) : RSet × Int := if (rSet x (0, false)).2.2 || decide ((rSet x (0, false)).2.1 ≠ x.length) || !setOk (rSet x (0, false)).1 then (noSet, 10) else ((rSet x (0, false)).1, 0)

/-- the two ways of reading stand alike -/
def Alike (b : Str) (s : RS) (t : RT) : Prop := t.1 ≤ b.length ∧ ((s.2 = false ∧ t.2 = false ∧ s.1 = b.drop t.1) ∨ (s.2 = true ∧ t.2 = true))
theorem alike_next {b : Str} {s : RS} {t : RT} (h : Alike b s t) : Alike b (pCount s).2 (rNext b t).2 ∧ ((pCount s).2.2 = false → (pCount s).1 = (rNext b t).1.toNat) := by
  obtain ⟨h0, ⟨h1, h2, h3⟩ | ⟨h1, h2⟩⟩ := h
  · unfold pCount pTake rNext
    rw [h1, h3, Bool.false_or]
    by_cases h : b.length ≤ t.1
    · have e : (b.drop t.1).length = 0 := by simp; omega
      rw [if_pos h, e]
      exact ⟨⟨h0, .inr ⟨rfl, rfl⟩⟩, fun q => by cases q⟩
    · have e : ¬ ((b.drop t.1).length : Int) < 1 := by simp; omega
      rw [if_neg h, decide_eq_false e]
      have e1 : ((b.drop t.1).take 1).length = 1 := by simp; omega
      refine ⟨⟨by show t.1 + 1 ≤ _; omega, .inl ⟨rfl, h2, by show ((b.drop t.1).drop 1) = b.drop (t.1 + 1); rw [List.drop_drop]⟩⟩, fun _ => ?_⟩
      show (if ((b.drop t.1).take 1).length = 1 then (((b.drop t.1).take 1).getD 0 0).toNat else 0) = (b.getD t.1 0).toNat
      rw [if_pos e1]
      congr 1
      simp [List.getD, List.getElem?_take]
  · unfold pCount pTake rNext
    rw [h1, Bool.true_or]
    refine ⟨?_, fun q => by cases q⟩
    by_cases h : b.length ≤ t.1
    · rw [if_pos h]; exact ⟨h0, .inr ⟨rfl, rfl⟩⟩
    · rw [if_neg h]; exact ⟨by show t.1 + 1 ≤ _; omega, .inr ⟨rfl, h2⟩⟩
theorem take_ok {st : RS} {n : Nat} (h1 : st.2 = false) (h2 : n ≤ st.1.length) : pTake n st = (st.1.take n, (st.1.drop n, false)) := by
  unfold pTake
  rw [h1, Bool.false_or, decide_eq_false (by omega)]
  rfl
theorem take_no {st : RS} {n : Int} (h : st.2 = true ∨ (st.1.length : Int) < n) : pTake n st = ([], (st.1, true)) := by
  unfold pTake
  have : (st.2 || decide ((st.1.length : Int) < n)) = true := by rw [Bool.or_eq_true, decide_eq_true_eq]; exact h
  rw [this]; rfl
theorem word_bad {b : Str} : ∀ (k : Nat) (s : Str) (t : RT), t.2 = true → rWordL b k s t = (s, t)
  | 0, _, _, _ => rfl
  | k + 1, s, t, h => by unfold rWordL; rw [if_pos h]
theorem next_in {b : Str} {t : RT} (h : t.1 < b.length) : rNext b t = (b.getD t.1 0, (t.1 + 1, t.2)) := by unfold rNext; rw [if_neg (by omega)]
theorem next_out {b : Str} {t : RT} (h : b.length ≤ t.1) : rNext b t = (0, (t.1, true)) := by unfold rNext; rw [if_pos h]
theorem word_ok {b : Str} : ∀ (k : Nat) (s : Str) (t : RT), t.2 = false → t.1 ≤ b.length → (t.1 + k ≤ b.length → rWordL b k s t = (s ++ (b.drop t.1).take k, (t.1 + k, false))) ∧ (b.length < t.1 + k → (rWordL b k s t).2.2 = true ∧ (rWordL b k s t).2.1 ≤ b.length)
  | 0, s, t, h, h2 => ⟨fun _ => by unfold rWordL; simp [← h], fun q => by omega⟩
  | k + 1, s, t, h, h2 => by
    unfold rWordL
    rw [if_neg (by rw [h]; simp)]
    by_cases q : t.1 < b.length
    · rw [next_in q]
      obtain ⟨i1, i2⟩ := word_ok (b := b) k (s ++ [b.getD t.1 0]) (t.1 + 1, t.2) h (by show t.1 + 1 ≤ _; omega)
      refine ⟨fun p => ?_, fun p => i2 (by show b.length < t.1 + 1 + k; omega)⟩
      rw [i1 (by show t.1 + 1 + k ≤ _; omega)]
      have e : (b.drop t.1).take (k + 1) = b.getD t.1 0 :: (b.drop (t.1 + 1)).take k := by
        rw [List.drop_eq_getElem_cons q, List.take_succ_cons]
        congr 1
        simp [List.getD, q]
      rw [e]
      refine Prod.ext (by simp) (Prod.ext (by show t.1 + 1 + k = t.1 + (k + 1); omega) rfl)
    · rw [next_out (by omega), word_bad k _ _ rfl]
      exact ⟨fun p => by omega, fun _ => ⟨rfl, h2⟩⟩
theorem alike_text {b : Str} {s : RS} {t : RT} (h : Alike b s t) : Alike b (pText s).2 (rWord b t).2 ∧ ((pText s).2.2 = false → (pText s).1 = (rWord b t).1) := by
  obtain ⟨h1, h2⟩ := alike_next h
  unfold pText rWord
  obtain ⟨h0, ⟨k1, k2, k3⟩ | ⟨k1, k2⟩⟩ := h1
  · rw [h2 k1]
    obtain ⟨i1, i2⟩ := word_ok (b := b) (rNext b t).1.toNat [] (rNext b t).2 k2 h0
    have hl : (pCount s).2.1.length = b.length - (rNext b t).2.1 := by rw [k3]; simp
    by_cases q : (rNext b t).2.1 + (rNext b t).1.toNat ≤ b.length
    · rw [i1 q, take_ok k1 (by omega)]
      exact ⟨⟨q, .inl ⟨rfl, rfl, by show (pCount s).2.1.drop _ = _; rw [k3, List.drop_drop]⟩⟩, fun _ => by show (pCount s).2.1.take _ = _; rw [k3]; rfl⟩
    · rw [take_no (.inr (by omega))]
      obtain ⟨j1, j2⟩ := i2 (by omega)
      exact ⟨⟨j2, .inr ⟨rfl, j1⟩⟩, fun q => by cases q⟩
  · rw [take_no (.inl k1), word_bad _ _ _ k2]
    exact ⟨⟨h0, .inr ⟨rfl, k2⟩⟩, fun q => by cases q⟩
theorem val_ok {b : Str} : ∀ (k n : Nat) (t : RT), t.1 ≤ b.length → (rValL b k n t).2.1 ≤ b.length ∧ (t.2 = true → (rValL b k n t).2.2 = true) ∧ (t.2 = false → (t.1 + k ≤ b.length → rValL b k n t = (((b.drop t.1).take k).foldl stepN n, (t.1 + k, false))) ∧ (b.length < t.1 + k → (rValL b k n t).2.2 = true))
  | 0, n, t, h => ⟨h, fun q => q, fun q => ⟨fun _ => by unfold rValL; simp [← q], fun p => by omega⟩⟩
  | k + 1, n, t, h => by
    unfold rValL
    by_cases q : t.1 < b.length
    · rw [next_in q]
      obtain ⟨i1, i2, i3⟩ := val_ok (b := b) k (stepN n (b.getD t.1 0)) (t.1 + 1, t.2) (by show t.1 + 1 ≤ _; omega)
      refine ⟨i1, i2, fun e => ⟨fun p => ?_, fun p => (i3 e).2 (by show b.length < t.1 + 1 + k; omega)⟩⟩
      rw [(i3 e).1 (by show t.1 + 1 + k ≤ _; omega)]
      have e : (b.drop t.1).take (k + 1) = b.getD t.1 0 :: (b.drop (t.1 + 1)).take k := by
        rw [List.drop_eq_getElem_cons q, List.take_succ_cons]
        congr 1
        simp [List.getD, q]
      rw [e]
      refine Prod.ext rfl (Prod.ext (by show t.1 + 1 + k = t.1 + (k + 1); omega) rfl)
    · rw [next_out (by omega)]
      obtain ⟨i1, i2, i3⟩ := val_ok (b := b) k (stepN n 0) (t.1, true) h
      exact ⟨i1, fun _ => i2 rfl, fun e => ⟨fun p => by omega, fun _ => i2 rfl⟩⟩
theorem alike_num {b : Str} {s : RS} {t : RT} (h : Alike b s t) : Alike b (pNum s).2 (rVal b t).2 ∧ ((pNum s).2.2 = false → (pNum s).1 = (rVal b t).1) := by
  unfold pNum rVal
  have hh := h.1
  obtain ⟨i1, i2, i3⟩ := val_ok (b := b) 8 0 t hh
  obtain ⟨h0, ⟨k1, k2, k3⟩ | ⟨k1, k2⟩⟩ := h
  · have hl : s.1.length = b.length - t.1 := by rw [k3]; simp
    by_cases q : t.1 + 8 ≤ b.length
    · have e := take_ok (n := 8) k1 (by omega)
      rw [show ((8 : Nat) : Int) = 8 from rfl] at e
      rw [(i3 k2).1 q, e]
      exact ⟨⟨q, .inl ⟨rfl, rfl, by show s.1.drop 8 = _; rw [k3, List.drop_drop]⟩⟩, fun _ => by show numOf (s.1.take 8) = _; rw [k3]; rfl⟩
    · rw [take_no (.inr (by omega))]
      exact ⟨⟨i1, .inr ⟨rfl, (i3 k2).2 (by omega)⟩⟩, fun q => by cases q⟩
  · rw [take_no (.inl k1)]
    exact ⟨⟨i1, .inr ⟨rfl, i2 k2⟩⟩, fun q => by cases q⟩
/-- what went wrong stays wrong -/
theorem take_bad {n : Int} {s : RS} (h : s.2 = true) : (pTake n s).2.2 = true := by rw [take_no (.inl h)]
theorem num_bad {s : RS} (h : s.2 = true) : (pNum s).2.2 = true := take_bad h
theorem count_bad {s : RS} (h : s.2 = true) : (pCount s).2.2 = true := take_bad h
theorem text_bad {s : RS} (h : s.2 = true) : (pText s).2.2 = true := take_bad (count_bad h)
theorem ok_of_num {s : RS} (h : (pNum s).2.2 = false) : s.2 = false := by
  cases q : s.2 with
  | false => rfl
  | true => rw [num_bad q] at h; cases h
theorem ok_of_text {s : RS} (h : (pText s).2.2 = false) : s.2 = false := by
  cases q : s.2 with
  | false => rfl
  | true => rw [text_bad q] at h; cases h
theorem ok_of_count {s : RS} (h : (pCount s).2.2 = false) : s.2 = false := by
  cases q : s.2 with
  | false => rfl
  | true => rw [count_bad q] at h; cases h
theorem alike_dat {b : Str} {s : RS} {t : RT} (h : Alike b s t) : Alike b (pDat s).2 (rDatR b t).2 ∧ ((pDat s).2.2 = false → (pDat s).1 = (rDatR b t).1) := by
  obtain ⟨a1, a2⟩ := alike_text h
  obtain ⟨b1, b2⟩ := alike_num a1
  obtain ⟨c1, c2⟩ := alike_num b1
  unfold pDat rDatR
  refine ⟨c1, fun q => ?_⟩
  have q1 := ok_of_num q
  have q2 := ok_of_num q1
  show Dat.mk _ _ _ = Dat.mk _ _ _
  rw [a2 q2, b2 q1, c2 q]
theorem alike_bad {b : Str} {s : RS} {t : RT} (h : Alike b s t) : s.2 = t.2 := by
  obtain ⟨_, ⟨k1, k2, _⟩ | ⟨k1, k2⟩⟩ := h <;> rw [k1, k2]
theorem dats_bad : ∀ (k : Nat) (out : List Dat) (s : RS), s.2 = true → (pDats k out s).2.2 = true
  | 0, _, _, h => h
  | k + 1, out, s, h => by
    unfold pDats
    have : (pDat s).2.2 = true := num_bad (num_bad (text_bad h))
    rw [if_pos this]; exact this
theorem rdats_bad {b : Str} : ∀ (k : Nat) (out : List Dat) (t : RT), t.2 = true → rDats b k out t = (out, t)
  | 0, _, _, _ => rfl
  | k + 1, out, t, h => by unfold rDats; rw [if_pos h]
theorem alike_dats {b : Str} : ∀ (k : Nat) (out : List Dat) (s : RS) (t : RT), Alike b s t → s.2 = false → Alike b (pDats k out s).2 (rDats b k out t).2 ∧ ((pDats k out s).2.2 = false → (pDats k out s).1 = (rDats b k out t).1)
  | 0, out, s, t, h, _ => ⟨h, fun _ => rfl⟩
  | k + 1, out, s, t, h, hs => by
    obtain ⟨a1, a2⟩ := alike_dat h
    have ht : t.2 = false := by rw [← alike_bad h, hs]
    have er : rDats b (k + 1) out t = rDats b k (out ++ [(rDatR b t).1]) (rDatR b t).2 := by rw [rDats, if_neg (by rw [ht]; simp)]
    rw [er]
    cases q : (pDat s).2.2 with
    | true =>
      have ep : pDats (k + 1) out s = (out, (pDat s).2) := by rw [pDats, if_pos q]
      rw [ep, rdats_bad k _ _ (by rw [← alike_bad a1, q])]
      exact ⟨a1, fun q' => by rw [show (out, (pDat s).2).2.2 = (pDat s).2.2 from rfl, q] at q'; cases q'⟩
    | false =>
      have ep : pDats (k + 1) out s = pDats k (out ++ [(pDat s).1]) (pDat s).2 := by rw [pDats, if_neg (by rw [q]; simp)]
      rw [ep, a2 q]
      exact alike_dats k _ _ _ a1 q
theorem alike_set {b : Str} {s : RS} {t : RT} (h : Alike b s t) : Alike b (pSet s).2 (rSet b t).2 ∧ ((pSet s).2.2 = false → (pSet s).1 = (rSet b t).1) := by
  obtain ⟨a1, a2⟩ := alike_text h
  obtain ⟨b1, b2⟩ := alike_num a1
  obtain ⟨c1, c2⟩ := alike_num b1
  obtain ⟨d1, d2⟩ := alike_next c1
  cases q : (pCount (pNum (pNum (pText s).2).2).2).2.2 with
  | false =>
    have q3 := ok_of_count q
    have q2 := ok_of_num q3
    have q1 := ok_of_num q2
    obtain ⟨e1, e2⟩ := alike_dats (pCount (pNum (pNum (pText s).2).2).2).1 [] _ _ d1 q
    have e := d2 q
    rw [e] at e1 e2
    refine ⟨?_, fun q' => ?_⟩
    · simp only [pSet, rSet]
      rw [e]; exact e1
    · simp only [pSet, rSet] at q' ⊢
      rw [e] at q' ⊢
      rw [a2 q1, b2 q2, c2 q3, e2 q']
  | true =>
    have h1 := dats_bad (pCount (pNum (pNum (pText s).2).2).2).1 [] _ q
    have h2 : (rNext b (rVal b (rVal b (rWord b t).2).2).2).2.2 = true := by rw [← alike_bad d1, q]
    simp only [pSet, rSet]
    rw [rdats_bad _ [] _ h2, h1]
    exact ⟨⟨d1.1, .inr ⟨h1, h2⟩⟩, fun q' => by cases q'⟩
/-- BOTH WAYS OF READING GIVE THE SAME. -/
theorem readR_F (x : Str) : readR x = readF x := by
  obtain ⟨h0, h1⟩ := alike_set (b := x) (s := (x, false)) (t := (0, false)) ⟨Nat.zero_le _, .inl ⟨rfl, rfl, rfl⟩⟩
  unfold readR readF
  rcases h0 with ⟨k0, ⟨k1, k2, k3⟩ | ⟨k1, k2⟩⟩
  · rw [k1, k2, h1 k1, k3]
    have : decide ((rSet x (0, false)).2.1 ≠ x.length) = decide (0 < (x.drop (rSet x (0, false)).2.1).length) := decide_eq_decide.2 (by simp; omega)
    rw [this]
  · rw [k1, k2]; rfl
end Go.Rec
