/-
  STRETCHES: what the functions of package span, and of the document's answer nameplanref20, compute, as plain Lean. Conditions: none.
-/
import Derived.Test.YtfcdbijmoiegiaaDRange
namespace Go.Span
open Go.DL
structure Sp where
  a : Int
  b : Int
  deriving Inhabited, DecidableEq, Repr
def Sp.d (s : Sp) : List D := [.i s.a, .i s.b]
def Sp.of : List D → Sp
  | [.v (.int _ a), .v (.int _ b)] => ⟨a, b⟩
  | _ => default
attribute [go_sem] Sp.d
@[go_sem] theorem of_d {a b : Int} {k k' : IntKind} : Sp.of [.v (.int k a), .v (.int k' b)] = ⟨a, b⟩ := rfl
def sps : D → List Sp
  | .list _ rows => rows.map Sp.of
  | _ => []
def sp1 : D → Sp
  | .agg cs => Sp.of cs
  | _ => default
def int1 : D → Int
  | .v (.int _ n) => n
  | _ => 0
theorem of_map (l : List Sp) : (l.map Sp.d).map Sp.of = l := by
  induction l with
  | nil => rfl
  | cons x l ih => simp only [List.map_cons, ih]; rfl
@[go_sem] theorem sps_map {f : Bool} {l : List Sp} : sps (.list f (l.map Sp.d)) = l := of_map l
@[go_sem] theorem sps_nil {f : Bool} : sps (.list f []) = [] := rfl
@[go_sem] theorem sp1_agg {cs : List D} : sp1 (.agg cs) = Sp.of cs := rfl
@[go_sem] theorem int1_v {k : IntKind} {n : Int} : int1 (.v (.int k n)) = n := rfl
@[go_sem] theorem wkr_sp {l : List Sp} : wkr (l.map Sp.d) = l.map Sp.d := by
  induction l with
  | nil => rfl
  | cons x l ih => simp only [List.map_cons, wkr, ih]; rfl
@[go_sem] theorem nrr_sp {l : List Sp} : nrr (l.map Sp.d) = true := by
  induction l with
  | nil => rfl
  | cons x l ih => simp only [List.map_cons, nrr, ih]; rfl
theorem getD_sp {l : List Sp} {n : Nat} (h : n < l.length) : (l.map Sp.d).getD n [] = l[n]!.d := by
  simp [List.getD, h, getElem!_pos]
theorem rows2 {l : List Sp} : ∀ r ∈ l.map Sp.d, r.length = 2 := by
  intro r h
  obtain ⟨x, _, rfl⟩ := List.mem_map.1 h
  rfl

/-! ### valid -/
def badAt (l : List Sp) (k : Nat) : Bool := decide (l[k]!.a < 0) || decide (l[k]!.b ≤ l[k]!.a) || decide (20000000 < l[k]!.b) || (decide (0 < (k : Int)) && decide (l[k]!.a ≤ l[k - 1]!.b))
def noBad (l : List Sp) (k : Nat) : Bool := if k < l.length then if badAt l k then false else noBad l (k + 1) else true
  termination_by l.length - k
theorem noBad_eq (l : List Sp) (k : Nat) : noBad l k = if k < l.length then if badAt l k then false else noBad l (k + 1) else true := by rw [noBad]
def valid (l : List Sp) : Bool := if 20000 < (l.length : Int) then false else noBad l 0
def rvalid (l : List Sp) : Bool := noBad l 0 && decide ((l.length : Int) ≤ 20000)

theorem rvalid_len {l : List Sp} (h : rvalid l = true) : l.length ≤ 20000 := by
  simp only [rvalid, Bool.and_eq_true, decide_eq_true_eq] at h
  omega
/-! ### the reference -/
def withFrom (l : List Sp) (k : Nat) (out : List Sp) (put : Bool) (s : Sp) : List Sp × Bool × Sp :=
  if k < l.length then
    if l[k]!.b < s.a then withFrom l (k + 1) (out ++ [l[k]!]) put s
    else if s.b < l[k]!.a then (if put then withFrom l (k + 1) (out ++ [l[k]!]) true s else withFrom l (k + 1) (out ++ [s] ++ [l[k]!]) true s)
    else withFrom l (k + 1) out put ⟨min s.a l[k]!.a, max s.b l[k]!.b⟩
  else (out, put, s)
  termination_by l.length - k
theorem withFrom_eq (l : List Sp) (k : Nat) (out : List Sp) (put : Bool) (s : Sp) : withFrom l k out put s =
  if k < l.length then
    if l[k]!.b < s.a then withFrom l (k + 1) (out ++ [l[k]!]) put s
    else if s.b < l[k]!.a then (if put then withFrom l (k + 1) (out ++ [l[k]!]) true s else withFrom l (k + 1) (out ++ [s] ++ [l[k]!]) true s)
    else withFrom l (k + 1) out put ⟨min s.a l[k]!.a, max s.b l[k]!.b⟩
  else (out, put, s) := by rw [withFrom]
def endWith (x : List Sp × Bool × Sp) : List Sp := if x.2.1 then x.1 else x.1 ++ [x.2.2]
def with1 (l : List Sp) (s : Sp) : List Sp := if s.b ≤ s.a then l else endWith (withFrom l 0 [] false s)
theorem withFrom_len (l : List Sp) : ∀ (n k : Nat) (out : List Sp) (put : Bool) (s : Sp), l.length - k = n → k ≤ l.length → (withFrom l k out put s).1.length + (if (withFrom l k out put s).2.1 then 0 else 1) ≤ out.length + (if put then 0 else 1) + n := by
  intro n
  induction n with
  | zero =>
    intro k out put s h1 h2
    rw [withFrom_eq, if_neg (by omega)]
    exact Nat.le_refl _
  | succ n ih =>
    intro k out put s h1 h2
    rw [withFrom_eq, if_pos (by omega)]
    split
    · have := ih (k + 1) (out ++ [l[k]!]) put s (by omega) (by omega)
      simp only [List.length_append, List.length_cons, List.length_nil] at this
      omega
    · split
      · cases put with
        | true =>
          have := ih (k + 1) (out ++ [l[k]!]) true s (by omega) (by omega)
          simp only [List.length_append, List.length_cons, List.length_nil, if_true] at this ⊢
          omega
        | false =>
          have := ih (k + 1) (out ++ [s] ++ [l[k]!]) true s (by omega) (by omega)
          simp only [List.length_append, List.length_cons, List.length_nil, if_true, if_false, Bool.false_eq_true] at this ⊢
          omega
      · have := ih (k + 1) out put ⟨min s.a l[k]!.a, max s.b l[k]!.b⟩ (by omega) (by omega)
        omega
theorem with1_len (l : List Sp) (s : Sp) : (with1 l s).length ≤ l.length + 1 := by
  unfold with1
  split
  · omega
  · have := withFrom_len l l.length 0 [] false s (by omega) (by omega)
    unfold endWith
    split
    · rename_i h
      simp only [h, List.length_nil, if_true, Bool.false_eq_true, if_false] at this
      omega
    · rename_i h
      simp only [h, List.length_nil, Bool.false_eq_true, if_false] at this
      simp only [List.length_append, List.length_cons, List.length_nil]
      omega
def allFrom (l : List Sp) (k : Nat) (out : List Sp) : List Sp := if k < l.length then allFrom l (k + 1) (with1 out l[k]!) else out
  termination_by l.length - k
theorem allFrom_eq (l : List Sp) (k : Nat) (out : List Sp) : allFrom l k out = if k < l.length then allFrom l (k + 1) (with1 out l[k]!) else out := by rw [allFrom]
def rall (l : List Sp) : List Sp := allFrom l 0 []
theorem allFrom_len (l : List Sp) : ∀ (n k : Nat) (out : List Sp), l.length - k = n → (allFrom l k out).length ≤ out.length + n := by
  intro n
  induction n with
  | zero => intro k out h; rw [allFrom_eq, if_neg (by omega)]; exact Nat.le_refl _
  | succ n ih =>
    intro k out h
    rw [allFrom_eq, if_pos (by omega)]
    have h1 := ih (k + 1) (with1 out l[k]!) (by omega)
    have h2 := with1_len out l[k]!
    omega
theorem rall_len (l : List Sp) : (rall l).length ≤ l.length := by
  have := allFrom_len l l.length 0 [] (by omega)
  simpa [rall] using this
def nbad (l : List Sp) (k : Nat) : Bool := decide (l[k]!.a < 0) || decide (l[k]!.b < l[k]!.a) || decide (20000000 < l[k]!.b)
def nNoBad (l : List Sp) (k : Nat) : Bool := if k < l.length then if nbad l k then false else nNoBad l (k + 1) else true
  termination_by l.length - k
theorem nNoBad_eq (l : List Sp) (k : Nat) : nNoBad l k = if k < l.length then if nbad l k then false else nNoBad l (k + 1) else true := by rw [nNoBad]
def rnormal (l : List Sp) : List Sp × Int := if nNoBad l 0 then if 20000 < (l.length : Int) then ([], 1) else (rall l, 0) else ([], 1)
def rlimited (l : List Sp) : List Sp × Int := if 20000 < (l.length : Int) then ([], 2) else (l, 0)
def reither (a b : List Sp) : List Sp := allFrom b 0 (rall a)
def runion (a b : List Sp) : List Sp × Int := if rvalid a && rvalid b then rlimited (reither a b) else ([], 1)
def both2 (a b : List Sp) (i k : Nat) (out : List Sp) : List Sp := if k < b.length then
    both2 a b i (k + 1) (if max a[i]!.a b[k]!.a < min a[i]!.b b[k]!.b then out ++ [⟨max a[i]!.a b[k]!.a, min a[i]!.b b[k]!.b⟩] else out) else out
  termination_by b.length - k
theorem both2_eq (a b : List Sp) (i k : Nat) (out : List Sp) : both2 a b i k out = if k < b.length then
    both2 a b i (k + 1) (if max a[i]!.a b[k]!.a < min a[i]!.b b[k]!.b then out ++ [⟨max a[i]!.a b[k]!.a, min a[i]!.b b[k]!.b⟩] else out) else out := by rw [both2]
def both1 (a b : List Sp) (i : Nat) (out : List Sp) : List Sp := if i < a.length then both1 a b (i + 1) (both2 a b i 0 out) else out
  termination_by a.length - i
theorem both1_eq (a b : List Sp) (i : Nat) (out : List Sp) : both1 a b i out = if i < a.length then both1 a b (i + 1) (both2 a b i 0 out) else out := by rw [both1]
def rboth (a b : List Sp) : List Sp := both1 a b 0 []
def rcross (a b : List Sp) : List Sp × Int := if rvalid a && rvalid b then rlimited (rboth a b) else ([], 1)
def notFrom (l : List Sp) (k : Nat) (at' : Int) (out : List Sp) : List Sp × Int := if k < l.length then
    notFrom l (k + 1) l[k]!.b (if at' < l[k]!.a then out ++ [⟨at', l[k]!.a⟩] else out) else (out, at')
  termination_by l.length - k
theorem notFrom_eq (l : List Sp) (k : Nat) (at' : Int) (out : List Sp) : notFrom l k at' out = if k < l.length then
    notFrom l (k + 1) l[k]!.b (if at' < l[k]!.a then out ++ [⟨at', l[k]!.a⟩] else out) else (out, at') := by rw [notFrom]
def rnot (l : List Sp) : List Sp := if (notFrom l 0 0 []).2 < 20000000 then (notFrom l 0 0 []).1 ++ [⟨(notFrom l 0 0 []).2, 20000000⟩] else (notFrom l 0 0 []).1
def rminus (a b : List Sp) : List Sp × Int := if rvalid a && rvalid b then rlimited (rboth a (rnot b)) else ([], 1)
def growFrom (l : List Sp) (before after : Int) (k : Nat) (out : List Sp) : List Sp := if k < l.length then
    growFrom l before after (k + 1) (with1 out ⟨max 0 (l[k]!.a - before), min 20000000 (l[k]!.b + after)⟩) else out
  termination_by l.length - k
theorem growFrom_eq (l : List Sp) (before after : Int) (k : Nat) (out : List Sp) : growFrom l before after k out = if k < l.length then
    growFrom l before after (k + 1) (with1 out ⟨max 0 (l[k]!.a - before), min 20000000 (l[k]!.b + after)⟩) else out := by rw [growFrom]
def badGrow (before after : Int) : Bool := decide (before < 0) || decide (20000000 < before) || decide (after < 0) || decide (20000000 < after)
def rgrow (l : List Sp) (before after : Int) : List Sp × Int := if !rvalid l || badGrow before after then ([], 1) else (growFrom l before after 0 [], 0)
def has1 (s : Sp) (t : Int) : Bool := decide (s.a ≤ t) && decide (t < s.b)
def hasFrom (l : List Sp) (t : Int) (k : Nat) : Bool := if k < l.length then if has1 l[k]! t then true else hasFrom l t (k + 1) else false
  termination_by l.length - k
theorem hasFrom_eq (l : List Sp) (t : Int) (k : Nat) : hasFrom l t k = if k < l.length then if has1 l[k]! t then true else hasFrom l t (k + 1) else false := by rw [hasFrom]
def rhas (l : List Sp) (t : Int) : Bool := hasFrom l t 0
def neAt (a b : List Sp) (k : Nat) : Bool := !(a[k]!.a == b[k]!.a && a[k]!.b == b[k]!.b)
def sameFrom (a b : List Sp) (k : Nat) : Bool := if k < a.length then if neAt a b k then false else sameFrom a b (k + 1) else true
  termination_by a.length - k
theorem sameFrom_eq (a b : List Sp) (k : Nat) : sameFrom a b k = if k < a.length then if neAt a b k then false else sameFrom a b (k + 1) else true := by rw [sameFrom]
def rsame (a b : List Sp) : Bool := if (a.length : Int) != b.length then false else sameFrom a b 0
def rfew (l : List Sp) : Bool := decide ((l.length : Int) ≤ 60)

theorem notFrom_len (l : List Sp) : ∀ (n k : Nat) (at' : Int) (out : List Sp), l.length - k = n → (notFrom l k at' out).1.length ≤ out.length + n := by
  intro n
  induction n with
  | zero => intro k at' out h; rw [notFrom_eq, if_neg (by omega)]; exact Nat.le_refl _
  | succ n ih =>
    intro k at' out h
    rw [notFrom_eq, if_pos (by omega)]
    have h1 := ih (k + 1) l[k]!.b (if at' < l[k]!.a then out ++ [⟨at', l[k]!.a⟩] else out) (by omega)
    have h2 : (if at' < l[k]!.a then out ++ [⟨at', l[k]!.a⟩] else out).length ≤ out.length + 1 := by split <;> simp
    omega
theorem rnot_len (l : List Sp) : (rnot l).length ≤ l.length + 1 := by
  have := notFrom_len l l.length 0 0 [] (by omega)
  unfold rnot
  split <;> simp at this ⊢ <;> omega
theorem noBad_at {l : List Sp} : ∀ (n k : Nat), l.length - k = n → noBad l k = true → ∀ j, k ≤ j → j < l.length → badAt l j = false := by
  intro n
  induction n with
  | zero => intro k h _ j h1 h2; omega
  | succ n ih =>
    intro k h hv j h1 h2
    rw [noBad_eq, if_pos (by omega)] at hv
    split at hv
    · cases hv
    · rename_i hb
      by_cases e : j = k
      · subst e; simpa using hb
      · exact ih (k + 1) (by omega) hv j (by omega) h2
theorem valid_at {l : List Sp} (h : noBad l 0 = true) {k : Nat} (hk : k < l.length) : 0 ≤ l[k]!.a ∧ l[k]!.a < l[k]!.b ∧ l[k]!.b ≤ 20000000 ∧ (0 < k → l[k - 1]!.b < l[k]!.a) := by
  have := noBad_at l.length 0 (by omega) h k (by omega) hk
  unfold badAt at this
  simp only [Bool.or_eq_false_iff, Bool.and_eq_false_iff, decide_eq_false_iff_not] at this
  omega
theorem rvalid_at {l : List Sp} (h : rvalid l = true) {k : Nat} (hk : k < l.length) : 0 ≤ l[k]!.a ∧ l[k]!.a < l[k]!.b ∧ l[k]!.b ≤ 20000000 ∧ (0 < k → l[k - 1]!.b < l[k]!.a) := by
  simp only [rvalid, Bool.and_eq_true] at h
  exact valid_at h.1 hk
theorem valid_at' {l : List Sp} (h : valid l = true) {k : Nat} (hk : k < l.length) : 0 ≤ l[k]!.a ∧ l[k]!.a < l[k]!.b ∧ l[k]!.b ≤ 20000000 ∧ (0 < k → l[k - 1]!.b < l[k]!.a) := by
  unfold valid at h
  split at h
  · cases h
  · exact valid_at h hk
theorem valid_len {l : List Sp} (h : valid l = true) : l.length ≤ 20000 := by
  unfold valid at h
  split at h
  · cases h
  · omega

/-! ### package span -/
def unitedFrom (l : List Sp) (k : Nat) (out : List Sp) : List Sp := if k < l.length then
    unitedFrom l (k + 1) (if 0 < out.length ∧ l[k]!.a ≤ out[out.length - 1]!.b then out.set (out.length - 1) ⟨out[out.length - 1]!.a, max out[out.length - 1]!.b l[k]!.b⟩ else out ++ [l[k]!]) else out
  termination_by l.length - k
theorem unitedFrom_eq (l : List Sp) (k : Nat) (out : List Sp) : unitedFrom l k out = if k < l.length then
    unitedFrom l (k + 1) (if 0 < out.length ∧ l[k]!.a ≤ out[out.length - 1]!.b then out.set (out.length - 1) ⟨out[out.length - 1]!.a, max out[out.length - 1]!.b l[k]!.b⟩ else out ++ [l[k]!]) else out := by rw [unitedFrom]
def united (l : List Sp) : List Sp := unitedFrom l 0 []
def siftFrom (l : List Sp) (k : Nat) (out : List Sp) : List Sp := if k < l.length then siftFrom l (k + 1) (if l[k]!.a < l[k]!.b then out ++ [l[k]!] else out) else out
  termination_by l.length - k
theorem siftFrom_eq (l : List Sp) (k : Nat) (out : List Sp) : siftFrom l k out = if k < l.length then siftFrom l (k + 1) (if l[k]!.a < l[k]!.b then out ++ [l[k]!] else out) else out := by rw [siftFrom]
def flatFrom (l : List Sp) (k : Nat) (out : List Int) : List Int := if k < l.length then flatFrom l (k + 1) (out ++ [l[k]!.a, l[k]!.b]) else out
  termination_by l.length - k
theorem flatFrom_eq (l : List Sp) (k : Nat) (out : List Int) : flatFrom l k out = if k < l.length then flatFrom l (k + 1) (out ++ [l[k]!.a, l[k]!.b]) else out := by rw [flatFrom]
def growSFrom (l : List Sp) (before after : Int) (k : Nat) (out : List Sp) : List Sp := if k < l.length then
    growSFrom l before after (k + 1) (out ++ [⟨max 0 (l[k]!.a - before), min 20000000 (l[k]!.b + after)⟩]) else out
  termination_by l.length - k
theorem growSFrom_eq (l : List Sp) (before after : Int) (k : Nat) (out : List Sp) : growSFrom l before after k out = if k < l.length then
    growSFrom l before after (k + 1) (out ++ [⟨max 0 (l[k]!.a - before), min 20000000 (l[k]!.b + after)⟩]) else out := by rw [growSFrom]
def grow (l : List Sp) (before after : Int) : List Sp × Int := if !valid l || badGrow before after then ([], 1) else (united (growSFrom l before after 0 []), 0)
def spansFrom (l : List Int) (i : Nat) (out : List Sp) : List Sp := if i + 1 < l.length then spansFrom l (i + 2) (out ++ [⟨l[i]!, l[i + 1]!⟩]) else out
  termination_by l.length - i
theorem spansFrom_eq (l : List Int) (i : Nat) (out : List Sp) : spansFrom l i out = if i + 1 < l.length then spansFrom l (i + 2) (out ++ [⟨l[i]!, l[i + 1]!⟩]) else out := by rw [spansFrom]
def spans (l : List Int) : List Sp := spansFrom l 0 []
def sift (l : List Sp) : List Sp := siftFrom l 0 []
def flatL (l : List Sp) : List Int := flatFrom l 0 []
def lt1 (s : Sp) : Bool := decide (s.a < s.b)
theorem lt1_t {s : Sp} : lt1 s = true ↔ s.a < s.b := by simp [lt1]
theorem lt1_f {s : Sp} : lt1 s = false ↔ ¬ s.a < s.b := by simp [lt1]
def cmpI (a b : Int) : Int := if a < b then -1 else if b < a then 1 else 0
def idxFrom (l : List Sp) (t : Int) (k : Nat) : Int := if k < l.length then if has1 l[k]! t then (k : Int) else idxFrom l t (k + 1) else -1
  termination_by l.length - k
theorem idxFrom_eq (l : List Sp) (t : Int) (k : Nat) : idxFrom l t k = if k < l.length then if has1 l[k]! t then (k : Int) else idxFrom l t (k + 1) else -1 := by rw [idxFrom]
theorem idx_has (l : List Sp) (t : Int) : ∀ (n k : Nat), l.length - k = n → decide (0 ≤ idxFrom l t k) = hasFrom l t k := by
  intro n
  induction n with
  | zero =>
    intro k h
    have hk : ¬ k < l.length := by omega
    rw [idxFrom_eq l t k, hasFrom_eq l t k]
    simp only [hk, if_false]
    rfl
  | succ n ih =>
    intro k h
    have hk : k < l.length := by omega
    rw [idxFrom_eq l t k, hasFrom_eq l t k]
    simp only [hk, if_true]
    cases hh : has1 l[k]! t with
    | true => simp
    | false => simp only [Bool.false_eq_true, if_false]; exact ih (k + 1) (by omega)
theorem siftFrom_len (l : List Sp) : ∀ (n k : Nat) (out : List Sp), l.length - k = n → (siftFrom l k out).length ≤ out.length + n := by
  intro n
  induction n with
  | zero => intro k out h; rw [siftFrom_eq, if_neg (by omega)]; exact Nat.le_refl _
  | succ n ih =>
    intro k out h
    rw [siftFrom_eq, if_pos (by omega)]
    have h1 := ih (k + 1) (if l[k]!.a < l[k]!.b then out ++ [l[k]!] else out) (by omega)
    have h2 : (if l[k]!.a < l[k]!.b then out ++ [l[k]!] else out).length ≤ out.length + 1 := by split <;> simp
    omega
theorem sift_len (l : List Sp) : (sift l).length ≤ l.length := by simpa [sift] using siftFrom_len l l.length 0 [] (by omega)
theorem flatFrom_len (l : List Sp) : ∀ (n k : Nat) (out : List Int), l.length - k = n → (flatFrom l k out).length = out.length + 2 * n := by
  intro n
  induction n with
  | zero => intro k out h; rw [flatFrom_eq, if_neg (by omega)]; rfl
  | succ n ih =>
    intro k out h
    rw [flatFrom_eq, if_pos (by omega), ih (k + 1) _ (by omega)]
    simp; omega
theorem flat_len (l : List Sp) : (flatL l).length = 2 * l.length := by simpa [flatL] using flatFrom_len l l.length 0 [] (by omega)
/-! ### lists of numbers -/
def iD (n : Int) : List D := [.i n]
def iOf : List D → Int
  | [.v (.int _ n)] => n
  | _ => 0
attribute [go_sem] iD
@[go_sem] theorem iOf_v {k : IntKind} {n : Int} : iOf [.v (.int k n)] = n := rfl
def ints : D → List Int
  | .list _ rows => rows.map iOf
  | _ => []
theorem iOf_map (l : List Int) : (l.map iD).map iOf = l := by
  induction l with
  | nil => rfl
  | cons x l ih => simp only [List.map_cons, ih]; rfl
@[go_sem] theorem ints_list {f : Bool} {rows : List (List D)} : ints (.list f rows) = rows.map iOf := rfl
@[go_sem] theorem ints_map' {f : Bool} {l : List Int} : ints (.list f (l.map iD)) = l := iOf_map l
@[go_sem] theorem ints_nil {f : Bool} : ints (.list f []) = [] := rfl
@[go_sem] theorem wkr_i {l : List Int} : wkr (l.map iD) = l.map iD := by
  induction l with
  | nil => rfl
  | cons x l ih => simp only [List.map_cons, wkr, ih]; rfl
@[go_sem] theorem nrr_i {l : List Int} : nrr (l.map iD) = true := by
  induction l with
  | nil => rfl
  | cons x l ih => simp only [List.map_cons, nrr, ih]; rfl
theorem getD_i {l : List Int} {n : Nat} (h : n < l.length) : (l.map iD).getD n [] = iD l[n]! := by
  simp [List.getD, h, getElem!_pos]
def bool1 : D → Bool
  | .v (.bool b) => b
  | _ => false
@[go_sem] theorem bool1_v {b : Bool} : bool1 (.v (.bool b)) = b := rfl
def hasT : D → Int
  | .fn _ _ [.eptr [.v (.int _ n)]] => n
  | _ => 0
@[go_sem] theorem hasT_fn {f : Fn} {a : List D} {k : IntKind} {n : Int} : hasT (.fn f a [.eptr [.v (.int k n)]]) = n := rfl
def ptrT : D → Int
  | .eptr [.v (.int _ n)] => n
  | _ => 0
@[go_sem] theorem ptrT_v {k : IntKind} {n : Int} : ptrT (.eptr [.v (.int k n)]) = n := rfl
def fnNo : D → Nat
  | .fn (.func k) _ _ => k
  | _ => 0
@[go_sem] theorem fnNo_fn {k : Nat} {a b : List D} : fnNo (.fn (.func k) a b) = k := rfl
def cnt (c : Nat) (x y : Bool) : Bool := if c = 35 then x || y else if c = 38 then x && y else x && !y
end Go.Span
