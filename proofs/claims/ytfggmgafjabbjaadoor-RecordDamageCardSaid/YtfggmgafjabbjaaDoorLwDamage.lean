import Derived.Test.YtfggmgafjabbjaaDoorLwW2
import Derived.Test.YtfggmgafjabbjaaDoorRec7
import Derived.Test.YtfggmgafjabbjaaDoorDFrame
set_option linter.unusedVariables false
namespace Go.DL
open Go.RowKit
variable {P : Program} {C : Con} {B : Nat}

/-- a load (at j, its address in the slot tx) beside a store behind it in the text (at i, its address in the slot ty) -/
structure Pair where
  (j i : Nat) (tx ty : Tmp)
def loadAt (o : Oper) (z : Tmp) : Bool := (match o.op with | .load _ (.tmp t) => t == z | _ => false) && o.guard.isNone
def storeAt (o : Oper) (z : Tmp) : Bool := (match o.op with | .store _ (.tmp t) _ => t == z | _ => false) && o.guard.isNone
def keepFrom (L : List Oper) (k : Nat) (z : Tmp) : Bool := (List.range L.length).all fun m => decide (m < k) || (L.getD m default).dst != some z
def pairOk (L : List Oper) (p : Pair) : Bool := loadAt (L.getD p.j default) p.tx && storeAt (L.getD p.i default) p.ty && slotsB L (L.getD p.j default) (L.getD p.i default) && keepFrom L p.j p.tx && keepFrom L p.i p.ty
def isPair (ps : List Pair) (j i : Nat) : Bool := ps.any fun p => p.j == j && p.i == i
def commOk3 (C : Con) (L : List Oper) (ps : List Pair) : Bool :=
  let B := befs L []
  L.all (callsPure C) && ps.all (pairOk L) && (List.range L.length).all fun i => (List.range i).all fun j => (B.getD i 0).testBit j || isPair ps j i || apart2 C L (L.getD j default) (L.getD i default)
/-- the addresses name different blocks -/
def Far (a b : D) : Prop := ∀ r, named r (sd b) = true → named r (sd a) = false

theorem loadAt_spec {o : Oper} {z : Tmp} (h : loadAt o z = true) : reader o = true ∧ opArgs o.op = [.tmp z] := by
  simp only [loadAt, Bool.and_eq_true] at h
  obtain ⟨h1, h2⟩ := h
  split at h1
  · rename_i t u e
    have : u = z := by simpa using h1
    subst this
    simp [reader, readOp, e, h2, opArgs]
  · cases h1
theorem storeAt_spec {o : Oper} {z : Tmp} (h : storeAt o z = true) : ∃ t y, o.op = .store t (.tmp z) y ∧ o.guard = none := by
  simp only [storeAt, Bool.and_eq_true, Option.isNone_iff_eq_none] at h
  obtain ⟨h1, h2⟩ := h
  split at h1
  · rename_i t u y e
    have : u = z := by simpa using h1
    subst this
    exact ⟨t, y, e, h2⟩
  · cases h1
theorem store_out [Glob P] {W : Words} {L : List Oper} {b i : Nat} {o : Oper} {z : Tmp} {s : S} {h : H} (hy : storeAt o z = true) :
    (outD P W C L b i o s.n s.ev s.t h).2.1 = h ∨ ∃ r bl, named r (sd (s.t z)) = true ∧ (outD P W C L b i o s.n s.ev s.t h).2.1 = upd h r (some bl) := by
  obtain ⟨t, y, e, hg⟩ := storeAt_spec hy
  have e1 : (outD P W C L b i o s.n s.ev s.t h).2.1 = (stH P t (sd (s.t z)) (sd (s.ev y)) h).1 := by
    simp only [outD, hg, e, effG, isPick, Bool.false_eq_true, if_false, eff, opArgs, List.map_cons, List.map_nil]
    rfl
  rw [e1]
  generalize sd (s.t z) = a
  cases a with
  | mptr r k off =>
    cases hr : h r with
    | none => left; simp only [stH, hr]
    | some bl => right; exact ⟨r, { bl with rows := bl.rows.set k (splice (bl.rows.getD k []) off (sd (s.ev y)).cells) }, by simp [named], by simp only [stH, hr]⟩
  | _ => left; rfl

theorem exec1_comm3 [Glob P] {W : Words} {L : List Oper} {b i j : Nat} {x y : Oper} {tx ty : Tmp} {s : S} (hs : slotsB L x y = true) (hx : loadAt x tx = true) (hy : storeAt y ty = true) (hf : Far (s.t tx) (s.t ty)) :
    exec1 P W C L b i y (exec1 P W C L b j x s) = exec1 P W C L b j x (exec1 P W C L b i y s) := by
  obtain ⟨hr, ha⟩ := loadAt_spec hx
  refine exec1_swap hs fun rx ry hx1 hy1 px py e1 e2 => ?_
  have hxs : hx1 = s.h := by
    have := out_reads (P := P) (W := W) (L := L) (b := b) (i := j) (ev := s.ev) (t := s.t) (n := s.n) (h := s.h) (C := C) (o := x) (reader_cls hr)
    rw [e1] at this; exact this
  subst hxs
  refine ⟨hy1, e2, ?_⟩
  have hst := store_out (P := P) (W := W) (C := C) (L := L) (b := b) (i := i) (s := s) (h := s.h) hy
  rw [e2] at hst
  rcases hst with e | ⟨r, bl, hn, e⟩
  · simp only at e
    rw [e, e1]
  · simp only at e
    have e3 := reader_out (P := P) (C := C) (W := W) (L := L) (b := b) (i := j) (ev := s.ev) (t := s.t) (n := s.n) (h := s.h) (bl := bl) (m := r) hr (.inl (by
      intro d hd
      rw [ha] at hd
      simp only [List.map_cons, List.map_nil, List.mem_singleton] at hd
      subst hd
      exact hf r hn))
    rw [e, e3, e1]

theorem keep1 [Glob P] {W : Words} {L : List Oper} {b : Nat} {z : Tmp} {s : S} {k : Nat} (h : ∀ o, L[k]? = some o → o.dst ≠ some z) : (run1 P W C L b s k).t z = s.t z := by
  unfold run1
  cases hk : L[k]? with
  | none => rfl
  | some o =>
    have := h o hk
    simp only
    rw [exec1_out]
    show S.put s o.dst _ z = s.t z
    cases hd : o.dst with
    | none => rfl
    | some d => exact upd_ne _ _ _ _ fun e => this (by rw [hd, e])
theorem keeps [Glob P] {W : Words} {L : List Oper} {b : Nat} {z : Tmp} : ∀ (l : List Nat) (s : S), (∀ k ∈ l, ∀ o, L[k]? = some o → o.dst ≠ some z) → (l.foldl (run1 P W C L b) s).t z = s.t z
  | [], s, _ => rfl
  | k :: l, s, h => by
    simp only [List.foldl_cons]
    rw [keeps l _ fun m hm => h m (by simp [hm]), keep1 (h k (by simp))]
theorem keepFrom_spec {L : List Oper} {k : Nat} {z : Tmp} (h : keepFrom L k z = true) {m : Nat} (hm : k ≤ m) : ∀ o, L[m]? = some o → o.dst ≠ some z := by
  intro o ho
  have hl : m < L.length := (List.getElem?_eq_some_iff.1 ho).1
  simp only [keepFrom, List.all_eq_true, List.mem_range, Bool.or_eq_true, decide_eq_true_eq, bne_iff_ne] at h
  rcases h m hl with h | h
  · omega
  · simpa only [List.getD, ho, Option.getD_some] using h

theorem fold_front3 [Glob P] {W : Words} {L : List Oper} {b i : Nat} {y : Oper} {ps : List Pair} (hcp : L.all (callsPure C) = true) (hps : ∀ p ∈ ps, pairOk L p = true) (hi : L[i]? = some y) : ∀ (pre : List Nat) (s : S), (∀ j ∈ pre, j ≠ i ∧ ∀ x, L[j]? = some x → (isPair ps j i = true ∨ apart2 C L x y = true)) →
    (∀ p ∈ ps, p.i = i → ∀ pre1 pre2, pre = pre1 ++ p.j :: pre2 → Far ((pre1.foldl (run1 P W C L b) s).t p.tx) (s.t p.ty)) →
    (reader y = true → ∀ j ∈ pre, ∀ d ∈ (opArgs y.op).map s.ev, named (b + j) (sd d) = false) → s.h (b + i) = none → (pre.foldl (run1 P W C L b) s).ok →
    run1 P W C L b (pre.foldl (run1 P W C L b) s) i = pre.foldl (run1 P W C L b) (run1 P W C L b s i)
  | [], s, _, _, _, _, _ => rfl
  | j :: pre, s, h, hf, hr, hh, hok => by
    simp only [List.foldl_cons] at hok ⊢
    have hji := (h j (by simp)).1
    have hok1 := run1_ok hok
    have hgetY : L.getD i default = y := by simp only [List.getD, hi, Option.getD_some]
    cases hj : L[j]? with
    | none =>
      have e : ∀ u, run1 P W C L b u j = u := fun u => by simp only [run1, hj]
      rw [e s, e] at *
      refine fold_front3 hcp hps hi pre s (fun k hk => h k (by simp [hk])) (fun p hp hpi pre1 pre2 hsp => ?_) (fun hry k hk => hr hry k (by simp [hk])) hh hok
      have := hf p hp hpi (j :: pre1) pre2 (by simp [hsp])
      simp only [List.foldl_cons, e] at this
      exact this
    | some x =>
      have hap := (h j (by simp)).2 x hj
      have hgetX : L.getD j default = x := by simp only [List.getD, hj, Option.getD_some]
      have e : ∀ u, run1 P W C L b u j = exec1 P W C L b j x u := fun u => by simp only [run1, hj]
      have e' : ∀ u, run1 P W C L b u i = exec1 P W C L b i y u := fun u => by simp only [run1, hi]
      have hsl : slotsB L x y = true := by
        rcases hap with hap | hap
        · simp only [isPair, List.any_eq_true, Bool.and_eq_true, beq_iff_eq] at hap
          obtain ⟨p, hp, h1, h2⟩ := hap
          have := hps p hp
          simp only [pairOk, Bool.and_eq_true, h1, h2, hgetX, hgetY] at this
          exact this.1.1.2
        · exact apart2_slots hap
      have hstep : run1 P W C L b (run1 P W C L b s j) i = run1 P W C L b (run1 P W C L b s i) j := by
        rw [e, e, e', e']
        rcases hap with hap | hap
        · simp only [isPair, List.any_eq_true, Bool.and_eq_true, beq_iff_eq] at hap
          obtain ⟨p, hp, h1, h2⟩ := hap
          have hk := hps p hp
          simp only [pairOk, Bool.and_eq_true, h1, h2, hgetX, hgetY] at hk
          exact exec1_comm3 hsl hk.1.1.1.1 hk.1.1.1.2 (hf p hp h2 [] pre (by simp [h1]))
        · refine exec1_comm2 hap (fun _ hry => hr hry j (by simp)) fun _ _ => ⟨hh, ?_⟩
          rw [e, exec1_out] at hok1
          exact hok1.2
      rw [← hstep]
      refine fold_front3 hcp hps hi pre _ (fun k hk => h k (by simp [hk])) (fun p hp hpi pre1 pre2 hsp => ?_) (fun hry k hk => ?_) ?_ hok
      · have h1 := hf p hp hpi (j :: pre1) pre2 (by simp [hsp])
        simp only [List.foldl_cons] at h1
        have hk := hps p hp
        simp only [pairOk, Bool.and_eq_true, hpi, hgetY] at hk
        obtain ⟨t, yy, ho, _⟩ := storeAt_spec hk.1.1.1.2
        have hlk := slots_looks (P := P) (W := W) (C := C) (L := L) (b := b) (i := j) (s := s) hsl
        rw [ho] at hlk
        simp only [opArgs, List.map_cons, List.cons.injEq] at hlk
        have hlk1 : (exec1 P W C L b j x s).t p.ty = s.t p.ty := hlk.1
        rw [e] at h1 ⊢
        rw [hlk1]
        exact h1
      · rw [e, slots_looks hsl]
        exact hr hry k (by simp [hk])
      · rw [e]
        exact exec1_keeps (List.all_eq_true.1 hcp x (List.mem_of_getElem? hj)) (by omega) hh
theorem draw_sound3 [Glob P] {ops : Array Oper} {b : Nat} {ro : Option Nat} {n : Nat} {Q : Exit → Act → World → Prop} {w0 : World} {g0 : Mem} {fin : S} {ps : List Pair} (hcomm : commOk3 C ops.toList ps = true) (hfar : ∀ p ∈ ps, Far (fin.t p.tx) (fin.t p.ty)) :
    ∀ (fuel : Nat) (listed : Array Bool) (s : S) (g : Mem) (a : Act) (w : World), listed.size = ops.size → (todo ops.size listed).length ≤ fuel → (∀ (i : Nat) o, ops.toList[i]? = some o → listed.getD i false = true → ∀ e ∈ o.after.toList, Region.binds .any e = true → listed.getD e.on false = true) →
      (∀ (i : Nat) o, ops.toList[i]? = some o → ∀ e ∈ o.after.toList, Region.binds .any e = true → e.on < i) →
      St P B s g a w → Mono g0 g w0 w → (∀ r, g.U r → r < b ∨ ∃ i, listed.getD i false = true ∧ i < ops.size ∧ r = b + i) → (todo ops.size listed).foldl (run1 P (words P) C ops.toList b) s = fin → fin.ok →
      (∀ g' a' w', St P B fin g' a' w' → Mono g0 g' w0 w' → (∀ r, g'.U r → r < b + ops.size) → Q .normal a' w') →
      wpAnyIn (Fw ro) n P .any ops Q fuel listed a w := by
  have hcp : ops.toList.all (callsPure C) = true := by unfold commOk3 at hcomm; simp only [Bool.and_eq_true] at hcomm; exact hcomm.1.1
  have hps : ∀ p ∈ ps, pairOk ops.toList p = true := by unfold commOk3 at hcomm; simp only [Bool.and_eq_true, List.all_eq_true] at hcomm; exact hcomm.1.2
  have hcm := hcomm
  unfold commOk3 at hcm
  simp only [Bool.and_eq_true] at hcm
  have hcm := hcm.2
  simp only [List.all_eq_true, List.mem_range, Bool.or_eq_true] at hcm
  intro fuel
  induction fuel with
  | zero =>
    intro listed s g a w hsz hfu hX hback hs hm hU hfin hok hQ
    have hnil : todo ops.size listed = [] := List.eq_nil_of_length_eq_zero (by omega)
    rw [hnil] at hfin
    simp only [List.foldl_nil] at hfin
    subst hfin
    refine ⟨?_, hQ g a w hs hm fun r hr => ?_⟩
    · unfold Region.ready
      rw [List.filter_eq_nil_iff]
      intro i hi
      have h1 : i ∉ todo ops.size listed := by rw [hnil]; simp
      simp only [todo, List.mem_filter, hi, true_and, Bool.not_eq_true', Bool.not_eq_false] at h1
      have hil : i < listed.size := by rw [hsz]; simpa using hi
      have h2 : listed.getD i true = true := by simp [Array.getD, hil] at h1 ⊢; exact h1
      simp [h2]
    · rcases hU r hr with h | ⟨i, _, h, rfl⟩ <;> omega
  | succ fuel ih =>
    intro listed s g a w hsz hfu hX hback hs hm hU hfin hok hQ
    refine ⟨fun hrd => ?_, fun i hi => ?_⟩
    · -- nothing is ready: all is done
      have hnil : todo ops.size listed = [] := by
        rw [todo, List.filter_eq_nil_iff]
        intro i hi
        simp only [Bool.not_eq_true', Bool.not_eq_false]
        have hlt : i < ops.size := by simpa using hi
        have : ∀ k, k < ops.size → listed.getD k false = true := by
          intro k
          induction k using Nat.strongRecOn with
          | _ k ihk =>
            intro hk
            have h0 : k ∉ Region.ready .any ops listed := by rw [hrd]; simp
            unfold Region.ready at h0
            simp only [List.mem_filter, List.mem_range, hk, true_and] at h0
            have hkl : k < listed.size := by omega
            cases hq : listed.getD k false with
            | true => rfl
            | false =>
              exfalso
              apply h0
              have h2 : listed.getD k true = false := by simp [Array.getD, hkl] at hq ⊢; exact hq
              have h3 : ops[k]? = some ops[k] := by simp [hk]
              simp only [h2, Bool.not_false, h3, Option.map_some, Option.getD_some, Bool.true_and]
              rw [Array.all_eq_true]
              intro q hqq
              simp only [Bool.or_eq_true, Bool.not_eq_true']
              cases hb : Region.binds .any (ops[k].after[q]) with
              | false => exact .inl rfl
              | true =>
                have hmem : ops[k].after[q] ∈ ops[k].after.toList := by simp
                have h4 := hback k ops[k] (by simp [hk]) _ hmem hb
                exact .inr (ihk _ h4 (by omega))
        exact this i hlt
      rw [hnil] at hfin
      simp only [List.foldl_nil] at hfin
      subst hfin
      exact hQ g a w hs hm fun r hr => by rcases hU r hr with h | ⟨i, _, h, rfl⟩ <;> omega
    · unfold Region.ready at hi
      simp only [List.mem_filter, List.mem_range, Bool.and_eq_true, Bool.not_eq_true'] at hi
      obtain ⟨hlt, h1, h2⟩ := hi
      have h3 : ops[i]? = some ops[i] := by simp [hlt]
      have h3L : ops.toList[i]? = some ops[i] := by simp [hlt]
      simp only [h3, Option.map_some, Option.getD_some] at h2
      have hil : i < listed.size := by omega
      have h1f : listed.getD i false = false := by simp [Array.getD, hil] at h1 ⊢; exact h1
      have hpred : ∀ e ∈ (ops[i]).after.toList, Region.binds .any e = true → listed.getD e.on false = true := by
        intro e he hb
        rw [Array.all_eq_true] at h2
        obtain ⟨q, hq, rfl⟩ := Array.mem_iff_getElem.1 (Array.mem_toList_iff.1 he)
        have := h2 q hq
        simp only [hb, Bool.not_true, Bool.false_or] at this
        exact this
      -- i among what is to be done
      have hmem : i ∈ todo ops.size listed := by simp [todo, hlt]; simpa using h1f
      obtain ⟨pre, post, hsplit⟩ := List.append_of_mem hmem
      have hsorted : (todo ops.size listed).Pairwise (· < ·) := List.Pairwise.filter _ List.pairwise_lt_range
      rw [hsplit] at hsorted
      have hpre : ∀ j ∈ pre, j < i := fun j hj => (List.pairwise_append.1 hsorted).2.2 j hj i (by simp)
      have hpost : ∀ j ∈ post, i < j := fun j hj => (List.pairwise_cons.1 (List.pairwise_append.1 hsorted).2.1).1 j hj
      have hap : ∀ j ∈ pre, j ≠ i ∧ ∀ x, ops.toList[j]? = some x → (isPair ps j i = true ∨ apart2 C ops.toList x ops[i] = true) := by
        intro j hj
        have hjl := hpre j hj
        refine ⟨by omega, fun x hx => ?_⟩
        have hjm : j ∈ todo ops.size listed := by rw [hsplit]; simp [hj]
        have hjn : listed.getD j false = false := by simp only [todo, List.mem_filter, Bool.not_eq_true'] at hjm; exact hjm.2
        have e1 : ops.toList.getD j default = x := by simp only [List.getD, hx, Option.getD_some]
        have e2 : ops.toList.getD i default = ops[i] := by simp only [List.getD, h3L, Option.getD_some]
        rcases hcm i (by simpa using hlt) j hjl with (h | h) | h
        · exfalso
          have := bef_closed (L := ops.toList) (X := fun k => listed.getD k false = true) hX i _ h3L hpred j h
          rw [hjn] at this; cases this
        · exact .inl h
        · rw [e1, e2] at h; exact .inr h
      have hslot : ∀ j ∈ pre, ∀ x, ops.toList[j]? = some x → slotsB ops.toList x ops[i] = true := by
        intro j hj x hx
        have e1 : ops.toList.getD j default = x := by simp only [List.getD, hx, Option.getD_some]
        have e2 : ops.toList.getD i default = ops[i] := by simp only [List.getD, h3L, Option.getD_some]
        rcases (hap j hj).2 x hx with h | h
        · simp only [isPair, List.any_eq_true, Bool.and_eq_true, beq_iff_eq] at h
          obtain ⟨p, hp, h1, h2⟩ := h
          have := hps p hp
          simp only [pairOk, Bool.and_eq_true, h1, h2, e1, e2] at this
          exact this.1.1.2
        · exact apart2_slots h
      have hnU : ∀ j, j ∈ todo ops.size listed → ¬ g.U (b + j) := by
        intro j hjm hu
        have hjn : listed.getD j false = false := by simp only [todo, List.mem_filter, Bool.not_eq_true'] at hjm; exact hjm.2
        rcases hU _ hu with h | ⟨k, hk, _, e⟩
        · omega
        · have : k = j := by omega
          subst this; rw [hjn] at hk; cases hk
      have hh0 : s.h (b + i) = none := by
        cases hq : s.h (b + i) with
        | none => rfl
        | some bl =>
          obtain ⟨blk, c', q1, _⟩ := hs.mem.blk _ bl hq
          exact absurd (hs.mem.used _ (by rw [q1]; simp)) (hnU i hmem)
      have hok0 := hok
      rw [← hfin, hsplit, List.foldl_append, List.foldl_cons] at hok0
      have hok1 := run1_ok hok0
      have hokp : (pre.foldl (run1 P (words P) C ops.toList b) s).ok := by
        unfold run1 at hok1
        rw [h3L] at hok1
        exact exec1_ok hok1
      have hnam : reader ops[i] = true → ∀ j ∈ pre, ∀ d ∈ (opArgs (ops[i]).op).map s.ev, named (b + j) (sd d) = false := by
        intro hr j hj d hd
        have hsg : sg d = true := by
          have e := fold_looks (P := P) (W := words P) (C := C) (L := ops.toList) (b := b) (y := ops[i]) pre s hslot
          have hrun' : ∀ u, run1 P (words P) C ops.toList b u i = exec1 P (words P) C ops.toList b i ops[i] u := fun u => by simp [run1, hlt]
          rw [hrun', exec1_out] at hok1
          have h2 := hok1.2
          obtain ⟨r1, r2⟩ := reader_spec hr
          simp only [outD, r2, effG, reads_npick r1, Bool.false_eq_true, if_false] at h2
          have h4 := h2.2.1 trivial
          rw [show (opArgs (ops[i]).op).map (pre.foldl (run1 P (words P) C ops.toList b) s).ev = (opArgs (ops[i]).op).map s.ev from e] at h4
          exact List.all_eq_true.1 h4 d hd
        cases hq : named (b + j) (sd d) with
        | false => rfl
        | true =>
          exfalso
          obtain ⟨z, _, rfl⟩ := List.mem_map.1 hd
          exact hnU j (by rw [hsplit]; simp [hj]) (rep_named (ev_rep hs z) hsg hq)
      have hfr : ∀ p ∈ ps, p.i = i → ∀ pre1 pre2, pre = pre1 ++ p.j :: pre2 → Far ((pre1.foldl (run1 P (words P) C ops.toList b) s).t p.tx) (s.t p.ty) := by
        intro p hp hpi pre1 pre2 hsp
        have hk := hps p hp
        simp only [pairOk, Bool.and_eq_true] at hk
        have f1 := hfar p hp
        have hpp := (List.pairwise_append.1 hsorted).1
        rw [hsp] at hpp
        have hpp2 := (List.pairwise_cons.1 (List.pairwise_append.1 hpp).2.1).1
        have g1 : fin.t p.tx = (pre1.foldl (run1 P (words P) C ops.toList b) s).t p.tx := by
          rw [← hfin, hsplit, hsp, List.append_assoc, List.foldl_append]
          refine keeps _ _ fun k hkm => keepFrom_spec hk.1.2 ?_
          have hjp : p.j < i := hpre p.j (by rw [hsp]; simp)
          simp only [List.cons_append, List.mem_cons, List.mem_append] at hkm
          rcases hkm with h | h | h | h
          · omega
          · have := hpp2 k h; omega
          · omega
          · have := hpost k h; omega
        have g2 : fin.t p.ty = s.t p.ty := by
          rw [← hfin, hsplit, List.foldl_append]
          refine (keeps (i :: post) _ fun k hkm => keepFrom_spec hk.2 ?_).trans ?_
          · rcases List.mem_cons.1 hkm with h | h
            · omega
            · have := hpost k h; omega
          · have e := fold_looks (P := P) (W := words P) (C := C) (L := ops.toList) (b := b) (y := ops[i]) pre s hslot
            have e2 : ops.toList.getD p.i default = ops[i] := by rw [hpi]; simp only [List.getD, h3L, Option.getD_some]
            obtain ⟨t, yy, ho, _⟩ := storeAt_spec hk.1.1.1.2
            rw [e2] at ho
            rw [ho] at e
            simp only [opArgs, List.map_cons, List.cons.injEq] at e
            exact e.1
        rw [← g1, ← g2]
        exact f1
      have hfin' : (pre ++ post).foldl (run1 P (words P) C ops.toList b) (run1 P (words P) C ops.toList b s i) = fin := by
        rw [← hfin, hsplit, List.foldl_append, List.foldl_append, List.foldl_cons, fold_front3 hcp hps h3L pre s hap hfr hnam hh0 hokp]
      have hrun : run1 P (words P) C ops.toList b s i = exec1 P (words P) C ops.toList b i ops[i] s := by simp [run1, hlt]
      rw [hrun] at hfin'
      have hset : ∀ k, (listed.setIfInBounds i true).getD k false = (listed.getD k false || k == i) := by
        intro k
        by_cases e : k = i
        · subst e; simp [Array.getD, hil]
        · rw [getD_set_ne false (Ne.symm e)]
          have : (k == i) = false := by simpa using e
          rw [this, Bool.or_false]
      have htodo : todo ops.size (listed.setIfInBounds i true) = pre ++ post := by
        have e1 : todo ops.size (listed.setIfInBounds i true) = (todo ops.size listed).filter (· != i) := by
          unfold todo
          rw [List.filter_filter]
          refine List.filter_congr fun k _ => ?_
          rw [hset k]
          by_cases e : k = i
          · simp [e]
          · have e2 : (k == i) = false := by simpa using e
            have e3 : (k != i) = true := by simpa using e
            rw [e2, e3, Bool.or_false, Bool.true_and]
        rw [e1, hsplit, List.filter_append, List.filter_cons]
        have p1 : pre.filter (· != i) = pre := List.filter_eq_self.2 fun j hj => by have := hpre j hj; simp; omega
        have p2 : post.filter (· != i) = post := List.filter_eq_self.2 fun j hj => by have := hpost j hj; simp; omega
        simp [p1, p2]
      refine exec1_sound hs (b := b) (N := b + ops.size) (fun h => ?_) (fun r hr => ?_) h3 (run1_ok (by rw [hfin']; exact hok)) fun g' a' w' q1 q2 q3 => ?_
      · rcases hU _ h with h | ⟨k, hk, _, e⟩
        · omega
        · have : k = i := by omega
          subst this; rw [h1f] at hk; cases hk
      · rcases hU r hr with h | ⟨k, _, h, rfl⟩ <;> omega
      · refine ih (listed.setIfInBounds i true) _ g' a' w' (by simp [hsz]) (by rw [htodo]; have := congrArg List.length hsplit; simp at this; simp; omega) (fun k o hk hkl e he hb => ?_) hback q1 (hm.trans q2) (fun r hr => ?_) (by rw [htodo]; exact hfin') hok hQ
        · rw [hset] at hkl ⊢
          simp only [Bool.or_eq_true, beq_iff_eq] at hkl ⊢
          rcases hkl with hkl | rfl
          · exact .inl (hX k o hk hkl e he hb)
          · rw [h3L] at hk; cases hk
            exact .inl (hpred e he hb)
        · rcases q3 r hr with h | rfl
          · rcases hU r h with h | ⟨k, hk, hks, rfl⟩
            · exact .inl h
            · exact .inr ⟨k, by rw [hset, hk]; rfl, hks, rfl⟩
          · exact .inr ⟨i, by rw [hset]; simp, hlt, rfl⟩
theorem dw_region3 [Glob P] {ro : Option Nat} {Q : Exit → S → Prop} {s : S} {id : Nat} {ops : Array Oper} (ps : List Pair) (hd : P.follows .mixedOrders = true ∧ commOk3 C ops.toList ps = true ∧ backOk ops.toList = true)
    (hfar : ∀ p ∈ ps, Far ((exec P (words P) C ops.toList s).t p.tx) ((exec P (words P) C ops.toList s).t p.ty))
    (hok : (exec P (words P) C ops.toList s).ok) (hq : Q .normal (exec P (words P) C ops.toList s).clear) : DW P ro (.region id ops true) Q s := by
  intro B g a w hs hU
  have hs0 : St P B (s.begin ops.toList.length) g a w := ⟨hs.sz, hs.tm, hs.mem, hs.df, hs.en, hs.bd⟩
  have hnx : ∀ (l : List Nat) (u : S), (l.foldl (run1 P (words P) C ops.toList s.nx) u).nx = u.nx := by
    intro l
    induction l with
    | nil => intro u; rfl
    | cons i l ih =>
      intro u
      simp only [List.foldl_cons]
      rw [ih]
      unfold run1
      split
      · exact exec1_n.2
      · rfl
  have hfold := execFrom_fold (P := P) (W := words P) (C := C) (L := ops.toList) (b := s.nx) ops.toList.length 0 (s.begin ops.toList.length) (by omega)
  simp only [List.drop_zero] at hfold
  have hfin : exec P (words P) C ops.toList s = (List.range' 0 ops.toList.length).foldl (run1 P (words P) C ops.toList s.nx) (s.begin ops.toList.length) := hfold
  have hnxf : (exec P (words P) C ops.toList s).nx = s.nx + ops.size := by rw [hfin, hnx]; simp [S.begin]
  have hex : ∀ (l : List Nat) (u : S), (l.foldl (run1 P (words P) C ops.toList s.nx) u).e = u.e := by
    intro l
    induction l with
    | nil => intro u; rfl
    | cons i l ih =>
      intro u
      simp only [List.foldl_cons]
      rw [ih]
      unfold run1
      split
      · unfold exec1; split <;> rfl
      · rfl
  have hef : (exec P (words P) C ops.toList s).clear.e.x = s.e.x := by show (exec P (words P) C ops.toList s).e.x = s.e.x; rw [hfin, hex]; rfl
  have fin : ∀ g' a' w', St P B (exec P (words P) C ops.toList s) g' a' w' → Mono g g' w w' → (∀ r, g'.U r → r < s.nx + ops.size) → ∃ s' g'', Q .normal s' ∧ St P B s' g'' a' w' ∧ MonoX s.e.x g g'' w w' ∧ (∀ r, g''.U r → r < s'.nx) ∧ s'.e.x = s.e.x :=
    fun g' a' w' h1 h2 h3 => ⟨_, g', hq, h1.clear, h2.toX, fun r hr => by show r < (exec P (words P) C ops.toList s).nx; rw [hnxf]; exact h3 r hr, hef⟩
  obtain ⟨h1, h2, h3⟩ := hd
  refine wpIn_region_any h1 ?_
  obtain ⟨hs1, hm1⟩ := drew_st hs0
  have hrep : ∀ i, (Array.replicate ops.size false).getD i false = false := by
    intro i
    by_cases h : i < ops.size <;> simp [Array.getD, h]
  have htodo : todo ops.size (Array.replicate ops.size false) = List.range' 0 ops.toList.length := by
    unfold todo
    rw [List.filter_eq_self.2 (fun i _ => by rw [hrep]; rfl), List.range_eq_range']
    simp
  refine draw_sound3 (C := C) (B := B) (b := s.nx) (fin := exec P (words P) C ops.toList s) h2 hfar ops.size _ (s.begin ops.toList.length) g a _ (by simp) (by rw [htodo]; simp) (fun i o _ hi => by rw [hrep] at hi; cases hi) (fun i o ho e he hb => ?_) hs1 hm1 (fun r hr => .inl (hU r hr)) (by rw [htodo, hfin]) hok fin
  unfold backOk at h3
  simp only [List.all_eq_true, List.mem_range, Bool.or_eq_true, Bool.not_eq_true', decide_eq_true_eq] at h3
  have hil : i < ops.toList.length := (List.getElem?_eq_some_iff.1 ho).1
  have ho' : ops.toList.getD i default = o := by simp only [List.getD, ho, Option.getD_some]
  have := h3 i hil e (by rw [ho']; exact he)
  rcases this with h | h
  · rw [hb] at h; cases h
  · exact h
theorem dw_step3 [Glob P] {ro : Option Nat} {Q : Exit → S → Prop} {s : S} {n nx : Nat} {t : Nat → D} {h : H} {ok : Prop} {e : Env} {id : Nat} {ops : Array Oper} {y : Code} (ps : List Pair) (he : exec P (words P) C ops.toList s = ⟨n, t, h, nx, ok, e⟩)
    (hd : P.follows .mixedOrders = true ∧ commOk3 C ops.toList ps = true ∧ backOk ops.toList = true) (hfar : ∀ p ∈ ps, Far (t p.tx) (t p.ty)) (hok : ok) (hq : DW P ro y Q ⟨n, t, h, nx, True, e⟩) : DW P ro (.seq (.region id ops true) y) Q s :=
  dw_seq (dw_region3 (C := C) ps hd (by rw [he]; exact hfar) (by rw [he]; exact hok) (by rw [he]; exact hq))
theorem dw_reg3 [Glob P] {ro : Option Nat} {Q : Exit → S → Prop} {s : S} {n nx : Nat} {t : Nat → D} {h : H} {ok : Prop} {e : Env} {id : Nat} {ops : Array Oper} (ps : List Pair) (he : exec P (words P) C ops.toList s = ⟨n, t, h, nx, ok, e⟩)
    (hd : P.follows .mixedOrders = true ∧ commOk3 C ops.toList ps = true ∧ backOk ops.toList = true) (hfar : ∀ p ∈ ps, Far (t p.tx) (t p.ty)) (hok : ok) (hq : Q .normal ⟨n, t, h, nx, True, e⟩) : DW P ro (.region id ops true) Q s :=
  dw_region3 (C := C) ps hd (by rw [he]; exact hfar) (by rw [he]; exact hok) (by rw [he]; exact hq)
end Go.DL
set_option linter.unusedVariables false
set_option linter.unusedSimpArgs false
namespace Go.Rec
open Go.DL Go.Str Go.Cmp

def withData (s : RSet) (l : List Dat) : RSet := ⟨s.name, s.ty, s.life, l⟩
theorem bad_of {s : RSet} (h : ¬ SetOk s) : setOk s = false := by
  cases q : setOk s with
  | false => rfl
  | true => exact absurd ((setOk_iff s).1 q) h
theorem sw_at1 {l : List Dat} {i j : Nat} (hi : i < l.length) (hj : j < l.length) (hij : i ≠ j) : (sw l i j)[i]! = l[j]! ∧ (sw l i j)[j]! = l[i]! := by
  unfold sw
  constructor
  · rw [getElem!_pos _ i (by simp; exact hi), List.getElem_set_ne (Ne.symm hij), List.getElem_set_self]
  · rw [getElem!_pos _ j (by simp; exact hj), List.getElem_set_self]
/-- two data exchanged -/
theorem bad_swap {s : RSet} (h : SetOk s) {k : Nat} (h0 : 0 < k) (hk : k < s.data.length) : setOk (withData s (sw s.data (k - 1) k)) = false := by
  refine bad_of fun q => ?_
  have h1 := at_of_strict q.sorted (i := k - 1) (j := k) (by omega) (by show k < (sw _ _ _).length; rw [sw_len]; exact hk)
  have h2 := at_of_strict h.sorted (i := k - 1) (j := k) (by omega) hk
  have h3 := sw_at1 (l := s.data) (i := k - 1) (j := k) (by omega) hk (by omega)
  have h1 : datC (sw s.data (k - 1) k)[k - 1]! (sw s.data (k - 1) k)[k]! < 0 := h1
  rw [h3.1, h3.2] at h1
  have := cm_dat.anti s.data[k - 1]! s.data[k]!
  omega
/-- one twice -/
theorem bad_twice {s : RSet} (h : SetOk s) : setOk (withData s (s.data ++ [s.data[s.data.length - 1]!])) = false := by
  refine bad_of fun q => ?_
  have hl := h.len
  have h1 := at_of_strict q.sorted (i := s.data.length - 1) (j := s.data.length) (by omega) (by show _ < (s.data ++ _).length; simp)
  have h1 : datC (s.data ++ [s.data[s.data.length - 1]!])[s.data.length - 1]! (s.data ++ [s.data[s.data.length - 1]!])[s.data.length]! < 0 := h1
  have e1 : (s.data ++ [s.data[s.data.length - 1]!])[s.data.length - 1]! = s.data[s.data.length - 1]! := by
    rw [getElem!_pos _ _ (by simp; omega), List.getElem_append_left (by omega), getElem!_pos s.data _ (by omega)]
  have e2 : (s.data ++ [s.data[s.data.length - 1]!])[s.data.length]! = s.data[s.data.length - 1]! := getBang_app rfl
  rw [e1, e2, cm_dat.self] at h1
  omega
theorem mem_set {l : List Dat} {k : Nat} (hk : k < l.length) (d : Dat) : d ∈ l.set k d := List.mem_set hk d
theorem bad_dat {s : RSet} {k : Nat} (hk : k < s.data.length) {d : Dat} (hd : inR s.ty 1 8 = true → datOk (ruleAt s.ty.toNat) d = false) : setOk (withData s (s.data.set k d)) = false := by
  refine bad_of fun q => ?_
  have := q.dat d (mem_set hk d)
  rw [show (withData s (s.data.set k d)).ty = s.ty from rfl, hd q.ty] at this
  cases this
theorem dat_neg {t : Int} {d : Dat} (h : d.n < 0 ∨ d.m < 0) (ht : inR t 1 8 = true) : datOk (ruleAt t.toNat) d = false := by
  cases q : datOk (ruleAt t.toNat) d with
  | false => rfl
  | true =>
    have := datOk_sz ht q
    omega
theorem bad_m {s : RSet} {k : Nat} (hk : k < s.data.length) : setOk (withData s (s.data.set k ⟨s.data[k]!.t, s.data[k]!.n, -1⟩)) = false :=
  bad_dat hk (dat_neg (.inr (by show (-1 : Int) < 0; omega)))
theorem bad_n {s : RSet} {k : Nat} (hk : k < s.data.length) : setOk (withData s (s.data.set k ⟨s.data[k]!.t, -1, s.data[k]!.m⟩)) = false :=
  bad_dat hk (dat_neg (.inl (by show (-1 : Int) < 0; omega)))
theorem label_bad (l : Str) : labelOk (l ++ [95]) = false := by
  unfold labelOk
  have : allN (l ++ [95]).length (okAt (l ++ [95])) 0 = false := by
    cases q : allN (l ++ [95]).length (okAt (l ++ [95])) 0 with
    | false => rfl
    | true =>
      have := (allN_iff _ _ _).1 q l.length (Nat.zero_le _) (by simp)
      have e : (l ++ [95]).getD l.length 0 = 95 := by simp [List.getD]
      unfold okAt at this
      rw [e] at this
      simp [alnum] at this
  rw [this]; rfl
theorem name_bad (t : Str) : nameOk (t ++ [95]) = false := by
  unfold nameOk
  have h1 : ¬ t ++ [95] = [46] := by
    intro e
    have := congrArg List.getLast? e
    simp at this
  rw [if_neg h1]
  split
  · rfl
  · have hs : splitF (t ++ [95]) = (split t).set ((split t).length - 1) ((split t)[(split t).length - 1]! ++ [95]) := by
      rw [splitF_split, split_snoc]
      unfold splitStep
      rw [if_neg (by decide)]
    have hp : 0 < (split t).length := List.length_pos_iff.2 (split_ne t)
    have : allN (splitF (t ++ [95])).length (partOk (splitF (t ++ [95]))) 0 = false := by
      cases q : allN (splitF (t ++ [95])).length (partOk (splitF (t ++ [95]))) 0 with
      | false => rfl
      | true =>
        rw [hs] at q
        have := (allN_iff _ _ _).1 q ((split t).length - 1) (Nat.zero_le _) (by simp; omega)
        unfold partOk at this
        rw [getElem!_pos _ ((split t).length - 1) (by simp; omega), List.getElem_set_self, label_bad, Bool.false_or, Bool.and_eq_true, beq_iff_eq] at this
        have := congrArg List.getLast? this.2
        simp at this
    rw [this]; rfl
theorem free_bad (t : Str) : freeB (t ++ [95]) = false := by
  unfold freeB
  split
  · rfl
  · split
    · rfl
    · split
      · rfl
      · split
        · rfl
        · cases q : allN (t ++ [95]).length (freeIn (t ++ [95])) 0 with
          | false => rfl
          | true =>
            have := (allN_iff _ _ _).1 q t.length (Nat.zero_le _) (by simp)
            have e : (t ++ [95]).getD t.length 0 = 95 := by simp [List.getD]
            unfold freeIn at this
            rw [e] at this
            simp [alnum] at this
theorem text_bad' (k : Int) (t : Str) : textOk k (t ++ [95]) = false := by
  unfold textOk
  split
  · rw [name_bad]; rfl
  · split
    · rw [name_bad]
    · split
      · rw [free_bad]
      · cases t <;> rfl
theorem bad_t {s : RSet} {k : Nat} (hk : k < s.data.length) : setOk (withData s (s.data.set k ⟨s.data[k]!.t ++ [95], s.data[k]!.n, s.data[k]!.m⟩)) = false :=
  bad_dat hk fun _ => by unfold datOk; rw [text_bad', Bool.and_false]
theorem bytes_bad {s : RSet} (h : setOk s = false) : bytesF s = ([], 1) := by unfold bytesF; rw [h]; rfl
/-- rows of data that are changed -/
theorem rowsD_sw {l : List Dat} {i j : Nat} : ((l.map Dat.d).set i [.v (.string (bs l[j]!.t)), .i l[j]!.n, .i l[j]!.m]).set j [.v (.string (bs l[i]!.t)), .i l[i]!.n, .i l[i]!.m] = (sw l i j).map Dat.d := by
  have e : ∀ x : Dat, [.v (.string (bs x.t)), .i x.n, .i x.m] = x.d := fun x => rfl
  rw [e, e, ← List.map_set, ← List.map_set]; rfl
theorem rowsD_set {l : List Dat} {i : Nat} {t : Str} {n m : Int} : (l.map Dat.d).set i [.v (.string (bs t)), .i n, .i m] = (l.set i ⟨t, n, m⟩).map Dat.d := by
  have e : [.v (.string (bs t)), .i n, .i m] = Dat.d ⟨t, n, m⟩ := rfl
  rw [e, ← List.map_set]
theorem rowD_set {l : List Dat} {i j : Nat} {x : List D} (hj : j < l.length) (hij : i ≠ j) : ((l.map Dat.d).set i x).getD j [] = [.v (.string (bs l[j]!.t)), .i l[j]!.n, .i l[j]!.m] := by
  have : (l.map Dat.d).getD j [] = [.v (.string (bs l[j]!.t)), .i l[j]!.n, .i l[j]!.m] := getD_dat hj
  rw [← this]
  simp [List.getD, List.getElem?_set_ne hij]
theorem rowD_at {l : List Dat} {j : Nat} (hj : j < l.length) : (l.map Dat.d).getD j [] = [.v (.string (bs l[j]!.t)), .i l[j]!.n, .i l[j]!.m] := getD_dat hj
end Go.Rec
namespace Go.Proofs.YtfggmgafjabbjaaDoor
open Go.DL Go.Str Go.Rec Go.Cmp Go.RowKit
set_option maxRecDepth 10000
set_option linter.unusedSimpArgs false
set_option linter.unusedVariables false
theorem bo6 : hasBody Tryd.prog 6 = true := by kernel_rfl
set_option maxHeartbeats 1000000 in
theorem lawDamage_ct (s : RSet) (which : Int) (how : Int) (hw : 0 ≤ which ∧ which < 256) (hh : 0 ≤ how ∧ how < 256) : PureCt Tryd.prog 6 [.agg s.d, .v (.int .u8 which), .v (.int .u8 how)] (.b true) := by
  refine pure_of_dw Tryd.func6 rfl bo6 (by simp [go_sem, D.nr, nrs, nrr]) (by simp [Tryd.f6]) ?_
  unfold Tryd.f6
  simp only [init_eq]
  have hss : sets1 (.list false [[.v (.string (bs s.name)), .v (.int .i64 s.ty), .v (.int .i64 s.life), .list false (s.data.map Dat.d)]]) = [s] := sets1_map (l := [s])
  refine dw_step (C := Ln) (by simp only [go_sem, hss]; exact rfl) (fun h => by cases h) ?_ ?_
  · try simp only [go_sem, hss]
    all_goals (first | done | (repeat' (with_reducible apply And.intro)) <;> first | omega | (with_reducible assumption) | (intros; omega) | (intros; simp only [decide_eq_true_eq, decide_eq_false_iff_not, Bool.or_eq_true, Bool.and_eq_true, Bool.or_eq_false_iff, Bool.not_eq_true', Bool.not_eq_false'] at *; omega) | (simp_all; done) | (simp_all; omega))
  refine dw_step (C := Ln) (by simp only [go_sem, hss]; exact rfl) (fun h => by cases h) ?_ ?_
  · try simp only [go_sem, hss]
    all_goals (first | done | exact head02_ct)
  refine dw_seq ?_
  refine dw_step (C := Ln) (by simp only [go_sem, hss]; exact rfl) (fun h => by cases h) ?_ ?_
  · try simp only [go_sem, hss]
    all_goals (first | done | ((repeat' (with_reducible apply And.intro)) <;> (intros; first | done | exact rfew02_ct [s] | exact rrvalid_ct s | (simp_all; done))))
  refine dw_cond (by simp only [go_sem, hss]; exact rfl) (fun c1 => ?_) (fun c1 => ?_)
  · skip
    skip
    refine dw_step (C := Ln) (by simp only [go_sem, hss]; exact rfl) (fun h => by cases h) ?_ ?_
    · try simp only [go_sem, hss]
      all_goals (first | done | (repeat' (with_reducible apply And.intro)) <;> first | omega | (with_reducible assumption) | (intros; omega) | (intros; simp only [decide_eq_true_eq, decide_eq_false_iff_not, Bool.or_eq_true, Bool.and_eq_true, Bool.or_eq_false_iff, Bool.not_eq_true', Bool.not_eq_false'] at *; omega) | (simp_all; done) | (simp_all; omega))
    refine dw_ret ?_
    refine ⟨(by first | exact .inr rfl | trivial | simp), ?_, ?_⟩
    · simp only [go_sem, hss]
    refine ⟨0, ?_, ?_⟩
    · try simp only [go_sem, hss]
      all_goals (simp)
    · try simp only [go_sem, hss]
      all_goals (first | rfl | (rw [hbb, hbv]; rfl) | (simp [hbb, hbv]; done))
  · skip
    have hq : fewB [s] = true ∧ setOk s = true := by simpa using c1
    have hs := (setOk_iff s).1 hq.2
    have hl8 := hs.len
    have hw1 : IntKind.i64.wrap which = which := by rw [IntKind.wrap_i64]; omega
    have hk1 := Int.emod_nonneg which (show (s.data.length : Int) ≠ 0 by omega)
    have hk2 := Int.emod_lt_of_pos which (show (0 : Int) < s.data.length by omega)
    obtain ⟨k, hk⟩ : ∃ k : Nat, which % (s.data.length : Int) = k := ⟨(which % (s.data.length : Int)).toNat, by omega⟩
    have hkl : k < s.data.length := by omega
    have e0 : ((k : Int) - 1).toNat = k - 1 := by omega
    have hk3 : k - 1 < s.data.length := by omega
    have e9 : ((s.data.length : Int) - 1).toNat = s.data.length - 1 := by omega
    have hl3 : s.data.length - 1 < s.data.length := by omega
    have ht60 := (datOk_sz hs.ty (hs.dat s.data[k]! (by rw [getElem!_pos s.data k hkl]; exact List.getElem_mem hkl))).2.1
    refine dw_skip ?_
    show DW _ _ _ _ _
    refine dw_step (C := Ln) (by simp only [go_sem, hss, hw1, hk, e0, e9, rowD_at hkl, rowD_at hk3, rowD_at hl3]; exact rfl) (fun h => by cases h) ?_ ?_
    · try simp only [go_sem, hss, hw1, hk, e0, e9, rowD_at hkl, rowD_at hk3, rowD_at hl3]
      all_goals (first | done | (repeat' (with_reducible apply And.intro)) <;> first | omega | (with_reducible assumption) | (intros; omega) | (intros; simp only [decide_eq_true_eq, decide_eq_false_iff_not, Bool.or_eq_true, Bool.and_eq_true, Bool.or_eq_false_iff, Bool.not_eq_true', Bool.not_eq_false'] at *; omega) | (simp_all; done) | (simp_all; omega))
    refine dw_step (C := Ln) (by simp only [go_sem, hss, hw1, hk, e0, e9, rowD_at hkl, rowD_at hk3, rowD_at hl3]; exact rfl) (fun h => by cases h) ?_ ?_
    · try simp only [go_sem, hss, hw1, hk, e0, e9, rowD_at hkl, rowD_at hk3, rowD_at hl3]
      all_goals (first | done | (repeat' (with_reducible apply And.intro)) <;> first | omega | (with_reducible assumption) | (intros; omega) | (intros; simp only [decide_eq_true_eq, decide_eq_false_iff_not, Bool.or_eq_true, Bool.and_eq_true, Bool.or_eq_false_iff, Bool.not_eq_true', Bool.not_eq_false'] at *; omega) | (simp_all; done) | (simp_all; omega))
    refine dw_step (C := Ln) (by simp only [go_sem, hss, hw1, hk, e0, e9, rowD_at hkl, rowD_at hk3, rowD_at hl3]; exact rfl) (fun h => by cases h) ?_ ?_
    · try simp only [go_sem, hss, hw1, hk, e0, e9, rowD_at hkl, rowD_at hk3, rowD_at hl3]
      all_goals (first | done | (repeat' (with_reducible apply And.intro)) <;> first | omega | (with_reducible assumption) | (intros; omega) | (intros; simp only [decide_eq_true_eq, decide_eq_false_iff_not, Bool.or_eq_true, Bool.and_eq_true, Bool.or_eq_false_iff, Bool.not_eq_true', Bool.not_eq_false'] at *; omega) | (simp_all; done) | (simp_all; omega))
    refine dw_step (C := Ln) (by simp only [go_sem, hss, hw1, hk, e0, e9, rowD_at hkl, rowD_at hk3, rowD_at hl3]; exact rfl) (fun h => by cases h) ?_ ?_
    · try simp only [go_sem, hss, hw1, hk, e0, e9, rowD_at hkl, rowD_at hk3, rowD_at hl3]
      all_goals (first | done | (repeat' (with_reducible apply And.intro)) <;> first | omega | (with_reducible assumption) | (intros; omega) | (intros; simp only [decide_eq_true_eq, decide_eq_false_iff_not, Bool.or_eq_true, Bool.and_eq_true, Bool.or_eq_false_iff, Bool.not_eq_true', Bool.not_eq_false'] at *; omega) | (simp_all; done) | (simp_all; omega))
    refine dw_join (α := (List Dat) × (Nat) × Nat) [7, 8] (fun ⟨L, r, nx⟩ => (setOk (withData s L) = false) ∧ (L.length ≤ 100) ∧ (r < nx) ∧ (r ≠ 14) ∧ (14 < nx) ∧ True) (fun ⟨L, r, nx⟩ => []) (fun ⟨L, r, nx⟩ => [(14, ⟨24, [[.v (.string (bs s.name)), .i s.ty, .i s.life, .mrow r 0 L.length]]⟩), (r, ⟨48, (L).map Dat.d⟩)]) (fun ⟨L, r, nx⟩ => nx) (by simp only [List.map_cons, List.map_nil, go_sem, hss, hw1, hk, e0, e9, rowD_at hkl, rowD_at hk3, rowD_at hl3]; exact rfl) ?_ ?_
    · skip
      refine dw_step (C := Ln) (by simp only [go_sem, hss, hw1, hk, e0, e9, rowD_at hkl, rowD_at hk3, rowD_at hl3]; exact rfl) (fun h => by cases h) ?_ ?_
      · try simp only [go_sem, hss, hw1, hk, e0, e9, rowD_at hkl, rowD_at hk3, rowD_at hl3]
        all_goals (first | done | (repeat' (with_reducible apply And.intro)) <;> first | omega | (with_reducible assumption) | (intros; omega) | (intros; simp only [decide_eq_true_eq, decide_eq_false_iff_not, Bool.or_eq_true, Bool.and_eq_true, Bool.or_eq_false_iff, Bool.not_eq_true', Bool.not_eq_false'] at *; omega) | (simp_all; done) | (simp_all; omega))
      refine dw_block ?_
      refine dw_step (C := Ln) (by simp only [go_sem, hss, hw1, hk, e0, e9, rowD_at hkl, rowD_at hk3, rowD_at hl3]; exact rfl) (fun h => by cases h) ?_ ?_
      · try simp only [go_sem, hss, hw1, hk, e0, e9, rowD_at hkl, rowD_at hk3, rowD_at hl3]
        all_goals (first | done | (repeat' (with_reducible apply And.intro)) <;> first | omega | (with_reducible assumption) | (intros; omega) | (intros; simp only [decide_eq_true_eq, decide_eq_false_iff_not, Bool.or_eq_true, Bool.and_eq_true, Bool.or_eq_false_iff, Bool.not_eq_true', Bool.not_eq_false'] at *; omega) | (simp_all; done) | (simp_all; omega))
      refine dw_cond (by simp only [go_sem, hss, hw1, hk, e0, e9, rowD_at hkl, rowD_at hk3, rowD_at hl3]; exact rfl) (fun d0 => ?_) (fun d0 => ?_)
      · skip
        refine dw_seq ?_
        refine dw_step (C := Ln) (by simp only [go_sem, hss, hw1, hk, e0, e9, rowD_at hkl, rowD_at hk3, rowD_at hl3]; exact rfl) (fun h => by cases h) ?_ ?_
        · try simp only [go_sem, hss, hw1, hk, e0, e9, rowD_at hkl, rowD_at hk3, rowD_at hl3]
          all_goals (first | done | (repeat' (with_reducible apply And.intro)) <;> first | omega | (with_reducible assumption) | (intros; omega) | (intros; simp only [decide_eq_true_eq, decide_eq_false_iff_not, Bool.or_eq_true, Bool.and_eq_true, Bool.or_eq_false_iff, Bool.not_eq_true', Bool.not_eq_false'] at *; omega) | (simp_all; done) | (simp_all; omega))
        refine dw_cond (by simp only [go_sem, hss, hw1, hk, e0, e9, rowD_at hkl, rowD_at hk3, rowD_at hl3]; exact rfl) (fun d1 => ?_) (fun d1 => ?_)
        · skip
          skip
          refine dw_step (C := Ln) (by simp only [go_sem, hss, hw1, hk, e0, e9, rowD_at hkl, rowD_at hk3, rowD_at hl3]; exact rfl) (fun h => by cases h) ?_ ?_
          · try simp only [go_sem, hss, hw1, hk, e0, e9, rowD_at hkl, rowD_at hk3, rowD_at hl3]
            all_goals (first | done | (repeat' (with_reducible apply And.intro)) <;> first | omega | (with_reducible assumption) | (intros; omega) | (intros; simp only [decide_eq_true_eq, decide_eq_false_iff_not, Bool.or_eq_true, Bool.and_eq_true, Bool.or_eq_false_iff, Bool.not_eq_true', Bool.not_eq_false'] at *; omega) | (simp_all; done) | (simp_all; omega))
          refine dw_ret ?_
          refine ⟨(by first | exact .inr rfl | trivial | simp), ?_, ?_⟩
          · simp only [go_sem, hss, hw1, hk, e0, e9, rowD_at hkl, rowD_at hk3, rowD_at hl3]
          refine ⟨0, ?_, ?_⟩
          · try simp only [go_sem, hss, hw1, hk, e0, e9, rowD_at hkl, rowD_at hk3, rowD_at hl3]
            all_goals (simp)
          · try simp only [go_sem, hss, hw1, hk, e0, e9, rowD_at hkl, rowD_at hk3, rowD_at hl3]
            all_goals (first | rfl | (rw [hbb, hbv]; rfl) | (simp [hbb, hbv]; done))
        · skip
          have h0 : 0 < k := by have : ¬ (k : Int) = 0 := (by simpa using d1); omega
          have hne : k - 1 ≠ k := by omega
          refine dw_skip ?_
          show DW _ _ _ _ _
          refine dw_reg3 (C := Ln) [⟨5, 19, 58, 72⟩] (by simp only [go_sem, hss, hw1, hk, e0, e9, rowD_at hkl, rowD_at hk3, rowD_at hl3, rowD_set hkl hne]; exact rfl) ⟨mix, by kernel_rfl, by kernel_rfl⟩ (by intro p hp; simp only [List.mem_cons, List.not_mem_nil, or_false] at hp; subst hp; intro r hr; simp only [go_sem, hss, hw1, hk, e0, e9, rowD_at hkl, rowD_at hk3, rowD_at hl3, rowD_set hkl hne, sd, named, beq_iff_eq] at hr ⊢; first | done | omega | (simp at hr ⊢; omega)) ?_ ?_
          · try simp only [go_sem, hss, hw1, hk, e0, e9, rowD_at hkl, rowD_at hk3, rowD_at hl3, rowD_set hkl hne]
            all_goals (first | done | (repeat' (with_reducible apply And.intro)) <;> first | omega | (with_reducible assumption) | (intros; omega) | (intros; simp only [decide_eq_true_eq, decide_eq_false_iff_not, Bool.or_eq_true, Bool.and_eq_true, Bool.or_eq_false_iff, Bool.not_eq_true', Bool.not_eq_false'] at *; omega) | (simp_all; done) | (simp_all; omega))
          show ∃ _, _
          refine ⟨(sw s.data (k - 1) k, 19, _), ⟨(by first | (exact bad_swap hs h0 hkl) | (dsimp only; exact bad_swap hs h0 hkl)), (by first | (first | (rw [sw_len]; omega) | (simp; omega)) | (dsimp only; first | (rw [sw_len]; omega) | (simp; omega))), (by first | (first | omega | (with_reducible assumption) | (simp_all; done) | (simp_all; omega)) | (dsimp only; first | omega | (with_reducible assumption) | (simp_all; done) | (simp_all; omega))), (by first | (first | omega | (with_reducible assumption) | (simp_all; done) | (simp_all; omega)) | (dsimp only; first | omega | (with_reducible assumption) | (simp_all; done) | (simp_all; omega))), (by first | (first | omega | (with_reducible assumption) | (simp_all; done) | (simp_all; omega)) | (dsimp only; first | omega | (with_reducible assumption) | (simp_all; done) | (simp_all; omega))), trivial⟩, ?_, ?_, ?_, Nat.le_refl _, rfl, rfl⟩
          · try simp only [go_sem, hss, hw1, hk, e0, e9, rowD_at hkl, rowD_at hk3, rowD_at hl3, rowD_set hkl hne]
            all_goals (first | done | (simp; done) | ((repeat' (with_reducible apply And.intro)) <;> first | rfl | (simp [sw_len]; done) | (rw [rowsD_sw]; done) | (rw [rowsD_set]; done) | (simp [Dat.d]; done)))
          · try simp only [go_sem, hss, hw1, hk, e0, e9, rowD_at hkl, rowD_at hk3, rowD_at hl3, rowD_set hkl hne]
            all_goals (first | done | (simp; done) | ((repeat' (with_reducible apply And.intro)) <;> first | rfl | (simp [sw_len]; done) | (rw [rowsD_sw]; done) | (rw [rowsD_set]; done) | (simp [Dat.d]; done)))
          · try simp only [go_sem, hss, hw1, hk, e0, e9, rowD_at hkl, rowD_at hk3, rowD_at hl3, rowD_set hkl hne]
            all_goals (first | done | (simp; done) | ((repeat' (with_reducible apply And.intro)) <;> first | rfl | (simp [sw_len]; done) | (rw [rowsD_sw]; done) | (rw [rowsD_set]; done) | (simp [Dat.d]; done)))
      · skip
        refine dw_step (C := Ln) (by simp only [go_sem, hss, hw1, hk, e0, e9, rowD_at hkl, rowD_at hk3, rowD_at hl3]; exact rfl) (fun h => by cases h) ?_ ?_
        · try simp only [go_sem, hss, hw1, hk, e0, e9, rowD_at hkl, rowD_at hk3, rowD_at hl3]
          all_goals (first | done | (repeat' (with_reducible apply And.intro)) <;> first | omega | (with_reducible assumption) | (intros; omega) | (intros; simp only [decide_eq_true_eq, decide_eq_false_iff_not, Bool.or_eq_true, Bool.and_eq_true, Bool.or_eq_false_iff, Bool.not_eq_true', Bool.not_eq_false'] at *; omega) | (simp_all; done) | (simp_all; omega))
        refine dw_cond (by simp only [go_sem, hss, hw1, hk, e0, e9, rowD_at hkl, rowD_at hk3, rowD_at hl3]; exact rfl) (fun d2 => ?_) (fun d2 => ?_)
        · skip
          refine dw_reg (C := Ln) (by simp only [go_sem, hss, hw1, hk, e0, e9, rowD_at hkl, rowD_at hk3, rowD_at hl3]; exact rfl) (fun _ => ⟨mix, by kernel_rfl, by kernel_rfl⟩) ?_ ?_
          · try simp only [go_sem, hss, hw1, hk, e0, e9, rowD_at hkl, rowD_at hk3, rowD_at hl3]
            all_goals (first | done | (repeat' (with_reducible apply And.intro)) <;> first | omega | (with_reducible assumption) | (intros; omega) | (intros; simp only [decide_eq_true_eq, decide_eq_false_iff_not, Bool.or_eq_true, Bool.and_eq_true, Bool.or_eq_false_iff, Bool.not_eq_true', Bool.not_eq_false'] at *; omega) | (simp_all; done) | (simp_all; omega))
          show ∃ _, _
          refine ⟨(s.data ++ [s.data[s.data.length - 1]!], 51, _), ⟨(by first | (exact bad_twice hs) | (dsimp only; exact bad_twice hs)), (by first | (first | (rw [sw_len]; omega) | (simp; omega)) | (dsimp only; first | (rw [sw_len]; omega) | (simp; omega))), (by first | (first | omega | (with_reducible assumption) | (simp_all; done) | (simp_all; omega)) | (dsimp only; first | omega | (with_reducible assumption) | (simp_all; done) | (simp_all; omega))), (by first | (first | omega | (with_reducible assumption) | (simp_all; done) | (simp_all; omega)) | (dsimp only; first | omega | (with_reducible assumption) | (simp_all; done) | (simp_all; omega))), (by first | (first | omega | (with_reducible assumption) | (simp_all; done) | (simp_all; omega)) | (dsimp only; first | omega | (with_reducible assumption) | (simp_all; done) | (simp_all; omega))), trivial⟩, ?_, ?_, ?_, Nat.le_refl _, rfl, rfl⟩
          · try simp only [go_sem, hss, hw1, hk, e0, e9, rowD_at hkl, rowD_at hk3, rowD_at hl3]
            all_goals (first | done | (simp; done) | ((repeat' (with_reducible apply And.intro)) <;> first | rfl | (simp [sw_len]; done) | (rw [rowsD_sw]; done) | (rw [rowsD_set]; done) | (simp [Dat.d]; done)))
          · try simp only [go_sem, hss, hw1, hk, e0, e9, rowD_at hkl, rowD_at hk3, rowD_at hl3]
            all_goals (first | done | (simp; done) | ((repeat' (with_reducible apply And.intro)) <;> first | rfl | (simp [sw_len]; done) | (rw [rowsD_sw]; done) | (rw [rowsD_set]; done) | (simp [Dat.d]; done)))
          · try simp only [go_sem, hss, hw1, hk, e0, e9, rowD_at hkl, rowD_at hk3, rowD_at hl3]
            all_goals (first | done | (simp; done) | ((repeat' (with_reducible apply And.intro)) <;> first | rfl | (simp [sw_len]; done) | (rw [rowsD_sw]; done) | (rw [rowsD_set]; done) | (simp [Dat.d]; done)))
        · skip
          refine dw_step (C := Ln) (by simp only [go_sem, hss, hw1, hk, e0, e9, rowD_at hkl, rowD_at hk3, rowD_at hl3]; exact rfl) (fun h => by cases h) ?_ ?_
          · try simp only [go_sem, hss, hw1, hk, e0, e9, rowD_at hkl, rowD_at hk3, rowD_at hl3]
            all_goals (first | done | (repeat' (with_reducible apply And.intro)) <;> first | omega | (with_reducible assumption) | (intros; omega) | (intros; simp only [decide_eq_true_eq, decide_eq_false_iff_not, Bool.or_eq_true, Bool.and_eq_true, Bool.or_eq_false_iff, Bool.not_eq_true', Bool.not_eq_false'] at *; omega) | (simp_all; done) | (simp_all; omega))
          refine dw_cond (by simp only [go_sem, hss, hw1, hk, e0, e9, rowD_at hkl, rowD_at hk3, rowD_at hl3]; exact rfl) (fun d3 => ?_) (fun d3 => ?_)
          · skip
            refine dw_reg (C := Ln) (by simp only [go_sem, hss, hw1, hk, e0, e9, rowD_at hkl, rowD_at hk3, rowD_at hl3]; exact rfl) (fun h => by cases h) ?_ ?_
            · try simp only [go_sem, hss, hw1, hk, e0, e9, rowD_at hkl, rowD_at hk3, rowD_at hl3]
              all_goals (first | done | (repeat' (with_reducible apply And.intro)) <;> first | omega | (with_reducible assumption) | (intros; omega) | (intros; simp only [decide_eq_true_eq, decide_eq_false_iff_not, Bool.or_eq_true, Bool.and_eq_true, Bool.or_eq_false_iff, Bool.not_eq_true', Bool.not_eq_false'] at *; omega) | (simp_all; done) | (simp_all; omega))
            show ∃ _, _
            refine ⟨(s.data.set k ⟨s.data[k]!.t, s.data[k]!.n, -1⟩, 19, _), ⟨(by first | (exact bad_m hkl) | (dsimp only; exact bad_m hkl)), (by first | (first | (rw [sw_len]; omega) | (simp; omega)) | (dsimp only; first | (rw [sw_len]; omega) | (simp; omega))), (by first | (first | omega | (with_reducible assumption) | (simp_all; done) | (simp_all; omega)) | (dsimp only; first | omega | (with_reducible assumption) | (simp_all; done) | (simp_all; omega))), (by first | (first | omega | (with_reducible assumption) | (simp_all; done) | (simp_all; omega)) | (dsimp only; first | omega | (with_reducible assumption) | (simp_all; done) | (simp_all; omega))), (by first | (first | omega | (with_reducible assumption) | (simp_all; done) | (simp_all; omega)) | (dsimp only; first | omega | (with_reducible assumption) | (simp_all; done) | (simp_all; omega))), trivial⟩, ?_, ?_, ?_, Nat.le_refl _, rfl, rfl⟩
            · try simp only [go_sem, hss, hw1, hk, e0, e9, rowD_at hkl, rowD_at hk3, rowD_at hl3]
              all_goals (first | done | (simp; done) | ((repeat' (with_reducible apply And.intro)) <;> first | rfl | (simp [sw_len]; done) | (rw [rowsD_sw]; done) | (rw [rowsD_set]; done) | (simp [Dat.d]; done)))
            · try simp only [go_sem, hss, hw1, hk, e0, e9, rowD_at hkl, rowD_at hk3, rowD_at hl3]
              all_goals (first | done | (simp; done) | ((repeat' (with_reducible apply And.intro)) <;> first | rfl | (simp [sw_len]; done) | (rw [rowsD_sw]; done) | (rw [rowsD_set]; done) | (simp [Dat.d]; done)))
            · try simp only [go_sem, hss, hw1, hk, e0, e9, rowD_at hkl, rowD_at hk3, rowD_at hl3]
              all_goals (first | done | (simp; done) | ((repeat' (with_reducible apply And.intro)) <;> first | rfl | (simp [sw_len]; done) | (rw [rowsD_sw]; done) | (rw [rowsD_set]; done) | (simp [Dat.d]; done)))
          · skip
            refine dw_step (C := Ln) (by simp only [go_sem, hss, hw1, hk, e0, e9, rowD_at hkl, rowD_at hk3, rowD_at hl3]; exact rfl) (fun h => by cases h) ?_ ?_
            · try simp only [go_sem, hss, hw1, hk, e0, e9, rowD_at hkl, rowD_at hk3, rowD_at hl3]
              all_goals (first | done | (repeat' (with_reducible apply And.intro)) <;> first | omega | (with_reducible assumption) | (intros; omega) | (intros; simp only [decide_eq_true_eq, decide_eq_false_iff_not, Bool.or_eq_true, Bool.and_eq_true, Bool.or_eq_false_iff, Bool.not_eq_true', Bool.not_eq_false'] at *; omega) | (simp_all; done) | (simp_all; omega))
            refine dw_cond (by simp only [go_sem, hss, hw1, hk, e0, e9, rowD_at hkl, rowD_at hk3, rowD_at hl3]; exact rfl) (fun d4 => ?_) (fun d4 => ?_)
            · skip
              refine dw_reg (C := Ln) (by simp only [go_sem, hss, hw1, hk, e0, e9, rowD_at hkl, rowD_at hk3, rowD_at hl3]; exact rfl) (fun h => by cases h) ?_ ?_
              · try simp only [go_sem, hss, hw1, hk, e0, e9, rowD_at hkl, rowD_at hk3, rowD_at hl3]
                all_goals (first | done | (repeat' (with_reducible apply And.intro)) <;> first | omega | (with_reducible assumption) | (intros; omega) | (intros; simp only [decide_eq_true_eq, decide_eq_false_iff_not, Bool.or_eq_true, Bool.and_eq_true, Bool.or_eq_false_iff, Bool.not_eq_true', Bool.not_eq_false'] at *; omega) | (simp_all; done) | (simp_all; omega))
              show ∃ _, _
              refine ⟨(s.data.set k ⟨s.data[k]!.t, -1, s.data[k]!.m⟩, 19, _), ⟨(by first | (exact bad_n hkl) | (dsimp only; exact bad_n hkl)), (by first | (first | (rw [sw_len]; omega) | (simp; omega)) | (dsimp only; first | (rw [sw_len]; omega) | (simp; omega))), (by first | (first | omega | (with_reducible assumption) | (simp_all; done) | (simp_all; omega)) | (dsimp only; first | omega | (with_reducible assumption) | (simp_all; done) | (simp_all; omega))), (by first | (first | omega | (with_reducible assumption) | (simp_all; done) | (simp_all; omega)) | (dsimp only; first | omega | (with_reducible assumption) | (simp_all; done) | (simp_all; omega))), (by first | (first | omega | (with_reducible assumption) | (simp_all; done) | (simp_all; omega)) | (dsimp only; first | omega | (with_reducible assumption) | (simp_all; done) | (simp_all; omega))), trivial⟩, ?_, ?_, ?_, Nat.le_refl _, rfl, rfl⟩
              · try simp only [go_sem, hss, hw1, hk, e0, e9, rowD_at hkl, rowD_at hk3, rowD_at hl3]
                all_goals (first | done | (simp; done) | ((repeat' (with_reducible apply And.intro)) <;> first | rfl | (simp [sw_len]; done) | (rw [rowsD_sw]; done) | (rw [rowsD_set]; done) | (simp [Dat.d]; done)))
              · try simp only [go_sem, hss, hw1, hk, e0, e9, rowD_at hkl, rowD_at hk3, rowD_at hl3]
                all_goals (first | done | (simp; done) | ((repeat' (with_reducible apply And.intro)) <;> first | rfl | (simp [sw_len]; done) | (rw [rowsD_sw]; done) | (rw [rowsD_set]; done) | (simp [Dat.d]; done)))
              · try simp only [go_sem, hss, hw1, hk, e0, e9, rowD_at hkl, rowD_at hk3, rowD_at hl3]
                all_goals (first | done | (simp; done) | ((repeat' (with_reducible apply And.intro)) <;> first | rfl | (simp [sw_len]; done) | (rw [rowsD_sw]; done) | (rw [rowsD_set]; done) | (simp [Dat.d]; done)))
            · skip
              refine dw_reg (C := Ln) (by simp only [go_sem, hss, hw1, hk, e0, e9, rowD_at hkl, rowD_at hk3, rowD_at hl3]; exact rfl) (fun h => by cases h) ?_ ?_
              · try simp only [go_sem, hss, hw1, hk, e0, e9, rowD_at hkl, rowD_at hk3, rowD_at hl3]
                all_goals (first | done | (repeat' (with_reducible apply And.intro)) <;> first | omega | (with_reducible assumption) | (intros; omega) | (intros; simp only [decide_eq_true_eq, decide_eq_false_iff_not, Bool.or_eq_true, Bool.and_eq_true, Bool.or_eq_false_iff, Bool.not_eq_true', Bool.not_eq_false'] at *; omega) | (simp_all; done) | (simp_all; omega))
              show ∃ _, _
              refine ⟨(s.data.set k ⟨s.data[k]!.t ++ [95], s.data[k]!.n, s.data[k]!.m⟩, 19, _), ⟨(by first | (exact bad_t hkl) | (dsimp only; exact bad_t hkl)), (by first | (first | (rw [sw_len]; omega) | (simp; omega)) | (dsimp only; first | (rw [sw_len]; omega) | (simp; omega))), (by first | (first | omega | (with_reducible assumption) | (simp_all; done) | (simp_all; omega)) | (dsimp only; first | omega | (with_reducible assumption) | (simp_all; done) | (simp_all; omega))), (by first | (first | omega | (with_reducible assumption) | (simp_all; done) | (simp_all; omega)) | (dsimp only; first | omega | (with_reducible assumption) | (simp_all; done) | (simp_all; omega))), (by first | (first | omega | (with_reducible assumption) | (simp_all; done) | (simp_all; omega)) | (dsimp only; first | omega | (with_reducible assumption) | (simp_all; done) | (simp_all; omega))), trivial⟩, ?_, ?_, ?_, Nat.le_refl _, rfl, rfl⟩
              · try simp only [go_sem, hss, hw1, hk, e0, e9, rowD_at hkl, rowD_at hk3, rowD_at hl3]
                all_goals (first | done | (simp; done) | ((repeat' (with_reducible apply And.intro)) <;> first | rfl | (simp [sw_len]; done) | (rw [rowsD_sw]; done) | (rw [rowsD_set]; done) | (simp [Dat.d]; done)))
              · try simp only [go_sem, hss, hw1, hk, e0, e9, rowD_at hkl, rowD_at hk3, rowD_at hl3]
                all_goals (first | done | (simp; done) | ((repeat' (with_reducible apply And.intro)) <;> first | rfl | (simp [sw_len]; done) | (rw [rowsD_sw]; done) | (rw [rowsD_set]; done) | (simp [Dat.d]; done)))
              · try simp only [go_sem, hss, hw1, hk, e0, e9, rowD_at hkl, rowD_at hk3, rowD_at hl3]
                all_goals (first | done | (simp; done) | ((repeat' (with_reducible apply And.intro)) <;> first | rfl | (simp [sw_len]; done) | (rw [rowsD_sw]; done) | (rw [rowsD_set]; done) | (simp [Dat.d]; done)))
    rintro ⟨L, r, nx⟩ ⟨hbad, hL, hr, hrn, hx, -⟩
    show DW _ _ _ _ { n := _, t := tab _, h := _, nx := _, e := _ }
    simp only [List.cons_append, List.nil_append]
    have z14_r : (14 = r) = False := eq_false (by omega)
    have yr_14 : (r = 14) = False := eq_false (by omega)
    refine dw_freezec 14 3 r (rows := L.map Dat.d) (off := 0) (len := L.length) (by simp only [go_sem, hss, hw1, hk, e0, e9, rowD_at hkl, rowD_at hk3, rowD_at hl3, hr, hx, z14_r, yr_14]; exact rfl) (by rfl) (by simp only [go_sem, hss, hw1, hk, e0, e9, rowD_at hkl, rowD_at hk3, rowD_at hl3, hr, hx, z14_r, yr_14]; exact rfl) (by omega) (by simp) nrr_dat ?_
    simp only [List.drop_zero, take_map_len, List.set_cons_succ, List.set_cons_zero]
    have hbb : bytesF ⟨s.name, s.ty, s.life, L⟩ = ([], 1) := bytes_bad hbad
    have hbv : setOk ⟨s.name, s.ty, s.life, L⟩ = false := hbad
    refine dw_step (C := Ln) (by simp only [go_sem, hss, hw1, hk, e0, e9, rowD_at hkl, rowD_at hk3, rowD_at hl3, hr, hx, z14_r, yr_14]; exact rfl) (fun h => by cases h) ?_ ?_
    · try simp only [go_sem, hss, hw1, hk, e0, e9, rowD_at hkl, rowD_at hk3, rowD_at hl3, hr, hx, z14_r, yr_14]
      all_goals (first | done | exact rbytes_ct (withData s L))
    refine dw_step (C := Ln) (by simp only [go_sem, hss, hw1, hk, e0, e9, rowD_at hkl, rowD_at hk3, rowD_at hl3, hr, hx, z14_r, yr_14]; exact rfl) (fun h => by cases h) ?_ ?_
    · try simp only [go_sem, hss, hw1, hk, e0, e9, rowD_at hkl, rowD_at hk3, rowD_at hl3, hr, hx, z14_r, yr_14]
      all_goals (first | done | ((repeat' (with_reducible apply And.intro)) <;> (intros; first | done | exact rvalid_ct (withData s L) | (simp_all; done))))
    refine dw_ret ?_
    refine ⟨(by first | exact .inr rfl | trivial | simp), ?_, ?_⟩
    · simp only [go_sem, hss, hw1, hk, e0, e9, rowD_at hkl, rowD_at hk3, rowD_at hl3, hr, hx, z14_r, yr_14]
    refine ⟨0, ?_, ?_⟩
    · try simp only [go_sem, hss, hw1, hk, e0, e9, rowD_at hkl, rowD_at hk3, rowD_at hl3, hr, hx, z14_r, yr_14]
      all_goals (simp)
    · try simp only [go_sem, hss, hw1, hk, e0, e9, rowD_at hkl, rowD_at hk3, rowD_at hl3, hr, hx, z14_r, yr_14]
      all_goals (first | rfl | (rw [hbb, hbv]; rfl) | (simp [hbb, hbv]; done))

end Go.Proofs.YtfggmgafjabbjaaDoor
