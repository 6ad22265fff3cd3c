/-
  THE D LAYER, 13: a region whose order Go leaves open comes to what it comes to in the text's order, if what is not ordered does not meet. Conditions: none.
-/
import Derived.Test.YtfggmgafjabbjaaDoorDRegion
set_option linter.unusedVariables false
namespace Go.DL
open Go.RowKit
variable {P : Program} {C : Con} {B : Nat}

def tmpOf : Operand → Option Tmp
  | .tmp t => some t
  | _ => none
/-- the slots that an operation looks at -/
def looks (L : List Oper) (o : Oper) : List Tmp :=
  (opArgs o.op).filterMap tmpOf ++ (match o.guard with | some (j, _) => ((L[j]?).bind (·.dst)).toList | none => [])
def meets : Cls → Cls → Bool
  | .none, _ | _, .none => false
  | .reads, .reads => false
  | _, _ => true
def apartB (C : Con) (L : List Oper) (x y : Oper) : Bool :=
  (match x.dst with | some d => !(looks L y).contains d && y.dst != some d | none => true) &&
  (match y.dst with | some d => !(looks L x).contains d | none => true) && !meets (cls C x.op) (cls C y.op)
/-- an operation that makes a block, and no more -/
def maker (o : Oper) : Bool := (match o.op with | .alloc _ | .box _ _ => true | _ => false) && o.guard.isNone
def readOp (op : Op) : Bool := match op with
  | .load .. | .indexAddr .. | .slice .. => true
  | _ => false
def reader (o : Oper) : Bool := readOp o.op && o.guard.isNone
def callsPure (C : Con) (o : Oper) : Bool := match o.op with
  | .call { callee := .value f, .. } => isPureCall f
  | _ => true
def slotsB (L : List Oper) (x y : Oper) : Bool :=
  (match x.dst with | some d => !(looks L y).contains d && y.dst != some d | none => true) &&
  (match y.dst with | some d => !(looks L x).contains d | none => true)
def apart2 (C : Con) (L : List Oper) (x y : Oper) : Bool :=
  apartB C L x y || (slotsB L x y && L.all (callsPure C) && ((maker x && reader y) || (reader x && maker y)))
def befBit (acc : List Nat) (o : Oper) : Nat := o.after.toList.foldl (fun s e => if Region.binds .any e then s ||| 2 ^ e.on ||| acc.getD e.on 0 else s) 0
def befs : List Oper → List Nat → List Nat
  | [], acc => acc
  | o :: os, acc => befs os (acc ++ [befBit acc o])
/-- what is not ordered does not meet -/
def commOk (C : Con) (L : List Oper) : Bool :=
  let B := befs L []
  (List.range L.length).all fun i => (List.range i).all fun j => (B.getD i 0).testBit j || apart2 C L (L.getD j default) (L.getD i default)

/-! ### the order -/
theorem befs_spec : ∀ (os : List Oper) (acc : List Nat), ∃ B, befs os acc = acc ++ B ∧ B.length = os.length ∧ ∀ (k : Nat) o, os[k]? = some o → B[k]? = some (befBit (acc ++ B.take k) o)
  | [], acc => ⟨[], by simp [befs], rfl, fun k o h => by simp at h⟩
  | o :: os, acc => by
    obtain ⟨B, h1, h2, h3⟩ := befs_spec os (acc ++ [befBit acc o])
    refine ⟨befBit acc o :: B, by simp [befs, h1], by simp [h2], fun k o' hk => ?_⟩
    cases k with
    | zero => simp at hk; subst hk; simp
    | succ k =>
      simp at hk
      have := h3 k o' hk
      simpa using this
theorem foldl_bits (acc : List Nat) (j : Nat) : ∀ (es : List Edge) (s : Nat), (es.foldl (fun s e => if Region.binds .any e then s ||| 2 ^ e.on ||| acc.getD e.on 0 else s) s).testBit j = true →
    s.testBit j = true ∨ ∃ e ∈ es, Region.binds .any e = true ∧ (e.on = j ∨ (acc.getD e.on 0).testBit j = true)
  | [], s, h => .inl h
  | e :: es, s, h => by
    simp only [List.foldl_cons] at h
    rcases foldl_bits acc j es _ h with h | ⟨e', h1, h2, h3⟩
    · split at h
      · rename_i hb
        simp only [Nat.testBit_or, Bool.or_eq_true] at h
        rcases h with (h | h) | h
        · exact .inl h
        · rw [Nat.testBit_two_pow] at h
          exact .inr ⟨e, by simp, hb, .inl (by simpa using h)⟩
        · exact .inr ⟨e, by simp, hb, .inr h⟩
      · exact .inl h
    · exact .inr ⟨e', by simp [h1], h2, h3⟩
theorem bef_closed {L : List Oper} {X : Nat → Prop} (hX : ∀ (i : Nat) o, L[i]? = some o → X i → ∀ e ∈ o.after.toList, Region.binds .any e = true → X e.on) :
    ∀ (i : Nat) o, L[i]? = some o → (∀ e ∈ o.after.toList, Region.binds .any e = true → X e.on) → ∀ j, ((befs L []).getD i 0).testBit j = true → X j := by
  obtain ⟨BB, h1, h2, h3⟩ := befs_spec L []
  simp only [List.nil_append] at h1 h3
  rw [h1]
  intro i
  induction i using Nat.strongRecOn with
  | _ i ih =>
    intro o hi hp j hj
    have hBi := h3 i o hi
    rw [List.getD, hBi, Option.getD_some] at hj
    rcases foldl_bits _ j _ _ hj with h | ⟨e, he, hb, h⟩
    · simp at h
    · rcases h with rfl | h
      · exact hp e he hb
      · rw [List.getD, List.getElem?_take] at h
        split at h
        · rename_i hlt
          have hlB : i < BB.length := by have := (List.getElem?_eq_some_iff.1 hBi).1; exact this
          have hlL : e.on < L.length := by omega
          exact ih e.on hlt L[e.on] (by simp) (hX e.on _ (by simp) (hp e he hb)) j h
        · simp at h

/-! ### operations that do not meet -/
def outD (P : Program) [Glob P] (W : Words) (C : Con) (L : List Oper) (b i : Nat) (o : Oper) (n : Nat) (ev : Operand → D) (t : Nat → D) (h : H) : D × H × Prop :=
  match o.guard with
  | none => let r := effG P W C true o.op ((opArgs o.op).map ev) h (b + i); (r.1, r.2.1, dstOk n o.dst = true ∧ r.2.2)
  | some (j, want) =>
    let gd := ((L[j]?).bind (·.dst)).elim .junk t
    let r := effG P W C (gval gd want) o.op ((opArgs o.op).map ev) h (b + i)
    (.cond (gval gd want) r.1, h, dstOk n o.dst = true ∧ gok gd = true ∧ cls C o.op ≠ .writes ∧ (gval gd want = true → r.2.2))
theorem exec1_out [Glob P] {W : Words} {L : List Oper} {b i : Nat} {o : Oper} {s : S} : exec1 P W C L b i o s =
    { s with t := s.put o.dst (outD P W C L b i o s.n s.ev s.t s.h).1, h := (outD P W C L b i o s.n s.ev s.t s.h).2.1, ok := s.ok ∧ (outD P W C L b i o s.n s.ev s.t s.h).2.2 } := by
  unfold exec1 outD
  cases o.guard <;> rfl
theorem out_looks [Glob P] {W : Words} {L : List Oper} {b i : Nat} {o : Oper} {s s' : S} {n : Nat} {h : H} (he : ∀ x ∈ looks L o, s.t x = s'.t x) : outD P W C L b i o n s.ev s.t h = outD P W C L b i o n s'.ev s'.t h := by
  have h1 : (opArgs o.op).map s.ev = (opArgs o.op).map s'.ev := by
    refine List.map_congr_left fun x hx => ?_
    cases x with
    | tmp t => exact he t (List.mem_append.2 (.inl (List.mem_filterMap.2 ⟨.tmp t, hx, rfl⟩)))
    | _ => rfl
  unfold outD
  cases hg : o.guard with
  | none => simp only [h1]
  | some jw =>
    obtain ⟨j, want⟩ := jw
    have h2 : ((L[j]?).bind (·.dst)).elim D.junk s.t = ((L[j]?).bind (·.dst)).elim D.junk s'.t := by
      cases hd : (L[j]?).bind (·.dst) with
      | none => rfl
      | some d => exact he d (List.mem_append.2 (.inr (by rw [hg]; simp [hd])))
    simp only [h1, h2]
theorem eff_none [Glob P] {W : Words} {op : Op} {xs : List D} {h h' : H} {b : Nat} (hc : cls C op = .none) : eff P W C op xs h b = ((eff P W C op xs h' b).1, h, (eff P W C op xs h' b).2.2) := by
  unfold eff
  split <;> first
    | rfl
    | (exfalso; exact Cls.noConfusion hc)
    | skip
  · rename_i t n ps
    have hb : C.bs = false := by
      cases hb : C.bs with
      | false => rfl
      | true => simp [cls, hb] at hc
    simp only [hb, Bool.false_eq_true, if_false]
    rfl
theorem effG_none [Glob P] {W : Words} {g : Bool} {op : Op} {xs : List D} {h h' : H} {b : Nat} (hc : cls C op = .none) : effG P W C g op xs h b = ((effG P W C g op xs h' b).1, h, (effG P W C g op xs h' b).2.2) := by
  unfold effG
  split
  · rfl
  · simp only
    rw [eff_none (h := h) (h' := h') hc]
theorem out_none [Glob P] {W : Words} {L : List Oper} {b i : Nat} {o : Oper} {ev : Operand → D} {t : Nat → D} {n : Nat} {h h' : H} (hc : cls C o.op = .none) :
    outD P W C L b i o n ev t h = ((outD P W C L b i o n ev t h').1, h, (outD P W C L b i o n ev t h').2.2) := by
  unfold outD
  cases o.guard with
  | none => simp only; rw [effG_none (h := h) (h' := h') hc]
  | some jw => simp only; rw [effG_none (h := h) (h' := h') hc]
theorem out_reads [Glob P] {W : Words} {L : List Oper} {b i : Nat} {o : Oper} {ev : Operand → D} {t : Nat → D} {n : Nat} {h : H} (hc : cls C o.op ≠ .writes) : (outD P W C L b i o n ev t h).2.1 = h := by
  unfold outD
  cases o.guard with
  | none =>
    simp only
    unfold effG
    split
    · rfl
    · exact eff_h hc
  | some jw => rfl
theorem meets_left {y : Cls} (h : meets .writes y = false) : y = .none := by cases y <;> simp [meets] at h ⊢
theorem meets_right {x : Cls} (h : meets x .writes = false) : x = .none := by cases x <;> simp [meets] at h ⊢
/-- operations whose slots do not meet, and which each do as they would without the other -/
theorem exec1_swap [Glob P] {W : Words} {L : List Oper} {b i j : Nat} {x y : Oper} {s : S} (hs : slotsB L x y = true)
    (key : ∀ (rx ry : D) (hx hy : H) (px py : Prop), (outD P W C L b i x s.n s.ev s.t s.h) = (rx, hx, px) → (outD P W C L b j y s.n s.ev s.t s.h) = (ry, hy, py) →
      ∃ hz, outD P W C L b j y s.n s.ev s.t hx = (ry, hz, py) ∧ outD P W C L b i x s.n s.ev s.t hy = (rx, hz, px)) : exec1 P W C L b j y (exec1 P W C L b i x s) = exec1 P W C L b i x (exec1 P W C L b j y s) := by
  simp only [slotsB, Bool.and_eq_true] at hs
  obtain ⟨h1, h2⟩ := hs
  have nx : ∀ d, x.dst = some d → d ∉ looks L y ∧ y.dst ≠ some d := by
    intro d hd
    rw [hd] at h1
    simp only [Bool.and_eq_true, Bool.not_eq_true', bne_iff_ne] at h1
    exact ⟨by simpa using h1.1, h1.2⟩
  have ny : ∀ d, y.dst = some d → d ∉ looks L x := by
    intro d hd
    rw [hd] at h2
    simpa using h2
  have look : ∀ {u : Oper} {s : S} {dst : Option Tmp} {r : D}, (∀ d, dst = some d → d ∉ looks L u) → ∀ z ∈ looks L u, s.t z = (S.put s dst r) z := by
    intro u s dst r hd z hz
    cases dst with
    | none => rfl
    | some d => exact (upd_ne _ _ _ _ (fun e => hd d rfl (by rw [← e]; exact hz))).symm
  have ly : ∀ {h' : H} {ok' : Prop} {r : D} {n : Nat} {h : H}, outD P W C L b j y n (S.ev { s with t := s.put x.dst r, h := h', ok := ok' }) (s.put x.dst r) h = outD P W C L b j y n s.ev s.t h :=
    fun {h' ok' r n h} => (out_looks (s := s) (s' := { s with t := s.put x.dst r, h := h', ok := ok' }) (look fun d hd => (nx d hd).1)).symm
  have lx : ∀ {h' : H} {ok' : Prop} {r : D} {n : Nat} {h : H}, outD P W C L b i x n (S.ev { s with t := s.put y.dst r, h := h', ok := ok' }) (s.put y.dst r) h = outD P W C L b i x n s.ev s.t h :=
    fun {h' ok' r n h} => (out_looks (s := s) (s' := { s with t := s.put y.dst r, h := h', ok := ok' }) (look fun d hd => ny d hd)).symm
  rw [exec1_out (s := s) (o := x), exec1_out (s := s) (o := y), exec1_out (o := y), exec1_out (o := x)]
  simp only [ly, lx]
  have hput : ∀ r q, S.put { s with t := s.put x.dst r } y.dst q = S.put { s with t := s.put y.dst q } x.dst r := by
    intro r q
    cases hx : x.dst with
    | none => rfl
    | some d =>
      cases hy : y.dst with
      | none => rfl
      | some d' =>
        have hne : d ≠ d' := fun e => (nx d hx).2 (by rw [hy, e])
        funext z
        simp only [S.put, upd]
        by_cases e1 : z = d
        · have : z ≠ d' := fun e => hne (e1 ▸ e)
          simp [e1, hne]
        · simp [e1]
  have hput' : ∀ r q h1 ok1 h2 ok2, S.put { s with t := s.put x.dst r, h := h1, ok := ok1 } y.dst q = S.put { s with t := s.put y.dst q, h := h2, ok := ok2 } x.dst r := fun r q _ _ _ _ => hput r q
  rcases hox : outD P W C L b i x s.n s.ev s.t s.h with ⟨rx, hx, px⟩
  rcases hoy : outD P W C L b j y s.n s.ev s.t s.h with ⟨ry, hy, py⟩
  obtain ⟨hz, k1, k2⟩ := key rx ry hx hy px py hox hoy
  simp only [k1, k2]
  congr 1
  · exact hput' _ _ _ _ _ _
  · exact propext ⟨fun ⟨⟨a, b⟩, c⟩ => ⟨⟨a, c⟩, b⟩, fun ⟨⟨a, b⟩, c⟩ => ⟨⟨a, c⟩, b⟩⟩

theorem exec1_comm [Glob P] {W : Words} {L : List Oper} {b i j : Nat} {x y : Oper} {s : S} (ha : apartB C L x y = true) : exec1 P W C L b j y (exec1 P W C L b i x s) = exec1 P W C L b i x (exec1 P W C L b j y s) := by
  simp only [apartB, Bool.and_eq_true, Bool.not_eq_true'] at ha
  obtain ⟨⟨h1, h2⟩, h3⟩ := ha
  refine exec1_swap (by simp only [slotsB, Bool.and_eq_true]; exact ⟨h1, h2⟩) ?_
  generalize hX : cls C x.op = cx at h3
  generalize hY : cls C y.op = cy at h3
  · intro rx ry hx hy px py e1 e2
    have ex : hx = (outD P W C L b i x s.n s.ev s.t s.h).2.1 := by rw [e1]
    have ey : hy = (outD P W C L b j y s.n s.ev s.t s.h).2.1 := by rw [e2]
    by_cases c1 : cx = .writes
    · have c2 : cy = .none := meets_left (c1 ▸ h3)
      subst c2
      rw [out_reads (by rw [hY]; simp)] at ey
      subst ey
      refine ⟨hx, ?_, e1⟩
      rw [out_none (h := hx) (h' := s.h) hY, e2]
    · rw [out_reads (by rw [hX]; exact c1)] at ex
      subst ex
      by_cases c2 : cy = .writes
      · have c3 : cx = .none := meets_right (c2 ▸ h3)
        refine ⟨hy, e2, ?_⟩
        rw [out_none (h := hy) (h' := s.h) (by rw [hX, c3]), e1]
      · rw [out_reads (by rw [hY]; exact c2)] at ey
        subst ey
        exact ⟨s.h, e2, e1⟩

/-! ### whatever order the machine takes -/
def run1 (P : Program) [Glob P] (W : Words) (C : Con) (L : List Oper) (b : Nat) (s : S) (i : Nat) : S := match L[i]? with
  | some o => exec1 P W C L b i o s
  | none => s
theorem run1_ok [Glob P] {W : Words} {L : List Oper} {b : Nat} : ∀ {l : List Nat} {s : S}, (l.foldl (run1 P W C L b) s).ok → s.ok
  | [], _, h => h
  | i :: l, s, h => by
    have h1 := run1_ok (l := l) h
    unfold run1 at h1
    split at h1
    · exact exec1_ok h1
    · exact h1
theorem execFrom_fold [Glob P] {W : Words} {L : List Oper} {b : Nat} : ∀ (k i : Nat) (s : S), i + k = L.length → execFrom P W C L b i (L.drop i) s = (List.range' i k).foldl (run1 P W C L b) s := by
  intro k
  induction k with
  | zero =>
    intro i s hk
    rw [List.drop_eq_nil_of_le (by omega)]
    simp [execFrom]
  | succ k ih =>
    intro i s hk
    have hlt : i < L.length := by omega
    rw [List.drop_eq_getElem_cons hlt, List.range'_succ]
    simp only [execFrom, List.foldl_cons]
    rw [ih (i + 1) _ (by omega)]
    congr 1
    simp [run1, hlt]
/-! ### blocks that are made, beside reads -/
def named (n : Nat) : D → Bool
  | .mrow r _ _ => r == n
  | .mptr r _ _ => r == n
  | _ => false
theorem ldCells_new {a : D} {h : H} {n : Nat} {bl : Blk} (hn : named n a = false) : ldCells a (upd h n (some bl)) = ldCells a h := by
  cases a with
  | mptr r i off =>
    have : r ≠ n := by simpa [named] using hn
    simp only [ldCells, upd_ne _ _ _ _ this]
  | _ => rfl
theorem ldc_new [Glob P] {a : D} {h : H} {n : Nat} {bl : Blk} (hn : named n a = false) : ldc P a (upd h n (some bl)) = ldc P a h := by
  unfold ldc
  split
  · rfl
  · exact ldCells_new hn
theorem idxPtr_new [Glob P] {t : TypeId} {x ix : D} {h : H} {n : Nat} {bl : Blk} (hn : named n x = false) : idxPtr P t x ix (upd h n (some bl)) = idxPtr P t x ix h := by
  unfold idxPtr
  cases elemT P t with
  | none => rfl
  | some e =>
    cases x with
    | mrow r off len =>
      have : r ≠ n := by simpa [named] using hn
      cases ix with
      | v y => cases y <;> first | rfl | simp only [upd_ne _ _ _ _ this]
      | _ => rfl
    | list f rows =>
      cases ix with
      | v y => cases y <;> rfl
      | _ => rfl
    | _ => cases ix <;> rfl
theorem sliceD_new [Glob P] {t : TypeId} {x : D} {l hh m : Option D} {h : H} {n : Nat} {bl : Blk} (hn : named n x = false) : sliceD P t x l hh m (upd h n (some bl)) = sliceD P t x l hh m h := by
  cases x with
  | mrow r off len =>
    have : r ≠ n := by simpa [named] using hn
    simp only [sliceD, upd_ne _ _ _ _ this]
  | v y => cases y <;> rfl
  | list f rows => simp only [sliceD]
  | _ => rfl
theorem reads_spec {op : Op} (hc : readOp op = true) : (∃ t x, op = .load t x) ∨ (∃ t x y, op = .indexAddr t x y) ∨ (∃ t x l hh m, op = .slice t x l hh m) := by
  unfold readOp at hc
  split at hc <;> first
    | cases hc
    | skip
  · exact .inl ⟨_, _, rfl⟩
  · exact .inr (.inl ⟨_, _, _, rfl⟩)
  · exact .inr (.inr ⟨_, _, _, _, _, rfl⟩)
/-- what reads, and names no block that is made, reads what it would without -/
theorem reader_new [Glob P] {W : Words} {op : Op} {xs : List D} {h : H} {n b : Nat} {bl : Blk} (hc : readOp op = true) (hn : ∀ d ∈ xs, named n d = false) :
    eff P W C op xs (upd h n (some bl)) b = ((eff P W C op xs h b).1, upd h n (some bl), (eff P W C op xs h b).2.2) := by
  rcases reads_spec hc with ⟨t, x, rfl⟩ | ⟨t, x, y, rfl⟩ | ⟨t, x, l, hh, m, rfl⟩
  · match xs, hn with
    | [], _ => rfl
    | [a], hn => simp only [eff, still, ldD, ldc_new (hn a (by simp))]
    | _ :: _ :: _, _ => rfl
  · match xs, hn with
    | [], _ => rfl
    | [_], _ => rfl
    | [a, c], hn => simp only [eff, still, idxPtr_new (hn a (by simp))]
    | _ :: _ :: _ :: _, _ => rfl
  · match xs, hn with
    | [], _ => rfl
    | a :: as, hn => simp only [eff, still, sliceD_new (hn a (by simp))]
theorem named_none {a : D} {n : Nat} (hn : named n a = true) : (∃ off len, a = .mrow n off len) ∨ ∃ i off, a = .mptr n i off := by
  cases a with
  | mrow r off len => have : r = n := by simpa [named] using hn
                      subst this; exact .inl ⟨_, _, rfl⟩
  | mptr r i off => have : r = n := by simpa [named] using hn
                    subst this; exact .inr ⟨_, _, rfl⟩
  | _ => cases hn
/-- what reads, and may, where a block is not there yet, reads the same when it is -/
theorem reader_old [Glob P] {W : Words} {op : Op} {xs : List D} {h : H} {n b : Nat} {bl : Blk} (hc : readOp op = true) (hno : h n = none) (hok : (eff P W C op xs h b).2.2) :
    eff P W C op xs (upd h n (some bl)) b = ((eff P W C op xs h b).1, upd h n (some bl), (eff P W C op xs h b).2.2) := by
  rcases reads_spec hc with ⟨t, x, rfl⟩ | ⟨t, x, y, rfl⟩ | ⟨t, x, l, hh, m, rfl⟩
  · match xs, hok with
    | [a], hok =>
      cases hna : named n a with
      | false => simp only [eff, still, ldD, ldc_new hna]
      | true =>
        exfalso
        simp only [eff, still, ldD] at hok
        obtain ⟨q1, q2, _⟩ := hok
        rcases named_none hna with ⟨off, len, rfl⟩ | ⟨i, off, rfl⟩ <;> simp [ldc, ldCells, hno] at q1 <;> omega
  · match xs, hok with
    | [a, c], hok =>
      cases hna : named n a with
      | false => simp only [eff, still, idxPtr_new hna]
      | true =>
        exfalso
        simp only [eff, still] at hok
        rcases named_none hna with ⟨off, len, rfl⟩ | ⟨i, off, rfl⟩
        · unfold idxPtr at hok
          split at hok
          · unfold idxArr at hok
            split at hok
            · exact absurd hok.1 (by simp [isGp])
            · exact hok
          · split at hok
            · rename_i e; cases e
            · rename_i e; cases e
              rw [hno] at hok; exact hok.2.2.2
            · exact hok
        · unfold idxPtr at hok
          split at hok
          · unfold idxArr at hok
            split at hok
            · exact absurd hok.1 (by simp [isGp])
            · exact hok
          · exact hok
  · match xs, hok with
    | a :: as, hok =>
      cases hna : named n a with
      | false => simp only [eff, still, sliceD_new hna]
      | true =>
        exfalso
        simp only [eff, still] at hok
        rcases named_none hna with ⟨off, len, rfl⟩ | ⟨i, off, rfl⟩
        · simp only [sliceD] at hok
          split at hok
          · exact hok
          · simp only [hno] at hok; exact hok.2.2.2
        · exact hok
theorem maker_spec [Glob P] {W : Words} {op : Op} (hm : (match op with | .alloc _ | .box _ _ => true | _ => false) = true) (xs : List D) (b : Nat) :
    ∃ r p, (∃ bl, ∀ h, eff P W C op xs h b = (r, upd h b (some bl), p)) ∨ ∀ h, eff P W C op xs h b = (r, h, p) := by
  cases op with
  | alloc e =>
    match xs with
    | [] => exact ⟨_, _, .inl ⟨_, fun h => rfl⟩⟩
    | _ :: _ => exact ⟨_, _, .inr fun h => rfl⟩
  | box e x =>
    match xs with
    | [] => exact ⟨_, _, .inr fun h => rfl⟩
    | [a] => exact ⟨_, _, .inl ⟨_, fun h => rfl⟩⟩
    | _ :: _ :: _ => exact ⟨_, _, .inr fun h => rfl⟩
  | _ => cases hm
theorem fold_front [Glob P] {W : Words} {L : List Oper} {b i : Nat} : ∀ (pre : List Nat) (s : S), (∀ j ∈ pre, ∀ x y, L[j]? = some x → L[i]? = some y → apartB C L x y = true) →
    run1 P W C L b (pre.foldl (run1 P W C L b) s) i = pre.foldl (run1 P W C L b) (run1 P W C L b s i)
  | [], s, _ => rfl
  | j :: pre, s, h => by
    simp only [List.foldl_cons]
    rw [fold_front pre _ (fun j' hj' => h j' (by simp [hj']))]
    congr 1
    unfold run1
    cases hj : L[j]? with
    | none => rfl
    | some x =>
      cases hi : L[i]? with
      | none => rfl
      | some y => exact exec1_comm (h j (by simp) x y hj hi)

/-- a maker, wherever it stands -/
theorem maker_out [Glob P] {W : Words} {L : List Oper} {b i : Nat} {o : Oper} {ev : Operand → D} {t : Nat → D} {n : Nat} (hm : maker o = true) :
    ∃ r p, (∃ bl, ∀ h, outD P W C L b i o n ev t h = (r, upd h (b + i) (some bl), p)) ∨ ∀ h, outD P W C L b i o n ev t h = (r, h, p) := by
  simp only [maker, Bool.and_eq_true, Option.isNone_iff_eq_none] at hm
  obtain ⟨h1, h2⟩ := hm
  have hp : isPick o.op = false := by cases ho : o.op <;> rw [ho] at h1 <;> first | rfl | cases h1
  obtain ⟨r, p, h⟩ := maker_spec (P := P) (C := C) (W := W) h1 (((opArgs o.op).map ev).map sd) (b + i)
  refine ⟨r, dstOk n o.dst = true ∧ ((true : Bool) = true → ((opArgs o.op).map ev).all sg = true) ∧ p, ?_⟩
  rcases h with ⟨bl, h⟩ | h
  · refine .inl ⟨bl, fun hh => ?_⟩
    unfold outD
    simp only [h2]
    unfold effG
    simp only [hp, Bool.false_eq_true, if_false, h]
  · refine .inr fun hh => ?_
    unfold outD
    simp only [h2]
    unfold effG
    simp only [hp, Bool.false_eq_true, if_false, h]
theorem reads_npick {op : Op} (hc : readOp op = true) : isPick op = false := by
  rcases reads_spec hc with ⟨t, x, rfl⟩ | ⟨t, x, y, rfl⟩ | ⟨t, x, l, hh, m, rfl⟩ <;> rfl
theorem reader_spec {o : Oper} (hr : reader o = true) : readOp o.op = true ∧ o.guard = none := by
  simp only [reader, Bool.and_eq_true, Option.isNone_iff_eq_none] at hr
  exact hr
theorem reader_cls {o : Oper} (hr : reader o = true) : cls C o.op ≠ .writes := by
  rcases reads_spec (reader_spec hr).1 with ⟨t, x, e⟩ | ⟨t, x, y, e⟩ | ⟨t, x, l, hh, m, e⟩ <;> simp [e, cls]
theorem reader_out [Glob P] {W : Words} {L : List Oper} {b i m : Nat} {o : Oper} {ev : Operand → D} {t : Nat → D} {n : Nat} {h : H} {bl : Blk} (hr : reader o = true)
    (hn : (∀ d ∈ (opArgs o.op).map ev, named m (sd d) = false) ∨ (h m = none ∧ (outD P W C L b i o n ev t h).2.2)) :
    outD P W C L b i o n ev t (upd h m (some bl)) = ((outD P W C L b i o n ev t h).1, upd h m (some bl), (outD P W C L b i o n ev t h).2.2) := by
  obtain ⟨hc, hg⟩ := reader_spec hr
  have hp := reads_npick hc
  have key : eff P W C o.op (((opArgs o.op).map ev).map sd) (upd h m (some bl)) (b + i) = ((eff P W C o.op (((opArgs o.op).map ev).map sd) h (b + i)).1, upd h m (some bl), (eff P W C o.op (((opArgs o.op).map ev).map sd) h (b + i)).2.2) := by
    rcases hn with hn | ⟨h1, h2⟩
    · refine reader_new hc fun d hd => ?_
      obtain ⟨d', h1, rfl⟩ := List.mem_map.1 hd
      exact hn d' h1
    · refine reader_old hc h1 ?_
      simp only [outD, hg, effG, hp, Bool.false_eq_true, if_false] at h2
      exact h2.2.2
  simp only [outD, hg, effG, hp, Bool.false_eq_true, if_false, key]
theorem eff_keeps [Glob P] {W : Words} {op : Op} {xs : List D} {h : H} {b r : Nat} (hc : (match op with | .call { callee := .value f, .. } => isPureCall f | _ => true) = true) (hr : r ≠ b) (hn : h r = none) : (eff P W C op xs h b).2.1 r = none := by
  by_cases hw : cls C op ≠ .writes
  · rw [eff_h hw]; exact hn
  · have hw : cls C op = .writes := by simpa using hw
    cases op with
    | alloc e =>
      match xs with
      | [] => simp only [eff, upd_ne _ _ _ _ hr]; exact hn
      | _ :: _ => exact hn
    | box e x =>
      match xs with
      | [] => exact hn
      | [a] => simp only [eff, upd_ne _ _ _ _ hr]; exact hn
      | _ :: _ :: _ => exact hn
    | buildSlice t n ps =>
      have hb : C.bs = true := by
        cases hb : C.bs with
        | true => rfl
        | false => simp [cls, hb] at hw
      simp only [eff, hb, if_true, bsOwn]
      split
      · simp only [upd_ne _ _ _ _ hr]; exact hn
      · exact hn
    | store t x y =>
      match xs with
      | [] => exact hn
      | [_] => exact hn
      | _ :: _ :: _ :: _ => exact hn
      | [a, x] =>
        simp only [eff, stH]
        cases a with
        | mptr r' i off =>
          simp only
          cases hq : h r' with
          | none => exact hn
          | some bl =>
            have : r ≠ r' := fun e => by subst e; rw [hn] at hq; cases hq
            simp only [upd_ne _ _ _ _ this]; exact hn
        | _ => exact hn
    | call c =>
      obtain ⟨callee, args, ts⟩ := c
      cases callee with
      | value f =>
        simp only at hc
        simp [cls, hc] at hw
      | builtin bi =>
        cases bi with
        | append =>
          match xs with
          | [] => exact hn
          | [_] => exact hn
          | _ :: _ :: _ :: _ => exact hn
          | [x, y] =>
            simp only [eff]
            split
            · simp only [appendD]
              split
              · exact hn
              · split
                · simp only [upd_ne _ _ _ _ hr]; exact hn
                · rename_i r' n'
                  cases hq : h r' with
                  | none => exact hn
                  | some bl =>
                    simp only [upd_ne _ _ _ _ hr]
                    by_cases e : r = r'
                    · subst e; exact upd_same _ _ _
                    · rw [upd_ne _ _ _ _ e]; exact hn
                · exact hn
            · exact hn
        | _ => simp [cls] at hw
      | _ => simp [cls] at hw
    | _ => simp [cls] at hw
theorem exec1_keeps [Glob P] {W : Words} {L : List Oper} {b i r : Nat} {o : Oper} {s : S} (hc : callsPure C o = true) (hr : r ≠ b + i) (hn : s.h r = none) : (exec1 P W C L b i o s).h r = none := by
  rw [exec1_out]
  show (outD P W C L b i o s.n s.ev s.t s.h).2.1 r = none
  unfold outD
  cases o.guard with
  | some jw => exact hn
  | none =>
    simp only [effG]
    split
    · exact hn
    · exact eff_keeps hc hr hn
theorem slots_looks [Glob P] {W : Words} {L : List Oper} {b i : Nat} {x y : Oper} {s : S} (hs : slotsB L x y = true) : (opArgs y.op).map (exec1 P W C L b i x s).ev = (opArgs y.op).map s.ev := by
  simp only [slotsB, Bool.and_eq_true] at hs
  refine List.map_congr_left fun z hz => ?_
  cases z with
  | tmp t =>
    rw [exec1_out]
    show S.put s x.dst _ t = s.t t
    cases hd : x.dst with
    | none => rfl
    | some d =>
      have h1 := hs.1
      rw [hd] at h1
      simp only [Bool.and_eq_true, Bool.not_eq_true', bne_iff_ne] at h1
      have h2 : d ∉ looks L y := by simpa using h1.1
      refine upd_ne _ _ _ _ fun e => h2 ?_
      subst e
      exact List.mem_append.2 (.inl (List.mem_filterMap.2 ⟨.tmp t, hz, rfl⟩))
  | _ => rfl
theorem apart2_slots {L : List Oper} {x y : Oper} (h : apart2 C L x y = true) : slotsB L x y = true := by
  unfold apart2 at h
  simp only [Bool.or_eq_true, Bool.and_eq_true] at h
  rcases h with h | h
  · simp only [apartB, Bool.and_eq_true] at h
    simp only [slotsB, Bool.and_eq_true]
    exact h.1
  · exact h.1.1
/-- an operation j of the list pre, and i behind it: i may come first -/
theorem exec1_comm2 [Glob P] {W : Words} {L : List Oper} {b i j : Nat} {x y : Oper} {s : S} (ha : apart2 C L x y = true)
    (h1 : maker x = true → reader y = true → ∀ d ∈ (opArgs y.op).map s.ev, named (b + j) (sd d) = false)
    (h2 : reader x = true → maker y = true → s.h (b + i) = none ∧ (outD P W C L b j x s.n s.ev s.t s.h).2.2) :
    exec1 P W C L b i y (exec1 P W C L b j x s) = exec1 P W C L b j x (exec1 P W C L b i y s) := by
  have hs := apart2_slots ha
  unfold apart2 at ha
  simp only [Bool.or_eq_true, Bool.and_eq_true] at ha
  rcases ha with ha | ⟨_, ⟨hm, hr⟩ | ⟨hr, hm⟩⟩
  · exact exec1_comm ha
  · refine exec1_swap hs fun rx ry hx hy px py e1 e2 => ?_
    obtain ⟨r, p, ⟨bl, h⟩ | h⟩ := maker_out (P := P) (C := C) (W := W) (L := L) (b := b) (i := j) (ev := s.ev) (t := s.t) (n := s.n) hm
    · have e3 := reader_out (P := P) (C := C) (W := W) (L := L) (b := b) (i := i) (t := s.t) (n := s.n) (h := s.h) (bl := bl) hr (.inl (h1 hm hr))
      have e4 := h s.h
      rw [e1] at e4
      cases e4
      refine ⟨upd s.h (b + j) (some bl), by rw [e3, e2], ?_⟩
      · have : hy = s.h := by
          have := out_reads (P := P) (W := W) (L := L) (b := b) (i := i) (ev := s.ev) (t := s.t) (n := s.n) (h := s.h) (C := C) (o := y) (reader_cls hr)
          rw [e2] at this; exact this
        rw [h hy, this]
    · have e4 := h s.h
      rw [e1] at e4
      cases e4
      exact ⟨hy, e2, h hy⟩
  · refine exec1_swap hs fun rx ry hx hy px py e1 e2 => ?_
    have hxs : hx = s.h := by
      have := out_reads (P := P) (W := W) (L := L) (b := b) (i := j) (ev := s.ev) (t := s.t) (n := s.n) (h := s.h) (C := C) (o := x) (reader_cls hr)
      rw [e1] at this; exact this
    subst hxs
    obtain ⟨r, p, ⟨bl, h⟩ | h⟩ := maker_out (P := P) (C := C) (W := W) (L := L) (b := b) (i := i) (ev := s.ev) (t := s.t) (n := s.n) hm
    · have e3 := reader_out (P := P) (C := C) (W := W) (L := L) (b := b) (i := j) (t := s.t) (n := s.n) (h := s.h) (bl := bl) hr (.inr (h2 hr hm))
      have e4 := h s.h
      rw [e2] at e4
      cases e4
      exact ⟨_, e2, by rw [e3, e1]⟩
    · have e4 := h s.h
      rw [e2] at e4
      cases e4
      exact ⟨_, e2, e1⟩
theorem run1_looks [Glob P] {W : Words} {L : List Oper} {b j : Nat} {y : Oper} {s : S} (h : ∀ x, L[j]? = some x → slotsB L x y = true) : (opArgs y.op).map (run1 P W C L b s j).ev = (opArgs y.op).map s.ev := by
  unfold run1
  cases hj : L[j]? with
  | none => rfl
  | some x => exact slots_looks (h x hj)
theorem fold_looks [Glob P] {W : Words} {L : List Oper} {b : Nat} {y : Oper} : ∀ (pre : List Nat) (s : S), (∀ j ∈ pre, ∀ x, L[j]? = some x → slotsB L x y = true) → (opArgs y.op).map (pre.foldl (run1 P W C L b) s).ev = (opArgs y.op).map s.ev
  | [], s, _ => rfl
  | j :: pre, s, h => by
    simp only [List.foldl_cons]
    rw [fold_looks pre _ fun k hk => h k (by simp [hk]), run1_looks (h j (by simp))]
theorem fold_front2 [Glob P] {W : Words} {L : List Oper} {b i : Nat} {y : Oper} (hi : L[i]? = some y) : ∀ (pre : List Nat) (s : S), (∀ j ∈ pre, j ≠ i ∧ ∀ x, L[j]? = some x → apart2 C L x y = true) →
    (reader y = true → ∀ j ∈ pre, ∀ d ∈ (opArgs y.op).map s.ev, named (b + j) (sd d) = false) → s.h (b + i) = none → (pre.foldl (run1 P W C L b) s).ok →
    run1 P W C L b (pre.foldl (run1 P W C L b) s) i = pre.foldl (run1 P W C L b) (run1 P W C L b s i)
  | [], s, _, _, _, _ => rfl
  | j :: pre, s, h, hr, hh, hok => by
    simp only [List.foldl_cons] at hok ⊢
    have hji := (h j (by simp)).1
    have hok1 := run1_ok hok
    cases hj : L[j]? with
    | none =>
      have e : ∀ u, run1 P W C L b u j = u := fun u => by simp only [run1, hj]
      rw [e s, e] at *
      exact fold_front2 hi pre s (fun k hk => h k (by simp [hk])) (fun hry k hk => hr hry k (by simp [hk])) hh hok
    | some x =>
      have hap := (h j (by simp)).2 x hj
      have e : ∀ u, run1 P W C L b u j = exec1 P W C L b j x u := fun u => by simp only [run1, hj]
      have e' : ∀ u, run1 P W C L b u i = exec1 P W C L b i y u := fun u => by simp only [run1, hi]
      have hstep : run1 P W C L b (run1 P W C L b s j) i = run1 P W C L b (run1 P W C L b s i) j := by
        rw [e, e, e', e']
        refine exec1_comm2 hap (fun _ hry => hr hry j (by simp)) fun _ _ => ⟨hh, ?_⟩
        rw [e, exec1_out] at hok1
        exact hok1.2
      rw [← hstep]
      unfold apart2 at hap
      by_cases hcp : L.all (callsPure C) = true
      · refine fold_front2 hi pre _ (fun k hk => h k (by simp [hk])) (fun hry k hk => ?_) ?_ hok
        · rw [e, slots_looks (apart2_slots ((h j (by simp)).2 x hj))]
          exact hr hry k (by simp [hk])
        · rw [e]
          refine exec1_keeps (List.all_eq_true.1 hcp x (List.mem_of_getElem? hj)) (by omega) hh
      · -- no new block is asked for beside reads
        have hall : ∀ k ∈ pre, ∀ x y', L[k]? = some x → L[i]? = some y' → apartB C L x y' = true := by
          intro k hk x' y' hx' hy'
          rw [hi] at hy'; cases hy'
          have := (h k (by simp [hk])).2 x' hx'
          unfold apart2 at this
          have hcp' : L.all (callsPure C) = false := by simpa using hcp
          simpa [hcp'] using this
        exact fold_front pre _ hall
theorem rep_named {w : World} {g : Mem} {d : D} {v : Value} {n : Nat} (hr : Rep w g d v) (hg : sg d = true) (hn : named n (sd d) = true) : g.U n := by
  have key : ∀ {d : D}, Rep w g d v → named n d = true → g.U n := by
    intro d hr hn
    cases hr with
    | mrow r off len x hx hU h => have : r = n := by simpa [named] using hn
                                  exact this ▸ hU
    | mptr r i off x hx hU h => have : r = n := by simpa [named] using hn
                                exact this ▸ hU
    | _ => cases hn
  cases d with
  | cond g d =>
    cases hr with
    | cond _ _ _ ht hf => exact key (ht hg) hn
  | _ => exact key hr hn

theorem drew_st [Glob P] {s : S} {g : Mem} {a : Act} {w : World} (hs : St P B s g a w) : St P B s g a { w with drawn := w.drawn + 1 } ∧ Mono g g w { w with drawn := w.drawn + 1 } := by
  have m : Mono g g w { w with drawn := w.drawn + 1 } := ⟨rfl, rfl, rfl, Nat.le_refl _, Nat.le_succ _, fun _ h => h, fun _ _ => .inl rfl, fun r _ c s h => .inl ⟨r, c, s, h⟩, fun _ h => h, fun _ h => .inl h, fun _ _ _ => rfl⟩
  refine ⟨⟨hs.sz, fun i => (hs.tm i).later hs.mem m, ⟨hs.mem.dead, fun r bl hr => ?_, hs.mem.inj, hs.mem.used, hs.mem.imm, hs.mem.gr.later (hs.mem.kept m)⟩, hs.df.later hs.mem m, Env.later hs.mem m hs.en, hs.bd⟩, m⟩
  obtain ⟨blk, c, h1, h2, h3, h4, h5⟩ := hs.mem.blk r bl hr
  refine ⟨blk, c, h1, h2, h3, h4, ?_⟩
  rcases h5 with h5 | ⟨b, cur, rfl, h6, h7, h8, h9⟩
  · exact .inl h5
  · exact .inr ⟨b, cur, rfl, h6, h7, h8, fun i row hi => ⟨(h9 i row hi).1, fun j d hd => by
      obtain ⟨u, k3, k4, k5⟩ := (h9 i row hi).2 j d hd
      exact ⟨u, k3, k4, k5.later hs.mem m⟩⟩⟩

/-- what is still to be done -/
def todo (n : Nat) (listed : Array Bool) : List Nat := (List.range n).filter fun i => !listed.getD i false
theorem draw_sound [Glob P] {ops : Array Oper} {b : Nat} {ro : Option Nat} {n : Nat} {Q : Exit → Act → World → Prop} {w0 : World} {g0 : Mem} {fin : S} (hcomm : commOk C ops.toList = true) :
    ∀ (fuel : Nat) (listed : Array Bool) (s : S) (g : Mem) (a : Act) (w : World), listed.size = ops.size → (todo ops.size listed).length ≤ fuel → (∀ (i : Nat) o, ops.toList[i]? = some o → listed.getD i false = true → ∀ e ∈ o.after.toList, Region.binds .any e = true → listed.getD e.on false = true) →
      (∀ (i : Nat) o, ops.toList[i]? = some o → ∀ e ∈ o.after.toList, Region.binds .any e = true → e.on < i) →
      St P B s g a w → Mono g0 g w0 w → (∀ r, g.U r → r < b ∨ ∃ i, listed.getD i false = true ∧ i < ops.size ∧ r = b + i) → (todo ops.size listed).foldl (run1 P (words P) C ops.toList b) s = fin → fin.ok →
      (∀ g' a' w', St P B fin g' a' w' → Mono g0 g' w0 w' → (∀ r, g'.U r → r < b + ops.size) → Q .normal a' w') →
      wpAnyIn (Fw ro) n P .any ops Q fuel listed a w := by
  intro fuel
  induction fuel with
  | zero =>
    intro listed s g a w hsz hfu hX hback hs hm hU hfin hok hQ
    have hnil : todo ops.size listed = [] := List.eq_nil_of_length_eq_zero (by omega)
    rw [hnil] at hfin
    simp only [List.foldl_nil] at hfin
    subst hfin
    refine ⟨?_, hQ g a w hs hm fun r hr => ?_⟩
    · unfold Region.ready
      rw [List.filter_eq_nil_iff]
      intro i hi
      have h1 : i ∉ todo ops.size listed := by rw [hnil]; simp
      simp only [todo, List.mem_filter, hi, true_and, Bool.not_eq_true', Bool.not_eq_false] at h1
      have hil : i < listed.size := by rw [hsz]; simpa using hi
      have h2 : listed.getD i true = true := by simp [Array.getD, hil] at h1 ⊢; exact h1
      simp [h2]
    · rcases hU r hr with h | ⟨i, _, h, rfl⟩ <;> omega
  | succ fuel ih =>
    intro listed s g a w hsz hfu hX hback hs hm hU hfin hok hQ
    refine ⟨fun hrd => ?_, fun i hi => ?_⟩
    · -- nothing is ready: all is done
      have hnil : todo ops.size listed = [] := by
        rw [todo, List.filter_eq_nil_iff]
        intro i hi
        simp only [Bool.not_eq_true', Bool.not_eq_false]
        have hlt : i < ops.size := by simpa using hi
        have : ∀ k, k < ops.size → listed.getD k false = true := by
          intro k
          induction k using Nat.strongRecOn with
          | _ k ihk =>
            intro hk
            have h0 : k ∉ Region.ready .any ops listed := by rw [hrd]; simp
            unfold Region.ready at h0
            simp only [List.mem_filter, List.mem_range, hk, true_and] at h0
            have hkl : k < listed.size := by omega
            cases hq : listed.getD k false with
            | true => rfl
            | false =>
              exfalso
              apply h0
              have h2 : listed.getD k true = false := by simp [Array.getD, hkl] at hq ⊢; exact hq
              have h3 : ops[k]? = some ops[k] := by simp [hk]
              simp only [h2, Bool.not_false, h3, Option.map_some, Option.getD_some, Bool.true_and]
              rw [Array.all_eq_true]
              intro q hqq
              simp only [Bool.or_eq_true, Bool.not_eq_true']
              cases hb : Region.binds .any (ops[k].after[q]) with
              | false => exact .inl rfl
              | true =>
                have hmem : ops[k].after[q] ∈ ops[k].after.toList := by simp
                have h4 := hback k ops[k] (by simp [hk]) _ hmem hb
                exact .inr (ihk _ h4 (by omega))
        exact this i hlt
      rw [hnil] at hfin
      simp only [List.foldl_nil] at hfin
      subst hfin
      exact hQ g a w hs hm fun r hr => by rcases hU r hr with h | ⟨i, _, h, rfl⟩ <;> omega
    · unfold Region.ready at hi
      simp only [List.mem_filter, List.mem_range, Bool.and_eq_true, Bool.not_eq_true'] at hi
      obtain ⟨hlt, h1, h2⟩ := hi
      have h3 : ops[i]? = some ops[i] := by simp [hlt]
      have h3L : ops.toList[i]? = some ops[i] := by simp [hlt]
      simp only [h3, Option.map_some, Option.getD_some] at h2
      have hil : i < listed.size := by omega
      have h1f : listed.getD i false = false := by simp [Array.getD, hil] at h1 ⊢; exact h1
      have hpred : ∀ e ∈ (ops[i]).after.toList, Region.binds .any e = true → listed.getD e.on false = true := by
        intro e he hb
        rw [Array.all_eq_true] at h2
        obtain ⟨q, hq, rfl⟩ := Array.mem_iff_getElem.1 (Array.mem_toList_iff.1 he)
        have := h2 q hq
        simp only [hb, Bool.not_true, Bool.false_or] at this
        exact this
      -- i among what is to be done
      have hmem : i ∈ todo ops.size listed := by simp [todo, hlt]; simpa using h1f
      obtain ⟨pre, post, hsplit⟩ := List.append_of_mem hmem
      have hsorted : (todo ops.size listed).Pairwise (· < ·) := List.Pairwise.filter _ List.pairwise_lt_range
      rw [hsplit] at hsorted
      have hpre : ∀ j ∈ pre, j < i := fun j hj => (List.pairwise_append.1 hsorted).2.2 j hj i (by simp)
      have hpost : ∀ j ∈ post, i < j := fun j hj => (List.pairwise_cons.1 (List.pairwise_append.1 hsorted).2.1).1 j hj
      have hap : ∀ j ∈ pre, j ≠ i ∧ ∀ x, ops.toList[j]? = some x → apart2 C ops.toList x ops[i] = true := by
        intro j hj
        have hjl := hpre j hj
        refine ⟨by omega, fun x hx => ?_⟩
        have hjm : j ∈ todo ops.size listed := by rw [hsplit]; simp [hj]
        have hjn : listed.getD j false = false := by simp only [todo, List.mem_filter, Bool.not_eq_true'] at hjm; exact hjm.2
        unfold commOk at hcomm
        simp only [List.all_eq_true, List.mem_range, Bool.or_eq_true] at hcomm
        rcases hcomm i (by simpa using hlt) j hjl with h | h
        · exfalso
          have := bef_closed (L := ops.toList) (X := fun k => listed.getD k false = true) hX i _ h3L hpred j h
          rw [hjn] at this; cases this
        · have e1 : ops.toList.getD j default = x := by simp only [List.getD, hx, Option.getD_some]
          have e2 : ops.toList.getD i default = ops[i] := by simp only [List.getD, h3L, Option.getD_some]
          rw [e1, e2] at h; exact h
      have hnU : ∀ j, j ∈ todo ops.size listed → ¬ g.U (b + j) := by
        intro j hjm hu
        have hjn : listed.getD j false = false := by simp only [todo, List.mem_filter, Bool.not_eq_true'] at hjm; exact hjm.2
        rcases hU _ hu with h | ⟨k, hk, _, e⟩
        · omega
        · have : k = j := by omega
          subst this; rw [hjn] at hk; cases hk
      have hh0 : s.h (b + i) = none := by
        cases hq : s.h (b + i) with
        | none => rfl
        | some bl =>
          obtain ⟨blk, c', q1, _⟩ := hs.mem.blk _ bl hq
          exact absurd (hs.mem.used _ (by rw [q1]; simp)) (hnU i hmem)
      have hok0 := hok
      rw [← hfin, hsplit, List.foldl_append, List.foldl_cons] at hok0
      have hok1 := run1_ok hok0
      have hokp : (pre.foldl (run1 P (words P) C ops.toList b) s).ok := by
        unfold run1 at hok1
        rw [h3L] at hok1
        exact exec1_ok hok1
      have hnam : reader ops[i] = true → ∀ j ∈ pre, ∀ d ∈ (opArgs (ops[i]).op).map s.ev, named (b + j) (sd d) = false := by
        intro hr j hj d hd
        have hsg : sg d = true := by
          have e := fold_looks (P := P) (W := words P) (C := C) (L := ops.toList) (b := b) (y := ops[i]) pre s fun k hk x hx => apart2_slots ((hap k hk).2 x hx)
          have hrun' : ∀ u, run1 P (words P) C ops.toList b u i = exec1 P (words P) C ops.toList b i ops[i] u := fun u => by simp [run1, hlt]
          rw [hrun', exec1_out] at hok1
          have h2 := hok1.2
          obtain ⟨r1, r2⟩ := reader_spec hr
          simp only [outD, r2, effG, reads_npick r1, Bool.false_eq_true, if_false] at h2
          have h4 := h2.2.1 trivial
          rw [show (opArgs (ops[i]).op).map (pre.foldl (run1 P (words P) C ops.toList b) s).ev = (opArgs (ops[i]).op).map s.ev from e] at h4
          exact List.all_eq_true.1 h4 d hd
        cases hq : named (b + j) (sd d) with
        | false => rfl
        | true =>
          exfalso
          obtain ⟨z, _, rfl⟩ := List.mem_map.1 hd
          exact hnU j (by rw [hsplit]; simp [hj]) (rep_named (ev_rep hs z) hsg hq)
      have hfin' : (pre ++ post).foldl (run1 P (words P) C ops.toList b) (run1 P (words P) C ops.toList b s i) = fin := by
        rw [← hfin, hsplit, List.foldl_append, List.foldl_append, List.foldl_cons, fold_front2 h3L pre s hap hnam hh0 hokp]
      have hrun : run1 P (words P) C ops.toList b s i = exec1 P (words P) C ops.toList b i ops[i] s := by simp [run1, hlt]
      rw [hrun] at hfin'
      have hset : ∀ k, (listed.setIfInBounds i true).getD k false = (listed.getD k false || k == i) := by
        intro k
        by_cases e : k = i
        · subst e; simp [Array.getD, hil]
        · rw [getD_set_ne false (Ne.symm e)]
          have : (k == i) = false := by simpa using e
          rw [this, Bool.or_false]
      have htodo : todo ops.size (listed.setIfInBounds i true) = pre ++ post := by
        have e1 : todo ops.size (listed.setIfInBounds i true) = (todo ops.size listed).filter (· != i) := by
          unfold todo
          rw [List.filter_filter]
          refine List.filter_congr fun k _ => ?_
          rw [hset k]
          by_cases e : k = i
          · simp [e]
          · have e2 : (k == i) = false := by simpa using e
            have e3 : (k != i) = true := by simpa using e
            rw [e2, e3, Bool.or_false, Bool.true_and]
        rw [e1, hsplit, List.filter_append, List.filter_cons]
        have p1 : pre.filter (· != i) = pre := List.filter_eq_self.2 fun j hj => by have := hpre j hj; simp; omega
        have p2 : post.filter (· != i) = post := List.filter_eq_self.2 fun j hj => by have := hpost j hj; simp; omega
        simp [p1, p2]
      refine exec1_sound hs (b := b) (N := b + ops.size) (fun h => ?_) (fun r hr => ?_) h3 (run1_ok (by rw [hfin']; exact hok)) fun g' a' w' q1 q2 q3 => ?_
      · rcases hU _ h with h | ⟨k, hk, _, e⟩
        · omega
        · have : k = i := by omega
          subst this; rw [h1f] at hk; cases hk
      · rcases hU r hr with h | ⟨k, _, h, rfl⟩ <;> omega
      · refine ih (listed.setIfInBounds i true) _ g' a' w' (by simp [hsz]) (by rw [htodo]; have := congrArg List.length hsplit; simp at this; simp; omega) (fun k o hk hkl e he hb => ?_) hback q1 (hm.trans q2) (fun r hr => ?_) (by rw [htodo]; exact hfin') hok hQ
        · rw [hset] at hkl ⊢
          simp only [Bool.or_eq_true, beq_iff_eq] at hkl ⊢
          rcases hkl with hkl | rfl
          · exact .inl (hX k o hk hkl e he hb)
          · rw [h3L] at hk; cases hk
            exact .inl (hpred e he hb)
        · rcases q3 r hr with h | rfl
          · rcases hU r h with h | ⟨k, hk, hks, rfl⟩
            · exact .inl h
            · exact .inr ⟨k, by rw [hset, hk]; rfl, hks, rfl⟩
          · exact .inr ⟨i, by rw [hset]; simp, hlt, rfl⟩
end Go.DL
