/-
  MANY TEXTS OF MINE IN ONE (a claim has a limit of files): DDraw, DW, DSimp, Types, DWalk, DRange. Conditions: none.
-/
import Derived.Deep.LoopGhost
import Derived.RangeFuncRecord
import Derived.Test.YtipkfnkmdeopeaaGreatDoorProg
import Derived.KernelRfl
import Derived.Test.YtipkfnkmdeopeaaGreatDoorMB1
/-
  THE D LAYER, 13: a region whose order Go leaves open comes to what it comes to in the text's order, if what is not ordered does not meet. Conditions: none.
-/
set_option linter.unusedVariables false
namespace Go.DL
open Go.RowKit
variable {P : Program} {C : Con} {B : Nat}

def tmpOf : Operand → Option Tmp
  | .tmp t => some t
  | _ => none
/-- the slots that an operation looks at -/
def looks (L : List Oper) (o : Oper) : List Tmp :=
  (opArgs o.op).filterMap tmpOf ++ (match o.guard with | some (j, _) => ((L[j]?).bind (·.dst)).toList | none => [])
def meets : Cls → Cls → Bool
  | .none, _ | _, .none => false
  | .reads, .reads => false
  | _, _ => true
def apartB (C : Con) (L : List Oper) (x y : Oper) : Bool :=
  (match x.dst with | some d => !(looks L y).contains d && y.dst != some d | none => true) &&
  (match y.dst with | some d => !(looks L x).contains d | none => true) && !meets (cls C x.op) (cls C y.op)
/-- an operation that makes a block, and no more -/
def maker (o : Oper) : Bool := (match o.op with | .alloc _ | .box _ _ | .makeSlice .. => true | _ => false) && o.guard.isNone
def readOp (op : Op) : Bool := match op with
  | .load .. | .indexAddr .. | .slice .. | .lookup .. => true
  | _ => false
def reader (o : Oper) : Bool := readOp o.op && o.guard.isNone
def callsPure (C : Con) (o : Oper) : Bool := match o.op with
  | .call { callee := .value f, .. } => isPureCall f
  | _ => true
def slotsB (L : List Oper) (x y : Oper) : Bool :=
  (match x.dst with | some d => !(looks L y).contains d && y.dst != some d | none => true) &&
  (match y.dst with | some d => !(looks L x).contains d | none => true)
def apart2 (C : Con) (L : List Oper) (x y : Oper) : Bool :=
  apartB C L x y || (slotsB L x y && L.all (callsPure C) && ((maker x && reader y) || (reader x && maker y) || (maker x && maker y)))
def befBit (acc : List Nat) (o : Oper) : Nat := o.after.toList.foldl (fun s e => if Region.binds .any e then s ||| 2 ^ e.on ||| acc.getD e.on 0 else s) 0
def befs : List Oper → List Nat → List Nat
  | [], acc => acc
  | o :: os, acc => befs os (acc ++ [befBit acc o])
/-- what is not ordered does not meet -/
def commOk (C : Con) (L : List Oper) : Bool :=
  let B := befs L []
  (List.range L.length).all fun i => (List.range i).all fun j => (B.getD i 0).testBit j || apart2 C L (L.getD j default) (L.getD i default)

/-! ### the order -/
theorem befs_spec : ∀ (os : List Oper) (acc : List Nat), ∃ B, befs os acc = acc ++ B ∧ B.length = os.length ∧ ∀ (k : Nat) o, os[k]? = some o → B[k]? = some (befBit (acc ++ B.take k) o)
  | [], acc => ⟨[], by simp [befs], rfl, fun k o h => by simp at h⟩
  | o :: os, acc => by
    obtain ⟨B, h1, h2, h3⟩ := befs_spec os (acc ++ [befBit acc o])
    refine ⟨befBit acc o :: B, by simp [befs, h1], by simp [h2], fun k o' hk => ?_⟩
    cases k with
    | zero => simp at hk; subst hk; simp
    | succ k =>
      simp at hk
      have := h3 k o' hk
      simpa using this
theorem foldl_bits (acc : List Nat) (j : Nat) : ∀ (es : List Edge) (s : Nat), (es.foldl (fun s e => if Region.binds .any e then s ||| 2 ^ e.on ||| acc.getD e.on 0 else s) s).testBit j = true →
    s.testBit j = true ∨ ∃ e ∈ es, Region.binds .any e = true ∧ (e.on = j ∨ (acc.getD e.on 0).testBit j = true)
  | [], s, h => .inl h
  | e :: es, s, h => by
    simp only [List.foldl_cons] at h
    rcases foldl_bits acc j es _ h with h | ⟨e', h1, h2, h3⟩
    · split at h
      · rename_i hb
        simp only [Nat.testBit_or, Bool.or_eq_true] at h
        rcases h with (h | h) | h
        · exact .inl h
        · rw [Nat.testBit_two_pow] at h
          exact .inr ⟨e, by simp, hb, .inl (by simpa using h)⟩
        · exact .inr ⟨e, by simp, hb, .inr h⟩
      · exact .inl h
    · exact .inr ⟨e', by simp [h1], h2, h3⟩
theorem bef_closed {L : List Oper} {X : Nat → Prop} (hX : ∀ (i : Nat) o, L[i]? = some o → X i → ∀ e ∈ o.after.toList, Region.binds .any e = true → X e.on) :
    ∀ (i : Nat) o, L[i]? = some o → (∀ e ∈ o.after.toList, Region.binds .any e = true → X e.on) → ∀ j, ((befs L []).getD i 0).testBit j = true → X j := by
  obtain ⟨BB, h1, h2, h3⟩ := befs_spec L []
  simp only [List.nil_append] at h1 h3
  rw [h1]
  intro i
  induction i using Nat.strongRecOn with
  | _ i ih =>
    intro o hi hp j hj
    have hBi := h3 i o hi
    rw [List.getD, hBi, Option.getD_some] at hj
    rcases foldl_bits _ j _ _ hj with h | ⟨e, he, hb, h⟩
    · simp at h
    · rcases h with rfl | h
      · exact hp e he hb
      · rw [List.getD, List.getElem?_take] at h
        split at h
        · rename_i hlt
          have hlB : i < BB.length := by have := (List.getElem?_eq_some_iff.1 hBi).1; exact this
          have hlL : e.on < L.length := by omega
          exact ih e.on hlt L[e.on] (by simp) (hX e.on _ (by simp) (hp e he hb)) j h
        · simp at h

/-! ### operations that do not meet -/
def outD (P : Program) [Glob P] (W : Words) (C : Con) (L : List Oper) (b i : Nat) (o : Oper) (n : Nat) (ev : Operand → D) (t : Nat → D) (h : H) : D × H × Prop :=
  match o.guard with
  | none => let r := effG P W C true o.op ((opArgs o.op).map ev) h (b + i); (r.1, r.2.1, dstOk n o.dst = true ∧ r.2.2)
  | some (j, want) =>
    let gd := ((L[j]?).bind (·.dst)).elim .junk t
    let r := effG P W C (gval gd want) o.op ((opArgs o.op).map ev) h (b + i)
    (.cond (gval gd want) r.1, h, dstOk n o.dst = true ∧ gok gd = true ∧ cls C o.op ≠ .writes ∧ (gval gd want = true → r.2.2))
theorem exec1_out [Glob P] {W : Words} {L : List Oper} {b i : Nat} {o : Oper} {s : S} : exec1 P W C L b i o s =
    { s with t := s.put o.dst (outD P W C L b i o s.n s.ev s.t s.h).1, h := (outD P W C L b i o s.n s.ev s.t s.h).2.1, ok := s.ok ∧ (outD P W C L b i o s.n s.ev s.t s.h).2.2 } := by
  unfold exec1 outD
  cases o.guard <;> rfl
theorem out_looks [Glob P] {W : Words} {L : List Oper} {b i : Nat} {o : Oper} {s s' : S} {n : Nat} {h : H} (he : ∀ x ∈ looks L o, s.t x = s'.t x) : outD P W C L b i o n s.ev s.t h = outD P W C L b i o n s'.ev s'.t h := by
  have h1 : (opArgs o.op).map s.ev = (opArgs o.op).map s'.ev := by
    refine List.map_congr_left fun x hx => ?_
    cases x with
    | tmp t => exact he t (List.mem_append.2 (.inl (List.mem_filterMap.2 ⟨.tmp t, hx, rfl⟩)))
    | _ => rfl
  unfold outD
  cases hg : o.guard with
  | none => simp only [h1]
  | some jw =>
    obtain ⟨j, want⟩ := jw
    have h2 : ((L[j]?).bind (·.dst)).elim D.junk s.t = ((L[j]?).bind (·.dst)).elim D.junk s'.t := by
      cases hd : (L[j]?).bind (·.dst) with
      | none => rfl
      | some d => exact he d (List.mem_append.2 (.inr (by rw [hg]; simp [hd])))
    simp only [h1, h2]
theorem eff_none [Glob P] {W : Words} {op : Op} {xs : List D} {h h' : H} {b : Nat} (hc : cls C op = .none) : eff P W C op xs h b = ((eff P W C op xs h' b).1, h, (eff P W C op xs h' b).2.2) := by
  unfold eff
  split <;> first
    | rfl
    | (exfalso; exact Cls.noConfusion hc)
    | skip
  · rename_i t n ps
    have hb : C.bs = false := by
      cases hb : C.bs with
      | false => rfl
      | true => simp [cls, hb] at hc
    simp only [hb, Bool.false_eq_true, if_false]
    rfl
  · rename_i f args argTypes
    have hcf : C.cf = true := by
      cases hcf : C.cf with
      | true => rfl
      | false => simp [cls, hcf, isPureCall] at hc
    unfold callD
    split
    · simp only [hcf, if_true]
      split <;> rfl
    · simp only [hcf, if_true]
      split <;> rfl
    · rfl
theorem effG_none [Glob P] {W : Words} {g : Bool} {op : Op} {xs : List D} {h h' : H} {b : Nat} (hc : cls C op = .none) : effG P W C g op xs h b = ((effG P W C g op xs h' b).1, h, (effG P W C g op xs h' b).2.2) := by
  unfold effG
  split
  · rfl
  · simp only
    rw [eff_none (h := h) (h' := h') hc]
theorem out_none [Glob P] {W : Words} {L : List Oper} {b i : Nat} {o : Oper} {ev : Operand → D} {t : Nat → D} {n : Nat} {h h' : H} (hc : cls C o.op = .none) :
    outD P W C L b i o n ev t h = ((outD P W C L b i o n ev t h').1, h, (outD P W C L b i o n ev t h').2.2) := by
  unfold outD
  cases o.guard with
  | none => simp only; rw [effG_none (h := h) (h' := h') hc]
  | some jw => simp only; rw [effG_none (h := h) (h' := h') hc]
theorem out_reads [Glob P] {W : Words} {L : List Oper} {b i : Nat} {o : Oper} {ev : Operand → D} {t : Nat → D} {n : Nat} {h : H} (hc : cls C o.op ≠ .writes) : (outD P W C L b i o n ev t h).2.1 = h := by
  unfold outD
  cases o.guard with
  | none =>
    simp only
    unfold effG
    split
    · rfl
    · exact eff_h hc
  | some jw => rfl
theorem meets_left {y : Cls} (h : meets .writes y = false) : y = .none := by cases y <;> simp [meets] at h ⊢
theorem meets_right {x : Cls} (h : meets x .writes = false) : x = .none := by cases x <;> simp [meets] at h ⊢
/-- operations whose slots do not meet, and which each do as they would without the other -/
theorem exec1_swap [Glob P] {W : Words} {L : List Oper} {b i j : Nat} {x y : Oper} {s : S} (hs : slotsB L x y = true)
    (key : ∀ (rx ry : D) (hx hy : H) (px py : Prop), (outD P W C L b i x s.n s.ev s.t s.h) = (rx, hx, px) → (outD P W C L b j y s.n s.ev s.t s.h) = (ry, hy, py) →
      ∃ hz, outD P W C L b j y s.n s.ev s.t hx = (ry, hz, py) ∧ outD P W C L b i x s.n s.ev s.t hy = (rx, hz, px)) : exec1 P W C L b j y (exec1 P W C L b i x s) = exec1 P W C L b i x (exec1 P W C L b j y s) := by
  simp only [slotsB, Bool.and_eq_true] at hs
  obtain ⟨h1, h2⟩ := hs
  have nx : ∀ d, x.dst = some d → d ∉ looks L y ∧ y.dst ≠ some d := by
    intro d hd
    rw [hd] at h1
    simp only [Bool.and_eq_true, Bool.not_eq_true', bne_iff_ne] at h1
    exact ⟨by simpa using h1.1, h1.2⟩
  have ny : ∀ d, y.dst = some d → d ∉ looks L x := by
    intro d hd
    rw [hd] at h2
    simpa using h2
  have look : ∀ {u : Oper} {s : S} {dst : Option Tmp} {r : D}, (∀ d, dst = some d → d ∉ looks L u) → ∀ z ∈ looks L u, s.t z = (S.put s dst r) z := by
    intro u s dst r hd z hz
    cases dst with
    | none => rfl
    | some d => exact (upd_ne _ _ _ _ (fun e => hd d rfl (by rw [← e]; exact hz))).symm
  have ly : ∀ {h' : H} {ok' : Prop} {r : D} {n : Nat} {h : H}, outD P W C L b j y n (S.ev { s with t := s.put x.dst r, h := h', ok := ok' }) (s.put x.dst r) h = outD P W C L b j y n s.ev s.t h :=
    fun {h' ok' r n h} => (out_looks (s := s) (s' := { s with t := s.put x.dst r, h := h', ok := ok' }) (look fun d hd => (nx d hd).1)).symm
  have lx : ∀ {h' : H} {ok' : Prop} {r : D} {n : Nat} {h : H}, outD P W C L b i x n (S.ev { s with t := s.put y.dst r, h := h', ok := ok' }) (s.put y.dst r) h = outD P W C L b i x n s.ev s.t h :=
    fun {h' ok' r n h} => (out_looks (s := s) (s' := { s with t := s.put y.dst r, h := h', ok := ok' }) (look fun d hd => ny d hd)).symm
  rw [exec1_out (s := s) (o := x), exec1_out (s := s) (o := y), exec1_out (o := y), exec1_out (o := x)]
  simp only [ly, lx]
  have hput : ∀ r q, S.put { s with t := s.put x.dst r } y.dst q = S.put { s with t := s.put y.dst q } x.dst r := by
    intro r q
    cases hx : x.dst with
    | none => rfl
    | some d =>
      cases hy : y.dst with
      | none => rfl
      | some d' =>
        have hne : d ≠ d' := fun e => (nx d hx).2 (by rw [hy, e])
        funext z
        simp only [S.put, upd]
        by_cases e1 : z = d
        · have : z ≠ d' := fun e => hne (e1 ▸ e)
          simp [e1, hne]
        · simp [e1]
  have hput' : ∀ r q h1 ok1 h2 ok2, S.put { s with t := s.put x.dst r, h := h1, ok := ok1 } y.dst q = S.put { s with t := s.put y.dst q, h := h2, ok := ok2 } x.dst r := fun r q _ _ _ _ => hput r q
  rcases hox : outD P W C L b i x s.n s.ev s.t s.h with ⟨rx, hx, px⟩
  rcases hoy : outD P W C L b j y s.n s.ev s.t s.h with ⟨ry, hy, py⟩
  obtain ⟨hz, k1, k2⟩ := key rx ry hx hy px py hox hoy
  simp only [k1, k2]
  congr 1
  · exact hput' _ _ _ _ _ _
  · exact propext ⟨fun ⟨⟨a, b⟩, c⟩ => ⟨⟨a, c⟩, b⟩, fun ⟨⟨a, b⟩, c⟩ => ⟨⟨a, c⟩, b⟩⟩

theorem exec1_comm [Glob P] {W : Words} {L : List Oper} {b i j : Nat} {x y : Oper} {s : S} (ha : apartB C L x y = true) : exec1 P W C L b j y (exec1 P W C L b i x s) = exec1 P W C L b i x (exec1 P W C L b j y s) := by
  simp only [apartB, Bool.and_eq_true, Bool.not_eq_true'] at ha
  obtain ⟨⟨h1, h2⟩, h3⟩ := ha
  refine exec1_swap (by simp only [slotsB, Bool.and_eq_true]; exact ⟨h1, h2⟩) ?_
  generalize hX : cls C x.op = cx at h3
  generalize hY : cls C y.op = cy at h3
  · intro rx ry hx hy px py e1 e2
    have ex : hx = (outD P W C L b i x s.n s.ev s.t s.h).2.1 := by rw [e1]
    have ey : hy = (outD P W C L b j y s.n s.ev s.t s.h).2.1 := by rw [e2]
    by_cases c1 : cx = .writes
    · have c2 : cy = .none := meets_left (c1 ▸ h3)
      subst c2
      rw [out_reads (by rw [hY]; simp)] at ey
      subst ey
      refine ⟨hx, ?_, e1⟩
      rw [out_none (h := hx) (h' := s.h) hY, e2]
    · rw [out_reads (by rw [hX]; exact c1)] at ex
      subst ex
      by_cases c2 : cy = .writes
      · have c3 : cx = .none := meets_right (c2 ▸ h3)
        refine ⟨hy, e2, ?_⟩
        rw [out_none (h := hy) (h' := s.h) (by rw [hX, c3]), e1]
      · rw [out_reads (by rw [hY]; exact c2)] at ey
        subst ey
        exact ⟨s.h, e2, e1⟩

/-! ### whatever order the machine takes -/
def run1 (P : Program) [Glob P] (W : Words) (C : Con) (L : List Oper) (b : Nat) (s : S) (i : Nat) : S := match L[i]? with
  | some o => exec1 P W C L b i o s
  | none => s
theorem run1_ok [Glob P] {W : Words} {L : List Oper} {b : Nat} : ∀ {l : List Nat} {s : S}, (l.foldl (run1 P W C L b) s).ok → s.ok
  | [], _, h => h
  | i :: l, s, h => by
    have h1 := run1_ok (l := l) h
    unfold run1 at h1
    split at h1
    · exact exec1_ok h1
    · exact h1
theorem execFrom_fold [Glob P] {W : Words} {L : List Oper} {b : Nat} : ∀ (k i : Nat) (s : S), i + k = L.length → execFrom P W C L b i (L.drop i) s = (List.range' i k).foldl (run1 P W C L b) s := by
  intro k
  induction k with
  | zero =>
    intro i s hk
    rw [List.drop_eq_nil_of_le (by omega)]
    simp [execFrom]
  | succ k ih =>
    intro i s hk
    have hlt : i < L.length := by omega
    rw [List.drop_eq_getElem_cons hlt, List.range'_succ]
    simp only [execFrom, List.foldl_cons]
    rw [ih (i + 1) _ (by omega)]
    congr 1
    simp [run1, hlt]
/-! ### blocks that are made, beside reads -/
def named (n : Nat) : D → Bool
  | .mrow r _ _ => r == n
  | .mptr r _ _ => r == n
  | .mp r => r == n
  | _ => false
theorem kvH_new {a : D} {h : H} {n : Nat} {bl : Blk} (hn : named n a = false) : kvH (upd h n (some bl)) a = kvH h a := by
  cases a with
  | mp r =>
    have : r ≠ n := by simpa [named] using hn
    show (upd h n (some bl) r).bind kvB = (h r).bind kvB
    rw [upd_ne _ _ _ _ this]
  | _ => rfl
theorem lookD_new [Glob P] {t : TypeId} {ok : Bool} {m k : D} {h : H} {n : Nat} {bl : Blk} (hn : named n m = false) : lookD P t ok m k (upd h n (some bl)) = lookD P t ok m k h := by
  unfold lookD
  rw [kvH_new hn]
theorem ldCells_new {a : D} {h : H} {n : Nat} {bl : Blk} (hn : named n a = false) : ldCells a (upd h n (some bl)) = ldCells a h := by
  cases a with
  | mptr r i off =>
    have : r ≠ n := by simpa [named] using hn
    simp only [ldCells, upd_ne _ _ _ _ this]
  | _ => rfl
theorem ldc_new [Glob P] {a : D} {h : H} {n : Nat} {bl : Blk} (hn : named n a = false) : ldc P a (upd h n (some bl)) = ldc P a h := by
  unfold ldc
  split
  · rfl
  · exact ldCells_new hn
theorem idxPtr_new [Glob P] {t : TypeId} {x ix : D} {h : H} {n : Nat} {bl : Blk} (hn : named n x = false) : idxPtr P t x ix (upd h n (some bl)) = idxPtr P t x ix h := by
  unfold idxPtr
  cases elemT P t with
  | none => rfl
  | some e =>
    cases x with
    | mrow r off len =>
      have : r ≠ n := by simpa [named] using hn
      cases ix with
      | v y => cases y <;> first | rfl | simp only [upd_ne _ _ _ _ this]
      | _ => rfl
    | list f rows =>
      cases ix with
      | v y => cases y <;> rfl
      | _ => rfl
    | _ => cases ix <;> rfl
theorem sliceD_new [Glob P] {t : TypeId} {x : D} {l hh m : Option D} {h : H} {n : Nat} {bl : Blk} (hn : named n x = false) : sliceD P t x l hh m (upd h n (some bl)) = sliceD P t x l hh m h := by
  cases x with
  | mrow r off len =>
    have : r ≠ n := by simpa [named] using hn
    simp only [sliceD, upd_ne _ _ _ _ this]
  | v y => cases y <;> rfl
  | list f rows => simp only [sliceD]
  | _ => rfl
theorem reads_spec {op : Op} (hc : readOp op = true) : (∃ t x, op = .load t x) ∨ (∃ t x y, op = .indexAddr t x y) ∨ (∃ t x l hh m, op = .slice t x l hh m) ∨ (∃ t m k ok, op = .lookup t m k ok) := by
  unfold readOp at hc
  split at hc <;> first
    | cases hc
    | skip
  · exact .inl ⟨_, _, rfl⟩
  · exact .inr (.inl ⟨_, _, _, rfl⟩)
  · exact .inr (.inr (.inl ⟨_, _, _, _, _, rfl⟩))
  · exact .inr (.inr (.inr ⟨_, _, _, _, rfl⟩))
/-- what reads, and names no block that is made, reads what it would without -/
theorem reader_new [Glob P] {W : Words} {op : Op} {xs : List D} {h : H} {n b : Nat} {bl : Blk} (hc : readOp op = true) (hn : ∀ d ∈ xs, named n d = false) :
    eff P W C op xs (upd h n (some bl)) b = ((eff P W C op xs h b).1, upd h n (some bl), (eff P W C op xs h b).2.2) := by
  rcases reads_spec hc with ⟨t, x, rfl⟩ | ⟨t, x, y, rfl⟩ | ⟨t, x, l, hh, m, rfl⟩ | ⟨t, m, k, ok, rfl⟩
  · match xs, hn with
    | [], _ => rfl
    | [a], hn => simp only [eff, still, ldD, ldc_new (hn a (by simp))]
    | _ :: _ :: _, _ => rfl
  · match xs, hn with
    | [], _ => rfl
    | [_], _ => rfl
    | [a, c], hn => simp only [eff, still, idxPtr_new (hn a (by simp))]
    | _ :: _ :: _ :: _, _ => rfl
  · match xs, hn with
    | [], _ => rfl
    | a :: al9, hn => simp only [eff, still, sliceD_new (hn a (by simp))]
  · match xs, hn with
    | [], _ => rfl
    | [_], _ => rfl
    | [a, c], hn => simp only [eff, still, lookD_new (hn a (by simp))]
    | _ :: _ :: _ :: _, _ => rfl
theorem named_none {a : D} {n : Nat} (hn : named n a = true) : (∃ off len, a = .mrow n off len) ∨ (∃ i off, a = .mptr n i off) ∨ a = .mp n := by
  cases a with
  | mrow r off len => have : r = n := by simpa [named] using hn
                      subst this; exact .inl ⟨_, _, rfl⟩
  | mptr r i off => have : r = n := by simpa [named] using hn
                    subst this; exact .inr (.inl ⟨_, _, rfl⟩)
  | mp r => have : r = n := by simpa [named] using hn
            subst this; exact .inr (.inr rfl)
  | _ => cases hn
/-- what reads, and may, where a block is not there yet, reads the same when it is -/
theorem reader_old [Glob P] {W : Words} {op : Op} {xs : List D} {h : H} {n b : Nat} {bl : Blk} (hc : readOp op = true) (hno : h n = none) (hok : (eff P W C op xs h b).2.2) :
    eff P W C op xs (upd h n (some bl)) b = ((eff P W C op xs h b).1, upd h n (some bl), (eff P W C op xs h b).2.2) := by
  rcases reads_spec hc with ⟨t, x, rfl⟩ | ⟨t, x, y, rfl⟩ | ⟨t, x, l, hh, m, rfl⟩ | ⟨t, m, k, ok, rfl⟩
  · match xs, hok with
    | [a], hok =>
      cases hna : named n a with
      | false => simp only [eff, still, ldD, ldc_new hna]
      | true =>
        exfalso
        simp only [eff, still, ldD] at hok
        obtain ⟨q1, q2, _⟩ := hok
        rcases named_none hna with ⟨off, len, rfl⟩ | ⟨i, off, rfl⟩ | rfl <;> simp [ldc, ldCells, hno] at q1 <;> omega
  · match xs, hok with
    | [a, c], hok =>
      cases hna : named n a with
      | false => simp only [eff, still, idxPtr_new hna]
      | true =>
        exfalso
        simp only [eff, still] at hok
        rcases named_none hna with ⟨off, len, rfl⟩ | ⟨i, off, rfl⟩ | rfl
        · unfold idxPtr at hok
          split at hok
          · unfold idxArr at hok
            split at hok
            · exact absurd hok.1 (by simp [isGp])
            · exact hok
          · split at hok
            · rename_i e; cases e
            · rename_i e; cases e
              rw [hno] at hok; exact hok.2.2.2
            · exact hok
        · unfold idxPtr at hok
          split at hok
          · unfold idxArr at hok
            split at hok
            · exact absurd hok.1 (by simp [isGp])
            · exact hok
          · exact hok
        · unfold idxPtr at hok
          split at hok
          · unfold idxArr at hok
            split at hok
            · exact absurd hok.1 (by simp [isGp])
            · exact hok
          · exact hok
  · match xs, hok with
    | a :: al9, hok =>
      cases hna : named n a with
      | false => simp only [eff, still, sliceD_new hna]
      | true =>
        exfalso
        simp only [eff, still] at hok
        rcases named_none hna with ⟨off, len, rfl⟩ | ⟨i, off, rfl⟩ | rfl
        · simp only [sliceD] at hok
          split at hok
          · exact hok
          · simp only [hno] at hok; exact hok.2.2.2
        · exact hok
        · exact hok
  · match xs, hok with
    | [a, c], hok =>
      cases hna : named n a with
      | false => simp only [eff, still, lookD_new hna]
      | true =>
        exfalso
        simp only [eff, still] at hok
        rcases named_none hna with ⟨off, len, rfl⟩ | ⟨i, off, rfl⟩ | rfl
        · unfold lookD at hok
          split at hok
          · rename_i e; cases e
          · exact hok
        · unfold lookD at hok
          split at hok
          · rename_i e; cases e
          · exact hok
        · unfold lookD at hok
          split at hok
          · rename_i e
            simp only [kvH, hno] at e
            cases e
          · exact hok
theorem maker_spec [Glob P] {W : Words} {op : Op} (hm : (match op with | .alloc _ | .box _ _ | .makeSlice .. => true | _ => false) = true) (xs : List D) (b : Nat) :
    ∃ r p, (∃ bl, ∀ h, eff P W C op xs h b = (r, upd h b (some bl), p)) ∨ ∀ h, eff P W C op xs h b = (r, h, p) := by
  cases op with
  | alloc e =>
    match xs with
    | [] => exact ⟨_, _, .inl ⟨_, fun h => rfl⟩⟩
    | _ :: _ => exact ⟨_, _, .inr fun h => rfl⟩
  | box e x =>
    match xs with
    | [] => exact ⟨_, _, .inr fun h => rfl⟩
    | [a] => exact ⟨_, _, .inl ⟨_, fun h => rfl⟩⟩
    | _ :: _ :: _ => exact ⟨_, _, .inr fun h => rfl⟩
  | makeSlice t x y =>
    match xs with
    | [] => exact ⟨_, _, .inr fun h => rfl⟩
    | [_] => exact ⟨_, _, .inr fun h => rfl⟩
    | _ :: _ :: _ :: _ => exact ⟨_, _, .inr fun h => rfl⟩
    | [a, c] =>
      have key : ∃ r p, (∃ bl, ∀ h, mkSl P t h b a c = (r, upd h b (some bl), p)) ∨ ∀ h, mkSl P t h b a c = (r, h, p) := by
        by_cases hm : ∃ k n k' m, a = .v (.int k n) ∧ c = .v (.int k' m)
        · obtain ⟨k, n, k', m, rfl, rfl⟩ := hm
          cases he : elemT P t with
          | none => exact ⟨_, _, .inr fun h => by simp only [mkSl, he]; rfl⟩
          | some e => exact ⟨_, _, .inl ⟨_, fun h => by simp only [mkSl, he]; rfl⟩⟩
        · refine ⟨.junk, False, .inr fun h => ?_⟩
          unfold mkSl
          split
          · exact absurd ⟨_, _, _, _, rfl, rfl⟩ hm
          · rfl
      exact key
  | _ => cases hm
theorem fold_front [Glob P] {W : Words} {L : List Oper} {b i : Nat} : ∀ (pre : List Nat) (s : S), (∀ j ∈ pre, ∀ x y, L[j]? = some x → L[i]? = some y → apartB C L x y = true) →
    run1 P W C L b (pre.foldl (run1 P W C L b) s) i = pre.foldl (run1 P W C L b) (run1 P W C L b s i)
  | [], s, _ => rfl
  | j :: pre, s, h => by
    simp only [List.foldl_cons]
    rw [fold_front pre _ (fun j' hj' => h j' (by simp [hj']))]
    congr 1
    unfold run1
    cases hj : L[j]? with
    | none => rfl
    | some x =>
      cases hi : L[i]? with
      | none => rfl
      | some y => exact exec1_comm (h j (by simp) x y hj hi)

/-- a maker, wherever it stands -/
theorem maker_out [Glob P] {W : Words} {L : List Oper} {b i : Nat} {o : Oper} {ev : Operand → D} {t : Nat → D} {n : Nat} (hm : maker o = true) :
    ∃ r p, (∃ bl, ∀ h, outD P W C L b i o n ev t h = (r, upd h (b + i) (some bl), p)) ∨ ∀ h, outD P W C L b i o n ev t h = (r, h, p) := by
  simp only [maker, Bool.and_eq_true, Option.isNone_iff_eq_none] at hm
  obtain ⟨h1, h2⟩ := hm
  have hp : isPick o.op = false := by cases ho : o.op <;> rw [ho] at h1 <;> first | rfl | cases h1
  obtain ⟨r, p, h⟩ := maker_spec (P := P) (C := C) (W := W) h1 (((opArgs o.op).map ev).map sd) (b + i)
  refine ⟨r, dstOk n o.dst = true ∧ ((true : Bool) = true → ((opArgs o.op).map ev).all sg = true) ∧ p, ?_⟩
  rcases h with ⟨bl, h⟩ | h
  · refine .inl ⟨bl, fun hh => ?_⟩
    unfold outD
    simp only [h2]
    unfold effG
    simp only [hp, Bool.false_eq_true, if_false, h]
  · refine .inr fun hh => ?_
    unfold outD
    simp only [h2]
    unfold effG
    simp only [hp, Bool.false_eq_true, if_false, h]
theorem reads_npick {op : Op} (hc : readOp op = true) : isPick op = false := by
  rcases reads_spec hc with ⟨t, x, rfl⟩ | ⟨t, x, y, rfl⟩ | ⟨t, x, l, hh, m, rfl⟩ | ⟨t, m, k, ok, rfl⟩ <;> rfl
theorem reader_spec {o : Oper} (hr : reader o = true) : readOp o.op = true ∧ o.guard = none := by
  simp only [reader, Bool.and_eq_true, Option.isNone_iff_eq_none] at hr
  exact hr
theorem reader_cls {o : Oper} (hr : reader o = true) : cls C o.op ≠ .writes := by
  rcases reads_spec (reader_spec hr).1 with ⟨t, x, e⟩ | ⟨t, x, y, e⟩ | ⟨t, x, l, hh, m, e⟩ | ⟨t, m, k, ok, e⟩ <;> simp [e, cls]
theorem reader_out [Glob P] {W : Words} {L : List Oper} {b i m : Nat} {o : Oper} {ev : Operand → D} {t : Nat → D} {n : Nat} {h : H} {bl : Blk} (hr : reader o = true)
    (hn : (∀ d ∈ (opArgs o.op).map ev, named m (sd d) = false) ∨ (h m = none ∧ (outD P W C L b i o n ev t h).2.2)) :
    outD P W C L b i o n ev t (upd h m (some bl)) = ((outD P W C L b i o n ev t h).1, upd h m (some bl), (outD P W C L b i o n ev t h).2.2) := by
  obtain ⟨hc, hg⟩ := reader_spec hr
  have hp := reads_npick hc
  have key : eff P W C o.op (((opArgs o.op).map ev).map sd) (upd h m (some bl)) (b + i) = ((eff P W C o.op (((opArgs o.op).map ev).map sd) h (b + i)).1, upd h m (some bl), (eff P W C o.op (((opArgs o.op).map ev).map sd) h (b + i)).2.2) := by
    rcases hn with hn | ⟨h1, h2⟩
    · refine reader_new hc fun d hd => ?_
      obtain ⟨d', h1, rfl⟩ := List.mem_map.1 hd
      exact hn d' h1
    · refine reader_old hc h1 ?_
      simp only [outD, hg, effG, hp, Bool.false_eq_true, if_false] at h2
      exact h2.2.2
  simp only [outD, hg, effG, hp, Bool.false_eq_true, if_false, key]
theorem updMap_keeps [Glob P] {t : TypeId} {m k x : D} {h : H} {r : Nat} (hn : h r = none) : (updMap P t m k x h).1 r = none := by
  unfold updMap
  split
  · split
    · rename_i q bl hq
      split
      · exact (upd_ne _ _ _ _ (fun e => by subst e; rw [hn] at hq; cases hq)).trans hn
      · exact hn
    · exact hn
  · exact hn
theorem eff_keeps [Glob P] {W : Words} {op : Op} {xs : List D} {h : H} {b r : Nat} (hc : (match op with | .call { callee := .value f, .. } => isPureCall f | _ => true) = true) (hr : r ≠ b) (hn : h r = none) : (eff P W C op xs h b).2.1 r = none := by
  by_cases hw : cls C op ≠ .writes
  · rw [eff_h hw]; exact hn
  · have hw : cls C op = .writes := by simpa using hw
    cases op with
    | alloc e =>
      match xs with
      | [] => simp only [eff, upd_ne _ _ _ _ hr]; exact hn
      | _ :: _ => exact hn
    | box e x =>
      match xs with
      | [] => exact hn
      | [a] => simp only [eff, upd_ne _ _ _ _ hr]; exact hn
      | _ :: _ :: _ => exact hn
    | buildSlice t n ps =>
      have hb : C.bs = true := by
        cases hb : C.bs with
        | true => rfl
        | false => simp [cls, hb] at hw
      simp only [eff, hb, if_true, bsOwn]
      split
      · simp only [upd_ne _ _ _ _ hr]; exact hn
      · exact hn
    | store t x y =>
      match xs with
      | [] => exact hn
      | [_] => exact hn
      | _ :: _ :: _ :: _ => exact hn
      | [a, x] =>
        simp only [eff, stH]
        cases a with
        | mptr r' i off =>
          simp only
          cases hq : h r' with
          | none => exact hn
          | some bl =>
            have : r ≠ r' := fun e => by subst e; rw [hn] at hq; cases hq
            simp only [upd_ne _ _ _ _ this]; exact hn
        | _ => exact hn
    | makeMap t ro => simp only [eff, mkMap, upd_ne _ _ _ _ hr]; exact hn
    | makeSlice t x y =>
      match xs with
      | [] | [_] | _ :: _ :: _ :: _ => exact hn
      | [a, c] =>
        simp only [eff]
        unfold mkSl
        split
        · split
          · simp only [upd_ne _ _ _ _ hr]; exact hn
          · exact hn
        · exact hn
    | mapUpdate t m k x =>
      match xs with
      | [] | [_] | [_, _] | _ :: _ :: _ :: _ :: _ => exact hn
      | [a, c, d] => exact updMap_keeps hn
    | insert t m k x =>
      match xs with
      | [] | [_] | [_, _] | _ :: _ :: _ :: _ :: _ => exact hn
      | [a, c, d] => exact updMap_keeps hn
    | call c =>
      obtain ⟨callee, args, ts⟩ := c
      cases callee with
      | value f =>
        simp only at hc
        cases hcf : C.cf <;> simp [cls, hc, hcf] at hw
      | builtin bi =>
        cases bi with
        | append =>
          match xs with
          | [] => exact hn
          | [_] => exact hn
          | _ :: _ :: _ :: _ => exact hn
          | [x, y] =>
            simp only [eff]
            split
            · simp only [appendD]
              split
              · exact hn
              · split
                · simp only [upd_ne _ _ _ _ hr]; exact hn
                · rename_i r' n'
                  cases hq : h r' with
                  | none => exact hn
                  | some bl =>
                    simp only [upd_ne _ _ _ _ hr]
                    by_cases e : r = r'
                    · subst e; exact upd_same _ _ _
                    · rw [upd_ne _ _ _ _ e]; exact hn
                · exact hn
            · exact hn
        | _ => simp [cls] at hw
      | _ => simp [cls] at hw
    | _ => simp [cls] at hw
theorem exec1_keeps [Glob P] {W : Words} {L : List Oper} {b i r : Nat} {o : Oper} {s : S} (hc : callsPure C o = true) (hr : r ≠ b + i) (hn : s.h r = none) : (exec1 P W C L b i o s).h r = none := by
  rw [exec1_out]
  show (outD P W C L b i o s.n s.ev s.t s.h).2.1 r = none
  unfold outD
  cases o.guard with
  | some jw => exact hn
  | none =>
    simp only [effG]
    split
    · exact hn
    · exact eff_keeps hc hr hn
theorem slots_looks [Glob P] {W : Words} {L : List Oper} {b i : Nat} {x y : Oper} {s : S} (hs : slotsB L x y = true) : (opArgs y.op).map (exec1 P W C L b i x s).ev = (opArgs y.op).map s.ev := by
  simp only [slotsB, Bool.and_eq_true] at hs
  refine List.map_congr_left fun z hz => ?_
  cases z with
  | tmp t =>
    rw [exec1_out]
    show S.put s x.dst _ t = s.t t
    cases hd : x.dst with
    | none => rfl
    | some d =>
      have h1 := hs.1
      rw [hd] at h1
      simp only [Bool.and_eq_true, Bool.not_eq_true', bne_iff_ne] at h1
      have h2 : d ∉ looks L y := by simpa using h1.1
      refine upd_ne _ _ _ _ fun e => h2 ?_
      subst e
      exact List.mem_append.2 (.inl (List.mem_filterMap.2 ⟨.tmp t, hz, rfl⟩))
  | _ => rfl
theorem apart2_slots {L : List Oper} {x y : Oper} (h : apart2 C L x y = true) : slotsB L x y = true := by
  unfold apart2 at h
  simp only [Bool.or_eq_true, Bool.and_eq_true] at h
  rcases h with h | h
  · simp only [apartB, Bool.and_eq_true] at h
    simp only [slotsB, Bool.and_eq_true]
    exact h.1
  · exact h.1.1
/-- an operation j of the list pre, and i behind it: i may come first -/
theorem exec1_comm2 [Glob P] {W : Words} {L : List Oper} {b i j : Nat} {x y : Oper} {s : S} (hij : j ≠ i) (ha : apart2 C L x y = true)
    (h1 : maker x = true → reader y = true → ∀ d ∈ (opArgs y.op).map s.ev, named (b + j) (sd d) = false)
    (h2 : reader x = true → maker y = true → s.h (b + i) = none ∧ (outD P W C L b j x s.n s.ev s.t s.h).2.2) :
    exec1 P W C L b i y (exec1 P W C L b j x s) = exec1 P W C L b j x (exec1 P W C L b i y s) := by
  have hs := apart2_slots ha
  unfold apart2 at ha
  simp only [Bool.or_eq_true, Bool.and_eq_true] at ha
  rcases ha with ha | ⟨_, (⟨hm, hr⟩ | ⟨hr, hm⟩) | ⟨hm, hm2⟩⟩
  · exact exec1_comm ha
  · refine exec1_swap hs fun rx ry hx hy px py e1 e2 => ?_
    obtain ⟨r, p, ⟨bl, h⟩ | h⟩ := maker_out (P := P) (C := C) (W := W) (L := L) (b := b) (i := j) (ev := s.ev) (t := s.t) (n := s.n) hm
    · have e3 := reader_out (P := P) (C := C) (W := W) (L := L) (b := b) (i := i) (t := s.t) (n := s.n) (h := s.h) (bl := bl) hr (.inl (h1 hm hr))
      have e4 := h s.h
      rw [e1] at e4
      cases e4
      refine ⟨upd s.h (b + j) (some bl), by rw [e3, e2], ?_⟩
      · have : hy = s.h := by
          have := out_reads (P := P) (W := W) (L := L) (b := b) (i := i) (ev := s.ev) (t := s.t) (n := s.n) (h := s.h) (C := C) (o := y) (reader_cls hr)
          rw [e2] at this; exact this
        rw [h hy, this]
    · have e4 := h s.h
      rw [e1] at e4
      cases e4
      exact ⟨hy, e2, h hy⟩
  · refine exec1_swap hs fun rx ry hx hy px py e1 e2 => ?_
    have hxs : hx = s.h := by
      have := out_reads (P := P) (W := W) (L := L) (b := b) (i := j) (ev := s.ev) (t := s.t) (n := s.n) (h := s.h) (C := C) (o := x) (reader_cls hr)
      rw [e1] at this; exact this
    subst hxs
    obtain ⟨r, p, ⟨bl, h⟩ | h⟩ := maker_out (P := P) (C := C) (W := W) (L := L) (b := b) (i := i) (ev := s.ev) (t := s.t) (n := s.n) hm
    · have e3 := reader_out (P := P) (C := C) (W := W) (L := L) (b := b) (i := j) (t := s.t) (n := s.n) (h := s.h) (bl := bl) hr (.inr (h2 hr hm))
      have e4 := h s.h
      rw [e2] at e4
      cases e4
      exact ⟨_, e2, by rw [e3, e1]⟩
    · have e4 := h s.h
      rw [e2] at e4
      cases e4
      exact ⟨_, e2, e1⟩
  · refine exec1_swap hs fun rx ry hx hy px py e1 e2 => ?_
    obtain ⟨r1, p1, k1⟩ := maker_out (P := P) (C := C) (W := W) (L := L) (b := b) (i := j) (ev := s.ev) (t := s.t) (n := s.n) hm
    obtain ⟨r2, p2, k2⟩ := maker_out (P := P) (C := C) (W := W) (L := L) (b := b) (i := i) (ev := s.ev) (t := s.t) (n := s.n) hm2
    rcases k1 with ⟨bl1, k1⟩ | k1 <;> rcases k2 with ⟨bl2, k2⟩ | k2 <;> rw [k1] at e1 <;> rw [k2] at e2 <;> cases e1 <;> cases e2
    · refine ⟨_, k2 _, ?_⟩
      rw [k1]
      congr 2
      funext q
      by_cases q1 : q = b + j <;> by_cases q2 : q = b + i <;> simp [upd, q1, q2] <;> omega
    · exact ⟨_, k2 _, k1 _⟩
    · exact ⟨_, k2 _, k1 _⟩
    · exact ⟨_, k2 _, k1 _⟩
theorem run1_looks [Glob P] {W : Words} {L : List Oper} {b j : Nat} {y : Oper} {s : S} (h : ∀ x, L[j]? = some x → slotsB L x y = true) : (opArgs y.op).map (run1 P W C L b s j).ev = (opArgs y.op).map s.ev := by
  unfold run1
  cases hj : L[j]? with
  | none => rfl
  | some x => exact slots_looks (h x hj)
theorem fold_looks [Glob P] {W : Words} {L : List Oper} {b : Nat} {y : Oper} : ∀ (pre : List Nat) (s : S), (∀ j ∈ pre, ∀ x, L[j]? = some x → slotsB L x y = true) → (opArgs y.op).map (pre.foldl (run1 P W C L b) s).ev = (opArgs y.op).map s.ev
  | [], s, _ => rfl
  | j :: pre, s, h => by
    simp only [List.foldl_cons]
    rw [fold_looks pre _ fun k hk => h k (by simp [hk]), run1_looks (h j (by simp))]
theorem fold_front2 [Glob P] {W : Words} {L : List Oper} {b i : Nat} {y : Oper} (hi : L[i]? = some y) : ∀ (pre : List Nat) (s : S), (∀ j ∈ pre, j ≠ i ∧ ∀ x, L[j]? = some x → apart2 C L x y = true) →
    (reader y = true → ∀ j ∈ pre, ∀ d ∈ (opArgs y.op).map s.ev, named (b + j) (sd d) = false) → s.h (b + i) = none → (pre.foldl (run1 P W C L b) s).ok →
    run1 P W C L b (pre.foldl (run1 P W C L b) s) i = pre.foldl (run1 P W C L b) (run1 P W C L b s i)
  | [], s, _, _, _, _ => rfl
  | j :: pre, s, h, hr, hh, hok => by
    simp only [List.foldl_cons] at hok ⊢
    have hji := (h j (by simp)).1
    have hok1 := run1_ok hok
    cases hj : L[j]? with
    | none =>
      have e : ∀ u, run1 P W C L b u j = u := fun u => by simp only [run1, hj]
      rw [e s, e] at *
      exact fold_front2 hi pre s (fun k hk => h k (by simp [hk])) (fun hry k hk => hr hry k (by simp [hk])) hh hok
    | some x =>
      have hap := (h j (by simp)).2 x hj
      have e : ∀ u, run1 P W C L b u j = exec1 P W C L b j x u := fun u => by simp only [run1, hj]
      have e' : ∀ u, run1 P W C L b u i = exec1 P W C L b i y u := fun u => by simp only [run1, hi]
      have hstep : run1 P W C L b (run1 P W C L b s j) i = run1 P W C L b (run1 P W C L b s i) j := by
        rw [e, e, e', e']
        refine exec1_comm2 hji hap (fun _ hry => hr hry j (by simp)) fun _ _ => ⟨hh, ?_⟩
        rw [e, exec1_out] at hok1
        exact hok1.2
      rw [← hstep]
      unfold apart2 at hap
      by_cases hcp : L.all (callsPure C) = true
      · refine fold_front2 hi pre _ (fun k hk => h k (by simp [hk])) (fun hry k hk => ?_) ?_ hok
        · rw [e, slots_looks (apart2_slots ((h j (by simp)).2 x hj))]
          exact hr hry k (by simp [hk])
        · rw [e]
          refine exec1_keeps (List.all_eq_true.1 hcp x (List.mem_of_getElem? hj)) (by omega) hh
      · -- no new block is asked for beside reads
        have hall : ∀ k ∈ pre, ∀ x y', L[k]? = some x → L[i]? = some y' → apartB C L x y' = true := by
          intro k hk x' y' hx' hy'
          rw [hi] at hy'; cases hy'
          have := (h k (by simp [hk])).2 x' hx'
          unfold apart2 at this
          have hcp' : L.all (callsPure C) = false := by simpa using hcp
          simpa [hcp'] using this
        exact fold_front pre _ hall
theorem rep_named {w : World} {g : Mem} {d : D} {v : Value} {n : Nat} (hr : Rep w g d v) (hg : sg d = true) (hn : named n (sd d) = true) : g.U n := by
  have key : ∀ {d : D}, Rep w g d v → named n d = true → g.U n := by
    intro d hr hn
    cases hr with
    | mrow r off len x hx hU h => have : r = n := by simpa [named] using hn
                                  exact this ▸ hU
    | mptr r i off x hx hU h => have : r = n := by simpa [named] using hn
                                exact this ▸ hU
    | mp r x hx hU h => have : r = n := by simpa [named] using hn
                        exact this ▸ hU
    | _ => cases hn
  cases d with
  | cond g d =>
    cases hr with
    | cond _ _ _ ht hf => exact key (ht hg) hn
  | _ => exact key hr hn

theorem drew_st [Glob P] {s : S} {g : Mem} {a : Act} {w : World} (hs : St P B s g a w) : St P B s g a { w with drawn := w.drawn + 1 } ∧ Mono g g w { w with drawn := w.drawn + 1 } := by
  have m : Mono g g w { w with drawn := w.drawn + 1 } := ⟨rfl, rfl, rfl, Nat.le_refl _, Nat.le_succ _, fun _ h => h, fun _ _ => .inl rfl, fun r _ c s h => .inl ⟨r, c, s, h⟩, fun _ h => h, fun _ h => .inl h, fun _ _ _ => rfl⟩
  refine ⟨⟨hs.sz, fun i => (hs.tm i).later hs.mem m, ⟨hs.mem.dead, fun r bl hr => ?_, hs.mem.inj, hs.mem.used, hs.mem.imm, hs.mem.gr.later (hs.mem.kept m)⟩, hs.df.later hs.mem m, Env.later hs.mem m hs.en, hs.bd⟩, m⟩
  obtain ⟨blk, c, h1, h2, h3, h4, h5⟩ := hs.mem.blk r bl hr
  refine ⟨blk, c, h1, h2, h3, h4, ?_⟩
  rcases h5 with h5 | ⟨b, cur, rfl, h6, h7, h8, h9⟩
  · exact .inl h5
  · exact .inr ⟨b, cur, rfl, h6, h7, h8, fun i row hi => ⟨(h9 i row hi).1, fun j d hd => by
      obtain ⟨u, k3, k4, k5⟩ := (h9 i row hi).2 j d hd
      exact ⟨u, k3, k4, k5.later hs.mem m⟩⟩⟩

/-- what is still to be done -/
def todo (n : Nat) (listed : Array Bool) : List Nat := (List.range n).filter fun i => !listed.getD i false
theorem draw_sound [Glob P] {ops : Array Oper} {b : Nat} {ro : Option Nat} {n : Nat} {Q : Exit → Act → World → Prop} {w0 : World} {g0 : Mem} {fin : S} (hcomm : commOk C ops.toList = true) :
    ∀ (fuel : Nat) (listed : Array Bool) (s : S) (g : Mem) (a : Act) (w : World), listed.size = ops.size → (todo ops.size listed).length ≤ fuel → (∀ (i : Nat) o, ops.toList[i]? = some o → listed.getD i false = true → ∀ e ∈ o.after.toList, Region.binds .any e = true → listed.getD e.on false = true) →
      (∀ (i : Nat) o, ops.toList[i]? = some o → ∀ e ∈ o.after.toList, Region.binds .any e = true → e.on < i) →
      St P B s g a w → Mono g0 g w0 w → (∀ r, g.U r → r < b ∨ ∃ i, listed.getD i false = true ∧ i < ops.size ∧ r = b + i) → (todo ops.size listed).foldl (run1 P (words P) C ops.toList b) s = fin → fin.ok →
      (∀ g' a' w', St P B fin g' a' w' → Mono g0 g' w0 w' → (∀ r, g'.U r → r < b + ops.size) → Q .normal a' w') →
      wpAnyIn (Fw ro) n P .any ops Q fuel listed a w := by
  intro fuel
  induction fuel with
  | zero =>
    intro listed s g a w hsz hfu hX hback hs hm hU hfin hok hQ
    have hnil : todo ops.size listed = [] := List.eq_nil_of_length_eq_zero (by omega)
    rw [hnil] at hfin
    simp only [List.foldl_nil] at hfin
    subst hfin
    refine ⟨?_, hQ g a w hs hm fun r hr => ?_⟩
    · unfold Region.ready
      rw [List.filter_eq_nil_iff]
      intro i hi
      have h1 : i ∉ todo ops.size listed := by rw [hnil]; simp
      simp only [todo, List.mem_filter, hi, true_and, Bool.not_eq_true', Bool.not_eq_false] at h1
      have hil : i < listed.size := by rw [hsz]; simpa using hi
      have h2 : listed.getD i true = true := by simp [Array.getD, hil] at h1 ⊢; exact h1
      simp [h2]
    · rcases hU r hr with h | ⟨i, _, h, rfl⟩ <;> omega
  | succ fuel ih =>
    intro listed s g a w hsz hfu hX hback hs hm hU hfin hok hQ
    refine ⟨fun hrd => ?_, fun i hi => ?_⟩
    · -- nothing is ready: all is done
      have hnil : todo ops.size listed = [] := by
        rw [todo, List.filter_eq_nil_iff]
        intro i hi
        simp only [Bool.not_eq_true', Bool.not_eq_false]
        have hlt : i < ops.size := by simpa using hi
        have : ∀ k, k < ops.size → listed.getD k false = true := by
          intro k
          induction k using Nat.strongRecOn with
          | _ k ihk =>
            intro hk
            have h0 : k ∉ Region.ready .any ops listed := by rw [hrd]; simp
            unfold Region.ready at h0
            simp only [List.mem_filter, List.mem_range, hk, true_and] at h0
            have hkl : k < listed.size := by omega
            cases hq : listed.getD k false with
            | true => rfl
            | false =>
              exfalso
              apply h0
              have h2 : listed.getD k true = false := by simp [Array.getD, hkl] at hq ⊢; exact hq
              have h3 : ops[k]? = some ops[k] := by simp [hk]
              simp only [h2, Bool.not_false, h3, Option.map_some, Option.getD_some, Bool.true_and]
              rw [Array.all_eq_true]
              intro q hqq
              simp only [Bool.or_eq_true, Bool.not_eq_true']
              cases hb : Region.binds .any (ops[k].after[q]) with
              | false => exact .inl rfl
              | true =>
                have hmem : ops[k].after[q] ∈ ops[k].after.toList := by simp
                have h4 := hback k ops[k] (by simp [hk]) _ hmem hb
                exact .inr (ihk _ h4 (by omega))
        exact this i hlt
      rw [hnil] at hfin
      simp only [List.foldl_nil] at hfin
      subst hfin
      exact hQ g a w hs hm fun r hr => by rcases hU r hr with h | ⟨i, _, h, rfl⟩ <;> omega
    · unfold Region.ready at hi
      simp only [List.mem_filter, List.mem_range, Bool.and_eq_true, Bool.not_eq_true'] at hi
      obtain ⟨hlt, h1, h2⟩ := hi
      have h3 : ops[i]? = some ops[i] := by simp [hlt]
      have h3L : ops.toList[i]? = some ops[i] := by simp [hlt]
      simp only [h3, Option.map_some, Option.getD_some] at h2
      have hil : i < listed.size := by omega
      have h1f : listed.getD i false = false := by simp [Array.getD, hil] at h1 ⊢; exact h1
      have hpred : ∀ e ∈ (ops[i]).after.toList, Region.binds .any e = true → listed.getD e.on false = true := by
        intro e he hb
        rw [Array.all_eq_true] at h2
        obtain ⟨q, hq, rfl⟩ := Array.mem_iff_getElem.1 (Array.mem_toList_iff.1 he)
        have := h2 q hq
        simp only [hb, Bool.not_true, Bool.false_or] at this
        exact this
      -- i among what is to be done
      have hmem : i ∈ todo ops.size listed := by simp [todo, hlt]; simpa using h1f
      obtain ⟨pre, post, hsplit⟩ := List.append_of_mem hmem
      have hsorted : (todo ops.size listed).Pairwise (· < ·) := List.Pairwise.filter _ List.pairwise_lt_range
      rw [hsplit] at hsorted
      have hpre : ∀ j ∈ pre, j < i := fun j hj => (List.pairwise_append.1 hsorted).2.2 j hj i (by simp)
      have hpost : ∀ j ∈ post, i < j := fun j hj => (List.pairwise_cons.1 (List.pairwise_append.1 hsorted).2.1).1 j hj
      have hap : ∀ j ∈ pre, j ≠ i ∧ ∀ x, ops.toList[j]? = some x → apart2 C ops.toList x ops[i] = true := by
        intro j hj
        have hjl := hpre j hj
        refine ⟨by omega, fun x hx => ?_⟩
        have hjm : j ∈ todo ops.size listed := by rw [hsplit]; simp [hj]
        have hjn : listed.getD j false = false := by simp only [todo, List.mem_filter, Bool.not_eq_true'] at hjm; exact hjm.2
        unfold commOk at hcomm
        simp only [List.all_eq_true, List.mem_range, Bool.or_eq_true] at hcomm
        rcases hcomm i (by simpa using hlt) j hjl with h | h
        · exfalso
          have := bef_closed (L := ops.toList) (X := fun k => listed.getD k false = true) hX i _ h3L hpred j h
          rw [hjn] at this; cases this
        · have e1 : ops.toList.getD j default = x := by simp only [List.getD, hx, Option.getD_some]
          have e2 : ops.toList.getD i default = ops[i] := by simp only [List.getD, h3L, Option.getD_some]
          rw [e1, e2] at h; exact h
      have hnU : ∀ j, j ∈ todo ops.size listed → ¬ g.U (b + j) := by
        intro j hjm hu
        have hjn : listed.getD j false = false := by simp only [todo, List.mem_filter, Bool.not_eq_true'] at hjm; exact hjm.2
        rcases hU _ hu with h | ⟨k, hk, _, e⟩
        · omega
        · have : k = j := by omega
          subst this; rw [hjn] at hk; cases hk
      have hh0 : s.h (b + i) = none := by
        cases hq : s.h (b + i) with
        | none => rfl
        | some bl =>
          obtain ⟨blk, c', q1, _⟩ := hs.mem.blk _ bl hq
          exact absurd (hs.mem.used _ (by rw [q1]; simp)) (hnU i hmem)
      have hok0 := hok
      rw [← hfin, hsplit, List.foldl_append, List.foldl_cons] at hok0
      have hok1 := run1_ok hok0
      have hokp : (pre.foldl (run1 P (words P) C ops.toList b) s).ok := by
        unfold run1 at hok1
        rw [h3L] at hok1
        exact exec1_ok hok1
      have hnam : reader ops[i] = true → ∀ j ∈ pre, ∀ d ∈ (opArgs (ops[i]).op).map s.ev, named (b + j) (sd d) = false := by
        intro hr j hj d hd
        have hsg : sg d = true := by
          have e := fold_looks (P := P) (W := words P) (C := C) (L := ops.toList) (b := b) (y := ops[i]) pre s fun k hk x hx => apart2_slots ((hap k hk).2 x hx)
          have hrun' : ∀ u, run1 P (words P) C ops.toList b u i = exec1 P (words P) C ops.toList b i ops[i] u := fun u => by simp [run1, hlt]
          rw [hrun', exec1_out] at hok1
          have h2 := hok1.2
          obtain ⟨r1, r2⟩ := reader_spec hr
          simp only [outD, r2, effG, reads_npick r1, Bool.false_eq_true, if_false] at h2
          have h4 := h2.2.1 trivial
          rw [show (opArgs (ops[i]).op).map (pre.foldl (run1 P (words P) C ops.toList b) s).ev = (opArgs (ops[i]).op).map s.ev from e] at h4
          exact List.all_eq_true.1 h4 d hd
        cases hq : named (b + j) (sd d) with
        | false => rfl
        | true =>
          exfalso
          obtain ⟨z, _, rfl⟩ := List.mem_map.1 hd
          exact hnU j (by rw [hsplit]; simp [hj]) (rep_named (ev_rep hs z) hsg hq)
      have hfin' : (pre ++ post).foldl (run1 P (words P) C ops.toList b) (run1 P (words P) C ops.toList b s i) = fin := by
        rw [← hfin, hsplit, List.foldl_append, List.foldl_append, List.foldl_cons, fold_front2 h3L pre s hap hnam hh0 hokp]
      have hrun : run1 P (words P) C ops.toList b s i = exec1 P (words P) C ops.toList b i ops[i] s := by simp [run1, hlt]
      rw [hrun] at hfin'
      have hset : ∀ k, (listed.setIfInBounds i true).getD k false = (listed.getD k false || k == i) := by
        intro k
        by_cases e : k = i
        · subst e; simp [Array.getD, hil]
        · rw [getD_set_ne false (Ne.symm e)]
          have : (k == i) = false := by simpa using e
          rw [this, Bool.or_false]
      have htodo : todo ops.size (listed.setIfInBounds i true) = pre ++ post := by
        have e1 : todo ops.size (listed.setIfInBounds i true) = (todo ops.size listed).filter (· != i) := by
          unfold todo
          rw [List.filter_filter]
          refine List.filter_congr fun k _ => ?_
          rw [hset k]
          by_cases e : k = i
          · simp [e]
          · have e2 : (k == i) = false := by simpa using e
            have e3 : (k != i) = true := by simpa using e
            rw [e2, e3, Bool.or_false, Bool.true_and]
        rw [e1, hsplit, List.filter_append, List.filter_cons]
        have p1 : pre.filter (· != i) = pre := List.filter_eq_self.2 fun j hj => by have := hpre j hj; simp; omega
        have p2 : post.filter (· != i) = post := List.filter_eq_self.2 fun j hj => by have := hpost j hj; simp; omega
        simp [p1, p2]
      refine exec1_sound hs (b := b) (N := b + ops.size) (fun h => ?_) (fun r hr => ?_) h3 (run1_ok (by rw [hfin']; exact hok)) fun g' a' w' q1 q2 q3 => ?_
      · rcases hU _ h with h | ⟨k, hk, _, e⟩
        · omega
        · have : k = i := by omega
          subst this; rw [h1f] at hk; cases hk
      · rcases hU r hr with h | ⟨k, _, h, rfl⟩ <;> omega
      · refine ih (listed.setIfInBounds i true) _ g' a' w' (by simp [hsz]) (by rw [htodo]; have := congrArg List.length hsplit; simp at this; simp; omega) (fun k o hk hkl e he hb => ?_) hback q1 (hm.trans q2) (fun r hr => ?_) (by rw [htodo]; exact hfin') hok hQ
        · rw [hset] at hkl ⊢
          simp only [Bool.or_eq_true, beq_iff_eq] at hkl ⊢
          rcases hkl with hkl | rfl
          · exact .inl (hX k o hk hkl e he hb)
          · rw [h3L] at hk; cases hk
            exact .inl (hpred e he hb)
        · rcases q3 r hr with h | rfl
          · rcases hU r h with h | ⟨k, hk, hks, rfl⟩
            · exact .inl h
            · exact .inr ⟨k, by rw [hset, hk]; rfl, hks, rfl⟩
          · exact .inr ⟨i, by rw [hset]; simp, hlt, rfl⟩
end Go.DL
/-
  THE D LAYER, 14: walks of code on abstract states; from a walk to a contract. Conditions: none.
-/
namespace Go.DL
open Go.RowKit
variable {P : Program} {C : Con}

def S.clear (s : S) : S := { s with ok := True }
theorem St.clear [Glob P] {B : Nat} {s : S} {g : Mem} {a : Act} {w : World} (h : St P B s g a w) : St P B s.clear g a w := ⟨h.sz, h.tm, h.mem, h.df, h.en, h.bd⟩

/-- A WALK: from an abstract state, each way out of the code is as Q says. -/
def DW (P : Program) [Glob P] (ro : Option Nat) (c : Code) (Q : Exit → S → Prop) (s : S) : Prop :=
  ∀ (B : Nat) (g : Mem) (a : Act) (w : World), St P B s g a w → (∀ r, g.U r → r < s.nx) →
    c.wpIn (Fw ro) 0 P (fun e a' w' => ∃ s' g', Q e s' ∧ St P B s' g' a' w' ∧ MonoX s.e.x g g' w w' ∧ (∀ r, g'.U r → r < s'.nx) ∧ s'.e.x = s.e.x) a w

theorem wpIn_loop_ghost [Glob P] {F : Fence} {n : Nat} {Q : Exit → Act → World → Prop} {a : Act} {w : World} {c : Code} (I : Nat → Act → World → Prop) (n0 : Nat) (h0 : I n0 a w)
    (round : ∀ k a w, I k a w → c.wpIn F n P (Exit.then (fun a' w' => ∃ k', k' < k ∧ I k' a' w') Q) a w) : (Code.loop c).wpIn F n P Q a w := by
  refine wpIn_loop (fun a w => ∃ k, I k a w) (fun a w => leastOf fun k => I k a w) ⟨n0, h0⟩ fun a w h => ?_
  obtain ⟨h1, h2⟩ := leastOf_spec h
  refine wpIn_mono (round _ a w h1) fun e a' w' hq => ?_
  cases e with
  | normal =>
    obtain ⟨k', hlt, hI⟩ := hq
    exact ⟨⟨k', hI⟩, Nat.lt_of_le_of_lt ((leastOf_spec ⟨k', hI⟩).2 k' hI) hlt⟩
  | _ => exact hq

section
variable {ro : Option Nat} {Q : Exit → S → Prop} {s : S}
theorem DW.mono [Glob P] {c : Code} {Q' : Exit → S → Prop} (h : DW P ro c Q s) (hq : ∀ e s, Q e s → Q' e s) : DW P ro c Q' s :=
  fun B g a w hs hU => wpIn_mono (h B g a w hs hU) fun _ _ _ ⟨s', g', q, r⟩ => ⟨s', g', hq _ _ q, r⟩
theorem dw_skip [Glob P] (h : Q .normal s) : DW P ro .skip Q s := fun _ g _ _ hs hU => wpIn_skip ⟨s, g, h, hs, MonoX.refl _ _ _, hU, rfl⟩
theorem dw_exit [Glob P] {id : Nat} (h : Q (.exit id) s) : DW P ro (.exit id) Q s := fun _ g _ _ hs hU => wpIn_exit ⟨s, g, h, hs, MonoX.refl _ _ _, hU, rfl⟩
theorem dw_ret [Glob P] (h : Q .ret s) : DW P ro .ret Q s := fun _ g _ _ hs hU => wpIn_ret ⟨s, g, h, hs, MonoX.refl _ _ _, hU, rfl⟩
def thenS (next : S → Prop) (Q : Exit → S → Prop) : Exit → S → Prop
  | .normal, s => next s
  | e, s => Q e s
theorem dw_seq [Glob P] {x y : Code} (h : DW P ro x (thenS (DW P ro y Q) Q) s) : DW P ro (.seq x y) Q s := by
  intro B g a w hs hU
  refine wpIn_seq (wpIn_mono (h B g a w hs hU) ?_)
  rintro e a' w' ⟨s', g', hq, hs', hm, hU', hx⟩
  cases e with
  | normal => exact wpIn_mono (hq B g' a' w' hs' hU') fun e a'' w'' ⟨s'', g'', q, r, m, u, v⟩ => ⟨s'', g'', q, r, hm.trans (hx ▸ m), u, v.trans hx⟩
  | _ => exact ⟨s', g', hq, hs', hm, hU', hx⟩
theorem dw_cond [Glob P] {c : Operand} {x y : Code} {t : Bool} (hc : s.ev c = .v (.bool t)) (ht : t = true → DW P ro x Q s) (hf : t = false → DW P ro y Q s) : DW P ro (.cond c x y) Q s := by
  intro B g a w hs hU
  have h := ev_rep hs c
  rw [hc] at h
  exact wpIn_cond_split h.v_inv (fun e => ht e B g a w hs hU) (fun e => hf e B g a w hs hU)
def blockS (id : Nat) (Q : Exit → S → Prop) : Exit → S → Prop
  | .exit id', s => if id' = id then Q .normal s else Q (.exit id') s
  | e, s => Q e s
theorem dw_block [Glob P] {id : Nat} {c : Code} (h : DW P ro c (blockS id Q) s) : DW P ro (.block id c) Q s := by
  intro B g a w hs hU
  refine wpIn_block (wpIn_mono (h B g a w hs hU) ?_)
  rintro e a' w' ⟨s', g', hq, r⟩
  cases e with
  | exit id' =>
    simp only [Exit.inBlock, blockS] at hq ⊢
    split
    · rename_i e; rw [if_pos e] at hq; exact ⟨s', g', hq, r⟩
    · rename_i e; rw [if_neg e] at hq; exact ⟨s', g', hq, r⟩
  | _ => exact ⟨s', g', hq, r⟩
def backOk (L : List Oper) : Bool := (List.range L.length).all fun i => (L.getD i default).after.toList.all fun e => !Region.binds .any e || decide (e.on < i)
/-- A REGION. -/
theorem dw_region [Glob P] {id : Nat} {ops : Array Oper} {draw : Bool} (hd : draw = true → P.follows .mixedOrders = true ∧ commOk C ops.toList = true ∧ backOk ops.toList = true)
    (hok : (exec P (words P) C ops.toList s).ok) (hq : Q .normal (exec P (words P) C ops.toList s).clear) : DW P ro (.region id ops draw) Q s := by
  intro B g a w hs hU
  have hs0 : St P B (s.begin ops.toList.length) g a w := ⟨hs.sz, hs.tm, hs.mem, hs.df, hs.en, hs.bd⟩
  have hnx : ∀ (l : List Nat) (u : S), (l.foldl (run1 P (words P) C ops.toList s.nx) u).nx = u.nx := by
    intro l
    induction l with
    | nil => intro u; rfl
    | cons i l ih =>
      intro u
      simp only [List.foldl_cons]
      rw [ih]
      unfold run1
      split
      · exact exec1_n.2
      · rfl
  have hfold := execFrom_fold (P := P) (W := words P) (C := C) (L := ops.toList) (b := s.nx) ops.toList.length 0 (s.begin ops.toList.length) (by omega)
  simp only [List.drop_zero] at hfold
  have hfin : exec P (words P) C ops.toList s = (List.range' 0 ops.toList.length).foldl (run1 P (words P) C ops.toList s.nx) (s.begin ops.toList.length) := hfold
  have hnxf : (exec P (words P) C ops.toList s).nx = s.nx + ops.size := by rw [hfin, hnx]; simp [S.begin]
  have hex : ∀ (l : List Nat) (u : S), (l.foldl (run1 P (words P) C ops.toList s.nx) u).e = u.e := by
    intro l
    induction l with
    | nil => intro u; rfl
    | cons i l ih =>
      intro u
      simp only [List.foldl_cons]
      rw [ih]
      unfold run1
      split
      · unfold exec1; split <;> rfl
      · rfl
  have hef : (exec P (words P) C ops.toList s).clear.e.x = s.e.x := by show (exec P (words P) C ops.toList s).e.x = s.e.x; rw [hfin, hex]; rfl
  have fin : ∀ g' a' w', St P B (exec P (words P) C ops.toList s) g' a' w' → Mono g g' w w' → (∀ r, g'.U r → r < s.nx + ops.size) → ∃ s' g'', Q .normal s' ∧ St P B s' g'' a' w' ∧ MonoX s.e.x g g'' w w' ∧ (∀ r, g''.U r → r < s'.nx) ∧ s'.e.x = s.e.x :=
    fun g' a' w' h1 h2 h3 => ⟨_, g', hq, h1.clear, h2.toX, fun r hr => by show r < (exec P (words P) C ops.toList s).nx; rw [hnxf]; exact h3 r hr, hef⟩
  cases draw with
  | false =>
    refine wpIn_region ?_
    have := execFrom_sound (P := P) (C := C) (B := B) (ops := ops) (b := s.nx) (ro := ro) (n := 0) (Q := fun e a' w' => ∃ s' g', Q e s' ∧ St P B s' g' a' w' ∧ MonoX s.e.x g g' w w' ∧ (∀ r, g'.U r → r < s'.nx) ∧ s'.e.x = s.e.x) ops.size 0 (s.begin ops.toList.length) g a w hs0 (Mono.refl _ _) (fun r hr => by have := hU r hr; omega) (by omega)
      (by simp only [List.drop_zero]; exact hok) (by simp only [List.drop_zero]; exact fin)
    rw [List.range_eq_range']
    exact this
  | true =>
    obtain ⟨h1, h2, h3⟩ := hd rfl
    refine wpIn_region_any h1 ?_
    obtain ⟨hs1, hm1⟩ := drew_st hs0
    have hrep : ∀ i, (Array.replicate ops.size false).getD i false = false := by
      intro i
      by_cases h : i < ops.size <;> simp [Array.getD, h]
    have htodo : todo ops.size (Array.replicate ops.size false) = List.range' 0 ops.toList.length := by
      unfold todo
      rw [List.filter_eq_self.2 (fun i _ => by rw [hrep]; rfl), List.range_eq_range']
      simp
    refine draw_sound (C := C) (B := B) (b := s.nx) (fin := exec P (words P) C ops.toList s) h2 ops.size _ (s.begin ops.toList.length) g a _ (by simp) (by rw [htodo]; simp) (fun i o _ hi => by rw [hrep] at hi; cases hi) (fun i o ho e he hb => ?_) hs1 hm1 (fun r hr => .inl (hU r hr)) (by rw [htodo, hfin]) hok fin
    unfold backOk at h3
    simp only [List.all_eq_true, List.mem_range, Bool.or_eq_true, Bool.not_eq_true', decide_eq_true_eq] at h3
    have hil : i < ops.toList.length := (List.getElem?_eq_some_iff.1 ho).1
    have ho' : ops.toList.getD i default = o := by simp only [List.getD, ho, Option.getD_some]
    have := h3 i hil e (by rw [ho']; exact he)
    rcases this with h | h
    · rw [hb] at h; cases h
    · exact h
end

/-! ### from a walk to a contract -/
def S.init (n : Nat) (args : List D) : S := { n, t := fun i => args.getD i .junk, h := fun _ => none, nx := 0 }
/-- what a function hands back -/
def resOne [Glob P] (s : S) : ResultVar → D
  | .tmp t => s.t t
  | .cell a t => (ldD P t (s.t a) s.h).1
def resOneOk [Glob P] (s : S) : ResultVar → Prop
  | .tmp _ => True
  | .cell a t => (ldD P t (s.t a) s.h).2
def resD (P : Program) [Glob P] (rs : List ResultVar) (s : S) : D := match rs.map (resOne (P := P) s) with
  | [d] => d
  | ds => .tuple ds
def resOk (P : Program) [Glob P] (s : S) : List ResultVar → Prop
  | [] => True
  | r :: rs => resOneOk (P := P) s r ∧ resOk P s rs
def resRun (tmps : Array Value) (r : ResultVar) : Sem Value := match r with
  | .tmp t => pure (tmps.getD t undef)
  | .cell a t => do loadVar t (← asAddr (tmps.getD a undef))
theorem resRuns_sound [Glob P] {B : Nat} {s : S} {g : Mem} {a : Act} {w : World} (hs : St P B { s with e := Env.tt } g a w) : ∀ rs : List ResultVar, resOk P s rs → ∃ vs : List Value, (rs.mapM (resRun a.tmps)).run P w = .ok vs w ∧ Reps w g (rs.map (resOne (P := P) s)) vs
  | [], _ => ⟨[], by simp, .nil⟩
  | r :: rs, h => by
    obtain ⟨vs, h1, h2⟩ := resRuns_sound hs rs h.2
    cases r with
    | tmp t => exact ⟨a.tmps.getD t undef :: vs, by simp only [List.mapM_cons, Sem.run_bind, resRun, Sem.run_pure, Result.andThen_ok, h1], .cons (hs.tm t) h2⟩
    | cell c t =>
      obtain ⟨q1, q2, q3⟩ := h.1
      obtain ⟨p, hp, hc⟩ := ptr_cells hs.mem (hs.tm c) (by intro e; rw [e] at q1; simp at q1; omega)
      obtain ⟨v, h4, h5⟩ := run_loadVar' hc q1 q2 q3
      refine ⟨v :: vs, ?_, .cons h5 h2⟩
      simp only [List.mapM_cons, Sem.run_bind, resRun, hp, asAddr, Sem.run_pure, Result.andThen_ok, h4, h1]
theorem results_sound [Glob P] {fn : Func} {B : Nat} {s : S} {g : Mem} {a : Act} {w : World} (hs : St P B { s with e := Env.tt } g a w) (hok : resOk P s fn.results.toList) : ∃ v, (results fn a.tmps).run P w = .ok v w ∧ Rep w g (resD P fn.results.toList s) v := by
  obtain ⟨vs, h1, h2⟩ := resRuns_sound hs _ hok
  have hrun : (results fn a.tmps).run P w = .ok (if h : vs.toArray.size = 1 then vs.toArray[0] else .tuple vs.toArray) w := by
    have e : results fn a.tmps = (do let vs ← fn.results.mapM (resRun a.tmps); pure (if h : vs.size = 1 then vs[0] else .tuple vs) : Sem Value) := rfl
    rw [e, Array.mapM_eq_mapM_toList]
    simp [h1]
  refine ⟨_, hrun, ?_⟩
  unfold resD
  split
  · rename_i d hd
    rw [hd] at h2
    obtain ⟨v, l, rfl, h3, h4⟩ := h2.of_cons
    rw [h4.of_nil]
    simpa using h3
  · rename_i hne
    rw [dif_neg (fun h => ?_)]
    · exact .mk_tuple (by simpa using h2)
    · have hl : (fn.results.toList.map (resOne (P := P) s)).length = 1 := by rw [h2.1]; simpa using h
      match hq : fn.results.toList.map (resOne (P := P) s), hl with
      | [d], _ => exact hne d hq

/-! ### what a function hands back may be read by everybody -/
def snap (h : H) : Nat → D → D
  | 0, d => d
  | k + 1, d => match d with
    | .mrow r off len => .list false ((rowsOf (.mrow r off len) h).map fun row => row.map (snap h k))
    | .agg cs => .agg (cs.map (snap h k))
    | .tuple cs => .tuple (cs.map (snap h k))
    | .iface t d => .iface t (snap h k d)
    | .mptr r i off => .eptr ((ldCells (.mptr r i off) h).map (snap h k))
    | .fn f a b => .fn f (a.map (snap h k)) (b.map (snap h k))
    | d => d
def snapOk (h : H) : Nat → D → Prop
  | 0, d => d.nr = true
  | k + 1, d => match d with
    | .mrow r off len => derefOk h (.mrow r off len) ∧ ∀ row ∈ rowsOf (.mrow r off len) h, ∀ c ∈ row, snapOk h k c
    | .agg cs => ∀ c ∈ cs, snapOk h k c
    | .tuple cs => ∀ c ∈ cs, snapOk h k c
    | .iface _ d => snapOk h k d
    | .mptr r i off => (h r).isSome = true ∧ ∀ c ∈ ldCells (.mptr r i off) h, snapOk h k c
    | .fn _ a b => (∀ c ∈ a, snapOk h k c) ∧ ∀ c ∈ b, snapOk h k c
    | d => d.nr = true
def liveI (g : Mem) : Mem := noM fun b => g.I b ∨ ∃ r c s, g.M r = some (some b, c, s)
theorem nrs_of {ds : List D} (h : ∀ d ∈ ds, d.nr = true) : nrs ds = true := by
  induction ds with
  | nil => rfl
  | cons d ds ih => simp [nrs, h d (by simp), ih fun d hd => h d (by simp [hd])]
theorem nrr_of {ds : List (List D)} (h : ∀ d ∈ ds, nrs d = true) : nrr ds = true := by
  induction ds with
  | nil => rfl
  | cons d ds ih => simp [nrr, h d (by simp), ih fun d hd => h d (by simp [hd])]
theorem snap_rep [Glob P] {h : H} {g : Mem} {w : World} (hm : HM P h g w) : ∀ (k : Nat) (d : D) (v : Value), Rep w (openI g) d v → snapOk h k d → Rep w (liveI g) (snap h k d) v ∧ (snap h k d).nr = true := by
  intro k
  induction k with
  | zero => exact fun d v hr ho => ⟨hr.clean ho fun b hb => hb, ho⟩
  | succ k ih =>
    intro d v hr ho
    cases d with
    | mrow r off len =>
      obtain ⟨o1, o2⟩ := ho
      have hd := deref_rep' hm hr o1
      simp only [deref] at hd
      simp only [snap]
      generalize rowsOf (.mrow r off len) h = rows at hd o2 ⊢
      refine ⟨?_, ?_⟩
      · cases hd with
        | empty _ a cap hf hmx => exact .empty false a cap hf hmx
        | list _ _ ad cap size cv hI hl hf hmx hs hc hrr =>
          have e : rows.length = (rows.map fun row => row.map (snap h k)).length := by simp
          rw [e]
          refine .list false _ ad cap size cv hI (by simpa using hl) (fun h => by cases h) hmx (fun row hrow => ?_) (fun i j row d h1 h2 => ?_) (fun i j row d h1 h2 => ?_)
          · simp only [List.mem_map] at hrow
            obtain ⟨row', h1, rfl⟩ := hrow
            simpa using hs row' h1
          · rw [List.getElem?_map] at h1
            cases hri : rows[i]? with
            | none => rw [hri] at h1; cases h1
            | some row' =>
              rw [hri] at h1; simp at h1; subst h1
              rw [List.getElem?_map] at h2
              cases hrj : row'[j]? with
              | none => rw [hrj] at h2; cases h2
              | some d' => exact hc i j row' d' hri hrj
          · rw [List.getElem?_map] at h1
            cases hri : rows[i]? with
            | none => rw [hri] at h1; cases h1
            | some row' =>
              rw [hri] at h1; simp at h1; subst h1
              rw [List.getElem?_map] at h2
              cases hrj : row'[j]? with
              | none => rw [hrj] at h2; cases h2
              | some d' =>
                rw [hrj] at h2; simp at h2; subst h2
                exact (ih d' _ (hrr i j row' d' hri hrj) (o2 row' (List.mem_of_getElem? hri) d' (List.mem_of_getElem? hrj))).1
      · refine nrr_of fun row hrow => nrs_of fun d hd' => ?_
        simp only [List.mem_map] at hrow
        obtain ⟨row', h1, rfl⟩ := hrow
        simp only [List.mem_map] at hd'
        obtain ⟨d', h2, rfl⟩ := hd'
        cases hd with
        | empty => cases h1
        | list _ _ ad cap size cv hI hl hf hmx hs hc hrr =>
          obtain ⟨i, hi⟩ := List.getElem?_of_mem h1
          obtain ⟨j, hj⟩ := List.getElem?_of_mem h2
          exact (ih d' _ (hrr i j row' d' hi hj) (o2 row' h1 d' h2)).2
    | agg cs =>
      obtain ⟨vs, rfl, hv⟩ := hr.agg_inv
      simp only [snap]
      refine ⟨.mk_agg ⟨by simpa using hv.1, fun i d x h1 h2 => ?_⟩, nrs_of fun d hd => ?_⟩
      · rw [List.getElem?_map] at h1
        cases hci : cs[i]? with
        | none => rw [hci] at h1; cases h1
        | some c =>
          rw [hci] at h1; simp at h1; subst h1
          exact (ih c x (hv.2 i c x hci h2) (ho c (List.mem_of_getElem? hci))).1
      · simp only [List.mem_map] at hd
        obtain ⟨c, h1, rfl⟩ := hd
        obtain ⟨i, hi⟩ := List.getElem?_of_mem h1
        have hlt : i < vs.toList.length := by rw [← hv.1]; exact (List.getElem?_eq_some_iff.1 hi).1
        exact (ih c _ (hv.2 i c _ hi (List.getElem?_eq_getElem hlt)) (ho c h1)).2
    | tuple cs =>
      obtain ⟨vs, rfl, hv⟩ := hr.tuple_inv
      simp only [snap]
      refine ⟨.mk_tuple ⟨by simpa using hv.1, fun i d x h1 h2 => ?_⟩, nrs_of fun d hd => ?_⟩
      · rw [List.getElem?_map] at h1
        cases hci : cs[i]? with
        | none => rw [hci] at h1; cases h1
        | some c =>
          rw [hci] at h1; simp at h1; subst h1
          exact (ih c x (hv.2 i c x hci h2) (ho c (List.mem_of_getElem? hci))).1
      · simp only [List.mem_map] at hd
        obtain ⟨c, h1, rfl⟩ := hd
        obtain ⟨i, hi⟩ := List.getElem?_of_mem h1
        have hlt : i < vs.toList.length := by rw [← hv.1]; exact (List.getElem?_eq_some_iff.1 hi).1
        exact (ih c _ (hv.2 i c _ hi (List.getElem?_eq_getElem hlt)) (ho c h1)).2
    | iface t d =>
      cases hr with
      | iface _ _ x h1 =>
        obtain ⟨q1, q2⟩ := ih d x h1 ho
        exact ⟨.iface t _ x q1, q2⟩
    | mptr r i off =>
      obtain ⟨o1, o2⟩ := ho
      obtain ⟨bl, hbl⟩ := Option.isSome_iff_exists.1 o1
      simp only [snap]
      have ecs : ldCells (.mptr r i off) h = (bl.rows.getD i []).drop off := by simp only [ldCells, hbl]
      rw [ecs] at o2 ⊢
      cases hr with | mptr _ _ _ x hx hU hv =>
      obtain ⟨blk, c, h1, h2, h3, h4, h5⟩ := hm.blk r bl hbl
      obtain ⟨hcm, b, rfl, rfl⟩ := hv _ _ _ h1
      rcases h5 with ⟨h5, _⟩ | ⟨b', cur, h5, k1, k2, k3, k4⟩
      · cases h5
      cases h5
      have key : ∀ j d, ((bl.rows.getD i []).drop off)[j]? = some d → ∃ u, cur[i * P.cellsOf bl.ty + off + j]? = some u ∧ Rep w g d u := by
        intro j d hd
        rw [List.getElem?_drop] at hd
        cases hri : bl.rows[i]? with
        | none => rw [List.getD, hri] at hd; simp at hd
        | some row =>
          rw [List.getD, hri, Option.getD_some] at hd
          obtain ⟨u, p1, _, p3⟩ := (k4 i row hri).2 (off + j) d hd
          exact ⟨u, by rw [Nat.add_assoc]; exact p1, p3⟩
      refine ⟨.eptr _ _ (fun j => cur.getD (i * P.cellsOf bl.ty + off + j) undef) (.inr ⟨r, _, _, h1⟩) (fun j d hd => ?_) (fun j d hd => ?_), nrs_of fun d hd => ?_⟩
      · obtain ⟨d', e1, rfl⟩ := map_at hd
        obtain ⟨u, p1, p2⟩ := key j d' e1
        rw [add_mk, cell_of_row w b _ cur bl.ty (0, 0) (k1.cells hcm), p1]
        simp [Array.getD_eq_getD_getElem?, p1]
      · obtain ⟨d', e1, rfl⟩ := map_at hd
        obtain ⟨u, p1, p2⟩ := key j d' e1
        have e2 : cur.getD (i * P.cellsOf bl.ty + off + j) undef = u := by simp [Array.getD_eq_getD_getElem?, p1]
        rw [e2]
        exact (ih d' u (openI_rep p2) (o2 d' (List.mem_of_getElem? e1))).1
      · obtain ⟨d', e1, rfl⟩ := List.mem_map.1 hd
        obtain ⟨j, hj⟩ := List.getElem?_of_mem e1
        obtain ⟨u, p1, p2⟩ := key j d' hj
        exact (ih d' u (openI_rep p2) (o2 d' e1)).2
    | fn f a b =>
      cases hr with
      | fn _ _ _ fs cs hf hc h1 h2 =>
        simp only [snap]
        refine ⟨.fn f _ _ fs cs (by simpa using hf) (by simpa using hc) (fun i d x e1 e2 => ?_) (fun i d x e1 e2 => ?_), ?_⟩
        · obtain ⟨d', e3, rfl⟩ := map_at e1
          exact (ih d' x (h1 i d' x e3 e2) (ho.1 d' (List.mem_of_getElem? e3))).1
        · obtain ⟨d', e3, rfl⟩ := map_at e1
          exact (ih d' x (h2 i d' x e3 e2) (ho.2 d' (List.mem_of_getElem? e3))).1
        · simp only [D.nr, Bool.and_eq_true]
          refine ⟨nrs_of fun d hd => ?_, nrs_of fun d hd => ?_⟩
          · obtain ⟨d', e1, rfl⟩ := List.mem_map.1 hd
            obtain ⟨i, hi⟩ := List.getElem?_of_mem e1
            have hlt : i < fs.size := by rw [← hf]; exact (List.getElem?_eq_some_iff.1 hi).1
            exact (ih d' _ (h1 i d' _ hi (Array.getElem?_eq_getElem hlt)) (ho.1 d' e1)).2
          · obtain ⟨d', e1, rfl⟩ := List.mem_map.1 hd
            obtain ⟨i, hi⟩ := List.getElem?_of_mem e1
            have hlt : i < cs.size := by rw [← hc]; exact (List.getElem?_eq_some_iff.1 hi).1
            exact (ih d' _ (h2 i d' _ hi (Array.getElem?_eq_getElem hlt)) (ho.2 d' e1)).2
    | _ => exact ⟨hr.clean ho fun b hb => hb, ho⟩

/-! ### the marks, at the end -/
def Stays : Obj → Prop
  | .cells .. | .map .. => True
  | _ => False
theorem leaves_marks [Glob P] {fn : Func} {tmps : Array Value} {R : Ending → World → Prop} {n B : Nat} {g : Mem} : ∀ (ds : List Deferred) (w : World), Marks B g ds w →
    (∀ w', w'.drawn = w.drawn → w'.os = w.os → w'.tape = w.tape → w'.output = w.output → w'.heap.size = w.heap.size → (∀ k : Nat, k < B → w'.heap[k]? = w.heap[k]?) → (∀ k : Nat, g.I k → w'.heap[k]? = w.heap[k]?) → (∀ (k : Nat) o, w.heap[k]? = some o → Stays o → w'.heap[k]? = w.heap[k]?) → ∃ v, (results fn tmps).run P w' = .ok v w' ∧ R (.returned v) w') →
    LeavesInM Fence.wide n P fn tmps R ds .returning w := by
  intro ds
  induction ds with
  | nil =>
    intro w _ h
    exact h w rfl rfl rfl rfl rfl (fun _ _ => rfl) (fun _ _ => rfl) (fun _ _ _ _ => rfl)
  | cons d ds ih =>
    rintro w ⟨⟨D, h1, h2, h3, h4, h5⟩, h6⟩ h
    refine ⟨by simp, .inl ⟨D, w.putObj D (.deferred none), h1, run_takeDeferred h2, ?_⟩⟩
    have hne : ∀ k, k ≠ D → (w.putObj D (.deferred none)).heap[k]? = w.heap[k]? := fun k hk => World.putObj_heap_other hk
    have hms : ∀ ds : List Deferred, (∀ d' ∈ ds, d'.target ≠ .collected D) → Marks B g ds w → Marks B g ds (w.putObj D (.deferred none)) := by
      intro ds
      induction ds with
      | nil => intro _ _; trivial
      | cons e ds ihd =>
        rintro hds ⟨⟨D', k1, k2, k3, k4, k5⟩, k6⟩
        refine ⟨⟨D', k1, ?_, k3, k4, k5⟩, ihd (fun d' hd' => hds d' (by simp [hd'])) k6⟩
        rw [hne D' (fun e' => by subst e'; exact hds e (by simp) k1)]
        exact k2
    refine ih _ (hms ds h3 h6) fun w' e0 e1 e2 e3 e4 e5 e6 e7 => ?_
    refine h w' (by rw [e0]; rfl) (by rw [e1]; rfl) (by rw [e2]; rfl) (by rw [e3]; rfl) (by rw [e4]; simp) (fun k hk => ?_) (fun k hk => ?_) (fun k o hk ho => ?_)
    · rw [e5 k hk, hne k (by omega)]
    · rw [e6 k hk, hne k (fun e => by subst e; exact h5 hk)]
    · have : k ≠ D := fun e' => by subst e'; rw [h2] at hk; cases hk; exact ho
      rw [e7 k o (by rw [hne k this]; exact hk) ho, hne k this]

/-- HM behind a change of blocks that hold no cells of ours. -/
theorem HM.marks [Glob P] {h : H} {g : Mem} {w w' : World} (hm : HM P h g w) (e4 : w'.heap.size = w.heap.size) (e6 : ∀ k : Nat, g.I k → w'.heap[k]? = w.heap[k]?) (e7 : ∀ (k : Nat) o, w.heap[k]? = some o → Stays o → w'.heap[k]? = w.heap[k]?) : HM P h g w' := by
  refine ⟨hm.dead, fun r bl hr => ?_, hm.inj, hm.used, fun b hb => by rw [e4]; exact hm.imm b hb, hm.gr.later fun b hb => ⟨hb, e6 b hb⟩⟩
  obtain ⟨blk, c, h1, h2, h3, h4, h5⟩ := hm.blk r bl hr
  refine ⟨blk, c, h1, h2, h3, h4, ?_⟩
  rcases h5 with h5 | ⟨b, cur, rfl, h6, h7, h8, h9⟩
  · exact .inl h5
  · have hst : w'.heap[b]? = w.heap[b]? := by
      obtain ⟨x, hx, hy⟩ := h6.some
      exact e7 b x hx (by rcases hy with ⟨_, _, _, rfl⟩ | ⟨_, _, rfl⟩ <;> trivial)
    exact .inr ⟨b, cur, rfl, by rw [hst]; exact h6, h7, h8, fun i row hi => ⟨(h9 i row hi).1, fun j d hd => by
      obtain ⟨u, k3, k4, k5⟩ := (h9 i row hi).2 j d hd
      exact ⟨u, k3, k4, k5.mono (fun b hb => ⟨hb, e6 b hb⟩) (fun _ h => h) (fun _ _ => .inl rfl)⟩⟩⟩
theorem St.marks [Glob P] {B : Nat} {s : S} {g : Mem} {a : Act} {w w' : World} (hs : St P B s g a w) (e4 : w'.heap.size = w.heap.size) (e6 : ∀ k : Nat, g.I k → w'.heap[k]? = w.heap[k]?) (e7 : ∀ (k : Nat) o, w.heap[k]? = some o → Stays o → w'.heap[k]? = w.heap[k]?) :
    St P B { s with e := Env.tt } g { a with defers := [] } w' :=
  ⟨hs.sz, fun i => (hs.tm i).mono (fun b hb => ⟨hb, e6 b hb⟩) (fun _ h => h) (fun _ _ => .inl rfl), hs.mem.marks e4 e6 e7, trivial, trivial, by rw [e4]; exact hs.bd⟩

theorem init_st [Glob P] {n : Nat} {args : List D} {vs : List Value} {g : Mem} {w : World} (hr : Reps w g args vs) (hn : args.length ≤ n) {h : H} (hm : HM P h g w) {nx : Nat} :
    St P w.heap.size { S.init n args with h := h, nx := nx } g { tmps := vs.toArray ++ Array.replicate (n - vs.toArray.size) undef, defers := [] } w := by
  have hl : vs.length = args.length := hr.1.symm
  refine ⟨by simp [S.init]; omega, fun i => ?_, hm, trivial, trivial, Nat.le_refl _⟩
  simp only [S.init]
  by_cases hi : i < args.length
  · have e1 : args.getD i .junk = args[i] := by simp [List.getD, List.getElem?_eq_getElem hi]
    have hi' : i < vs.length := by omega
    have e2 : (vs.toArray ++ Array.replicate (n - vs.toArray.size) undef).getD i undef = vs[i] := by
      simp [Array.getElem?_append, hi']
    rw [e1, e2]
    exact hr.2 i _ _ (by simp) (by simp)
  · have e1 : args.getD i .junk = .junk := by simp [List.getD, List.getElem?_eq_none (Nat.le_of_not_lt hi)]
    rw [e1]
    exact .junk _

/-- **A CONTRACT OF A FUNCTION THAT LEAVES MEMORY ALONE, OUT OF A WALK OF ITS BODY.** -/
theorem pure_of_dw [Glob P] {f : FuncId} {fn : Func} {c : Code} {args : List D} {res : D} (hf : P.funcs[f]? = some fn) (hb : fn.body = some c) (hbd : hasBody P f = true) (hnr : args.all D.nr = true) (hn : args.length ≤ fn.ntmps)
    (h : DW P none c (fun e s => (e = .normal ∨ e = .ret) ∧ resOk P s fn.results.toList ∧ ∃ k, snapOk s.h k (resD P fn.results.toList s) ∧ wk (snap s.h k (resD P fn.results.toList s)) = res) (S.init fn.ntmps args)) : PureCt P f args res := by
  refine ⟨hbd, hnr, fun w I vs hI hgr hr => ?_⟩
  have hm : HM P (fun _ => none) (noM I) w := by
    refine ⟨fun _ _ => rfl, ?_, ?_, ?_, hI, hgr⟩
    · intro r bl h; cases h
    · intro r r' b c c' s s' h; cases h
    · intro r h; exact absurd rfl h
  have hs : St P w.heap.size (S.init fn.ntmps args) (noM I) { tmps := vs.toArray ++ Array.replicate (fn.ntmps - vs.toArray.size) undef, defers := [] } w := init_st hr hn hm
  refine callsIn_of_wp_marks (n := 0) hf hb trivial (wpIn_mono (F := Fence.wide) (h w.heap.size (noM I) _ w hs (fun r h => False.elim h)) ?_)
  rintro e a' w' ⟨s', g', ⟨he, ho, k, hk, hres⟩, hs', hm', _⟩
  have hm' := hm'.out
  have hlast : LeavesInM Fence.wide 0 P fn a'.tmps (fun e w' => ∃ v, e = .returned v ∧ Bel w w' ∧ Rep w' (noM fun b => I b ∨ (w.heap.size ≤ b ∧ b < w'.heap.size)) res v) a'.defers .returning w' := by
    refine leaves_marks (P := P) a'.defers w' hs'.df fun w2 e0 e1 e2 e3 e4 e5 e6 e7 => ?_
    have hs2 := hs'.marks e4 e6 e7
    obtain ⟨v, h1, h2⟩ := results_sound (fn := fn) hs2 ho
    refine ⟨v, h1, v, rfl, ⟨by rw [e1, hm'.os], by rw [e2, hm'.tape], by rw [e3, hm'.output], by rw [e4]; exact hm'.size, by rw [e0]; exact hm'.drawn, fun b hb => ?_⟩, ?_⟩
    · rw [e5 b hb, hm'.same b hb (fun r c s h => by cases h)]
    · obtain ⟨q1, q2⟩ := snap_rep hs2.mem k _ v (openI_rep h2) hk
      have q1 := q1.wk
      have q2 := wk_nr _ q2
      rw [hres] at q1 q2
      refine q1.clean q2 fun b hb => ?_
      rcases hb with hb | ⟨r, c, s, hb⟩
      · rcases hm'.inew b hb with h | h | ⟨r, c, s, h⟩
        · exact .inl h
        · exact .inr ⟨h, hs2.mem.imm b hb⟩
        · cases h
      · rcases hm'.new r b c s hb with ⟨r', c', s', h⟩ | h
        · cases h
        · exact .inr ⟨h, (M_lt hs2.mem hb).1⟩
  rcases he with rfl | rfl <;> exact hlast

/-- names below n -/
def keepBelow (n : Nat) (h : H) : H := fun r => if r < n then h r else none
end Go.DL
/-
  THE D LAYER, 15: the equations by which the evaluator is run. Conditions: none.
-/
namespace Go.DL
open Go.RowKit
variable {P : Program} {W : Words} {C : Con}

attribute [go_sem_proc] Nat.reduceEqDiff Nat.reduceAdd Nat.reduceLeDiff Nat.reduceBEq Nat.reduceSub Nat.reduceMul Int.reduceLT Int.reduceLE Int.reduceEq Int.reduceNeg Int.reduceToNat reduceIte Nat.reduceLT reduceCtorEq
attribute [go_sem] decide_true decide_false Bool.not_true Bool.not_false Int.toNat_natCast

/-! ### the run -/
def S.out (s : S) (dst : Option Tmp) (r : D × H × Prop) : S := { n := s.n, t := s.put dst r.1, h := r.2.1, nx := s.nx, ok := s.ok ∧ dstOk s.n dst = true ∧ r.2.2, e := s.e }
def S.outG (s : S) (dst : Option Tmp) (op : Op) (C : Con) (gd : D) (want : Bool) (r : D × H × Prop) : S :=
  { n := s.n, t := s.put dst (.cond (gval gd want) r.1), h := s.h, nx := s.nx, ok := s.ok ∧ dstOk s.n dst = true ∧ gok gd = true ∧ cls C op ≠ .writes ∧ (gval gd want = true → r.2.2), e := s.e }
@[go_sem] theorem exec_eq [Glob P] {L : List Oper} {s : S} : exec P W C L s = execFrom P W C L s.nx 0 L { n := s.n, t := s.t, h := s.h, nx := s.nx + L.length, ok := s.ok, e := s.e } := rfl
@[go_sem] theorem execFrom_nil [Glob P] {L : List Oper} {b i : Nat} {s : S} : execFrom P W C L b i [] s = s := rfl
@[go_sem] theorem execFrom_cons [Glob P] {L : List Oper} {b i : Nat} {o : Oper} {os : List Oper} {s : S} : execFrom P W C L b i (o :: os) s = execFrom P W C L b (i + 1) os (exec1 P W C L b i o s) := rfl
@[go_sem] theorem exec1_plain [Glob P] {L : List Oper} {b i : Nat} {dst : Option Tmp} {op : Op} {ty : TypeId} {pos : String} {af : Array Edge} {s : S} :
    exec1 P W C L b i { dst := dst, op := op, type := ty, pos := pos, after := af, guard := none } s = s.out dst (effG P W C true op ((opArgs op).map s.ev) s.h (b + i)) := rfl
def guardD (L : List Oper) (j : Nat) (t : Nat → D) : D := ((L[j]?).bind (·.dst)).elim .junk t
@[go_sem] theorem exec1_guard [Glob P] {L : List Oper} {b i j : Nat} {want : Bool} {dst : Option Tmp} {op : Op} {ty : TypeId} {pos : String} {af : Array Edge} {s : S} :
    exec1 P W C L b i { dst := dst, op := op, type := ty, pos := pos, after := af, guard := some (j, want) } s =
      s.outG dst op C (guardD L j s.t) want (effG P W C (gval (guardD L j s.t) want) op ((opArgs op).map s.ev) s.h (b + i)) := rfl
@[go_sem] theorem guardD_zero {dst : Option Tmp} {op : Op} {ty : TypeId} {pos : String} {af : Array Edge} {gd : Option (Nat × Bool)} {L : List Oper} {t : Nat → D} :
    guardD ({ dst := dst, op := op, type := ty, pos := pos, after := af, guard := gd } :: L) 0 t = dst.elim .junk t := rfl
@[go_sem] theorem guardD_succ {o : Oper} {L : List Oper} {j : Nat} {t : Nat → D} : guardD (o :: L) (j + 1) t = guardD L j t := by simp [guardD]
@[go_sem] theorem out_some {n nx : Nat} {t : Nat → D} {h : H} {ok : Prop} {e : Env} {d : Tmp} {x : D} {h' : H} {p : Prop} : S.out { n, t, h, nx, ok, e } (some d) (x, h', p) = { n, t := upd t d x, h := h', nx, ok := ok ∧ decide (d < n) = true ∧ p, e } := rfl
@[go_sem] theorem out_none' {n nx : Nat} {t : Nat → D} {h : H} {ok : Prop} {e : Env} {x : D} {h' : H} {p : Prop} : S.out { n, t, h, nx, ok, e } none (x, h', p) = { n, t, h := h', nx, ok := ok ∧ p, e } := by simp [S.out, S.put, dstOk]
@[go_sem] theorem outG_some {n nx : Nat} {t : Nat → D} {h : H} {ok : Prop} {e : Env} {d : Tmp} {op : Op} {gd : D} {want : Bool} {x : D} {h' : H} {p : Prop} :
    S.outG { n, t, h, nx, ok, e } (some d) op C gd want (x, h', p) = { n, t := upd t d (.cond (gval gd want) x), h, nx, ok := ok ∧ decide (d < n) = true ∧ gok gd = true ∧ cls C op ≠ .writes ∧ (gval gd want = true → p), e } := rfl
@[go_sem] theorem clear_eq {n nx : Nat} {t : Nat → D} {h : H} {ok : Prop} {e : Env} : S.clear { n, t, h, nx, ok, e } = { n, t, h, nx, ok := True, e } := rfl
@[go_sem] theorem init_eq {n : Nat} {args : List D} : S.init n args = { n, t := fun i => args.getD i .junk, h := fun _ => none, nx := 0, ok := True, e := Env.tt } := rfl
@[go_sem] theorem ev_tmp {s : S} {i : Tmp} : s.ev (.tmp i) = s.t i := rfl
@[go_sem] theorem ev_const {s : S} {x : Value} : s.ev (.const x) = ofV x := rfl
@[go_sem] theorem ev_global {s : S} {g : Nat} : s.ev (.global g) = .v (.pointer (some ⟨g, 0, none⟩)) := rfl
@[go_sem] theorem ev_func {s : S} {f : FuncId} : s.ev (.func f) = .fn (.func f) [] [] := rfl
@[go_sem] theorem ofV_int {k : IntKind} {n : Int} : ofV (.int k n) = .v (.int k n) := rfl
@[go_sem] theorem ofV_bool {b : Bool} : ofV (.bool b) = .v (.bool b) := rfl
@[go_sem] theorem ofV_string {s : ByteArray} : ofV (.string s) = .v (.string s) := rfl
@[go_sem] theorem ofV_nil : ofV (.slice none 0 0) = .list true [] := rfl
@[go_sem] theorem ofV_nilFunc : ofV .nilFunc = .v .nilFunc := rfl
@[go_sem] theorem ofV_nilIface : ofV .nilIface = .v .nilIface := rfl
@[go_sem] theorem ofV_tuple {vs : Array Value} : ofV (.tuple vs) = .v (.tuple vs) := rfl
@[go_sem] theorem ofV_ptr {p : Option Addr} : ofV (.pointer p) = .v (.pointer p) := rfl
@[go_sem] theorem upd_hit {α : Type} {f : Nat → α} {i : Nat} {x : α} : upd f i x i = x := by simp [upd]
@[go_sem] theorem upd_miss {α : Type} {f : Nat → α} {i j : Nat} {x : α} (h : (j = i) = False) : upd f i x j = f j := by simp only [upd]; rw [if_neg (by rw [h]; exact id)]
attribute [go_sem] List.take_succ_cons List.take_zero List.take_nil List.drop_zero List.drop_succ_cons List.drop_nil List.set_cons_zero List.set_cons_succ List.cons_append List.nil_append List.append_nil Bool.false_eq_true Nat.zero_add Nat.add_zero Nat.add_assoc List.length_map List.headD_cons
attribute [go_sem] ne_eq imp_self Bool.not_eq_true' Bool.not_eq_false' Bool.and_self and_self
attribute [go_sem] eq_self not_false_eq_true and_true true_and List.length_cons List.length_nil List.getD_cons_zero List.getD_cons_succ List.getD_nil implies_true true_implies
@[go_sem] theorem size_lit {α : Type} {l : List α} : l.toArray.size = l.length := rfl

/-! ### operands -/
attribute [go_sem] opArgs List.map_cons List.map_nil
@[go_sem] theorem toList_lit {α : Type} {l : List α} : l.toArray.toList = l := by simp
@[go_sem] theorem sd_v {x : Value} : sd (.v x) = .v x := rfl
@[go_sem] theorem sd_agg {x : List D} : sd (.agg x) = .agg x := rfl
@[go_sem] theorem sd_list {f : Bool} {x : List (List D)} : sd (.list f x) = .list f x := rfl
@[go_sem] theorem sd_eptr {x : List D} : sd (.eptr x) = .eptr x := rfl
@[go_sem] theorem sd_mrow {a b c : Nat} : sd (.mrow a b c) = .mrow a b c := rfl
@[go_sem] theorem sd_mptr {a b c : Nat} : sd (.mptr a b c) = .mptr a b c := rfl
@[go_sem] theorem sd_fn {f : Fn} {a b : List D} : sd (.fn f a b) = .fn f a b := rfl
@[go_sem] theorem sd_tuple {a : List D} : sd (.tuple a) = .tuple a := rfl
@[go_sem] theorem sd_iface {t : TypeId} {d : D} : sd (.iface t d) = .iface t d := rfl
@[go_sem] theorem sd_cond {g : Bool} {d : D} : sd (.cond g d) = d := rfl
@[go_sem] theorem sd_mp {r : Nat} : sd (.mp r) = .mp r := rfl
@[go_sem] theorem sd_fmap {kv : List D} : sd (.fmap kv) = .fmap kv := rfl
@[go_sem] theorem sg_mp {r : Nat} : sg (.mp r) = true := rfl
@[go_sem] theorem sg_fmap {kv : List D} : sg (.fmap kv) = true := rfl
@[go_sem] theorem sg_v {x : Value} : sg (.v x) = true := rfl
@[go_sem] theorem sg_agg {x : List D} : sg (.agg x) = true := rfl
@[go_sem] theorem sg_list {f : Bool} {x : List (List D)} : sg (.list f x) = true := rfl
@[go_sem] theorem sg_eptr {x : List D} : sg (.eptr x) = true := rfl
@[go_sem] theorem sg_mrow {a b c : Nat} : sg (.mrow a b c) = true := rfl
@[go_sem] theorem sg_mptr {a b c : Nat} : sg (.mptr a b c) = true := rfl
@[go_sem] theorem sg_fn {f : Fn} {a b : List D} : sg (.fn f a b) = true := rfl
@[go_sem] theorem sg_tuple {a : List D} : sg (.tuple a) = true := rfl
@[go_sem] theorem sg_iface {t : TypeId} {d : D} : sg (.iface t d) = true := rfl
@[go_sem] theorem sg_cond {g : Bool} {d : D} : sg (.cond g d) = g := rfl
attribute [go_sem] List.all_cons List.all_nil Bool.and_true Bool.true_and
@[go_sem] theorem gval_v {b want : Bool} : gval (.v (.bool b)) want = (b == want) := rfl
@[go_sem] theorem gval_c {g b want : Bool} : gval (.cond g (.v (.bool b))) want = (g && (b == want)) := rfl
@[go_sem] theorem gok_v {b : Bool} : gok (.v (.bool b)) = true := rfl
@[go_sem] theorem gok_c {g b : Bool} : gok (.cond g (.v (.bool b))) = true := rfl
attribute [go_sem] Option.elim beq_true beq_false

/-! ### operations -/
@[go_sem] theorem e_move [Glob P] {g : Bool} {x : Operand} {d : D} {h : H} {b : Nat} : effG P W C g (.move x) [d] h b = (sd d, h, (g = true → sg d = true) ∧ True) := by simp [effG, isPick, eff]
@[go_sem] theorem e_assign [Glob P] {g : Bool} {x : Operand} {d : D} {h : H} {b : Nat} : effG P W C g (.assign x) [d] h b = (sd d, h, (g = true → sg d = true) ∧ True) := by simp [effG, isPick, eff]
@[go_sem] theorem e_alloc [Glob P] {g : Bool} {e : TypeId} {h : H} {b : Nat} : effG P W C g (.alloc e) [] h b = (.mptr b 0 0, upd h b (some ⟨e, [zeroCells P e]⟩), (zeroCells P e).length = P.cellsOf e ∧ (zeroCells P e).all D.one = true ∧ 0 < P.cellsOf e) := by simp [effG, isPick, eff]
@[go_sem] theorem e_box [Glob P] {g : Bool} {e : TypeId} {x : Operand} {d : D} {h : H} {b : Nat} : effG P W C g (.box e x) [d] h b = (.mptr b 0 0, upd h b (some ⟨e, [(sd d).cells]⟩), (g = true → sg d = true) ∧ (sd d).cells.length = P.cellsOf e ∧ (sd d).cells.all D.one = true ∧ 0 < P.cellsOf e) := by simp [effG, isPick, eff]
@[go_sem] theorem e_build [Glob P] {g : Bool} {t : TypeId} {ps : Array (Nat × Operand)} {xs : List D} {h : H} {b : Nat} : effG P W C g (.build t ps) xs h b = ((buildD P t ps.toList (xs.map sd)).1, h, (g = true → xs.all sg = true) ∧ (buildD P t ps.toList (xs.map sd)).2) := by simp [effG, isPick, eff, still]
@[go_sem] theorem e_buildSlice [Glob P] {g : Bool} {t : TypeId} {n : Nat} {ps : Array (Nat × Operand)} {xs : List D} {h : H} {b : Nat} : effG P W C g (.buildSlice t n ps) xs h b = if C.bs then ((bsOwn P t n ps.toList (xs.map sd) h b).1, (bsOwn P t n ps.toList (xs.map sd) h b).2.1, (g = true → xs.all sg = true) ∧ (bsOwn P t n ps.toList (xs.map sd) h b).2.2) else ((buildSliceD P t n ps.toList (xs.map sd)).1, h, (g = true → xs.all sg = true) ∧ (buildSliceD P t n ps.toList (xs.map sd)).2) := by cases hb : C.bs <;> simp [effG, isPick, eff, still, hb]
@[go_sem] theorem e_load [Glob P] {g : Bool} {t : TypeId} {x : Operand} {d : D} {h : H} {b : Nat} : effG P W C g (.load t x) [d] h b = (mkD P t (ldc P (sd d) h), h, (g = true → sg d = true) ∧ P.cellsOf t ≤ (ldc P (sd d) h).length ∧ 0 < P.cellsOf t ∧ (P.underlying t).isSome = true) := by simp [effG, isPick, eff, still, ldD]
@[go_sem] theorem e_store [Glob P] {g : Bool} {t : TypeId} {x y : Operand} {d d' : D} {h : H} {b : Nat} : effG P W C g (.store t x y) [d, d'] h b = (.v undef, (stH P t (sd d) (sd d') h).1, (g = true → (sg d && sg d') = true) ∧ (stH P t (sd d) (sd d') h).2) := by simp [effG, isPick, eff]
@[go_sem] theorem e_nilCheck [Glob P] {g : Bool} {x : Operand} {d : D} {h : H} {b : Nat} : effG P W C g (.nilCheck x) [d] h b = (sd d, h, (g = true → sg d = true) ∧ isPtr (sd d) = true) := by simp [effG, isPick, eff]
@[go_sem] theorem e_binOp [Glob P] {g : Bool} {op : BinOp} {t u : TypeId} {x y : Operand} {d d' : D} {h : H} {b : Nat} : effG P W C g (.binOp op t x y u) [d, d'] h b = ((binD P t op (sd d) (sd d')).1, h, (g = true → (sg d && sg d') = true) ∧ (binD P t op (sd d) (sd d')).2) := by simp [effG, isPick, eff, still]
@[go_sem] theorem e_unOp [Glob P] {g : Bool} {op : UnOp} {t : TypeId} {x : Operand} {d : D} {h : H} {b : Nat} : effG P W C g (.unOp op t x) [d] h b = ((unD op (sd d)).1, h, (g = true → sg d = true) ∧ (unD op (sd d)).2) := by simp [effG, isPick, eff, still]
@[go_sem] theorem e_convert [Glob P] {g : Bool} {s t : TypeId} {x : Operand} {d : D} {h : H} {b : Nat} : effG P W C g (.convert s t x) [d] h b = ((convD P s t (sd d)).1, h, (g = true → sg d = true) ∧ (convD P s t (sd d)).2) := by simp [effG, isPick, eff, still]
@[go_sem] theorem e_makeFunc [Glob P] {g : Bool} {f : Fn} {a c : Array Operand} {xs : List D} {h : H} {b : Nat} : effG P W C g (.makeFunc f a c) xs h b = (.fn f ((xs.map sd).take a.size) ((xs.map sd).drop a.size), h, (g = true → xs.all sg = true) ∧ True) := by simp [effG, isPick, eff]
@[go_sem] theorem e_slice [Glob P] {g : Bool} {t : TypeId} {x : Operand} {l hi m : Option Operand} {d : D} {xs : List D} {h : H} {b : Nat} : effG P W C g (.slice t x l hi m) (d :: xs) h b =
    ((sliceD P t (sd d) (optAt l (xs.map sd)).1 (optAt hi (optAt l (xs.map sd)).2).1 (optAt m (optAt hi (optAt l (xs.map sd)).2).2).1 h).1, h, (g = true → (sg d && xs.all sg) = true) ∧ (sliceD P t (sd d) (optAt l (xs.map sd)).1 (optAt hi (optAt l (xs.map sd)).2).1 (optAt m (optAt hi (optAt l (xs.map sd)).2).2).1 h).2) := by simp [effG, isPick, eff, still]
@[go_sem] theorem e_fieldAddr [Glob P] {g : Bool} {t : TypeId} {x : Operand} {f : Nat} {d : D} {h : H} {b : Nat} : effG P W C g (.fieldAddr t x f) [d] h b = ((fieldPtr P t f (sd d)).1, h, (g = true → sg d = true) ∧ (fieldPtr P t f (sd d)).2) := by simp [effG, isPick, eff, still]
@[go_sem] theorem e_field [Glob P] {g : Bool} {t : TypeId} {x : Operand} {f : Nat} {d : D} {h : H} {b : Nat} : effG P W C g (.field t x f) [d] h b = ((fieldV P t f (sd d)).1, h, (g = true → sg d = true) ∧ (fieldV P t f (sd d)).2) := by simp [effG, isPick, eff, still]
@[go_sem] theorem e_indexAddr [Glob P] {g : Bool} {t : TypeId} {x y : Operand} {d d' : D} {h : H} {b : Nat} : effG P W C g (.indexAddr t x y) [d, d'] h b = ((idxPtr P t (sd d) (sd d') h).1, h, (g = true → (sg d && sg d') = true) ∧ (idxPtr P t (sd d) (sd d') h).2) := by simp [effG, isPick, eff, still]
@[go_sem] theorem e_index [Glob P] {g : Bool} {t : TypeId} {x y : Operand} {d d' : D} {h : H} {b : Nat} : effG P W C g (.index t x y) [d, d'] h b = ((idxV P t (sd d) (sd d')).1, h, (g = true → (sg d && sg d') = true) ∧ (idxV P t (sd d) (sd d')).2) := by simp [effG, isPick, eff, still]
@[go_sem] theorem e_extract [Glob P] {g : Bool} {x : Operand} {i : Nat} {ds : List D} {h : H} {b : Nat} : effG P W C g (.extract x i) [.tuple ds] h b = (ds.getD i .junk, h, i < ds.length) := by simp [effG, isPick, eff, sd, sg]
@[go_sem] theorem e_len [Glob P] {g : Bool} {args : Array Operand} {t : TypeId} {d : D} {h : H} {b : Nat} : effG P W C g (.call { callee := .builtin .len, args := args, argTypes := #[t] }) [d] h b = (.v (.int .i64 (lenD (sd d))), h, (g = true → sg d = true) ∧ lenOk P t (sd d) = true) := by simp [effG, isPick, eff]
@[go_sem] theorem e_append [Glob P] {g : Bool} {args : Array Operand} {t u : TypeId} {d d' : D} {h : H} {b : Nat} : effG P W C g (.call { callee := .builtin .append, args := args, argTypes := #[t, u] }) [d, d'] h b = ((appendD P t u (sd d) (sd d') h b).1, (appendD P t u (sd d) (sd d') h b).2.1, (g = true → (sg d && sg d') = true) ∧ (appendD P t u (sd d) (sd d') h b).2.2) := by simp [effG, isPick, eff]
@[go_sem] theorem e_min [Glob P] {g : Bool} {args : Array Operand} {ts : Array TypeId} {k : IntKind} {x y : Int} {h : H} {b : Nat} : effG P W C g (.call { callee := .builtin .min, args := args, argTypes := ts }) [.v (.int k x), .v (.int k y)] h b = (.v (.int k (min x y)), h, True) := by simp [effG, isPick, eff, still, minI, sd, sg]
@[go_sem] theorem e_max [Glob P] {g : Bool} {args : Array Operand} {ts : Array TypeId} {k : IntKind} {x y : Int} {h : H} {b : Nat} : effG P W C g (.call { callee := .builtin .max, args := args, argTypes := ts }) [.v (.int k x), .v (.int k y)] h b = (.v (.int k (max x y)), h, True) := by simp [effG, isPick, eff, still, maxI, sd, sg]
@[go_sem] theorem e_call [Glob P] {g : Bool} {f : Operand} {args : Array Operand} {ts : Array TypeId} {xs : List D} {h : H} {b : Nat} : effG P W C g (.call { callee := .value f, args := args, argTypes := ts }) xs h b = ((callD W C f (xs.map sd) h b).1, (callD W C f (xs.map sd) h b).2.1, (g = true → xs.all sg = true) ∧ (callD W C f (xs.map sd) h b).2.2) := by simp [effG, isPick, eff]
@[go_sem] theorem e_makeMap [Glob P] {g : Bool} {t : TypeId} {r : Option Operand} {xs : List D} {h : H} {b : Nat} : effG P W C g (.makeMap t r) xs h b = (.mp b, upd h b (some ⟨t, mapRows []⟩), (g = true → xs.all sg = true) ∧ (mapT P t).isSome = true ∧ P.cellsOf t = 1 ∧ intHint (xs.map sd) = true) := by simp [effG, isPick, eff, mkMap]
@[go_sem] theorem e_mapUpdate [Glob P] {g : Bool} {t : TypeId} {x y z : Operand} {m k d : D} {h : H} {b : Nat} : effG P W C g (.mapUpdate t x y z) [m, k, d] h b = (.v undef, (updMap P t (sd m) (sd k) (sd d) h).1, (g = true → (sg m && (sg k && sg d)) = true) ∧ (updMap P t (sd m) (sd k) (sd d) h).2) := by simp [effG, isPick, eff]
@[go_sem] theorem e_insert [Glob P] {g : Bool} {t : TypeId} {x y z : Operand} {m k d : D} {h : H} {b : Nat} : effG P W C g (.insert t x y z) [m, k, d] h b = (.v undef, (updMap P t (sd m) (sd k) (sd d) h).1, (g = true → (sg m && (sg k && sg d)) = true) ∧ (updMap P t (sd m) (sd k) (sd d) h).2) := by simp [effG, isPick, eff]
@[go_sem] theorem e_lookup [Glob P] {g ok : Bool} {t : TypeId} {x y : Operand} {m k : D} {h : H} {b : Nat} : effG P W C g (.lookup t x y ok) [m, k] h b = ((lookD P t ok (sd m) (sd k) h).1, h, (g = true → (sg m && sg k) = true) ∧ (lookD P t ok (sd m) (sd k) h).2) := by simp [effG, isPick, eff, still]
@[go_sem] theorem e_makeSlice [Glob P] {g : Bool} {t : TypeId} {x y : Operand} {d d' : D} {h : H} {b : Nat} : effG P W C g (.makeSlice t x y) [d, d'] h b = ((mkSl P t h b (sd d) (sd d')).1, (mkSl P t h b (sd d) (sd d')).2.1, (g = true → (sg d && sg d') = true) ∧ (mkSl P t h b (sd d) (sd d')).2.2) := by simp [effG, isPick, eff]
@[go_sem] theorem mkSl_i [Glob P] {t : TypeId} {h : H} {b : Nat} {k k' : IntKind} {n m : Int} : mkSl P t h b (.v (.int k n)) (.v (.int k' m)) = (match elemT P t with
    | some e => (.mrow b 0 n.toNat, upd h b (some ⟨e, List.replicate n.toNat (zeroCells P e)⟩), n = m ∧ 0 ≤ n ∧ P.bytesOf e * n ≤ 281474976710656 ∧ n ≤ 9223372036854775807 ∧ zeroLen P e = true ∧ (zeroCells P e).length = P.cellsOf e ∧ (zeroCells P e).all D.one = true ∧ 0 < P.cellsOf e)
    | none => (.junk, h, False)) := rfl
@[go_sem] theorem nw_lookup {t : TypeId} {x y : Operand} {ok : Bool} : (cls C (.lookup t x y ok) = .writes) = False := by simp [cls]
@[go_sem] theorem intHint_nil : intHint [] = true := rfl
@[go_sem] theorem intHint_i {k : IntKind} {n : Int} : intHint [.v (.int k n)] = true := rfl
@[go_sem] theorem updMap_mp [Glob P] {t : TypeId} {r : Nat} {k d : D} {h : H} : updMap P t (.mp r) k d h = (match mapT P t with
  | some (kt, _) => match h r with
    | some bl => match kvB bl with
      | some kv => (upd h r (some ⟨bl.ty, mapRows (kvSet kv k d)⟩), keyOk P kt k = true ∧ keysOk P kt kv = true ∧ keyTy P kt = true)
      | none => (h, False)
    | none => (h, False)
  | _ => (h, False)) := by unfold updMap; cases mapT P t <;> rfl
@[go_sem] theorem lookD_eq [Glob P] {t : TypeId} {ok : Bool} {m k : D} {h : H} : lookD P t ok m k h = (match mapT P t with
  | some (kt, e) => match kvH h m with
    | some kv => (if ok then .tuple [(kvGet kv k).getD (zeroD P e), .b (kvGet kv k).isSome] else (kvGet kv k).getD (zeroD P e), keyOk P kt k = true ∧ keysOk P kt kv = true ∧ keyTy P kt = true ∧ hasZero P e = true)
    | none => (.junk, False)
  | _ => (.junk, False)) := by unfold lookD; cases mapT P t <;> cases kvH h m <;> rfl
@[go_sem] theorem kvH_fmap {h : H} {kv : List D} : kvH h (.fmap kv) = some kv := rfl
@[go_sem] theorem kvH_mp {h : H} {r : Nat} : kvH h (.mp r) = (match h r with | some bl => kvB bl | none => none) := by show (h r).bind kvB = _; cases h r <;> rfl
@[go_sem] theorem kvB_rows {t : TypeId} {kv : List D} : kvB ⟨t, mapRows kv⟩ = some kv := rfl
@[go_sem] theorem bv_v {b : Bool} : bv (.v (.bool b)) = b := rfl
@[go_sem] theorem isB_v {b : Bool} : isB (.v (.bool b)) = true := rfl
/-- pick, run -/
@[go_sem] theorem e_pick [Glob P] {g : Bool} {x y z : Operand} {c a b : D} {h : H} {n : Nat} :
    effG P W C g (.pick x y z) [c, a, b] h n = (.v (.bool (bif bv (sd c) then bv (sd a) else bv (sd b))), h, (g = true → (sg c = true ∧ isB (sd c) = true) ∧ (bv (sd c) = true → sg a = true ∧ isB (sd a) = true) ∧ (bv (sd c) = false → sg b = true ∧ isB (sd b) = true))) := rfl
attribute [go_sem] cond_true cond_false

@[go_sem] theorem nw_move {x : Operand} : (cls C (.move x) = .writes) = False := by simp [cls]
@[go_sem] theorem nw_assign {x : Operand} : (cls C (.assign x) = .writes) = False := by simp [cls]
@[go_sem] theorem nw_load {t : TypeId} {x : Operand} : (cls C (.load t x) = .writes) = False := by simp [cls]
@[go_sem] theorem nw_binOp {op : BinOp} {t u : TypeId} {x y : Operand} : (cls C (.binOp op t x y u) = .writes) = False := by simp [cls]
@[go_sem] theorem nw_unOp {op : UnOp} {t : TypeId} {x : Operand} : (cls C (.unOp op t x) = .writes) = False := by simp [cls]
@[go_sem] theorem nw_fieldAddr {t : TypeId} {x : Operand} {f : Nat} : (cls C (.fieldAddr t x f) = .writes) = False := by simp [cls]
@[go_sem] theorem nw_field {t : TypeId} {x : Operand} {f : Nat} : (cls C (.field t x f) = .writes) = False := by simp [cls]
@[go_sem] theorem nw_indexAddr {t : TypeId} {x y : Operand} : (cls C (.indexAddr t x y) = .writes) = False := by simp [cls]
@[go_sem] theorem nw_index {t : TypeId} {x y : Operand} : (cls C (.index t x y) = .writes) = False := by simp [cls]
@[go_sem] theorem nw_pick {x y z : Operand} : (cls C (.pick x y z) = .writes) = False := by simp [cls]
@[go_sem] theorem nw_convert {t u : TypeId} {x : Operand} : (cls C (.convert t u x) = .writes) = False := by simp [cls]
@[go_sem] theorem nw_slice {t : TypeId} {x : Operand} {a b c : Option Operand} : (cls C (.slice t x a b c) = .writes) = False := by simp [cls]
@[go_sem] theorem nw_extract {x : Operand} {i : Nat} : (cls C (.extract x i) = .writes) = False := by simp [cls]
@[go_sem] theorem nw_nilCheck {x : Operand} : (cls C (.nilCheck x) = .writes) = False := by simp [cls]
@[go_sem] theorem nw_build {t : TypeId} {ps : Array (Nat × Operand)} : (cls C (.build t ps) = .writes) = False := by simp [cls]
@[go_sem] theorem nw_buildSlice {t : TypeId} {n : Nat} {ps : Array (Nat × Operand)} : (cls C (.buildSlice t n ps) = .writes) = (C.bs = true) := by cases hb : C.bs <;> simp [cls, hb]
@[go_sem] theorem nw_makeFunc {f : Fn} {a b : Array Operand} : (cls C (.makeFunc f a b) = .writes) = False := by simp [cls]
@[go_sem] theorem nw_len {args : Array Operand} {ts : Array TypeId} : (cls C (.call { callee := .builtin .len, args := args, argTypes := ts }) = .writes) = False := by simp [cls]
@[go_sem] theorem nw_min {args : Array Operand} {ts : Array TypeId} : (cls C (.call { callee := .builtin .min, args := args, argTypes := ts }) = .writes) = False := by simp [cls]
@[go_sem] theorem nw_max {args : Array Operand} {ts : Array TypeId} : (cls C (.call { callee := .builtin .max, args := args, argTypes := ts }) = .writes) = False := by simp [cls]
@[go_sem] theorem nw_call {f : Operand} {args : Array Operand} {ts : Array TypeId} : (cls C (.call { callee := .value f, args := args, argTypes := ts }) = .writes) = False := by
  cases h : C.cf <;> simp [cls, isPureCall, h]

@[go_sem] theorem bif_or {c b : Bool} : (bif c then true else b) = (c || b) := by cases c <;> rfl
@[go_sem] theorem bif_and {c b : Bool} : (bif c then b else false) = (c && b) := by cases c <;> rfl
@[go_sem] theorem bif_nand {c b : Bool} : (bif c then false else b) = (!c && b) := by cases c <;> rfl

/-! ### what the operations come to -/
@[go_sem] theorem cells_agg {cs : List D} : D.cells (.agg cs) = cs := rfl
@[go_sem] theorem cells_v {x : Value} : D.cells (.v x) = [.v x] := rfl
@[go_sem] theorem cells_list {f : Bool} {x : List (List D)} : D.cells (.list f x) = [.list f x] := rfl
@[go_sem] theorem cells_mrow {a b c : Nat} : D.cells (.mrow a b c) = [.mrow a b c] := rfl
@[go_sem] theorem cells_mptr {a b c : Nat} : D.cells (.mptr a b c) = [.mptr a b c] := rfl
@[go_sem] theorem cells_eptr {a : List D} : D.cells (.eptr a) = [.eptr a] := rfl
@[go_sem] theorem cells_fn {f : Fn} {a b : List D} : D.cells (.fn f a b) = [.fn f a b] := rfl
@[go_sem] theorem cells_iface {t : TypeId} {d : D} : D.cells (.iface t d) = [.iface t d] := rfl
@[go_sem] theorem one_int {k : IntKind} {n : Int} : D.one (.v (.int k n)) = true := rfl
@[go_sem] theorem one_bool {b : Bool} : D.one (.v (.bool b)) = true := rfl
@[go_sem] theorem one_string {b : ByteArray} : D.one (.v (.string b)) = true := rfl
@[go_sem] theorem one_nilFunc : D.one (.v .nilFunc) = true := rfl
@[go_sem] theorem one_nilIface : D.one (.v .nilIface) = true := rfl
@[go_sem] theorem one_list {f : Bool} {x : List (List D)} : D.one (.list f x) = true := rfl
@[go_sem] theorem one_mrow {a b c : Nat} : D.one (.mrow a b c) = true := rfl
@[go_sem] theorem one_mptr {a b c : Nat} : D.one (.mptr a b c) = true := rfl
@[go_sem] theorem one_eptr {a : List D} : D.one (.eptr a) = true := rfl
@[go_sem] theorem one_fn {f : Fn} {a b : List D} : D.one (.fn f a b) = true := rfl
@[go_sem] theorem one_iface {t : TypeId} {d : D} : D.one (.iface t d) = true := rfl
@[go_sem] theorem ldc_eptr [Glob P] {cs : List D} {h : H} : ldc P (.eptr cs) h = cs := rfl
@[go_sem] theorem ldc_mptr [Glob P] {r i off : Nat} {h : H} : ldc P (.mptr r i off) h = match h r with | some b => (b.rows.getD i []).drop off | none => [] := rfl
@[go_sem] theorem ldD_eq [Glob P] {t : TypeId} {a : D} {h : H} : ldD P t a h = (mkD P t (ldc P a h), P.cellsOf t ≤ (ldc P a h).length ∧ 0 < P.cellsOf t ∧ (P.underlying t).isSome = true) := rfl
@[go_sem] theorem ldCells_eptr {cs : List D} {h : H} : ldCells (.eptr cs) h = cs := rfl
@[go_sem] theorem ldCells_mptr {r i off : Nat} {h : H} : ldCells (.mptr r i off) h = match h r with | some b => (b.rows.getD i []).drop off | none => [] := rfl
attribute [go_sem] mkD fieldPtr fieldV splice
@[go_sem] theorem ptrAdd_eptr {n : Nat} {cs : List D} : ptrAdd n (.eptr cs) = .eptr (cs.drop n) := rfl
@[go_sem] theorem ptrAdd_mptr {n r i off : Nat} : ptrAdd n (.mptr r i off) = .mptr r i (off + n) := rfl
@[go_sem] theorem ptrAdd_ptr {n x o : Nat} : ptrAdd n (.v (.pointer (some ⟨x, o, none⟩))) = .v (.pointer (some ⟨x, o + n, none⟩)) := by simp only [ptrAdd, add_mk]
@[go_sem] theorem isPtr_ptr {p : Addr} : isPtr (.v (.pointer (some p))) = true := rfl
@[go_sem] theorem isPtr_eptr {cs : List D} : isPtr (.eptr cs) = true := rfl
@[go_sem] theorem isPtr_mptr {r i off : Nat} : isPtr (.mptr r i off) = true := rfl
@[go_sem] theorem stH_mptr [Glob P] {t : TypeId} {r i off : Nat} {x : D} {h : H} : stH P t (.mptr r i off) x h = match h r with
    | some b => (upd h r (some { b with rows := b.rows.set i (splice (b.rows.getD i []) off x.cells) }), x.cells.length = P.cellsOf t ∧ 0 < P.cellsOf t ∧ i < b.rows.length ∧ off + x.cells.length ≤ (b.rows.getD i []).length ∧ x.cells.all D.one = true)
    | none => (h, False) := rfl
@[go_sem] theorem idxPtr_list [Glob P] {t : TypeId} {f : Bool} {rows : List (List D)} {k : IntKind} {n : Int} {h : H} : idxPtr P t (.list f rows) (.v (.int k n)) h = match elemT P t with
    | none => idxArr P t (.list f rows) (.v (.int k n))
    | some e => (.eptr (rows.getD n.toNat []), 0 ≤ n ∧ n < rows.length ∧ 0 < P.cellsOf e ∧ (rows.getD n.toNat []).length = P.cellsOf e) := by unfold idxPtr; cases elemT P t <;> rfl
@[go_sem] theorem idxPtr_mrow [Glob P] {t : TypeId} {r off len : Nat} {k : IntKind} {n : Int} {h : H} : idxPtr P t (.mrow r off len) (.v (.int k n)) h = match elemT P t with
    | none => idxArr P t (.mrow r off len) (.v (.int k n))
    | some e => (.mptr r (off + n.toNat) 0, 0 ≤ n ∧ n < len ∧ 0 < P.cellsOf e ∧ match h r with | some bl => bl.ty = e | none => False) := by unfold idxPtr; cases elemT P t <;> rfl
@[go_sem] theorem idxPtr_ptr [Glob P] {t : TypeId} {p : Option Addr} {k : IntKind} {n : Int} {h : H} : idxPtr P t (.v (.pointer p)) (.v (.int k n)) h = match elemT P t with
    | none => idxArr P t (.v (.pointer p)) (.v (.int k n))
    | some _ => (.junk, False) := by unfold idxPtr; cases elemT P t <;> rfl
@[go_sem] theorem isGp_ptr {p : Addr} : isGp (.v (.pointer (some p))) = true := rfl
@[go_sem] theorem isGp_eptr {cs : List D} : isGp (.eptr cs) = true := rfl
@[go_sem] theorem idxArr_eq [Glob P] {t : TypeId} {x : D} {k : IntKind} {n : Int} : idxArr P t x (.v (.int k n)) = match arrT P t with
    | some (m, e) => (ptrAdd (n.toNat * P.cellsOf e) x, isGp x = true ∧ 0 ≤ n ∧ n < m ∧ 0 < P.cellsOf e)
    | none => (.junk, False) := by unfold idxArr; cases arrT P t <;> rfl
@[go_sem] theorem rowsOf_list {f : Bool} {rows : List (List D)} {h : H} : rowsOf (.list f rows) h = rows := rfl
@[go_sem] theorem rowsOf_mrow {r off len : Nat} {h : H} : rowsOf (.mrow r off len) h = match h r with | some b => (b.rows.drop off).take len | none => [] := rfl
@[go_sem] theorem lenD_list {f : Bool} {rows : List (List D)} : lenD (.list f rows) = rows.length := rfl
@[go_sem] theorem lenD_mrow {r off len : Nat} : lenD (.mrow r off len) = len := rfl
@[go_sem] theorem lenD_string {s : ByteArray} : lenD (.v (.string s)) = s.size := rfl
@[go_sem] theorem lenOk_list [Glob P] {t : TypeId} {f : Bool} {rows : List (List D)} : lenOk P t (.list f rows) = (elemT P t).isSome := rfl
@[go_sem] theorem lenOk_mrow [Glob P] {t : TypeId} {r off len : Nat} : lenOk P t (.mrow r off len) = (elemT P t).isSome := rfl
@[go_sem] theorem lenOk_string [Glob P] {t : TypeId} {s : ByteArray} : lenOk P t (.v (.string s)) = match P.underlying t with | some .string => true | _ => false := rfl
attribute [go_sem] Option.isSome_some
@[go_sem] theorem srcOk_list [Glob P] {t : TypeId} {h : H} {f : Bool} {rows : List (List D)} : srcOk P t h (.list f rows) = (elemT P t).isSome := rfl
@[go_sem] theorem srcOk_mrow [Glob P] {t : TypeId} {h : H} {r off len : Nat} : srcOk P t h (.mrow r off len) = ((elemT P t).isSome && (h r).isSome) := rfl
@[go_sem] theorem srcOk_string [Glob P] {t : TypeId} {h : H} {s : ByteArray} : srcOk P t h (.v (.string s)) = match P.underlying t with | some .string => true | _ => false := rfl
@[go_sem] theorem append_list [Glob P] {t u : TypeId} {rows : List (List D)} {y : D} {h : H} {b : Nat} : appendD P t u (.list true rows) y h b = match elemT P t with
    | none => (.junk, h, False)
    | some e => (.mrow b 0 (rows.length + (rowsOf y h).length), upd h b (some ⟨e, rows ++ rowsOf y h⟩), (0 < P.cellsOf e ∧ (rows.length + (rowsOf y h).length) * P.bytesOf e ≤ 140737488355328 ∧ rows.length + (rowsOf y h).length ≤ 9223372036854775807) ∧
        ((rowsOf y h).length = lenD y ∧ srcOk P u h y = true ∧ zeroLen P e = true ∧ ∀ r ∈ rowsOf y h, r.length = P.cellsOf e) ∧ (rowsOf y h = [] → rows = []) ∧ ∀ r ∈ rows, r.length = P.cellsOf e) := by
  unfold appendD; cases elemT P t <;> rfl
@[go_sem] theorem append_mrow [Glob P] {t u : TypeId} {r n : Nat} {y : D} {h : H} {b : Nat} : appendD P t u (.mrow r 0 n) y h b = match elemT P t with
    | none => (.junk, h, False)
    | some e => match h r with
      | none => (.junk, h, False)
      | some bl => (.mrow b 0 (n + (rowsOf y h).length), upd (upd h r none) b (some ⟨e, bl.rows ++ rowsOf y h⟩), (0 < P.cellsOf e ∧ (n + (rowsOf y h).length) * P.bytesOf e ≤ 140737488355328 ∧ n + (rowsOf y h).length ≤ 9223372036854775807) ∧
        ((rowsOf y h).length = lenD y ∧ srcOk P u h y = true ∧ zeroLen P e = true ∧ ∀ r ∈ rowsOf y h, r.length = P.cellsOf e) ∧ bl.ty = e ∧ bl.rows.length = n ∧ r ≠ b) := by
  unfold appendD; cases elemT P t with
  | none => rfl
  | some e => cases hr : h r with
    | none => simp only [hr]
    | some bl => simp only [lenD, hr]
attribute [go_sem] buildD fillD fillOk buildSliceD bsOwn rowsOk
@[go_sem] theorem binD_v [Glob P] {t : TypeId} {op : BinOp} {a b : Value} : binD P t op (.v a) (.v b) = (.v (binV P t op a b).1, (binV P t op a b).2) := rfl
@[go_sem] theorem binV_lss [Glob P] {t : TypeId} {k k' : IntKind} {a b : Int} : binV P t .lss (.int k a) (.int k' b) = (.bool (decide (a < b)), k = k') := rfl
@[go_sem] theorem binV_leq [Glob P] {t : TypeId} {k k' : IntKind} {a b : Int} : binV P t .leq (.int k a) (.int k' b) = (.bool (decide (a ≤ b)), k = k') := rfl
@[go_sem] theorem binV_gtr [Glob P] {t : TypeId} {k k' : IntKind} {a b : Int} : binV P t .gtr (.int k a) (.int k' b) = (.bool (decide (b < a)), k = k') := rfl
@[go_sem] theorem binV_geq [Glob P] {t : TypeId} {k k' : IntKind} {a b : Int} : binV P t .geq (.int k a) (.int k' b) = (.bool (decide (b ≤ a)), k = k') := rfl
@[go_sem] theorem binV_eql [Glob P] {t : TypeId} {k k' : IntKind} {a b : Int} : binV P t .eql (.int k a) (.int k' b) = (.bool (a == b), k = k') := rfl
@[go_sem] theorem binV_neq [Glob P] {t : TypeId} {k k' : IntKind} {a b : Int} : binV P t .neq (.int k a) (.int k' b) = (.bool (a != b), k = k') := rfl
@[go_sem] theorem binV_add [Glob P] {t : TypeId} {k k' : IntKind} {a b : Int} : binV P t .add (.int k a) (.int k' b) = if k.signed then (.int k (a + b), k = k' ∧ inK k (a + b)) else (.int k (k.wrap (a + b)), k = k') := rfl
@[go_sem] theorem binV_sub [Glob P] {t : TypeId} {k k' : IntKind} {a b : Int} : binV P t .sub (.int k a) (.int k' b) = if k.signed then (.int k (a - b), k = k' ∧ inK k (a - b)) else (.int k (k.wrap (a - b)), k = k') := rfl
@[go_sem] theorem binV_mul [Glob P] {t : TypeId} {k k' : IntKind} {a b : Int} : binV P t .mul (.int k a) (.int k' b) = if k.signed then (.int k (a * b), k = k' ∧ inK k (a * b)) else (.int k (k.wrap (a * b)), k = k') := rfl
@[go_sem] theorem binV_quo [Glob P] {t : TypeId} {k k' : IntKind} {a b : Int} : binV P t .quo (.int k a) (.int k' b) = (.int k (a / b), k = k' ∧ 0 ≤ a ∧ 1 ≤ b ∧ inK k a) := rfl
@[go_sem] theorem binV_rem [Glob P] {t : TypeId} {k k' : IntKind} {a b : Int} : binV P t .rem (.int k a) (.int k' b) = (.int k (a % b), k = k' ∧ 0 ≤ a ∧ 1 ≤ b) := rfl
@[go_sem] theorem binV_eqb [Glob P] {t : TypeId} {a b : Bool} : binV P t .eql (.bool a) (.bool b) = (.bool (a == b), P.underlying t = some .bool) := rfl
@[go_sem] theorem binV_neb [Glob P] {t : TypeId} {a b : Bool} : binV P t .neq (.bool a) (.bool b) = (.bool (a != b), P.underlying t = some .bool) := rfl
@[go_sem] theorem binV_eqs [Glob P] {t : TypeId} {a b : ByteArray} : binV P t .eql (.string a) (.string b) = (.bool (a.data.toList == b.data.toList), True) := rfl
@[go_sem] theorem binV_nes [Glob P] {t : TypeId} {a b : ByteArray} : binV P t .neq (.string a) (.string b) = (.bool (a.data.toList != b.data.toList), True) := rfl
@[go_sem] theorem binV_adds [Glob P] {t : TypeId} {a b : ByteArray} : binV P t .add (.string a) (.string b) = (.string (a ++ b), a.size + b.size ≤ 9223372036854775807) := rfl
@[go_sem] theorem binV_lsss [Glob P] {t : TypeId} {a b : ByteArray} : binV P t .lss (.string a) (.string b) = (.bool (Go.Op.bytesLess a.data.toList b.data.toList), True) := rfl
@[go_sem] theorem binV_leqs [Glob P] {t : TypeId} {a b : ByteArray} : binV P t .leq (.string a) (.string b) = (.bool (Go.Op.bytesLess a.data.toList b.data.toList || a.data.toList == b.data.toList), True) := rfl
@[go_sem] theorem binV_gtrs [Glob P] {t : TypeId} {a b : ByteArray} : binV P t .gtr (.string a) (.string b) = (.bool !(Go.Op.bytesLess a.data.toList b.data.toList || a.data.toList == b.data.toList), True) := rfl
@[go_sem] theorem binV_geqs [Glob P] {t : TypeId} {a b : ByteArray} : binV P t .geq (.string a) (.string b) = (.bool !(Go.Op.bytesLess a.data.toList b.data.toList), True) := rfl
@[go_sem] theorem binV_shl [Glob P] {t : TypeId} {k k' : IntKind} {a b : Int} : binV P t .shl (.int k a) (.int k' b) = (.int k (k.wrap (a * 2 ^ (min b.toNat k.bits))), 0 ≤ b) := rfl
@[go_sem] theorem binV_shr [Glob P] {t : TypeId} {k k' : IntKind} {a b : Int} : binV P t .shr (.int k a) (.int k' b) = (.int k (a.fdiv (2 ^ (min b.toNat k.bits))), 0 ≤ b) := rfl
@[go_sem] theorem binV_or [Glob P] {t : TypeId} {k k' : IntKind} {a b : Int} : binV P t .or (.int k a) (.int k' b) = (.int k (k.wrap (BitVec.ofInt k.bits a ||| BitVec.ofInt k.bits b).toNat), k = k') := rfl
@[go_sem] theorem binD_eq [Glob P] {t : TypeId} {xs ys : List D} : binD P t .eql (.agg xs) (.agg ys) = (.v (.bool (eqCells xs ys)), match eqKinds P t with | some ks => eqPlain ks xs ys = true | none => False) := rfl
@[go_sem] theorem binD_ne [Glob P] {t : TypeId} {xs ys : List D} : binD P t .neq (.agg xs) (.agg ys) = (.v (.bool (!eqCells xs ys)), match eqKinds P t with | some ks => eqPlain ks xs ys = true | none => False) := rfl
attribute [go_sem] eqCells eqPlain
@[go_sem] theorem eqCell_i {k k' : IntKind} {a b : Int} : eqCell (.v (.int k a)) (.v (.int k' b)) = (a == b) := rfl
@[go_sem] theorem eqCell_b {a b : Bool} : eqCell (.v (.bool a)) (.v (.bool b)) = (a == b) := rfl
@[go_sem] theorem eqCell_s {a b : ByteArray} : eqCell (.v (.string a)) (.v (.string b)) = (a.data.toList == b.data.toList) := rfl
@[go_sem] theorem plainAs_i {k k' : IntKind} {a b : Int} : plainAs .i (.v (.int k a)) (.v (.int k' b)) = (k == k') := rfl
@[go_sem] theorem plainAs_b {a b : Bool} : plainAs .b (.v (.bool a)) (.v (.bool b)) = true := rfl
@[go_sem] theorem plainAs_s {a b : ByteArray} : plainAs .s (.v (.string a)) (.v (.string b)) = true := rfl
@[go_sem] theorem signed_i64 : IntKind.i64.signed = true := rfl
@[go_sem] theorem signed_u8 : IntKind.u8.signed = false := rfl
@[go_sem] theorem signed_u16 : IntKind.u16.signed = false := rfl
@[go_sem] theorem signed_u32 : IntKind.u32.signed = false := rfl
@[go_sem] theorem signed_u64 : IntKind.u64.signed = false := rfl
@[go_sem] theorem inK_i64 {n : Int} : inK .i64 n = (-9223372036854775808 ≤ n ∧ n ≤ 9223372036854775807) := by simp [inK, IntKind.min, IntKind.max, IntKind.signed, IntKind.bits]
@[go_sem] theorem unD_not {b : Bool} : unD .not (.v (.bool b)) = (.v (.bool !b), True) := rfl
@[go_sem] theorem unD_neg {k : IntKind} {n : Int} : unD .neg (.v (.int k n)) = (.v (.int k (-n)), inK k (-n)) := rfl
attribute [go_sem] convD
@[go_sem] theorem idxV_s [Glob P] {t : TypeId} {s : ByteArray} {k : IntKind} {n : Int} : idxV P t (.v (.string s)) (.v (.int k n)) = (.v (.int .u8 (s.data.toList.getD n.toNat 0).toNat), 0 ≤ n ∧ n < s.size ∧ P.underlying t = some .string) := rfl
@[go_sem] theorem bnd_none {d : Nat} : bnd none d = d := rfl
@[go_sem] theorem bnd_some {d : Nat} {k : IntKind} {n : Int} : bnd (some (.v (.int k n))) d = n := rfl
@[go_sem] theorem bndOk_none : bndOk none = true := rfl
@[go_sem] theorem bndOk_some {k : IntKind} {n : Int} : bndOk (some (.v (.int k n))) = true := rfl
attribute [go_sem] Option.toList_some Option.toList_none optAt sliceD
attribute [go_sem] derefW
@[go_sem] theorem wk_v {x : Value} : wk (.v x) = .v x := rfl
@[go_sem] theorem wk_agg {cs : List D} : wk (.agg cs) = .agg (wks cs) := rfl
@[go_sem] theorem wk_list {f : Bool} {rows : List (List D)} : wk (.list f rows) = .list false (wkr rows) := rfl
@[go_sem] theorem wk_eptr {cs : List D} : wk (.eptr cs) = .eptr (wks cs) := rfl
@[go_sem] theorem wk_tuple {cs : List D} : wk (.tuple cs) = .tuple (wks cs) := rfl
@[go_sem] theorem wk_mrow {a b c : Nat} : wk (.mrow a b c) = .mrow a b c := rfl
@[go_sem] theorem wk_mptr {a b c : Nat} : wk (.mptr a b c) = .mptr a b c := rfl
@[go_sem] theorem wk_fn {f : Fn} {a b : List D} : wk (.fn f a b) = .fn f a b := rfl
@[go_sem] theorem wk_iface {t : TypeId} {d : D} : wk (.iface t d) = .iface t (wk d) := rfl
@[go_sem] theorem wk_fmap {kv : List D} : wk (.fmap kv) = .fmap (wks kv) := rfl
@[go_sem] theorem deref_fmap {kv : List D} {h : H} : deref h (.fmap kv) = .fmap kv := rfl
@[go_sem] theorem deref1_fmap {kv : List D} {h : H} : deref1 h (.fmap kv) = .fmap kv := rfl
@[go_sem] theorem deref0_fmap {kv : List D} {h : H} : deref0 h (.fmap kv) = .fmap kv := rfl
@[go_sem] theorem isMrow_fmap {kv : List D} : isMrow (.fmap kv) = false := rfl
@[go_sem] theorem isRef_fmap {kv : List D} : isRef (.fmap kv) = false := rfl
@[go_sem] theorem derefOk_fmap {kv : List D} {h : H} : derefOk h (.fmap kv) = True := rfl
@[go_sem] theorem derefOk1_fmap {kv : List D} {h : H} : derefOk1 h (.fmap kv) = True := rfl
@[go_sem] theorem derefOk0_fmap {kv : List D} {h : H} : derefOk0 h (.fmap kv) = True := rfl
@[go_sem] theorem snap_fmap {h : H} {k : Nat} {x : List D} : snap h k (.fmap x) = .fmap x := by cases k <;> rfl
@[go_sem] theorem snapOk_fmap {h : H} {k : Nat} {x : List D} : snapOk h k (.fmap x) = (nrs x = true) := by cases k <;> rfl
attribute [go_sem] wks wkr
@[go_sem] theorem deref_list {f : Bool} {rows : List (List D)} {h : H} : deref h (.list f rows) = .list f rows := rfl
@[go_sem] theorem deref_v {x : Value} {h : H} : deref h (.v x) = .v x := rfl
@[go_sem] theorem deref_agg {x : List D} {h : H} : deref h (.agg x) = .agg x := rfl
@[go_sem] theorem deref_fn {f : Fn} {a b : List D} {h : H} : deref h (.fn f a b) = .fn f (a.map (deref1 h)) (b.map (deref1 h)) := rfl
@[go_sem] theorem deref_mptr {a b c : Nat} {h : H} : deref h (.mptr a b c) = .eptr ((ldCells (.mptr a b c) h).map (deref0 h)) := rfl
@[go_sem] theorem deref1_mptr {a b c : Nat} {h : H} : deref1 h (.mptr a b c) = .eptr ((ldCells (.mptr a b c) h).map (deref0 h)) := rfl
@[go_sem] theorem deref1_mrow {a b c : Nat} {h : H} : deref1 h (.mrow a b c) = .list false (rowsOf (.mrow a b c) h) := rfl
@[go_sem] theorem deref0_mrow {a b c : Nat} {h : H} : deref0 h (.mrow a b c) = .list false (rowsOf (.mrow a b c) h) := rfl
@[go_sem] theorem deref1_v {x : Value} {h : H} : deref1 h (.v x) = .v x := rfl
@[go_sem] theorem deref1_list {f : Bool} {rows : List (List D)} {h : H} : deref1 h (.list f rows) = .list f rows := rfl
@[go_sem] theorem deref1_eptr {x : List D} {h : H} : deref1 h (.eptr x) = .eptr x := rfl
@[go_sem] theorem deref1_fn {f : Fn} {a b : List D} {h : H} : deref1 h (.fn f a b) = .fn f a b := rfl
@[go_sem] theorem deref0_v {x : Value} {h : H} : deref0 h (.v x) = .v x := rfl
@[go_sem] theorem deref0_list {f : Bool} {rows : List (List D)} {h : H} : deref0 h (.list f rows) = .list f rows := rfl
@[go_sem] theorem deref0_fn {f : Fn} {a b : List D} {h : H} : deref0 h (.fn f a b) = .fn f a b := rfl
@[go_sem] theorem deref_eptr {x : List D} {h : H} : deref h (.eptr x) = .eptr x := rfl
@[go_sem] theorem isMrow_eptr {x : List D} : isMrow (.eptr x) = false := rfl
@[go_sem] theorem derefOk_eptr {x : List D} {h : H} : derefOk h (.eptr x) = True := rfl
@[go_sem] theorem deref_mrow {a b c : Nat} {h : H} : deref h (.mrow a b c) = .list false (rowsOf (.mrow a b c) h) := rfl
@[go_sem] theorem isMrow_list {f : Bool} {rows : List (List D)} : isMrow (.list f rows) = false := rfl
@[go_sem] theorem isMrow_v {x : Value} : isMrow (.v x) = false := rfl
@[go_sem] theorem isMrow_agg {x : List D} : isMrow (.agg x) = false := rfl
@[go_sem] theorem isMrow_fn {f : Fn} {a b : List D} : isMrow (.fn f a b) = (a.any isRef || b.any isRef) := rfl
@[go_sem] theorem isMrow_mptr {a b c : Nat} : isMrow (.mptr a b c) = true := rfl
@[go_sem] theorem isRef_mptr {a b c : Nat} : isRef (.mptr a b c) = true := rfl
@[go_sem] theorem isRef_mrow {a b c : Nat} : isRef (.mrow a b c) = true := rfl
@[go_sem] theorem isRef_v {x : Value} : isRef (.v x) = false := rfl
@[go_sem] theorem isRef_list {f : Bool} {rows : List (List D)} : isRef (.list f rows) = false := rfl
@[go_sem] theorem isRef_eptr {x : List D} : isRef (.eptr x) = false := rfl
@[go_sem] theorem isRef_fn {f : Fn} {a b : List D} : isRef (.fn f a b) = false := rfl
@[go_sem] theorem isMrow_mrow {a b c : Nat} : isMrow (.mrow a b c) = true := rfl
@[go_sem] theorem derefOk_list {f : Bool} {rows : List (List D)} {h : H} : derefOk h (.list f rows) = True := rfl
@[go_sem] theorem derefOk_v {x : Value} {h : H} : derefOk h (.v x) = True := rfl
@[go_sem] theorem derefOk_agg {x : List D} {h : H} : derefOk h (.agg x) = True := rfl
@[go_sem] theorem derefOk_fn {f : Fn} {a b : List D} {h : H} : derefOk h (.fn f a b) = ((∀ c ∈ a, derefOk1 h c) ∧ ∀ c ∈ b, derefOk1 h c) := rfl
@[go_sem] theorem derefOk_mptr {r i off : Nat} {h : H} : derefOk h (.mptr r i off) = ((h r).isSome = true ∧ ∀ c ∈ ldCells (.mptr r i off) h, derefOk0 h c) := rfl
@[go_sem] theorem derefOk1_mptr {r i off : Nat} {h : H} : derefOk1 h (.mptr r i off) = ((h r).isSome = true ∧ ∀ c ∈ ldCells (.mptr r i off) h, derefOk0 h c) := rfl
@[go_sem] theorem derefOk1_mrow {r off len : Nat} {h : H} : derefOk1 h (.mrow r off len) = ((h r).isSome = true ∧ (rowsOf (.mrow r off len) h).length = len) := rfl
@[go_sem] theorem derefOk0_mrow {r off len : Nat} {h : H} : derefOk0 h (.mrow r off len) = ((h r).isSome = true ∧ (rowsOf (.mrow r off len) h).length = len) := rfl
@[go_sem] theorem derefOk1_v {x : Value} {h : H} : derefOk1 h (.v x) = True := rfl
@[go_sem] theorem derefOk1_list {f : Bool} {rows : List (List D)} {h : H} : derefOk1 h (.list f rows) = True := rfl
@[go_sem] theorem derefOk1_eptr {x : List D} {h : H} : derefOk1 h (.eptr x) = True := rfl
@[go_sem] theorem derefOk1_fn {f : Fn} {a b : List D} {h : H} : derefOk1 h (.fn f a b) = True := rfl
@[go_sem] theorem derefOk0_v {x : Value} {h : H} : derefOk0 h (.v x) = True := rfl
@[go_sem] theorem derefOk0_list {f : Bool} {rows : List (List D)} {h : H} : derefOk0 h (.list f rows) = True := rfl
@[go_sem] theorem derefOk0_fn {f : Fn} {a b : List D} {h : H} : derefOk0 h (.fn f a b) = True := rfl
@[go_sem] theorem derefOk_mrow {r off len : Nat} {h : H} : derefOk h (.mrow r off len) = ((h r).isSome = true ∧ (rowsOf (.mrow r off len) h).length = len) := rfl
attribute [go_sem] List.any_cons List.any_nil Bool.or_false Bool.or_true Bool.false_or Bool.true_or
@[go_sem] theorem call_func {k : FuncId} {d : D} {ys : List D} {h : H} {b : Nat} : callD W C (.func k) (d :: ys) h b = if C.pure k then
      (if C.cf then (C.pf k (ys.map wk), h, W.pureCt k (ys.map wk) (C.pf k (ys.map wk)) ∧ ys.any isMrow = false)
      else (C.pf k (ys.map (derefW h)), h, W.pureCt k (ys.map (derefW h)) (C.pf k (ys.map (derefW h))) ∧ (ys.any isMrow = true → flat (C.pf k (ys.map (derefW h))) = true ∧ ∀ y ∈ ys, derefOk h y)))
    else (.junk, h, False) := rfl
@[go_sem] theorem call_tmp {k : FuncId} {t : Tmp} {first caps ys : List D} {h : H} {b : Nat} : callD W C (.tmp t) (.fn (.func k) first caps :: ys) h b = if C.pure k then
      (if C.cf then (C.pf k ((first ++ ys ++ caps).map wk), h, W.pureCt k ((first ++ ys ++ caps).map wk) (C.pf k ((first ++ ys ++ caps).map wk)) ∧ (first ++ ys ++ caps).any isMrow = false)
      else (C.pf k ((first ++ ys ++ caps).map (derefW h)), h, W.pureCt k ((first ++ ys ++ caps).map (derefW h)) (C.pf k ((first ++ ys ++ caps).map (derefW h))) ∧ ((first ++ ys ++ caps).any isMrow = true → flat (C.pf k ((first ++ ys ++ caps).map (derefW h))) = true ∧ ∀ y ∈ first ++ ys ++ caps, derefOk h y)))
    else (.junk, h, False) := rfl
@[go_sem] theorem words_pure [Glob P] {k : FuncId} {xs : List D} {r : D} : (words P).pureCt k xs r = PureCt P k xs r := rfl
@[go_sem] theorem words_ct [Glob P] {k : FuncId} {xs : List D} {h h' : H} {b : Nat} {r : D} : (words P).ct k xs h b r h' = Ct P k xs h b r h' := rfl
@[go_sem] theorem flat_v {x : Value} : flat (.v x) = true := rfl

/-! ### leaving -/
attribute [go_sem] resOk resOneOk resOne resD
attribute [go_sem] List.forall_mem_cons List.not_mem_nil false_implies forall_const
@[go_sem] theorem snap_v {h : H} {k : Nat} {x : Value} : snap h k (.v x) = .v x := by cases k <;> rfl
@[go_sem] theorem snap_list {h : H} {k : Nat} {f : Bool} {x : List (List D)} : snap h k (.list f x) = .list f x := by cases k <;> rfl
@[go_sem] theorem snap_mrow {h : H} {k : Nat} {r off len : Nat} : snap h (k + 1) (.mrow r off len) = .list false ((rowsOf (.mrow r off len) h).map fun row => row.map (snap h k)) := rfl
@[go_sem] theorem snap_agg {h : H} {k : Nat} {cs : List D} : snap h (k + 1) (.agg cs) = .agg (cs.map (snap h k)) := rfl
@[go_sem] theorem snap_tuple {h : H} {k : Nat} {cs : List D} : snap h (k + 1) (.tuple cs) = .tuple (cs.map (snap h k)) := rfl
@[go_sem] theorem snapOk_v {h : H} {k : Nat} {x : Value} : snapOk h k (.v x) = True := by cases k <;> simp [snapOk, D.nr]
@[go_sem] theorem snapOk_list {h : H} {k : Nat} {f : Bool} {x : List (List D)} : snapOk h k (.list f x) = (nrr x = true) := by cases k <;> rfl
@[go_sem] theorem snapOk_mrow {h : H} {k : Nat} {r off len : Nat} : snapOk h (k + 1) (.mrow r off len) = (derefOk h (.mrow r off len) ∧ ∀ row ∈ rowsOf (.mrow r off len) h, ∀ c ∈ row, snapOk h k c) := rfl
@[go_sem] theorem snapOk_agg {h : H} {k : Nat} {cs : List D} : snapOk h (k + 1) (.agg cs) = ∀ c ∈ cs, snapOk h k c := rfl
@[go_sem] theorem snapOk_tuple {h : H} {k : Nat} {cs : List D} : snapOk h (k + 1) (.tuple cs) = ∀ c ∈ cs, snapOk h k c := rfl
@[go_sem] theorem snap_mptr {h : H} {k : Nat} {r i off : Nat} : snap h (k + 1) (.mptr r i off) = .eptr ((ldCells (.mptr r i off) h).map (snap h k)) := rfl
@[go_sem] theorem snap_fn {h : H} {k : Nat} {f : Fn} {a b : List D} : snap h (k + 1) (.fn f a b) = .fn f (a.map (snap h k)) (b.map (snap h k)) := rfl
@[go_sem] theorem snapOk_mptr {h : H} {k : Nat} {r i off : Nat} : snapOk h (k + 1) (.mptr r i off) = ((h r).isSome = true ∧ ∀ c ∈ ldCells (.mptr r i off) h, snapOk h k c) := rfl
@[go_sem] theorem snapOk_fn {h : H} {k : Nat} {f : Fn} {a b : List D} : snapOk h (k + 1) (.fn f a b) = ((∀ c ∈ a, snapOk h k c) ∧ ∀ c ∈ b, snapOk h k c) := rfl
theorem snap_rows0 {h : H} (rows : List (List D)) : (rows.map fun row => row.map (snap h 0)) = rows := by
  have : (fun row : List D => row.map (snap h 0)) = id := by funext row; exact List.map_id row
  rw [this]; exact List.map_id rows
theorem snapOk_rows0 {h : H} {rows : List (List D)} (hn : nrr rows = true) : ∀ row ∈ rows, ∀ c ∈ row, snapOk h 0 c := fun _ h1 _ h2 => nrs_mem (nrr_mem hn h1) h2

/-! ### walks -/
theorem dw_region_eq [Glob P] {ro : Option Nat} {Q : Exit → S → Prop} {s s' : S} {id : Nat} {ops : Array Oper} {draw : Bool} (he : exec P (words P) C ops.toList s = s') (hd : draw = true → P.follows .mixedOrders = true ∧ commOk C ops.toList = true ∧ backOk ops.toList = true) (hok : s'.ok) (hq : Q .normal s'.clear) : DW P ro (.region id ops draw) Q s :=
  dw_region (C := C) hd (by rw [he]; exact hok) (by rw [he]; exact hq)
end Go.DL
/-
  MADE BY A PROGRAM OF MINE: closed facts on the types of the translation. Conditions: none.
-/
namespace Go.Proofs.YtipkfnkmdeopeaaGreatDoor
open Go.DL
def rulesTab : List Value := [.int .i64 0, .int .i64 0, .int .i64 0, .int .i64 0, .int .i64 0, .bool false, .bool false, .bool false, .int .i64 0, .int .i64 1, .int .i64 1000000, .int .i64 0, .int .i64 0, .bool false, .bool false, .bool true, .int .i64 1, .int .i64 0, .int .i64 0, .int .i64 0, .int .i64 0, .bool false, .bool false, .bool false, .int .i64 1, .int .i64 0, .int .i64 0, .int .i64 0, .int .i64 0, .bool false, .bool true, .bool false, .int .i64 0, .int .i64 0, .int .i64 65535, .int .i64 0, .int .i64 100000, .bool false, .bool true, .bool false, .int .i64 3, .int .i64 0, .int .i64 0, .int .i64 0, .int .i64 0, .bool false, .bool false, .bool true, .int .i64 0, .int .i64 1, .int .i64 1000000, .int .i64 1, .int .i64 3, .bool false, .bool false, .bool false, .int .i64 0, .int .i64 1, .int .i64 1000000, .int .i64 1, .int .i64 3, .bool false, .bool false, .bool false, .int .i64 2, .int .i64 2, .int .i64 510, .int .i64 0, .int .i64 0, .bool true, .bool false, .bool true]
instance : Glob Tryz.prog := ⟨fun x => match x with | 0 => some rulesTab | _ => none⟩
theorem mix : Tryz.prog.follows .mixedOrders = true := by kernel_rfl
/- func() -/
@[go_sem] theorem ag1 : aggB Tryz.prog 1 = false := by kernel_rfl
@[go_sem] theorem ce1 : Tryz.prog.cellsOf 1 = 1 := by kernel_rfl
@[go_sem] theorem by1 : Tryz.prog.bytesOf 1 = 8 := by kernel_rfl
@[go_sem] theorem ze1 : zeroCells Tryz.prog 1 = [.v .nilFunc] := by kernel_rfl
@[go_sem] theorem zl1 : zeroLen Tryz.prog 1 = true := by kernel_rfl
@[go_sem] theorem un1 : (Tryz.prog.underlying 1).isSome = true := by kernel_rfl
/- int64 -/
@[go_sem] theorem ag2 : aggB Tryz.prog 2 = false := by kernel_rfl
@[go_sem] theorem ce2 : Tryz.prog.cellsOf 2 = 1 := by kernel_rfl
@[go_sem] theorem by2 : Tryz.prog.bytesOf 2 = 8 := by kernel_rfl
@[go_sem] theorem ze2 : zeroCells Tryz.prog 2 = [.v (.int .i64 0)] := by kernel_rfl
@[go_sem] theorem zl2 : zeroLen Tryz.prog 2 = true := by kernel_rfl
@[go_sem] theorem un2 : Tryz.prog.underlying 2 = some (.int .i64) := by kernel_rfl
/- int -/
@[go_sem] theorem ag3 : aggB Tryz.prog 3 = false := by kernel_rfl
@[go_sem] theorem ce3 : Tryz.prog.cellsOf 3 = 1 := by kernel_rfl
@[go_sem] theorem by3 : Tryz.prog.bytesOf 3 = 8 := by kernel_rfl
@[go_sem] theorem ze3 : zeroCells Tryz.prog 3 = [.v (.int .i64 0)] := by kernel_rfl
@[go_sem] theorem zl3 : zeroLen Tryz.prog 3 = true := by kernel_rfl
@[go_sem] theorem un3 : Tryz.prog.underlying 3 = some (.int .i64) := by kernel_rfl
/- bool -/
@[go_sem] theorem ag4 : aggB Tryz.prog 4 = false := by kernel_rfl
@[go_sem] theorem ce4 : Tryz.prog.cellsOf 4 = 1 := by kernel_rfl
@[go_sem] theorem by4 : Tryz.prog.bytesOf 4 = 1 := by kernel_rfl
@[go_sem] theorem ze4 : zeroCells Tryz.prog 4 = [.v (.bool false)] := by kernel_rfl
@[go_sem] theorem zl4 : zeroLen Tryz.prog 4 = true := by kernel_rfl
@[go_sem] theorem un4 : Tryz.prog.underlying 4 = some .bool := by kernel_rfl
/- uint8 -/
@[go_sem] theorem ag5 : aggB Tryz.prog 5 = false := by kernel_rfl
@[go_sem] theorem ce5 : Tryz.prog.cellsOf 5 = 1 := by kernel_rfl
@[go_sem] theorem by5 : Tryz.prog.bytesOf 5 = 1 := by kernel_rfl
@[go_sem] theorem ze5 : zeroCells Tryz.prog 5 = [.v (.int .u8 0)] := by kernel_rfl
@[go_sem] theorem zl5 : zeroLen Tryz.prog 5 = true := by kernel_rfl
@[go_sem] theorem un5 : Tryz.prog.underlying 5 = some (.int .u8) := by kernel_rfl
/- string -/
@[go_sem] theorem ag9 : aggB Tryz.prog 9 = false := by kernel_rfl
@[go_sem] theorem ce9 : Tryz.prog.cellsOf 9 = 1 := by kernel_rfl
@[go_sem] theorem by9 : Tryz.prog.bytesOf 9 = 16 := by kernel_rfl
@[go_sem] theorem ze9 : zeroCells Tryz.prog 9 = [.v (.string ⟨⟨[]⟩⟩)] := by kernel_rfl
@[go_sem] theorem zl9 : zeroLen Tryz.prog 9 = true := by kernel_rfl
@[go_sem] theorem un9 : Tryz.prog.underlying 9 = some .string := by kernel_rfl
/- uintptr -/
@[go_sem] theorem ag12 : aggB Tryz.prog 12 = false := by kernel_rfl
@[go_sem] theorem ce12 : Tryz.prog.cellsOf 12 = 1 := by kernel_rfl
@[go_sem] theorem by12 : Tryz.prog.bytesOf 12 = 8 := by kernel_rfl
@[go_sem] theorem ze12 : zeroCells Tryz.prog 12 = [.v (.int .u64 0)] := by kernel_rfl
@[go_sem] theorem zl12 : zeroLen Tryz.prog 12 = true := by kernel_rfl
@[go_sem] theorem un12 : Tryz.prog.underlying 12 = some (.int .u64) := by kernel_rfl
/- struct { msg string; addr uintptr } -/
@[go_sem] theorem ag13 : aggB Tryz.prog 13 = true := by kernel_rfl
@[go_sem] theorem ce13 : Tryz.prog.cellsOf 13 = 2 := by kernel_rfl
@[go_sem] theorem by13 : Tryz.prog.bytesOf 13 = 24 := by kernel_rfl
@[go_sem] theorem ze13 : zeroCells Tryz.prog 13 = [.v (.string ⟨⟨[]⟩⟩), .v (.int .u64 0)] := by kernel_rfl
@[go_sem] theorem zl13 : zeroLen Tryz.prog 13 = true := by kernel_rfl
@[go_sem] theorem un13 : (Tryz.prog.underlying 13).isSome = true := by kernel_rfl
@[go_sem] theorem fl13_0 : fld Tryz.prog 13 0 = some (0, 9) := by kernel_rfl
@[go_sem] theorem fl13_1 : fld Tryz.prog 13 1 = some (1, 12) := by kernel_rfl
@[go_sem] theorem sb13 : structB Tryz.prog 13 = true := by kernel_rfl
/- interface {} -/
@[go_sem] theorem ag20 : aggB Tryz.prog 20 = false := by kernel_rfl
@[go_sem] theorem ce20 : Tryz.prog.cellsOf 20 = 1 := by kernel_rfl
@[go_sem] theorem by20 : Tryz.prog.bytesOf 20 = 16 := by kernel_rfl
@[go_sem] theorem ze20 : zeroCells Tryz.prog 20 = [.v .nilIface] := by kernel_rfl
@[go_sem] theorem zl20 : zeroLen Tryz.prog 20 = true := by kernel_rfl
@[go_sem] theorem un20 : (Tryz.prog.underlying 20).isSome = true := by kernel_rfl
/- int32 -/
@[go_sem] theorem ag21 : aggB Tryz.prog 21 = false := by kernel_rfl
@[go_sem] theorem ce21 : Tryz.prog.cellsOf 21 = 1 := by kernel_rfl
@[go_sem] theorem by21 : Tryz.prog.bytesOf 21 = 4 := by kernel_rfl
@[go_sem] theorem ze21 : zeroCells Tryz.prog 21 = [.v (.int .i32 0)] := by kernel_rfl
@[go_sem] theorem zl21 : zeroLen Tryz.prog 21 = true := by kernel_rfl
@[go_sem] theorem un21 : Tryz.prog.underlying 21 = some (.int .i32) := by kernel_rfl
/- []api.Signed -/
@[go_sem] theorem ag22 : aggB Tryz.prog 22 = false := by kernel_rfl
@[go_sem] theorem ce22 : Tryz.prog.cellsOf 22 = 1 := by kernel_rfl
@[go_sem] theorem by22 : Tryz.prog.bytesOf 22 = 24 := by kernel_rfl
@[go_sem] theorem ze22 : zeroCells Tryz.prog 22 = [.list true []] := by kernel_rfl
@[go_sem] theorem zl22 : zeroLen Tryz.prog 22 = true := by kernel_rfl
@[go_sem] theorem un22 : (Tryz.prog.underlying 22).isSome = true := by kernel_rfl
@[go_sem] theorem el22 : elemT Tryz.prog 22 = some 86 := by kernel_rfl
/- struct { Apex string; Sets []api.Signed } -/
@[go_sem] theorem ag23 : aggB Tryz.prog 23 = true := by kernel_rfl
@[go_sem] theorem ce23 : Tryz.prog.cellsOf 23 = 2 := by kernel_rfl
@[go_sem] theorem by23 : Tryz.prog.bytesOf 23 = 40 := by kernel_rfl
@[go_sem] theorem ze23 : zeroCells Tryz.prog 23 = [.v (.string ⟨⟨[]⟩⟩), .list true []] := by kernel_rfl
@[go_sem] theorem zl23 : zeroLen Tryz.prog 23 = true := by kernel_rfl
@[go_sem] theorem un23 : (Tryz.prog.underlying 23).isSome = true := by kernel_rfl
@[go_sem] theorem fl23_0 : fld Tryz.prog 23 0 = some (0, 9) := by kernel_rfl
@[go_sem] theorem fl23_1 : fld Tryz.prog 23 1 = some (1, 22) := by kernel_rfl
@[go_sem] theorem sb23 : structB Tryz.prog 23 = true := by kernel_rfl
/- api.Zone -/
@[go_sem] theorem ag24 : aggB Tryz.prog 24 = true := by kernel_rfl
@[go_sem] theorem ce24 : Tryz.prog.cellsOf 24 = 2 := by kernel_rfl
@[go_sem] theorem by24 : Tryz.prog.bytesOf 24 = 40 := by kernel_rfl
@[go_sem] theorem ze24 : zeroCells Tryz.prog 24 = [.v (.string ⟨⟨[]⟩⟩), .list true []] := by kernel_rfl
@[go_sem] theorem zl24 : zeroLen Tryz.prog 24 = true := by kernel_rfl
@[go_sem] theorem un24 : (Tryz.prog.underlying 24).isSome = true := by kernel_rfl
@[go_sem] theorem fl24_0 : fld Tryz.prog 24 0 = some (0, 9) := by kernel_rfl
@[go_sem] theorem fl24_1 : fld Tryz.prog 24 1 = some (1, 22) := by kernel_rfl
@[go_sem] theorem sb24 : structB Tryz.prog 24 = true := by kernel_rfl
/- struct { Has bool; Zone api.Zone; Seen int } -/
@[go_sem] theorem ag25 : aggB Tryz.prog 25 = true := by kernel_rfl
@[go_sem] theorem ce25 : Tryz.prog.cellsOf 25 = 4 := by kernel_rfl
@[go_sem] theorem by25 : Tryz.prog.bytesOf 25 = 56 := by kernel_rfl
@[go_sem] theorem ze25 : zeroCells Tryz.prog 25 = [.v (.bool false), .v (.string ⟨⟨[]⟩⟩), .list true [], .v (.int .i64 0)] := by kernel_rfl
@[go_sem] theorem zl25 : zeroLen Tryz.prog 25 = true := by kernel_rfl
@[go_sem] theorem un25 : (Tryz.prog.underlying 25).isSome = true := by kernel_rfl
@[go_sem] theorem fl25_0 : fld Tryz.prog 25 0 = some (0, 4) := by kernel_rfl
@[go_sem] theorem fl25_1 : fld Tryz.prog 25 1 = some (1, 24) := by kernel_rfl
@[go_sem] theorem fl25_2 : fld Tryz.prog 25 2 = some (3, 3) := by kernel_rfl
@[go_sem] theorem sb25 : structB Tryz.prog 25 = true := by kernel_rfl
/- api.Secondary -/
@[go_sem] theorem ag26 : aggB Tryz.prog 26 = true := by kernel_rfl
@[go_sem] theorem ce26 : Tryz.prog.cellsOf 26 = 4 := by kernel_rfl
@[go_sem] theorem by26 : Tryz.prog.bytesOf 26 = 56 := by kernel_rfl
@[go_sem] theorem ze26 : zeroCells Tryz.prog 26 = [.v (.bool false), .v (.string ⟨⟨[]⟩⟩), .list true [], .v (.int .i64 0)] := by kernel_rfl
@[go_sem] theorem zl26 : zeroLen Tryz.prog 26 = true := by kernel_rfl
@[go_sem] theorem un26 : (Tryz.prog.underlying 26).isSome = true := by kernel_rfl
@[go_sem] theorem fl26_0 : fld Tryz.prog 26 0 = some (0, 4) := by kernel_rfl
@[go_sem] theorem fl26_1 : fld Tryz.prog 26 1 = some (1, 24) := by kernel_rfl
@[go_sem] theorem fl26_2 : fld Tryz.prog 26 2 = some (3, 3) := by kernel_rfl
@[go_sem] theorem sb26 : structB Tryz.prog 26 = true := by kernel_rfl
/- []api.Zone -/
@[go_sem] theorem ag27 : aggB Tryz.prog 27 = false := by kernel_rfl
@[go_sem] theorem ce27 : Tryz.prog.cellsOf 27 = 1 := by kernel_rfl
@[go_sem] theorem by27 : Tryz.prog.bytesOf 27 = 24 := by kernel_rfl
@[go_sem] theorem ze27 : zeroCells Tryz.prog 27 = [.list true []] := by kernel_rfl
@[go_sem] theorem zl27 : zeroLen Tryz.prog 27 = true := by kernel_rfl
@[go_sem] theorem un27 : (Tryz.prog.underlying 27).isSome = true := by kernel_rfl
@[go_sem] theorem el27 : elemT Tryz.prog 27 = some 24 := by kernel_rfl
/- []api.Delta -/
@[go_sem] theorem ag28 : aggB Tryz.prog 28 = false := by kernel_rfl
@[go_sem] theorem ce28 : Tryz.prog.cellsOf 28 = 1 := by kernel_rfl
@[go_sem] theorem by28 : Tryz.prog.bytesOf 28 = 24 := by kernel_rfl
@[go_sem] theorem ze28 : zeroCells Tryz.prog 28 = [.list true []] := by kernel_rfl
@[go_sem] theorem zl28 : zeroLen Tryz.prog 28 = true := by kernel_rfl
@[go_sem] theorem un28 : (Tryz.prog.underlying 28).isSome = true := by kernel_rfl
@[go_sem] theorem el28 : elemT Tryz.prog 28 = some 65 := by kernel_rfl
/- struct { Full bool; Zone api.Zone; Deltas []api.Delta } -/
@[go_sem] theorem ag29 : aggB Tryz.prog 29 = true := by kernel_rfl
@[go_sem] theorem ce29 : Tryz.prog.cellsOf 29 = 4 := by kernel_rfl
@[go_sem] theorem by29 : Tryz.prog.bytesOf 29 = 72 := by kernel_rfl
@[go_sem] theorem ze29 : zeroCells Tryz.prog 29 = [.v (.bool false), .v (.string ⟨⟨[]⟩⟩), .list true [], .list true []] := by kernel_rfl
@[go_sem] theorem zl29 : zeroLen Tryz.prog 29 = true := by kernel_rfl
@[go_sem] theorem un29 : (Tryz.prog.underlying 29).isSome = true := by kernel_rfl
@[go_sem] theorem fl29_0 : fld Tryz.prog 29 0 = some (0, 4) := by kernel_rfl
@[go_sem] theorem fl29_1 : fld Tryz.prog 29 1 = some (1, 24) := by kernel_rfl
@[go_sem] theorem fl29_2 : fld Tryz.prog 29 2 = some (3, 28) := by kernel_rfl
@[go_sem] theorem sb29 : structB Tryz.prog 29 = true := by kernel_rfl
/- api.Offer -/
@[go_sem] theorem ag30 : aggB Tryz.prog 30 = true := by kernel_rfl
@[go_sem] theorem ce30 : Tryz.prog.cellsOf 30 = 4 := by kernel_rfl
@[go_sem] theorem by30 : Tryz.prog.bytesOf 30 = 72 := by kernel_rfl
@[go_sem] theorem ze30 : zeroCells Tryz.prog 30 = [.v (.bool false), .v (.string ⟨⟨[]⟩⟩), .list true [], .list true []] := by kernel_rfl
@[go_sem] theorem zl30 : zeroLen Tryz.prog 30 = true := by kernel_rfl
@[go_sem] theorem un30 : (Tryz.prog.underlying 30).isSome = true := by kernel_rfl
@[go_sem] theorem fl30_0 : fld Tryz.prog 30 0 = some (0, 4) := by kernel_rfl
@[go_sem] theorem fl30_1 : fld Tryz.prog 30 1 = some (1, 24) := by kernel_rfl
@[go_sem] theorem fl30_2 : fld Tryz.prog 30 2 = some (3, 28) := by kernel_rfl
@[go_sem] theorem sb30 : structB Tryz.prog 30 = true := by kernel_rfl
/- func() bool -/
@[go_sem] theorem ag31 : aggB Tryz.prog 31 = false := by kernel_rfl
@[go_sem] theorem ce31 : Tryz.prog.cellsOf 31 = 1 := by kernel_rfl
@[go_sem] theorem by31 : Tryz.prog.bytesOf 31 = 8 := by kernel_rfl
@[go_sem] theorem ze31 : zeroCells Tryz.prog 31 = [.v .nilFunc] := by kernel_rfl
@[go_sem] theorem zl31 : zeroLen Tryz.prog 31 = true := by kernel_rfl
@[go_sem] theorem un31 : (Tryz.prog.underlying 31).isSome = true := by kernel_rfl
/- func(api.Secondary, []api.Zone, api.Offer) bool -/
@[go_sem] theorem ag32 : aggB Tryz.prog 32 = false := by kernel_rfl
@[go_sem] theorem ce32 : Tryz.prog.cellsOf 32 = 1 := by kernel_rfl
@[go_sem] theorem by32 : Tryz.prog.bytesOf 32 = 8 := by kernel_rfl
@[go_sem] theorem ze32 : zeroCells Tryz.prog 32 = [.v .nilFunc] := by kernel_rfl
@[go_sem] theorem zl32 : zeroLen Tryz.prog 32 = true := by kernel_rfl
@[go_sem] theorem un32 : (Tryz.prog.underlying 32).isSome = true := by kernel_rfl
/- api.Errno -/
@[go_sem] theorem ag33 : aggB Tryz.prog 33 = false := by kernel_rfl
@[go_sem] theorem ce33 : Tryz.prog.cellsOf 33 = 1 := by kernel_rfl
@[go_sem] theorem by33 : Tryz.prog.bytesOf 33 = 8 := by kernel_rfl
@[go_sem] theorem ze33 : zeroCells Tryz.prog 33 = [.v (.int .i64 0)] := by kernel_rfl
@[go_sem] theorem zl33 : zeroLen Tryz.prog 33 = true := by kernel_rfl
@[go_sem] theorem un33 : Tryz.prog.underlying 33 = some (.int .i64) := by kernel_rfl
/- func([]api.Zone, bool, int) (api.Offer, api.Errno) -/
@[go_sem] theorem ag35 : aggB Tryz.prog 35 = false := by kernel_rfl
@[go_sem] theorem ce35 : Tryz.prog.cellsOf 35 = 1 := by kernel_rfl
@[go_sem] theorem by35 : Tryz.prog.bytesOf 35 = 8 := by kernel_rfl
@[go_sem] theorem ze35 : zeroCells Tryz.prog 35 = [.v .nilFunc] := by kernel_rfl
@[go_sem] theorem zl35 : zeroLen Tryz.prog 35 = true := by kernel_rfl
@[go_sem] theorem un35 : (Tryz.prog.underlying 35).isSome = true := by kernel_rfl
/- func(api.Offer, api.Offer) bool -/
@[go_sem] theorem ag36 : aggB Tryz.prog 36 = false := by kernel_rfl
@[go_sem] theorem ce36 : Tryz.prog.cellsOf 36 = 1 := by kernel_rfl
@[go_sem] theorem by36 : Tryz.prog.bytesOf 36 = 8 := by kernel_rfl
@[go_sem] theorem ze36 : zeroCells Tryz.prog 36 = [.v .nilFunc] := by kernel_rfl
@[go_sem] theorem zl36 : zeroLen Tryz.prog 36 = true := by kernel_rfl
@[go_sem] theorem un36 : (Tryz.prog.underlying 36).isSome = true := by kernel_rfl
/- func(api.Secondary, api.Offer, int) (api.Secondary, api.Errno) -/
@[go_sem] theorem ag38 : aggB Tryz.prog 38 = false := by kernel_rfl
@[go_sem] theorem ce38 : Tryz.prog.cellsOf 38 = 1 := by kernel_rfl
@[go_sem] theorem by38 : Tryz.prog.bytesOf 38 = 8 := by kernel_rfl
@[go_sem] theorem ze38 : zeroCells Tryz.prog 38 = [.v .nilFunc] := by kernel_rfl
@[go_sem] theorem zl38 : zeroLen Tryz.prog 38 = true := by kernel_rfl
@[go_sem] theorem un38 : (Tryz.prog.underlying 38).isSome = true := by kernel_rfl
/- func(api.Secondary, api.Secondary) bool -/
@[go_sem] theorem ag39 : aggB Tryz.prog 39 = false := by kernel_rfl
@[go_sem] theorem ce39 : Tryz.prog.cellsOf 39 = 1 := by kernel_rfl
@[go_sem] theorem by39 : Tryz.prog.bytesOf 39 = 8 := by kernel_rfl
@[go_sem] theorem ze39 : zeroCells Tryz.prog 39 = [.v .nilFunc] := by kernel_rfl
@[go_sem] theorem zl39 : zeroLen Tryz.prog 39 = true := by kernel_rfl
@[go_sem] theorem un39 : (Tryz.prog.underlying 39).isSome = true := by kernel_rfl
/- func(api.Secondary, []api.Zone, int) (api.Secondary, api.Errno) -/
@[go_sem] theorem ag40 : aggB Tryz.prog 40 = false := by kernel_rfl
@[go_sem] theorem ce40 : Tryz.prog.cellsOf 40 = 1 := by kernel_rfl
@[go_sem] theorem by40 : Tryz.prog.bytesOf 40 = 8 := by kernel_rfl
@[go_sem] theorem ze40 : zeroCells Tryz.prog 40 = [.v .nilFunc] := by kernel_rfl
@[go_sem] theorem zl40 : zeroLen Tryz.prog 40 = true := by kernel_rfl
@[go_sem] theorem un40 : (Tryz.prog.underlying 40).isSome = true := by kernel_rfl
/- func(api.Secondary, int, int) (bool, api.Errno) -/
@[go_sem] theorem ag42 : aggB Tryz.prog 42 = false := by kernel_rfl
@[go_sem] theorem ce42 : Tryz.prog.cellsOf 42 = 1 := by kernel_rfl
@[go_sem] theorem by42 : Tryz.prog.bytesOf 42 = 8 := by kernel_rfl
@[go_sem] theorem ze42 : zeroCells Tryz.prog 42 = [.v .nilFunc] := by kernel_rfl
@[go_sem] theorem zl42 : zeroLen Tryz.prog 42 = true := by kernel_rfl
@[go_sem] theorem un42 : (Tryz.prog.underlying 42).isSome = true := by kernel_rfl
/- func(api.Secondary, []api.Zone, api.Offer, bool, int, int, int) bool -/
@[go_sem] theorem ag43 : aggB Tryz.prog 43 = false := by kernel_rfl
@[go_sem] theorem ce43 : Tryz.prog.cellsOf 43 = 1 := by kernel_rfl
@[go_sem] theorem by43 : Tryz.prog.bytesOf 43 = 8 := by kernel_rfl
@[go_sem] theorem ze43 : zeroCells Tryz.prog 43 = [.v .nilFunc] := by kernel_rfl
@[go_sem] theorem zl43 : zeroLen Tryz.prog 43 = true := by kernel_rfl
@[go_sem] theorem un43 : (Tryz.prog.underlying 43).isSome = true := by kernel_rfl
/- uint16 -/
@[go_sem] theorem ag44 : aggB Tryz.prog 44 = false := by kernel_rfl
@[go_sem] theorem ce44 : Tryz.prog.cellsOf 44 = 1 := by kernel_rfl
@[go_sem] theorem by44 : Tryz.prog.bytesOf 44 = 2 := by kernel_rfl
@[go_sem] theorem ze44 : zeroCells Tryz.prog 44 = [.v (.int .u16 0)] := by kernel_rfl
@[go_sem] theorem zl44 : zeroLen Tryz.prog 44 = true := by kernel_rfl
@[go_sem] theorem un44 : Tryz.prog.underlying 44 = some (.int .u16) := by kernel_rfl
/- func(api.Secondary, []api.Zone) bool -/
@[go_sem] theorem ag45 : aggB Tryz.prog 45 = false := by kernel_rfl
@[go_sem] theorem ce45 : Tryz.prog.cellsOf 45 = 1 := by kernel_rfl
@[go_sem] theorem by45 : Tryz.prog.bytesOf 45 = 8 := by kernel_rfl
@[go_sem] theorem ze45 : zeroCells Tryz.prog 45 = [.v .nilFunc] := by kernel_rfl
@[go_sem] theorem zl45 : zeroLen Tryz.prog 45 = true := by kernel_rfl
@[go_sem] theorem un45 : (Tryz.prog.underlying 45).isSome = true := by kernel_rfl
/- func(api.Zone, api.Zone) bool -/
@[go_sem] theorem ag46 : aggB Tryz.prog 46 = false := by kernel_rfl
@[go_sem] theorem ce46 : Tryz.prog.cellsOf 46 = 1 := by kernel_rfl
@[go_sem] theorem by46 : Tryz.prog.bytesOf 46 = 8 := by kernel_rfl
@[go_sem] theorem ze46 : zeroCells Tryz.prog 46 = [.v .nilFunc] := by kernel_rfl
@[go_sem] theorem zl46 : zeroLen Tryz.prog 46 = true := by kernel_rfl
@[go_sem] theorem un46 : (Tryz.prog.underlying 46).isSome = true := by kernel_rfl
/- func(api.Secondary, []api.Zone, int, uint16) bool -/
@[go_sem] theorem ag47 : aggB Tryz.prog 47 = false := by kernel_rfl
@[go_sem] theorem ce47 : Tryz.prog.cellsOf 47 = 1 := by kernel_rfl
@[go_sem] theorem by47 : Tryz.prog.bytesOf 47 = 8 := by kernel_rfl
@[go_sem] theorem ze47 : zeroCells Tryz.prog 47 = [.v .nilFunc] := by kernel_rfl
@[go_sem] theorem zl47 : zeroLen Tryz.prog 47 = true := by kernel_rfl
@[go_sem] theorem un47 : (Tryz.prog.underlying 47).isSome = true := by kernel_rfl
/- func([]api.Zone) bool -/
@[go_sem] theorem ag48 : aggB Tryz.prog 48 = false := by kernel_rfl
@[go_sem] theorem ce48 : Tryz.prog.cellsOf 48 = 1 := by kernel_rfl
@[go_sem] theorem by48 : Tryz.prog.bytesOf 48 = 8 := by kernel_rfl
@[go_sem] theorem ze48 : zeroCells Tryz.prog 48 = [.v .nilFunc] := by kernel_rfl
@[go_sem] theorem zl48 : zeroLen Tryz.prog 48 = true := by kernel_rfl
@[go_sem] theorem un48 : (Tryz.prog.underlying 48).isSome = true := by kernel_rfl
/- func(api.Zone) int -/
@[go_sem] theorem ag49 : aggB Tryz.prog 49 = false := by kernel_rfl
@[go_sem] theorem ce49 : Tryz.prog.cellsOf 49 = 1 := by kernel_rfl
@[go_sem] theorem by49 : Tryz.prog.bytesOf 49 = 8 := by kernel_rfl
@[go_sem] theorem ze49 : zeroCells Tryz.prog 49 = [.v .nilFunc] := by kernel_rfl
@[go_sem] theorem zl49 : zeroLen Tryz.prog 49 = true := by kernel_rfl
@[go_sem] theorem un49 : (Tryz.prog.underlying 49).isSome = true := by kernel_rfl
/- func([]api.Zone, uint8, uint16) bool -/
@[go_sem] theorem ag50 : aggB Tryz.prog 50 = false := by kernel_rfl
@[go_sem] theorem ce50 : Tryz.prog.cellsOf 50 = 1 := by kernel_rfl
@[go_sem] theorem by50 : Tryz.prog.bytesOf 50 = 8 := by kernel_rfl
@[go_sem] theorem ze50 : zeroCells Tryz.prog 50 = [.v .nilFunc] := by kernel_rfl
@[go_sem] theorem zl50 : zeroLen Tryz.prog 50 = true := by kernel_rfl
@[go_sem] theorem un50 : (Tryz.prog.underlying 50).isSome = true := by kernel_rfl
/- []bool -/
@[go_sem] theorem ag51 : aggB Tryz.prog 51 = false := by kernel_rfl
@[go_sem] theorem ce51 : Tryz.prog.cellsOf 51 = 1 := by kernel_rfl
@[go_sem] theorem by51 : Tryz.prog.bytesOf 51 = 24 := by kernel_rfl
@[go_sem] theorem ze51 : zeroCells Tryz.prog 51 = [.list true []] := by kernel_rfl
@[go_sem] theorem zl51 : zeroLen Tryz.prog 51 = true := by kernel_rfl
@[go_sem] theorem un51 : (Tryz.prog.underlying 51).isSome = true := by kernel_rfl
@[go_sem] theorem el51 : elemT Tryz.prog 51 = some 4 := by kernel_rfl
/- func([]api.Zone, []bool) bool -/
@[go_sem] theorem ag52 : aggB Tryz.prog 52 = false := by kernel_rfl
@[go_sem] theorem ce52 : Tryz.prog.cellsOf 52 = 1 := by kernel_rfl
@[go_sem] theorem by52 : Tryz.prog.bytesOf 52 = 8 := by kernel_rfl
@[go_sem] theorem ze52 : zeroCells Tryz.prog 52 = [.v .nilFunc] := by kernel_rfl
@[go_sem] theorem zl52 : zeroLen Tryz.prog 52 = true := by kernel_rfl
@[go_sem] theorem un52 : (Tryz.prog.underlying 52).isSome = true := by kernel_rfl
/- func(api.Zone) bool -/
@[go_sem] theorem ag53 : aggB Tryz.prog 53 = false := by kernel_rfl
@[go_sem] theorem ce53 : Tryz.prog.cellsOf 53 = 1 := by kernel_rfl
@[go_sem] theorem by53 : Tryz.prog.bytesOf 53 = 8 := by kernel_rfl
@[go_sem] theorem ze53 : zeroCells Tryz.prog 53 = [.v .nilFunc] := by kernel_rfl
@[go_sem] theorem zl53 : zeroLen Tryz.prog 53 = true := by kernel_rfl
@[go_sem] theorem un53 : (Tryz.prog.underlying 53).isSome = true := by kernel_rfl
/- func(api.Secondary) bool -/
@[go_sem] theorem ag54 : aggB Tryz.prog 54 = false := by kernel_rfl
@[go_sem] theorem ce54 : Tryz.prog.cellsOf 54 = 1 := by kernel_rfl
@[go_sem] theorem by54 : Tryz.prog.bytesOf 54 = 8 := by kernel_rfl
@[go_sem] theorem ze54 : zeroCells Tryz.prog 54 = [.v .nilFunc] := by kernel_rfl
@[go_sem] theorem zl54 : zeroLen Tryz.prog 54 = true := by kernel_rfl
@[go_sem] theorem un54 : (Tryz.prog.underlying 54).isSome = true := by kernel_rfl
/- func(api.Secondary, api.Zone, int) bool -/
@[go_sem] theorem ag55 : aggB Tryz.prog 55 = false := by kernel_rfl
@[go_sem] theorem ce55 : Tryz.prog.cellsOf 55 = 1 := by kernel_rfl
@[go_sem] theorem by55 : Tryz.prog.bytesOf 55 = 8 := by kernel_rfl
@[go_sem] theorem ze55 : zeroCells Tryz.prog 55 = [.v .nilFunc] := by kernel_rfl
@[go_sem] theorem zl55 : zeroLen Tryz.prog 55 = true := by kernel_rfl
@[go_sem] theorem un55 : (Tryz.prog.underlying 55).isSome = true := by kernel_rfl
/- func(api.Secondary, uint16, uint16, uint16, uint16) bool -/
@[go_sem] theorem ag56 : aggB Tryz.prog 56 = false := by kernel_rfl
@[go_sem] theorem ce56 : Tryz.prog.cellsOf 56 = 1 := by kernel_rfl
@[go_sem] theorem by56 : Tryz.prog.bytesOf 56 = 8 := by kernel_rfl
@[go_sem] theorem ze56 : zeroCells Tryz.prog 56 = [.v .nilFunc] := by kernel_rfl
@[go_sem] theorem zl56 : zeroLen Tryz.prog 56 = true := by kernel_rfl
@[go_sem] theorem un56 : (Tryz.prog.underlying 56).isSome = true := by kernel_rfl
/- func(int) api.Zone -/
@[go_sem] theorem ag57 : aggB Tryz.prog 57 = false := by kernel_rfl
@[go_sem] theorem ce57 : Tryz.prog.cellsOf 57 = 1 := by kernel_rfl
@[go_sem] theorem by57 : Tryz.prog.bytesOf 57 = 8 := by kernel_rfl
@[go_sem] theorem ze57 : zeroCells Tryz.prog 57 = [.v .nilFunc] := by kernel_rfl
@[go_sem] theorem zl57 : zeroLen Tryz.prog 57 = true := by kernel_rfl
@[go_sem] theorem un57 : (Tryz.prog.underlying 57).isSome = true := by kernel_rfl
/- func(api.Offer) bool -/
@[go_sem] theorem ag58 : aggB Tryz.prog 58 = false := by kernel_rfl
@[go_sem] theorem ce58 : Tryz.prog.cellsOf 58 = 1 := by kernel_rfl
@[go_sem] theorem by58 : Tryz.prog.bytesOf 58 = 8 := by kernel_rfl
@[go_sem] theorem ze58 : zeroCells Tryz.prog 58 = [.v .nilFunc] := by kernel_rfl
@[go_sem] theorem zl58 : zeroLen Tryz.prog 58 = true := by kernel_rfl
@[go_sem] theorem un58 : (Tryz.prog.underlying 58).isSome = true := by kernel_rfl
/- []int -/
@[go_sem] theorem ag59 : aggB Tryz.prog 59 = false := by kernel_rfl
@[go_sem] theorem ce59 : Tryz.prog.cellsOf 59 = 1 := by kernel_rfl
@[go_sem] theorem by59 : Tryz.prog.bytesOf 59 = 24 := by kernel_rfl
@[go_sem] theorem ze59 : zeroCells Tryz.prog 59 = [.list true []] := by kernel_rfl
@[go_sem] theorem zl59 : zeroLen Tryz.prog 59 = true := by kernel_rfl
@[go_sem] theorem un59 : (Tryz.prog.underlying 59).isSome = true := by kernel_rfl
@[go_sem] theorem el59 : elemT Tryz.prog 59 = some 3 := by kernel_rfl
/- func([]api.Zone) ([]int, bool) -/
@[go_sem] theorem ag61 : aggB Tryz.prog 61 = false := by kernel_rfl
@[go_sem] theorem ce61 : Tryz.prog.cellsOf 61 = 1 := by kernel_rfl
@[go_sem] theorem by61 : Tryz.prog.bytesOf 61 = 8 := by kernel_rfl
@[go_sem] theorem ze61 : zeroCells Tryz.prog 61 = [.v .nilFunc] := by kernel_rfl
@[go_sem] theorem zl61 : zeroLen Tryz.prog 61 = true := by kernel_rfl
@[go_sem] theorem un61 : (Tryz.prog.underlying 61).isSome = true := by kernel_rfl
/- func(api.Zone) api.Zone -/
@[go_sem] theorem ag62 : aggB Tryz.prog 62 = false := by kernel_rfl
@[go_sem] theorem ce62 : Tryz.prog.cellsOf 62 = 1 := by kernel_rfl
@[go_sem] theorem by62 : Tryz.prog.bytesOf 62 = 8 := by kernel_rfl
@[go_sem] theorem ze62 : zeroCells Tryz.prog 62 = [.v .nilFunc] := by kernel_rfl
@[go_sem] theorem zl62 : zeroLen Tryz.prog 62 = true := by kernel_rfl
@[go_sem] theorem un62 : (Tryz.prog.underlying 62).isSome = true := by kernel_rfl
/- []api.Question -/
@[go_sem] theorem ag63 : aggB Tryz.prog 63 = false := by kernel_rfl
@[go_sem] theorem ce63 : Tryz.prog.cellsOf 63 = 1 := by kernel_rfl
@[go_sem] theorem by63 : Tryz.prog.bytesOf 63 = 24 := by kernel_rfl
@[go_sem] theorem ze63 : zeroCells Tryz.prog 63 = [.list true []] := by kernel_rfl
@[go_sem] theorem zl63 : zeroLen Tryz.prog 63 = true := by kernel_rfl
@[go_sem] theorem un63 : (Tryz.prog.underlying 63).isSome = true := by kernel_rfl
@[go_sem] theorem el63 : elemT Tryz.prog 63 = some 89 := by kernel_rfl
/- struct { Apex string; From int; To int; Drop []api.Question; Put []api.Signed } -/
@[go_sem] theorem ag64 : aggB Tryz.prog 64 = true := by kernel_rfl
@[go_sem] theorem ce64 : Tryz.prog.cellsOf 64 = 5 := by kernel_rfl
@[go_sem] theorem by64 : Tryz.prog.bytesOf 64 = 80 := by kernel_rfl
@[go_sem] theorem ze64 : zeroCells Tryz.prog 64 = [.v (.string ⟨⟨[]⟩⟩), .v (.int .i64 0), .v (.int .i64 0), .list true [], .list true []] := by kernel_rfl
@[go_sem] theorem zl64 : zeroLen Tryz.prog 64 = true := by kernel_rfl
@[go_sem] theorem un64 : (Tryz.prog.underlying 64).isSome = true := by kernel_rfl
@[go_sem] theorem fl64_0 : fld Tryz.prog 64 0 = some (0, 9) := by kernel_rfl
@[go_sem] theorem fl64_1 : fld Tryz.prog 64 1 = some (1, 3) := by kernel_rfl
@[go_sem] theorem fl64_2 : fld Tryz.prog 64 2 = some (2, 3) := by kernel_rfl
@[go_sem] theorem fl64_3 : fld Tryz.prog 64 3 = some (3, 63) := by kernel_rfl
@[go_sem] theorem fl64_4 : fld Tryz.prog 64 4 = some (4, 22) := by kernel_rfl
@[go_sem] theorem sb64 : structB Tryz.prog 64 = true := by kernel_rfl
/- api.Delta -/
@[go_sem] theorem ag65 : aggB Tryz.prog 65 = true := by kernel_rfl
@[go_sem] theorem ce65 : Tryz.prog.cellsOf 65 = 5 := by kernel_rfl
@[go_sem] theorem by65 : Tryz.prog.bytesOf 65 = 80 := by kernel_rfl
@[go_sem] theorem ze65 : zeroCells Tryz.prog 65 = [.v (.string ⟨⟨[]⟩⟩), .v (.int .i64 0), .v (.int .i64 0), .list true [], .list true []] := by kernel_rfl
@[go_sem] theorem zl65 : zeroLen Tryz.prog 65 = true := by kernel_rfl
@[go_sem] theorem un65 : (Tryz.prog.underlying 65).isSome = true := by kernel_rfl
@[go_sem] theorem fl65_0 : fld Tryz.prog 65 0 = some (0, 9) := by kernel_rfl
@[go_sem] theorem fl65_1 : fld Tryz.prog 65 1 = some (1, 3) := by kernel_rfl
@[go_sem] theorem fl65_2 : fld Tryz.prog 65 2 = some (2, 3) := by kernel_rfl
@[go_sem] theorem fl65_3 : fld Tryz.prog 65 3 = some (3, 63) := by kernel_rfl
@[go_sem] theorem fl65_4 : fld Tryz.prog 65 4 = some (4, 22) := by kernel_rfl
@[go_sem] theorem sb65 : structB Tryz.prog 65 = true := by kernel_rfl
/- func(api.Zone, api.Zone) (api.Delta, api.Errno) -/
@[go_sem] theorem ag67 : aggB Tryz.prog 67 = false := by kernel_rfl
@[go_sem] theorem ce67 : Tryz.prog.cellsOf 67 = 1 := by kernel_rfl
@[go_sem] theorem by67 : Tryz.prog.bytesOf 67 = 8 := by kernel_rfl
@[go_sem] theorem ze67 : zeroCells Tryz.prog 67 = [.v .nilFunc] := by kernel_rfl
@[go_sem] theorem zl67 : zeroLen Tryz.prog 67 = true := by kernel_rfl
@[go_sem] theorem un67 : (Tryz.prog.underlying 67).isSome = true := by kernel_rfl
/- func(int) api.Offer -/
@[go_sem] theorem ag68 : aggB Tryz.prog 68 = false := by kernel_rfl
@[go_sem] theorem ce68 : Tryz.prog.cellsOf 68 = 1 := by kernel_rfl
@[go_sem] theorem by68 : Tryz.prog.bytesOf 68 = 8 := by kernel_rfl
@[go_sem] theorem ze68 : zeroCells Tryz.prog 68 = [.v .nilFunc] := by kernel_rfl
@[go_sem] theorem zl68 : zeroLen Tryz.prog 68 = true := by kernel_rfl
@[go_sem] theorem un68 : (Tryz.prog.underlying 68).isSome = true := by kernel_rfl
/- func(api.Delta, api.Delta) bool -/
@[go_sem] theorem ag69 : aggB Tryz.prog 69 = false := by kernel_rfl
@[go_sem] theorem ce69 : Tryz.prog.cellsOf 69 = 1 := by kernel_rfl
@[go_sem] theorem by69 : Tryz.prog.bytesOf 69 = 8 := by kernel_rfl
@[go_sem] theorem ze69 : zeroCells Tryz.prog 69 = [.v .nilFunc] := by kernel_rfl
@[go_sem] theorem zl69 : zeroLen Tryz.prog 69 = true := by kernel_rfl
@[go_sem] theorem un69 : (Tryz.prog.underlying 69).isSome = true := by kernel_rfl
/- func(api.Offer) (string, bool) -/
@[go_sem] theorem ag71 : aggB Tryz.prog 71 = false := by kernel_rfl
@[go_sem] theorem ce71 : Tryz.prog.cellsOf 71 = 1 := by kernel_rfl
@[go_sem] theorem by71 : Tryz.prog.bytesOf 71 = 8 := by kernel_rfl
@[go_sem] theorem ze71 : zeroCells Tryz.prog 71 = [.v .nilFunc] := by kernel_rfl
@[go_sem] theorem zl71 : zeroLen Tryz.prog 71 = true := by kernel_rfl
@[go_sem] theorem un71 : (Tryz.prog.underlying 71).isSome = true := by kernel_rfl
/- func(api.Secondary, api.Zone) api.Errno -/
@[go_sem] theorem ag72 : aggB Tryz.prog 72 = false := by kernel_rfl
@[go_sem] theorem ce72 : Tryz.prog.cellsOf 72 = 1 := by kernel_rfl
@[go_sem] theorem by72 : Tryz.prog.bytesOf 72 = 8 := by kernel_rfl
@[go_sem] theorem ze72 : zeroCells Tryz.prog 72 = [.v .nilFunc] := by kernel_rfl
@[go_sem] theorem zl72 : zeroLen Tryz.prog 72 = true := by kernel_rfl
@[go_sem] theorem un72 : (Tryz.prog.underlying 72).isSome = true := by kernel_rfl
/- func(api.Zone, api.Delta) (api.Zone, api.Errno) -/
@[go_sem] theorem ag74 : aggB Tryz.prog 74 = false := by kernel_rfl
@[go_sem] theorem ce74 : Tryz.prog.cellsOf 74 = 1 := by kernel_rfl
@[go_sem] theorem by74 : Tryz.prog.bytesOf 74 = 8 := by kernel_rfl
@[go_sem] theorem ze74 : zeroCells Tryz.prog 74 = [.v .nilFunc] := by kernel_rfl
@[go_sem] theorem zl74 : zeroLen Tryz.prog 74 = true := by kernel_rfl
@[go_sem] theorem un74 : (Tryz.prog.underlying 74).isSome = true := by kernel_rfl
/- func(int, int) bool -/
@[go_sem] theorem ag75 : aggB Tryz.prog 75 = false := by kernel_rfl
@[go_sem] theorem ce75 : Tryz.prog.cellsOf 75 = 1 := by kernel_rfl
@[go_sem] theorem by75 : Tryz.prog.bytesOf 75 = 8 := by kernel_rfl
@[go_sem] theorem ze75 : zeroCells Tryz.prog 75 = [.v .nilFunc] := by kernel_rfl
@[go_sem] theorem zl75 : zeroLen Tryz.prog 75 = true := by kernel_rfl
@[go_sem] theorem un75 : (Tryz.prog.underlying 75).isSome = true := by kernel_rfl
/- func(api.Zone) (int, api.Errno) -/
@[go_sem] theorem ag77 : aggB Tryz.prog 77 = false := by kernel_rfl
@[go_sem] theorem ce77 : Tryz.prog.cellsOf 77 = 1 := by kernel_rfl
@[go_sem] theorem by77 : Tryz.prog.bytesOf 77 = 8 := by kernel_rfl
@[go_sem] theorem ze77 : zeroCells Tryz.prog 77 = [.v .nilFunc] := by kernel_rfl
@[go_sem] theorem zl77 : zeroLen Tryz.prog 77 = true := by kernel_rfl
@[go_sem] theorem un77 : (Tryz.prog.underlying 77).isSome = true := by kernel_rfl
/- func([]api.Signed, []api.Signed) bool -/
@[go_sem] theorem ag78 : aggB Tryz.prog 78 = false := by kernel_rfl
@[go_sem] theorem ce78 : Tryz.prog.cellsOf 78 = 1 := by kernel_rfl
@[go_sem] theorem by78 : Tryz.prog.bytesOf 78 = 8 := by kernel_rfl
@[go_sem] theorem ze78 : zeroCells Tryz.prog 78 = [.v .nilFunc] := by kernel_rfl
@[go_sem] theorem zl78 : zeroLen Tryz.prog 78 = true := by kernel_rfl
@[go_sem] theorem un78 : (Tryz.prog.underlying 78).isSome = true := by kernel_rfl
/- struct { Text string; N int; M int } -/
@[go_sem] theorem ag79 : aggB Tryz.prog 79 = true := by kernel_rfl
@[go_sem] theorem ce79 : Tryz.prog.cellsOf 79 = 3 := by kernel_rfl
@[go_sem] theorem by79 : Tryz.prog.bytesOf 79 = 32 := by kernel_rfl
@[go_sem] theorem ze79 : zeroCells Tryz.prog 79 = [.v (.string ⟨⟨[]⟩⟩), .v (.int .i64 0), .v (.int .i64 0)] := by kernel_rfl
@[go_sem] theorem zl79 : zeroLen Tryz.prog 79 = true := by kernel_rfl
@[go_sem] theorem un79 : (Tryz.prog.underlying 79).isSome = true := by kernel_rfl
@[go_sem] theorem fl79_0 : fld Tryz.prog 79 0 = some (0, 9) := by kernel_rfl
@[go_sem] theorem fl79_1 : fld Tryz.prog 79 1 = some (1, 3) := by kernel_rfl
@[go_sem] theorem fl79_2 : fld Tryz.prog 79 2 = some (2, 3) := by kernel_rfl
@[go_sem] theorem sb79 : structB Tryz.prog 79 = true := by kernel_rfl
/- api.Datum -/
@[go_sem] theorem ag80 : aggB Tryz.prog 80 = true := by kernel_rfl
@[go_sem] theorem ce80 : Tryz.prog.cellsOf 80 = 3 := by kernel_rfl
@[go_sem] theorem by80 : Tryz.prog.bytesOf 80 = 32 := by kernel_rfl
@[go_sem] theorem ze80 : zeroCells Tryz.prog 80 = [.v (.string ⟨⟨[]⟩⟩), .v (.int .i64 0), .v (.int .i64 0)] := by kernel_rfl
@[go_sem] theorem zl80 : zeroLen Tryz.prog 80 = true := by kernel_rfl
@[go_sem] theorem un80 : (Tryz.prog.underlying 80).isSome = true := by kernel_rfl
@[go_sem] theorem fl80_0 : fld Tryz.prog 80 0 = some (0, 9) := by kernel_rfl
@[go_sem] theorem fl80_1 : fld Tryz.prog 80 1 = some (1, 3) := by kernel_rfl
@[go_sem] theorem fl80_2 : fld Tryz.prog 80 2 = some (2, 3) := by kernel_rfl
@[go_sem] theorem sb80 : structB Tryz.prog 80 = true := by kernel_rfl
@[go_sem] theorem ek80 : eqKinds Tryz.prog 80 = some [.s, .i, .i] := by kernel_rfl
/- []api.Datum -/
@[go_sem] theorem ag81 : aggB Tryz.prog 81 = false := by kernel_rfl
@[go_sem] theorem ce81 : Tryz.prog.cellsOf 81 = 1 := by kernel_rfl
@[go_sem] theorem by81 : Tryz.prog.bytesOf 81 = 24 := by kernel_rfl
@[go_sem] theorem ze81 : zeroCells Tryz.prog 81 = [.list true []] := by kernel_rfl
@[go_sem] theorem zl81 : zeroLen Tryz.prog 81 = true := by kernel_rfl
@[go_sem] theorem un81 : (Tryz.prog.underlying 81).isSome = true := by kernel_rfl
@[go_sem] theorem el81 : elemT Tryz.prog 81 = some 80 := by kernel_rfl
/- struct { Name string; Type int; Life int; Data []api.Datum } -/
@[go_sem] theorem ag82 : aggB Tryz.prog 82 = true := by kernel_rfl
@[go_sem] theorem ce82 : Tryz.prog.cellsOf 82 = 4 := by kernel_rfl
@[go_sem] theorem by82 : Tryz.prog.bytesOf 82 = 56 := by kernel_rfl
@[go_sem] theorem ze82 : zeroCells Tryz.prog 82 = [.v (.string ⟨⟨[]⟩⟩), .v (.int .i64 0), .v (.int .i64 0), .list true []] := by kernel_rfl
@[go_sem] theorem zl82 : zeroLen Tryz.prog 82 = true := by kernel_rfl
@[go_sem] theorem un82 : (Tryz.prog.underlying 82).isSome = true := by kernel_rfl
@[go_sem] theorem fl82_0 : fld Tryz.prog 82 0 = some (0, 9) := by kernel_rfl
@[go_sem] theorem fl82_1 : fld Tryz.prog 82 1 = some (1, 3) := by kernel_rfl
@[go_sem] theorem fl82_2 : fld Tryz.prog 82 2 = some (2, 3) := by kernel_rfl
@[go_sem] theorem fl82_3 : fld Tryz.prog 82 3 = some (3, 81) := by kernel_rfl
@[go_sem] theorem sb82 : structB Tryz.prog 82 = true := by kernel_rfl
/- api.Set -/
@[go_sem] theorem ag83 : aggB Tryz.prog 83 = true := by kernel_rfl
@[go_sem] theorem ce83 : Tryz.prog.cellsOf 83 = 4 := by kernel_rfl
@[go_sem] theorem by83 : Tryz.prog.bytesOf 83 = 56 := by kernel_rfl
@[go_sem] theorem ze83 : zeroCells Tryz.prog 83 = [.v (.string ⟨⟨[]⟩⟩), .v (.int .i64 0), .v (.int .i64 0), .list true []] := by kernel_rfl
@[go_sem] theorem zl83 : zeroLen Tryz.prog 83 = true := by kernel_rfl
@[go_sem] theorem un83 : (Tryz.prog.underlying 83).isSome = true := by kernel_rfl
@[go_sem] theorem fl83_0 : fld Tryz.prog 83 0 = some (0, 9) := by kernel_rfl
@[go_sem] theorem fl83_1 : fld Tryz.prog 83 1 = some (1, 3) := by kernel_rfl
@[go_sem] theorem fl83_2 : fld Tryz.prog 83 2 = some (2, 3) := by kernel_rfl
@[go_sem] theorem fl83_3 : fld Tryz.prog 83 3 = some (3, 81) := by kernel_rfl
@[go_sem] theorem sb83 : structB Tryz.prog 83 = true := by kernel_rfl
/- []api.Sig -/
@[go_sem] theorem ag84 : aggB Tryz.prog 84 = false := by kernel_rfl
@[go_sem] theorem ce84 : Tryz.prog.cellsOf 84 = 1 := by kernel_rfl
@[go_sem] theorem by84 : Tryz.prog.bytesOf 84 = 24 := by kernel_rfl
@[go_sem] theorem ze84 : zeroCells Tryz.prog 84 = [.list true []] := by kernel_rfl
@[go_sem] theorem zl84 : zeroLen Tryz.prog 84 = true := by kernel_rfl
@[go_sem] theorem un84 : (Tryz.prog.underlying 84).isSome = true := by kernel_rfl
@[go_sem] theorem el84 : elemT Tryz.prog 84 = some 99 := by kernel_rfl
/- struct { Set api.Set; Sigs []api.Sig } -/
@[go_sem] theorem ag85 : aggB Tryz.prog 85 = true := by kernel_rfl
@[go_sem] theorem ce85 : Tryz.prog.cellsOf 85 = 5 := by kernel_rfl
@[go_sem] theorem by85 : Tryz.prog.bytesOf 85 = 80 := by kernel_rfl
@[go_sem] theorem ze85 : zeroCells Tryz.prog 85 = [.v (.string ⟨⟨[]⟩⟩), .v (.int .i64 0), .v (.int .i64 0), .list true [], .list true []] := by kernel_rfl
@[go_sem] theorem zl85 : zeroLen Tryz.prog 85 = true := by kernel_rfl
@[go_sem] theorem un85 : (Tryz.prog.underlying 85).isSome = true := by kernel_rfl
@[go_sem] theorem fl85_0 : fld Tryz.prog 85 0 = some (0, 83) := by kernel_rfl
@[go_sem] theorem fl85_1 : fld Tryz.prog 85 1 = some (4, 84) := by kernel_rfl
@[go_sem] theorem sb85 : structB Tryz.prog 85 = true := by kernel_rfl
/- api.Signed -/
@[go_sem] theorem ag86 : aggB Tryz.prog 86 = true := by kernel_rfl
@[go_sem] theorem ce86 : Tryz.prog.cellsOf 86 = 5 := by kernel_rfl
@[go_sem] theorem by86 : Tryz.prog.bytesOf 86 = 80 := by kernel_rfl
@[go_sem] theorem ze86 : zeroCells Tryz.prog 86 = [.v (.string ⟨⟨[]⟩⟩), .v (.int .i64 0), .v (.int .i64 0), .list true [], .list true []] := by kernel_rfl
@[go_sem] theorem zl86 : zeroLen Tryz.prog 86 = true := by kernel_rfl
@[go_sem] theorem un86 : (Tryz.prog.underlying 86).isSome = true := by kernel_rfl
@[go_sem] theorem fl86_0 : fld Tryz.prog 86 0 = some (0, 83) := by kernel_rfl
@[go_sem] theorem fl86_1 : fld Tryz.prog 86 1 = some (4, 84) := by kernel_rfl
@[go_sem] theorem sb86 : structB Tryz.prog 86 = true := by kernel_rfl
/- func(api.Zone, api.Question) int -/
@[go_sem] theorem ag87 : aggB Tryz.prog 87 = false := by kernel_rfl
@[go_sem] theorem ce87 : Tryz.prog.cellsOf 87 = 1 := by kernel_rfl
@[go_sem] theorem by87 : Tryz.prog.bytesOf 87 = 8 := by kernel_rfl
@[go_sem] theorem ze87 : zeroCells Tryz.prog 87 = [.v .nilFunc] := by kernel_rfl
@[go_sem] theorem zl87 : zeroLen Tryz.prog 87 = true := by kernel_rfl
@[go_sem] theorem un87 : (Tryz.prog.underlying 87).isSome = true := by kernel_rfl
/- struct { Name string; Type int } -/
@[go_sem] theorem ag88 : aggB Tryz.prog 88 = true := by kernel_rfl
@[go_sem] theorem ce88 : Tryz.prog.cellsOf 88 = 2 := by kernel_rfl
@[go_sem] theorem by88 : Tryz.prog.bytesOf 88 = 24 := by kernel_rfl
@[go_sem] theorem ze88 : zeroCells Tryz.prog 88 = [.v (.string ⟨⟨[]⟩⟩), .v (.int .i64 0)] := by kernel_rfl
@[go_sem] theorem zl88 : zeroLen Tryz.prog 88 = true := by kernel_rfl
@[go_sem] theorem un88 : (Tryz.prog.underlying 88).isSome = true := by kernel_rfl
@[go_sem] theorem fl88_0 : fld Tryz.prog 88 0 = some (0, 9) := by kernel_rfl
@[go_sem] theorem fl88_1 : fld Tryz.prog 88 1 = some (1, 3) := by kernel_rfl
@[go_sem] theorem sb88 : structB Tryz.prog 88 = true := by kernel_rfl
/- api.Question -/
@[go_sem] theorem ag89 : aggB Tryz.prog 89 = true := by kernel_rfl
@[go_sem] theorem ce89 : Tryz.prog.cellsOf 89 = 2 := by kernel_rfl
@[go_sem] theorem by89 : Tryz.prog.bytesOf 89 = 24 := by kernel_rfl
@[go_sem] theorem ze89 : zeroCells Tryz.prog 89 = [.v (.string ⟨⟨[]⟩⟩), .v (.int .i64 0)] := by kernel_rfl
@[go_sem] theorem zl89 : zeroLen Tryz.prog 89 = true := by kernel_rfl
@[go_sem] theorem un89 : (Tryz.prog.underlying 89).isSome = true := by kernel_rfl
@[go_sem] theorem fl89_0 : fld Tryz.prog 89 0 = some (0, 9) := by kernel_rfl
@[go_sem] theorem fl89_1 : fld Tryz.prog 89 1 = some (1, 3) := by kernel_rfl
@[go_sem] theorem sb89 : structB Tryz.prog 89 = true := by kernel_rfl
@[go_sem] theorem ek89 : eqKinds Tryz.prog 89 = some [.s, .i] := by kernel_rfl
/- []api.Set -/
@[go_sem] theorem ag90 : aggB Tryz.prog 90 = false := by kernel_rfl
@[go_sem] theorem ce90 : Tryz.prog.cellsOf 90 = 1 := by kernel_rfl
@[go_sem] theorem by90 : Tryz.prog.bytesOf 90 = 24 := by kernel_rfl
@[go_sem] theorem ze90 : zeroCells Tryz.prog 90 = [.list true []] := by kernel_rfl
@[go_sem] theorem zl90 : zeroLen Tryz.prog 90 = true := by kernel_rfl
@[go_sem] theorem un90 : (Tryz.prog.underlying 90).isSome = true := by kernel_rfl
@[go_sem] theorem el90 : elemT Tryz.prog 90 = some 83 := by kernel_rfl
/- func(api.Delta) bool -/
@[go_sem] theorem ag91 : aggB Tryz.prog 91 = false := by kernel_rfl
@[go_sem] theorem ce91 : Tryz.prog.cellsOf 91 = 1 := by kernel_rfl
@[go_sem] theorem by91 : Tryz.prog.bytesOf 91 = 8 := by kernel_rfl
@[go_sem] theorem ze91 : zeroCells Tryz.prog 91 = [.v .nilFunc] := by kernel_rfl
@[go_sem] theorem zl91 : zeroLen Tryz.prog 91 = true := by kernel_rfl
@[go_sem] theorem un91 : (Tryz.prog.underlying 91).isSome = true := by kernel_rfl
/- func([]api.Zone, func(api.Zone) int) []int -/
@[go_sem] theorem ag92 : aggB Tryz.prog 92 = false := by kernel_rfl
@[go_sem] theorem ce92 : Tryz.prog.cellsOf 92 = 1 := by kernel_rfl
@[go_sem] theorem by92 : Tryz.prog.bytesOf 92 = 8 := by kernel_rfl
@[go_sem] theorem ze92 : zeroCells Tryz.prog 92 = [.v .nilFunc] := by kernel_rfl
@[go_sem] theorem zl92 : zeroLen Tryz.prog 92 = true := by kernel_rfl
@[go_sem] theorem un92 : (Tryz.prog.underlying 92).isSome = true := by kernel_rfl
/- func(int, int) (bool, api.Errno) -/
@[go_sem] theorem ag93 : aggB Tryz.prog 93 = false := by kernel_rfl
@[go_sem] theorem ce93 : Tryz.prog.cellsOf 93 = 1 := by kernel_rfl
@[go_sem] theorem by93 : Tryz.prog.bytesOf 93 = 8 := by kernel_rfl
@[go_sem] theorem ze93 : zeroCells Tryz.prog 93 = [.v .nilFunc] := by kernel_rfl
@[go_sem] theorem zl93 : zeroLen Tryz.prog 93 = true := by kernel_rfl
@[go_sem] theorem un93 : (Tryz.prog.underlying 93).isSome = true := by kernel_rfl
/- func([]api.Signed, func(api.Signed) api.Signed) []api.Signed -/
@[go_sem] theorem ag94 : aggB Tryz.prog 94 = false := by kernel_rfl
@[go_sem] theorem ce94 : Tryz.prog.cellsOf 94 = 1 := by kernel_rfl
@[go_sem] theorem by94 : Tryz.prog.bytesOf 94 = 8 := by kernel_rfl
@[go_sem] theorem ze94 : zeroCells Tryz.prog 94 = [.v .nilFunc] := by kernel_rfl
@[go_sem] theorem zl94 : zeroLen Tryz.prog 94 = true := by kernel_rfl
@[go_sem] theorem un94 : (Tryz.prog.underlying 94).isSome = true := by kernel_rfl
/- func([]api.Datum) []api.Datum -/
@[go_sem] theorem ag95 : aggB Tryz.prog 95 = false := by kernel_rfl
@[go_sem] theorem ce95 : Tryz.prog.cellsOf 95 = 1 := by kernel_rfl
@[go_sem] theorem by95 : Tryz.prog.bytesOf 95 = 8 := by kernel_rfl
@[go_sem] theorem ze95 : zeroCells Tryz.prog 95 = [.v .nilFunc] := by kernel_rfl
@[go_sem] theorem zl95 : zeroLen Tryz.prog 95 = true := by kernel_rfl
@[go_sem] theorem un95 : (Tryz.prog.underlying 95).isSome = true := by kernel_rfl
/- func([]api.Sig) []api.Sig -/
@[go_sem] theorem ag96 : aggB Tryz.prog 96 = false := by kernel_rfl
@[go_sem] theorem ce96 : Tryz.prog.cellsOf 96 = 1 := by kernel_rfl
@[go_sem] theorem by96 : Tryz.prog.bytesOf 96 = 8 := by kernel_rfl
@[go_sem] theorem ze96 : zeroCells Tryz.prog 96 = [.v .nilFunc] := by kernel_rfl
@[go_sem] theorem zl96 : zeroLen Tryz.prog 96 = true := by kernel_rfl
@[go_sem] theorem un96 : (Tryz.prog.underlying 96).isSome = true := by kernel_rfl
/- uint64 -/
@[go_sem] theorem ag97 : aggB Tryz.prog 97 = false := by kernel_rfl
@[go_sem] theorem ce97 : Tryz.prog.cellsOf 97 = 1 := by kernel_rfl
@[go_sem] theorem by97 : Tryz.prog.bytesOf 97 = 8 := by kernel_rfl
@[go_sem] theorem ze97 : zeroCells Tryz.prog 97 = [.v (.int .u64 0)] := by kernel_rfl
@[go_sem] theorem zl97 : zeroLen Tryz.prog 97 = true := by kernel_rfl
@[go_sem] theorem un97 : Tryz.prog.underlying 97 = some (.int .u64) := by kernel_rfl
/- struct { Zone string; Key int; Alg int; From int; Until int; Sum uint64 } -/
@[go_sem] theorem ag98 : aggB Tryz.prog 98 = true := by kernel_rfl
@[go_sem] theorem ce98 : Tryz.prog.cellsOf 98 = 6 := by kernel_rfl
@[go_sem] theorem by98 : Tryz.prog.bytesOf 98 = 56 := by kernel_rfl
@[go_sem] theorem ze98 : zeroCells Tryz.prog 98 = [.v (.string ⟨⟨[]⟩⟩), .v (.int .i64 0), .v (.int .i64 0), .v (.int .i64 0), .v (.int .i64 0), .v (.int .u64 0)] := by kernel_rfl
@[go_sem] theorem zl98 : zeroLen Tryz.prog 98 = true := by kernel_rfl
@[go_sem] theorem un98 : (Tryz.prog.underlying 98).isSome = true := by kernel_rfl
@[go_sem] theorem fl98_0 : fld Tryz.prog 98 0 = some (0, 9) := by kernel_rfl
@[go_sem] theorem fl98_1 : fld Tryz.prog 98 1 = some (1, 3) := by kernel_rfl
@[go_sem] theorem fl98_2 : fld Tryz.prog 98 2 = some (2, 3) := by kernel_rfl
@[go_sem] theorem fl98_3 : fld Tryz.prog 98 3 = some (3, 3) := by kernel_rfl
@[go_sem] theorem fl98_4 : fld Tryz.prog 98 4 = some (4, 3) := by kernel_rfl
@[go_sem] theorem fl98_5 : fld Tryz.prog 98 5 = some (5, 97) := by kernel_rfl
@[go_sem] theorem sb98 : structB Tryz.prog 98 = true := by kernel_rfl
/- api.Sig -/
@[go_sem] theorem ag99 : aggB Tryz.prog 99 = true := by kernel_rfl
@[go_sem] theorem ce99 : Tryz.prog.cellsOf 99 = 6 := by kernel_rfl
@[go_sem] theorem by99 : Tryz.prog.bytesOf 99 = 56 := by kernel_rfl
@[go_sem] theorem ze99 : zeroCells Tryz.prog 99 = [.v (.string ⟨⟨[]⟩⟩), .v (.int .i64 0), .v (.int .i64 0), .v (.int .i64 0), .v (.int .i64 0), .v (.int .u64 0)] := by kernel_rfl
@[go_sem] theorem zl99 : zeroLen Tryz.prog 99 = true := by kernel_rfl
@[go_sem] theorem un99 : (Tryz.prog.underlying 99).isSome = true := by kernel_rfl
@[go_sem] theorem fl99_0 : fld Tryz.prog 99 0 = some (0, 9) := by kernel_rfl
@[go_sem] theorem fl99_1 : fld Tryz.prog 99 1 = some (1, 3) := by kernel_rfl
@[go_sem] theorem fl99_2 : fld Tryz.prog 99 2 = some (2, 3) := by kernel_rfl
@[go_sem] theorem fl99_3 : fld Tryz.prog 99 3 = some (3, 3) := by kernel_rfl
@[go_sem] theorem fl99_4 : fld Tryz.prog 99 4 = some (4, 3) := by kernel_rfl
@[go_sem] theorem fl99_5 : fld Tryz.prog 99 5 = some (5, 97) := by kernel_rfl
@[go_sem] theorem sb99 : structB Tryz.prog 99 = true := by kernel_rfl
@[go_sem] theorem ek99 : eqKinds Tryz.prog 99 = some [.s, .i, .i, .i, .i, .i] := by kernel_rfl
/- func(api.Signed) api.Signed -/
@[go_sem] theorem ag100 : aggB Tryz.prog 100 = false := by kernel_rfl
@[go_sem] theorem ce100 : Tryz.prog.cellsOf 100 = 1 := by kernel_rfl
@[go_sem] theorem by100 : Tryz.prog.bytesOf 100 = 8 := by kernel_rfl
@[go_sem] theorem ze100 : zeroCells Tryz.prog 100 = [.v .nilFunc] := by kernel_rfl
@[go_sem] theorem zl100 : zeroLen Tryz.prog 100 = true := by kernel_rfl
@[go_sem] theorem un100 : (Tryz.prog.underlying 100).isSome = true := by kernel_rfl
/- map[api.Question]api.Signed -/
@[go_sem] theorem ag101 : aggB Tryz.prog 101 = false := by kernel_rfl
@[go_sem] theorem ce101 : Tryz.prog.cellsOf 101 = 1 := by kernel_rfl
@[go_sem] theorem by101 : Tryz.prog.bytesOf 101 = 8 := by kernel_rfl
@[go_sem] theorem ze101 : zeroCells Tryz.prog 101 = [.v (.map none)] := by kernel_rfl
@[go_sem] theorem zl101 : zeroLen Tryz.prog 101 = true := by kernel_rfl
@[go_sem] theorem un101 : (Tryz.prog.underlying 101).isSome = true := by kernel_rfl
@[go_sem] theorem mp101 : mapT Tryz.prog 101 = some (89, 86) := by kernel_rfl
@[go_sem] theorem ky89 : keyTy Tryz.prog 89 = true := by kernel_rfl
@[go_sem] theorem ko89 (x0 : ByteArray) (x1 : Int) : keyOk Tryz.prog 89 (.agg [.v (.string x0), .v (.int .i64 x1)]) = true := by kernel_rfl
@[go_sem] theorem zd86 : zeroD Tryz.prog 86 = .agg [.v (.string ⟨⟨[]⟩⟩), .v (.int .i64 0), .v (.int .i64 0), .list true [], .list true []] := by kernel_rfl
@[go_sem] theorem hz86 : hasZero Tryz.prog 86 = true := by kernel_rfl
/- func([]api.Signed) map[api.Question]api.Signed -/
@[go_sem] theorem ag102 : aggB Tryz.prog 102 = false := by kernel_rfl
@[go_sem] theorem ce102 : Tryz.prog.cellsOf 102 = 1 := by kernel_rfl
@[go_sem] theorem by102 : Tryz.prog.bytesOf 102 = 8 := by kernel_rfl
@[go_sem] theorem ze102 : zeroCells Tryz.prog 102 = [.v .nilFunc] := by kernel_rfl
@[go_sem] theorem zl102 : zeroLen Tryz.prog 102 = true := by kernel_rfl
@[go_sem] theorem un102 : (Tryz.prog.underlying 102).isSome = true := by kernel_rfl
/- func([]api.Signed, func(api.Signed) (api.Question, bool)) []api.Question -/
@[go_sem] theorem ag103 : aggB Tryz.prog 103 = false := by kernel_rfl
@[go_sem] theorem ce103 : Tryz.prog.cellsOf 103 = 1 := by kernel_rfl
@[go_sem] theorem by103 : Tryz.prog.bytesOf 103 = 8 := by kernel_rfl
@[go_sem] theorem ze103 : zeroCells Tryz.prog 103 = [.v .nilFunc] := by kernel_rfl
@[go_sem] theorem zl103 : zeroLen Tryz.prog 103 = true := by kernel_rfl
@[go_sem] theorem un103 : (Tryz.prog.underlying 103).isSome = true := by kernel_rfl
/- func(api.Signed) api.Question -/
@[go_sem] theorem ag104 : aggB Tryz.prog 104 = false := by kernel_rfl
@[go_sem] theorem ce104 : Tryz.prog.cellsOf 104 = 1 := by kernel_rfl
@[go_sem] theorem by104 : Tryz.prog.bytesOf 104 = 8 := by kernel_rfl
@[go_sem] theorem ze104 : zeroCells Tryz.prog 104 = [.v .nilFunc] := by kernel_rfl
@[go_sem] theorem zl104 : zeroLen Tryz.prog 104 = true := by kernel_rfl
@[go_sem] theorem un104 : (Tryz.prog.underlying 104).isSome = true := by kernel_rfl
/- func(api.Signed) (api.Question, bool) -/
@[go_sem] theorem ag106 : aggB Tryz.prog 106 = false := by kernel_rfl
@[go_sem] theorem ce106 : Tryz.prog.cellsOf 106 = 1 := by kernel_rfl
@[go_sem] theorem by106 : Tryz.prog.bytesOf 106 = 8 := by kernel_rfl
@[go_sem] theorem ze106 : zeroCells Tryz.prog 106 = [.v .nilFunc] := by kernel_rfl
@[go_sem] theorem zl106 : zeroLen Tryz.prog 106 = true := by kernel_rfl
@[go_sem] theorem un106 : (Tryz.prog.underlying 106).isSome = true := by kernel_rfl
/- func([]api.Signed, func(api.Signed) (api.Signed, bool)) []api.Signed -/
@[go_sem] theorem ag107 : aggB Tryz.prog 107 = false := by kernel_rfl
@[go_sem] theorem ce107 : Tryz.prog.cellsOf 107 = 1 := by kernel_rfl
@[go_sem] theorem by107 : Tryz.prog.bytesOf 107 = 8 := by kernel_rfl
@[go_sem] theorem ze107 : zeroCells Tryz.prog 107 = [.v .nilFunc] := by kernel_rfl
@[go_sem] theorem zl107 : zeroLen Tryz.prog 107 = true := by kernel_rfl
@[go_sem] theorem un107 : (Tryz.prog.underlying 107).isSome = true := by kernel_rfl
/- func(api.Signed, api.Signed) bool -/
@[go_sem] theorem ag108 : aggB Tryz.prog 108 = false := by kernel_rfl
@[go_sem] theorem ce108 : Tryz.prog.cellsOf 108 = 1 := by kernel_rfl
@[go_sem] theorem by108 : Tryz.prog.bytesOf 108 = 8 := by kernel_rfl
@[go_sem] theorem ze108 : zeroCells Tryz.prog 108 = [.v .nilFunc] := by kernel_rfl
@[go_sem] theorem zl108 : zeroLen Tryz.prog 108 = true := by kernel_rfl
@[go_sem] theorem un108 : (Tryz.prog.underlying 108).isSome = true := by kernel_rfl
/- func(api.Signed) (api.Signed, bool) -/
@[go_sem] theorem ag109 : aggB Tryz.prog 109 = false := by kernel_rfl
@[go_sem] theorem ce109 : Tryz.prog.cellsOf 109 = 1 := by kernel_rfl
@[go_sem] theorem by109 : Tryz.prog.bytesOf 109 = 8 := by kernel_rfl
@[go_sem] theorem ze109 : zeroCells Tryz.prog 109 = [.v .nilFunc] := by kernel_rfl
@[go_sem] theorem zl109 : zeroLen Tryz.prog 109 = true := by kernel_rfl
@[go_sem] theorem un109 : (Tryz.prog.underlying 109).isSome = true := by kernel_rfl
/- func([]api.Signed, api.Question) int -/
@[go_sem] theorem ag110 : aggB Tryz.prog 110 = false := by kernel_rfl
@[go_sem] theorem ce110 : Tryz.prog.cellsOf 110 = 1 := by kernel_rfl
@[go_sem] theorem by110 : Tryz.prog.bytesOf 110 = 8 := by kernel_rfl
@[go_sem] theorem ze110 : zeroCells Tryz.prog 110 = [.v .nilFunc] := by kernel_rfl
@[go_sem] theorem zl110 : zeroLen Tryz.prog 110 = true := by kernel_rfl
@[go_sem] theorem un110 : (Tryz.prog.underlying 110).isSome = true := by kernel_rfl
/- func([]api.Signed, func(api.Signed, api.Signed) int) -/
@[go_sem] theorem ag111 : aggB Tryz.prog 111 = false := by kernel_rfl
@[go_sem] theorem ce111 : Tryz.prog.cellsOf 111 = 1 := by kernel_rfl
@[go_sem] theorem by111 : Tryz.prog.bytesOf 111 = 8 := by kernel_rfl
@[go_sem] theorem ze111 : zeroCells Tryz.prog 111 = [.v .nilFunc] := by kernel_rfl
@[go_sem] theorem zl111 : zeroLen Tryz.prog 111 = true := by kernel_rfl
@[go_sem] theorem un111 : (Tryz.prog.underlying 111).isSome = true := by kernel_rfl
/- func(api.Signed, api.Signed) int -/
@[go_sem] theorem ag112 : aggB Tryz.prog 112 = false := by kernel_rfl
@[go_sem] theorem ce112 : Tryz.prog.cellsOf 112 = 1 := by kernel_rfl
@[go_sem] theorem by112 : Tryz.prog.bytesOf 112 = 8 := by kernel_rfl
@[go_sem] theorem ze112 : zeroCells Tryz.prog 112 = [.v .nilFunc] := by kernel_rfl
@[go_sem] theorem zl112 : zeroLen Tryz.prog 112 = true := by kernel_rfl
@[go_sem] theorem un112 : (Tryz.prog.underlying 112).isSome = true := by kernel_rfl
/- func(func(api.Signed) api.Question) func(api.Signed, api.Signed) int -/
@[go_sem] theorem ag113 : aggB Tryz.prog 113 = false := by kernel_rfl
@[go_sem] theorem ce113 : Tryz.prog.cellsOf 113 = 1 := by kernel_rfl
@[go_sem] theorem by113 : Tryz.prog.bytesOf 113 = 8 := by kernel_rfl
@[go_sem] theorem ze113 : zeroCells Tryz.prog 113 = [.v .nilFunc] := by kernel_rfl
@[go_sem] theorem zl113 : zeroLen Tryz.prog 113 = true := by kernel_rfl
@[go_sem] theorem un113 : (Tryz.prog.underlying 113).isSome = true := by kernel_rfl
/- func([]api.Question, api.Question) bool -/
@[go_sem] theorem ag114 : aggB Tryz.prog 114 = false := by kernel_rfl
@[go_sem] theorem ce114 : Tryz.prog.cellsOf 114 = 1 := by kernel_rfl
@[go_sem] theorem by114 : Tryz.prog.bytesOf 114 = 8 := by kernel_rfl
@[go_sem] theorem ze114 : zeroCells Tryz.prog 114 = [.v .nilFunc] := by kernel_rfl
@[go_sem] theorem zl114 : zeroLen Tryz.prog 114 = true := by kernel_rfl
@[go_sem] theorem un114 : (Tryz.prog.underlying 114).isSome = true := by kernel_rfl
/- func([]api.Signed, api.Signed) []api.Signed -/
@[go_sem] theorem ag115 : aggB Tryz.prog 115 = false := by kernel_rfl
@[go_sem] theorem ce115 : Tryz.prog.cellsOf 115 = 1 := by kernel_rfl
@[go_sem] theorem by115 : Tryz.prog.bytesOf 115 = 8 := by kernel_rfl
@[go_sem] theorem ze115 : zeroCells Tryz.prog 115 = [.v .nilFunc] := by kernel_rfl
@[go_sem] theorem zl115 : zeroLen Tryz.prog 115 = true := by kernel_rfl
@[go_sem] theorem un115 : (Tryz.prog.underlying 115).isSome = true := by kernel_rfl
/- struct { api.Zone } -/
@[go_sem] theorem ag117 : aggB Tryz.prog 117 = true := by kernel_rfl
@[go_sem] theorem ce117 : Tryz.prog.cellsOf 117 = 2 := by kernel_rfl
@[go_sem] theorem by117 : Tryz.prog.bytesOf 117 = 40 := by kernel_rfl
@[go_sem] theorem ze117 : zeroCells Tryz.prog 117 = [.v (.string ⟨⟨[]⟩⟩), .list true []] := by kernel_rfl
@[go_sem] theorem zl117 : zeroLen Tryz.prog 117 = true := by kernel_rfl
@[go_sem] theorem un117 : (Tryz.prog.underlying 117).isSome = true := by kernel_rfl
@[go_sem] theorem fl117_0 : fld Tryz.prog 117 0 = some (0, 24) := by kernel_rfl
@[go_sem] theorem sb117 : structB Tryz.prog 117 = true := by kernel_rfl
/- zone.body -/
@[go_sem] theorem ag118 : aggB Tryz.prog 118 = true := by kernel_rfl
@[go_sem] theorem ce118 : Tryz.prog.cellsOf 118 = 2 := by kernel_rfl
@[go_sem] theorem by118 : Tryz.prog.bytesOf 118 = 40 := by kernel_rfl
@[go_sem] theorem ze118 : zeroCells Tryz.prog 118 = [.v (.string ⟨⟨[]⟩⟩), .list true []] := by kernel_rfl
@[go_sem] theorem zl118 : zeroLen Tryz.prog 118 = true := by kernel_rfl
@[go_sem] theorem un118 : (Tryz.prog.underlying 118).isSome = true := by kernel_rfl
@[go_sem] theorem fl118_0 : fld Tryz.prog 118 0 = some (0, 24) := by kernel_rfl
@[go_sem] theorem sb118 : structB Tryz.prog 118 = true := by kernel_rfl
/- func(api.Question) (int, bool) -/
@[go_sem] theorem ag119 : aggB Tryz.prog 119 = false := by kernel_rfl
@[go_sem] theorem ce119 : Tryz.prog.cellsOf 119 = 1 := by kernel_rfl
@[go_sem] theorem by119 : Tryz.prog.bytesOf 119 = 8 := by kernel_rfl
@[go_sem] theorem ze119 : zeroCells Tryz.prog 119 = [.v .nilFunc] := by kernel_rfl
@[go_sem] theorem zl119 : zeroLen Tryz.prog 119 = true := by kernel_rfl
@[go_sem] theorem un119 : (Tryz.prog.underlying 119).isSome = true := by kernel_rfl
/- func(string) bool -/
@[go_sem] theorem ag120 : aggB Tryz.prog 120 = false := by kernel_rfl
@[go_sem] theorem ce120 : Tryz.prog.cellsOf 120 = 1 := by kernel_rfl
@[go_sem] theorem by120 : Tryz.prog.bytesOf 120 = 8 := by kernel_rfl
@[go_sem] theorem ze120 : zeroCells Tryz.prog 120 = [.v .nilFunc] := by kernel_rfl
@[go_sem] theorem zl120 : zeroLen Tryz.prog 120 = true := by kernel_rfl
@[go_sem] theorem un120 : (Tryz.prog.underlying 120).isSome = true := by kernel_rfl
/- func(api.Set) bool -/
@[go_sem] theorem ag121 : aggB Tryz.prog 121 = false := by kernel_rfl
@[go_sem] theorem ce121 : Tryz.prog.cellsOf 121 = 1 := by kernel_rfl
@[go_sem] theorem by121 : Tryz.prog.bytesOf 121 = 8 := by kernel_rfl
@[go_sem] theorem ze121 : zeroCells Tryz.prog 121 = [.v .nilFunc] := by kernel_rfl
@[go_sem] theorem zl121 : zeroLen Tryz.prog 121 = true := by kernel_rfl
@[go_sem] theorem un121 : (Tryz.prog.underlying 121).isSome = true := by kernel_rfl
/- func(string, string) bool -/
@[go_sem] theorem ag122 : aggB Tryz.prog 122 = false := by kernel_rfl
@[go_sem] theorem ce122 : Tryz.prog.cellsOf 122 = 1 := by kernel_rfl
@[go_sem] theorem by122 : Tryz.prog.bytesOf 122 = 8 := by kernel_rfl
@[go_sem] theorem ze122 : zeroCells Tryz.prog 122 = [.v .nilFunc] := by kernel_rfl
@[go_sem] theorem zl122 : zeroLen Tryz.prog 122 = true := by kernel_rfl
@[go_sem] theorem un122 : (Tryz.prog.underlying 122).isSome = true := by kernel_rfl
/- func(api.Set, api.Set) int -/
@[go_sem] theorem ag123 : aggB Tryz.prog 123 = false := by kernel_rfl
@[go_sem] theorem ce123 : Tryz.prog.cellsOf 123 = 1 := by kernel_rfl
@[go_sem] theorem by123 : Tryz.prog.bytesOf 123 = 8 := by kernel_rfl
@[go_sem] theorem ze123 : zeroCells Tryz.prog 123 = [.v .nilFunc] := by kernel_rfl
@[go_sem] theorem zl123 : zeroLen Tryz.prog 123 = true := by kernel_rfl
@[go_sem] theorem un123 : (Tryz.prog.underlying 123).isSome = true := by kernel_rfl
/- func(int, bool) bool -/
@[go_sem] theorem ag124 : aggB Tryz.prog 124 = false := by kernel_rfl
@[go_sem] theorem ce124 : Tryz.prog.cellsOf 124 = 1 := by kernel_rfl
@[go_sem] theorem by124 : Tryz.prog.bytesOf 124 = 8 := by kernel_rfl
@[go_sem] theorem ze124 : zeroCells Tryz.prog 124 = [.v .nilFunc] := by kernel_rfl
@[go_sem] theorem zl124 : zeroLen Tryz.prog 124 = true := by kernel_rfl
@[go_sem] theorem un124 : (Tryz.prog.underlying 124).isSome = true := by kernel_rfl
/- []string -/
@[go_sem] theorem ag125 : aggB Tryz.prog 125 = false := by kernel_rfl
@[go_sem] theorem ce125 : Tryz.prog.cellsOf 125 = 1 := by kernel_rfl
@[go_sem] theorem by125 : Tryz.prog.bytesOf 125 = 24 := by kernel_rfl
@[go_sem] theorem ze125 : zeroCells Tryz.prog 125 = [.list true []] := by kernel_rfl
@[go_sem] theorem zl125 : zeroLen Tryz.prog 125 = true := by kernel_rfl
@[go_sem] theorem un125 : (Tryz.prog.underlying 125).isSome = true := by kernel_rfl
@[go_sem] theorem el125 : elemT Tryz.prog 125 = some 9 := by kernel_rfl
/- func(api.Zone) []string -/
@[go_sem] theorem ag126 : aggB Tryz.prog 126 = false := by kernel_rfl
@[go_sem] theorem ce126 : Tryz.prog.cellsOf 126 = 1 := by kernel_rfl
@[go_sem] theorem by126 : Tryz.prog.bytesOf 126 = 8 := by kernel_rfl
@[go_sem] theorem ze126 : zeroCells Tryz.prog 126 = [.v .nilFunc] := by kernel_rfl
@[go_sem] theorem zl126 : zeroLen Tryz.prog 126 = true := by kernel_rfl
@[go_sem] theorem un126 : (Tryz.prog.underlying 126).isSome = true := by kernel_rfl
/- func(api.Zone) []bool -/
@[go_sem] theorem ag127 : aggB Tryz.prog 127 = false := by kernel_rfl
@[go_sem] theorem ce127 : Tryz.prog.cellsOf 127 = 1 := by kernel_rfl
@[go_sem] theorem by127 : Tryz.prog.bytesOf 127 = 8 := by kernel_rfl
@[go_sem] theorem ze127 : zeroCells Tryz.prog 127 = [.v .nilFunc] := by kernel_rfl
@[go_sem] theorem zl127 : zeroLen Tryz.prog 127 = true := by kernel_rfl
@[go_sem] theorem un127 : (Tryz.prog.underlying 127).isSome = true := by kernel_rfl
/- func([]api.Sig, string) bool -/
@[go_sem] theorem ag128 : aggB Tryz.prog 128 = false := by kernel_rfl
@[go_sem] theorem ce128 : Tryz.prog.cellsOf 128 = 1 := by kernel_rfl
@[go_sem] theorem by128 : Tryz.prog.bytesOf 128 = 8 := by kernel_rfl
@[go_sem] theorem ze128 : zeroCells Tryz.prog 128 = [.v .nilFunc] := by kernel_rfl
@[go_sem] theorem zl128 : zeroLen Tryz.prog 128 = true := by kernel_rfl
@[go_sem] theorem un128 : (Tryz.prog.underlying 128).isSome = true := by kernel_rfl
/- struct { zone.body; behind []string } -/
@[go_sem] theorem ag129 : aggB Tryz.prog 129 = true := by kernel_rfl
@[go_sem] theorem ce129 : Tryz.prog.cellsOf 129 = 3 := by kernel_rfl
@[go_sem] theorem by129 : Tryz.prog.bytesOf 129 = 64 := by kernel_rfl
@[go_sem] theorem ze129 : zeroCells Tryz.prog 129 = [.v (.string ⟨⟨[]⟩⟩), .list true [], .list true []] := by kernel_rfl
@[go_sem] theorem zl129 : zeroLen Tryz.prog 129 = true := by kernel_rfl
@[go_sem] theorem un129 : (Tryz.prog.underlying 129).isSome = true := by kernel_rfl
@[go_sem] theorem fl129_0 : fld Tryz.prog 129 0 = some (0, 118) := by kernel_rfl
@[go_sem] theorem fl129_1 : fld Tryz.prog 129 1 = some (2, 125) := by kernel_rfl
@[go_sem] theorem sb129 : structB Tryz.prog 129 = true := by kernel_rfl
/- zone.layout -/
@[go_sem] theorem ag130 : aggB Tryz.prog 130 = true := by kernel_rfl
@[go_sem] theorem ce130 : Tryz.prog.cellsOf 130 = 3 := by kernel_rfl
@[go_sem] theorem by130 : Tryz.prog.bytesOf 130 = 64 := by kernel_rfl
@[go_sem] theorem ze130 : zeroCells Tryz.prog 130 = [.v (.string ⟨⟨[]⟩⟩), .list true [], .list true []] := by kernel_rfl
@[go_sem] theorem zl130 : zeroLen Tryz.prog 130 = true := by kernel_rfl
@[go_sem] theorem un130 : (Tryz.prog.underlying 130).isSome = true := by kernel_rfl
@[go_sem] theorem fl130_0 : fld Tryz.prog 130 0 = some (0, 118) := by kernel_rfl
@[go_sem] theorem fl130_1 : fld Tryz.prog 130 1 = some (2, 125) := by kernel_rfl
@[go_sem] theorem sb130 : structB Tryz.prog 130 = true := by kernel_rfl
/- func(zone.body) zone.layout -/
@[go_sem] theorem ag131 : aggB Tryz.prog 131 = false := by kernel_rfl
@[go_sem] theorem ce131 : Tryz.prog.cellsOf 131 = 1 := by kernel_rfl
@[go_sem] theorem by131 : Tryz.prog.bytesOf 131 = 8 := by kernel_rfl
@[go_sem] theorem ze131 : zeroCells Tryz.prog 131 = [.v .nilFunc] := by kernel_rfl
@[go_sem] theorem zl131 : zeroLen Tryz.prog 131 = true := by kernel_rfl
@[go_sem] theorem un131 : (Tryz.prog.underlying 131).isSome = true := by kernel_rfl
/- func(int) bool -/
@[go_sem] theorem ag132 : aggB Tryz.prog 132 = false := by kernel_rfl
@[go_sem] theorem ce132 : Tryz.prog.cellsOf 132 = 1 := by kernel_rfl
@[go_sem] theorem by132 : Tryz.prog.bytesOf 132 = 8 := by kernel_rfl
@[go_sem] theorem ze132 : zeroCells Tryz.prog 132 = [.v .nilFunc] := by kernel_rfl
@[go_sem] theorem zl132 : zeroLen Tryz.prog 132 = true := by kernel_rfl
@[go_sem] theorem un132 : (Tryz.prog.underlying 132).isSome = true := by kernel_rfl
/- func([]api.Datum, []api.Datum) bool -/
@[go_sem] theorem ag134 : aggB Tryz.prog 134 = false := by kernel_rfl
@[go_sem] theorem ce134 : Tryz.prog.cellsOf 134 = 1 := by kernel_rfl
@[go_sem] theorem by134 : Tryz.prog.bytesOf 134 = 8 := by kernel_rfl
@[go_sem] theorem ze134 : zeroCells Tryz.prog 134 = [.v .nilFunc] := by kernel_rfl
@[go_sem] theorem zl134 : zeroLen Tryz.prog 134 = true := by kernel_rfl
@[go_sem] theorem un134 : (Tryz.prog.underlying 134).isSome = true := by kernel_rfl
/- func([]api.Sig, []api.Sig) bool -/
@[go_sem] theorem ag135 : aggB Tryz.prog 135 = false := by kernel_rfl
@[go_sem] theorem ce135 : Tryz.prog.cellsOf 135 = 1 := by kernel_rfl
@[go_sem] theorem by135 : Tryz.prog.bytesOf 135 = 8 := by kernel_rfl
@[go_sem] theorem ze135 : zeroCells Tryz.prog 135 = [.v .nilFunc] := by kernel_rfl
@[go_sem] theorem zl135 : zeroLen Tryz.prog 135 = true := by kernel_rfl
@[go_sem] theorem un135 : (Tryz.prog.underlying 135).isSome = true := by kernel_rfl
/- func(api.Set, api.Set) bool -/
@[go_sem] theorem ag136 : aggB Tryz.prog 136 = false := by kernel_rfl
@[go_sem] theorem ce136 : Tryz.prog.cellsOf 136 = 1 := by kernel_rfl
@[go_sem] theorem by136 : Tryz.prog.bytesOf 136 = 8 := by kernel_rfl
@[go_sem] theorem ze136 : zeroCells Tryz.prog 136 = [.v .nilFunc] := by kernel_rfl
@[go_sem] theorem zl136 : zeroLen Tryz.prog 136 = true := by kernel_rfl
@[go_sem] theorem un136 : (Tryz.prog.underlying 136).isSome = true := by kernel_rfl
/- func(api.Delta, api.Delta) (api.Delta, api.Errno) -/
@[go_sem] theorem ag137 : aggB Tryz.prog 137 = false := by kernel_rfl
@[go_sem] theorem ce137 : Tryz.prog.cellsOf 137 = 1 := by kernel_rfl
@[go_sem] theorem by137 : Tryz.prog.bytesOf 137 = 8 := by kernel_rfl
@[go_sem] theorem ze137 : zeroCells Tryz.prog 137 = [.v .nilFunc] := by kernel_rfl
@[go_sem] theorem zl137 : zeroLen Tryz.prog 137 = true := by kernel_rfl
@[go_sem] theorem un137 : (Tryz.prog.underlying 137).isSome = true := by kernel_rfl
/- func([]api.Signed, []api.Signed, func(api.Signed, api.Signed) bool) bool -/
@[go_sem] theorem ag138 : aggB Tryz.prog 138 = false := by kernel_rfl
@[go_sem] theorem ce138 : Tryz.prog.cellsOf 138 = 1 := by kernel_rfl
@[go_sem] theorem by138 : Tryz.prog.bytesOf 138 = 8 := by kernel_rfl
@[go_sem] theorem ze138 : zeroCells Tryz.prog 138 = [.v .nilFunc] := by kernel_rfl
@[go_sem] theorem zl138 : zeroLen Tryz.prog 138 = true := by kernel_rfl
@[go_sem] theorem un138 : (Tryz.prog.underlying 138).isSome = true := by kernel_rfl
/- map[api.Question]bool -/
@[go_sem] theorem ag139 : aggB Tryz.prog 139 = false := by kernel_rfl
@[go_sem] theorem ce139 : Tryz.prog.cellsOf 139 = 1 := by kernel_rfl
@[go_sem] theorem by139 : Tryz.prog.bytesOf 139 = 8 := by kernel_rfl
@[go_sem] theorem ze139 : zeroCells Tryz.prog 139 = [.v (.map none)] := by kernel_rfl
@[go_sem] theorem zl139 : zeroLen Tryz.prog 139 = true := by kernel_rfl
@[go_sem] theorem un139 : (Tryz.prog.underlying 139).isSome = true := by kernel_rfl
@[go_sem] theorem mp139 : mapT Tryz.prog 139 = some (89, 4) := by kernel_rfl
@[go_sem] theorem zd4 : zeroD Tryz.prog 4 = .v (.bool false) := by kernel_rfl
@[go_sem] theorem hz4 : hasZero Tryz.prog 4 = true := by kernel_rfl
/- func(api.Question, api.Question) int -/
@[go_sem] theorem ag140 : aggB Tryz.prog 140 = false := by kernel_rfl
@[go_sem] theorem ce140 : Tryz.prog.cellsOf 140 = 1 := by kernel_rfl
@[go_sem] theorem by140 : Tryz.prog.bytesOf 140 = 8 := by kernel_rfl
@[go_sem] theorem ze140 : zeroCells Tryz.prog 140 = [.v .nilFunc] := by kernel_rfl
@[go_sem] theorem zl140 : zeroLen Tryz.prog 140 = true := by kernel_rfl
@[go_sem] theorem un140 : (Tryz.prog.underlying 140).isSome = true := by kernel_rfl
/- func([]api.Signed, int, int, int, func(api.Signed, api.Signed) int) -/
@[go_sem] theorem ag141 : aggB Tryz.prog 141 = false := by kernel_rfl
@[go_sem] theorem ce141 : Tryz.prog.cellsOf 141 = 1 := by kernel_rfl
@[go_sem] theorem by141 : Tryz.prog.bytesOf 141 = 8 := by kernel_rfl
@[go_sem] theorem ze141 : zeroCells Tryz.prog 141 = [.v .nilFunc] := by kernel_rfl
@[go_sem] theorem zl141 : zeroLen Tryz.prog 141 = true := by kernel_rfl
@[go_sem] theorem un141 : (Tryz.prog.underlying 141).isSome = true := by kernel_rfl
/- func(uint) int -/
@[go_sem] theorem ag142 : aggB Tryz.prog 142 = false := by kernel_rfl
@[go_sem] theorem ce142 : Tryz.prog.cellsOf 142 = 1 := by kernel_rfl
@[go_sem] theorem by142 : Tryz.prog.bytesOf 142 = 8 := by kernel_rfl
@[go_sem] theorem ze142 : zeroCells Tryz.prog 142 = [.v .nilFunc] := by kernel_rfl
@[go_sem] theorem zl142 : zeroLen Tryz.prog 142 = true := by kernel_rfl
@[go_sem] theorem un142 : (Tryz.prog.underlying 142).isSome = true := by kernel_rfl
/- uint -/
@[go_sem] theorem ag143 : aggB Tryz.prog 143 = false := by kernel_rfl
@[go_sem] theorem ce143 : Tryz.prog.cellsOf 143 = 1 := by kernel_rfl
@[go_sem] theorem by143 : Tryz.prog.bytesOf 143 = 8 := by kernel_rfl
@[go_sem] theorem ze143 : zeroCells Tryz.prog 143 = [.v (.int .u64 0)] := by kernel_rfl
@[go_sem] theorem zl143 : zeroLen Tryz.prog 143 = true := by kernel_rfl
@[go_sem] theorem un143 : Tryz.prog.underlying 143 = some (.int .u64) := by kernel_rfl
/- func(api.Question) bool -/
@[go_sem] theorem ag144 : aggB Tryz.prog 144 = false := by kernel_rfl
@[go_sem] theorem ce144 : Tryz.prog.cellsOf 144 = 1 := by kernel_rfl
@[go_sem] theorem by144 : Tryz.prog.bytesOf 144 = 8 := by kernel_rfl
@[go_sem] theorem ze144 : zeroCells Tryz.prog 144 = [.v .nilFunc] := by kernel_rfl
@[go_sem] theorem zl144 : zeroLen Tryz.prog 144 = true := by kernel_rfl
@[go_sem] theorem un144 : (Tryz.prog.underlying 144).isSome = true := by kernel_rfl
/- func([]api.Signed, api.Question, func(api.Signed, api.Question) int) (int, bool) -/
@[go_sem] theorem ag145 : aggB Tryz.prog 145 = false := by kernel_rfl
@[go_sem] theorem ce145 : Tryz.prog.cellsOf 145 = 1 := by kernel_rfl
@[go_sem] theorem by145 : Tryz.prog.bytesOf 145 = 8 := by kernel_rfl
@[go_sem] theorem ze145 : zeroCells Tryz.prog 145 = [.v .nilFunc] := by kernel_rfl
@[go_sem] theorem zl145 : zeroLen Tryz.prog 145 = true := by kernel_rfl
@[go_sem] theorem un145 : (Tryz.prog.underlying 145).isSome = true := by kernel_rfl
/- func(string, int, string, int) int -/
@[go_sem] theorem ag146 : aggB Tryz.prog 146 = false := by kernel_rfl
@[go_sem] theorem ce146 : Tryz.prog.cellsOf 146 = 1 := by kernel_rfl
@[go_sem] theorem by146 : Tryz.prog.bytesOf 146 = 8 := by kernel_rfl
@[go_sem] theorem ze146 : zeroCells Tryz.prog 146 = [.v .nilFunc] := by kernel_rfl
@[go_sem] theorem zl146 : zeroLen Tryz.prog 146 = true := by kernel_rfl
@[go_sem] theorem un146 : (Tryz.prog.underlying 146).isSome = true := by kernel_rfl
/- func(api.Signed, api.Question) int -/
@[go_sem] theorem ag147 : aggB Tryz.prog 147 = false := by kernel_rfl
@[go_sem] theorem ce147 : Tryz.prog.cellsOf 147 = 1 := by kernel_rfl
@[go_sem] theorem by147 : Tryz.prog.bytesOf 147 = 8 := by kernel_rfl
@[go_sem] theorem ze147 : zeroCells Tryz.prog 147 = [.v .nilFunc] := by kernel_rfl
@[go_sem] theorem zl147 : zeroLen Tryz.prog 147 = true := by kernel_rfl
@[go_sem] theorem un147 : (Tryz.prog.underlying 147).isSome = true := by kernel_rfl
/- func(string) []string -/
@[go_sem] theorem ag148 : aggB Tryz.prog 148 = false := by kernel_rfl
@[go_sem] theorem ce148 : Tryz.prog.cellsOf 148 = 1 := by kernel_rfl
@[go_sem] theorem by148 : Tryz.prog.bytesOf 148 = 8 := by kernel_rfl
@[go_sem] theorem ze148 : zeroCells Tryz.prog 148 = [.v .nilFunc] := by kernel_rfl
@[go_sem] theorem zl148 : zeroLen Tryz.prog 148 = true := by kernel_rfl
@[go_sem] theorem un148 : (Tryz.prog.underlying 148).isSome = true := by kernel_rfl
/- func(int, int, int) bool -/
@[go_sem] theorem ag149 : aggB Tryz.prog 149 = false := by kernel_rfl
@[go_sem] theorem ce149 : Tryz.prog.cellsOf 149 = 1 := by kernel_rfl
@[go_sem] theorem by149 : Tryz.prog.bytesOf 149 = 8 := by kernel_rfl
@[go_sem] theorem ze149 : zeroCells Tryz.prog 149 = [.v .nilFunc] := by kernel_rfl
@[go_sem] theorem zl149 : zeroLen Tryz.prog 149 = true := by kernel_rfl
@[go_sem] theorem un149 : (Tryz.prog.underlying 149).isSome = true := by kernel_rfl
/- func(int, api.Datum) bool -/
@[go_sem] theorem ag150 : aggB Tryz.prog 150 = false := by kernel_rfl
@[go_sem] theorem ce150 : Tryz.prog.cellsOf 150 = 1 := by kernel_rfl
@[go_sem] theorem by150 : Tryz.prog.bytesOf 150 = 8 := by kernel_rfl
@[go_sem] theorem ze150 : zeroCells Tryz.prog 150 = [.v .nilFunc] := by kernel_rfl
@[go_sem] theorem zl150 : zeroLen Tryz.prog 150 = true := by kernel_rfl
@[go_sem] theorem un150 : (Tryz.prog.underlying 150).isSome = true := by kernel_rfl
/- func(api.Datum, api.Datum) bool -/
@[go_sem] theorem ag151 : aggB Tryz.prog 151 = false := by kernel_rfl
@[go_sem] theorem ce151 : Tryz.prog.cellsOf 151 = 1 := by kernel_rfl
@[go_sem] theorem by151 : Tryz.prog.bytesOf 151 = 8 := by kernel_rfl
@[go_sem] theorem ze151 : zeroCells Tryz.prog 151 = [.v .nilFunc] := by kernel_rfl
@[go_sem] theorem zl151 : zeroLen Tryz.prog 151 = true := by kernel_rfl
@[go_sem] theorem un151 : (Tryz.prog.underlying 151).isSome = true := by kernel_rfl
/- func(string, string) (int, api.Errno) -/
@[go_sem] theorem ag152 : aggB Tryz.prog 152 = false := by kernel_rfl
@[go_sem] theorem ce152 : Tryz.prog.cellsOf 152 = 1 := by kernel_rfl
@[go_sem] theorem by152 : Tryz.prog.bytesOf 152 = 8 := by kernel_rfl
@[go_sem] theorem ze152 : zeroCells Tryz.prog 152 = [.v .nilFunc] := by kernel_rfl
@[go_sem] theorem zl152 : zeroLen Tryz.prog 152 = true := by kernel_rfl
@[go_sem] theorem un152 : (Tryz.prog.underlying 152).isSome = true := by kernel_rfl
/- func(string, string) int -/
@[go_sem] theorem ag153 : aggB Tryz.prog 153 = false := by kernel_rfl
@[go_sem] theorem ce153 : Tryz.prog.cellsOf 153 = 1 := by kernel_rfl
@[go_sem] theorem by153 : Tryz.prog.bytesOf 153 = 8 := by kernel_rfl
@[go_sem] theorem ze153 : zeroCells Tryz.prog 153 = [.v .nilFunc] := by kernel_rfl
@[go_sem] theorem zl153 : zeroLen Tryz.prog 153 = true := by kernel_rfl
@[go_sem] theorem un153 : (Tryz.prog.underlying 153).isSome = true := by kernel_rfl
/- func(string, string) (bool, api.Errno) -/
@[go_sem] theorem ag154 : aggB Tryz.prog 154 = false := by kernel_rfl
@[go_sem] theorem ce154 : Tryz.prog.cellsOf 154 = 1 := by kernel_rfl
@[go_sem] theorem by154 : Tryz.prog.bytesOf 154 = 8 := by kernel_rfl
@[go_sem] theorem ze154 : zeroCells Tryz.prog 154 = [.v .nilFunc] := by kernel_rfl
@[go_sem] theorem zl154 : zeroLen Tryz.prog 154 = true := by kernel_rfl
@[go_sem] theorem un154 : (Tryz.prog.underlying 154).isSome = true := by kernel_rfl
/- map[string]bool -/
@[go_sem] theorem ag155 : aggB Tryz.prog 155 = false := by kernel_rfl
@[go_sem] theorem ce155 : Tryz.prog.cellsOf 155 = 1 := by kernel_rfl
@[go_sem] theorem by155 : Tryz.prog.bytesOf 155 = 8 := by kernel_rfl
@[go_sem] theorem ze155 : zeroCells Tryz.prog 155 = [.v (.map none)] := by kernel_rfl
@[go_sem] theorem zl155 : zeroLen Tryz.prog 155 = true := by kernel_rfl
@[go_sem] theorem un155 : (Tryz.prog.underlying 155).isSome = true := by kernel_rfl
@[go_sem] theorem mp155 : mapT Tryz.prog 155 = some (9, 4) := by kernel_rfl
@[go_sem] theorem ky9 : keyTy Tryz.prog 9 = true := by kernel_rfl
@[go_sem] theorem ko9 (x0 : ByteArray) : keyOk Tryz.prog 9 (.v (.string x0)) = true := by kernel_rfl
/- func(api.Question) api.Question -/
@[go_sem] theorem ag156 : aggB Tryz.prog 156 = false := by kernel_rfl
@[go_sem] theorem ce156 : Tryz.prog.cellsOf 156 = 1 := by kernel_rfl
@[go_sem] theorem by156 : Tryz.prog.bytesOf 156 = 8 := by kernel_rfl
@[go_sem] theorem ze156 : zeroCells Tryz.prog 156 = [.v .nilFunc] := by kernel_rfl
@[go_sem] theorem zl156 : zeroLen Tryz.prog 156 = true := by kernel_rfl
@[go_sem] theorem un156 : (Tryz.prog.underlying 156).isSome = true := by kernel_rfl
/- func(...[]api.Question) []api.Question -/
@[go_sem] theorem ag157 : aggB Tryz.prog 157 = false := by kernel_rfl
@[go_sem] theorem ce157 : Tryz.prog.cellsOf 157 = 1 := by kernel_rfl
@[go_sem] theorem by157 : Tryz.prog.bytesOf 157 = 8 := by kernel_rfl
@[go_sem] theorem ze157 : zeroCells Tryz.prog 157 = [.v .nilFunc] := by kernel_rfl
@[go_sem] theorem zl157 : zeroLen Tryz.prog 157 = true := by kernel_rfl
@[go_sem] theorem un157 : (Tryz.prog.underlying 157).isSome = true := by kernel_rfl
/- func([]api.Question, func(api.Question, api.Question) int) -/
@[go_sem] theorem ag158 : aggB Tryz.prog 158 = false := by kernel_rfl
@[go_sem] theorem ce158 : Tryz.prog.cellsOf 158 = 1 := by kernel_rfl
@[go_sem] theorem by158 : Tryz.prog.bytesOf 158 = 8 := by kernel_rfl
@[go_sem] theorem ze158 : zeroCells Tryz.prog 158 = [.v .nilFunc] := by kernel_rfl
@[go_sem] theorem zl158 : zeroLen Tryz.prog 158 = true := by kernel_rfl
@[go_sem] theorem un158 : (Tryz.prog.underlying 158).isSome = true := by kernel_rfl
/- func(func(api.Question) api.Question) func(api.Question, api.Question) int -/
@[go_sem] theorem ag159 : aggB Tryz.prog 159 = false := by kernel_rfl
@[go_sem] theorem ce159 : Tryz.prog.cellsOf 159 = 1 := by kernel_rfl
@[go_sem] theorem by159 : Tryz.prog.bytesOf 159 = 8 := by kernel_rfl
@[go_sem] theorem ze159 : zeroCells Tryz.prog 159 = [.v .nilFunc] := by kernel_rfl
@[go_sem] theorem zl159 : zeroLen Tryz.prog 159 = true := by kernel_rfl
@[go_sem] theorem un159 : (Tryz.prog.underlying 159).isSome = true := by kernel_rfl
/- func([]api.Question, func(api.Question) (api.Question, bool)) []api.Question -/
@[go_sem] theorem ag160 : aggB Tryz.prog 160 = false := by kernel_rfl
@[go_sem] theorem ce160 : Tryz.prog.cellsOf 160 = 1 := by kernel_rfl
@[go_sem] theorem by160 : Tryz.prog.bytesOf 160 = 8 := by kernel_rfl
@[go_sem] theorem ze160 : zeroCells Tryz.prog 160 = [.v .nilFunc] := by kernel_rfl
@[go_sem] theorem zl160 : zeroLen Tryz.prog 160 = true := by kernel_rfl
@[go_sem] theorem un160 : (Tryz.prog.underlying 160).isSome = true := by kernel_rfl
/- func([]api.Question) []api.Question -/
@[go_sem] theorem ag161 : aggB Tryz.prog 161 = false := by kernel_rfl
@[go_sem] theorem ce161 : Tryz.prog.cellsOf 161 = 1 := by kernel_rfl
@[go_sem] theorem by161 : Tryz.prog.bytesOf 161 = 8 := by kernel_rfl
@[go_sem] theorem ze161 : zeroCells Tryz.prog 161 = [.v .nilFunc] := by kernel_rfl
@[go_sem] theorem zl161 : zeroLen Tryz.prog 161 = true := by kernel_rfl
@[go_sem] theorem un161 : (Tryz.prog.underlying 161).isSome = true := by kernel_rfl
/- func(api.Question) (api.Question, bool) -/
@[go_sem] theorem ag162 : aggB Tryz.prog 162 = false := by kernel_rfl
@[go_sem] theorem ce162 : Tryz.prog.cellsOf 162 = 1 := by kernel_rfl
@[go_sem] theorem by162 : Tryz.prog.bytesOf 162 = 8 := by kernel_rfl
@[go_sem] theorem ze162 : zeroCells Tryz.prog 162 = [.v .nilFunc] := by kernel_rfl
@[go_sem] theorem zl162 : zeroLen Tryz.prog 162 = true := by kernel_rfl
@[go_sem] theorem un162 : (Tryz.prog.underlying 162).isSome = true := by kernel_rfl
/- name.text -/
@[go_sem] theorem ag163 : aggB Tryz.prog 163 = false := by kernel_rfl
@[go_sem] theorem ce163 : Tryz.prog.cellsOf 163 = 1 := by kernel_rfl
@[go_sem] theorem by163 : Tryz.prog.bytesOf 163 = 16 := by kernel_rfl
@[go_sem] theorem ze163 : zeroCells Tryz.prog 163 = [.v (.string ⟨⟨[]⟩⟩)] := by kernel_rfl
@[go_sem] theorem zl163 : zeroLen Tryz.prog 163 = true := by kernel_rfl
@[go_sem] theorem un163 : Tryz.prog.underlying 163 = some .string := by kernel_rfl
/- func(int, int) int -/
@[go_sem] theorem ag164 : aggB Tryz.prog 164 = false := by kernel_rfl
@[go_sem] theorem ce164 : Tryz.prog.cellsOf 164 = 1 := by kernel_rfl
@[go_sem] theorem by164 : Tryz.prog.bytesOf 164 = 8 := by kernel_rfl
@[go_sem] theorem ze164 : zeroCells Tryz.prog 164 = [.v .nilFunc] := by kernel_rfl
@[go_sem] theorem zl164 : zeroLen Tryz.prog 164 = true := by kernel_rfl
@[go_sem] theorem un164 : (Tryz.prog.underlying 164).isSome = true := by kernel_rfl
/- struct { text int; leastN int; mostN int; leastM int; mostM int; even bool; single bool; wild bool } -/
@[go_sem] theorem ag165 : aggB Tryz.prog 165 = true := by kernel_rfl
@[go_sem] theorem ce165 : Tryz.prog.cellsOf 165 = 8 := by kernel_rfl
@[go_sem] theorem by165 : Tryz.prog.bytesOf 165 = 48 := by kernel_rfl
@[go_sem] theorem ze165 : zeroCells Tryz.prog 165 = [.v (.int .i64 0), .v (.int .i64 0), .v (.int .i64 0), .v (.int .i64 0), .v (.int .i64 0), .v (.bool false), .v (.bool false), .v (.bool false)] := by kernel_rfl
@[go_sem] theorem zl165 : zeroLen Tryz.prog 165 = true := by kernel_rfl
@[go_sem] theorem un165 : (Tryz.prog.underlying 165).isSome = true := by kernel_rfl
@[go_sem] theorem fl165_0 : fld Tryz.prog 165 0 = some (0, 3) := by kernel_rfl
@[go_sem] theorem fl165_1 : fld Tryz.prog 165 1 = some (1, 3) := by kernel_rfl
@[go_sem] theorem fl165_2 : fld Tryz.prog 165 2 = some (2, 3) := by kernel_rfl
@[go_sem] theorem fl165_3 : fld Tryz.prog 165 3 = some (3, 3) := by kernel_rfl
@[go_sem] theorem fl165_4 : fld Tryz.prog 165 4 = some (4, 3) := by kernel_rfl
@[go_sem] theorem fl165_5 : fld Tryz.prog 165 5 = some (5, 4) := by kernel_rfl
@[go_sem] theorem fl165_6 : fld Tryz.prog 165 6 = some (6, 4) := by kernel_rfl
@[go_sem] theorem fl165_7 : fld Tryz.prog 165 7 = some (7, 4) := by kernel_rfl
@[go_sem] theorem sb165 : structB Tryz.prog 165 = true := by kernel_rfl
@[go_sem] theorem ek165 : eqKinds Tryz.prog 165 = some [.i, .i, .i, .i, .i, .b, .b, .b] := by kernel_rfl
/- record.rule -/
@[go_sem] theorem ag166 : aggB Tryz.prog 166 = true := by kernel_rfl
@[go_sem] theorem ce166 : Tryz.prog.cellsOf 166 = 8 := by kernel_rfl
@[go_sem] theorem by166 : Tryz.prog.bytesOf 166 = 48 := by kernel_rfl
@[go_sem] theorem ze166 : zeroCells Tryz.prog 166 = [.v (.int .i64 0), .v (.int .i64 0), .v (.int .i64 0), .v (.int .i64 0), .v (.int .i64 0), .v (.bool false), .v (.bool false), .v (.bool false)] := by kernel_rfl
@[go_sem] theorem zl166 : zeroLen Tryz.prog 166 = true := by kernel_rfl
@[go_sem] theorem un166 : (Tryz.prog.underlying 166).isSome = true := by kernel_rfl
@[go_sem] theorem fl166_0 : fld Tryz.prog 166 0 = some (0, 3) := by kernel_rfl
@[go_sem] theorem fl166_1 : fld Tryz.prog 166 1 = some (1, 3) := by kernel_rfl
@[go_sem] theorem fl166_2 : fld Tryz.prog 166 2 = some (2, 3) := by kernel_rfl
@[go_sem] theorem fl166_3 : fld Tryz.prog 166 3 = some (3, 3) := by kernel_rfl
@[go_sem] theorem fl166_4 : fld Tryz.prog 166 4 = some (4, 3) := by kernel_rfl
@[go_sem] theorem fl166_5 : fld Tryz.prog 166 5 = some (5, 4) := by kernel_rfl
@[go_sem] theorem fl166_6 : fld Tryz.prog 166 6 = some (6, 4) := by kernel_rfl
@[go_sem] theorem fl166_7 : fld Tryz.prog 166 7 = some (7, 4) := by kernel_rfl
@[go_sem] theorem sb166 : structB Tryz.prog 166 = true := by kernel_rfl
@[go_sem] theorem ek166 : eqKinds Tryz.prog 166 = some [.i, .i, .i, .i, .i, .b, .b, .b] := by kernel_rfl
/- [9]record.rule -/
@[go_sem] theorem ag167 : aggB Tryz.prog 167 = true := by kernel_rfl
@[go_sem] theorem ce167 : Tryz.prog.cellsOf 167 = 72 := by kernel_rfl
@[go_sem] theorem by167 : Tryz.prog.bytesOf 167 = 432 := by kernel_rfl
@[go_sem] theorem ze167 : zeroCells Tryz.prog 167 = [.v (.int .i64 0), .v (.int .i64 0), .v (.int .i64 0), .v (.int .i64 0), .v (.int .i64 0), .v (.bool false), .v (.bool false), .v (.bool false), .v (.int .i64 0), .v (.int .i64 0), .v (.int .i64 0), .v (.int .i64 0), .v (.int .i64 0), .v (.bool false), .v (.bool false), .v (.bool false), .v (.int .i64 0), .v (.int .i64 0), .v (.int .i64 0), .v (.int .i64 0), .v (.int .i64 0), .v (.bool false), .v (.bool false), .v (.bool false), .v (.int .i64 0), .v (.int .i64 0), .v (.int .i64 0), .v (.int .i64 0), .v (.int .i64 0), .v (.bool false), .v (.bool false), .v (.bool false), .v (.int .i64 0), .v (.int .i64 0), .v (.int .i64 0), .v (.int .i64 0), .v (.int .i64 0), .v (.bool false), .v (.bool false), .v (.bool false), .v (.int .i64 0), .v (.int .i64 0), .v (.int .i64 0), .v (.int .i64 0), .v (.int .i64 0), .v (.bool false), .v (.bool false), .v (.bool false), .v (.int .i64 0), .v (.int .i64 0), .v (.int .i64 0), .v (.int .i64 0), .v (.int .i64 0), .v (.bool false), .v (.bool false), .v (.bool false), .v (.int .i64 0), .v (.int .i64 0), .v (.int .i64 0), .v (.int .i64 0), .v (.int .i64 0), .v (.bool false), .v (.bool false), .v (.bool false), .v (.int .i64 0), .v (.int .i64 0), .v (.int .i64 0), .v (.int .i64 0), .v (.int .i64 0), .v (.bool false), .v (.bool false), .v (.bool false)] := by kernel_rfl
@[go_sem] theorem zl167 : zeroLen Tryz.prog 167 = true := by kernel_rfl
@[go_sem] theorem un167 : (Tryz.prog.underlying 167).isSome = true := by kernel_rfl
@[go_sem] theorem el167 : elemT Tryz.prog 167 = none := by kernel_rfl
@[go_sem] theorem ar167 : arrT Tryz.prog 167 = some (9, 166) := by kernel_rfl
/- func(record.rule, api.Datum) bool -/
@[go_sem] theorem ag168 : aggB Tryz.prog 168 = false := by kernel_rfl
@[go_sem] theorem ce168 : Tryz.prog.cellsOf 168 = 1 := by kernel_rfl
@[go_sem] theorem by168 : Tryz.prog.bytesOf 168 = 8 := by kernel_rfl
@[go_sem] theorem ze168 : zeroCells Tryz.prog 168 = [.v .nilFunc] := by kernel_rfl
@[go_sem] theorem zl168 : zeroLen Tryz.prog 168 = true := by kernel_rfl
@[go_sem] theorem un168 : (Tryz.prog.underlying 168).isSome = true := by kernel_rfl
/- func(api.Datum, api.Datum) int -/
@[go_sem] theorem ag169 : aggB Tryz.prog 169 = false := by kernel_rfl
@[go_sem] theorem ce169 : Tryz.prog.cellsOf 169 = 1 := by kernel_rfl
@[go_sem] theorem by169 : Tryz.prog.bytesOf 169 = 8 := by kernel_rfl
@[go_sem] theorem ze169 : zeroCells Tryz.prog 169 = [.v .nilFunc] := by kernel_rfl
@[go_sem] theorem zl169 : zeroLen Tryz.prog 169 = true := by kernel_rfl
@[go_sem] theorem un169 : (Tryz.prog.underlying 169).isSome = true := by kernel_rfl
/- func([]api.Signed, int, int, func(api.Signed, api.Signed) int) -/
@[go_sem] theorem ag170 : aggB Tryz.prog 170 = false := by kernel_rfl
@[go_sem] theorem ce170 : Tryz.prog.cellsOf 170 = 1 := by kernel_rfl
@[go_sem] theorem by170 : Tryz.prog.bytesOf 170 = 8 := by kernel_rfl
@[go_sem] theorem ze170 : zeroCells Tryz.prog 170 = [.v .nilFunc] := by kernel_rfl
@[go_sem] theorem zl170 : zeroLen Tryz.prog 170 = true := by kernel_rfl
@[go_sem] theorem un170 : (Tryz.prog.underlying 170).isSome = true := by kernel_rfl
/- slices.sortedHint -/
@[go_sem] theorem ag171 : aggB Tryz.prog 171 = false := by kernel_rfl
@[go_sem] theorem ce171 : Tryz.prog.cellsOf 171 = 1 := by kernel_rfl
@[go_sem] theorem by171 : Tryz.prog.bytesOf 171 = 8 := by kernel_rfl
@[go_sem] theorem ze171 : zeroCells Tryz.prog 171 = [.v (.int .i64 0)] := by kernel_rfl
@[go_sem] theorem zl171 : zeroLen Tryz.prog 171 = true := by kernel_rfl
@[go_sem] theorem un171 : Tryz.prog.underlying 171 = some (.int .i64) := by kernel_rfl
/- func([]api.Signed, int, int, func(api.Signed, api.Signed) int) (int, slices.sortedHint) -/
@[go_sem] theorem ag173 : aggB Tryz.prog 173 = false := by kernel_rfl
@[go_sem] theorem ce173 : Tryz.prog.cellsOf 173 = 1 := by kernel_rfl
@[go_sem] theorem by173 : Tryz.prog.bytesOf 173 = 8 := by kernel_rfl
@[go_sem] theorem ze173 : zeroCells Tryz.prog 173 = [.v .nilFunc] := by kernel_rfl
@[go_sem] theorem zl173 : zeroLen Tryz.prog 173 = true := by kernel_rfl
@[go_sem] theorem un173 : (Tryz.prog.underlying 173).isSome = true := by kernel_rfl
/- func([]api.Signed, int, int, func(api.Signed, api.Signed) int) bool -/
@[go_sem] theorem ag174 : aggB Tryz.prog 174 = false := by kernel_rfl
@[go_sem] theorem ce174 : Tryz.prog.cellsOf 174 = 1 := by kernel_rfl
@[go_sem] theorem by174 : Tryz.prog.bytesOf 174 = 8 := by kernel_rfl
@[go_sem] theorem ze174 : zeroCells Tryz.prog 174 = [.v .nilFunc] := by kernel_rfl
@[go_sem] theorem zl174 : zeroLen Tryz.prog 174 = true := by kernel_rfl
@[go_sem] theorem un174 : (Tryz.prog.underlying 174).isSome = true := by kernel_rfl
/- func([]api.Signed, int, int, int, func(api.Signed, api.Signed) int) int -/
@[go_sem] theorem ag175 : aggB Tryz.prog 175 = false := by kernel_rfl
@[go_sem] theorem ce175 : Tryz.prog.cellsOf 175 = 1 := by kernel_rfl
@[go_sem] theorem by175 : Tryz.prog.bytesOf 175 = 8 := by kernel_rfl
@[go_sem] theorem ze175 : zeroCells Tryz.prog 175 = [.v .nilFunc] := by kernel_rfl
@[go_sem] theorem zl175 : zeroLen Tryz.prog 175 = true := by kernel_rfl
@[go_sem] theorem un175 : (Tryz.prog.underlying 175).isSome = true := by kernel_rfl
/- func([]api.Signed, int, int, int, func(api.Signed, api.Signed) int) (int, bool) -/
@[go_sem] theorem ag176 : aggB Tryz.prog 176 = false := by kernel_rfl
@[go_sem] theorem ce176 : Tryz.prog.cellsOf 176 = 1 := by kernel_rfl
@[go_sem] theorem by176 : Tryz.prog.bytesOf 176 = 8 := by kernel_rfl
@[go_sem] theorem ze176 : zeroCells Tryz.prog 176 = [.v .nilFunc] := by kernel_rfl
@[go_sem] theorem zl176 : zeroLen Tryz.prog 176 = true := by kernel_rfl
@[go_sem] theorem un176 : (Tryz.prog.underlying 176).isSome = true := by kernel_rfl
/- func(uint32) int -/
@[go_sem] theorem ag177 : aggB Tryz.prog 177 = false := by kernel_rfl
@[go_sem] theorem ce177 : Tryz.prog.cellsOf 177 = 1 := by kernel_rfl
@[go_sem] theorem by177 : Tryz.prog.bytesOf 177 = 8 := by kernel_rfl
@[go_sem] theorem ze177 : zeroCells Tryz.prog 177 = [.v .nilFunc] := by kernel_rfl
@[go_sem] theorem zl177 : zeroLen Tryz.prog 177 = true := by kernel_rfl
@[go_sem] theorem un177 : (Tryz.prog.underlying 177).isSome = true := by kernel_rfl
/- uint32 -/
@[go_sem] theorem ag178 : aggB Tryz.prog 178 = false := by kernel_rfl
@[go_sem] theorem ce178 : Tryz.prog.cellsOf 178 = 1 := by kernel_rfl
@[go_sem] theorem by178 : Tryz.prog.bytesOf 178 = 4 := by kernel_rfl
@[go_sem] theorem ze178 : zeroCells Tryz.prog 178 = [.v (.int .u32 0)] := by kernel_rfl
@[go_sem] theorem zl178 : zeroLen Tryz.prog 178 = true := by kernel_rfl
@[go_sem] theorem un178 : Tryz.prog.underlying 178 = some (.int .u32) := by kernel_rfl
/- func(uint64) int -/
@[go_sem] theorem ag179 : aggB Tryz.prog 179 = false := by kernel_rfl
@[go_sem] theorem ce179 : Tryz.prog.cellsOf 179 = 1 := by kernel_rfl
@[go_sem] theorem by179 : Tryz.prog.bytesOf 179 = 8 := by kernel_rfl
@[go_sem] theorem ze179 : zeroCells Tryz.prog 179 = [.v .nilFunc] := by kernel_rfl
@[go_sem] theorem zl179 : zeroLen Tryz.prog 179 = true := by kernel_rfl
@[go_sem] theorem un179 : (Tryz.prog.underlying 179).isSome = true := by kernel_rfl
/- [][]api.Question -/
@[go_sem] theorem ag180 : aggB Tryz.prog 180 = false := by kernel_rfl
@[go_sem] theorem ce180 : Tryz.prog.cellsOf 180 = 1 := by kernel_rfl
@[go_sem] theorem by180 : Tryz.prog.bytesOf 180 = 24 := by kernel_rfl
@[go_sem] theorem ze180 : zeroCells Tryz.prog 180 = [.list true []] := by kernel_rfl
@[go_sem] theorem zl180 : zeroLen Tryz.prog 180 = true := by kernel_rfl
@[go_sem] theorem un180 : (Tryz.prog.underlying 180).isSome = true := by kernel_rfl
@[go_sem] theorem el180 : elemT Tryz.prog 180 = some 63 := by kernel_rfl
/- func([]api.Question, int) []api.Question -/
@[go_sem] theorem ag181 : aggB Tryz.prog 181 = false := by kernel_rfl
@[go_sem] theorem ce181 : Tryz.prog.cellsOf 181 = 1 := by kernel_rfl
@[go_sem] theorem by181 : Tryz.prog.bytesOf 181 = 8 := by kernel_rfl
@[go_sem] theorem ze181 : zeroCells Tryz.prog 181 = [.v .nilFunc] := by kernel_rfl
@[go_sem] theorem zl181 : zeroLen Tryz.prog 181 = true := by kernel_rfl
@[go_sem] theorem un181 : (Tryz.prog.underlying 181).isSome = true := by kernel_rfl
/- func([]api.Question, int, int, int, func(api.Question, api.Question) int) -/
@[go_sem] theorem ag182 : aggB Tryz.prog 182 = false := by kernel_rfl
@[go_sem] theorem ce182 : Tryz.prog.cellsOf 182 = 1 := by kernel_rfl
@[go_sem] theorem by182 : Tryz.prog.bytesOf 182 = 8 := by kernel_rfl
@[go_sem] theorem ze182 : zeroCells Tryz.prog 182 = [.v .nilFunc] := by kernel_rfl
@[go_sem] theorem zl182 : zeroLen Tryz.prog 182 = true := by kernel_rfl
@[go_sem] theorem un182 : (Tryz.prog.underlying 182).isSome = true := by kernel_rfl
/- func(func(string) bool) -/
@[go_sem] theorem ag183 : aggB Tryz.prog 183 = false := by kernel_rfl
@[go_sem] theorem ce183 : Tryz.prog.cellsOf 183 = 1 := by kernel_rfl
@[go_sem] theorem by183 : Tryz.prog.bytesOf 183 = 8 := by kernel_rfl
@[go_sem] theorem ze183 : zeroCells Tryz.prog 183 = [.v .nilFunc] := by kernel_rfl
@[go_sem] theorem zl183 : zeroLen Tryz.prog 183 = true := by kernel_rfl
@[go_sem] theorem un183 : (Tryz.prog.underlying 183).isSome = true := by kernel_rfl
/- func() (string, bool) -/
@[go_sem] theorem ag184 : aggB Tryz.prog 184 = false := by kernel_rfl
@[go_sem] theorem ce184 : Tryz.prog.cellsOf 184 = 1 := by kernel_rfl
@[go_sem] theorem by184 : Tryz.prog.bytesOf 184 = 8 := by kernel_rfl
@[go_sem] theorem ze184 : zeroCells Tryz.prog 184 = [.v .nilFunc] := by kernel_rfl
@[go_sem] theorem zl184 : zeroLen Tryz.prog 184 = true := by kernel_rfl
@[go_sem] theorem un184 : (Tryz.prog.underlying 184).isSome = true := by kernel_rfl
/- func() func() (string, bool) -/
@[go_sem] theorem ag185 : aggB Tryz.prog 185 = false := by kernel_rfl
@[go_sem] theorem ce185 : Tryz.prog.cellsOf 185 = 1 := by kernel_rfl
@[go_sem] theorem by185 : Tryz.prog.bytesOf 185 = 8 := by kernel_rfl
@[go_sem] theorem ze185 : zeroCells Tryz.prog 185 = [.v .nilFunc] := by kernel_rfl
@[go_sem] theorem zl185 : zeroLen Tryz.prog 185 = true := by kernel_rfl
@[go_sem] theorem un185 : (Tryz.prog.underlying 185).isSome = true := by kernel_rfl
/- func(...int) int -/
@[go_sem] theorem ag186 : aggB Tryz.prog 186 = false := by kernel_rfl
@[go_sem] theorem ce186 : Tryz.prog.cellsOf 186 = 1 := by kernel_rfl
@[go_sem] theorem by186 : Tryz.prog.bytesOf 186 = 8 := by kernel_rfl
@[go_sem] theorem ze186 : zeroCells Tryz.prog 186 = [.v .nilFunc] := by kernel_rfl
@[go_sem] theorem zl186 : zeroLen Tryz.prog 186 = true := by kernel_rfl
@[go_sem] theorem un186 : (Tryz.prog.underlying 186).isSome = true := by kernel_rfl
/- slices.xorshift -/
@[go_sem] theorem ag187 : aggB Tryz.prog 187 = false := by kernel_rfl
@[go_sem] theorem ce187 : Tryz.prog.cellsOf 187 = 1 := by kernel_rfl
@[go_sem] theorem by187 : Tryz.prog.bytesOf 187 = 8 := by kernel_rfl
@[go_sem] theorem ze187 : zeroCells Tryz.prog 187 = [.v (.int .u64 0)] := by kernel_rfl
@[go_sem] theorem zl187 : zeroLen Tryz.prog 187 = true := by kernel_rfl
@[go_sem] theorem un187 : Tryz.prog.underlying 187 = some (.int .u64) := by kernel_rfl
/- func(int) uint -/
@[go_sem] theorem ag188 : aggB Tryz.prog 188 = false := by kernel_rfl
@[go_sem] theorem ce188 : Tryz.prog.cellsOf 188 = 1 := by kernel_rfl
@[go_sem] theorem by188 : Tryz.prog.bytesOf 188 = 8 := by kernel_rfl
@[go_sem] theorem ze188 : zeroCells Tryz.prog 188 = [.v .nilFunc] := by kernel_rfl
@[go_sem] theorem zl188 : zeroLen Tryz.prog 188 = true := by kernel_rfl
@[go_sem] theorem un188 : (Tryz.prog.underlying 188).isSome = true := by kernel_rfl
/- func() uint64 -/
@[go_sem] theorem ag189 : aggB Tryz.prog 189 = false := by kernel_rfl
@[go_sem] theorem ce189 : Tryz.prog.cellsOf 189 = 1 := by kernel_rfl
@[go_sem] theorem by189 : Tryz.prog.bytesOf 189 = 8 := by kernel_rfl
@[go_sem] theorem ze189 : zeroCells Tryz.prog 189 = [.v .nilFunc] := by kernel_rfl
@[go_sem] theorem zl189 : zeroLen Tryz.prog 189 = true := by kernel_rfl
@[go_sem] theorem un189 : (Tryz.prog.underlying 189).isSome = true := by kernel_rfl
/- func([]api.Signed, int, *int, func(api.Signed, api.Signed) int) int -/
@[go_sem] theorem ag190 : aggB Tryz.prog 190 = false := by kernel_rfl
@[go_sem] theorem ce190 : Tryz.prog.cellsOf 190 = 1 := by kernel_rfl
@[go_sem] theorem by190 : Tryz.prog.bytesOf 190 = 8 := by kernel_rfl
@[go_sem] theorem ze190 : zeroCells Tryz.prog 190 = [.v .nilFunc] := by kernel_rfl
@[go_sem] theorem zl190 : zeroLen Tryz.prog 190 = true := by kernel_rfl
@[go_sem] theorem un190 : (Tryz.prog.underlying 190).isSome = true := by kernel_rfl
/- *int -/
@[go_sem] theorem ag191 : aggB Tryz.prog 191 = false := by kernel_rfl
@[go_sem] theorem ce191 : Tryz.prog.cellsOf 191 = 1 := by kernel_rfl
@[go_sem] theorem by191 : Tryz.prog.bytesOf 191 = 8 := by kernel_rfl
@[go_sem] theorem ze191 : zeroCells Tryz.prog 191 = [.v (.pointer none)] := by kernel_rfl
@[go_sem] theorem zl191 : zeroLen Tryz.prog 191 = true := by kernel_rfl
@[go_sem] theorem un191 : (Tryz.prog.underlying 191).isSome = true := by kernel_rfl
/- func([]api.Signed, int, int, int, *int, func(api.Signed, api.Signed) int) int -/
@[go_sem] theorem ag192 : aggB Tryz.prog 192 = false := by kernel_rfl
@[go_sem] theorem ce192 : Tryz.prog.cellsOf 192 = 1 := by kernel_rfl
@[go_sem] theorem by192 : Tryz.prog.bytesOf 192 = 8 := by kernel_rfl
@[go_sem] theorem ze192 : zeroCells Tryz.prog 192 = [.v .nilFunc] := by kernel_rfl
@[go_sem] theorem zl192 : zeroLen Tryz.prog 192 = true := by kernel_rfl
@[go_sem] theorem un192 : (Tryz.prog.underlying 192).isSome = true := by kernel_rfl
/- func([]api.Question, int, int, func(api.Question, api.Question) int) -/
@[go_sem] theorem ag193 : aggB Tryz.prog 193 = false := by kernel_rfl
@[go_sem] theorem ce193 : Tryz.prog.cellsOf 193 = 1 := by kernel_rfl
@[go_sem] theorem by193 : Tryz.prog.bytesOf 193 = 8 := by kernel_rfl
@[go_sem] theorem ze193 : zeroCells Tryz.prog 193 = [.v .nilFunc] := by kernel_rfl
@[go_sem] theorem zl193 : zeroLen Tryz.prog 193 = true := by kernel_rfl
@[go_sem] theorem un193 : (Tryz.prog.underlying 193).isSome = true := by kernel_rfl
/- func([]api.Question, int, int, func(api.Question, api.Question) int) (int, slices.sortedHint) -/
@[go_sem] theorem ag194 : aggB Tryz.prog 194 = false := by kernel_rfl
@[go_sem] theorem ce194 : Tryz.prog.cellsOf 194 = 1 := by kernel_rfl
@[go_sem] theorem by194 : Tryz.prog.bytesOf 194 = 8 := by kernel_rfl
@[go_sem] theorem ze194 : zeroCells Tryz.prog 194 = [.v .nilFunc] := by kernel_rfl
@[go_sem] theorem zl194 : zeroLen Tryz.prog 194 = true := by kernel_rfl
@[go_sem] theorem un194 : (Tryz.prog.underlying 194).isSome = true := by kernel_rfl
/- func([]api.Question, int, int, func(api.Question, api.Question) int) bool -/
@[go_sem] theorem ag195 : aggB Tryz.prog 195 = false := by kernel_rfl
@[go_sem] theorem ce195 : Tryz.prog.cellsOf 195 = 1 := by kernel_rfl
@[go_sem] theorem by195 : Tryz.prog.bytesOf 195 = 8 := by kernel_rfl
@[go_sem] theorem ze195 : zeroCells Tryz.prog 195 = [.v .nilFunc] := by kernel_rfl
@[go_sem] theorem zl195 : zeroLen Tryz.prog 195 = true := by kernel_rfl
@[go_sem] theorem un195 : (Tryz.prog.underlying 195).isSome = true := by kernel_rfl
/- func([]api.Question, int, int, int, func(api.Question, api.Question) int) int -/
@[go_sem] theorem ag196 : aggB Tryz.prog 196 = false := by kernel_rfl
@[go_sem] theorem ce196 : Tryz.prog.cellsOf 196 = 1 := by kernel_rfl
@[go_sem] theorem by196 : Tryz.prog.bytesOf 196 = 8 := by kernel_rfl
@[go_sem] theorem ze196 : zeroCells Tryz.prog 196 = [.v .nilFunc] := by kernel_rfl
@[go_sem] theorem zl196 : zeroLen Tryz.prog 196 = true := by kernel_rfl
@[go_sem] theorem un196 : (Tryz.prog.underlying 196).isSome = true := by kernel_rfl
/- func([]api.Question, int, int, int, func(api.Question, api.Question) int) (int, bool) -/
@[go_sem] theorem ag197 : aggB Tryz.prog 197 = false := by kernel_rfl
@[go_sem] theorem ce197 : Tryz.prog.cellsOf 197 = 1 := by kernel_rfl
@[go_sem] theorem by197 : Tryz.prog.bytesOf 197 = 8 := by kernel_rfl
@[go_sem] theorem ze197 : zeroCells Tryz.prog 197 = [.v .nilFunc] := by kernel_rfl
@[go_sem] theorem zl197 : zeroLen Tryz.prog 197 = true := by kernel_rfl
@[go_sem] theorem un197 : (Tryz.prog.underlying 197).isSome = true := by kernel_rfl
/- func(string, uint8) int -/
@[go_sem] theorem ag198 : aggB Tryz.prog 198 = false := by kernel_rfl
@[go_sem] theorem ce198 : Tryz.prog.cellsOf 198 = 1 := by kernel_rfl
@[go_sem] theorem by198 : Tryz.prog.bytesOf 198 = 8 := by kernel_rfl
@[go_sem] theorem ze198 : zeroCells Tryz.prog 198 = [.v .nilFunc] := by kernel_rfl
@[go_sem] theorem zl198 : zeroLen Tryz.prog 198 = true := by kernel_rfl
@[go_sem] theorem un198 : (Tryz.prog.underlying 198).isSome = true := by kernel_rfl
/- func(uint8, uint8, uint8) bool -/
@[go_sem] theorem ag199 : aggB Tryz.prog 199 = false := by kernel_rfl
@[go_sem] theorem ce199 : Tryz.prog.cellsOf 199 = 1 := by kernel_rfl
@[go_sem] theorem by199 : Tryz.prog.bytesOf 199 = 8 := by kernel_rfl
@[go_sem] theorem ze199 : zeroCells Tryz.prog 199 = [.v .nilFunc] := by kernel_rfl
@[go_sem] theorem zl199 : zeroLen Tryz.prog 199 = true := by kernel_rfl
@[go_sem] theorem un199 : (Tryz.prog.underlying 199).isSome = true := by kernel_rfl
/- *slices.xorshift -/
@[go_sem] theorem ag200 : aggB Tryz.prog 200 = false := by kernel_rfl
@[go_sem] theorem ce200 : Tryz.prog.cellsOf 200 = 1 := by kernel_rfl
@[go_sem] theorem by200 : Tryz.prog.bytesOf 200 = 8 := by kernel_rfl
@[go_sem] theorem ze200 : zeroCells Tryz.prog 200 = [.v (.pointer none)] := by kernel_rfl
@[go_sem] theorem zl200 : zeroLen Tryz.prog 200 = true := by kernel_rfl
@[go_sem] theorem un200 : (Tryz.prog.underlying 200).isSome = true := by kernel_rfl
/- func([]api.Signed, int, int, *int, func(api.Signed, api.Signed) int) (int, int) -/
@[go_sem] theorem ag202 : aggB Tryz.prog 202 = false := by kernel_rfl
@[go_sem] theorem ce202 : Tryz.prog.cellsOf 202 = 1 := by kernel_rfl
@[go_sem] theorem by202 : Tryz.prog.bytesOf 202 = 8 := by kernel_rfl
@[go_sem] theorem ze202 : zeroCells Tryz.prog 202 = [.v .nilFunc] := by kernel_rfl
@[go_sem] theorem zl202 : zeroLen Tryz.prog 202 = true := by kernel_rfl
@[go_sem] theorem un202 : (Tryz.prog.underlying 202).isSome = true := by kernel_rfl
/- func([]api.Question, int, *int, func(api.Question, api.Question) int) int -/
@[go_sem] theorem ag203 : aggB Tryz.prog 203 = false := by kernel_rfl
@[go_sem] theorem ce203 : Tryz.prog.cellsOf 203 = 1 := by kernel_rfl
@[go_sem] theorem by203 : Tryz.prog.bytesOf 203 = 8 := by kernel_rfl
@[go_sem] theorem ze203 : zeroCells Tryz.prog 203 = [.v .nilFunc] := by kernel_rfl
@[go_sem] theorem zl203 : zeroLen Tryz.prog 203 = true := by kernel_rfl
@[go_sem] theorem un203 : (Tryz.prog.underlying 203).isSome = true := by kernel_rfl
/- func([]api.Question, int, int, int, *int, func(api.Question, api.Question) int) int -/
@[go_sem] theorem ag204 : aggB Tryz.prog 204 = false := by kernel_rfl
@[go_sem] theorem ce204 : Tryz.prog.cellsOf 204 = 1 := by kernel_rfl
@[go_sem] theorem by204 : Tryz.prog.bytesOf 204 = 8 := by kernel_rfl
@[go_sem] theorem ze204 : zeroCells Tryz.prog 204 = [.v .nilFunc] := by kernel_rfl
@[go_sem] theorem zl204 : zeroLen Tryz.prog 204 = true := by kernel_rfl
@[go_sem] theorem un204 : (Tryz.prog.underlying 204).isSome = true := by kernel_rfl
/- func([]api.Question, int, int, *int, func(api.Question, api.Question) int) (int, int) -/
@[go_sem] theorem ag205 : aggB Tryz.prog 205 = false := by kernel_rfl
@[go_sem] theorem ce205 : Tryz.prog.cellsOf 205 = 1 := by kernel_rfl
@[go_sem] theorem by205 : Tryz.prog.bytesOf 205 = 8 := by kernel_rfl
@[go_sem] theorem ze205 : zeroCells Tryz.prog 205 = [.v .nilFunc] := by kernel_rfl
@[go_sem] theorem zl205 : zeroLen Tryz.prog 205 = true := by kernel_rfl
@[go_sem] theorem un205 : (Tryz.prog.underlying 205).isSome = true := by kernel_rfl
/- func() string -/
@[go_sem] theorem ag206 : aggB Tryz.prog 206 = false := by kernel_rfl
@[go_sem] theorem ce206 : Tryz.prog.cellsOf 206 = 1 := by kernel_rfl
@[go_sem] theorem by206 : Tryz.prog.bytesOf 206 = 8 := by kernel_rfl
@[go_sem] theorem ze206 : zeroCells Tryz.prog 206 = [.v .nilFunc] := by kernel_rfl
@[go_sem] theorem zl206 : zeroLen Tryz.prog 206 = true := by kernel_rfl
@[go_sem] theorem un206 : (Tryz.prog.underlying 206).isSome = true := by kernel_rfl
/- func() int -/
@[go_sem] theorem ag212 : aggB Tryz.prog 212 = false := by kernel_rfl
@[go_sem] theorem ce212 : Tryz.prog.cellsOf 212 = 1 := by kernel_rfl
@[go_sem] theorem by212 : Tryz.prog.bytesOf 212 = 8 := by kernel_rfl
@[go_sem] theorem ze212 : zeroCells Tryz.prog 212 = [.v .nilFunc] := by kernel_rfl
@[go_sem] theorem zl212 : zeroLen Tryz.prog 212 = true := by kernel_rfl
@[go_sem] theorem un212 : (Tryz.prog.underlying 212).isSome = true := by kernel_rfl
/- func(unsafe.Pointer, unsafe.Pointer) bool -/
@[go_sem] theorem ag215 : aggB Tryz.prog 215 = false := by kernel_rfl
@[go_sem] theorem ce215 : Tryz.prog.cellsOf 215 = 1 := by kernel_rfl
@[go_sem] theorem by215 : Tryz.prog.bytesOf 215 = 8 := by kernel_rfl
@[go_sem] theorem ze215 : zeroCells Tryz.prog 215 = [.v .nilFunc] := by kernel_rfl
@[go_sem] theorem zl215 : zeroLen Tryz.prog 215 = true := by kernel_rfl
@[go_sem] theorem un215 : (Tryz.prog.underlying 215).isSome = true := by kernel_rfl
/- *uint8 -/
@[go_sem] theorem ag216 : aggB Tryz.prog 216 = false := by kernel_rfl
@[go_sem] theorem ce216 : Tryz.prog.cellsOf 216 = 1 := by kernel_rfl
@[go_sem] theorem by216 : Tryz.prog.bytesOf 216 = 8 := by kernel_rfl
@[go_sem] theorem ze216 : zeroCells Tryz.prog 216 = [.v (.pointer none)] := by kernel_rfl
@[go_sem] theorem zl216 : zeroLen Tryz.prog 216 = true := by kernel_rfl
@[go_sem] theorem un216 : (Tryz.prog.underlying 216).isSome = true := by kernel_rfl
end Go.Proofs.YtipkfnkmdeopeaaGreatDoor
/-
  THE D LAYER, 16: a region and what follows it; forgetting; loops with a table of slots; functions told by a relation, and their calls. Conditions: none.
-/
namespace Go.DL
open Go.RowKit
variable {P : Program} {C : Con} {ro : Option Nat} {Q : Exit → S → Prop}

/-- a region -/
theorem dw_reg [Glob P] {s : S} {n nx : Nat} {t : Nat → D} {h : H} {ok : Prop} {e : Env} {id : Nat} {ops : Array Oper} {draw : Bool} (he : exec P (words P) C ops.toList s = ⟨n, t, h, nx, ok, e⟩) (hd : draw = true → P.follows .mixedOrders = true ∧ commOk C ops.toList = true ∧ backOk ops.toList = true) (hok : ok) (hq : Q .normal ⟨n, t, h, nx, True, e⟩) : DW P ro (.region id ops draw) Q s :=
  dw_region_eq (C := C) he hd hok hq
/-- a region with code behind it -/
theorem dw_step [Glob P] {s : S} {n nx : Nat} {t : Nat → D} {h : H} {ok : Prop} {e : Env} {id : Nat} {ops : Array Oper} {draw : Bool} {y : Code} (he : exec P (words P) C ops.toList s = ⟨n, t, h, nx, ok, e⟩) (hd : draw = true → P.follows .mixedOrders = true ∧ commOk C ops.toList = true ∧ backOk ops.toList = true) (hok : ok) (hq : DW P ro y Q ⟨n, t, h, nx, True, e⟩) : DW P ro (.seq (.region id ops draw) y) Q s :=
  dw_seq (dw_region_eq (C := C) he hd hok hq)

/-! ### names and rows -/
@[go_sem] theorem ne_add {r n i : Nat} (h : r < n) : (r = n + i) = False := by simp; omega
@[go_sem] theorem add_ne {r n i : Nat} (h : r < n) : (n + i = r) = False := by simp; omega
@[go_sem] theorem take_map_len {α β : Type} {f : α → β} {l : List α} : (l.map f).take l.length = l.map f := by rw [List.take_of_length_le]; simp
@[go_sem] theorem take_map_len1 {α β : Type} {f : α → β} {l : List α} {x : β} : (l.map f ++ [x]).take (l.length + 1) = l.map f ++ [x] := by rw [List.take_of_length_le]; simp
@[go_sem] theorem wkr_app : ∀ {a b : List (List D)}, wkr (a ++ b) = wkr a ++ wkr b
  | [], _ => rfl
  | r :: a, b => by simp only [List.cons_append, wkr, wkr_app]
attribute [go_sem] snap_rows0 nrr_append nrr nrs
@[go_sem] theorem snapOk_rows {h : H} {rows : List (List D)} : (∀ row ∈ rows, ∀ c ∈ row, snapOk h 0 c) = (nrr rows = true) := by
  apply propext
  refine ⟨fun k => nrr_of fun r hr => nrs_of fun c hc => k r hr c hc, fun k => snapOk_rows0 k⟩
@[go_sem] theorem nr_v {x : Value} : D.nr (.v x) = true := rfl
@[go_sem] theorem nr_list {f : Bool} {rows : List (List D)} : D.nr (.list f rows) = nrr rows := rfl

/-! ### tables of slots -/
def tab : List (Nat × D) → Nat → D
  | [], _ => .junk
  | (j, x) :: l, i => if i = j then x else tab l i
@[go_sem] theorem tab_hit {i : Nat} {x : D} {l : List (Nat × D)} : tab ((i, x) :: l) i = x := by simp [tab]
@[go_sem] theorem tab_miss {j i : Nat} {x : D} {l : List (Nat × D)} (h : (i = j) = False) : tab ((j, x) :: l) i = tab l i := by simp only [tab]; rw [if_neg (by rw [h]; exact id)]
/-- a slot is as the table says, or more is known of it -/
def Tb (t : Nat → D) (p : Nat × D) : Prop := t p.1 = p.2 ∨ wk (t p.1) = p.2
@[go_sem] theorem tb_eq {t : Nat → D} {i : Nat} {d : D} : Tb t (i, d) = (t i = d ∨ wk (t i) = d) := rfl
attribute [go_sem] true_or
theorem tab_sub {t : Nat → D} : ∀ {l : List (Nat × D)}, (∀ p ∈ l, Tb t p) → ∀ i, tab l i = t i ∨ tab l i = wk (t i) ∨ tab l i = .junk
  | [], _, _ => .inr (.inr rfl)
  | (j, x) :: l, h, i => by
    simp only [tab]
    split
    · rename_i e; subst e
      rcases h (i, x) (by simp) with h | h
      · exact .inl h.symm
      · exact .inr (.inl h.symm)
    · exact tab_sub (fun p hp => h p (by simp [hp])) i

/-! ### forgetting -/
def Mem.only (g : Mem) (h' : H) : Mem := { M := fun r => if (h' r).isSome then g.M r else none, U := g.U, I := g.I }
theorem only_M {g : Mem} {h' : H} (r : Nat) (_ : g.U r) : (g.only h').M r = g.M r ∨ (g.only h').M r = none := by
  show (if (h' r).isSome then g.M r else none) = g.M r ∨ (if (h' r).isSome then g.M r else none) = none
  split
  · exact .inl rfl
  · exact .inr rfl
theorem only_mono {g : Mem} {h' : H} {w : World} : Mono g (g.only h') w w := by
  refine ⟨rfl, rfl, rfl, Nat.le_refl _, Nat.le_refl _, fun _ h => h, only_M, fun r b c s h => .inl ⟨r, c, s, ?_⟩, fun _ h => h, fun _ h => .inl h, fun _ _ _ => rfl⟩
  · have h' : (if (h' r).isSome then g.M r else none) = some (some b, c, s) := h
    split at h'
    · exact h'
    · cases h'
theorem Rep.only {g : Mem} {h' : H} {w : World} {d : D} {v : Value} (h : Rep w g d v) : Rep w (g.only h') d v :=
  Rep.mono (g := g) (g' := g.only h') (fun _ hb => ⟨hb, rfl⟩) (fun _ h => h) only_M h
theorem HM.only [Glob P] {h h' : H} {g : Mem} {w : World} (hm : HM P h g w) (hh : ∀ r, h' r = h r ∨ h' r = none) : HM P h' (g.only h') w := by
  have inv : ∀ {r x}, (g.only h').M r = some x → g.M r = some x := by
    intro r x e
    have e : (if (h' r).isSome then g.M r else none) = some x := e
    split at e
    · exact e
    · cases e
  refine ⟨fun r hr => ?_, fun r bl hr => ?_, fun r r' b c c' s s' q1 q2 => hm.inj _ _ _ _ _ _ _ (inv q1) (inv q2), fun r hr => ?_, hm.imm, hm.gr⟩
  · show (if (h' r).isSome then g.M r else none) = none
    rw [hr]; rfl
  · have e : h r = some bl := by
      rcases hh r with e | e
      · rw [← e]; exact hr
      · rw [e] at hr; cases hr
    obtain ⟨blk, c, h1, h2, h3, h4, h5⟩ := hm.blk r bl e
    refine ⟨blk, c, by show (if (h' r).isSome then g.M r else none) = _; rw [hr]; exact h1, h2, h3, h4, ?_⟩
    rcases h5 with h5 | ⟨b, cur, rfl, h6, h7, h8, h9⟩
    · exact .inl h5
    · refine .inr ⟨b, cur, rfl, h6, h7, h8, fun i row hi => ⟨(h9 i row hi).1, fun j d hd => ?_⟩⟩
      obtain ⟨u, k3, k4, k5⟩ := (h9 i row hi).2 j d hd
      exact ⟨u, k3, k4, k5.only⟩
  · cases e : (g.only h').M r with
    | none => exact absurd e hr
    | some x => exact hm.used r (by rw [inv e]; simp)
theorem Marks.only {B : Nat} {g : Mem} {h' : H} {w : World} : ∀ {ds : List Deferred}, Marks B g ds w → Marks B (g.only h') ds w
  | [], _ => trivial
  | _ :: _, ⟨h1, h2⟩ => ⟨h1, Marks.only h2⟩
theorem St.forget [Glob P] {B : Nat} {s : S} {g : Mem} {a : Act} {w : World} (hs : St P B s g a w) {t' : Nat → D} {h' : H} {nx' : Nat} (ht : ∀ i, t' i = s.t i ∨ t' i = wk (s.t i) ∨ t' i = .junk) (hh : ∀ r, h' r = s.h r ∨ h' r = none) :
    St P B { n := s.n, t := t', h := h', nx := nx', e := s.e } (g.only h') a w := by
  refine ⟨hs.sz, fun i => ?_, hs.mem.only hh, hs.df.only, s.e.st P s.h g _ w w hs.mem only_mono hs.en, hs.bd⟩
  rcases ht i with e | e | e
  · show Rep w (g.only h') (t' i) _
    rw [e]; exact (hs.tm i).only
  · show Rep w (g.only h') (t' i) _
    rw [e]; exact (hs.tm i).wk.only
  · show Rep w (g.only h') (t' i) _
    rw [e]; exact .junk _
/-- LESS MAY BE SAID OF A STATE. -/
theorem dw_forget [Glob P] {c : Code} {s : S} (t' : Nat → D) (h' : H) (nx' : Nat) (ht : ∀ i, t' i = s.t i ∨ t' i = wk (s.t i) ∨ t' i = .junk) (hh : ∀ r, h' r = s.h r ∨ h' r = none) (hn : s.nx ≤ nx') (h : DW P ro c Q { n := s.n, t := t', h := h', nx := nx', e := s.e }) : DW P ro c Q s := by
  intro B g a w hs hU
  exact wpIn_mono (h B _ a w (hs.forget ht hh) fun r hr => Nat.lt_of_lt_of_le (hU r hr) hn) fun e a' w' ⟨s', g', q, r, m, u, v⟩ => ⟨s', g', q, r, only_mono.toX.trans m, u, v⟩
theorem dw_tab [Glob P] {c : Code} {s : S} (l : List (Nat × D)) (h' : H) (nx' : Nat) (ht : ∀ p ∈ l, Tb s.t p) (hh : ∀ r, h' r = s.h r ∨ h' r = none) (hn : s.nx ≤ nx') (h : DW P ro c Q { n := s.n, t := tab l, h := h', nx := nx', e := s.e }) : DW P ro c Q s :=
  dw_forget _ _ _ (tab_sub ht) hh hn h

/-- A LOOP, what is known at its head told by a table. -/
theorem dw_loop_tab [Glob P] {c : Code} {s : S} {α : Type} (A : α → Prop) (μ : α → Nat) (tb : α → List (Nat × D)) (hh : α → H) (nxx : α → Nat) (a0 : α) (hA : A a0) (ht : ∀ p ∈ tb a0, Tb s.t p) (hhp : ∀ r, hh a0 r = s.h r ∨ hh a0 r = none) (hn : s.nx ≤ nxx a0)
    (round : ∀ a, A a → DW P ro c (thenS (fun s' => ∃ a', A a' ∧ μ a' < μ a ∧ (∀ p ∈ tb a', Tb s'.t p) ∧ (∀ r, hh a' r = s'.h r ∨ hh a' r = none) ∧ s'.nx ≤ nxx a' ∧ s'.n = s.n ∧ s'.e = s.e) Q) { n := s.n, t := tab (tb a), h := hh a, nx := nxx a, e := s.e }) : DW P ro (.loop c) Q s := by
  intro B g a w hs hU
  refine wpIn_loop_ghost (fun k a' w' => ∃ x g', A x ∧ μ x = k ∧ St P B { n := s.n, t := tab (tb x), h := hh x, nx := nxx x, e := s.e } g' a' w' ∧ MonoX s.e.x g g' w w' ∧ ∀ r, g'.U r → r < nxx x) (μ a0) ⟨a0, _, hA, rfl, hs.forget (tab_sub ht) hhp, only_mono.toX, fun r hr => Nat.lt_of_lt_of_le (hU r hr) hn⟩ ?_
  rintro k a1 w1 ⟨x, g1, hx, rfl, hs1, hm1, hU1⟩
  refine wpIn_mono (round x hx B g1 a1 w1 hs1 hU1) ?_
  rintro e a2 w2 ⟨s2, g2, hq, hs2, hm2, hU2, hx2⟩
  cases e with
  | normal =>
    obtain ⟨x', h1, h2, h3, h4, h5, h6, h7⟩ := hq
    refine ⟨μ x', h2, x', g2.only (hh x'), h1, rfl, ?_, (hm1.trans hm2).trans only_mono.toX, fun r hr => Nat.lt_of_lt_of_le (hU2 r hr) h5⟩
    have := hs2.forget (nx' := nxx x') (tab_sub h3) h4
    rw [h6, h7] at this
    exact this
  | _ => exact ⟨s2, g2, hq, hs2, hm1.trans hm2, hU2, hx2⟩

/-! ### the blocks that are known, told by a table -/
def htab : List (Nat × Blk) → H
  | [] => fun _ => none
  | (r, b) :: l => upd (htab l) r (some b)
@[go_sem] theorem htab_nil : htab [] = fun _ => none := rfl
@[go_sem] theorem htab_cons {r : Nat} {b : Blk} {l : List (Nat × Blk)} : htab ((r, b) :: l) = upd (htab l) r (some b) := rfl
theorem htab_sub {h : H} : ∀ {l : List (Nat × Blk)}, (∀ p ∈ l, h p.1 = some p.2) → ∀ r, htab l r = h r ∨ htab l r = none
  | [], _, _ => .inr rfl
  | (j, x) :: l, hl, i => by
    simp only [htab, upd]
    split
    · rename_i e; subst e; exact .inl (hl (i, x) (by simp)).symm
    · exact htab_sub (fun p hp => hl p (by simp [hp])) i
theorem mem_fx {s : S} {keep : List Nat} {fx : List (Nat × D)} (hfx : keep.map (fun i => (i, s.t i)) = fx) : ∀ p ∈ fx, Tb s.t p := by
  intro p hp
  rw [← hfx] at hp
  obtain ⟨i, _, rfl⟩ := List.mem_map.1 hp
  exact .inl rfl
/-- a loop, with slots that stay as they are -/
theorem dw_loop_fix [Glob P] {c : Code} {s : S} {α : Type} (keep : List Nat) (A : α → Prop) (μ : α → Nat) (tb : α → List (Nat × D)) (hb : α → List (Nat × Blk)) (nxx : α → Nat) (a0 : α) {fx : List (Nat × D)} (hfx : keep.map (fun i => (i, s.t i)) = fx) (hA : A a0) (ht : ∀ p ∈ tb a0, Tb s.t p) (hh : ∀ p ∈ hb a0, s.h p.1 = some p.2) (hn : s.nx ≤ nxx a0)
    (round : ∀ a, A a → DW P ro c (thenS (fun s' => ∃ a', A a' ∧ μ a' < μ a ∧ (∀ p ∈ tb a', Tb s'.t p) ∧ (∀ p ∈ fx, Tb s'.t p) ∧ (∀ p ∈ hb a', s'.h p.1 = some p.2) ∧ s'.nx ≤ nxx a' ∧ s'.n = s.n ∧ s'.e = s.e) Q) { n := s.n, t := tab (tb a ++ fx), h := htab (hb a), nx := nxx a, e := s.e }) : DW P ro (.loop c) Q s :=
  dw_loop_tab A μ (fun a => tb a ++ fx) (fun a => htab (hb a)) nxx a0 hA (fun p hp => (List.mem_append.1 hp).elim (ht p) (mem_fx hfx p)) (htab_sub hh) hn fun a ha => (round a ha).mono fun e s' hq => by
    cases e with
    | normal =>
      obtain ⟨a', h1, h2, h3, h4, h5, h6, h7, h8⟩ := hq
      exact ⟨a', h1, h2, fun p hp => (List.mem_append.1 hp).elim (h3 p) (h4 p), htab_sub h5, h6, h7, h8⟩
    | _ => exact hq
/-- the rest of a walk, from less -/
theorem dw_cut [Glob P] {c : Code} {s : S} (keep : List Nat) (hb : List (Nat × Blk)) {fx : List (Nat × D)} (hfx : keep.map (fun i => (i, s.t i)) = fx) (hh : ∀ p ∈ hb, s.h p.1 = some p.2) (h : DW P ro c Q { n := s.n, t := tab fx, h := htab hb, nx := s.nx, e := s.e }) : DW P ro c Q s :=
  dw_tab fx (htab hb) s.nx (mem_fx hfx) (htab_sub hh) (Nat.le_refl _) h
/-- a list's length is bounded -/
theorem dw_len [Glob P] {c : Code} {s : S} (i : Nat) {f : Bool} {rows : List (List D)} (he : s.t i = .list f rows) (h : rows.length ≤ maxLen → DW P ro c Q s) : DW P ro c Q s := by
  intro B g a w hs hU
  refine h ?_ B g a w hs hU
  have hr := hs.tm i
  rw [he] at hr
  generalize a.tmps.getD i undef = v at hr
  cases hr with
  | empty => simp [maxLen]
  | list _ _ ad cap size cv hI hl hf hm hs hc hr => omega

/-- A NIL SLICE GETS A NAME: so that a loop that appends to it says one thing of it. -/
theorem dw_own [Glob P] {c : Code} {s : S} (i : Nat) (ty : TypeId) (hi : s.t i = .list true []) (hty : 0 < P.cellsOf ty) (h : DW P ro c Q { n := s.n, t := upd s.t i (.mrow s.nx 0 0), h := upd s.h s.nx (some ⟨ty, []⟩), nx := s.nx + 1, e := s.e }) : DW P ro c Q s := by
  intro B g a w hs hU
  have hnu : ¬ g.U s.nx := fun h => Nat.lt_irrefl _ (hU _ h)
  obtain ⟨g', q1, q2, q3, q4, q5⟩ := hs.mem.putNone (h' := upd s.h s.nx (some ⟨ty, []⟩)) s.nx ⟨ty, []⟩ hnu (upd_same _ _ _) (fun r hr => .inl (upd_ne _ _ _ _ hr)) hty rfl
  have hst : St P B { n := s.n, t := upd s.t i (.mrow s.nx 0 0), h := upd s.h s.nx (some ⟨ty, []⟩), nx := s.nx + 1, e := s.e } g' a w := by
    refine ⟨hs.sz, fun j => ?_, q4, hs.df.later hs.mem q5, Env.later hs.mem q5 hs.en, hs.bd⟩
    by_cases e : j = i
    · subst e
      simp only [upd_same]
      have hr := hs.tm j
      rw [hi] at hr
      generalize a.tmps.getD j undef = v at hr
      have key : ∃ x, v = .slice x 0 0 := by
        cases hr with
        | empty _ x cap hf hm => exact ⟨x, by rw [hf rfl]⟩
        | list _ _ ad cap size cv hI hl hf => exact ⟨some ad, by rw [hf rfl]; rfl⟩
      obtain ⟨x, rfl⟩ := key
      refine .mrow _ _ _ _ ⟨x, 0, rfl, Nat.le_refl _, fun h => absurd h (by omega)⟩ ((q2 _).2 (.inr rfl)) fun blk c sz he => ?_
      rw [q1] at he
      cases he
      exact ⟨⟨Nat.le_refl _, Nat.zero_le _⟩, .inl ⟨rfl, x, rfl⟩⟩
    · simp only [upd_ne _ _ _ _ e]
      exact (hs.tm j).later hs.mem q5
  exact wpIn_mono (h B g' a w hst (fun r hr => by
    rcases (q2 r).1 hr with h | h
    · exact Nat.lt_succ_of_lt (hU r h)
    · subst h; exact Nat.lt_succ_self _)) fun e a' w' ⟨s', g'', q, r, m, u, v⟩ => ⟨s', g'', q, r, q5.toX.trans m, u, v⟩

theorem empty_slice {w : World} {g : Mem} {v : Value} (hr : Rep w g (.list true []) v) : ∃ x, v = .slice x 0 0 := by
  cases hr with
  | empty _ x cap hf hm => exact ⟨x, by rw [hf rfl]⟩
  | list _ _ ad cap size cv hI hl hf => exact ⟨some ad, by rw [hf rfl]; rfl⟩
/-! ### functions that are told by a relation -/
/-- A FUNCTION, AT THESE ARGUMENTS, WITH THESE BLOCKS KNOWN; n: the first name that is free. R: what it hands back, the blocks known then, the first name that is free then. -/
def RCt (P : Program) [Glob P] (f : FuncId) (args : List D) (h : H) (n : Nat) (R : D → H → Nat → Prop) : Prop :=
  hasBody P f = true ∧ ∀ (w : World) (g : Mem) (vs : List Value), HM P h g w → (∀ r, g.U r → r < n) → Reps w g args vs →
    CallsIn Fence.wide 0 P f vs.toArray w fun e w' => ∃ v g' res h' n', R res h' n' ∧ e = .returned v ∧ Rep w' g' res v ∧ HM P h' g' w' ∧ Mono g g' w w' ∧ ∀ r, g'.U r → r < n'
theorem RCt.mono [Glob P] {f : FuncId} {args : List D} {h : H} {n : Nat} {R R' : D → H → Nat → Prop} (k : RCt P f args h n R) (i : ∀ d h' n', R d h' n' → R' d h' n') : RCt P f args h n R' :=
  ⟨k.1, fun w g vs h1 h2 h3 => (k.2 w g vs h1 h2 h3).mono fun _ _ ⟨v, g', res, h', n', q, r⟩ => ⟨v, g', res, h', n', i _ _ _ q, r⟩⟩
theorem none_above [Glob P] {h : H} {g : Mem} {w : World} {n : Nat} (hm : HM P h g w) (hU : ∀ r, g.U r → r < n) : ∀ r, n ≤ r → h r = none := by
  intro r hr
  cases hq : h r with
  | none => rfl
  | some bl =>
    obtain ⟨blk, c', h1, _⟩ := hm.blk r bl hq
    have := hU r (hm.used r (by rw [h1]; simp))
    omega
/-- **SUCH A CONTRACT, OUT OF A WALK.** -/
theorem rct_of_dw [Glob P] {f : FuncId} {fn : Func} {c : Code} {args : List D} {h : H} {n : Nat} {R : D → H → Nat → Prop} (hf : P.funcs[f]? = some fn) (hb : fn.body = some c) (hbd : hasBody P f = true) (hn : args.length ≤ fn.ntmps)
    (hw : (∀ r, n ≤ r → h r = none) → DW P none c (fun e s => (e = .normal ∨ e = .ret) ∧ resOk P s fn.results.toList ∧ ∃ h' n', (∀ r, h' r = s.h r ∨ h' r = none) ∧ s.nx ≤ n' ∧ R (resD P fn.results.toList s) h' n') { n := fn.ntmps, t := fun i => args.getD i .junk, h := h, nx := n }) : RCt P f args h n R := by
  refine ⟨hbd, fun w g vs hm hU hr => ?_⟩
  have hs := init_st (P := P) (n := fn.ntmps) hr hn hm (nx := n)
  refine callsIn_of_wp_marks (n := 0) hf hb trivial (wpIn_mono (F := Fence.wide) (hw (none_above hm hU) w.heap.size g _ w hs hU) ?_)
  rintro e a' w' ⟨s', g', ⟨he, ho, h', n', hh, hn', hR⟩, hs', hm', hU', _⟩
  have hm' := hm'.out
  have hlast : LeavesInM Fence.wide 0 P fn a'.tmps (fun e w' => ∃ v g' res h' n', R res h' n' ∧ e = .returned v ∧ Rep w' g' res v ∧ HM P h' g' w' ∧ Mono g g' w w' ∧ ∀ r, g'.U r → r < n') a'.defers .returning w' := by
    refine leaves_marks (P := P) a'.defers w' hs'.df fun w2 e0 e1 e2 e3 e4 e5 e6 e7 => ?_
    have hs2 := hs'.marks e4 e6 e7
    obtain ⟨v, h1, h2⟩ := results_sound (fn := fn) hs2 ho
    have mono2 : Mono g g' w w2 := by
      refine ⟨by rw [e1, hm'.os], by rw [e2, hm'.tape], by rw [e3, hm'.output], by rw [e4]; exact hm'.size, by rw [e0]; exact hm'.drawn, hm'.U, hm'.M, hm'.new, hm'.I, hm'.inew, fun k hk hne => ?_⟩
      rw [e5 k hk]; exact hm'.same k hk hne
    exact ⟨v, h1, v, g'.only h', _, h', n', hR, rfl, h2.only, hs2.mem.only hh, mono2.trans only_mono, fun r hr => Nat.lt_of_lt_of_le (hU' r hr) hn'⟩
  rcases he with rfl | rfl <;> exact hlast

/-! ### a region with one such call -/
theorem arr_at {α : Type} {a : Array α} {k : Nat} {o : α} (h : a.toList[k]? = some o) : a[k]? = some o := by rwa [Array.getElem?_toList] at h
/-- the operations from i on, j of them, in the text's order -/
theorem execSeg_sound [Glob P] {B : Nat} {ops : Array Oper} {b : Nat} {n : Nat} {Q : Exit → Act → World → Prop} {w0 : World} {g0 : Mem} {rest : List Nat} : ∀ (k i : Nat) (s : S) (g : Mem) (a : Act) (w : World), St P B s g a w → Mono g0 g w0 w → (∀ r, g.U r → r < b + i) →
    i + k ≤ ops.size → (execFrom P (words P) C ops.toList b i ((ops.toList.drop i).take k) s).ok →
    (∀ g' a' w', St P B (execFrom P (words P) C ops.toList b i ((ops.toList.drop i).take k) s) g' a' w' → Mono g0 g' w0 w' → (∀ r, g'.U r → r < b + (i + k)) → wpOpsIn (Fw ro) n P ops Q rest a' w') →
    wpOpsIn (Fw ro) n P ops Q (List.range' i k ++ rest) a w := by
  intro k
  induction k with
  | zero =>
    intro i s g a w hs hm hU hk hok hQ
    exact hQ g a w hs hm hU
  | succ k ih =>
    intro i s g a w hs hm hU hk hok hQ
    have hlt : i < ops.size := by omega
    have hd : (ops.toList.drop i).take (k + 1) = ops[i] :: (ops.toList.drop (i + 1)).take k := by rw [List.drop_eq_getElem_cons (by simpa using hlt)]; simp
    rw [hd] at hok hQ
    simp only [execFrom] at hok hQ
    rw [List.range'_succ, List.cons_append, wpOpsIn_cons]
    refine exec1_sound hs (b := b) (N := b + i) (fun h => by have := hU _ h; omega) hU (by simp [hlt]) (execFrom_ok hok) fun g' a' w' h1 h2 h3 => ?_
    refine ih (i + 1) _ g' a' w' h1 (hm.trans h2) (fun r hr => by rcases h3 r hr with h | h; · have := hU r h; omega
                                                                  · omega) (by omega) hok fun g'' a'' w'' q1 q2 q3 => hQ g'' a'' w'' q1 q2 fun r hr => by have := q3 r hr; omega

theorem Reps.wk {w : World} {g : Mem} {ds : List D} {vs : List Value} (h : Reps w g ds vs) : Reps w g (ds.map wk) vs :=
  ⟨by simpa using h.1, fun i d x h1 h2 => by obtain ⟨y, h3, rfl⟩ := map_at h1; exact (h.2 i y x h3 h2).wk⟩
/-- **A REGION WITH ONE CALL THAT IS TOLD BY A RELATION**: number k of its operations. -/
theorem dw_call [Glob P] {s s1 : S} {id : Nat} {ops : Array Oper} (k : Nat) {o : Oper} {f : Operand} {args : Array Operand} {ts : Array TypeId} {fid : FuncId} {first caps xs : List D} (R : D → H → Nat → Prop)
    (ho : ops[k]? = some o) (hop : o.op = .call { callee := .value f, args := args, argTypes := ts }) (hg : o.guard = none)
    (he : execFrom P (words P) C ops.toList s.nx 0 (ops.toList.take k) { n := s.n, t := s.t, h := s.h, nx := s.nx + k, ok := s.ok, e := s.e } = s1) (hok : s1.ok) (hd : dstOk s1.n o.dst = true)
    (hf : s1.ev f = .fn (.func fid) first caps) (hxg : (args.toList.map s1.ev).all sg = true) (hx : ((args.toList.map s1.ev).map sd).map wk = xs) (hct : RCt P fid (first ++ xs ++ caps) s1.h (s.nx + k) R)
    (hk : ∀ res h' n', R res h' n' → ∃ s2, execFrom P (words P) C ops.toList n' (k + 1) (ops.toList.drop (k + 1)) { n := s1.n, t := s1.put o.dst res, h := h', nx := n' + ops.size, ok := True, e := s1.e } = s2 ∧ s2.ok ∧ Q .normal s2.clear) :
    DW P ro (.region id ops false) Q s := by
  intro B g a w hs hU
  have hlt : k < ops.size := (Array.getElem?_eq_some_iff.1 ho).1
  refine wpIn_region ?_
  have hr : List.range ops.size = List.range' 0 k ++ (k :: List.range' (k + 1) (ops.size - (k + 1))) := by
    rw [List.range_eq_range']
    have : ops.size = k + ((ops.size - (k + 1)) + 1) := by omega
    conv => lhs; rw [this]
    rw [← List.range'_append_1, List.range'_succ]
    simp
  rw [hr]
  have hs0 : St P B { n := s.n, t := s.t, h := s.h, nx := s.nx + k, ok := s.ok, e := s.e } g a w := ⟨hs.sz, hs.tm, hs.mem, hs.df, hs.en, hs.bd⟩
  have e0 : (ops.toList.drop 0).take k = ops.toList.take k := rfl
  refine execSeg_sound (C := C) (b := s.nx) k 0 _ g a w hs0 (Mono.refl _ _) (fun r hr => by have := hU r hr; omega) (by omega) (by rw [e0, he]; exact hok) fun g1 a1 w1 hs1 hm1 hU1 => ?_
  rw [e0, he] at hs1
  rw [wpOpsIn_cons]
  unfold wpOpIn
  rw [ho]
  simp only
  have hw : Region.wanted o (yielded ops a1.tmps) = true := by simp [Region.wanted, hg]
  rw [if_pos hw]
  have hdef : ∀ c, o.op ≠ .defer c := by intro c e; rw [e] at hop; cases hop
  have hsem : o.semAt (Fw ro).round a1.eval = execOp a1.eval o := Oper.semAt_eq _ _ _ hdef
  refine ⟨fun _ _ => trivial, ?_⟩
  rw [hsem]
  obtain ⟨hbd, hct⟩ := hct
  have hfr := ev_rep hs1 f
  rw [hf] at hfr
  have hxr := Reps.wk (strips_rep (evs_rep hs1 args.toList) hxg)
  rw [hx] at hxr
  generalize hv : a1.eval f = vf at hfr
  cases hfr with | fn _ _ _ fs cs l1 l2 r1 r2 =>
  have hrun : (execOp a1.eval o).run P w1 = .ok (.enter fid (fs ++ args.map a1.eval ++ cs)) w1 := by
    simp [execOp, hop, resolve, Deferred.ofValue, hv, invoke, callFunc_run hbd]
  rw [hrun, Oper.uponIn_enter]
  have e : fs ++ args.map a1.eval ++ cs = (fs.toList ++ args.toList.map a1.eval ++ cs.toList).toArray := by apply Array.ext'; simp
  rw [e]
  refine ⟨fun h => by simp [Fw, Fence.wide] at h, callsIn_Fw ((hct w1 g1 _ hs1.mem (fun r hr => by have := hU1 r hr; omega) (Reps.append (Reps.append ⟨by simpa using l1, fun i d x h1 h2 => r1 i d x h1 (by simpa using h2)⟩ hxr) ⟨by simpa using l2, fun i d x h1 h2 => r2 i d x h1 (by simpa using h2)⟩)).mono ?_)⟩
  rintro e w' ⟨v, g', res, h', n', hR, rfl, q1, q2, q3, q4⟩
  obtain ⟨s2, e2, ok2, hQ⟩ := hk res h' n' hR
  have hs2 := put_st hs1 q3 q2 hd q1 True
  have hs3 : St P B { n := s1.n, t := s1.put o.dst res, h := h', nx := n' + ops.size, ok := True, e := s1.e } g' (a1.put o.dst v) w' := ⟨hs2.sz, hs2.tm, hs2.mem, hs2.df, hs2.en, hs2.bd⟩
  have hnx : ∀ (l : List Oper) (i : Nat) (u : S), (execFrom P (words P) C ops.toList n' i l u).nx = u.nx := by
    intro l
    induction l with
    | nil => intro i u; rfl
    | cons x l ih => intro i u; simp only [execFrom]; rw [ih, exec1_n.2]
  have hex : ∀ (l : List Oper) (i b : Nat) (u : S), (execFrom P (words P) C ops.toList b i l u).e = u.e := by
    intro l
    induction l with
    | nil => intro i b u; rfl
    | cons x l ih =>
      intro i b u
      simp only [execFrom]
      rw [ih]
      unfold exec1
      split <;> rfl
  have e3 : (ops.toList.drop (k + 1)).take (ops.size - (k + 1)) = ops.toList.drop (k + 1) := List.take_of_length_le (by simp)
  have := execSeg_sound (ro := ro) (P := P) (C := C) (B := B) (ops := ops) (b := n') (n := 0) (rest := []) (g0 := g) (w0 := w) (Q := fun e a' w' => ∃ s' g', Q e s' ∧ St P B s' g' a' w' ∧ MonoX s.e.x g g' w w' ∧ (∀ r, g'.U r → r < s'.nx) ∧ s'.e.x = s.e.x) (ops.size - (k + 1)) (k + 1) _ g' _ w' hs3 (hm1.trans q3) (fun r hr => by have := q4 r hr; omega) (by omega)
    (by rw [e3, e2]; exact ok2) fun g'' a'' w'' p1 p2 p3 => by
      rw [e3, e2] at p1
      refine ⟨_, g'', hQ, p1.clear, p2.toX, fun r hr => ?_, ?_⟩
      · have h3 := p3 r hr
        have h4 := hnx (ops.toList.drop (k + 1)) (k + 1) { n := s1.n, t := s1.put o.dst res, h := h', nx := n' + ops.size, ok := True, e := s1.e }
        rw [e2] at h4
        show r < s2.nx
        rw [h4]
        show r < n' + ops.size
        omega
      · have h5 := hex (ops.toList.drop (k + 1)) (k + 1) n' { n := s1.n, t := s1.put o.dst res, h := h', nx := n' + ops.size, ok := True, e := s1.e }
        rw [e2] at h5
        have h6 := hex (ops.toList.take k) 0 s.nx { n := s.n, t := s.t, h := s.h, nx := s.nx + k, ok := s.ok, e := s.e }
        rw [he] at h6
        show s2.e.x = s.e.x
        rw [h5]
        show s1.e.x = s.e.x
        rw [h6]
  rw [List.append_nil] at this
  exact this
end Go.DL
/-
  THE D LAYER, 17: ranges over functions: the statement, and the calls of yield. Conditions: none.
-/
namespace Go.DL
open Go.RowKit
variable {P : Program} {C : Con} {Q : Exit → S → Prop}

/-- A loop's record, ready (none) or done, with a jump pending. -/
def recAt (r : Loop) (j : Option Code) : Loop := { r with state := if j.isNone then .ready else .done, pending := j }
/-- The record of the loop lies there, and its slots are as t says. -/
def Env.loop (l : Nat) (r : Loop) (t : Nat → D) : Env where
  p g w := w.heap[l]? = some (.loop r) ∧ ¬ g.I l ∧ ∀ i, Rep w g (t i) (r.tmps.getD i undef)
  x := some l
  st P _ h g g' w w' hm k := fun ⟨h1, h2, h3⟩ => ⟨noCells_kept hm k h1 (fun c e f => by simp), fun hI => by
      rcases k.inew l hI with e | e | ⟨r, c, s, e⟩
      · exact h2 e
      · have := (Array.getElem?_eq_some_iff.1 h1).1; omega
      · exact noCells_M hm h1 (fun c e f => by simp) (fun c e => by simp) r c s e, fun i => (h3 i).later hm k⟩

theorem HM.keptX [Glob P] {h : H} {g g' : Mem} {w w' : World} {l : Nat} (hm : HM P h g w) (k : MonoX (some l) g g' w w') (hl : ¬ g.I l) : ∀ b, g.I b → g'.I b ∧ w'.heap[b]? = w.heap[b]? := by
  refine fun b hb => ⟨k.I b hb, k.same b (hm.imm b hb) (fun r c s e => ?_) (fun e => hl (by cases e; exact hb))⟩
  cases hr : h r with
  | none => rw [hm.dead r hr] at e; cases e
  | some bl =>
    obtain ⟨blk, c', e1, _, _, _, h5⟩ := hm.blk r bl hr
    rw [e] at e1
    simp only [Option.some.injEq, Prod.mk.injEq] at e1
    rcases h5 with ⟨h6, _⟩ | ⟨b', cur, h6, _, _, h7, _⟩
    · rw [← e1.1] at h6; cases h6
    · rw [← e1.1] at h6; cases h6; exact h7 hb
theorem noCells_keptX [Glob P] {h : H} {g g' : Mem} {w w' : World} {l : Nat} (hm : HM P h g w) (k : MonoX (some l) g g' w w') {D : Nat} {o : Obj} (hD : w.heap[D]? = some o) (ho : ∀ c e f, o ≠ .cells c e f) (hl : l ≠ D) (ho2 : ∀ c e, o ≠ .map c e := by intro c e; simp) : w'.heap[D]? = some o := by
  rw [k.same D (Array.getElem?_eq_some_iff.1 hD).1 (noCells_M hm hD ho ho2) (fun e => hl (by cases e; rfl))]; exact hD
theorem Marks.laterX [Glob P] {h : H} {g g' : Mem} {w w' : World} {l : Nat} (hm : HM P h g w) (k : MonoX (some l) g g' w w') {r : Loop} (hl : w.heap[l]? = some (.loop r)) {B : Nat} : ∀ {ds : List Deferred}, Marks B g ds w → Marks B g' ds w'
  | [], _ => trivial
  | d :: ds, ⟨⟨D, h1, h2, h3, h4, h5⟩, h6⟩ => ⟨⟨D, h1, noCells_keptX hm k h2 (fun c e f => by simp) (fun e => by subst e; rw [hl] at h2; cases h2), h3, h4, fun hI => by
      rcases k.inew D hI with e | e | ⟨r, c, s, e⟩
      · exact h5 e
      · have := (Array.getElem?_eq_some_iff.1 h2).1; omega
      · exact noCells_M hm h2 (fun c e f => by simp) (fun c e => by simp) r c s e⟩, h6.laterX hm k hl⟩
/-- a record is turned -/
theorem monoX_put {g : Mem} {w : World} {l : Nat} (o : Obj) : MonoX (some l) g g w (w.putObj l o) :=
  ⟨rfl, rfl, rfl, by simp, Nat.le_refl _, fun _ h => h, fun _ _ => .inl rfl, fun r _ c s h => .inl ⟨r, c, s, h⟩, fun _ h => h, fun _ h => .inl h, fun _ _ _ hx => World.putObj_heap_other (fun e => hx (by rw [e]))⟩
theorem HM.putLoop [Glob P] {h : H} {g : Mem} {w : World} {l : Nat} {r : Loop} (hm : HM P h g w) (hl : w.heap[l]? = some (.loop r)) (hI : ¬ g.I l) (o : Obj) : HM P h g (w.putObj l o) :=
  hm.marks (by simp) (fun k hk => World.putObj_heap_other (fun e => hI (e ▸ hk))) fun k o hk ho => World.putObj_heap_other (fun e' => by subst e'; rw [hl] at hk; cases hk; exact ho)

def setPs (t : Nat → D) (ps : List Nat) (ds : List D) : Nat → D := (ps.zip ds).foldl (fun t p => upd t p.1 p.2) t
@[go_sem] theorem setPs_nil {t : Nat → D} {ds : List D} : setPs t [] ds = t := rfl
@[go_sem] theorem setPs_cons {t : Nat → D} {p : Nat} {ps : List Nat} {d : D} {ds : List D} : setPs t (p :: ps) (d :: ds) = setPs (upd t p d) ps ds := rfl
theorem setPs_rep {w : World} {g : Mem} : ∀ (ps : List Nat) (ds : List D) (vs : List Value) (t : Nat → D) (tmps : Array Value), Reps w g ds vs → (∀ p ∈ ps, p < tmps.size) → (∀ i, Rep w g (t i) (tmps.getD i undef)) →
    ((ps.zip vs).foldl (fun tmps (p : Nat × Value) => tmps.setIfInBounds p.1 p.2) tmps).size = tmps.size ∧ ∀ i, Rep w g (setPs t ps ds i) (((ps.zip vs).foldl (fun tmps (p : Nat × Value) => tmps.setIfInBounds p.1 p.2) tmps).getD i undef)
  | [], _, _, _, _, _, _, h => ⟨rfl, h⟩
  | p :: ps, ds, vs, t, tmps, hr, hp, h => by
    cases ds with
    | nil => rw [hr.of_nil]; exact ⟨rfl, h⟩
    | cons d ds =>
      obtain ⟨x, xs, rfl, h1, h2⟩ := hr.of_cons
      have := setPs_rep ps ds xs (upd t p d) (tmps.setIfInBounds p x) h2 (fun q hq => by simpa using hp q (by simp [hq])) (fun i => by
        by_cases e : i = p
        · subst e
          have hlt := hp i (by simp)
          rw [upd_same]
          simpa [hlt] using h1
        · rw [upd_ne _ _ _ _ e]
          have : (tmps.setIfInBounds p x).getD i undef = tmps.getD i undef := by simp [Ne.symm e]
          rw [this]; exact h i)
      refine ⟨by simpa using this.1, this.2⟩

/-- **A REGION THAT CALLS yield**: number k of its operations; the rounds' body is walked there. -/
theorem dw_yield [Glob P] {s s1 : S} {id : Nat} {ops : Array Oper} (k : Nat) {o : Oper} {f : Operand} {args : Array Operand} {ts : Array TypeId} {l : Nat} {r : Loop} {t : Nat → D} {xs : List D}
    (ho : ops[k]? = some o) (hop : o.op = .call { callee := .value f, args := args, argTypes := ts }) (hg : o.guard = none) (hse : s.e = Env.loop l (recAt r none) t)
    (he : execFrom P (words P) C ops.toList s.nx 0 (ops.toList.take k) { n := s.n, t := s.t, h := s.h, nx := s.nx + k, ok := s.ok, e := s.e } = s1) (hok : s1.ok) (hd : dstOk s1.n o.dst = true)
    (hf : s1.ev f = .fn (.yield l) [] []) (hxg : (args.toList.map s1.ev).all sg = true) (hx : (args.toList.map s1.ev).map sd = xs) (hps : xs.length = r.params.size) (hpn : ∀ p ∈ r.params.toList, p < r.tmps.size)
    (hbody : DW P (some l) r.assign (thenS (fun s2 => s2.e = Env.tt ∧ DW P (some l) r.body (fun e s' => s'.e = Env.tt ∧ ∃ b j, (match e with | .normal => b = true ∧ j = none | .ret => b = false ∧ j = some .ret | .exit i => b = false ∧ j = some (.exit i) | _ => False) ∧
        ∃ s2, execFrom P (words P) C ops.toList s'.nx (k + 1) (ops.toList.drop (k + 1)) { n := s1.n, t := s1.put o.dst (.v (.bool b)), h := s'.h, nx := s'.nx + ops.size, ok := True, e := Env.loop l (recAt r j) t } = s2 ∧ s2.ok ∧ Q .normal s2.clear) s2) (fun _ _ => False))
      { n := r.tmps.size, t := setPs t r.params.toList xs, h := s1.h, nx := s.nx + k }) :
    DW P none (.region id ops false) Q s := by
  intro B g a w hs hU
  have hlt : k < ops.size := (Array.getElem?_eq_some_iff.1 ho).1
  have hex : ∀ (l : List Oper) (i b : Nat) (u : S), (execFrom P (words P) C ops.toList b i l u).e = u.e := by
    intro l
    induction l with
    | nil => intro i b u; rfl
    | cons x l ih =>
      intro i b u
      simp only [execFrom]
      rw [ih]
      unfold exec1
      split <;> rfl
  have hnxx : ∀ (l : List Oper) (i b : Nat) (u : S), (execFrom P (words P) C ops.toList b i l u).nx = u.nx := by
    intro l
    induction l with
    | nil => intro i b u; rfl
    | cons x l ih => intro i b u; simp only [execFrom]; rw [ih, exec1_n.2]
  refine wpIn_region ?_
  have hr : List.range ops.size = List.range' 0 k ++ (k :: List.range' (k + 1) (ops.size - (k + 1))) := by
    rw [List.range_eq_range']
    have : ops.size = k + ((ops.size - (k + 1)) + 1) := by omega
    conv => lhs; rw [this]
    rw [← List.range'_append_1, List.range'_succ]
    simp
  rw [hr]
  have hs0 : St P B { n := s.n, t := s.t, h := s.h, nx := s.nx + k, ok := s.ok, e := s.e } g a w := ⟨hs.sz, hs.tm, hs.mem, hs.df, hs.en, hs.bd⟩
  have e0 : (ops.toList.drop 0).take k = ops.toList.take k := rfl
  refine execSeg_sound (C := C) (b := s.nx) k 0 _ g a w hs0 (Mono.refl _ _) (fun r hr => by have := hU r hr; omega) (by omega) (by rw [e0, he]; exact hok) fun g1 a1 w1 hs1 hm1 hU1 => ?_
  rw [e0, he] at hs1
  have hs1e : s1.e = Env.loop l (recAt r none) t := by
    have h6 := hex (ops.toList.take k) 0 s.nx { n := s.n, t := s.t, h := s.h, nx := s.nx + k, ok := s.ok, e := s.e }
    rw [he] at h6
    rw [h6]; exact hse
  obtain ⟨hl1, hI1, ht1⟩ : (Env.loop l (recAt r none) t).p g1 w1 := by rw [← hs1e]; exact hs1.en
  rw [wpOpsIn_cons]
  unfold wpOpIn
  rw [ho]
  simp only
  have hw : Region.wanted o (yielded ops a1.tmps) = true := by simp [Region.wanted, hg]
  rw [if_pos hw]
  have hdef : ∀ c, o.op ≠ .defer c := by intro c e; rw [e] at hop; cases hop
  have hsem : o.semAt (Fw none).round a1.eval = execOp a1.eval o := Oper.semAt_eq _ _ _ hdef
  refine ⟨fun _ _ => trivial, ?_⟩
  rw [hsem]
  have hfr := ev_rep hs1 f
  rw [hf] at hfr
  have hxr := strips_rep (evs_rep hs1 args.toList) hxg
  rw [hx] at hxr
  generalize hv : a1.eval f = vf at hfr
  cases hfr with | fn _ _ _ fs cs l1 l2 r1 r2 =>
  have hfs : fs = #[] := by apply Array.eq_empty_of_size_eq_zero; simpa using l1.symm
  have hcs : cs = #[] := by apply Array.eq_empty_of_size_eq_zero; simpa using l2.symm
  subst hfs; subst hcs
  have hsz : (args.map a1.eval).size = (recAt r none).params.size := by
    have h1 := hxr.1
    show (args.map a1.eval).size = r.params.size
    rw [← hps, h1]; simp
  have hrun : (execOp a1.eval o).run P w1 = .ok (.round l r.fn ((r.params.zip (args.map a1.eval)).foldl (fun tmps (t, a) => tmps.setIfInBounds t a) r.tmps) r.assign r.body) w1 := by
    have := run_yield (P := P) (w := w1) (l := l) (r := recAt r none) (args := args.map a1.eval) hl1 hsz
    have e1 : (execOp a1.eval o).run P w1 = (Instr.yield l (args.map a1.eval)).run P w1 := by simp [execOp, hop, resolve, Deferred.ofValue, hv, invoke]
    rw [e1]; exact this
  rw [hrun, Oper.uponIn_round]
  refine ⟨fun h => by simp [Fw, Fence.wide] at h, ?_⟩
  obtain ⟨hz1, hz2⟩ := setPs_rep r.params.toList xs _ t r.tmps hxr hpn ht1
  have hzip : (r.params.zip (args.map a1.eval)).foldl (fun tmps (t, a) => tmps.setIfInBounds t a) r.tmps = (r.params.toList.zip (args.toList.map a1.eval)).foldl (fun tmps (p : Nat × Value) => tmps.setIfInBounds p.1 p.2) r.tmps := by
    rw [← Array.foldl_toList]; simp
  rw [hzip]
  generalize (r.params.toList.zip (args.toList.map a1.eval)).foldl (fun tmps (p : Nat × Value) => tmps.setIfInBounds p.1 p.2) r.tmps = tm at hz1 hz2
  have hsb : St P 0 { n := r.tmps.size, t := setPs t r.params.toList xs, h := s1.h, nx := s.nx + k } g1 { tmps := tm, defers := [] } w1 := ⟨hz1, hz2, hs1.mem, trivial, trivial, Nat.zero_le _⟩
  refine roundIn_of_wpIn trivial (wpIn_mono (hbody 0 g1 _ w1 hsb (fun r hr => by have := hU1 r hr; show r < s.nx + k; omega)) ?_)
  rintro e a2 w2 ⟨s2, g2, hq, hs2, hm2, hU2, hx2⟩
  cases e with
  | normal =>
    have hm2' : Mono g1 g2 w1 w2 := hm2.out
    have hl2 := noCells_kept hs1.mem hm2' hl1 (fun c e f => by simp)
    have hI2 : ¬ g2.I l := fun hI => by
      rcases hm2'.inew l hI with e | e | ⟨r, c, s, e⟩
      · exact hI1 e
      · have := (Array.getElem?_eq_some_iff.1 hl1).1; omega
      · exact noCells_M hs1.mem hl1 (fun c e f => by simp) (fun c e => by simp) r c s e
    refine ⟨_, run_beginRound hl2 rfl, ?_⟩
    have hlt2 : l < w2.heap.size := (Array.getElem?_eq_some_iff.1 hl2).1
    obtain ⟨he2, hbd⟩ := hq
    have hb2 : St P 0 s2 g2 a2 (w2.putObj l (.loop { recAt r none with state := .busy })) := by
      refine ⟨hs2.sz, fun i => (hs2.tm i).mono (fun b hb => ⟨hb, World.putObj_heap_other (fun e => hI2 (by rw [← e]; exact hb))⟩) (fun _ h => h) (fun _ _ => .inl rfl), hs2.mem.putLoop hl2 hI2 _, hs2.df.laterX hs2.mem (monoX_put _) hl2, ?_, Nat.zero_le _⟩
      rw [he2]; trivial
    refine wpIn_mono (hbd 0 g2 a2 _ hb2 hU2) ?_
    rintro e a3 w3 ⟨s3, g3, ⟨_, b, j, hcase, s4, e4, ok4, hQ⟩, hs3, hm3, hU3, _⟩
    rw [he2] at hm3
    have hm3' := hm3.out
    have hl2' : (w2.putObj l (.loop { recAt r none with state := .busy })).heap[l]? = some (.loop { recAt r none with state := .busy }) := World.putObj_heap_same hlt2
    have hl3 := noCells_kept hb2.mem hm3' hl2' (fun c e f => by simp)
    have hI3 : ¬ g3.I l := fun hI => by
      rcases hm3'.inew l hI with e | e | ⟨r, c, s, e⟩
      · exact hI2 e
      · simp at e; omega
      · exact noCells_M hb2.mem hl2' (fun c e f => by simp) (fun c e => by simp) r c s e
    have hlt3 : l < w3.heap.size := (Array.getElem?_eq_some_iff.1 hl3).1
    have fin : b = j.isNone → ∃ v w', (Instr.endRound l j).run P w3 = .ok v w' ∧ (fun e w'' => match e with
        | Ending.returned v => wpOpsIn (Fw none) 0 P ops (fun e a' w' => ∃ s' g', Q e s' ∧ St P B s' g' a' w' ∧ MonoX s.e.x g g' w w' ∧ (∀ r, g'.U r → r < s'.nx) ∧ s'.e.x = s.e.x) (List.range' (k + 1) (ops.size - (k + 1))) (a1.put o.dst v) w''
        | Ending.panicked chain => ∃ s' g', Q (.panic chain) s' ∧ St P B s' g' a1 w'' ∧ MonoX s.e.x g g' w w'' ∧ (∀ r, g'.U r → r < s'.nx) ∧ s'.e.x = s.e.x
        | Ending.outgrown => LetsOut (fun e a' w' => ∃ s' g', Q e s' ∧ St P B s' g' a' w' ∧ MonoX s.e.x g g' w w' ∧ (∀ r, g'.U r → r < s'.nx) ∧ s'.e.x = s.e.x)) (.returned v) w' := by
      rintro rfl
      refine ⟨_, _, run_endRound j hl3, ?_⟩
      have mX : MonoX (some l) g1 g3 w1 (w3.putObj l (.loop (recAt r j))) := hm2'.toX.trans ((monoX_put _).trans (hm3'.toX.trans (monoX_put _)))
      have kept := hs1.mem.keptX mX hI1
      have hbase : St P B { n := s1.n, t := s1.t, h := s3.h, nx := s3.nx + ops.size, ok := True, e := Env.loop l (recAt r j) t } g3 a1 (w3.putObj l (.loop (recAt r j))) :=
        ⟨hs1.sz, fun i => (hs1.tm i).mono kept mX.U mX.M, hs3.mem.putLoop hl3 hI3 _, hs1.df.laterX hs1.mem mX hl1, ⟨World.putObj_heap_same hlt3, hI3, fun i => (ht1 i).mono kept mX.U mX.M⟩, Nat.le_trans hs1.bd mX.size⟩
      have hput := put_st hbase (Mono.refl _ _) hbase.mem hd (.v (.bool j.isNone)) True
      have e3 : (ops.toList.drop (k + 1)).take (ops.size - (k + 1)) = ops.toList.drop (k + 1) := List.take_of_length_le (by simp)
      have := execSeg_sound (ro := none) (P := P) (C := C) (B := B) (ops := ops) (b := s3.nx) (n := 0) (rest := []) (g0 := g3) (w0 := w3.putObj l (.loop (recAt r j))) (Q := fun e a' w' => ∃ s' g', Q e s' ∧ St P B s' g' a' w' ∧ MonoX s.e.x g g' w w' ∧ (∀ r, g'.U r → r < s'.nx) ∧ s'.e.x = s.e.x) (ops.size - (k + 1)) (k + 1) _ g3 _ _ hput (Mono.refl _ _) (fun r hr => by have := hU3 r hr; omega) (by omega)
        (by rw [e3]; exact e4 ▸ ok4) fun g'' a'' w'' p1 p2 p3 => by
          rw [e3] at p1
          have p1 : St P B s4 g'' a'' w'' := e4 ▸ p1
          have hx : s.e.x = some l := by rw [hse]; rfl
          refine ⟨_, g'', hQ, p1.clear, ?_, fun r' hr' => ?_, ?_⟩
          · rw [hx]; exact hm1.toX.trans (mX.trans p2.toX)
          · have h3 := p3 r' hr'
            have h4 := hnxx (ops.toList.drop (k + 1)) (k + 1) s3.nx { n := s1.n, t := s1.put o.dst (.v (.bool j.isNone)), h := s3.h, nx := s3.nx + ops.size, ok := True, e := Env.loop l (recAt r j) t }
            rw [e4] at h4
            show r' < s4.nx
            rw [h4]
            show r' < s3.nx + ops.size
            omega
          · have h5 := hex (ops.toList.drop (k + 1)) (k + 1) s3.nx { n := s1.n, t := s1.put o.dst (.v (.bool j.isNone)), h := s3.h, nx := s3.nx + ops.size, ok := True, e := Env.loop l (recAt r j) t }
            rw [e4] at h5
            show s4.e.x = s.e.x
            rw [h5, hx]; rfl
      rw [List.append_nil] at this
      exact this
    cases e with
    | normal => obtain ⟨rfl, rfl⟩ := hcase; exact fin rfl
    | ret => obtain ⟨rfl, rfl⟩ := hcase; exact fin rfl
    | exit i => obtain ⟨rfl, rfl⟩ := hcase; exact fin rfl
    | _ => exact hcase.elim
  | _ => exact hq.elim

theorem HM.lay [Glob P] {h : H} {g : Mem} {w : World} (hm : HM P h g w) (o : Obj) : HM P h g (w.alloc o) ∧ Mono g g w (w.alloc o) := by
  have mono : Mono g g w (w.alloc o) :=
    ⟨rfl, rfl, rfl, by simp, Nat.le_refl _, fun _ h => h, fun _ _ => .inl rfl, fun r b c s h => .inl ⟨r, c, s, h⟩, fun _ h => h, fun b h => .inl h, fun b hb _ => Below.heap_alloc w o b hb⟩
  refine ⟨⟨hm.dead, fun r bl hr => ?_, hm.inj, hm.used, fun b hb => Nat.lt_of_lt_of_le (hm.imm b hb) (by simp), hm.gr.later (hm.kept mono)⟩, mono⟩
  obtain ⟨blk, c, h1, h2, h3, h4, h5⟩ := hm.blk r bl hr
  refine ⟨blk, c, h1, h2, h3, h4, ?_⟩
  rcases h5 with h5 | ⟨b, cur, rfl, h6, h7, h8, h9⟩
  · exact .inl h5
  · have hlt := (M_lt hm h1).1
    refine .inr ⟨b, cur, rfl, by rw [Below.heap_alloc w o b hlt]; exact h6, h7, h8, fun i row hi => ⟨(h9 i row hi).1, fun j d hd => ?_⟩⟩
    obtain ⟨u, k3, k4, k5⟩ := (h9 i row hi).2 j d hd
    exact ⟨u, k3, k4, k5.later hm mono⟩

/-- **A RANGE OVER A FUNCTION**: the function's body is walked, with yield in its hands. -/
theorem dw_rangeFunc [Glob P] {s : S} {gf : Operand} {ps : Array Tmp} {assign body : Code} {f : FuncId} {fn : Func} {c : Code} {first caps : List D} (he : s.e = Env.tt) (hev : s.ev gf = .fn (.func f) first caps) (hf : P.funcs[f]? = some fn) (hb : fn.body = some c) (hbd : hasBody P f = true)
    (hn : (first ++ [D.fn (.yield 0) [] []] ++ caps).length ≤ fn.ntmps) (hres : fn.results = #[])
    (walk : ∀ l r, r.params = ps → r.assign = assign → r.body = body → r.tmps.size = s.n → DW P none c (fun e s' => (e = .normal ∨ e = .ret) ∧ ∃ j, s'.e = Env.loop l (recAt r j) s.t ∧
        (match j with | none => Q .normal { n := s.n, t := s.t, h := s'.h, nx := s'.nx } | some .ret => Q .ret { n := s.n, t := s.t, h := s'.h, nx := s'.nx } | some (.exit i) => Q (.exit i) { n := s.n, t := s.t, h := s'.h, nx := s'.nx } | _ => False))
      { n := fn.ntmps, t := fun i => (first ++ [D.fn (.yield l) [] []] ++ caps).getD i .junk, h := s.h, nx := s.nx, e := Env.loop l (recAt r none) s.t }) : DW P none (.rangeFunc gf ps assign body) Q s := by
  intro B g a w hs hU
  refine wpIn_rangeFunc fun fn' _ => ?_
  let Dk := w.heap.size
  let l := w.heap.size + 1
  let r : Loop := { state := .ready, pending := none, fn := fn', tmps := a.tmps, params := ps, assign := assign, body := body, defers := w.heap.size }
  let w1 := (w.alloc (.deferred (some []))).alloc (.loop r)
  have hfr := ev_rep hs gf
  rw [hev] at hfr
  generalize hv : a.eval gf = vf at hfr
  cases hfr with | fn _ _ _ fs cs l1 l2 r1 r2 =>
  obtain ⟨q1, q2⟩ := hs.mem.lay (.deferred (some []))
  obtain ⟨q3, q4⟩ := q1.lay (.loop r)
  have mono1 : Mono g g w w1 := q2.trans q4
  have hl1 : w1.heap[l]? = some (.loop r) := by
    have := World.alloc_heap_new (w.alloc (.deferred (some []))) (.loop r)
    simpa [l, w1] using this
  have hD1 : w1.heap[Dk]? = some (.deferred (some [])) := by
    have h1 := World.alloc_heap_new w (.deferred (some []))
    have h2 := Below.heap_alloc (w.alloc (.deferred (some []))) (.loop r) Dk (by simp [Dk])
    exact h2.trans h1
  have hsz1 : w1.heap.size = w.heap.size + 2 := by simp [w1]
  have hIl : ¬ g.I l := fun h => by have := hs.mem.imm l h; simp [l] at this; omega
  have hID : ¬ g.I Dk := fun h => by have := hs.mem.imm Dk h; simp [Dk] at this
  refine ⟨l, _, w1, ⟨.fn (.func f) cs, fs ++ #[.func (.yield l) #[] #[]]⟩, w1, f, fs ++ #[.func (.yield l) #[] #[]] ++ cs, w1, run_enterLoop_outer _ _ _ _ _, ?_, fun _ _ => trivial, ?_, fun h => by simp [Fw, Fence.wide] at h, ?_⟩
  · have : a.eval (.const (Value.func (.yield l) #[] #[])) = Value.func (.yield l) #[] #[] := rfl
    simp [resolve, Deferred.ofValue, hv, this]
  · simp [invoke, callFunc_run hbd]
  have hargs : Reps w1 g (first ++ [D.fn (.yield l) [] []] ++ caps) (fs.toList ++ [Value.func (.yield l) #[] #[]] ++ cs.toList) := by
    refine Reps.append (Reps.append ⟨by simpa using l1, fun i d x h1 h2 => (r1 i d x h1 (by simpa using h2)).later hs.mem mono1⟩ (.cons (x := Value.func (.yield l) #[] #[]) (.fn (.yield l) [] [] #[] #[] rfl rfl (fun _ _ _ h => by simp at h) (fun _ _ _ h => by simp at h)) .nil)) ⟨by simpa using l2, fun i d x h1 h2 => (r2 i d x h1 (by simpa using h2)).later hs.mem mono1⟩
  have e : fs ++ #[.func (.yield l) #[] #[]] ++ cs = (fs.toList ++ [Value.func (.yield l) #[] #[]] ++ cs.toList).toArray := by apply Array.ext'; simp
  rw [e]
  have hn' : (first ++ [D.fn (.yield l) [] []] ++ caps).length ≤ fn.ntmps := by simpa using hn
  have hinit := init_st (P := P) (n := fn.ntmps) hargs hn' q3 (nx := s.nx)
  have hst : St P w1.heap.size { n := fn.ntmps, t := fun i => (first ++ [D.fn (.yield l) [] []] ++ caps).getD i .junk, h := s.h, nx := s.nx, e := Env.loop l (recAt r none) s.t } g _ w1 :=
    ⟨hinit.sz, hinit.tm, hinit.mem, hinit.df, ⟨hl1, hIl, fun i => (hs.tm i).later hs.mem mono1⟩, hinit.bd⟩
  refine callsIn_Fw (callsIn_of_wp_marks (n := 0) hf hb trivial (wpIn_mono (F := Fence.wide) (walk l r rfl rfl rfl hs.sz w1.heap.size g _ w1 hst hU) ?_))
  rintro e a' w' ⟨s', g', ⟨hne, j, hse, hq⟩, hs', hm', hU', _⟩
  have hm' : MonoX (some l) g g' w1 w' := hm'
  obtain ⟨hl', hIl', _⟩ : (Env.loop l (recAt r j) s.t).p g' w' := by rw [← hse]; exact hs'.en
  have hlast : LeavesInM Fence.wide 0 P fn a'.tmps (rangePost (Fw none) 0 P l (fun e a' w' => ∃ s' g', Q e s' ∧ St P B s' g' a' w' ∧ MonoX s.e.x g g' w w' ∧ (∀ r, g'.U r → r < s'.nx) ∧ s'.e.x = s.e.x) { a with defers := [{ target := .collected w.heap.size, args := #[] }] ++ a.defers }) a'.defers .returning w' := by
    refine leaves_marks (P := P) a'.defers w' hs'.df fun w2 e0 e1 e2 e3 e4 e5 e6 e7 => ?_
    refine ⟨.tuple #[], by simp [results, hres], ?_⟩
    have hll : l < w1.heap.size := by rw [hsz1]; simp [l]
    have hl2 : w2.heap[l]? = some (.loop (recAt r j)) := by rw [e5 l hll]; exact hl'
    have hl2lt : l < w2.heap.size := (Array.getElem?_eq_some_iff.1 hl2).1
    refine ⟨_, _, run_endLoop hl2 (by cases j <;> simp [recAt]), ?_⟩
    have same4 : ∀ b, b ≠ l → b < w1.heap.size → (w2.putObj l (.loop { recAt r j with state := .exhausted })).heap[b]? = w'.heap[b]? := fun b h1 h2 => by
      rw [World.putObj_heap_other h1, e5 b h2]
    have kept : ∀ b, g.I b → g'.I b ∧ (w2.putObj l (.loop { recAt r j with state := .exhausted })).heap[b]? = w.heap[b]? := fun b hb => by
      obtain ⟨k1, k2⟩ := q3.keptX hm' hIl b hb
      refine ⟨k1, ?_⟩
      rw [same4 b (fun e => hIl (e ▸ hb)) (q3.imm b hb), k2]
      exact (hs.mem.kept mono1 b hb).2
    have hIDk' : ¬ g'.I Dk := fun hI => by
      rcases hm'.inew Dk hI with e | e | ⟨r, c, s, e⟩
      · exact hID e
      · rw [hsz1] at e; simp [Dk] at e; omega
      · exact noCells_M q3 hD1 (fun c e f => by simp) (fun c e => by simp) r c s e
    have marks : ∀ ds : List Deferred, Marks B g ds w → (∀ d ∈ ds, d.target ≠ .collected Dk) ∧ Marks B g' ds (w2.putObj l (.loop { recAt r j with state := .exhausted })) := by
      intro ds
      induction ds with
      | nil => intro _; exact ⟨fun _ h => by simp at h, trivial⟩
      | cons d ds ih =>
        rintro ⟨⟨Dd, h1, h2, h3, h4, h5⟩, h6⟩
        obtain ⟨i1, i2⟩ := ih h6
        have hlt : Dd < w.heap.size := (Array.getElem?_eq_some_iff.1 h2).1
        have hne : Dd ≠ l := by simp [l]; omega
        have h21 : w1.heap[Dd]? = some (.deferred (some [])) := noCells_kept hs.mem mono1 h2 (fun c e f => by simp)
        refine ⟨fun d' hd' => ?_, ⟨Dd, h1, ?_, h3, h4, fun hI => ?_⟩, i2⟩
        · rcases List.mem_cons.1 hd' with rfl | h
          · rw [h1]; intro e; cases e; simp [Dk] at hlt
          · exact i1 d' h
        · rw [same4 Dd hne (by rw [hsz1]; omega)]
          exact noCells_keptX q3 hm' h21 (fun c e f => by simp) (Ne.symm hne)
        · rcases hm'.inew Dd hI with e | e | ⟨r, c, s, e⟩
          · exact h5 e
          · rw [hsz1] at e; omega
          · exact noCells_M q3 h21 (fun c e f => by simp) (fun c e => by simp) r c s e
    obtain ⟨mk1, mk2⟩ := marks a.defers hs.df
    have fin : St P B { n := s.n, t := s.t, h := s'.h, nx := s'.nx } g' { a with defers := [{ target := .collected w.heap.size, args := #[] }] ++ a.defers } (w2.putObj l (.loop { recAt r j with state := .exhausted })) := by
      refine ⟨hs.sz, fun i => (hs.tm i).mono kept hm'.U hm'.M, (hs'.mem.marks e4 e6 e7).putLoop hl2 hIl' _, ⟨⟨Dk, rfl, ?_, mk1, hs.bd, hIDk'⟩, mk2⟩, trivial, ?_⟩
      · rw [same4 Dk (by simp [Dk, l]) (by rw [hsz1]; simp [Dk])]
        exact noCells_keptX q3 hm' hD1 (fun c e f => by simp) (by simp [Dk, l])
      · simp only [World.putObj_size]
        rw [e4]
        exact Nat.le_trans hs.bd (Nat.le_trans mono1.size hm'.size)
    have mono4 : MonoX s.e.x g g' w (w2.putObj l (.loop { recAt r j with state := .exhausted })) := by
      refine ⟨by show w2.os = _; rw [e1, hm'.os, mono1.os], by show w2.tape = _; rw [e2, hm'.tape, mono1.tape], by show w2.output = _; rw [e3, hm'.output, mono1.output], by simp only [World.putObj_size]; rw [e4]; exact Nat.le_trans mono1.size hm'.size, by show w.drawn ≤ w2.drawn; rw [e0]; exact Nat.le_trans mono1.drawn hm'.drawn, hm'.U, hm'.M, fun r b c s h => ?_, hm'.I, fun b h => ?_, fun b h1 h2 _ => ?_⟩
      · rcases hm'.new r b c s h with h | h
        · exact .inl h
        · exact .inr (Nat.le_trans mono1.size h)
      · rcases hm'.inew b h with h | h | h
        · exact .inl h
        · exact .inr (.inl (Nat.le_trans mono1.size h))
        · exact .inr (.inr h)
      · have hne : b ≠ l := by simp [l]; omega
        rw [same4 b hne (by rw [hsz1]; omega), hm'.same b (by rw [hsz1]; omega) h2 (fun e => hne (by cases e; rfl))]
        exact mono1.same b h1 h2
    have hx : ({ n := s.n, t := s.t, h := s'.h, nx := s'.nx } : S).e.x = s.e.x := by rw [he]
    match j, hq with
    | none, hq => exact ⟨_, g', hq, fin, mono4, hU', hx⟩
    | some .ret, hq => exact wpIn_ret ⟨_, g', hq, fin, mono4, hU', hx⟩
    | some (.exit i), hq => exact wpIn_exit ⟨_, g', hq, fin, mono4, hU', hx⟩
  rcases hne with rfl | rfl <;> exact hlast
end Go.DL
