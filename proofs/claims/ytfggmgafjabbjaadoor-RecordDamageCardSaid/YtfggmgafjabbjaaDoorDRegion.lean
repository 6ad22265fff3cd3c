/-
  THE D LAYER, 12: one operation of a region; a region in the text's order. Conditions: none.
-/
import Derived.Test.YtfggmgafjabbjaaDoorDCall
import Derived.RangeFuncLeaves
set_option linter.unusedVariables false
namespace Go.DL
open Go.RowKit
variable {P : Program} {C : Con} {B : Nat}

/-- The marks of ranges over functions among the deferred calls. -/
def Marks (B : Nat) (g : Mem) : List Deferred → World → Prop
  | [], _ => True
  | d :: ds, w => (∃ D, d.target = .collected D ∧ w.heap[D]? = some (.deferred (some [])) ∧ (∀ d' ∈ ds, d'.target ≠ .collected D) ∧ B ≤ D ∧ ¬ g.I D) ∧ Marks B g ds w
theorem noCells_M [Glob P] {h : H} {g : Mem} {w : World} (hm : HM P h g w) {D : Nat} {o : Obj} (hD : w.heap[D]? = some o) (ho : ∀ c e f, o ≠ .cells c e f) : ∀ r c s, g.M r ≠ some (some D, c, s) := by
  intro r c s e
  · cases hr : h r with
    | none => rw [hm.dead r hr] at e; cases e
    | some bl =>
      obtain ⟨blk, c', h1, _, _, _, h5⟩ := hm.blk r bl hr
      rw [e] at h1
      simp only [Option.some.injEq, Prod.mk.injEq] at h1
      rcases h5 with ⟨h6, _⟩ | ⟨b', cur, h6, h7, _⟩
      · rw [← h1.1] at h6; cases h6
      · rw [← h1.1] at h6; cases h6
        rw [hD] at h7; cases h7
        exact ho _ _ _ rfl
theorem noCells_kept [Glob P] {h : H} {g g' : Mem} {w w' : World} (hm : HM P h g w) (k : Mono g g' w w') {D : Nat} {o : Obj} (hD : w.heap[D]? = some o) (ho : ∀ c e f, o ≠ .cells c e f) : w'.heap[D]? = some o := by
  rw [k.same D (Array.getElem?_eq_some_iff.1 hD).1 (noCells_M hm hD ho)]; exact hD
theorem Marks.later [Glob P] {h : H} {g g' : Mem} {w w' : World} (hm : HM P h g w) (k : Mono g g' w w') {B : Nat} : ∀ {ds : List Deferred}, Marks B g ds w → Marks B g' ds w'
  | [], _ => trivial
  | d :: ds, ⟨⟨D, h1, h2, h3, h4, h5⟩, h6⟩ => ⟨⟨D, h1, noCells_kept hm k h2 (fun c e f => by simp), h3, h4, fun hI => by
      rcases k.inew D hI with e | e | ⟨r, c, s, e⟩
      · exact h5 e
      · have := (Array.getElem?_eq_some_iff.1 h2).1; omega
      · exact noCells_M hm h2 (fun c e f => by simp) r c s e⟩, h6.later hm k⟩

/-- A MACHINE's STATE IS AS AN ABSTRACT ONE SAYS. -/
structure St (P : Program) [Glob P] (B : Nat) (s : S) (g : Mem) (a : Act) (w : World) : Prop where
  sz : a.tmps.size = s.n
  tm : ∀ i, Rep w g (s.t i) (a.tmps.getD i undef)
  mem : HM P s.h g w
  df : Marks B g a.defers w
  en : s.e.p g w
  bd : B ≤ w.heap.size

/-- fences that let everything in -/
def Fw (ro : Option Nat) : Fence := { Fence.wide with round := ro }
theorem callsIn_Fw [Glob P] {ro : Option Nat} {f : FuncId} {args : Array Value} {w : World} {R : Ending → World → Prop} {n m : Nat} (h : CallsIn Fence.wide n P f args w R) : CallsIn (Fw ro) m P f args w R :=
  ⟨trivial, fun cs _ => h.2 cs (room_wide _)⟩

theorem ev_rep [Glob P] {s : S} {g : Mem} {a : Act} {w : World} (hs : St P B s g a w) (x : Operand) : Rep w g (s.ev x) (a.eval x) := by
  cases x with
  | tmp t => exact hs.tm t
  | const v => exact ofV_rep w g v
  | global i => exact .v _
  | func f => exact .fn (.func f) [] [] #[] #[] rfl rfl (by simp) (by simp)
theorem evs_rep [Glob P] {s : S} {g : Mem} {a : Act} {w : World} (hs : St P B s g a w) : ∀ xs : List Operand, Reps w g (xs.map s.ev) (xs.map a.eval)
  | [] => .nil
  | x :: xs => .cons (ev_rep hs x) (evs_rep hs xs)
theorem strip_rep {w : World} {g : Mem} {d : D} {v : Value} (h : Rep w g d v) (hs : sg d = true) : Rep w g (sd d) v := by
  cases d <;> first | exact h | skip
  cases h with
  | cond _ _ _ ht hf => exact ht hs
theorem strips_rep {w : World} {g : Mem} : ∀ {ds : List D} {vs : List Value}, Reps w g ds vs → ds.all sg = true → Reps w g (ds.map sd) vs
  | [], vs, h, _ => by rw [h.of_nil]; exact .nil
  | d :: ds, vs, h, hs => by
    obtain ⟨x, xs, rfl, h1, h2⟩ := h.of_cons
    simp only [List.all_cons, Bool.and_eq_true] at hs
    exact .cons (strip_rep h1 hs.1) (strips_rep h2 hs.2)

theorem put_st [Glob P] {s : S} {g g' : Mem} {a : Act} {w w' : World} (hs : St P B s g a w) (k : Mono g g' w w') {h' : H} (hm : HM P h' g' w') {dst : Option Tmp} (hd : dstOk s.n dst = true) {d : D} {v : Value} (hv : Rep w' g' d v) (ok : Prop) :
    St P B { s with t := s.put dst d, h := h', ok := ok } g' (a.put dst v) w' := by
  refine ⟨?_, fun i => ?_, hm, ?_, Env.later hs.mem k hs.en, Nat.le_trans hs.bd k.size⟩
  · cases dst <;> simp [Act.put, hs.sz]
  · cases dst with
    | none => exact (hs.tm i).later hs.mem k
    | some j =>
      simp only [dstOk, decide_eq_true_eq] at hd
      simp only [S.put, Act.put]
      by_cases e : i = j
      · subst e
        rw [upd_same]
        have : (a.tmps.setIfInBounds i v).getD i undef = v := by
          have : i < a.tmps.size := by rw [hs.sz]; exact hd
          simp [this]
        rw [this]; exact hv
      · rw [upd_ne _ _ _ _ e]
        have : (a.tmps.setIfInBounds j v).getD i undef = a.tmps.getD i undef := by
          simp [Ne.symm e]
        rw [this]; exact (hs.tm i).later hs.mem k
  · have : (a.put dst v).defers = a.defers := by cases dst <;> rfl
    rw [this]; exact hs.df.later hs.mem k

theorem eff_h [Glob P] {W : Words} {op : Op} {xs : List D} {h : H} {b : Nat} (hc : cls C op ≠ .writes) : (eff P W C op xs h b).2.1 = h := by
  unfold eff
  split <;> first
    | rfl
    | (exfalso; exact hc rfl)
    | skip
  · have hb : C.bs = false := by
      cases hb : C.bs with
      | false => rfl
      | true => exact absurd (by simp [cls, hb]) hc
    simp only [hb, Bool.false_eq_true, if_false]
    rfl
  · rename_i f args argTypes
    unfold callD
    split
    · split <;> rfl
    · split <;> rfl
    · rfl

theorem isCall_spec {op : Op} (h : isCall op = true) : ∃ f args argTypes, op = .call { callee := .value f, args, argTypes } := by
  unfold isCall at h
  split at h
  · exact ⟨_, _, _, rfl⟩
  · cases h

/-- WHAT AN OPERATION DOES ON THE MACHINE, calls too. -/
theorem effG_sound [Glob P] {s : S} {g : Mem} {a : Act} {w : World} (hs : St P B s g a w) {b N : Nat} (hb : ¬ g.U b) (hN : ∀ r, g.U r → r < N) {o : Oper} (hc : (effG P (words P) C true o.op ((opArgs o.op).map s.ev) s.h b).2.2)
    {ro : Option Nat} {n : Nat} {K : Act → World → Prop} {Q : Exit → Act → World → Prop}
    (hK : ∀ v g' w', Rep w' g' (effG P (words P) C true o.op ((opArgs o.op).map s.ev) s.h b).1 v → HM P (effG P (words P) C true o.op ((opArgs o.op).map s.ev) s.h b).2.1 g' w' → Mono g g' w w' → (∀ r, g'.U r → g.U r ∨ r = b) → K (a.put o.dst v) w') :
    o.wpIn (Fw ro) n P a w K Q := by
  have hdef : ∀ c, o.op ≠ .defer c := by
    intro c e
    rw [e] at hc
    simp [effG, isPick, eff] at hc
  have hsem : o.semAt (Fw ro).round a.eval = execOp a.eval o := Oper.semAt_eq _ _ _ hdef
  refine ⟨fun _ _ => trivial, ?_⟩
  rw [hsem]
  have done : Does P g w b ((execOp a.eval o).run P w) (effG P (words P) C true o.op ((opArgs o.op).map s.ev) s.h b).1 (effG P (words P) C true o.op ((opArgs o.op).map s.ev) s.h b).2.1 → o.uponIn (Fw ro) n P a K Q ((execOp a.eval o).run P w) := by
    rintro ⟨v, g', w', hr, h1, h2, h3, h4⟩
    rcases hr with hr | ⟨hr, rfl⟩
    · rw [hr, Oper.uponIn_value]; exact hK v g' w' h1 h2 h3 h4
    · rw [hr, Oper.uponIn_skip]; exact hK undef g' w' h1 h2 h3 h4
  by_cases hp : isPick o.op = true
  · simp only [effG, hp, if_true] at hc hK done ⊢
    exact done (pick_sound hs.mem (evs_rep hs _) hp rfl hc)
  · simp only [effG, hp, if_false, Bool.false_eq_true] at hc hK done
    obtain ⟨h1, h2⟩ := hc
    have hx := strips_rep (evs_rep hs (opArgs o.op)) (h1 trivial)
    by_cases hcall : isCall o.op = true
    · obtain ⟨f, args, argTypes, ho⟩ := isCall_spec hcall
      rw [ho] at h2 hx hK
      simp only [eff, opArgs] at h2 hx hK
      obtain ⟨k, vs, hrun, hcalls⟩ := call_sound hs.mem hb hN ho (fun k => rfl) hx h2
      rw [hrun, Oper.uponIn_enter]
      refine ⟨fun h => by simp [Fw, Fence.wide] at h, callsIn_Fw (hcalls.mono ?_)⟩
      rintro e w' ⟨v, g', rfl, q1, q2, q3, q4⟩
      exact hK v g' w' q1 q2 q3 q4
    · exact done (eff_sound hs.mem hb hx (by simpa using hcall) h2)

theorem undef_st [Glob P] {s : S} {g : Mem} {a : Act} {w : World} (hs : St P B s g a w) {dst : Option Tmp} (hd : dstOk s.n dst = true) (d : D) (ok : Prop) :
    St P B { s with t := s.put dst (.cond false d), ok := ok } g (a.put dst undef) w :=
  put_st hs (Mono.refl g w) hs.mem hd (.cond false d undef (fun h => by cases h) (fun _ => rfl)) ok
theorem guard_val [Glob P] {s : S} {g : Mem} {a : Act} {w : World} (hs : St P B s g a w) {ops : Array Oper} {j : Nat} {want : Bool} (hk : gok (((ops.toList[j]?).bind (·.dst)).elim .junk s.t) = true) :
    (yielded ops a.tmps j == some want) = gval (((ops.toList[j]?).bind (·.dst)).elim .junk s.t) want := by
  rw [Array.getElem?_toList] at hk ⊢
  unfold yielded
  cases hd : (ops[j]?).bind (·.dst) with
  | none => rw [hd] at hk; simp [gok] at hk
  | some d =>
    rw [hd] at hk
    simp only [Option.elim, Option.bind_some] at hk ⊢
    have hr := hs.tm d
    have hv : ∀ v, a.tmps.getD d undef = v → v ≠ undef → a.tmps[d]? = some v := by
      intro v e hne
      cases hq : a.tmps[d]? with
      | none =>
        have hq' := Array.getElem?_eq_none_iff.1 hq
        simp only [Array.getD] at e
        rw [dif_neg (by omega)] at e
        exact absurd e.symm hne
      | some x => simp [hq] at e; rw [e]
    generalize hv0 : a.tmps.getD d undef = v0 at hr hv
    generalize hd0 : s.t d = d0 at hr hk
    cases hr with
    | v x =>
      cases v0 <;> simp only [gok] at hk <;> try (cases hk; done)
      rename_i bv
      rw [hv _ rfl (by simp [undef])]
      simp [gval]
    | cond g0 d1 _ ht hf =>
      cases g0 with
      | true =>
        have h1 := ht rfl
        cases h1 with
        | v x =>
          cases v0 <;> simp only [gok] at hk <;> try (cases hk; done)
          rename_i bv
          rw [hv _ rfl (by simp [undef])]
          simp [gval]
        | _ => simp [gok] at hk
      | false =>
        have h1 := hf rfl
        subst h1
        split
        · rename_i b e
          have hlt := (Array.getElem?_eq_some_iff.1 e).1
          rw [Array.getElem?_eq_getElem hlt] at e
          simp only [Array.getD, dif_pos hlt] at hv0
          simp only [Option.some.injEq] at e
          have := hv0.symm.trans e
          simp [undef] at this
        · have hz : gval (.cond false d1) want = false := by
            unfold gval
            split
            · rename_i e; cases e
            · rename_i e; cases e; simp
            · rfl
          rw [hz]; rfl
    | _ => simp [gok] at hk

/-- ONE OPERATION OF A REGION. -/
theorem exec1_sound [Glob P] {s : S} {g : Mem} {a : Act} {w : World} (hs : St P B s g a w) {b i N : Nat} (hb : ¬ g.U (b + i)) (hN : ∀ r, g.U r → r < N) {ops : Array Oper} {o : Oper} (hi : ops[i]? = some o) (hok : (exec1 P (words P) C ops.toList b i o s).ok)
    {ro : Option Nat} {n : Nat} {K : Act → World → Prop} {Q : Exit → Act → World → Prop}
    (hK : ∀ g' a' w', St P B (exec1 P (words P) C ops.toList b i o s) g' a' w' → Mono g g' w w' → (∀ r, g'.U r → g.U r ∨ r = b + i) → K a' w') : wpOpIn (Fw ro) n P ops Q i K a w := by
  unfold wpOpIn
  rw [hi]
  simp only
  unfold exec1 at hok hK
  cases hg : o.guard with
  | none =>
    rw [hg] at hok hK
    simp only at hok hK
    obtain ⟨_, h2, h3⟩ := hok
    have hw : Region.wanted o (yielded ops a.tmps) = true := by simp [Region.wanted, hg]
    rw [if_pos hw]
    exact effG_sound hs hb hN h3 fun v g' w' h4 h5 h6 h7 => hK g' _ w' (put_st hs h6 h5 h2 h4 _) h6 h7
  | some jw =>
    obtain ⟨j, want⟩ := jw
    rw [hg] at hok hK
    simp only at hok hK
    obtain ⟨_, h2, h3, h4, h5⟩ := hok
    have hgv := guard_val hs (want := want) h3
    have hwt : Region.wanted o (yielded ops a.tmps) = gval (((ops.toList[j]?).bind (·.dst)).elim .junk s.t) want := by simp only [Region.wanted, hg]; exact hgv
    rw [hwt]
    generalize gval (((ops.toList[j]?).bind (·.dst)).elim .junk s.t) want = gv at *
    cases gv with
    | false =>
      rw [if_neg (by simp)]
      exact ⟨fun _ _ => trivial, hK g _ w (undef_st hs h2 _ _) (Mono.refl g w) fun _ h => .inl h⟩
    | true =>
      rw [if_pos rfl]
      have he : (effG P (words P) C true o.op ((opArgs o.op).map s.ev) s.h (b + i)).2.1 = s.h := by
        unfold effG
        split
        · rfl
        · exact eff_h h4
      refine effG_sound hs hb hN (h5 rfl) fun v g' w' q1 q2 q3 q4 => ?_
      rw [he] at q2
      exact hK g' _ w' (put_st hs q3 q2 h2 (.cond true _ v (fun _ => q1) (fun h => by cases h)) _) q3 q4

theorem exec1_ok [Glob P] {W : Words} {L : List Oper} {b i : Nat} {o : Oper} {s : S} (h : (exec1 P W C L b i o s).ok) : s.ok := by
  unfold exec1 at h
  split at h
  · exact h.1
  · exact h.1
theorem exec1_n [Glob P] {W : Words} {L : List Oper} {b i : Nat} {o : Oper} {s : S} : (exec1 P W C L b i o s).n = s.n ∧ (exec1 P W C L b i o s).nx = s.nx := by
  unfold exec1
  split <;> exact ⟨rfl, rfl⟩
theorem execFrom_ok [Glob P] {W : Words} {L : List Oper} {b : Nat} : ∀ {os : List Oper} {i : Nat} {s : S}, (execFrom P W C L b i os s).ok → s.ok
  | [], _, _, h => h
  | _ :: _, _, _, h => exec1_ok (execFrom_ok (by exact h))

/-- A REGION, IN THE TEXT's ORDER. -/
theorem execFrom_sound [Glob P] {ops : Array Oper} {b : Nat} {ro : Option Nat} {n : Nat} {Q : Exit → Act → World → Prop} {w0 : World} {g0 : Mem} : ∀ (k i : Nat) (s : S) (g : Mem) (a : Act) (w : World), St P B s g a w → Mono g0 g w0 w → (∀ r, g.U r → r < b + i) →
    i + k = ops.size → (execFrom P (words P) C ops.toList b i (ops.toList.drop i) s).ok →
    (∀ g' a' w', St P B (execFrom P (words P) C ops.toList b i (ops.toList.drop i) s) g' a' w' → Mono g0 g' w0 w' → (∀ r, g'.U r → r < b + ops.size) → Q .normal a' w') →
    wpOpsIn (Fw ro) n P ops Q (List.range' i k) a w := by
  intro k
  induction k with
  | zero =>
    intro i s g a w hs hm hU hk hok hQ
    have : ops.toList.drop i = [] := List.drop_eq_nil_of_le (by simp; omega)
    rw [this] at hQ
    exact hQ g a w hs hm (fun r hr => by have := hU r hr; omega)
  | succ k ih =>
    intro i s g a w hs hm hU hk hok hQ
    have hlt : i < ops.size := by omega
    have hd : ops.toList.drop i = ops[i] :: ops.toList.drop (i + 1) := by rw [List.drop_eq_getElem_cons (by simpa using hlt)]; simp
    rw [hd] at hok hQ
    simp only [execFrom] at hok hQ
    rw [List.range'_succ, wpOpsIn_cons]
    refine exec1_sound hs (b := b) (N := b + i) (fun h => by have := hU _ h; omega) hU (by simp [hlt]) (execFrom_ok hok) fun g' a' w' h1 h2 h3 => ?_
    exact ih (i + 1) _ g' a' w' h1 (hm.trans h2) (fun r hr => by rcases h3 r hr with h | h; · have := hU r h; omega
                                                                 · omega) (by omega) hok hQ
end Go.DL
