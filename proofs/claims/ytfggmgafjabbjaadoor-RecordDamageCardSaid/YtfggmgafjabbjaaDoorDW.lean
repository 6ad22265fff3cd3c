/-
  THE D LAYER, 14: walks of code on abstract states; from a walk to a contract. Conditions: none.
-/
import Derived.Test.YtfggmgafjabbjaaDoorDDraw
import Derived.Deep.LoopGhost
import Derived.RangeFuncRecord
namespace Go.DL
open Go.RowKit
variable {P : Program} {C : Con}

def S.clear (s : S) : S := { s with ok := True }
theorem St.clear [Glob P] {B : Nat} {s : S} {g : Mem} {a : Act} {w : World} (h : St P B s g a w) : St P B s.clear g a w := ⟨h.sz, h.tm, h.mem, h.df, h.en, h.bd⟩

/-- A WALK: from an abstract state, each way out of the code is as Q says. -/
def DW (P : Program) [Glob P] (ro : Option Nat) (c : Code) (Q : Exit → S → Prop) (s : S) : Prop :=
  ∀ (B : Nat) (g : Mem) (a : Act) (w : World), St P B s g a w → (∀ r, g.U r → r < s.nx) →
    c.wpIn (Fw ro) 0 P (fun e a' w' => ∃ s' g', Q e s' ∧ St P B s' g' a' w' ∧ MonoX s.e.x g g' w w' ∧ (∀ r, g'.U r → r < s'.nx) ∧ s'.e.x = s.e.x) a w

theorem wpIn_loop_ghost [Glob P] {F : Fence} {n : Nat} {Q : Exit → Act → World → Prop} {a : Act} {w : World} {c : Code} (I : Nat → Act → World → Prop) (n0 : Nat) (h0 : I n0 a w)
    (round : ∀ k a w, I k a w → c.wpIn F n P (Exit.then (fun a' w' => ∃ k', k' < k ∧ I k' a' w') Q) a w) : (Code.loop c).wpIn F n P Q a w := by
  refine wpIn_loop (fun a w => ∃ k, I k a w) (fun a w => leastOf fun k => I k a w) ⟨n0, h0⟩ fun a w h => ?_
  obtain ⟨h1, h2⟩ := leastOf_spec h
  refine wpIn_mono (round _ a w h1) fun e a' w' hq => ?_
  cases e with
  | normal =>
    obtain ⟨k', hlt, hI⟩ := hq
    exact ⟨⟨k', hI⟩, Nat.lt_of_le_of_lt ((leastOf_spec ⟨k', hI⟩).2 k' hI) hlt⟩
  | _ => exact hq

section
variable {ro : Option Nat} {Q : Exit → S → Prop} {s : S}
theorem DW.mono [Glob P] {c : Code} {Q' : Exit → S → Prop} (h : DW P ro c Q s) (hq : ∀ e s, Q e s → Q' e s) : DW P ro c Q' s :=
  fun B g a w hs hU => wpIn_mono (h B g a w hs hU) fun _ _ _ ⟨s', g', q, r⟩ => ⟨s', g', hq _ _ q, r⟩
theorem dw_skip [Glob P] (h : Q .normal s) : DW P ro .skip Q s := fun _ g _ _ hs hU => wpIn_skip ⟨s, g, h, hs, MonoX.refl _ _ _, hU, rfl⟩
theorem dw_exit [Glob P] {id : Nat} (h : Q (.exit id) s) : DW P ro (.exit id) Q s := fun _ g _ _ hs hU => wpIn_exit ⟨s, g, h, hs, MonoX.refl _ _ _, hU, rfl⟩
theorem dw_ret [Glob P] (h : Q .ret s) : DW P ro .ret Q s := fun _ g _ _ hs hU => wpIn_ret ⟨s, g, h, hs, MonoX.refl _ _ _, hU, rfl⟩
def thenS (next : S → Prop) (Q : Exit → S → Prop) : Exit → S → Prop
  | .normal, s => next s
  | e, s => Q e s
theorem dw_seq [Glob P] {x y : Code} (h : DW P ro x (thenS (DW P ro y Q) Q) s) : DW P ro (.seq x y) Q s := by
  intro B g a w hs hU
  refine wpIn_seq (wpIn_mono (h B g a w hs hU) ?_)
  rintro e a' w' ⟨s', g', hq, hs', hm, hU', hx⟩
  cases e with
  | normal => exact wpIn_mono (hq B g' a' w' hs' hU') fun e a'' w'' ⟨s'', g'', q, r, m, u, v⟩ => ⟨s'', g'', q, r, hm.trans (hx ▸ m), u, v.trans hx⟩
  | _ => exact ⟨s', g', hq, hs', hm, hU', hx⟩
/-- a sequence, the first part to a state that one fact fixes -/
theorem dw_seq_to [Glob P] {x y : Code} (M : S → Prop) (h : DW P ro x (thenS M Q) s) (k : ∀ s', M s' → DW P ro y Q s') : DW P ro (.seq x y) Q s :=
  dw_seq (h.mono fun e s' hq => by cases e <;> first | exact k s' hq | exact hq)
theorem dw_cond [Glob P] {c : Operand} {x y : Code} {t : Bool} (hc : s.ev c = .v (.bool t)) (ht : t = true → DW P ro x Q s) (hf : t = false → DW P ro y Q s) : DW P ro (.cond c x y) Q s := by
  intro B g a w hs hU
  have h := ev_rep hs c
  rw [hc] at h
  exact wpIn_cond_split h.v_inv (fun e => ht e B g a w hs hU) (fun e => hf e B g a w hs hU)
def blockS (id : Nat) (Q : Exit → S → Prop) : Exit → S → Prop
  | .exit id', s => if id' = id then Q .normal s else Q (.exit id') s
  | e, s => Q e s
theorem dw_block [Glob P] {id : Nat} {c : Code} (h : DW P ro c (blockS id Q) s) : DW P ro (.block id c) Q s := by
  intro B g a w hs hU
  refine wpIn_block (wpIn_mono (h B g a w hs hU) ?_)
  rintro e a' w' ⟨s', g', hq, r⟩
  cases e with
  | exit id' =>
    simp only [Exit.inBlock, blockS] at hq ⊢
    split
    · rename_i e; rw [if_pos e] at hq; exact ⟨s', g', hq, r⟩
    · rename_i e; rw [if_neg e] at hq; exact ⟨s', g', hq, r⟩
  | _ => exact ⟨s', g', hq, r⟩
theorem dw_loop [Glob P] {c : Code} (I : S → Prop) (μ : S → Nat) (h0 : I s) (round : ∀ s', I s' → s'.n = s.n → DW P ro c (thenS (fun s'' => I s'' ∧ s''.n = s.n ∧ μ s'' < μ s') Q) s') : DW P ro (.loop c) Q s := by
  intro B g a w hs hU
  refine wpIn_loop_ghost (fun k a' w' => ∃ s' g', I s' ∧ s'.n = s.n ∧ μ s' = k ∧ St P B s' g' a' w' ∧ MonoX s.e.x g g' w w' ∧ (∀ r, g'.U r → r < s'.nx) ∧ s'.e.x = s.e.x) (μ s) ⟨s, g, h0, rfl, rfl, hs, MonoX.refl _ _ _, hU, rfl⟩ ?_
  rintro k a1 w1 ⟨s1, g1, hI, hn, rfl, hs1, hm1, hU1, hx1⟩
  refine wpIn_mono (round s1 hI hn B g1 a1 w1 hs1 hU1) ?_
  rintro e a2 w2 ⟨s2, g2, hq, hs2, hm2, hU2, hx2⟩
  rw [hx1] at hm2
  cases e with
  | normal => exact ⟨μ s2, hq.2.2, s2, g2, hq.1, hq.2.1, rfl, hs2, hm1.trans hm2, hU2, hx2.trans hx1⟩
  | _ => exact ⟨s2, g2, hq, hs2, hm1.trans hm2, hU2, hx2.trans hx1⟩

def backOk (L : List Oper) : Bool := (List.range L.length).all fun i => (L.getD i default).after.toList.all fun e => !Region.binds .any e || decide (e.on < i)
/-- A REGION. -/
theorem dw_region [Glob P] {id : Nat} {ops : Array Oper} {draw : Bool} (hd : draw = true → P.follows .mixedOrders = true ∧ commOk C ops.toList = true ∧ backOk ops.toList = true)
    (hok : (exec P (words P) C ops.toList s).ok) (hq : Q .normal (exec P (words P) C ops.toList s).clear) : DW P ro (.region id ops draw) Q s := by
  intro B g a w hs hU
  have hs0 : St P B (s.begin ops.toList.length) g a w := ⟨hs.sz, hs.tm, hs.mem, hs.df, hs.en, hs.bd⟩
  have hnx : ∀ (l : List Nat) (u : S), (l.foldl (run1 P (words P) C ops.toList s.nx) u).nx = u.nx := by
    intro l
    induction l with
    | nil => intro u; rfl
    | cons i l ih =>
      intro u
      simp only [List.foldl_cons]
      rw [ih]
      unfold run1
      split
      · exact exec1_n.2
      · rfl
  have hfold := execFrom_fold (P := P) (W := words P) (C := C) (L := ops.toList) (b := s.nx) ops.toList.length 0 (s.begin ops.toList.length) (by omega)
  simp only [List.drop_zero] at hfold
  have hfin : exec P (words P) C ops.toList s = (List.range' 0 ops.toList.length).foldl (run1 P (words P) C ops.toList s.nx) (s.begin ops.toList.length) := hfold
  have hnxf : (exec P (words P) C ops.toList s).nx = s.nx + ops.size := by rw [hfin, hnx]; simp [S.begin]
  have hex : ∀ (l : List Nat) (u : S), (l.foldl (run1 P (words P) C ops.toList s.nx) u).e = u.e := by
    intro l
    induction l with
    | nil => intro u; rfl
    | cons i l ih =>
      intro u
      simp only [List.foldl_cons]
      rw [ih]
      unfold run1
      split
      · unfold exec1; split <;> rfl
      · rfl
  have hef : (exec P (words P) C ops.toList s).clear.e.x = s.e.x := by show (exec P (words P) C ops.toList s).e.x = s.e.x; rw [hfin, hex]; rfl
  have fin : ∀ g' a' w', St P B (exec P (words P) C ops.toList s) g' a' w' → Mono g g' w w' → (∀ r, g'.U r → r < s.nx + ops.size) → ∃ s' g'', Q .normal s' ∧ St P B s' g'' a' w' ∧ MonoX s.e.x g g'' w w' ∧ (∀ r, g''.U r → r < s'.nx) ∧ s'.e.x = s.e.x :=
    fun g' a' w' h1 h2 h3 => ⟨_, g', hq, h1.clear, h2.toX, fun r hr => by show r < (exec P (words P) C ops.toList s).nx; rw [hnxf]; exact h3 r hr, hef⟩
  cases draw with
  | false =>
    refine wpIn_region ?_
    have := execFrom_sound (P := P) (C := C) (B := B) (ops := ops) (b := s.nx) (ro := ro) (n := 0) (Q := fun e a' w' => ∃ s' g', Q e s' ∧ St P B s' g' a' w' ∧ MonoX s.e.x g g' w w' ∧ (∀ r, g'.U r → r < s'.nx) ∧ s'.e.x = s.e.x) ops.size 0 (s.begin ops.toList.length) g a w hs0 (Mono.refl _ _) (fun r hr => by have := hU r hr; omega) (by omega)
      (by simp only [List.drop_zero]; exact hok) (by simp only [List.drop_zero]; exact fin)
    rw [List.range_eq_range']
    exact this
  | true =>
    obtain ⟨h1, h2, h3⟩ := hd rfl
    refine wpIn_region_any h1 ?_
    obtain ⟨hs1, hm1⟩ := drew_st hs0
    have hrep : ∀ i, (Array.replicate ops.size false).getD i false = false := by
      intro i
      by_cases h : i < ops.size <;> simp [Array.getD, h]
    have htodo : todo ops.size (Array.replicate ops.size false) = List.range' 0 ops.toList.length := by
      unfold todo
      rw [List.filter_eq_self.2 (fun i _ => by rw [hrep]; rfl), List.range_eq_range']
      simp
    refine draw_sound (C := C) (B := B) (b := s.nx) (fin := exec P (words P) C ops.toList s) h2 ops.size _ (s.begin ops.toList.length) g a _ (by simp) (by rw [htodo]; simp) (fun i o _ hi => by rw [hrep] at hi; cases hi) (fun i o ho e he hb => ?_) hs1 hm1 (fun r hr => .inl (hU r hr)) (by rw [htodo, hfin]) hok fin
    unfold backOk at h3
    simp only [List.all_eq_true, List.mem_range, Bool.or_eq_true, Bool.not_eq_true', decide_eq_true_eq] at h3
    have hil : i < ops.toList.length := (List.getElem?_eq_some_iff.1 ho).1
    have ho' : ops.toList.getD i default = o := by simp only [List.getD, ho, Option.getD_some]
    have := h3 i hil e (by rw [ho']; exact he)
    rcases this with h | h
    · rw [hb] at h; cases h
    · exact h
end

/-! ### from a walk to a contract -/
def S.init (n : Nat) (args : List D) : S := { n, t := fun i => args.getD i .junk, h := fun _ => none, nx := 0 }
/-- what a function hands back -/
def resOne [Glob P] (s : S) : ResultVar → D
  | .tmp t => s.t t
  | .cell a t => (ldD P t (s.t a) s.h).1
def resOneOk [Glob P] (s : S) : ResultVar → Prop
  | .tmp _ => True
  | .cell a t => (ldD P t (s.t a) s.h).2
def resD (P : Program) [Glob P] (rs : List ResultVar) (s : S) : D := match rs.map (resOne (P := P) s) with
  | [d] => d
  | ds => .tuple ds
def resOk (P : Program) [Glob P] (s : S) : List ResultVar → Prop
  | [] => True
  | r :: rs => resOneOk (P := P) s r ∧ resOk P s rs
def resRun (tmps : Array Value) (r : ResultVar) : Sem Value := match r with
  | .tmp t => pure (tmps.getD t undef)
  | .cell a t => do loadVar t (← asAddr (tmps.getD a undef))
theorem resRuns_sound [Glob P] {B : Nat} {s : S} {g : Mem} {a : Act} {w : World} (hs : St P B { s with e := Env.tt } g a w) : ∀ rs : List ResultVar, resOk P s rs → ∃ vs : List Value, (rs.mapM (resRun a.tmps)).run P w = .ok vs w ∧ Reps w g (rs.map (resOne (P := P) s)) vs
  | [], _ => ⟨[], by simp, .nil⟩
  | r :: rs, h => by
    obtain ⟨vs, h1, h2⟩ := resRuns_sound hs rs h.2
    cases r with
    | tmp t => exact ⟨a.tmps.getD t undef :: vs, by simp only [List.mapM_cons, Sem.run_bind, resRun, Sem.run_pure, Result.andThen_ok, h1], .cons (hs.tm t) h2⟩
    | cell c t =>
      obtain ⟨q1, q2, q3⟩ := h.1
      obtain ⟨p, hp, hc⟩ := ptr_cells hs.mem (hs.tm c) (by intro e; rw [e] at q1; simp at q1; omega)
      obtain ⟨v, h4, h5⟩ := run_loadVar' hc q1 q2 q3
      refine ⟨v :: vs, ?_, .cons h5 h2⟩
      simp only [List.mapM_cons, Sem.run_bind, resRun, hp, asAddr, Sem.run_pure, Result.andThen_ok, h4, h1]
theorem results_sound [Glob P] {fn : Func} {B : Nat} {s : S} {g : Mem} {a : Act} {w : World} (hs : St P B { s with e := Env.tt } g a w) (hok : resOk P s fn.results.toList) : ∃ v, (results fn a.tmps).run P w = .ok v w ∧ Rep w g (resD P fn.results.toList s) v := by
  obtain ⟨vs, h1, h2⟩ := resRuns_sound hs _ hok
  have hrun : (results fn a.tmps).run P w = .ok (if h : vs.toArray.size = 1 then vs.toArray[0] else .tuple vs.toArray) w := by
    have e : results fn a.tmps = (do let vs ← fn.results.mapM (resRun a.tmps); pure (if h : vs.size = 1 then vs[0] else .tuple vs) : Sem Value) := rfl
    rw [e, Array.mapM_eq_mapM_toList]
    simp [h1]
  refine ⟨_, hrun, ?_⟩
  unfold resD
  split
  · rename_i d hd
    rw [hd] at h2
    obtain ⟨v, l, rfl, h3, h4⟩ := h2.of_cons
    rw [h4.of_nil]
    simpa using h3
  · rename_i hne
    rw [dif_neg (fun h => ?_)]
    · exact .mk_tuple (by simpa using h2)
    · have hl : (fn.results.toList.map (resOne (P := P) s)).length = 1 := by rw [h2.1]; simpa using h
      match hq : fn.results.toList.map (resOne (P := P) s), hl with
      | [d], _ => exact hne d hq

/-! ### what a function hands back may be read by everybody -/
def snap (h : H) : Nat → D → D
  | 0, d => d
  | k + 1, d => match d with
    | .mrow r off len => .list false ((rowsOf (.mrow r off len) h).map fun row => row.map (snap h k))
    | .agg cs => .agg (cs.map (snap h k))
    | .tuple cs => .tuple (cs.map (snap h k))
    | .iface t d => .iface t (snap h k d)
    | .mptr r i off => .eptr ((ldCells (.mptr r i off) h).map (snap h k))
    | .fn f a b => .fn f (a.map (snap h k)) (b.map (snap h k))
    | d => d
def snapOk (h : H) : Nat → D → Prop
  | 0, d => d.nr = true
  | k + 1, d => match d with
    | .mrow r off len => derefOk h (.mrow r off len) ∧ ∀ row ∈ rowsOf (.mrow r off len) h, ∀ c ∈ row, snapOk h k c
    | .agg cs => ∀ c ∈ cs, snapOk h k c
    | .tuple cs => ∀ c ∈ cs, snapOk h k c
    | .iface _ d => snapOk h k d
    | .mptr r i off => (h r).isSome = true ∧ ∀ c ∈ ldCells (.mptr r i off) h, snapOk h k c
    | .fn _ a b => (∀ c ∈ a, snapOk h k c) ∧ ∀ c ∈ b, snapOk h k c
    | d => d.nr = true
def liveI (g : Mem) : Mem := noM fun b => g.I b ∨ ∃ r c s, g.M r = some (some b, c, s)
theorem nrs_of {ds : List D} (h : ∀ d ∈ ds, d.nr = true) : nrs ds = true := by
  induction ds with
  | nil => rfl
  | cons d ds ih => simp [nrs, h d (by simp), ih fun d hd => h d (by simp [hd])]
theorem nrr_of {ds : List (List D)} (h : ∀ d ∈ ds, nrs d = true) : nrr ds = true := by
  induction ds with
  | nil => rfl
  | cons d ds ih => simp [nrr, h d (by simp), ih fun d hd => h d (by simp [hd])]
theorem snap_rep [Glob P] {h : H} {g : Mem} {w : World} (hm : HM P h g w) : ∀ (k : Nat) (d : D) (v : Value), Rep w (openI g) d v → snapOk h k d → Rep w (liveI g) (snap h k d) v ∧ (snap h k d).nr = true := by
  intro k
  induction k with
  | zero => exact fun d v hr ho => ⟨hr.clean ho fun b hb => hb, ho⟩
  | succ k ih =>
    intro d v hr ho
    cases d with
    | mrow r off len =>
      obtain ⟨o1, o2⟩ := ho
      have hd := deref_rep' hm hr o1
      simp only [deref] at hd
      simp only [snap]
      generalize rowsOf (.mrow r off len) h = rows at hd o2 ⊢
      refine ⟨?_, ?_⟩
      · cases hd with
        | empty _ a cap hf hmx => exact .empty false a cap hf hmx
        | list _ _ ad cap size cv hI hl hf hmx hs hc hrr =>
          have e : rows.length = (rows.map fun row => row.map (snap h k)).length := by simp
          rw [e]
          refine .list false _ ad cap size cv hI (by simpa using hl) (fun h => by cases h) hmx (fun row hrow => ?_) (fun i j row d h1 h2 => ?_) (fun i j row d h1 h2 => ?_)
          · simp only [List.mem_map] at hrow
            obtain ⟨row', h1, rfl⟩ := hrow
            simpa using hs row' h1
          · rw [List.getElem?_map] at h1
            cases hri : rows[i]? with
            | none => rw [hri] at h1; cases h1
            | some row' =>
              rw [hri] at h1; simp at h1; subst h1
              rw [List.getElem?_map] at h2
              cases hrj : row'[j]? with
              | none => rw [hrj] at h2; cases h2
              | some d' => exact hc i j row' d' hri hrj
          · rw [List.getElem?_map] at h1
            cases hri : rows[i]? with
            | none => rw [hri] at h1; cases h1
            | some row' =>
              rw [hri] at h1; simp at h1; subst h1
              rw [List.getElem?_map] at h2
              cases hrj : row'[j]? with
              | none => rw [hrj] at h2; cases h2
              | some d' =>
                rw [hrj] at h2; simp at h2; subst h2
                exact (ih d' _ (hrr i j row' d' hri hrj) (o2 row' (List.mem_of_getElem? hri) d' (List.mem_of_getElem? hrj))).1
      · refine nrr_of fun row hrow => nrs_of fun d hd' => ?_
        simp only [List.mem_map] at hrow
        obtain ⟨row', h1, rfl⟩ := hrow
        simp only [List.mem_map] at hd'
        obtain ⟨d', h2, rfl⟩ := hd'
        cases hd with
        | empty => cases h1
        | list _ _ ad cap size cv hI hl hf hmx hs hc hrr =>
          obtain ⟨i, hi⟩ := List.getElem?_of_mem h1
          obtain ⟨j, hj⟩ := List.getElem?_of_mem h2
          exact (ih d' _ (hrr i j row' d' hi hj) (o2 row' h1 d' h2)).2
    | agg cs =>
      obtain ⟨vs, rfl, hv⟩ := hr.agg_inv
      simp only [snap]
      refine ⟨.mk_agg ⟨by simpa using hv.1, fun i d x h1 h2 => ?_⟩, nrs_of fun d hd => ?_⟩
      · rw [List.getElem?_map] at h1
        cases hci : cs[i]? with
        | none => rw [hci] at h1; cases h1
        | some c =>
          rw [hci] at h1; simp at h1; subst h1
          exact (ih c x (hv.2 i c x hci h2) (ho c (List.mem_of_getElem? hci))).1
      · simp only [List.mem_map] at hd
        obtain ⟨c, h1, rfl⟩ := hd
        obtain ⟨i, hi⟩ := List.getElem?_of_mem h1
        have hlt : i < vs.toList.length := by rw [← hv.1]; exact (List.getElem?_eq_some_iff.1 hi).1
        exact (ih c _ (hv.2 i c _ hi (List.getElem?_eq_getElem hlt)) (ho c h1)).2
    | tuple cs =>
      obtain ⟨vs, rfl, hv⟩ := hr.tuple_inv
      simp only [snap]
      refine ⟨.mk_tuple ⟨by simpa using hv.1, fun i d x h1 h2 => ?_⟩, nrs_of fun d hd => ?_⟩
      · rw [List.getElem?_map] at h1
        cases hci : cs[i]? with
        | none => rw [hci] at h1; cases h1
        | some c =>
          rw [hci] at h1; simp at h1; subst h1
          exact (ih c x (hv.2 i c x hci h2) (ho c (List.mem_of_getElem? hci))).1
      · simp only [List.mem_map] at hd
        obtain ⟨c, h1, rfl⟩ := hd
        obtain ⟨i, hi⟩ := List.getElem?_of_mem h1
        have hlt : i < vs.toList.length := by rw [← hv.1]; exact (List.getElem?_eq_some_iff.1 hi).1
        exact (ih c _ (hv.2 i c _ hi (List.getElem?_eq_getElem hlt)) (ho c h1)).2
    | iface t d =>
      cases hr with
      | iface _ _ x h1 =>
        obtain ⟨q1, q2⟩ := ih d x h1 ho
        exact ⟨.iface t _ x q1, q2⟩
    | mptr r i off =>
      obtain ⟨o1, o2⟩ := ho
      obtain ⟨bl, hbl⟩ := Option.isSome_iff_exists.1 o1
      simp only [snap]
      have ecs : ldCells (.mptr r i off) h = (bl.rows.getD i []).drop off := by simp only [ldCells, hbl]
      rw [ecs] at o2 ⊢
      cases hr with | mptr _ _ _ x hx hU hv =>
      obtain ⟨blk, c, h1, h2, h3, h4, h5⟩ := hm.blk r bl hbl
      obtain ⟨b, rfl, rfl⟩ := hv _ _ _ h1
      rcases h5 with ⟨h5, _⟩ | ⟨b', cur, h5, k1, k2, k3, k4⟩
      · cases h5
      cases h5
      have key : ∀ j d, ((bl.rows.getD i []).drop off)[j]? = some d → ∃ u, cur[i * P.cellsOf bl.ty + off + j]? = some u ∧ Rep w g d u := by
        intro j d hd
        rw [List.getElem?_drop] at hd
        cases hri : bl.rows[i]? with
        | none => rw [List.getD, hri] at hd; simp at hd
        | some row =>
          rw [List.getD, hri, Option.getD_some] at hd
          obtain ⟨u, p1, _, p3⟩ := (k4 i row hri).2 (off + j) d hd
          exact ⟨u, by rw [Nat.add_assoc]; exact p1, p3⟩
      refine ⟨.eptr _ _ (fun j => cur.getD (i * P.cellsOf bl.ty + off + j) undef) (.inr ⟨r, _, _, h1⟩) (fun j d hd => ?_) (fun j d hd => ?_), nrs_of fun d hd => ?_⟩
      · obtain ⟨d', e1, rfl⟩ := map_at hd
        obtain ⟨u, p1, p2⟩ := key j d' e1
        rw [add_mk, cell_of_row w b _ cur bl.ty (0, 0) k1, p1]
        simp [Array.getD_eq_getD_getElem?, p1]
      · obtain ⟨d', e1, rfl⟩ := map_at hd
        obtain ⟨u, p1, p2⟩ := key j d' e1
        have e2 : cur.getD (i * P.cellsOf bl.ty + off + j) undef = u := by simp [Array.getD_eq_getD_getElem?, p1]
        rw [e2]
        exact (ih d' u (openI_rep p2) (o2 d' (List.mem_of_getElem? e1))).1
      · obtain ⟨d', e1, rfl⟩ := List.mem_map.1 hd
        obtain ⟨j, hj⟩ := List.getElem?_of_mem e1
        obtain ⟨u, p1, p2⟩ := key j d' hj
        exact (ih d' u (openI_rep p2) (o2 d' e1)).2
    | fn f a b =>
      cases hr with
      | fn _ _ _ fs cs hf hc h1 h2 =>
        simp only [snap]
        refine ⟨.fn f _ _ fs cs (by simpa using hf) (by simpa using hc) (fun i d x e1 e2 => ?_) (fun i d x e1 e2 => ?_), ?_⟩
        · obtain ⟨d', e3, rfl⟩ := map_at e1
          exact (ih d' x (h1 i d' x e3 e2) (ho.1 d' (List.mem_of_getElem? e3))).1
        · obtain ⟨d', e3, rfl⟩ := map_at e1
          exact (ih d' x (h2 i d' x e3 e2) (ho.2 d' (List.mem_of_getElem? e3))).1
        · simp only [D.nr, Bool.and_eq_true]
          refine ⟨nrs_of fun d hd => ?_, nrs_of fun d hd => ?_⟩
          · obtain ⟨d', e1, rfl⟩ := List.mem_map.1 hd
            obtain ⟨i, hi⟩ := List.getElem?_of_mem e1
            have hlt : i < fs.size := by rw [← hf]; exact (List.getElem?_eq_some_iff.1 hi).1
            exact (ih d' _ (h1 i d' _ hi (Array.getElem?_eq_getElem hlt)) (ho.1 d' e1)).2
          · obtain ⟨d', e1, rfl⟩ := List.mem_map.1 hd
            obtain ⟨i, hi⟩ := List.getElem?_of_mem e1
            have hlt : i < cs.size := by rw [← hc]; exact (List.getElem?_eq_some_iff.1 hi).1
            exact (ih d' _ (h2 i d' _ hi (Array.getElem?_eq_getElem hlt)) (ho.2 d' e1)).2
    | _ => exact ⟨hr.clean ho fun b hb => hb, ho⟩

/-! ### the marks, at the end -/
theorem leaves_marks [Glob P] {fn : Func} {tmps : Array Value} {R : Ending → World → Prop} {n B : Nat} {g : Mem} : ∀ (ds : List Deferred) (w : World), Marks B g ds w →
    (∀ w', w'.drawn = w.drawn → w'.os = w.os → w'.tape = w.tape → w'.output = w.output → w'.heap.size = w.heap.size → (∀ k : Nat, k < B → w'.heap[k]? = w.heap[k]?) → (∀ k : Nat, g.I k → w'.heap[k]? = w.heap[k]?) → (∀ (k : Nat) c e f, w.heap[k]? = some (Obj.cells c e f) → w'.heap[k]? = w.heap[k]?) → ∃ v, (results fn tmps).run P w' = .ok v w' ∧ R (.returned v) w') →
    LeavesInM Fence.wide n P fn tmps R ds .returning w := by
  intro ds
  induction ds with
  | nil =>
    intro w _ h
    exact h w rfl rfl rfl rfl rfl (fun _ _ => rfl) (fun _ _ => rfl) (fun _ _ _ _ _ => rfl)
  | cons d ds ih =>
    rintro w ⟨⟨D, h1, h2, h3, h4, h5⟩, h6⟩ h
    refine ⟨by simp, .inl ⟨D, w.putObj D (.deferred none), h1, run_takeDeferred h2, ?_⟩⟩
    have hne : ∀ k, k ≠ D → (w.putObj D (.deferred none)).heap[k]? = w.heap[k]? := fun k hk => World.putObj_heap_other hk
    have hms : ∀ ds : List Deferred, (∀ d' ∈ ds, d'.target ≠ .collected D) → Marks B g ds w → Marks B g ds (w.putObj D (.deferred none)) := by
      intro ds
      induction ds with
      | nil => intro _ _; trivial
      | cons e ds ihd =>
        rintro hds ⟨⟨D', k1, k2, k3, k4, k5⟩, k6⟩
        refine ⟨⟨D', k1, ?_, k3, k4, k5⟩, ihd (fun d' hd' => hds d' (by simp [hd'])) k6⟩
        rw [hne D' (fun e' => by subst e'; exact hds e (by simp) k1)]
        exact k2
    refine ih _ (hms ds h3 h6) fun w' e0 e1 e2 e3 e4 e5 e6 e7 => ?_
    refine h w' (by rw [e0]; rfl) (by rw [e1]; rfl) (by rw [e2]; rfl) (by rw [e3]; rfl) (by rw [e4]; simp) (fun k hk => ?_) (fun k hk => ?_) (fun k c e f hk => ?_)
    · rw [e5 k hk, hne k (by omega)]
    · rw [e6 k hk, hne k (fun e => by subst e; exact h5 hk)]
    · have : k ≠ D := fun e' => by subst e'; rw [h2] at hk; cases hk
      rw [e7 k c e f (by rw [hne k this]; exact hk), hne k this]

/-- HM behind a change of blocks that hold no cells of ours. -/
theorem HM.marks [Glob P] {h : H} {g : Mem} {w w' : World} (hm : HM P h g w) (e4 : w'.heap.size = w.heap.size) (e6 : ∀ k : Nat, g.I k → w'.heap[k]? = w.heap[k]?) (e7 : ∀ (k : Nat) c e f, w.heap[k]? = some (Obj.cells c e f) → w'.heap[k]? = w.heap[k]?) : HM P h g w' := by
  refine ⟨hm.dead, fun r bl hr => ?_, hm.inj, hm.used, fun b hb => by rw [e4]; exact hm.imm b hb, hm.gr.later fun b hb => ⟨hb, e6 b hb⟩⟩
  obtain ⟨blk, c, h1, h2, h3, h4, h5⟩ := hm.blk r bl hr
  refine ⟨blk, c, h1, h2, h3, h4, ?_⟩
  rcases h5 with h5 | ⟨b, cur, rfl, h6, h7, h8, h9⟩
  · exact .inl h5
  · exact .inr ⟨b, cur, rfl, by rw [e7 b _ _ _ h6]; exact h6, h7, h8, fun i row hi => ⟨(h9 i row hi).1, fun j d hd => by
      obtain ⟨u, k3, k4, k5⟩ := (h9 i row hi).2 j d hd
      exact ⟨u, k3, k4, k5.mono (fun b hb => ⟨hb, e6 b hb⟩) (fun _ h => h) (fun _ _ => .inl rfl)⟩⟩⟩
theorem St.marks [Glob P] {B : Nat} {s : S} {g : Mem} {a : Act} {w w' : World} (hs : St P B s g a w) (e4 : w'.heap.size = w.heap.size) (e6 : ∀ k : Nat, g.I k → w'.heap[k]? = w.heap[k]?) (e7 : ∀ (k : Nat) c e f, w.heap[k]? = some (Obj.cells c e f) → w'.heap[k]? = w.heap[k]?) :
    St P B { s with e := Env.tt } g { a with defers := [] } w' :=
  ⟨hs.sz, fun i => (hs.tm i).mono (fun b hb => ⟨hb, e6 b hb⟩) (fun _ h => h) (fun _ _ => .inl rfl), hs.mem.marks e4 e6 e7, trivial, trivial, by rw [e4]; exact hs.bd⟩

theorem init_st [Glob P] {n : Nat} {args : List D} {vs : List Value} {g : Mem} {w : World} (hr : Reps w g args vs) (hn : args.length ≤ n) {h : H} (hm : HM P h g w) {nx : Nat} :
    St P w.heap.size { S.init n args with h := h, nx := nx } g { tmps := vs.toArray ++ Array.replicate (n - vs.toArray.size) undef, defers := [] } w := by
  have hl : vs.length = args.length := hr.1.symm
  refine ⟨by simp [S.init]; omega, fun i => ?_, hm, trivial, trivial, Nat.le_refl _⟩
  simp only [S.init]
  by_cases hi : i < args.length
  · have e1 : args.getD i .junk = args[i] := by simp [List.getD, List.getElem?_eq_getElem hi]
    have hi' : i < vs.length := by omega
    have e2 : (vs.toArray ++ Array.replicate (n - vs.toArray.size) undef).getD i undef = vs[i] := by
      simp [Array.getElem?_append, hi']
    rw [e1, e2]
    exact hr.2 i _ _ (by simp) (by simp)
  · have e1 : args.getD i .junk = .junk := by simp [List.getD, List.getElem?_eq_none (Nat.le_of_not_lt hi)]
    rw [e1]
    exact .junk _

/-- **A CONTRACT OF A FUNCTION THAT LEAVES MEMORY ALONE, OUT OF A WALK OF ITS BODY.** -/
theorem pure_of_dw [Glob P] {f : FuncId} {fn : Func} {c : Code} {args : List D} {res : D} (hf : P.funcs[f]? = some fn) (hb : fn.body = some c) (hbd : hasBody P f = true) (hnr : args.all D.nr = true) (hn : args.length ≤ fn.ntmps)
    (h : DW P none c (fun e s => (e = .normal ∨ e = .ret) ∧ resOk P s fn.results.toList ∧ ∃ k, snapOk s.h k (resD P fn.results.toList s) ∧ wk (snap s.h k (resD P fn.results.toList s)) = res) (S.init fn.ntmps args)) : PureCt P f args res := by
  refine ⟨hbd, hnr, fun w I vs hI hgr hr => ?_⟩
  have hm : HM P (fun _ => none) (noM I) w := by
    refine ⟨fun _ _ => rfl, ?_, ?_, ?_, hI, hgr⟩
    · intro r bl h; cases h
    · intro r r' b c c' s s' h; cases h
    · intro r h; exact absurd rfl h
  have hs : St P w.heap.size (S.init fn.ntmps args) (noM I) { tmps := vs.toArray ++ Array.replicate (fn.ntmps - vs.toArray.size) undef, defers := [] } w := init_st hr hn hm
  refine callsIn_of_wp_marks (n := 0) hf hb trivial (wpIn_mono (F := Fence.wide) (h w.heap.size (noM I) _ w hs (fun r h => False.elim h)) ?_)
  rintro e a' w' ⟨s', g', ⟨he, ho, k, hk, hres⟩, hs', hm', _⟩
  have hm' := hm'.out
  have hlast : LeavesInM Fence.wide 0 P fn a'.tmps (fun e w' => ∃ v, e = .returned v ∧ Bel w w' ∧ Rep w' (noM fun b => I b ∨ (w.heap.size ≤ b ∧ b < w'.heap.size)) res v) a'.defers .returning w' := by
    refine leaves_marks (P := P) a'.defers w' hs'.df fun w2 e0 e1 e2 e3 e4 e5 e6 e7 => ?_
    have hs2 := hs'.marks e4 e6 e7
    obtain ⟨v, h1, h2⟩ := results_sound (fn := fn) hs2 ho
    refine ⟨v, h1, v, rfl, ⟨by rw [e1, hm'.os], by rw [e2, hm'.tape], by rw [e3, hm'.output], by rw [e4]; exact hm'.size, by rw [e0]; exact hm'.drawn, fun b hb => ?_⟩, ?_⟩
    · rw [e5 b hb, hm'.same b hb (fun r c s h => by cases h)]
    · obtain ⟨q1, q2⟩ := snap_rep hs2.mem k _ v (openI_rep h2) hk
      have q1 := q1.wk
      have q2 := wk_nr _ q2
      rw [hres] at q1 q2
      refine q1.clean q2 fun b hb => ?_
      rcases hb with hb | ⟨r, c, s, hb⟩
      · rcases hm'.inew b hb with h | h | ⟨r, c, s, h⟩
        · exact .inl h
        · exact .inr ⟨h, hs2.mem.imm b hb⟩
        · cases h
      · rcases hm'.new r b c s hb with ⟨r', c', s', h⟩ | h
        · cases h
        · exact .inr ⟨h, (M_lt hs2.mem hb).1⟩
  rcases he with rfl | rfl <;> exact hlast

/-- names below n -/
def keepBelow (n : Nat) (h : H) : H := fun r => if r < n then h r else none
/-- **A CONTRACT OF A FUNCTION THAT WRITES BLOCKS OF ITS CALLER, OUT OF A WALK OF ITS BODY.** What it hands back and what it leaves in those blocks bears no names of its own. -/
theorem ct_of_dw [Glob P] {f : FuncId} {fn : Func} {c : Code} {args : List D} {h h' : H} {b : Nat} {res : D} (hf : P.funcs[f]? = some fn) (hb : fn.body = some c) (hbd : hasBody P f = true) (hn : args.length ≤ fn.ntmps) (hnr : res.nr = true)
    (hw : ∀ nx, (∀ r, nx ≤ r → h r = none) → DW P none c (fun e s => (e = .normal ∨ e = .ret) ∧ resOk P s fn.results.toList ∧ resD P fn.results.toList s = res ∧ (∀ r, r < nx → s.h r = h' r) ∧ ∀ r, r < nx → ∀ bl, h' r = some bl → h r = some bl ∨ nrr bl.rows = true) { S.init fn.ntmps args with h := h, nx := nx }) (hdom : ∀ r, h r = none → h' r = none) : Ct P f args h b res h' := by
  refine ⟨hbd, fun w g vs n hm hU _ hr => ?_⟩
  have hnone : ∀ r, n ≤ r → h r = none := by
    intro r hr
    cases hq : h r with
    | none => rfl
    | some bl =>
      obtain ⟨blk, c', h1, _⟩ := hm.blk r bl hq
      have := hU r (hm.used r (by rw [h1]; simp))
      omega
  have hs := init_st (P := P) (n := fn.ntmps) hr hn hm (nx := n)
  refine callsIn_of_wp_marks (n := 0) hf hb trivial (wpIn_mono (F := Fence.wide) (hw n hnone w.heap.size g _ w hs hU) ?_)
  rintro e a' w' ⟨s', g', ⟨he, ho, hres, hh, hcl⟩, hs', hm', _⟩
  have hm' := hm'.out
  have hlast : LeavesInM Fence.wide 0 P fn a'.tmps (fun e w' => ∃ v g', e = .returned v ∧ Rep w' g' res v ∧ HM P h' g' w' ∧ Mono g g' w w' ∧ ∀ r, g'.U r → g.U r ∨ r = b) a'.defers .returning w' := by
    refine leaves_marks (P := P) a'.defers w' hs'.df fun w2 e0 e1 e2 e3 e4 e5 e6 e7 => ?_
    have hs2 := hs'.marks e4 e6 e7
    obtain ⟨v, h1, h2⟩ := results_sound (fn := fn) hs2 ho
    rw [hres] at h2
    -- only the caller's names stay
    let g2 : Mem := { M := fun r => if (h' r).isSome then g'.M r else none, U := g.U, I := g'.I }
    have hlt : ∀ r bl, h' r = some bl → r < n := by
      intro r bl hr
      rcases Nat.lt_or_ge r n with h | h
      · exact h
      · rw [hdom r (hnone r h)] at hr; cases hr
    have huse : ∀ r bl, h' r = some bl → g.U r := by
      intro r bl hr
      cases hq : h r with
      | none => rw [hdom r hq] at hr; cases hr
      | some bl0 => obtain ⟨blk, c', h1, _⟩ := hm.blk r bl0 hq; exact hm.used r (by rw [h1]; simp)
    have mono2 : Mono g g2 w w2 := by
      refine ⟨by rw [e1, hm'.os], by rw [e2, hm'.tape], by rw [e3, hm'.output], by rw [e4]; exact hm'.size, by rw [e0]; exact hm'.drawn, fun r h => h, fun r hr => ?_, fun r k c s he => ?_, hm'.I, fun k hk => hm'.inew k hk, fun k hk hne => ?_⟩
      · show (if (h' r).isSome then g'.M r else none) = g.M r ∨ (if (h' r).isSome then g'.M r else none) = none
        split
        · exact hm'.M r hr
        · exact .inr rfl
      · have he' : (if (h' r).isSome then g'.M r else none) = some (some k, c, s) := he
        split at he'
        · exact hm'.new r k c s he'
        · cases he'
      · rw [e5 k hk]; exact hm'.same k hk hne
    refine ⟨v, h1, v, g2, rfl, h2.clean hnr fun b hb => hb, ⟨fun r hr => ?_, fun r bl hr => ?_, fun r r' k c c' s s' q1 q2 => ?_, fun r hr => ?_, fun k hk => hs2.mem.imm k hk, hs2.mem.gr⟩, mono2, fun r h => .inl h⟩
    · show (if (h' r).isSome then g'.M r else none) = none
      rw [hr]; rfl
    · have hrn := hlt r bl hr
      have hsr : s'.h r = some bl := by rw [hh r hrn]; exact hr
      obtain ⟨blk, c', q1, q2, q3, q4, q5⟩ := hs2.mem.blk r bl hsr
      refine ⟨blk, c', by show (if (h' r).isSome then g'.M r else none) = _; rw [hr]; exact q1, q2, q3, q4, ?_⟩
      rcases q5 with q5 | ⟨k, cur, rfl, q6, q7, q8, q9⟩
      · exact .inl q5
      · refine .inr ⟨k, cur, rfl, q6, q7, q8, fun i row hi => ⟨(q9 i row hi).1, fun j d hd => ?_⟩⟩
        obtain ⟨u, k3, k4, k5⟩ := (q9 i row hi).2 j d hd
        refine ⟨u, k3, k4, ?_⟩
        rcases hcl r hrn bl hr with hold | hnrr
        · obtain ⟨blk0, c0, p1, p2, p3, p4, p5⟩ := hm.blk r bl hold
          rcases p5 with ⟨_, p5⟩ | ⟨k0, cur0, _, _, _, _, p9⟩
          · have := (List.getElem?_eq_some_iff.1 hi).1; omega
          · obtain ⟨u0, _, _, p10⟩ := (p9 i row hi).2 j d hd
            refine k5.within (g' := g2) p10.rin (fun b hb => hb) fun r' _ => ?_
            show (if (h' r').isSome then g'.M r' else none) = g'.M r' ∨ (if (h' r').isSome then g'.M r' else none) = none
            split
            · exact .inl rfl
            · exact .inr rfl
        · exact k5.clean (nrs_mem (nrr_mem hnrr (List.mem_of_getElem? hi)) (List.mem_of_getElem? hd)) fun b hb => hb
    · have q1' : (if (h' r).isSome then g'.M r else none) = some (some k, c, s) := q1
      have q2' : (if (h' r').isSome then g'.M r' else none) = some (some k, c', s') := q2
      split at q1'
      · split at q2'
        · exact hs2.mem.inj _ _ _ _ _ _ _ q1' q2'
        · cases q2'
      · cases q1'
    · have hr' : (if (h' r).isSome then g'.M r else none) ≠ none := hr
      split at hr'
      · rename_i hsome
        obtain ⟨bl, hbl⟩ := Option.isSome_iff_exists.1 hsome
        exact huse r bl hbl
      · exact absurd rfl hr'
  rcases he with rfl | rfl <;> exact hlast
end Go.DL
