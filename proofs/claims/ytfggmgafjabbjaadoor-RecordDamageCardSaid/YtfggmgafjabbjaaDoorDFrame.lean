/-
  THE D LAYER, 20: loops and meetings of ways that keep what they do not touch. Conditions: none.
-/
import Derived.Test.YtfggmgafjabbjaaDoorDRange
import Derived.Lib.SliceRun
set_option linter.unusedSimpArgs false
namespace Go.DL
variable {P : Program} {C : Con} {ro : Option Nat} {Q : Exit → S → Prop}

/-- a loop; the blocks at its head told by a function -/
theorem dw_loop_h [Glob P] {c : Code} {s : S} {α : Type} (keep : List Nat) (A : α → Prop) (μ : α → Nat) (tb : α → List (Nat × D)) (hh : α → H) (nxx : α → Nat) (a0 : α) {fx : List (Nat × D)} (hfx : keep.map (fun i => (i, s.t i)) = fx) (hA : A a0) (ht : ∀ p ∈ tb a0, Tb s.t p) (hq : ∀ r, hh a0 r = s.h r ∨ hh a0 r = none) (hn : s.nx ≤ nxx a0)
    (round : ∀ a, A a → DW P ro c (thenS (fun s' => ∃ a', A a' ∧ μ a' < μ a ∧ (∀ p ∈ tb a', Tb s'.t p) ∧ (∀ p ∈ fx, Tb s'.t p) ∧ (∀ r, hh a' r = s'.h r ∨ hh a' r = none) ∧ s'.nx ≤ nxx a' ∧ s'.n = s.n ∧ s'.e = s.e) Q) { n := s.n, t := tab (tb a ++ fx), h := hh a, nx := nxx a, e := s.e }) : DW P ro (.loop c) Q s :=
  dw_loop_tab A μ (fun a => tb a ++ fx) hh nxx a0 hA (fun p hp => (List.mem_append.1 hp).elim (ht p) (mem_fx hfx p)) hq hn fun a ha => (round a ha).mono fun e s' hq => by
    cases e with
    | normal =>
      obtain ⟨a', h1, h2, h3, h4, h5, h6, h7, h8⟩ := hq
      exact ⟨a', h1, h2, fun p hp => (List.mem_append.1 hp).elim (h3 p) (h4 p), h5, h6, h7, h8⟩
    | _ => exact hq
theorem dw_join_h [Glob P] {x y : Code} {s : S} {α : Type} (keep : List Nat) (A : α → Prop) (tb : α → List (Nat × D)) (hh : α → H) (nxx : α → Nat) {fx : List (Nat × D)} (_hfx : keep.map (fun i => (i, s.t i)) = fx)
    (h : DW P ro x (thenS (fun s' => ∃ a, A a ∧ (∀ p ∈ tb a, Tb s'.t p) ∧ (∀ p ∈ fx, Tb s'.t p) ∧ (∀ r, hh a r = s'.h r ∨ hh a r = none) ∧ s'.nx ≤ nxx a ∧ s'.n = s.n ∧ s'.e = s.e) Q) s)
    (k : ∀ a, A a → DW P ro y Q { n := s.n, t := tab (tb a ++ fx), h := hh a, nx := nxx a, e := s.e }) : DW P ro (.seq x y) Q s := by
  refine dw_seq_to _ h ?_
  rintro s' ⟨a, h1, h2, h3, h4, h5, h6, h7⟩
  refine dw_tab (tb a ++ fx) (hh a) (nxx a) (fun p hp => (List.mem_append.1 hp).elim (h2 p) (h3 p)) h4 h5 ?_
  rw [h6, h7]
  exact k a h1
/-- less of the blocks -/
def Less (h' h : H) : Prop := ∀ q, h' q = h q ∨ h' q = none
theorem less_refl (h : H) : Less h h := fun _ => .inl rfl
theorem less_upd {h' h : H} {r : Nat} {x : Option Blk} (k : ∀ q, q ≠ r → h' q = h q ∨ h' q = none) : Less (upd h' r x) (upd h r x) := by
  intro q
  by_cases e : q = r
  · subst e; left; rw [upd_same, upd_same]
  · rw [upd_ne _ _ _ _ e, upd_ne _ _ _ _ e]; exact k q e
theorem fr_init {h : H} {r : Nat} {x : Blk} (hr : h r = some x) : ∀ q, upd (upd h r none) r (some x) q = h q ∨ upd (upd h r none) r (some x) q = none := by
  intro q
  by_cases e : q = r
  · subst e; left; rw [upd_same, hr]
  · left; rw [upd_ne _ _ _ _ e, upd_ne _ _ _ _ e]
theorem fr_step {h : H} {r r1 r2 : Nat} {x : Option Blk} {y : Option Blk} (h1 : r1 = r ∨ h r1 = none) : ∀ q, upd (upd h r none) r2 y q = upd (upd (upd (upd h r none) r1 x) r1 none) r2 y q ∨ upd (upd h r none) r2 y q = none := by
  intro q
  by_cases e : q = r2
  · subst e; left; rw [upd_same, upd_same]
  · rw [upd_ne _ _ _ _ e, upd_ne _ _ _ _ e]
    by_cases e1 : q = r1
    · subst e1
      right
      rcases h1 with rfl | h1
      · rw [upd_same]
      · by_cases e2 : q = r
        · subst e2; rw [upd_same]
        · rw [upd_ne _ _ _ _ e2, h1]
    · left; rw [upd_ne _ _ _ _ e1, upd_ne _ _ _ _ e1]

/-! ### cells that stand for more -/
theorem HM.recell2 [Glob P] {h h1 : H} {g g' : Mem} {w : World} (hm : HM P h g w) (hm1 : HM P h1 g' w) (mono : Mono g g' w w) {q : Nat} {ty : TypeId} {rows rows' : List (List D)} (hq : h q = some ⟨ty, rows⟩) (hq1 : h1 q = some ⟨ty, rows⟩) (hl : rows'.length = rows.length)
    (hc : ∀ (i : Nat) (row' : List D), rows'[i]? = some row' → ∃ row : List D, rows[i]? = some row ∧ row'.length = row.length ∧ ∀ (j : Nat) (d' : D), row'[j]? = some d' → ∃ d, row[j]? = some d ∧ ∀ v, Rep w g d v → Rep w g' d' v) : HM P (upd h1 q (some ⟨ty, rows'⟩)) g' w := by
  refine ⟨fun x hx => hm1.dead x ?_, fun x bl hx => ?_, hm1.inj, hm1.used, hm1.imm, hm1.gr⟩
  · by_cases e : x = q
    · subst e; rw [upd_same] at hx; cases hx
    · rwa [upd_ne _ _ _ _ e] at hx
  · by_cases e : x = q
    · subst e
      rw [upd_same] at hx
      cases hx
      obtain ⟨blk, c, e1, e2, e3, e4, e5⟩ := hm1.blk x _ hq1
      obtain ⟨blk2, c2, f1, f2, f3, f4, f5⟩ := hm.blk x _ hq
      have eM : g'.M x = g.M x := by
        rcases mono.M x (hm.used x (by rw [f1]; simp)) with k | k
        · exact k
        · rw [k] at e1; cases e1
      rw [eM, f1] at e1
      cases e1
      refine ⟨blk, c, eM.trans f1, e2, by show rows'.length ≤ c; rw [hl]; exact e3, e4, ?_⟩
      rcases e5 with e5 | ⟨b, cur, rfl, h6, h7, h8, h9⟩
      · exact .inl e5
      · refine .inr ⟨b, cur, rfl, h6, h7, h8, fun i row' hi => ?_⟩
        rcases f5 with ⟨f5, _⟩ | ⟨b2, cur2, k5, k6, k7, k8, k9⟩
        · cases f5
        · cases k5
          rw [h6] at k6
          cases k6
          obtain ⟨row, r1, r2, r3⟩ := hc i row' hi
          have hk := k9 i row r1
          refine ⟨r2.trans hk.1, fun j d' hd => ?_⟩
          obtain ⟨d, d1, d2⟩ := r3 j d' hd
          obtain ⟨u, u3, u4, u5⟩ := hk.2 j d d1
          exact ⟨u, u3, u4, d2 u u5⟩
    · rw [upd_ne _ _ _ _ e] at hx
      exact hm1.blk x bl hx
/-- one cell of a block of one row -/
theorem one_cell {row : List D} {j0 : Nat} {d0 d1 : D} (hj : row[j0]? = some d0) {w : World} {g g' : Mem} (hd : ∀ v, Rep w g d0 v → Rep w g' d1 v) (ho : ∀ d v, Rep w g d v → Rep w g' d v) :
    ∀ (i : Nat) (row' : List D), [row.set j0 d1][i]? = some row' → ∃ rw0 : List D, [row][i]? = some rw0 ∧ row'.length = rw0.length ∧ ∀ (j : Nat) (d' : D), row'[j]? = some d' → ∃ d, rw0[j]? = some d ∧ ∀ v, Rep w g d v → Rep w g' d' v := by
  intro i row' hi
  cases i with
  | succ i => simp at hi
  | zero =>
    simp at hi
    subst hi
    refine ⟨row, rfl, by simp, fun j d' hd' => ?_⟩
    by_cases e : j = j0
    · subst e
      rw [List.getElem?_set_self (by exact (List.getElem?_eq_some_iff.1 hj).1)] at hd'
      cases hd'
      exact ⟨d0, hj, hd⟩
    · rw [List.getElem?_set_ne (Ne.symm e)] at hd'
      exact ⟨d', hd', ho d'⟩
/-- A NIL SLICE IN A CELL GETS A NAME. -/
theorem dw_ownj [Glob P] {c : Code} {s : S} (r j : Nat) (ty0 ty : TypeId) {row : List D} (hr : s.h r = some ⟨ty0, [row]⟩) (hj : row[j]? = some (.list true [])) (hty : 0 < P.cellsOf ty) (h : DW P ro c Q { n := s.n, t := s.t, h := upd (upd s.h s.nx (some ⟨ty, []⟩)) r (some ⟨ty0, [row.set j (.mrow s.nx 0 0)]⟩), nx := s.nx + 1, e := s.e }) : DW P ro c Q s := by
  intro B g a w hs hU
  have hnu : ¬ g.U s.nx := fun h => Nat.lt_irrefl _ (hU _ h)
  obtain ⟨g', q1, q2, q3, q4, q5⟩ := hs.mem.putNone (h' := upd s.h s.nx (some ⟨ty, []⟩)) s.nx ⟨ty, []⟩ hnu (upd_same _ _ _) (fun r hr => .inl (upd_ne _ _ _ _ hr)) hty rfl
  have hrn : r ≠ s.nx := by
    intro e
    subst e
    obtain ⟨blk, c, h1, _⟩ := hs.mem.blk _ _ hr
    exact hnu (hs.mem.used _ (by rw [h1]; simp))
  have hm := HM.recell2 (rows' := [row.set j (.mrow s.nx 0 0)]) hs.mem q4 q5 hr (by rw [upd_ne _ _ _ _ hrn]; exact hr) rfl (one_cell hj (fun v hv => by
    obtain ⟨x, rfl⟩ := empty_slice hv
    refine .mrow _ _ _ _ ⟨x, 0, rfl, Nat.le_refl _, fun h => absurd h (by omega)⟩ ((q2 _).2 (.inr rfl)) fun blk c sz he => ?_
    rw [q1] at he
    cases he
    exact ⟨Nat.le_refl _, .inl ⟨rfl, x, rfl⟩⟩) fun d v hv => hv.later hs.mem q5)
  have hst : St P B { n := s.n, t := s.t, h := upd (upd s.h s.nx (some ⟨ty, []⟩)) r (some ⟨ty0, [row.set j (.mrow s.nx 0 0)]⟩), nx := s.nx + 1, e := s.e } g' a w :=
    ⟨hs.sz, fun j => (hs.tm j).later hs.mem q5, hm, hs.df.later hs.mem q5, Env.later hs.mem q5 hs.en, hs.bd⟩
  exact wpIn_mono (h B g' a w hst (fun r hr => by
    rcases (q2 r).1 hr with h | h
    · exact Nat.lt_succ_of_lt (hU r h)
    · subst h; exact Nat.lt_succ_self _)) fun e a' w' ⟨s', g'', q, r, m, u, v⟩ => ⟨s', g'', q, r, q5.toX.trans m, u, v⟩

/-! ### blocks that are written no more -/
def frzMem (g : Mem) (r : Nat) : Mem := { M := fun x => if x = r then none else g.M x, U := g.U, I := fun b => g.I b ∨ ∃ c s, g.M r = some (some b, c, s) }
theorem frz_inv {g : Mem} {r x : Nat} {y} (e : (frzMem g r).M x = some y) : x ≠ r ∧ g.M x = some y := by
  have e : (if x = r then none else g.M x) = some y := e
  split at e
  · cases e
  · exact ⟨‹_›, e⟩
theorem frz_mono (g : Mem) (r : Nat) (w : World) : Mono g (frzMem g r) w w := by
  refine ⟨rfl, rfl, rfl, Nat.le_refl _, Nat.le_refl _, fun _ h => h, fun x _ => ?_, fun x b c s e => .inl ⟨x, c, s, (frz_inv e).2⟩, fun _ h => .inl h, fun b hb => ?_, fun _ _ _ => rfl⟩
  · show (if x = r then none else g.M x) = g.M x ∨ (if x = r then none else g.M x) = none
    split
    · exact .inr rfl
    · exact .inl rfl
  · rcases hb with hb | ⟨c, s, hb⟩
    · exact .inl hb
    · exact .inr (.inr ⟨r, c, s, hb⟩)
theorem frz_hm [Glob P] {h : H} {g : Mem} {w : World} (hm : HM P h g w) (r : Nat) : HM P (upd h r none) (frzMem g r) w := by
  have mono := frz_mono g r w
  refine ⟨fun x hx => ?_, fun x bl hx => ?_, fun x x' b c c' s s' q1 q2 => hm.inj _ _ _ _ _ _ _ (frz_inv q1).2 (frz_inv q2).2, fun x hx => ?_, fun b hb => ?_, hm.gr.later (hm.kept mono)⟩
  · show (if x = r then none else g.M x) = none
    split
    · rfl
    · rename_i e; rw [upd_ne _ _ _ _ e] at hx; exact hm.dead x hx
  · by_cases e : x = r
    · subst e; rw [upd_same] at hx; cases hx
    rw [upd_ne _ _ _ _ e] at hx
    obtain ⟨blk, c, h1, h2, h3, h4, h5⟩ := hm.blk x bl hx
    refine ⟨blk, c, by show (if x = r then none else g.M x) = _; rw [if_neg e]; exact h1, h2, h3, h4, ?_⟩
    rcases h5 with h5 | ⟨b, cur, rfl, h6, h7, h8, h9⟩
    · exact .inl h5
    · refine .inr ⟨b, cur, rfl, h6, h7, fun hI => ?_, fun i row hi => ⟨(h9 i row hi).1, fun j d hd => ?_⟩⟩
      · rcases hI with hI | ⟨c', s', hI⟩
        · exact h8 hI
        · exact e (hm.inj _ _ _ _ _ _ _ h1 hI)
      · obtain ⟨u, k3, k4, k5⟩ := (h9 i row hi).2 j d hd
        exact ⟨u, k3, k4, k5.later hm mono⟩
  · cases e : (frzMem g r).M x with
    | none => exact absurd e hx
    | some y => exact hm.used x (by rw [(frz_inv e).2]; simp)
  · rcases hb with hb | ⟨c, s, hb⟩
    · exact hm.imm b hb
    · exact (M_lt hm hb).1
theorem nrr_sub : ∀ {rows rows' : List (List D)}, nrr rows = true → (∀ r ∈ rows', r ∈ rows) → nrr rows' = true := by
  intro rows rows' h hs
  exact nrr_of fun r hr => nrr_mem h (hs r hr)
theorem frz_rep [Glob P] {h : H} {g : Mem} {w : World} (hm : HM P h g w) {r : Nat} {ty : TypeId} {rows : List (List D)} (hr : h r = some ⟨ty, rows⟩) (hn : nrr rows = true) {off k : Nat} (hk : off + k ≤ rows.length) {v : Value} (hv : Rep w g (.mrow r off k) v) : Rep w (frzMem g r) (.list false ((rows.drop off).take k)) v := by
  let h1 : H := fun x => if x = r then h r else none
  have hsub : ∀ x, h1 x = h x ∨ h1 x = none := fun x => by
    by_cases e : x = r
    · subst e; exact .inl (if_pos rfl)
    · exact .inr (if_neg e)
  have hm1 := hm.only hsub
  have e1 : h1 r = some ⟨ty, rows⟩ := by show (if r = r then h r else none) = _; rw [if_pos rfl]; exact hr
  have e2 : rowsOf (.mrow r off k) h1 = (rows.drop off).take k := by simp only [rowsOf, e1]
  have := deref_rows hm1 (openI_rep hv.only) ⟨by rw [e1]; rfl, by rw [e2]; simp; omega⟩
  rw [e2] at this
  refine this.clean (nrr_sub hn fun x hx => List.mem_of_mem_drop (List.mem_of_mem_take hx)) fun b hb => ?_
  rcases hb with hb | ⟨x, c, sz, hb⟩
  · exact .inl hb
  · have hb2 : (if (h1 x).isSome then g.M x else none) = some (some b, c, sz) := hb
    split at hb2
    · rename_i hx
      have : x = r := by
        refine Classical.byContradiction fun e => ?_
        have : h1 x = none := if_neg e
        rw [this] at hx; cases hx
      subst this
      exact .inr ⟨c, sz, hb2⟩
    · cases hb2
/-- .. a slice of it in a slot -/
theorem dw_freezet [Glob P] {c : Code} {s : S} (i r : Nat) {ty : TypeId} {rows : List (List D)} {off len : Nat} (hi : s.t i = .mrow r off len) (hr : s.h r = some ⟨ty, rows⟩) (hl : off + len ≤ rows.length) (hn : nrr rows = true) (h : DW P ro c Q { n := s.n, t := upd s.t i (.list false ((rows.drop off).take len)), h := upd s.h r none, nx := s.nx, e := s.e }) : DW P ro c Q s := by
  intro B g a w hs hU
  have mono := frz_mono g r w
  have hst : St P B { n := s.n, t := upd s.t i (.list false ((rows.drop off).take len)), h := upd s.h r none, nx := s.nx, e := s.e } (frzMem g r) a w := by
    refine ⟨hs.sz, fun j => ?_, frz_hm hs.mem r, hs.df.later hs.mem mono, Env.later hs.mem mono hs.en, hs.bd⟩
    by_cases e : j = i
    · subst e
      simp only [upd_same]
      have hj := hs.tm j
      rw [hi] at hj
      exact frz_rep hs.mem hr hn hl hj
    · simp only [upd_ne _ _ _ _ e]
      exact (hs.tm j).later hs.mem mono
  exact wpIn_mono (h B (frzMem g r) a w hst hU) fun e a' w' ⟨s', g'', q, r, m, u, v⟩ => ⟨s', g'', q, r, mono.toX.trans m, u, v⟩
/-- .. a slice of it in a cell -/
theorem dw_freezec [Glob P] {c : Code} {s : S} (q j r : Nat) {ty ty0 : TypeId} {rows : List (List D)} {row : List D} {off len : Nat} (hq : s.h q = some ⟨ty0, [row]⟩) (hj : row[j]? = some (.mrow r off len)) (hr : s.h r = some ⟨ty, rows⟩) (hqr : q ≠ r) (hl : off + len ≤ rows.length) (hn : nrr rows = true)
    (h : DW P ro c Q { n := s.n, t := s.t, h := upd (upd s.h r none) q (some ⟨ty0, [row.set j (.list false ((rows.drop off).take len))]⟩), nx := s.nx, e := s.e }) : DW P ro c Q s := by
  intro B g a w hs hU
  have mono := frz_mono g r w
  have hm := HM.recell2 (rows' := [row.set j (.list false ((rows.drop off).take len))]) hs.mem (frz_hm hs.mem r) mono hq (by rw [upd_ne _ _ _ _ hqr]; exact hq) rfl (one_cell hj (fun v hv => frz_rep hs.mem hr hn hl hv) fun d v hv => hv.later hs.mem mono)
  have hst : St P B { n := s.n, t := s.t, h := upd (upd s.h r none) q (some ⟨ty0, [row.set j (.list false ((rows.drop off).take len))]⟩), nx := s.nx, e := s.e } (frzMem g r) a w :=
    ⟨hs.sz, fun j => (hs.tm j).later hs.mem mono, hm, hs.df.later hs.mem mono, Env.later hs.mem mono hs.en, hs.bd⟩
  exact wpIn_mono (h B (frzMem g r) a w hst hU) fun e a' w' ⟨s', g'', q, r, m, u, v⟩ => ⟨s', g'', q, r, mono.toX.trans m, u, v⟩

/-! ### regions with several calls that are told by relations -/
def SegW (P : Program) [Glob P] (ro : Option Nat) (ops : Array Oper) (i b : Nat) (s : S) (Q : Exit → S → Prop) : Prop :=
  ∀ (B : Nat) (g0 g : Mem) (a : Act) (w0 w : World), St P B s g a w → Mono g0 g w0 w → (∀ r, g.U r → r < b + i) →
    wpOpsIn (Fw ro) 0 P ops (fun e a' w' => ∃ s' g', Q e s' ∧ St P B s' g' a' w' ∧ MonoX s.e.x g0 g' w0 w' ∧ (∀ r, g'.U r → r < s'.nx) ∧ s'.e.x = s.e.x) (List.range' i (ops.size - i)) a w
theorem dw_seg [Glob P] {s : S} {id : Nat} {ops : Array Oper} (h : SegW P ro ops 0 s.nx { n := s.n, t := s.t, h := s.h, nx := s.nx + ops.size, ok := True, e := s.e } Q) : DW P ro (.region id ops false) Q s := by
  intro B g a w hs hU
  refine wpIn_region ?_
  rw [List.range_eq_range']
  exact h B g g a w w ⟨hs.sz, hs.tm, hs.mem, hs.df, hs.en, hs.bd⟩ (Mono.refl _ _) (fun r hr => by have := hU r hr; omega)
theorem execFrom_nx [Glob P] (L : List Oper) (b : Nat) : ∀ (l : List Oper) (i : Nat) (u : S), (execFrom P (words P) C L b i l u).nx = u.nx := by
  intro l
  induction l with
  | nil => intro i u; rfl
  | cons x l ih => intro i u; simp only [execFrom]; rw [ih, exec1_n.2]
theorem execFrom_e [Glob P] (L : List Oper) (b : Nat) : ∀ (l : List Oper) (i : Nat) (u : S), (execFrom P (words P) C L b i l u).e = u.e := by
  intro l
  induction l with
  | nil => intro i u; rfl
  | cons x l ih =>
    intro i u
    simp only [execFrom]
    rw [ih]
    unfold exec1
    split <;> rfl
theorem seg_done [Glob P] {s s2 : S} {ops : Array Oper} {i b : Nat} (hi : i ≤ ops.size) (he : execFrom P (words P) C ops.toList b i (ops.toList.drop i) s = s2) (hok : s2.ok) (hn : s.nx = b + ops.size) (hq : Q .normal s2.clear) : SegW P ro ops i b s Q := by
  intro B g0 g a w0 w hs hm hU
  have e3 : (ops.toList.drop i).take (ops.size - i) = ops.toList.drop i := List.take_of_length_le (by simp)
  have := execSeg_sound (ro := ro) (P := P) (C := C) (B := B) (ops := ops) (b := b) (n := 0) (rest := []) (g0 := g0) (w0 := w0) (Q := fun e a' w' => ∃ s' g', Q e s' ∧ St P B s' g' a' w' ∧ MonoX s.e.x g0 g' w0 w' ∧ (∀ r, g'.U r → r < s'.nx) ∧ s'.e.x = s.e.x) (ops.size - i) i s g a w hs hm hU (by omega)
    (by rw [e3, he]; exact hok) fun g'' a'' w'' p1 p2 p3 => by
      rw [e3, he] at p1
      refine ⟨_, g'', hq, p1.clear, p2.toX, fun r hr => ?_, ?_⟩
      · have h3 := p3 r hr
        have h4 := execFrom_nx (P := P) (C := C) ops.toList b (ops.toList.drop i) i s
        rw [he] at h4
        show r < s2.nx
        rw [h4, hn]
        omega
      · have h5 := execFrom_e (P := P) (C := C) ops.toList b (ops.toList.drop i) i s
        rw [he] at h5
        show s2.e.x = s.e.x
        rw [h5]
  rw [List.append_nil] at this
  exact this
theorem seg_call [Glob P] {s s1 : S} {ops : Array Oper} {i b : Nat} (k : Nat) {o : Oper} {f : Operand} {args : Array Operand} {ts : Array TypeId} {fid : FuncId} {first caps xs : List D} (R : D → H → Nat → Prop) (hik : i ≤ k)
    (ho : ops[k]? = some o) (hop : o.op = .call { callee := .value f, args := args, argTypes := ts }) (hg : o.guard = none)
    (he : execFrom P (words P) C ops.toList b i ((ops.toList.drop i).take (k - i)) s = s1) (hok : s1.ok) (hd : dstOk s1.n o.dst = true)
    (hf : s1.ev f = .fn (.func fid) first caps) (hxg : (args.toList.map s1.ev).all sg = true) (hx : ((args.toList.map s1.ev).map sd).map wk = xs) (hct : RCt P fid (first ++ xs ++ caps) s1.h (b + k) R)
    (hk : ∀ res h' n', R res h' n' → SegW P ro ops (k + 1) n' { n := s1.n, t := s1.put o.dst res, h := h', nx := n' + ops.size, ok := True, e := s1.e } Q) : SegW P ro ops i b s Q := by
  intro B g0 g a w0 w hs hm hU
  have hlt : k < ops.size := (Array.getElem?_eq_some_iff.1 ho).1
  have hr : List.range' i (ops.size - i) = List.range' i (k - i) ++ (k :: List.range' (k + 1) (ops.size - (k + 1))) := by
    have : ops.size - i = (k - i) + ((ops.size - (k + 1)) + 1) := by omega
    rw [this, ← List.range'_append_1, List.range'_succ]
    have e1 : i + (k - i) = k := by omega
    rw [e1]
  rw [hr]
  refine execSeg_sound (C := C) (b := b) (k - i) i s g a w hs hm hU (by omega) (by rw [he]; exact hok) fun g1 a1 w1 hs1 hm1 hU1 => ?_
  rw [he] at hs1
  have hU1 : ∀ r, g1.U r → r < b + k := fun r hr => by have := hU1 r hr; omega
  have hse : s1.e = s.e := by rw [← he]; exact execFrom_e _ _ _ _ _
  rw [wpOpsIn_cons]
  unfold wpOpIn
  rw [ho]
  simp only
  have hw : Region.wanted o (yielded ops a1.tmps) = true := by simp [Region.wanted, hg]
  rw [if_pos hw]
  have hdef : ∀ c, o.op ≠ .defer c := by intro c e; rw [e] at hop; cases hop
  have hsem : o.semAt (Fw ro).round a1.eval = execOp a1.eval o := Oper.semAt_eq _ _ _ hdef
  refine ⟨fun _ _ => trivial, ?_⟩
  rw [hsem]
  obtain ⟨hbd, hct⟩ := hct
  have hfr := ev_rep hs1 f
  rw [hf] at hfr
  have hxr := Reps.wk (strips_rep (evs_rep hs1 args.toList) hxg)
  rw [hx] at hxr
  generalize hv : a1.eval f = vf at hfr
  cases hfr with | fn _ _ _ fs cs l1 l2 r1 r2 =>
  have hrun : (execOp a1.eval o).run P w1 = .ok (.enter fid (fs ++ args.map a1.eval ++ cs)) w1 := by
    simp [execOp, hop, resolve, Deferred.ofValue, hv, invoke, callFunc_run hbd]
  rw [hrun, Oper.uponIn_enter]
  have e : fs ++ args.map a1.eval ++ cs = (fs.toList ++ args.toList.map a1.eval ++ cs.toList).toArray := by apply Array.ext'; simp
  rw [e]
  refine ⟨fun h => by simp [Fw, Fence.wide] at h, callsIn_Fw ((hct w1 g1 _ hs1.mem hU1 (Reps.append (Reps.append ⟨by simpa using l1, fun i d x h1 h2 => r1 i d x h1 (by simpa using h2)⟩ hxr) ⟨by simpa using l2, fun i d x h1 h2 => r2 i d x h1 (by simpa using h2)⟩)).mono ?_)⟩
  rintro e w' ⟨v, g', res, h', n', hR, rfl, q1, q2, q3, q4⟩
  have hs2 := put_st hs1 q3 q2 hd q1 True
  have := hk res h' n' hR B g0 g' (a1.put o.dst v) w0 w' ⟨hs2.sz, hs2.tm, hs2.mem, hs2.df, hs2.en, hs2.bd⟩ (hm1.trans q3) (fun r hr => by have := q4 r hr; omega)
  rw [hse] at this
  exact this

/-! ### operations that may give one thing or another -/
theorem seg_does [Glob P] {s s1 : S} {ops : Array Oper} {i b : Nat} (k : Nat) {o : Oper} (A : D → H → Prop) (hik : i ≤ k) (ho : ops[k]? = some o) (hg : o.guard = none) (hdef : ∀ c, o.op ≠ .defer c)
    (he : execFrom P (words P) C ops.toList b i ((ops.toList.drop i).take (k - i)) s = s1) (hok : s1.ok) (hd : dstOk s1.n o.dst = true)
    (hdo : ∀ (B : Nat) (g : Mem) (a : Act) (w : World), St P B s1 g a w → ¬ g.U (b + k) → ∃ d h', A d h' ∧ Does P g w (b + k) ((execOp a.eval o).run P w) d h')
    (hk : ∀ d h', A d h' → SegW P ro ops (k + 1) b { n := s1.n, t := s1.put o.dst d, h := h', nx := s1.nx, ok := True, e := s1.e } Q) : SegW P ro ops i b s Q := by
  intro B g0 g a w0 w hs hm hU
  have hlt : k < ops.size := (Array.getElem?_eq_some_iff.1 ho).1
  have hr : List.range' i (ops.size - i) = List.range' i (k - i) ++ (k :: List.range' (k + 1) (ops.size - (k + 1))) := by
    have : ops.size - i = (k - i) + ((ops.size - (k + 1)) + 1) := by omega
    rw [this, ← List.range'_append_1, List.range'_succ]
    have e1 : i + (k - i) = k := by omega
    rw [e1]
  rw [hr]
  refine execSeg_sound (C := C) (b := b) (k - i) i s g a w hs hm hU (by omega) (by rw [he]; exact hok) fun g1 a1 w1 hs1 hm1 hU1 => ?_
  rw [he] at hs1
  have hU1 : ∀ r, g1.U r → r < b + k := fun r hr => by have := hU1 r hr; omega
  have hse : s1.e = s.e := by rw [← he]; exact execFrom_e _ _ _ _ _
  rw [wpOpsIn_cons]
  unfold wpOpIn
  rw [ho]
  simp only
  have hw : Region.wanted o (yielded ops a1.tmps) = true := by simp [Region.wanted, hg]
  rw [if_pos hw]
  have hsem : o.semAt (Fw ro).round a1.eval = execOp a1.eval o := Oper.semAt_eq _ _ _ hdef
  refine ⟨fun _ _ => trivial, ?_⟩
  rw [hsem]
  obtain ⟨d, h', hA, v, g', w', hrun, q1, q2, q3, q4⟩ := hdo B g1 a1 w1 hs1 (fun h => Nat.lt_irrefl _ (hU1 _ h))
  have hend : ∀ (v : Value) (g' : Mem) (w' : World), Rep w' g' d v → HM P h' g' w' → Mono g1 g' w1 w' → (∀ r, g'.U r → g1.U r ∨ r = b + k) → wpOpsIn (Fw ro) 0 P ops (fun e a' w' => ∃ s' g', Q e s' ∧ St P B s' g' a' w' ∧ MonoX s.e.x g0 g' w0 w' ∧ (∀ r, g'.U r → r < s'.nx) ∧ s'.e.x = s.e.x) (List.range' (k + 1) (ops.size - (k + 1))) (a1.put o.dst v) w' := by
    intro v g' w' q1 q2 q3 q4
    have hs2 := put_st hs1 q3 q2 hd q1 True
    have := hk d h' hA B g0 g' (a1.put o.dst v) w0 w' ⟨hs2.sz, hs2.tm, hs2.mem, hs2.df, hs2.en, hs2.bd⟩ (hm1.trans q3) (fun r hr => by
      rcases q4 r hr with h | h
      · have := hU1 r h; omega
      · omega)
    rw [hse] at this
    exact this
  rcases hrun with hrun | ⟨hrun, rfl⟩
  · rw [hrun, Oper.uponIn_value]; exact hend v g' w' q1 q2 q3 q4
  · rw [hrun, Oper.uponIn_skip]; exact hend undef g' w' q1 q2 q3 q4
/-- A SLICE THAT IS NOT TO BE WRITTEN, COMPARED WITH nil. -/
theorem seg_eqnil [Glob P] {s s1 : S} {ops : Array Oper} {i b : Nat} (k : Nat) {o : Oper} {t e t' : TypeId} {x : Operand} {f : Bool} {rows : List (List D)} (hik : i ≤ k) (ho : ops[k]? = some o) (hg : o.guard = none)
    (hop : o.op = .binOp .eql t x (.const (.slice none 0 0)) t') (ht : P.underlying t = some (.slice e))
    (he : execFrom P (words P) C ops.toList b i ((ops.toList.drop i).take (k - i)) s = s1) (hok : s1.ok) (hd : dstOk s1.n o.dst = true) (hx : s1.ev x = .list f rows)
    (hk : ∀ y : Bool, (y = true → rows = []) → SegW P ro ops (k + 1) b { n := s1.n, t := s1.put o.dst (.b y), h := s1.h, nx := s1.nx, ok := True, e := s1.e } Q) : SegW P ro ops i b s Q := by
  refine seg_does (C := C) k (fun d h' => ∃ y : Bool, d = .b y ∧ h' = s1.h ∧ (y = true → rows = [])) hik ho hg (fun c e => by rw [hop] at e; cases e) he hok hd (fun B g a w hs _ => ?_) (fun d h' ⟨y, hy, hh, hr⟩ => by subst hy; subst hh; exact hk y hr)
  have hr := ev_rep hs x
  rw [hx] at hr
  have key : ∃ (ad : Option Addr) (n c : Nat), a.eval x = .slice ad n c ∧ (ad = none → rows = []) := by
    generalize a.eval x = v at hr
    cases hr with
    | empty _ ad cap hf hm => exact ⟨ad, 0, cap, rfl, fun _ => rfl⟩
    | list _ _ ad cap size cv hI hl hf => exact ⟨some ad, _, cap, rfl, fun h => by cases h⟩
  obtain ⟨ad, n, c, hv, hn⟩ := key
  refine ⟨.b ad.isNone, s1.h, ⟨ad.isNone, rfl, rfl, fun h => hn (Option.isNone_iff_eq_none.1 h)⟩, .bool ad.isNone, g, w, .inl ?_, .v _, hs.mem, Mono.refl _ _, fun r hr => .inl hr⟩
  have hrun := Go.Lib.run_eql_slice_nil (P := P) w t e ad n c 0 0 ht
  have hc : a.eval (.const (.slice none 0 0)) = .slice none 0 0 := rfl
  simp [execOp, hop, hv, hc, eqGuard, hrun]
end Go.DL
