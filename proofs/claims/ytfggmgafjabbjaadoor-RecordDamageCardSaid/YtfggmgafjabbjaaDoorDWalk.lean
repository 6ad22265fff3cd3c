/-
  THE D LAYER, 16: a region and what follows it; forgetting; loops with a table of slots; functions told by a relation, and their calls. Conditions: none.
-/
import Derived.Test.YtfggmgafjabbjaaDoorDSimp
namespace Go.DL
open Go.RowKit
variable {P : Program} {C : Con} {ro : Option Nat} {Q : Exit → S → Prop}

/-- a region -/
theorem dw_reg [Glob P] {s : S} {n nx : Nat} {t : Nat → D} {h : H} {ok : Prop} {e : Env} {id : Nat} {ops : Array Oper} {draw : Bool} (he : exec P (words P) C ops.toList s = ⟨n, t, h, nx, ok, e⟩) (hd : draw = true → P.follows .mixedOrders = true ∧ commOk C ops.toList = true ∧ backOk ops.toList = true) (hok : ok) (hq : Q .normal ⟨n, t, h, nx, True, e⟩) : DW P ro (.region id ops draw) Q s :=
  dw_region_eq (C := C) he hd hok hq
/-- a region with code behind it -/
theorem dw_step [Glob P] {s : S} {n nx : Nat} {t : Nat → D} {h : H} {ok : Prop} {e : Env} {id : Nat} {ops : Array Oper} {draw : Bool} {y : Code} (he : exec P (words P) C ops.toList s = ⟨n, t, h, nx, ok, e⟩) (hd : draw = true → P.follows .mixedOrders = true ∧ commOk C ops.toList = true ∧ backOk ops.toList = true) (hok : ok) (hq : DW P ro y Q ⟨n, t, h, nx, True, e⟩) : DW P ro (.seq (.region id ops draw) y) Q s :=
  dw_seq (dw_region_eq (C := C) he hd hok hq)

/-! ### names and rows -/
@[go_sem] theorem ne_add {r n i : Nat} (h : r < n) : (r = n + i) = False := by simp; omega
@[go_sem] theorem add_ne {r n i : Nat} (h : r < n) : (n + i = r) = False := by simp; omega
@[go_sem] theorem take_map_len {α β : Type} {f : α → β} {l : List α} : (l.map f).take l.length = l.map f := by rw [List.take_of_length_le]; simp
@[go_sem] theorem take_map_len1 {α β : Type} {f : α → β} {l : List α} {x : β} : (l.map f ++ [x]).take (l.length + 1) = l.map f ++ [x] := by rw [List.take_of_length_le]; simp
@[go_sem] theorem wkr_app : ∀ {a b : List (List D)}, wkr (a ++ b) = wkr a ++ wkr b
  | [], _ => rfl
  | r :: a, b => by simp only [List.cons_append, wkr, wkr_app]
attribute [go_sem] snap_rows0 nrr_append nrr nrs
@[go_sem] theorem snapOk_rows {h : H} {rows : List (List D)} : (∀ row ∈ rows, ∀ c ∈ row, snapOk h 0 c) = (nrr rows = true) := by
  apply propext
  refine ⟨fun k => nrr_of fun r hr => nrs_of fun c hc => k r hr c hc, fun k => snapOk_rows0 k⟩
@[go_sem] theorem nr_v {x : Value} : D.nr (.v x) = true := rfl
@[go_sem] theorem nr_list {f : Bool} {rows : List (List D)} : D.nr (.list f rows) = nrr rows := rfl

/-! ### tables of slots -/
def tab : List (Nat × D) → Nat → D
  | [], _ => .junk
  | (j, x) :: l, i => if i = j then x else tab l i
@[go_sem] theorem tab_hit {i : Nat} {x : D} {l : List (Nat × D)} : tab ((i, x) :: l) i = x := by simp [tab]
@[go_sem] theorem tab_miss {j i : Nat} {x : D} {l : List (Nat × D)} (h : (i = j) = False) : tab ((j, x) :: l) i = tab l i := by simp only [tab]; rw [if_neg (by rw [h]; exact id)]
/-- a slot is as the table says, or more is known of it -/
def Tb (t : Nat → D) (p : Nat × D) : Prop := t p.1 = p.2 ∨ wk (t p.1) = p.2
@[go_sem] theorem tb_eq {t : Nat → D} {i : Nat} {d : D} : Tb t (i, d) = (t i = d ∨ wk (t i) = d) := rfl
attribute [go_sem] true_or
theorem tab_sub {t : Nat → D} : ∀ {l : List (Nat × D)}, (∀ p ∈ l, Tb t p) → ∀ i, tab l i = t i ∨ tab l i = wk (t i) ∨ tab l i = .junk
  | [], _, _ => .inr (.inr rfl)
  | (j, x) :: l, h, i => by
    simp only [tab]
    split
    · rename_i e; subst e
      rcases h (i, x) (by simp) with h | h
      · exact .inl h.symm
      · exact .inr (.inl h.symm)
    · exact tab_sub (fun p hp => h p (by simp [hp])) i

/-! ### forgetting -/
def Mem.only (g : Mem) (h' : H) : Mem := { M := fun r => if (h' r).isSome then g.M r else none, U := g.U, I := g.I }
theorem only_M {g : Mem} {h' : H} (r : Nat) (_ : g.U r) : (g.only h').M r = g.M r ∨ (g.only h').M r = none := by
  show (if (h' r).isSome then g.M r else none) = g.M r ∨ (if (h' r).isSome then g.M r else none) = none
  split
  · exact .inl rfl
  · exact .inr rfl
theorem only_mono {g : Mem} {h' : H} {w : World} : Mono g (g.only h') w w := by
  refine ⟨rfl, rfl, rfl, Nat.le_refl _, Nat.le_refl _, fun _ h => h, only_M, fun r b c s h => .inl ⟨r, c, s, ?_⟩, fun _ h => h, fun _ h => .inl h, fun _ _ _ => rfl⟩
  · have h' : (if (h' r).isSome then g.M r else none) = some (some b, c, s) := h
    split at h'
    · exact h'
    · cases h'
theorem Rep.only {g : Mem} {h' : H} {w : World} {d : D} {v : Value} (h : Rep w g d v) : Rep w (g.only h') d v :=
  Rep.mono (g := g) (g' := g.only h') (fun _ hb => ⟨hb, rfl⟩) (fun _ h => h) only_M h
theorem HM.only [Glob P] {h h' : H} {g : Mem} {w : World} (hm : HM P h g w) (hh : ∀ r, h' r = h r ∨ h' r = none) : HM P h' (g.only h') w := by
  have inv : ∀ {r x}, (g.only h').M r = some x → g.M r = some x := by
    intro r x e
    have e : (if (h' r).isSome then g.M r else none) = some x := e
    split at e
    · exact e
    · cases e
  refine ⟨fun r hr => ?_, fun r bl hr => ?_, fun r r' b c c' s s' q1 q2 => hm.inj _ _ _ _ _ _ _ (inv q1) (inv q2), fun r hr => ?_, hm.imm, hm.gr⟩
  · show (if (h' r).isSome then g.M r else none) = none
    rw [hr]; rfl
  · have e : h r = some bl := by
      rcases hh r with e | e
      · rw [← e]; exact hr
      · rw [e] at hr; cases hr
    obtain ⟨blk, c, h1, h2, h3, h4, h5⟩ := hm.blk r bl e
    refine ⟨blk, c, by show (if (h' r).isSome then g.M r else none) = _; rw [hr]; exact h1, h2, h3, h4, ?_⟩
    rcases h5 with h5 | ⟨b, cur, rfl, h6, h7, h8, h9⟩
    · exact .inl h5
    · refine .inr ⟨b, cur, rfl, h6, h7, h8, fun i row hi => ⟨(h9 i row hi).1, fun j d hd => ?_⟩⟩
      obtain ⟨u, k3, k4, k5⟩ := (h9 i row hi).2 j d hd
      exact ⟨u, k3, k4, k5.only⟩
  · cases e : (g.only h').M r with
    | none => exact absurd e hr
    | some x => exact hm.used r (by rw [inv e]; simp)
theorem Marks.only {B : Nat} {g : Mem} {h' : H} {w : World} : ∀ {ds : List Deferred}, Marks B g ds w → Marks B (g.only h') ds w
  | [], _ => trivial
  | _ :: _, ⟨h1, h2⟩ => ⟨h1, Marks.only h2⟩
theorem St.forget [Glob P] {B : Nat} {s : S} {g : Mem} {a : Act} {w : World} (hs : St P B s g a w) {t' : Nat → D} {h' : H} {nx' : Nat} (ht : ∀ i, t' i = s.t i ∨ t' i = wk (s.t i) ∨ t' i = .junk) (hh : ∀ r, h' r = s.h r ∨ h' r = none) :
    St P B { n := s.n, t := t', h := h', nx := nx', e := s.e } (g.only h') a w := by
  refine ⟨hs.sz, fun i => ?_, hs.mem.only hh, hs.df.only, s.e.st P s.h g _ w w hs.mem only_mono hs.en, hs.bd⟩
  rcases ht i with e | e | e
  · show Rep w (g.only h') (t' i) _
    rw [e]; exact (hs.tm i).only
  · show Rep w (g.only h') (t' i) _
    rw [e]; exact (hs.tm i).wk.only
  · show Rep w (g.only h') (t' i) _
    rw [e]; exact .junk _
/-- LESS MAY BE SAID OF A STATE. -/
theorem dw_forget [Glob P] {c : Code} {s : S} (t' : Nat → D) (h' : H) (nx' : Nat) (ht : ∀ i, t' i = s.t i ∨ t' i = wk (s.t i) ∨ t' i = .junk) (hh : ∀ r, h' r = s.h r ∨ h' r = none) (hn : s.nx ≤ nx') (h : DW P ro c Q { n := s.n, t := t', h := h', nx := nx', e := s.e }) : DW P ro c Q s := by
  intro B g a w hs hU
  exact wpIn_mono (h B _ a w (hs.forget ht hh) fun r hr => Nat.lt_of_lt_of_le (hU r hr) hn) fun e a' w' ⟨s', g', q, r, m, u, v⟩ => ⟨s', g', q, r, only_mono.toX.trans m, u, v⟩
theorem dw_tab [Glob P] {c : Code} {s : S} (l : List (Nat × D)) (h' : H) (nx' : Nat) (ht : ∀ p ∈ l, Tb s.t p) (hh : ∀ r, h' r = s.h r ∨ h' r = none) (hn : s.nx ≤ nx') (h : DW P ro c Q { n := s.n, t := tab l, h := h', nx := nx', e := s.e }) : DW P ro c Q s :=
  dw_forget _ _ _ (tab_sub ht) hh hn h

/-- A LOOP, what is known at its head told by a table. -/
theorem dw_loop_tab [Glob P] {c : Code} {s : S} {α : Type} (A : α → Prop) (μ : α → Nat) (tb : α → List (Nat × D)) (hh : α → H) (nxx : α → Nat) (a0 : α) (hA : A a0) (ht : ∀ p ∈ tb a0, Tb s.t p) (hhp : ∀ r, hh a0 r = s.h r ∨ hh a0 r = none) (hn : s.nx ≤ nxx a0)
    (round : ∀ a, A a → DW P ro c (thenS (fun s' => ∃ a', A a' ∧ μ a' < μ a ∧ (∀ p ∈ tb a', Tb s'.t p) ∧ (∀ r, hh a' r = s'.h r ∨ hh a' r = none) ∧ s'.nx ≤ nxx a' ∧ s'.n = s.n ∧ s'.e = s.e) Q) { n := s.n, t := tab (tb a), h := hh a, nx := nxx a, e := s.e }) : DW P ro (.loop c) Q s := by
  intro B g a w hs hU
  refine wpIn_loop_ghost (fun k a' w' => ∃ x g', A x ∧ μ x = k ∧ St P B { n := s.n, t := tab (tb x), h := hh x, nx := nxx x, e := s.e } g' a' w' ∧ MonoX s.e.x g g' w w' ∧ ∀ r, g'.U r → r < nxx x) (μ a0) ⟨a0, _, hA, rfl, hs.forget (tab_sub ht) hhp, only_mono.toX, fun r hr => Nat.lt_of_lt_of_le (hU r hr) hn⟩ ?_
  rintro k a1 w1 ⟨x, g1, hx, rfl, hs1, hm1, hU1⟩
  refine wpIn_mono (round x hx B g1 a1 w1 hs1 hU1) ?_
  rintro e a2 w2 ⟨s2, g2, hq, hs2, hm2, hU2, hx2⟩
  cases e with
  | normal =>
    obtain ⟨x', h1, h2, h3, h4, h5, h6, h7⟩ := hq
    refine ⟨μ x', h2, x', g2.only (hh x'), h1, rfl, ?_, (hm1.trans hm2).trans only_mono.toX, fun r hr => Nat.lt_of_lt_of_le (hU2 r hr) h5⟩
    have := hs2.forget (nx' := nxx x') (tab_sub h3) h4
    rw [h6, h7] at this
    exact this
  | _ => exact ⟨s2, g2, hq, hs2, hm1.trans hm2, hU2, hx2⟩

/-! ### the blocks that are known, told by a table -/
def htab : List (Nat × Blk) → H
  | [] => fun _ => none
  | (r, b) :: l => upd (htab l) r (some b)
@[go_sem] theorem htab_nil : htab [] = fun _ => none := rfl
@[go_sem] theorem htab_cons {r : Nat} {b : Blk} {l : List (Nat × Blk)} : htab ((r, b) :: l) = upd (htab l) r (some b) := rfl
theorem htab_sub {h : H} : ∀ {l : List (Nat × Blk)}, (∀ p ∈ l, h p.1 = some p.2) → ∀ r, htab l r = h r ∨ htab l r = none
  | [], _, _ => .inr rfl
  | (j, x) :: l, hl, i => by
    simp only [htab, upd]
    split
    · rename_i e; subst e; exact .inl (hl (i, x) (by simp)).symm
    · exact htab_sub (fun p hp => hl p (by simp [hp])) i
theorem mem_fx {s : S} {keep : List Nat} {fx : List (Nat × D)} (hfx : keep.map (fun i => (i, s.t i)) = fx) : ∀ p ∈ fx, Tb s.t p := by
  intro p hp
  rw [← hfx] at hp
  obtain ⟨i, _, rfl⟩ := List.mem_map.1 hp
  exact .inl rfl
/-- a loop, with slots that stay as they are -/
theorem dw_loop_fix [Glob P] {c : Code} {s : S} {α : Type} (keep : List Nat) (A : α → Prop) (μ : α → Nat) (tb : α → List (Nat × D)) (hb : α → List (Nat × Blk)) (nxx : α → Nat) (a0 : α) {fx : List (Nat × D)} (hfx : keep.map (fun i => (i, s.t i)) = fx) (hA : A a0) (ht : ∀ p ∈ tb a0, Tb s.t p) (hh : ∀ p ∈ hb a0, s.h p.1 = some p.2) (hn : s.nx ≤ nxx a0)
    (round : ∀ a, A a → DW P ro c (thenS (fun s' => ∃ a', A a' ∧ μ a' < μ a ∧ (∀ p ∈ tb a', Tb s'.t p) ∧ (∀ p ∈ fx, Tb s'.t p) ∧ (∀ p ∈ hb a', s'.h p.1 = some p.2) ∧ s'.nx ≤ nxx a' ∧ s'.n = s.n ∧ s'.e = s.e) Q) { n := s.n, t := tab (tb a ++ fx), h := htab (hb a), nx := nxx a, e := s.e }) : DW P ro (.loop c) Q s :=
  dw_loop_tab A μ (fun a => tb a ++ fx) (fun a => htab (hb a)) nxx a0 hA (fun p hp => (List.mem_append.1 hp).elim (ht p) (mem_fx hfx p)) (htab_sub hh) hn fun a ha => (round a ha).mono fun e s' hq => by
    cases e with
    | normal =>
      obtain ⟨a', h1, h2, h3, h4, h5, h6, h7, h8⟩ := hq
      exact ⟨a', h1, h2, fun p hp => (List.mem_append.1 hp).elim (h3 p) (h4 p), htab_sub h5, h6, h7, h8⟩
    | _ => exact hq
/-- A MEETING OF WAYS: what is known there told by a table. -/
theorem dw_join [Glob P] {x y : Code} {s : S} {α : Type} (keep : List Nat) (A : α → Prop) (tb : α → List (Nat × D)) (hb : α → List (Nat × Blk)) (nxx : α → Nat) {fx : List (Nat × D)} (_hfx : keep.map (fun i => (i, s.t i)) = fx)
    (h : DW P ro x (thenS (fun s' => ∃ a, A a ∧ (∀ p ∈ tb a, Tb s'.t p) ∧ (∀ p ∈ fx, Tb s'.t p) ∧ (∀ p ∈ hb a, s'.h p.1 = some p.2) ∧ s'.nx ≤ nxx a ∧ s'.n = s.n ∧ s'.e = s.e) Q) s)
    (k : ∀ a, A a → DW P ro y Q { n := s.n, t := tab (tb a ++ fx), h := htab (hb a), nx := nxx a, e := s.e }) : DW P ro (.seq x y) Q s := by
  refine dw_seq_to _ h ?_
  rintro s' ⟨a, h1, h2, h3, h4, h5, h6, h7⟩
  refine dw_tab (tb a ++ fx) (htab (hb a)) (nxx a) (fun p hp => (List.mem_append.1 hp).elim (h2 p) (h3 p)) (htab_sub h4) h5 ?_
  rw [h6, h7]
  exact k a h1
/-- the rest of a walk, from less -/
theorem dw_cut [Glob P] {c : Code} {s : S} (keep : List Nat) (hb : List (Nat × Blk)) {fx : List (Nat × D)} (hfx : keep.map (fun i => (i, s.t i)) = fx) (hh : ∀ p ∈ hb, s.h p.1 = some p.2) (h : DW P ro c Q { n := s.n, t := tab fx, h := htab hb, nx := s.nx, e := s.e }) : DW P ro c Q s :=
  dw_tab fx (htab hb) s.nx (mem_fx hfx) (htab_sub hh) (Nat.le_refl _) h
/-- a list's length is bounded -/
theorem dw_len [Glob P] {c : Code} {s : S} (i : Nat) {f : Bool} {rows : List (List D)} (he : s.t i = .list f rows) (h : rows.length ≤ maxLen → DW P ro c Q s) : DW P ro c Q s := by
  intro B g a w hs hU
  refine h ?_ B g a w hs hU
  have hr := hs.tm i
  rw [he] at hr
  generalize a.tmps.getD i undef = v at hr
  cases hr with
  | empty => simp [maxLen]
  | list _ _ ad cap size cv hI hl hf hm hs hc hr => omega

/-- A NIL SLICE GETS A NAME: so that a loop that appends to it says one thing of it. -/
theorem dw_own [Glob P] {c : Code} {s : S} (i : Nat) (ty : TypeId) (hi : s.t i = .list true []) (hty : 0 < P.cellsOf ty) (h : DW P ro c Q { n := s.n, t := upd s.t i (.mrow s.nx 0 0), h := upd s.h s.nx (some ⟨ty, []⟩), nx := s.nx + 1, e := s.e }) : DW P ro c Q s := by
  intro B g a w hs hU
  have hnu : ¬ g.U s.nx := fun h => Nat.lt_irrefl _ (hU _ h)
  obtain ⟨g', q1, q2, q3, q4, q5⟩ := hs.mem.putNone (h' := upd s.h s.nx (some ⟨ty, []⟩)) s.nx ⟨ty, []⟩ hnu (upd_same _ _ _) (fun r hr => .inl (upd_ne _ _ _ _ hr)) hty rfl
  have hst : St P B { n := s.n, t := upd s.t i (.mrow s.nx 0 0), h := upd s.h s.nx (some ⟨ty, []⟩), nx := s.nx + 1, e := s.e } g' a w := by
    refine ⟨hs.sz, fun j => ?_, q4, hs.df.later hs.mem q5, Env.later hs.mem q5 hs.en, hs.bd⟩
    by_cases e : j = i
    · subst e
      simp only [upd_same]
      have hr := hs.tm j
      rw [hi] at hr
      generalize a.tmps.getD j undef = v at hr
      have key : ∃ x, v = .slice x 0 0 := by
        cases hr with
        | empty _ x cap hf hm => exact ⟨x, by rw [hf rfl]⟩
        | list _ _ ad cap size cv hI hl hf => exact ⟨some ad, by rw [hf rfl]; rfl⟩
      obtain ⟨x, rfl⟩ := key
      refine .mrow _ _ _ _ ⟨x, 0, rfl, Nat.le_refl _, fun h => absurd h (by omega)⟩ ((q2 _).2 (.inr rfl)) fun blk c sz he => ?_
      rw [q1] at he
      cases he
      exact ⟨Nat.le_refl _, .inl ⟨rfl, x, rfl⟩⟩
    · simp only [upd_ne _ _ _ _ e]
      exact (hs.tm j).later hs.mem q5
  exact wpIn_mono (h B g' a w hst (fun r hr => by
    rcases (q2 r).1 hr with h | h
    · exact Nat.lt_succ_of_lt (hU r h)
    · subst h; exact Nat.lt_succ_self _)) fun e a' w' ⟨s', g'', q, r, m, u, v⟩ => ⟨s', g'', q, r, q5.toX.trans m, u, v⟩

theorem empty_slice {w : World} {g : Mem} {v : Value} (hr : Rep w g (.list true []) v) : ∃ x, v = .slice x 0 0 := by
  cases hr with
  | empty _ x cap hf hm => exact ⟨x, by rw [hf rfl]⟩
  | list _ _ ad cap size cv hI hl hf => exact ⟨some ad, by rw [hf rfl]; rfl⟩
/-- .. and one that lies in a box. -/
theorem dw_ownc [Glob P] {c : Code} {s : S} (r : Nat) (ty0 ty : TypeId) (hr : s.h r = some ⟨ty0, [[.list true []]]⟩) (hty : 0 < P.cellsOf ty) (h : DW P ro c Q { n := s.n, t := s.t, h := upd (upd s.h r (some ⟨ty0, [[.mrow s.nx 0 0]]⟩)) s.nx (some ⟨ty, []⟩), nx := s.nx + 1, e := s.e }) : DW P ro c Q s := by
  intro B g a w hs hU
  have hnu : ¬ g.U s.nx := fun h => Nat.lt_irrefl _ (hU _ h)
  obtain ⟨g', q1, q2, q3, q4, q5⟩ := hs.mem.putNone (h' := upd s.h s.nx (some ⟨ty, []⟩)) s.nx ⟨ty, []⟩ hnu (upd_same _ _ _) (fun r hr => .inl (upd_ne _ _ _ _ hr)) hty rfl
  have hrn : r ≠ s.nx := by
    intro e
    subst e
    obtain ⟨blk, c, h1, _⟩ := hs.mem.blk _ _ hr
    exact hnu (hs.mem.used _ (by rw [h1]; simp))
  have hm : HM P (upd (upd s.h r (some ⟨ty0, [[.mrow s.nx 0 0]]⟩)) s.nx (some ⟨ty, []⟩)) g' w := by
    refine ⟨fun x hx => q4.dead x ?_, fun x bl hx => ?_, q4.inj, q4.used, q4.imm, q4.gr⟩
    · by_cases e : x = s.nx
      · subst e; rw [upd_same] at hx; cases hx
      · rw [upd_ne _ _ _ _ e] at hx ⊢
        by_cases e2 : x = r
        · subst e2; rw [upd_same] at hx; cases hx
        · rwa [upd_ne _ _ _ _ e2] at hx
    · by_cases e : x = s.nx
      · subst e; rw [upd_same] at hx; exact q4.blk _ bl (by rw [upd_same]; exact hx)
      · rw [upd_ne _ _ _ _ e] at hx
        by_cases e2 : x = r
        · subst e2
          rw [upd_same] at hx
          cases hx
          obtain ⟨blk, c, h1, h2, h3, h4, h5⟩ := q4.blk x ⟨ty0, [[.list true []]]⟩ (by rw [upd_ne _ _ _ _ e]; exact hr)
          refine ⟨blk, c, h1, h2, h3, h4, ?_⟩
          rcases h5 with h5 | ⟨b, cur, rfl, h6, h7, h8, h9⟩
          · exact .inl h5
          · refine .inr ⟨b, cur, rfl, h6, h7, h8, fun i row hi => ?_⟩
            have hi' : i = 0 ∧ row = [.mrow s.nx 0 0] := by
              cases i with
              | zero => exact ⟨rfl, by simpa using hi.symm⟩
              | succ i => simp at hi
            obtain ⟨rfl, rfl⟩ := hi'
            obtain ⟨p1, p2⟩ := h9 0 [.list true []] rfl
            refine ⟨p1, fun j d hd => ?_⟩
            have hj : j = 0 ∧ d = .mrow s.nx 0 0 := by
              cases j with
              | zero => exact ⟨rfl, by simpa using hd.symm⟩
              | succ j => simp at hd
            obtain ⟨rfl, rfl⟩ := hj
            obtain ⟨u, k3, k4, k5⟩ := p2 0 _ rfl
            refine ⟨u, k3, k4, ?_⟩
            obtain ⟨x, rfl⟩ := empty_slice k5
            refine .mrow _ _ _ _ ⟨x, 0, rfl, Nat.le_refl _, fun h => absurd h (by omega)⟩ ((q2 _).2 (.inr rfl)) fun blk c sz he => ?_
            rw [q1] at he
            cases he
            exact ⟨Nat.le_refl _, .inl ⟨rfl, x, rfl⟩⟩
        · rw [upd_ne _ _ _ _ e2] at hx
          exact q4.blk x bl (by rw [upd_ne _ _ _ _ e]; exact hx)
  have hst : St P B { n := s.n, t := s.t, h := upd (upd s.h r (some ⟨ty0, [[.mrow s.nx 0 0]]⟩)) s.nx (some ⟨ty, []⟩), nx := s.nx + 1, e := s.e } g' a w :=
    ⟨hs.sz, fun j => (hs.tm j).later hs.mem q5, hm, hs.df.later hs.mem q5, Env.later hs.mem q5 hs.en, hs.bd⟩
  exact wpIn_mono (h B g' a w hst (fun r hr => by
    rcases (q2 r).1 hr with h | h
    · exact Nat.lt_succ_of_lt (hU r h)
    · subst h; exact Nat.lt_succ_self _)) fun e a' w' ⟨s', g'', q, r, m, u, v⟩ => ⟨s', g'', q, r, q5.toX.trans m, u, v⟩

/-- A BLOCK IS WRITTEN NO MORE: a slice of it may be handed on as a list. -/
theorem dw_freeze [Glob P] {c : Code} {s : S} (i r : Nat) {ty : TypeId} {rows : List (List D)} {len : Nat} (hi : s.t i = .mrow r 0 len) (hr : s.h r = some ⟨ty, rows⟩) (hl : rows.length = len) (hn : nrr rows = true) (h : DW P ro c Q { n := s.n, t := upd s.t i (.list false rows), h := upd s.h r none, nx := s.nx, e := s.e }) : DW P ro c Q s := by
  intro B g a w hs hU
  let g' : Mem := { M := fun x => if x = r then none else g.M x, U := g.U, I := fun b => g.I b ∨ ∃ c s, g.M r = some (some b, c, s) }
  have inv : ∀ {x y}, g'.M x = some y → x ≠ r ∧ g.M x = some y := by
    intro x y e
    have e : (if x = r then none else g.M x) = some y := e
    split at e
    · cases e
    · exact ⟨‹_›, e⟩
  have mono : Mono g g' w w := by
    refine ⟨rfl, rfl, rfl, Nat.le_refl _, Nat.le_refl _, fun _ h => h, fun x _ => ?_, fun x b c s e => .inl ⟨x, c, s, (inv e).2⟩, fun _ h => .inl h, fun b hb => ?_, fun _ _ _ => rfl⟩
    · show (if x = r then none else g.M x) = g.M x ∨ (if x = r then none else g.M x) = none
      split
      · exact .inr rfl
      · exact .inl rfl
    · rcases hb with hb | ⟨c, s, hb⟩
      · exact .inl hb
      · exact .inr (.inr ⟨r, c, s, hb⟩)
  have hm : HM P (upd s.h r none) g' w := by
    refine ⟨fun x hx => ?_, fun x bl hx => ?_, fun x x' b c c' s s' q1 q2 => hs.mem.inj _ _ _ _ _ _ _ (inv q1).2 (inv q2).2, fun x hx => ?_, fun b hb => ?_, hs.mem.gr.later (hs.mem.kept mono)⟩
    · show (if x = r then none else g.M x) = none
      split
      · rfl
      · rename_i e; rw [upd_ne _ _ _ _ e] at hx; exact hs.mem.dead x hx
    · by_cases e : x = r
      · subst e; rw [upd_same] at hx; cases hx
      rw [upd_ne _ _ _ _ e] at hx
      obtain ⟨blk, c, h1, h2, h3, h4, h5⟩ := hs.mem.blk x bl hx
      refine ⟨blk, c, by show (if x = r then none else g.M x) = _; rw [if_neg e]; exact h1, h2, h3, h4, ?_⟩
      rcases h5 with h5 | ⟨b, cur, rfl, h6, h7, h8, h9⟩
      · exact .inl h5
      · refine .inr ⟨b, cur, rfl, h6, h7, fun hI => ?_, fun i row hi => ⟨(h9 i row hi).1, fun j d hd => ?_⟩⟩
        · rcases hI with hI | ⟨c', s', hI⟩
          · exact h8 hI
          · exact e (hs.mem.inj _ _ _ _ _ _ _ h1 hI)
        · obtain ⟨u, k3, k4, k5⟩ := (h9 i row hi).2 j d hd
          exact ⟨u, k3, k4, k5.later hs.mem mono⟩
    · cases e : g'.M x with
      | none => exact absurd e hx
      | some y => exact hs.mem.used x (by rw [(inv e).2]; simp)
    · rcases hb with hb | ⟨c, s, hb⟩
      · exact hs.mem.imm b hb
      · exact (M_lt hs.mem hb).1
  have hst : St P B { n := s.n, t := upd s.t i (.list false rows), h := upd s.h r none, nx := s.nx, e := s.e } g' a w := by
    refine ⟨hs.sz, fun j => ?_, hm, hs.df.later hs.mem mono, Env.later hs.mem mono hs.en, hs.bd⟩
    by_cases e : j = i
    · subst e
      simp only [upd_same]
      have hj := hs.tm j
      rw [hi] at hj
      let h1 : H := fun x => if x = r then s.h r else none
      have hsub : ∀ x, h1 x = s.h x ∨ h1 x = none := fun x => by
        by_cases e : x = r
        · subst e; exact .inl (if_pos rfl)
        · exact .inr (if_neg e)
      have hm1 := hs.mem.only hsub
      have e1 : h1 r = some ⟨ty, rows⟩ := by show (if r = r then s.h r else none) = _; rw [if_pos rfl]; exact hr
      have e2 : rowsOf (.mrow r 0 len) h1 = rows := by simp only [rowsOf, e1, List.drop_zero]; rw [← hl]; exact List.take_length
      have := deref_rows hm1 (openI_rep hj.only) ⟨by rw [e1]; rfl, by rw [e2]; exact hl⟩
      rw [e2] at this
      refine this.clean hn fun b hb => ?_
      rcases hb with hb | ⟨x, c, sz, hb⟩
      · exact .inl hb
      · have hb2 : (if (h1 x).isSome then g.M x else none) = some (some b, c, sz) := hb
        split at hb2
        · rename_i hx
          have : x = r := by
            refine Classical.byContradiction fun e => ?_
            have : h1 x = none := if_neg e
            rw [this] at hx; cases hx
          subst this
          exact .inr ⟨c, sz, hb2⟩
        · cases hb2
    · simp only [upd_ne _ _ _ _ e]
      exact (hs.tm j).later hs.mem mono
  exact wpIn_mono (h B g' a w hst hU) fun e a' w' ⟨s', g'', q, r, m, u, v⟩ => ⟨s', g'', q, r, mono.toX.trans m, u, v⟩

/-! ### functions that are told by a relation -/
/-- A FUNCTION, AT THESE ARGUMENTS, WITH THESE BLOCKS KNOWN; n: the first name that is free. R: what it hands back, the blocks known then, the first name that is free then. -/
def RCt (P : Program) [Glob P] (f : FuncId) (args : List D) (h : H) (n : Nat) (R : D → H → Nat → Prop) : Prop :=
  hasBody P f = true ∧ ∀ (w : World) (g : Mem) (vs : List Value), HM P h g w → (∀ r, g.U r → r < n) → Reps w g args vs →
    CallsIn Fence.wide 0 P f vs.toArray w fun e w' => ∃ v g' res h' n', R res h' n' ∧ e = .returned v ∧ Rep w' g' res v ∧ HM P h' g' w' ∧ Mono g g' w w' ∧ ∀ r, g'.U r → r < n'
theorem RCt.mono [Glob P] {f : FuncId} {args : List D} {h : H} {n : Nat} {R R' : D → H → Nat → Prop} (k : RCt P f args h n R) (i : ∀ d h' n', R d h' n' → R' d h' n') : RCt P f args h n R' :=
  ⟨k.1, fun w g vs h1 h2 h3 => (k.2 w g vs h1 h2 h3).mono fun _ _ ⟨v, g', res, h', n', q, r⟩ => ⟨v, g', res, h', n', i _ _ _ q, r⟩⟩
theorem none_above [Glob P] {h : H} {g : Mem} {w : World} {n : Nat} (hm : HM P h g w) (hU : ∀ r, g.U r → r < n) : ∀ r, n ≤ r → h r = none := by
  intro r hr
  cases hq : h r with
  | none => rfl
  | some bl =>
    obtain ⟨blk, c', h1, _⟩ := hm.blk r bl hq
    have := hU r (hm.used r (by rw [h1]; simp))
    omega
/-- **SUCH A CONTRACT, OUT OF A WALK.** -/
theorem rct_of_dw [Glob P] {f : FuncId} {fn : Func} {c : Code} {args : List D} {h : H} {n : Nat} {R : D → H → Nat → Prop} (hf : P.funcs[f]? = some fn) (hb : fn.body = some c) (hbd : hasBody P f = true) (hn : args.length ≤ fn.ntmps)
    (hw : (∀ r, n ≤ r → h r = none) → DW P none c (fun e s => (e = .normal ∨ e = .ret) ∧ resOk P s fn.results.toList ∧ ∃ h' n', (∀ r, h' r = s.h r ∨ h' r = none) ∧ s.nx ≤ n' ∧ R (resD P fn.results.toList s) h' n') { n := fn.ntmps, t := fun i => args.getD i .junk, h := h, nx := n }) : RCt P f args h n R := by
  refine ⟨hbd, fun w g vs hm hU hr => ?_⟩
  have hs := init_st (P := P) (n := fn.ntmps) hr hn hm (nx := n)
  refine callsIn_of_wp_marks (n := 0) hf hb trivial (wpIn_mono (F := Fence.wide) (hw (none_above hm hU) w.heap.size g _ w hs hU) ?_)
  rintro e a' w' ⟨s', g', ⟨he, ho, h', n', hh, hn', hR⟩, hs', hm', hU', _⟩
  have hm' := hm'.out
  have hlast : LeavesInM Fence.wide 0 P fn a'.tmps (fun e w' => ∃ v g' res h' n', R res h' n' ∧ e = .returned v ∧ Rep w' g' res v ∧ HM P h' g' w' ∧ Mono g g' w w' ∧ ∀ r, g'.U r → r < n') a'.defers .returning w' := by
    refine leaves_marks (P := P) a'.defers w' hs'.df fun w2 e0 e1 e2 e3 e4 e5 e6 e7 => ?_
    have hs2 := hs'.marks e4 e6 e7
    obtain ⟨v, h1, h2⟩ := results_sound (fn := fn) hs2 ho
    have mono2 : Mono g g' w w2 := by
      refine ⟨by rw [e1, hm'.os], by rw [e2, hm'.tape], by rw [e3, hm'.output], by rw [e4]; exact hm'.size, by rw [e0]; exact hm'.drawn, hm'.U, hm'.M, hm'.new, hm'.I, hm'.inew, fun k hk hne => ?_⟩
      rw [e5 k hk]; exact hm'.same k hk hne
    exact ⟨v, h1, v, g'.only h', _, h', n', hR, rfl, h2.only, hs2.mem.only hh, mono2.trans only_mono, fun r hr => Nat.lt_of_lt_of_le (hU' r hr) hn'⟩
  rcases he with rfl | rfl <;> exact hlast

/-- A function that leaves memory alone, told by a relation. -/
theorem PureCt.rct [Glob P] {f : FuncId} {args : List D} {res : D} (k : PureCt P f args res) (h : H) (n : Nat) : RCt P f args h n (fun d h' n' => d = res ∧ h' = h ∧ n' = n) := by
  obtain ⟨hbd, hnr, hct⟩ := k
  refine ⟨hbd, fun w g vs hm hU hr => ?_⟩
  refine (hct w g.I _ hm.imm hm.gr (hr.clean hnr fun _ h => h)).mono ?_
  rintro e w' ⟨v, rfl, hbel, hv⟩
  let g' : Mem := { g with I := fun b => g.I b ∨ (w.heap.size ≤ b ∧ b < w'.heap.size) }
  have mono : Mono g g' w w' := ⟨hbel.os, hbel.tape, hbel.output, hbel.size, hbel.drawn, fun _ h => h, fun _ _ => .inl rfl, fun r b c s h => .inl ⟨r, c, s, h⟩, fun _ h => .inl h, fun b h => by rcases h with h | h; exact .inl h; exact .inr (.inl h.1), fun b hb _ => hbel.block b hb⟩
  refine ⟨v, g', res, h, n, ⟨rfl, rfl, rfl⟩, rfl, by refine Rep.mono ?_ ?_ ?_ hv; exact fun b hb => ⟨hb, rfl⟩; exact fun _ h => False.elim h; exact fun _ h => False.elim h, ⟨hm.dead, fun r bl hr => ?_, hm.inj, hm.used, fun b hb => ?_, hm.gr.later (hm.kept mono)⟩, mono, hU⟩
  · obtain ⟨blk, c, h1, h2, h3, h4, h5⟩ := hm.blk r bl hr
    refine ⟨blk, c, h1, h2, h3, h4, ?_⟩
    rcases h5 with h5 | ⟨b, cur, rfl, h6, h7, h8, h9⟩
    · exact .inl h5
    · have hlt := (M_lt hm h1).1
      refine .inr ⟨b, cur, rfl, by rw [hbel.block b hlt]; exact h6, h7, fun hI => ?_, fun i row hi => ⟨(h9 i row hi).1, fun j d hd => ?_⟩⟩
      · rcases hI with hI | hI
        · exact h8 hI
        · omega
      · obtain ⟨u, k3, k4, k5⟩ := (h9 i row hi).2 j d hd
        exact ⟨u, k3, k4, k5.later hm mono⟩
  · rcases hb with hb | hb
    · exact Nat.lt_of_lt_of_le (hm.imm b hb) hbel.size
    · exact hb.2

/-! ### a region with one such call -/
theorem arr_at {α : Type} {a : Array α} {k : Nat} {o : α} (h : a.toList[k]? = some o) : a[k]? = some o := by rwa [Array.getElem?_toList] at h
/-- the operations from i on, j of them, in the text's order -/
theorem execSeg_sound [Glob P] {B : Nat} {ops : Array Oper} {b : Nat} {n : Nat} {Q : Exit → Act → World → Prop} {w0 : World} {g0 : Mem} {rest : List Nat} : ∀ (k i : Nat) (s : S) (g : Mem) (a : Act) (w : World), St P B s g a w → Mono g0 g w0 w → (∀ r, g.U r → r < b + i) →
    i + k ≤ ops.size → (execFrom P (words P) C ops.toList b i ((ops.toList.drop i).take k) s).ok →
    (∀ g' a' w', St P B (execFrom P (words P) C ops.toList b i ((ops.toList.drop i).take k) s) g' a' w' → Mono g0 g' w0 w' → (∀ r, g'.U r → r < b + (i + k)) → wpOpsIn (Fw ro) n P ops Q rest a' w') →
    wpOpsIn (Fw ro) n P ops Q (List.range' i k ++ rest) a w := by
  intro k
  induction k with
  | zero =>
    intro i s g a w hs hm hU hk hok hQ
    exact hQ g a w hs hm hU
  | succ k ih =>
    intro i s g a w hs hm hU hk hok hQ
    have hlt : i < ops.size := by omega
    have hd : (ops.toList.drop i).take (k + 1) = ops[i] :: (ops.toList.drop (i + 1)).take k := by rw [List.drop_eq_getElem_cons (by simpa using hlt)]; simp
    rw [hd] at hok hQ
    simp only [execFrom] at hok hQ
    rw [List.range'_succ, List.cons_append, wpOpsIn_cons]
    refine exec1_sound hs (b := b) (N := b + i) (fun h => by have := hU _ h; omega) hU (by simp [hlt]) (execFrom_ok hok) fun g' a' w' h1 h2 h3 => ?_
    refine ih (i + 1) _ g' a' w' h1 (hm.trans h2) (fun r hr => by rcases h3 r hr with h | h; · have := hU r h; omega
                                                                  · omega) (by omega) hok fun g'' a'' w'' q1 q2 q3 => hQ g'' a'' w'' q1 q2 fun r hr => by have := q3 r hr; omega

theorem Reps.wk {w : World} {g : Mem} {ds : List D} {vs : List Value} (h : Reps w g ds vs) : Reps w g (ds.map wk) vs :=
  ⟨by simpa using h.1, fun i d x h1 h2 => by obtain ⟨y, h3, rfl⟩ := map_at h1; exact (h.2 i y x h3 h2).wk⟩
/-- **A REGION WITH ONE CALL THAT IS TOLD BY A RELATION**: number k of its operations. -/
theorem dw_call [Glob P] {s s1 : S} {id : Nat} {ops : Array Oper} (k : Nat) {o : Oper} {f : Operand} {args : Array Operand} {ts : Array TypeId} {fid : FuncId} {first caps xs : List D} (R : D → H → Nat → Prop)
    (ho : ops[k]? = some o) (hop : o.op = .call { callee := .value f, args := args, argTypes := ts }) (hg : o.guard = none)
    (he : execFrom P (words P) C ops.toList s.nx 0 (ops.toList.take k) { n := s.n, t := s.t, h := s.h, nx := s.nx + k, ok := s.ok, e := s.e } = s1) (hok : s1.ok) (hd : dstOk s1.n o.dst = true)
    (hf : s1.ev f = .fn (.func fid) first caps) (hxg : (args.toList.map s1.ev).all sg = true) (hx : ((args.toList.map s1.ev).map sd).map wk = xs) (hct : RCt P fid (first ++ xs ++ caps) s1.h (s.nx + k) R)
    (hk : ∀ res h' n', R res h' n' → ∃ s2, execFrom P (words P) C ops.toList n' (k + 1) (ops.toList.drop (k + 1)) { n := s1.n, t := s1.put o.dst res, h := h', nx := n' + ops.size, ok := True, e := s1.e } = s2 ∧ s2.ok ∧ Q .normal s2.clear) :
    DW P ro (.region id ops false) Q s := by
  intro B g a w hs hU
  have hlt : k < ops.size := (Array.getElem?_eq_some_iff.1 ho).1
  refine wpIn_region ?_
  have hr : List.range ops.size = List.range' 0 k ++ (k :: List.range' (k + 1) (ops.size - (k + 1))) := by
    rw [List.range_eq_range']
    have : ops.size = k + ((ops.size - (k + 1)) + 1) := by omega
    conv => lhs; rw [this]
    rw [← List.range'_append_1, List.range'_succ]
    simp
  rw [hr]
  have hs0 : St P B { n := s.n, t := s.t, h := s.h, nx := s.nx + k, ok := s.ok, e := s.e } g a w := ⟨hs.sz, hs.tm, hs.mem, hs.df, hs.en, hs.bd⟩
  have e0 : (ops.toList.drop 0).take k = ops.toList.take k := rfl
  refine execSeg_sound (C := C) (b := s.nx) k 0 _ g a w hs0 (Mono.refl _ _) (fun r hr => by have := hU r hr; omega) (by omega) (by rw [e0, he]; exact hok) fun g1 a1 w1 hs1 hm1 hU1 => ?_
  rw [e0, he] at hs1
  rw [wpOpsIn_cons]
  unfold wpOpIn
  rw [ho]
  simp only
  have hw : Region.wanted o (yielded ops a1.tmps) = true := by simp [Region.wanted, hg]
  rw [if_pos hw]
  have hdef : ∀ c, o.op ≠ .defer c := by intro c e; rw [e] at hop; cases hop
  have hsem : o.semAt (Fw ro).round a1.eval = execOp a1.eval o := Oper.semAt_eq _ _ _ hdef
  refine ⟨fun _ _ => trivial, ?_⟩
  rw [hsem]
  obtain ⟨hbd, hct⟩ := hct
  have hfr := ev_rep hs1 f
  rw [hf] at hfr
  have hxr := Reps.wk (strips_rep (evs_rep hs1 args.toList) hxg)
  rw [hx] at hxr
  generalize hv : a1.eval f = vf at hfr
  cases hfr with | fn _ _ _ fs cs l1 l2 r1 r2 =>
  have hrun : (execOp a1.eval o).run P w1 = .ok (.enter fid (fs ++ args.map a1.eval ++ cs)) w1 := by
    simp [execOp, hop, resolve, Deferred.ofValue, hv, invoke, callFunc_run hbd]
  rw [hrun, Oper.uponIn_enter]
  have e : fs ++ args.map a1.eval ++ cs = (fs.toList ++ args.toList.map a1.eval ++ cs.toList).toArray := by apply Array.ext'; simp
  rw [e]
  refine ⟨fun h => by simp [Fw, Fence.wide] at h, callsIn_Fw ((hct w1 g1 _ hs1.mem (fun r hr => by have := hU1 r hr; omega) (Reps.append (Reps.append ⟨by simpa using l1, fun i d x h1 h2 => r1 i d x h1 (by simpa using h2)⟩ hxr) ⟨by simpa using l2, fun i d x h1 h2 => r2 i d x h1 (by simpa using h2)⟩)).mono ?_)⟩
  rintro e w' ⟨v, g', res, h', n', hR, rfl, q1, q2, q3, q4⟩
  obtain ⟨s2, e2, ok2, hQ⟩ := hk res h' n' hR
  have hs2 := put_st hs1 q3 q2 hd q1 True
  have hs3 : St P B { n := s1.n, t := s1.put o.dst res, h := h', nx := n' + ops.size, ok := True, e := s1.e } g' (a1.put o.dst v) w' := ⟨hs2.sz, hs2.tm, hs2.mem, hs2.df, hs2.en, hs2.bd⟩
  have hnx : ∀ (l : List Oper) (i : Nat) (u : S), (execFrom P (words P) C ops.toList n' i l u).nx = u.nx := by
    intro l
    induction l with
    | nil => intro i u; rfl
    | cons x l ih => intro i u; simp only [execFrom]; rw [ih, exec1_n.2]
  have hex : ∀ (l : List Oper) (i b : Nat) (u : S), (execFrom P (words P) C ops.toList b i l u).e = u.e := by
    intro l
    induction l with
    | nil => intro i b u; rfl
    | cons x l ih =>
      intro i b u
      simp only [execFrom]
      rw [ih]
      unfold exec1
      split <;> rfl
  have e3 : (ops.toList.drop (k + 1)).take (ops.size - (k + 1)) = ops.toList.drop (k + 1) := List.take_of_length_le (by simp)
  have := execSeg_sound (ro := ro) (P := P) (C := C) (B := B) (ops := ops) (b := n') (n := 0) (rest := []) (g0 := g) (w0 := w) (Q := fun e a' w' => ∃ s' g', Q e s' ∧ St P B s' g' a' w' ∧ MonoX s.e.x g g' w w' ∧ (∀ r, g'.U r → r < s'.nx) ∧ s'.e.x = s.e.x) (ops.size - (k + 1)) (k + 1) _ g' _ w' hs3 (hm1.trans q3) (fun r hr => by have := q4 r hr; omega) (by omega)
    (by rw [e3, e2]; exact ok2) fun g'' a'' w'' p1 p2 p3 => by
      rw [e3, e2] at p1
      refine ⟨_, g'', hQ, p1.clear, p2.toX, fun r hr => ?_, ?_⟩
      · have h3 := p3 r hr
        have h4 := hnx (ops.toList.drop (k + 1)) (k + 1) { n := s1.n, t := s1.put o.dst res, h := h', nx := n' + ops.size, ok := True, e := s1.e }
        rw [e2] at h4
        show r < s2.nx
        rw [h4]
        show r < n' + ops.size
        omega
      · have h5 := hex (ops.toList.drop (k + 1)) (k + 1) n' { n := s1.n, t := s1.put o.dst res, h := h', nx := n' + ops.size, ok := True, e := s1.e }
        rw [e2] at h5
        have h6 := hex (ops.toList.take k) 0 s.nx { n := s.n, t := s.t, h := s.h, nx := s.nx + k, ok := s.ok, e := s.e }
        rw [he] at h6
        show s2.e.x = s.e.x
        rw [h5]
        show s1.e.x = s.e.x
        rw [h6]
  rw [List.append_nil] at this
  exact this
end Go.DL
