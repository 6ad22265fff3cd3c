/-
  THE D LAYER, 11: contracts of functions on plain data; a call does as its contract says. Conditions: none.
-/
import Derived.Test.YtfggmgafjabbjaaDoorDEff2
set_option linter.unusedVariables false
namespace Go.DL
open Go.RowKit
variable {P : Program}

/-! ### data without names of blocks that may be written -/
mutual
def D.nr : D → Bool
  | .v _ => true
  | .agg cs => nrs cs
  | .list _ rows => nrr rows
  | .eptr cs => nrs cs
  | .mrow _ _ _ => false
  | .mptr _ _ _ => false
  | .fn _ a b => nrs a && nrs b
  | .tuple ds => nrs ds
  | .iface _ d => d.nr
  | .cond _ d => d.nr
  | .junk => true
def nrs : List D → Bool
  | [] => true
  | d :: ds => d.nr && nrs ds
def nrr : List (List D) → Bool
  | [] => true
  | r :: rs => nrs r && nrr rs
end
theorem nrs_mem {d : D} : ∀ {ds : List D}, nrs ds = true → d ∈ ds → d.nr = true
  | [], _, h => by cases h
  | e :: ds, h, hm => by
    simp only [nrs, Bool.and_eq_true] at h
    rcases List.mem_cons.1 hm with rfl | hm
    · exact h.1
    · exact nrs_mem h.2 hm
theorem nrr_mem {d : List D} : ∀ {ds : List (List D)}, nrr ds = true → d ∈ ds → nrs d = true
  | [], _, h => by cases h
  | e :: ds, h, hm => by
    simp only [nrr, Bool.and_eq_true] at h
    rcases List.mem_cons.1 hm with rfl | hm
    · exact h.1
    · exact nrr_mem h.2 hm
theorem nrr_map {α : Type} (f : α → List D) (hf : ∀ x, nrs (f x) = true) : ∀ l : List α, nrr (l.map f) = true
  | [] => rfl
  | x :: l => by simp [nrr, hf x, nrr_map f hf l]
theorem nrs_map {α : Type} (f : α → D) (hf : ∀ x, (f x).nr = true) : ∀ l : List α, nrs (l.map f) = true
  | [] => rfl
  | x :: l => by simp [nrs, hf x, nrs_map f hf l]
theorem nrs_append : ∀ (a b : List D), nrs (a ++ b) = (nrs a && nrs b)
  | [], b => by simp [nrs]
  | x :: a, b => by simp [nrs, nrs_append a b, Bool.and_assoc]
theorem nrr_append : ∀ (a b : List (List D)), nrr (a ++ b) = (nrr a && nrr b)
  | [], b => by simp [nrr]
  | x :: a, b => by simp [nrr, nrr_append a b, Bool.and_assoc]
theorem Rep.clean {w : World} {g g' : Mem} {d : D} {v : Value} (h : Rep w g d v) (hn : d.nr = true) (hI : ∀ b, g.I b → g'.I b) : Rep w g' d v := by
  induction h with
  | v x => exact .v x
  | agg ds vs hl _ ih => exact .agg ds vs hl fun i d x h1 h2 => ih i d x h1 h2 (nrs_mem hn (List.mem_of_getElem? h1))
  | tuple ds vs hl _ ih => exact .tuple ds vs hl fun i d x h1 h2 => ih i d x h1 h2 (nrs_mem hn (List.mem_of_getElem? h1))
  | iface t d x _ ih => exact .iface t d x (ih hn)
  | empty full a cap hf hm => exact .empty full a cap hf hm
  | list full rows ad cap size cv hi hl hf hm hs hc _ ih => exact .list full rows ad cap size cv (hI _ hi) hl hf hm hs hc fun i j r d h1 h2 => ih i j r d h1 h2 (nrs_mem (nrr_mem hn (List.mem_of_getElem? h1)) (List.mem_of_getElem? h2))
  | eptr cs p cv hi hc _ ih => exact .eptr cs p cv (hI _ hi) hc fun j d h1 => ih j d h1 (nrs_mem hn (List.mem_of_getElem? h1))
  | mrow => simp [D.nr] at hn
  | mptr => simp [D.nr] at hn
  | fn f first caps fs cs hf hc _ _ ih1 ih2 =>
    simp only [D.nr, Bool.and_eq_true] at hn
    exact .fn f first caps fs cs hf hc (fun i d x h1 h2 => ih1 i d x h1 h2 (nrs_mem hn.1 (List.mem_of_getElem? h1))) (fun i d x h1 h2 => ih2 i d x h1 h2 (nrs_mem hn.2 (List.mem_of_getElem? h1)))
  | cond b d x _ hf ih => exact .cond b d x (fun hb => ih hb hn) hf
  | junk x => exact .junk x
mutual
theorem wk_nr : ∀ d : D, d.nr = true → (wk d).nr = true
  | .agg cs, h => wks_nr cs h
  | .list _ rows, h => wkr_nr rows h
  | .eptr cs, h => wks_nr cs h
  | .tuple ds, h => wks_nr ds h
  | .iface _ d, h => wk_nr d h
  | .v _, h => h
  | .mrow _ _ _, h => h
  | .mptr _ _ _, h => h
  | .fn _ _ _, h => h
  | .cond _ _, h => h
  | .junk, h => h
theorem wks_nr : ∀ ds : List D, nrs ds = true → nrs (wks ds) = true
  | [], _ => rfl
  | d :: ds, h => by
    simp only [nrs, wks, Bool.and_eq_true] at h ⊢
    exact ⟨wk_nr d h.1, wks_nr ds h.2⟩
theorem wkr_nr : ∀ ds : List (List D), nrr ds = true → nrr (wkr ds) = true
  | [], _ => rfl
  | d :: ds, h => by
    simp only [nrr, wkr, Bool.and_eq_true] at h ⊢
    exact ⟨wks_nr d h.1, wkr_nr ds h.2⟩
end
/-! ### data whose names are known -/
mutual
def D.rin (U : Nat → Prop) : D → Prop
  | .v _ => True
  | .agg cs => rins U cs
  | .list _ rows => rinr U rows
  | .eptr cs => rins U cs
  | .mrow r _ _ => U r
  | .mptr r _ _ => U r
  | .fn _ a b => rins U a ∧ rins U b
  | .tuple ds => rins U ds
  | .iface _ d => d.rin U
  | .cond b d => b = true → d.rin U
  | .junk => True
def rins (U : Nat → Prop) : List D → Prop
  | [] => True
  | d :: ds => d.rin U ∧ rins U ds
def rinr (U : Nat → Prop) : List (List D) → Prop
  | [] => True
  | r :: rs => rins U r ∧ rinr U rs
end
theorem rins_iff {U : Nat → Prop} : ∀ {ds : List D}, rins U ds ↔ ∀ d ∈ ds, d.rin U
  | [] => by simp [rins]
  | d :: ds => by simp [rins, rins_iff (ds := ds)]
theorem rinr_iff {U : Nat → Prop} : ∀ {ds : List (List D)}, rinr U ds ↔ ∀ d ∈ ds, rins U d
  | [] => by simp [rinr]
  | d :: ds => by simp [rinr, rinr_iff (ds := ds)]
theorem rins_rep {w : World} {g : Mem} {ds : List D} {n : Nat} {f : Nat → Option Value} (hn : ds.length ≤ n) (hs : ∀ i, i < n → (f i).isSome = true) (h : ∀ (i : Nat) d x, ds[i]? = some d → f i = some x → D.rin g.U d) (_ : w = w) : rins g.U ds := by
  refine rins_iff.2 fun d hd => ?_
  obtain ⟨i, hi⟩ := List.getElem?_of_mem hd
  have hlt : i < ds.length := (List.getElem?_eq_some_iff.1 hi).1
  obtain ⟨x, hx⟩ := Option.isSome_iff_exists.1 (hs i (by omega))
  exact h i d x hi hx
theorem Rep.rin {w : World} {g : Mem} {d : D} {v : Value} (h : Rep w g d v) : d.rin g.U := by
  induction h with
  | v x => trivial
  | agg ds vs hl _ ih => exact rins_rep (w := w) (n := vs.size) (f := fun i => vs[i]?) (by omega) (fun i hi => by simp [hi]) ih rfl
  | tuple ds vs hl _ ih => exact rins_rep (w := w) (n := vs.size) (f := fun i => vs[i]?) (by omega) (fun i hi => by simp [hi]) ih rfl
  | iface t d x _ ih => exact ih
  | empty full a cap hf hm => exact rinr_iff.2 fun d hd => by cases hd
  | list full rows ad cap size cv hi hl hf hm hs hc _ ih =>
    refine rinr_iff.2 fun row hrow => rins_iff.2 fun d hd => ?_
    obtain ⟨i, h1⟩ := List.getElem?_of_mem hrow
    obtain ⟨j, h2⟩ := List.getElem?_of_mem hd
    exact ih i j row d h1 h2
  | eptr cs p cv hi hc _ ih =>
    refine rins_iff.2 fun d hd => ?_
    obtain ⟨j, h2⟩ := List.getElem?_of_mem hd
    exact ih j d h2
  | mrow r off len x hx hU h => exact hU
  | mptr r i off x hx hU h => exact hU
  | fn f first caps fs cs hf hc _ _ ih1 ih2 =>
    exact ⟨rins_rep (w := w) (n := fs.size) (f := fun i => fs[i]?) (by omega) (fun i hi => by simp [hi]) ih1 rfl, rins_rep (w := w) (n := cs.size) (f := fun i => cs[i]?) (by omega) (fun i hi => by simp [hi]) ih2 rfl⟩
  | cond b d x _ hf ih => exact fun hb => ih hb
  | junk x => trivial
theorem Rep.within {w : World} {g g' : Mem} {d : D} {v : Value} (h : Rep w g d v) (hn : d.rin g'.U) (hI : ∀ b, g.I b → g'.I b) (hM : ∀ r, g'.U r → g'.M r = g.M r ∨ g'.M r = none) : Rep w g' d v := by
  induction h with
  | v x => exact .v x
  | agg ds vs hl _ ih => exact .agg ds vs hl fun i d x h1 h2 => ih i d x h1 h2 (rins_iff.1 hn d (List.mem_of_getElem? h1))
  | tuple ds vs hl _ ih => exact .tuple ds vs hl fun i d x h1 h2 => ih i d x h1 h2 (rins_iff.1 hn d (List.mem_of_getElem? h1))
  | iface t d x _ ih => exact .iface t d x (ih hn)
  | empty full a cap hf hm => exact .empty full a cap hf hm
  | list full rows ad cap size cv hi hl hf hm hs hc _ ih => exact .list full rows ad cap size cv (hI _ hi) hl hf hm hs hc fun i j r d h1 h2 => ih i j r d h1 h2 (rins_iff.1 (rinr_iff.1 hn r (List.mem_of_getElem? h1)) d (List.mem_of_getElem? h2))
  | eptr cs p cv hi hc _ ih => exact .eptr cs p cv (hI _ hi) hc fun j d h1 => ih j d h1 (rins_iff.1 hn d (List.mem_of_getElem? h1))
  | mrow r off len x hx hU h =>
    refine .mrow r off len x hx hn fun blk c sz he => ?_
    rcases hM r hn with e | e
    · exact h blk c sz (e ▸ he)
    · rw [e] at he; cases he
  | mptr r i off x hx hU h =>
    refine .mptr r i off x hx hn fun blk c sz he => ?_
    rcases hM r hn with e | e
    · exact h blk c sz (e ▸ he)
    · rw [e] at he; cases he
  | fn f first caps fs cs hf hc _ _ ih1 ih2 =>
    exact .fn f first caps fs cs hf hc (fun i d x h1 h2 => ih1 i d x h1 h2 (rins_iff.1 hn.1 d (List.mem_of_getElem? h1))) (fun i d x h1 h2 => ih2 i d x h1 h2 (rins_iff.1 hn.2 d (List.mem_of_getElem? h1)))
  | cond b d x _ hf ih => exact .cond b d x (fun hb => ih hb (hn hb)) hf
  | junk x => exact .junk x
theorem Reps.clean {w : World} {g g' : Mem} {ds : List D} {vs : List Value} (h : Reps w g ds vs) (hn : ds.all D.nr = true) (hI : ∀ b, g.I b → g'.I b) : Reps w g' ds vs :=
  ⟨h.1, fun i d x h1 h2 => (h.2 i d x h1 h2).clean (List.all_eq_true.1 hn d (List.mem_of_getElem? h1)) hI⟩
theorem flat1_rep {w w' : World} {g g' : Mem} {d : D} {v : Value} (h : Rep w g d v) (hf : flat1 d = true) : Rep w' g' d v := by
  cases h <;> simp [flat1] at hf
  exact .v _
theorem flat_rep {w w' : World} {g g' : Mem} {d : D} {v : Value} (h : Rep w g d v) (hf : flat d = true) : Rep w' g' d v := by
  cases h <;> simp only [flat] at hf <;> try (cases hf; done)
  · exact .v _
  · rename_i ds vs hl hv
    exact .agg ds vs hl fun i d x h1 h2 => flat1_rep (hv i d x h1 h2) (List.all_eq_true.1 hf d (List.mem_of_getElem? h1))
  · rename_i ds vs hl hv
    exact .tuple ds vs hl fun i d x h1 h2 => flat1_rep (hv i d x h1 h2) (List.all_eq_true.1 hf d (List.mem_of_getElem? h1))

/-! ### contracts -/
def hasBody (P : Program) [Glob P] (f : FuncId) : Bool := match P.funcs[f]? with
  | some fn => fn.body.isSome && fn.name != "runtime.NumGoroutine"
  | none => false
def noM (I : Nat → Prop) : Mem := ⟨fun _ => none, fun _ => False, I⟩
/-- Nothing that was there turns. -/
structure Bel (w w' : World) : Prop where
  os : w'.os = w.os
  tape : w'.tape = w.tape
  output : w'.output = w.output
  size : w.heap.size ≤ w'.heap.size
  drawn : w.drawn ≤ w'.drawn
  block : ∀ k, k < w.heap.size → w'.heap[k]? = w.heap[k]?
/-- A FUNCTION THAT LEAVES MEMORY ALONE, AT THESE ARGUMENTS. -/
def PureCt (P : Program) [Glob P] (f : FuncId) (args : List D) (res : D) : Prop :=
  hasBody P f = true ∧ args.all D.nr = true ∧ ∀ (w : World) (I : Nat → Prop) (vs : List Value), (∀ b, I b → b < w.heap.size) → Gr P I w → Reps w (noM I) args vs →
    CallsIn Fence.wide 0 P f vs.toArray w fun e w' => ∃ v, e = .returned v ∧ Bel w w' ∧ Rep w' (noM fun b => I b ∨ (w.heap.size ≤ b ∧ b < w'.heap.size)) res v
/-- A FUNCTION THAT MAY WRITE THE BLOCKS THAT h KNOWS, AT THESE ARGUMENTS. -/
def Ct (P : Program) [Glob P] (f : FuncId) (args : List D) (h : H) (b : Nat) (res : D) (h' : H) : Prop :=
  hasBody P f = true ∧ ∀ (w : World) (g : Mem) (vs : List Value) (n : Nat), HM P h g w → (∀ r, g.U r → r < n) → ¬ g.U b → Reps w g args vs →
    CallsIn Fence.wide 0 P f vs.toArray w fun e w' => ∃ v g', e = .returned v ∧ Rep w' g' res v ∧ HM P h' g' w' ∧ Mono g g' w w' ∧ ∀ r, g'.U r → g.U r ∨ r = b
def words (P : Program) [Glob P] : Words := { pureCt := PureCt P, ct := Ct P }

theorem callFunc_run [Glob P] {f : FuncId} (h : hasBody P f = true) (args : Array Value) (w : World) : (callFunc f args).run P w = .ok (.enter f args) w := by
  unfold hasBody at h
  split at h
  · rename_i fn hf
    simp only [Bool.and_eq_true, bne_iff_ne] at h
    obtain ⟨h1, h2⟩ := h
    have h3 : fn.body ≠ none := by intro e; rw [e] at h1; cases h1
    simp [callFunc, hf, h2, h3]
  · cases h

/-- what may be written, handed over to be read -/
def openI (g : Mem) : Mem := { g with I := fun b => g.I b ∨ ∃ r c s, g.M r = some (some b, c, s) }
theorem openI_rep {g : Mem} {w : World} {d : D} {v : Value} (h : Rep w g d v) : Rep w (openI g) d v := by
  refine Rep.mono ?_ ?_ ?_ h
  · exact fun b hb => ⟨Or.inl hb, rfl⟩
  · exact fun _ h => h
  · exact fun _ _ => Or.inl rfl
theorem deref_rows [Glob P] {h : H} {g : Mem} {w : World} (hm : HM P h g w) {r off len : Nat} {x : Value} (hr : Rep w (openI g) (.mrow r off len) x) (ho : (h r).isSome = true ∧ (rowsOf (.mrow r off len) h).length = len) :
    Rep w (openI g) (.list false (rowsOf (.mrow r off len) h)) x := by
  have hmono : ∀ {d : D} {v : Value}, Rep w g d v → Rep w (openI g) d v := fun h => openI_rep h
  cases hr with
  | mrow r off len x hx hU hv =>
    obtain ⟨o1, o2⟩ := ho
    obtain ⟨bl, hbl⟩ := Option.isSome_iff_exists.1 o1
    simp only [rowsOf, hbl] at o2 ⊢
    obtain ⟨blk, c, h1, h2, h3, h4, h5⟩ := hm.blk r bl hbl
    obtain ⟨h6, h7⟩ := hv _ _ _ h1
    rcases h7 with ⟨rfl, a, rfl⟩ | ⟨hne, b, rfl, rfl⟩
    · have : len = 0 := by omega
      subst this
      have : (bl.rows.drop c).take 0 = [] := by simp
      rw [this]
      exact .empty false a 0 (fun h => by cases h) (by simp [maxLen])
    · rcases h5 with ⟨h5, _⟩ | ⟨b', cur, h5, k1, k2, k3, k4⟩
      · cases h5
      cases h5
      by_cases hz : len = 0
      · subst hz
        have : (bl.rows.drop off).take 0 = [] := by simp
        rw [this]
        exact .empty false _ _ (fun h => by cases h) (by omega)
      have hle : off + len ≤ bl.rows.length := by simp at o2; omega
      have hget : ∀ (i : Nat) row, ((bl.rows.drop off).take len)[i]? = some row → bl.rows[off + i]? = some row := by
        intro i row hi
        rw [List.getElem?_take] at hi
        split at hi
        · rwa [List.getElem?_drop] at hi
        · cases hi
      have hex : ∀ i j, ∃ u, ∀ row d, bl.rows[off + i]? = some row → row[j]? = some d → cur[(off + i) * P.cellsOf bl.ty + j]? = some u ∧ u.oneCell' = true ∧ Rep w g d u := by
        intro i j
        by_cases hh : ∃ row d, bl.rows[off + i]? = some row ∧ row[j]? = some d
        · obtain ⟨row, d, q1, q2⟩ := hh
          obtain ⟨u, q3⟩ := (k4 _ row q1).2 j d q2
          refine ⟨u, fun row' d' q1' q2' => ?_⟩
          rw [q1] at q1'; cases q1'
          rw [q2] at q2'; cases q2'
          exact q3
        · exact ⟨undef, fun row d q1 q2 => absurd ⟨row, d, q1, q2⟩ hh⟩
      generalize hcv : (fun i j => Classical.choose (hex i j)) = cv
      have hcvs : ∀ i j row d, bl.rows[off + i]? = some row → row[j]? = some d → cur[(off + i) * P.cellsOf bl.ty + j]? = some (cv i j) ∧ (cv i j).oneCell' = true ∧ Rep w g d (cv i j) := by
        intro i j; rw [← hcv]; exact Classical.choose_spec (hex i j)
      have hlen : len = ((bl.rows.drop off).take len).length := o2.symm
      generalize hrows : (bl.rows.drop off).take len = rows at *
      subst hlen
      refine .list false rows ⟨b, off * P.cellsOf bl.ty, none⟩ _ (P.cellsOf bl.ty) cv (.inr ⟨r, _, _, h1⟩) (by omega) (fun h => by cases h) (by omega) (fun row hrow => ?_) (fun i j row d q1 q2 => ?_) (fun i j row d q1 q2 => hmono (hcvs i j row d (hget i row q1) q2).2.2)
      · obtain ⟨i, hi, rfl⟩ := List.getElem_of_mem hrow
        exact (k4 _ _ (hget i _ (List.getElem?_eq_getElem hi))).1
      · obtain ⟨q3, q4, _⟩ := hcvs i j row d (hget i row q1) q2
        refine ⟨?_, q4⟩
        rw [add_mk, cell_of_row w b _ cur bl.ty (0, 0) k1, ← q3, Nat.add_mul]
        congr 1; omega
theorem deref0_rep [Glob P] {h : H} {g : Mem} {w : World} (hm : HM P h g w) {d : D} {v : Value} (hr : Rep w (openI g) d v) (ho : derefOk0 h d) : Rep w (openI g) (deref0 h d) v := by
  cases d with
  | mrow r off len => exact deref_rows hm hr ho
  | _ => exact hr
theorem deref_ptr [Glob P] {h : H} {g : Mem} {w : World} (hm : HM P h g w) {r i off : Nat} {x : Value} (hr : Rep w (openI g) (.mptr r i off) x) (ho : (h r).isSome = true ∧ ∀ c ∈ ldCells (.mptr r i off) h, derefOk0 h c) :
    Rep w (openI g) (.eptr ((ldCells (.mptr r i off) h).map (deref0 h))) x := by
  obtain ⟨o1, o2⟩ := ho
  obtain ⟨bl, hbl⟩ := Option.isSome_iff_exists.1 o1
  simp only [ldCells, hbl] at o2 ⊢
  cases hr with | mptr _ _ _ x hx hU hv =>
  obtain ⟨blk, c, h1, h2, h3, h4, h5⟩ := hm.blk r bl hbl
  obtain ⟨b, rfl, rfl⟩ := hv _ _ _ h1
  rcases h5 with ⟨h5, _⟩ | ⟨b', cur, h5, k1, k2, k3, k4⟩
  · cases h5
  cases h5
  have key : ∀ j d, ((bl.rows.getD i []).drop off)[j]? = some d → ∃ u, cur[i * P.cellsOf bl.ty + off + j]? = some u ∧ Rep w g d u := by
    intro j d hd
    rw [List.getElem?_drop] at hd
    cases hri : bl.rows[i]? with
    | none => rw [List.getD, hri] at hd; simp at hd
    | some row =>
      rw [List.getD, hri, Option.getD_some] at hd
      obtain ⟨u, p1, _, p3⟩ := (k4 i row hri).2 (off + j) d hd
      exact ⟨u, by rw [Nat.add_assoc]; exact p1, p3⟩
  refine .eptr _ _ (fun j => cur.getD (i * P.cellsOf bl.ty + off + j) undef) (.inr ⟨r, _, _, h1⟩) (fun j d hd => ?_) (fun j d hd => ?_)
  · obtain ⟨d', e1, rfl⟩ := map_at hd
    obtain ⟨u, p1, p2⟩ := key j d' e1
    rw [add_mk, cell_of_row w b _ cur bl.ty (0, 0) k1, p1]
    simp [Array.getD_eq_getD_getElem?, p1]
  · obtain ⟨d', e1, rfl⟩ := map_at hd
    obtain ⟨u, p1, p2⟩ := key j d' e1
    have e2 : cur.getD (i * P.cellsOf bl.ty + off + j) undef = u := by simp [Array.getD_eq_getD_getElem?, p1]
    rw [e2]
    exact deref0_rep hm (openI_rep p2) (o2 d' (List.mem_of_getElem? e1))
theorem deref1_rep [Glob P] {h : H} {g : Mem} {w : World} (hm : HM P h g w) {d : D} {v : Value} (hr : Rep w (openI g) d v) (ho : derefOk1 h d) : Rep w (openI g) (deref1 h d) v := by
  cases d with
  | mrow r off len => exact deref_rows hm hr ho
  | mptr r i off => exact deref_ptr hm hr ho
  | _ => exact hr
theorem deref_rep' [Glob P] {h : H} {g : Mem} {w : World} (hm : HM P h g w) {d : D} {v : Value} (hr : Rep w (openI g) d v) (ho : derefOk h d) :
    Rep w (openI g) (deref h d) v := by
  cases d with
  | mrow r off len => exact deref_rows hm hr ho
  | mptr r i off => exact deref_ptr hm hr ho
  | fn f a b =>
    cases hr with
    | fn _ _ _ fs cs hf hc h1 h2 =>
      refine .fn f _ _ fs cs (by simpa using hf) (by simpa using hc) (fun i d x e1 e2 => ?_) (fun i d x e1 e2 => ?_)
      · obtain ⟨d', e3, rfl⟩ := map_at e1
        exact deref1_rep hm (h1 i d' x e3 e2) (ho.1 d' (List.mem_of_getElem? e3))
      · obtain ⟨d', e3, rfl⟩ := map_at e1
        exact deref1_rep hm (h2 i d' x e3 e2) (ho.2 d' (List.mem_of_getElem? e3))
  | _ => exact hr
theorem deref_rep [Glob P] {h : H} {g : Mem} {w : World} (hm : HM P h g w) {d : D} {v : Value} (hr : Rep w g d v) (ho : derefOk h d) : Rep w (openI g) (deref h d) v := deref_rep' hm (openI_rep hr) ho
theorem deref1_same {h : H} {d : D} (hd : isRef d = false) : deref1 h d = d := by cases d <;> first | rfl | cases hd
theorem deref1s_same {h : H} {ds : List D} (hd : ds.any isRef = false) : ds.map (deref1 h) = ds := by
  rw [List.any_eq_false] at hd
  conv => rhs; rw [← List.map_id ds]
  exact List.map_congr_left fun d hm => deref1_same (by have := hd d hm; simpa using this)
theorem deref_same {h : H} {d : D} (hd : isMrow d = false) : deref h d = d := by
  cases d <;> first | rfl | (cases hd; done) | skip
  rename_i f a b
  simp only [isMrow, Bool.or_eq_false_iff] at hd
  simp only [deref, deref1s_same hd.1, deref1s_same hd.2]

/-- a function that leaves memory alone, called where memory may be written -/
theorem pure_sound [Glob P] {h : H} {g : Mem} {w : World} (hm : HM P h g w) {k : FuncId} {zs : List D} {vs : List Value} {res : D} (hzs : Reps w g zs vs) (hct : PureCt P k (zs.map (derefW h)) res) (hfl : zs.any isMrow = true → flat res = true ∧ ∀ y ∈ zs, derefOk h y) :
    CallsIn Fence.wide 0 P k vs.toArray w fun e w' => ∃ v g', e = .returned v ∧ Rep w' g' res v ∧ HM P h g' w' ∧ Mono g g' w w' ∧ ∀ r, g'.U r → g.U r := by
  obtain ⟨hbd, hnr, hct⟩ := hct
  by_cases hmr : zs.any isMrow = true
  · obtain ⟨f1, f2⟩ := hfl hmr
    have hds : Reps w (openI g) (zs.map (derefW h)) vs := by
      refine ⟨by simpa using hzs.1, fun i d x h1 h2 => ?_⟩
      rw [List.getElem?_map] at h1
      cases hi : zs[i]? with
      | none => rw [hi] at h1; cases h1
      | some y =>
        rw [hi] at h1; simp at h1; subst h1
        exact (deref_rep hm (hzs.2 i y x hi h2) (f2 y (List.mem_of_getElem? hi))).wk
    refine (hct w (fun b => g.I b ∨ ∃ r c s, g.M r = some (some b, c, s)) _ (fun b hb => ?_) (hm.gr.later fun b hb => ⟨.inl hb, rfl⟩) (hds.clean hnr fun _ h => h)).mono ?_
    · rcases hb with hb | ⟨r, c, s, hb⟩
      · exact hm.imm b hb
      · exact (M_lt hm hb).1
    · rintro e w' ⟨v, rfl, hbel, hv⟩
      have mono : Mono g g w w' := ⟨hbel.os, hbel.tape, hbel.output, hbel.size, hbel.drawn, fun _ h => h, fun _ _ => .inl rfl, fun r b c s h => .inl ⟨r, c, s, h⟩, fun _ h => h, fun _ h => .inl h, fun b hb _ => hbel.block b hb⟩
      refine ⟨v, g, rfl, flat_rep hv f1, ⟨hm.dead, fun r bl hr => ?_, hm.inj, hm.used, fun b hb => Nat.lt_of_lt_of_le (hm.imm b hb) hbel.size, hm.gr.later (hm.kept mono)⟩, mono, fun _ h => h⟩
      obtain ⟨blk, c, h1, h2, h3, h4, h5⟩ := hm.blk r bl hr
      refine ⟨blk, c, h1, h2, h3, h4, ?_⟩
      rcases h5 with h5 | ⟨b, cur, rfl, h6, h7, h8, h9⟩
      · exact .inl h5
      · refine .inr ⟨b, cur, rfl, by rw [hbel.block b (M_lt hm h1).1]; exact h6, h7, h8, fun i row hi => ⟨(h9 i row hi).1, fun j d hd => ?_⟩⟩
        obtain ⟨u, k3, k4, k5⟩ := (h9 i row hi).2 j d hd
        exact ⟨u, k3, k4, k5.later hm mono⟩
  · have hzs : Reps w g (zs.map (derefW h)) vs := by
      refine ⟨by simpa using hzs.1, fun i d x h1 h2 => ?_⟩
      obtain ⟨y, h3, rfl⟩ := map_at h1
      have hy : isMrow y = false := by
        cases hq : isMrow y with
        | false => rfl
        | true => exact absurd (List.any_eq_true.2 ⟨y, List.mem_of_getElem? h3, hq⟩) hmr
      have : deref h y = y := deref_same hy
      show Rep w g (wk (deref h y)) x
      rw [this]
      exact (hzs.2 i y x h3 h2).wk
    refine (hct w g.I _ hm.imm hm.gr (hzs.clean hnr fun _ h => h)).mono ?_
    rintro e w' ⟨v, rfl, hbel, hv⟩
    let g' : Mem := { g with I := fun b => g.I b ∨ (w.heap.size ≤ b ∧ b < w'.heap.size) }
    have mono : Mono g g' w w' := ⟨hbel.os, hbel.tape, hbel.output, hbel.size, hbel.drawn, fun _ h => h, fun _ _ => .inl rfl, fun r b c s h => .inl ⟨r, c, s, h⟩, fun _ h => .inl h, fun b h => by rcases h with h | h; exact .inl h; exact .inr (.inl h.1), fun b hb _ => hbel.block b hb⟩
    refine ⟨v, g', rfl, by refine Rep.mono ?_ ?_ ?_ hv; exact fun b hb => ⟨hb, rfl⟩; exact fun _ h => False.elim h; exact fun _ h => False.elim h, ⟨hm.dead, fun r bl hr => ?_, hm.inj, hm.used, fun b hb => ?_, hm.gr.later (hm.kept mono)⟩, mono, fun _ h => h⟩
    · obtain ⟨blk, c, h1, h2, h3, h4, h5⟩ := hm.blk r bl hr
      refine ⟨blk, c, h1, h2, h3, h4, ?_⟩
      rcases h5 with h5 | ⟨b, cur, rfl, h6, h7, h8, h9⟩
      · exact .inl h5
      · have hlt := (M_lt hm h1).1
        refine .inr ⟨b, cur, rfl, by rw [hbel.block b hlt]; exact h6, h7, fun hI => ?_, fun i row hi => ⟨(h9 i row hi).1, fun j d hd => ?_⟩⟩
        · rcases hI with hI | hI
          · exact h8 hI
          · omega
        · obtain ⟨u, k3, k4, k5⟩ := (h9 i row hi).2 j d hd
          exact ⟨u, k3, k4, k5.later hm mono⟩
    · rcases hb with hb | hb
      · exact Nat.lt_of_lt_of_le (hm.imm b hb) hbel.size
      · exact hb.2
theorem call_sound [Glob P] {C : Con} {h : H} {g : Mem} {w : World} (hm : HM P h g w) {b n : Nat} (hb : ¬ g.U b) (hn : ∀ r, g.U r → r < n) {f : Operand} {xs : List D} {args : Array Operand} {argTypes : Array TypeId} {o : Oper} (ho : o.op = .call { callee := .value f, args, argTypes }) {ρ : Operand → Value} (hρ : ∀ k, ρ (.func k) = .func (.func k) #[] #[])
    (hr : Reps w g xs (ρ f :: args.toList.map ρ)) (hc : (callD (words P) C f xs h b).2.2) :
    ∃ k vs, (execOp ρ o).run P w = .ok (.enter k vs) w ∧ CallsIn Fence.wide 0 P k vs w fun e w' => ∃ v g', e = .returned v ∧ Rep w' g' (callD (words P) C f xs h b).1 v ∧ HM P (callD (words P) C f xs h b).2.1 g' w' ∧ Mono g g' w w' ∧ ∀ r, g'.U r → g.U r ∨ r = b := by
  have hex : ∀ k fs cs, ρ f = .func (.func k) fs cs → hasBody P k = true → (execOp ρ o).run P w = .ok (.enter k (fs ++ args.map ρ ++ cs)) w := by
    intro k fs cs hf hbd
    simp [execOp, ho, resolve, Deferred.ofValue, hf, invoke, callFunc_run hbd]
  unfold callD at hc ⊢
  split at hc
  · rename_i k d ys
    have hys : Reps w g ys (args.toList.map ρ) := hr.tail
    by_cases hp : C.pure k = true
    · simp only [hp, if_true] at hc ⊢
      obtain ⟨⟨hbd, hnr, hct⟩, hfl⟩ := hc
      have e := hex k #[] #[] (hρ k) hbd
      simp only [Array.empty_append, Array.append_empty] at e
      refine ⟨k, _, e, ?_⟩
      have ea : args.map ρ = (args.toList.map ρ).toArray := by apply Array.ext'; simp
      rw [ea]
      exact (pure_sound hm hys ⟨hbd, hnr, hct⟩ hfl).mono fun e w' ⟨v, g', q1, q2, q3, q4, q5⟩ => ⟨v, g', q1, q2, q3, q4, fun r hr => .inl (q5 r hr)⟩
    · simp only [hp, if_false, Bool.false_eq_true] at hc
  · rename_i k first caps ys _
    have hf := hr.head
    generalize hv : ρ f = vf at hf hr
    cases hf with | fn _ _ _ fs cs l1 l2 r1 r2 =>
    have e : fs ++ args.map ρ ++ cs = (fs.toList ++ args.toList.map ρ ++ cs.toList).toArray := by apply Array.ext'; simp
    have hzs : Reps w g (first ++ ys ++ caps) (fs.toList ++ args.toList.map ρ ++ cs.toList) := Reps.append (Reps.append ⟨by simpa using l1, fun i d x h1 h2 => r1 i d x h1 (by simpa using h2)⟩ hr.tail) ⟨by simpa using l2, fun i d x h1 h2 => r2 i d x h1 (by simpa using h2)⟩
    by_cases hp : C.pure k = true
    · simp only [hp, if_true] at hc ⊢
      refine ⟨k, _, hex k fs cs hv hc.1.1, ?_⟩
      rw [e]
      exact (pure_sound hm hzs hc.1 hc.2).mono fun e w' ⟨v, g', q1, q2, q3, q4, q5⟩ => ⟨v, g', q1, q2, q3, q4, fun r hr => .inl (q5 r hr)⟩
    · simp only [hp, if_false, Bool.false_eq_true] at hc
  · exact hc.elim
end Go.DL
