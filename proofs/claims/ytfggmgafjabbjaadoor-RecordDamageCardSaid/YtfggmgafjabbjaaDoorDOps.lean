/-
  THE D LAYER, 6: each operation, but calls and append, does as the evaluator says. Conditions: none.
-/
import Derived.Test.YtfggmgafjabbjaaDoorDMem
import Derived.Great.BuildSlice
namespace Go.DL
open Go.RowKit
variable {P : Program}

/-- What an operation has done: its value; memory behind it. -/
def Does (P : Program) [Glob P] (g : Mem) (w : World) (b : Nat) (r : Result Next) (d : D) (h' : H) : Prop :=
  ∃ v g' w', (r = .ok (.value v) w' ∨ (r = .ok .skip w' ∧ v = undef)) ∧ Rep w' g' d v ∧ HM P h' g' w' ∧ Mono g g' w w' ∧ ∀ r, g'.U r → g.U r ∨ r = b

theorem Does.still [Glob P] {g : Mem} {w : World} {b : Nat} {s : Sem Value} {d : D} {h : H} {v : Value} (hm : HM P h g w) (hr : s.run P w = .ok v w) (hv : Rep w g d v) :
    Does P g w b ((do pure (.value (← s)) : Sem Next).run P w) d h :=
  ⟨v, g, w, .inl (by simp [hr]), hv, hm, Mono.refl _ _, fun _ h => .inl h⟩

/-! ### one cell -/
theorem Rep.one {w : World} {g : Mem} {d : D} {v : Value} (h : Rep w g d v) (h1 : d.one = true) : v.oneCell' = true ∧ v.cells = #[v] := by
  cases h with
  | v => cases v <;> simp_all [D.one, Value.oneCell', Value.cells]
  | agg => simp [D.one] at h1
  | tuple => simp [D.one] at h1
  | iface => simp [Value.oneCell', Value.cells]
  | empty => simp [Value.oneCell', Value.cells]
  | list => simp [Value.oneCell', Value.cells]
  | eptr => simp [Value.oneCell', Value.cells]
  | mrow r off len x hx => obtain ⟨a, c, rfl, _⟩ := hx; simp [Value.oneCell', Value.cells]
  | mptr r i off x hx => obtain ⟨p, rfl⟩ := hx; simp [Value.oneCell', Value.cells]
  | fn => simp [Value.oneCell', Value.cells]
  | cond => simp [D.one] at h1
  | junk => simp [D.one] at h1
/-- A value's cells read as the datum's. -/
theorem Rep.cells {w : World} {g : Mem} {d : D} {v : Value} (h : Rep w g d v) (h1 : d.cells.all D.one = true) :
    Reps w g d.cells v.cells.toList ∧ (∀ u ∈ v.cells.toList, u.oneCell' = true) ∧ v.cells.size = d.cells.length := by
  by_cases ha : ∃ cs, d = .agg cs
  · obtain ⟨cs, rfl⟩ := ha
    cases h with | agg _ vs hn hv =>
    simp only [D.cells] at h1 ⊢
    refine ⟨⟨by simpa [Value.cells] using hn, fun i d x h2 h3 => hv i d x h2 (by simpa [Value.cells] using h3)⟩, fun u hu => ?_, by simp [Value.cells, hn]⟩
    simp only [Value.cells, Array.mem_toList_iff] at hu
    obtain ⟨i, hi, rfl⟩ := Array.mem_iff_getElem.1 hu
    have hd : i < cs.length := by omega
    exact ((hv i cs[i] vs[i] (by simp) (by simp)).one (List.all_eq_true.1 h1 _ (List.getElem_mem hd))).1
  · have e : d.cells = [d] := by cases d <;> simp_all [D.cells]
    rw [e] at h1 ⊢
    have h2 := h.one (by simpa using h1)
    rw [h2.2]
    exact ⟨.cons h .nil, by simpa using h2.1, by simp⟩

theorem info_of_pos [Glob P] {t : TypeId} (h : 0 < P.cellsOf t) : ∃ i, P.info? t = some i ∧ i.size = P.cellsOf t := by
  unfold Program.cellsOf at h ⊢
  cases hi : P.info? t with
  | none => simp [hi] at h
  | some i => exact ⟨i, rfl, by simp⟩
theorem sizeOf_run [Glob P] {t : TypeId} (h : 0 < P.cellsOf t) (w : World) : (sizeOf t).run P w = .ok (P.cellsOf t) w := by
  obtain ⟨i, hi, hs⟩ := info_of_pos h
  simp [sizeOf, typeInfo, hi, hs]
theorem isAgg_run [Glob P] {t : TypeId} (h : (P.underlying t).isSome = true) (w : World) : (isAgg t).run P w = .ok (aggB P t) w := by
  obtain ⟨d, hd⟩ := Option.isSome_iff_exists.1 h
  unfold isAgg aggB
  rw [Sem.run_bind, run_underlying hd w, hd]
  cases d <;> simp

/-! ### reading -/
theorem ldc_m [Glob P] {r i off : Nat} {h : H} : ldc P (.mptr r i off) h = match h r with | some b => (b.rows.getD i []).drop off | none => [] := rfl
theorem ldc_p [Glob P] {x o : Nat} {h : H} : ldc P (.v (.pointer (some ⟨x, o, none⟩))) h = match Glob.tab P x with | some cs => (cs.drop o).map D.v | none => [] := rfl
/-- A pointer's cells. -/
theorem ptr_cells [Glob P] {h : H} {g : Mem} {w : World} (hm : HM P h g w) {a : D} {va : Value} (ha : Rep w g a va) (hne : ldc P a h ≠ []) :
    ∃ p, va = .pointer (some p) ∧ ∀ (j : Nat) d, (ldc P a h)[j]? = some d → ∃ u, w.cell? (p.add j) = some u ∧ Rep w g d u := by
  cases ha with
  | eptr cs p cv hI hc hr => exact ⟨p, rfl, fun j d hj => ⟨cv j, hc j d hj, hr j d hj⟩⟩
  | mptr r i off x hx hU hv =>
    simp only [ldc_m] at hne ⊢
    cases hr : h r with
    | none => rw [hr] at hne; exact absurd rfl hne
    | some bl =>
      rw [hr] at hne
      simp only at hne ⊢
      obtain ⟨blk, c, h1, h2, h3, h4, h5⟩ := hm.blk r bl hr
      have hi : i < bl.rows.length := by
        rcases Nat.lt_or_ge i bl.rows.length with h | h
        · exact h
        · simp [List.getD, List.getElem?_eq_none h] at hne
      rcases h5 with ⟨_, rfl⟩ | ⟨b, cur, rfl, h6, h7, h8, h9⟩
      · omega
      · obtain ⟨b', he, rfl⟩ := hv _ _ _ h1
        cases he
        refine ⟨_, rfl, fun j d hj => ?_⟩
        rw [List.getElem?_drop] at hj
        obtain ⟨_, k2⟩ := h9 i (bl.rows.getD i []) (by simp [List.getD, List.getElem?_eq_getElem hi])
        obtain ⟨u, k3, _, k5⟩ := k2 (off + j) d hj
        refine ⟨u, ?_, k5⟩
        rw [add_mk, cell_of_row w b _ cur bl.ty (0, 0) h6, ← k3]
        congr 1
        omega
  | v =>
    by_cases hp : ∃ b o, va = Value.pointer (some ⟨b, o, none⟩)
    · obtain ⟨b, o, rfl⟩ := hp
      refine ⟨_, rfl, fun j d hj => ?_⟩
      rw [ldc_p] at hj
      cases ht : Glob.tab P b with
      | none => rw [ht] at hj; simp at hj
      | some cs =>
        rw [ht] at hj
        simp only [List.getElem?_map, List.getElem?_drop, Option.map_eq_some_iff] at hj
        obtain ⟨u, h1, rfl⟩ := hj
        exact ⟨u, by rw [add_mk]; exact (hm.gr b cs ht).2 _ u h1, .v _⟩
    · refine absurd ?_ hne
      unfold ldc
      split
      · rename_i x' o e
        first | (cases e; exact absurd ⟨_, _, rfl⟩ hp) | exact absurd ⟨_, _, rfl⟩ hp
      · rfl
  | _ => exact absurd rfl hne
theorem run_loadVar' [Glob P] {t : TypeId} {p : Addr} {w : World} {g : Mem} {ds : List D} (hc : ∀ (j : Nat) d, ds[j]? = some d → ∃ u, w.cell? (p.add j) = some u ∧ Rep w g d u)
    (hn : P.cellsOf t ≤ ds.length) (hp : 0 < P.cellsOf t) (hu : (P.underlying t).isSome = true) : ∃ v, (loadVar t p).run P w = .ok v w ∧ Rep w g (mkD P t ds) v := by
  unfold loadVar mkD
  rw [Sem.run_bind, isAgg_run hu w]
  cases hg : aggB P t with
  | false =>
    have h0 : 0 < ds.length := by omega
    obtain ⟨u, h1, h2⟩ := hc 0 ds[0] (by simp)
    refine ⟨u, ?_, ?_⟩
    · simp only [Addr.add, if_true] at h1
      simp [h1]
    · have : ds.headD .junk = ds[0] := by cases ds <;> simp_all
      simp only [Bool.false_eq_true, if_false]
      rw [this]; exact h2
  | true =>
    have hex : ∀ j, ∃ u, j < P.cellsOf t → w.cell? (p.add j) = some u ∧ ∀ d, ds[j]? = some d → Rep w g d u := by
      intro j
      by_cases hj : j < P.cellsOf t
      · obtain ⟨u, h1, h2⟩ := hc j (ds[j]'(by omega)) (by simp)
        refine ⟨u, fun _ => ⟨h1, fun d hd => ?_⟩⟩
        rw [List.getElem?_eq_getElem (by omega)] at hd
        cases hd; exact h2
      · exact ⟨undef, fun h => absurd h hj⟩
    let f := fun j => Classical.choose (hex j)
    have hf := fun j => Classical.choose_spec (hex j)
    refine ⟨.agg ((List.range (P.cellsOf t)).map f).toArray, ?_, ?_⟩
    · have := run_loadCells (P := P) w p (P.cellsOf t) f (fun j hj => (hf j hj).1)
      simp [sizeOf_run hp, this]
    · simp only [if_true]
      refine .agg _ _ (by simp; omega) fun i d x h1 h2 => ?_
      rw [List.getElem?_take] at h1
      split at h1
      · rename_i hi
        simp [hi] at h2
        subst h2
        exact (hf i hi).2 d h1
      · cases h1
theorem load_sound [Glob P] {h : H} {g : Mem} {w : World} (hm : HM P h g w) {t : TypeId} {a : D} {va : Value} (ha : Rep w g a va) (hc : (ldD P t a h).2) :
    ∃ v, (Instr.loadAt t va).run P w = .ok v w ∧ Rep w g (ldD P t a h).1 v := by
  obtain ⟨h1, h2, h3⟩ := hc
  obtain ⟨p, rfl, hp⟩ := ptr_cells hm ha (by intro e; rw [e] at h1; simp at h1; omega)
  obtain ⟨v, h4, h5⟩ := run_loadVar' hp h1 h2 h3
  exact ⟨v, by simp [Instr.loadAt, Instr.sureAddr, h4], h5⟩

/-- Part of a struct. -/
theorem part_sound [Glob P] {g : Mem} {w : World} {t : TypeId} {off : Nat} {ds : List D} {vs : Array Value} (hv : Reps w g ds vs.toList) (hn : off + P.cellsOf t ≤ ds.length) (hp : 0 < P.cellsOf t) (hu : (P.underlying t).isSome = true) :
    ∃ v, (part t vs off).run P w = .ok v w ∧ Rep w g (mkD P t (ds.drop off)) v := by
  have hl : ds.length = vs.size := by simpa using hv.1
  unfold part mkD
  rw [Sem.run_bind, isAgg_run hu w]
  cases hg : aggB P t with
  | false =>
    refine ⟨vs[off]'(by omega), ?_, ?_⟩
    · simp [show off < vs.size by omega]
    · have h1 := hv.2 off (ds[off]'(by omega)) (vs[off]'(by omega)) (by simp) (by simp)
      have : (ds.drop off).headD .junk = ds[off]'(by omega) := by rw [List.drop_eq_getElem_cons (by omega)]; rfl
      simp only [Bool.false_eq_true, if_false]
      rw [this]; exact h1
  | true =>
    refine ⟨.agg (vs.extract off (off + P.cellsOf t)), by simp [sizeOf_run hp], ?_⟩
    simp only [if_true]
    refine .agg _ _ (by simp; omega) fun i d x h1 h2 => ?_
    rw [List.getElem?_take] at h1
    split at h1
    · rename_i hi
      rw [List.getElem?_drop] at h1
      rw [Array.getElem?_extract] at h2
      split at h2
      · exact hv.2 _ d x h1 (by simpa using h2)
      · cases h2
    · cases h1

/-! ### making -/
theorem ofCell_rep (w : World) (g : Mem) (x : Value) : Rep w g (ofCell x) x := by
  cases x with
  | slice a n c =>
    simp only [ofCell]
    split
    · rename_i h
      simp only [Bool.and_eq_true, Option.isNone_iff_eq_none, beq_iff_eq] at h
      obtain ⟨⟨rfl, rfl⟩, rfl⟩ := h
      exact .empty true none 0 (fun _ => rfl) (by simp [maxLen])
    · exact .v _
  | func f fs cs =>
    simp only [ofCell]
    split
    · rename_i h
      simp only [Bool.and_eq_true, beq_iff_eq] at h
      exact .fn f [] [] fs cs (by simp [h.1]) (by simp [h.2]) (by simp) (by simp)
    · exact .v _
  | _ => exact .v _
theorem ofV_rep (w : World) (g : Mem) (x : Value) : Rep w g (ofV x) x := by
  unfold ofV
  split
  · refine .agg _ _ (by simp) fun i d y h1 h2 => ?_
    simp only [List.getElem?_map, Array.getElem?_toList] at h1
    rw [h2] at h1
    simp at h1
    subst h1
    exact ofCell_rep w g y
  · exact ofCell_rep w g x
theorem zero_rep [Glob P] {t : TypeId} {i : TypeInfo} {z : Value} (hi : P.info? t = some i) (hz : i.zero = some z) (w : World) (g : Mem) (h1 : (zeroCells P t).all D.one = true) :
    Reps w g (zeroCells P t) z.cells.toList ∧ (∀ u ∈ z.cells.toList, u.oneCell' = true) ∧ z.cells.size = (zeroCells P t).length := by
  have e : zeroCells P t = (ofV z).cells := by simp [zeroCells, hi, hz]
  rw [e] at h1 ⊢
  exact (ofV_rep w g z).cells h1
theorem zero_some [Glob P] {t : TypeId} (h : 0 < (zeroCells P t).length) : ∃ i z, P.info? t = some i ∧ i.zero = some z := by
  unfold zeroCells at h
  cases hi : P.info? t with
  | none => simp [hi] at h
  | some i =>
    cases hz : i.zero with
    | none => simp [hi, hz] at h
    | some z => exact ⟨i, z, rfl, hz⟩
theorem holds_one [Glob P] {w : World} {g : Mem} {e : TypeId} {ds : List D} {vs : Array Value} (h : Reps w g ds vs.toList) (h1 : ∀ u ∈ vs.toList, u.oneCell' = true) (hl : ds.length = P.cellsOf e) : Holds P w g ⟨e, [ds]⟩ vs := by
  intro i row hi
  cases i with
  | succ i => simp at hi
  | zero =>
    simp at hi; subst hi
    refine ⟨hl, fun j d hd => ?_⟩
    have hj : j < vs.size := by have := h.1; simp at this; rw [← this]; exact (List.getElem?_eq_some_iff.1 hd).1
    exact ⟨vs[j], by simp [hj], h1 _ (by simp), h.2 j d _ hd (by simp [hj])⟩
/-- A NEW BLOCK OF ONE ELEMENT. -/
theorem new_sound [Glob P] {h : H} {g : Mem} {w : World} (hm : HM P h g w) {b : Nat} (hb : ¬ g.U b) {e : TypeId} {ds : List D} {vs : Array Value} (hr : Reps w g ds vs.toList) (h1 : ∀ u ∈ vs.toList, u.oneCell' = true) (hl : ds.length = P.cellsOf e) (hp : 0 < P.cellsOf e) :
    ∃ g', Rep (w.alloc (.cells vs e)) g' (.mptr b 0 0) (.pointer (some ⟨w.heap.size, 0, none⟩)) ∧ HM P (upd h b (some ⟨e, [ds]⟩)) g' (w.alloc (.cells vs e)) ∧ Mono g g' w (w.alloc (.cells vs e)) ∧ ∀ r, g'.U r → g.U r ∨ r = b := by
  have hs : vs.size = P.cellsOf e := by have := hr.1; simp at this; omega
  obtain ⟨g', h2, h3, h4, h5, h6⟩ := hm.put (h' := upd h b (some ⟨e, [ds]⟩)) (w' := w.alloc (.cells vs e)) b w.heap.size 1 ⟨e, [ds]⟩ vs (.inl hb) (upd_same _ _ _)
    (fun r hr => .inl (upd_ne _ _ _ _ hr)) (.inl (Nat.le_refl _)) (heap_alloc_new w _) (by simp [hs]) hp (by simp) (by simp [maxLen]) (holds_one hr h1 hl) (World.grownBy_alloc w _ _)
  refine ⟨g', ?_, h5, h6, fun r hr => (h3 r).1 hr⟩
  refine .mptr b 0 0 _ ⟨_, rfl⟩ ((h3 b).2 (.inr rfl)) fun blk c sz he => ?_
  rw [h2] at he
  simp only [Option.some.injEq, Prod.mk.injEq] at he
  exact ⟨w.heap.size, he.1.symm, by simp⟩

/-! ### writing -/
theorem splice_reps {w : World} {g : Mem} {row xs : List D} {cs us : List Value} (h : Reps w g row cs) (k : Reps w g xs us) (off : Nat) :
    Reps w g (splice row off xs) (cs.take off ++ us ++ cs.drop (off + us.length)) := by
  unfold splice
  rw [k.1]
  exact ((h.take off).append k).append (h.drop _)
theorem splice_length (row xs : List D) (off : Nat) (h : off + xs.length ≤ row.length) : (splice row off xs).length = row.length := by
  simp [splice]; omega

/-- THE STORE, INTO A BLOCK OF THE CALL's OWN. -/
theorem store_sound [Glob P] {h : H} {g : Mem} {w : World} (hm : HM P h g w) {t : TypeId} {a x : D} {va vx : Value} (ha : Rep w g a va) (hx : Rep w g x vx) (hc : (stH P t a x h).2) :
    ∃ g' w', (Instr.storeAt t va vx).run P w = .ok () w' ∧ HM P (stH P t a x h).1 g' w' ∧ Mono g g' w w' ∧ ∀ r, g'.U r → g.U r := by
  unfold stH at hc ⊢
  split at hc
  case h_2 => exact hc.elim
  rename_i r i off
  cases hr : h r with
  | none => rw [hr] at hc; exact hc.elim
  | some bl =>
    rw [hr] at hc
    simp only at hc ⊢
    obtain ⟨c1, c0, c2, c3, c4⟩ := hc
    obtain ⟨blk, c, h1, h2, h3, h4, h5⟩ := hm.blk r bl hr
    rcases h5 with ⟨_, rfl⟩ | ⟨b, cur, rfl, h6, h7, h8, h9⟩
    · omega
    cases ha with | mptr _ _ _ _ hxx hU hv =>
    obtain ⟨b', he, rfl⟩ := hv _ _ _ h1
    cases he
    obtain ⟨q1, q2, q3⟩ := hx.cells c4
    have hrow : bl.rows[i]? = some (bl.rows.getD i []) := by simp [List.getD, List.getElem?_eq_getElem c2]
    generalize hR : bl.rows.getD i [] = row at *
    obtain ⟨m1, m2⟩ := h9 i _ hrow
    have q4 : vx.cells.toList.length = x.cells.length := by simp [q3]
    have hin : i * P.cellsOf bl.ty + P.cellsOf bl.ty ≤ cur.size := by
      have e1 : (i + 1) * P.cellsOf bl.ty ≤ c * P.cellsOf bl.ty := Nat.mul_le_mul_right _ (by omega)
      rw [Nat.add_mul, Nat.one_mul] at e1
      omega
    have hfit : i * P.cellsOf bl.ty + off + vx.cells.toList.length ≤ cur.size := by omega
    have hst := run_storeCells_at P b (i * P.cellsOf bl.ty + off) bl.ty vx.cells.toList 0 cur w h6 (by simpa using hfit) q2
    simp only [Nat.add_zero] at hst
    generalize hnew : (List.take (i * P.cellsOf bl.ty + off) cur.toList ++ vx.cells.toList ++ List.drop (i * P.cellsOf bl.ty + off + vx.cells.toList.length) cur.toList) = new at hst
    have hnl : new.length = cur.size := by rw [← hnew]; simp; omega
    have hget : ∀ k, new[k]? = if i * P.cellsOf bl.ty + off ≤ k ∧ k < i * P.cellsOf bl.ty + off + x.cells.length then vx.cells.toList[k - (i * P.cellsOf bl.ty + off)]? else cur[k]? := by
      intro k
      rw [← hnew]
      have l1 : (List.take (i * P.cellsOf bl.ty + off) cur.toList).length = i * P.cellsOf bl.ty + off := by simp; omega
      rw [List.append_assoc]
      by_cases hk : k < i * P.cellsOf bl.ty + off
      · rw [List.getElem?_append_left (by omega), if_neg (by omega), List.getElem?_take, if_pos hk]; simp
      · rw [List.getElem?_append_right (by omega), l1]
        by_cases hk2 : k < i * P.cellsOf bl.ty + off + x.cells.length
        · rw [List.getElem?_append_left (by omega), if_pos (by omega)]
        · rw [List.getElem?_append_right (by omega), if_neg (by omega), List.getElem?_drop]
          rw [q4, Array.getElem?_toList]
          congr 1; omega
    obtain ⟨g', g1, g2, g3, g4, g5⟩ := hm.put (h' := upd h r (some { bl with rows := bl.rows.set i (splice row off x.cells) })) (w' := w.setRow b new.toArray) r b c
      { bl with rows := bl.rows.set i (splice row off x.cells) } new.toArray (.inr h1) (upd_same _ _ _) (fun r' hr' => .inl (upd_ne _ _ _ _ hr')) (.inr ⟨r, c, _, h1, .inl rfl⟩)
      (setRow_heap w b cur _ bl.ty _ h6) (by simp [hnl, h7]) h2 (by simpa using h3) h4
      (by
        intro i' row' hi'
        simp only [List.getElem?_set] at hi'
        by_cases e : i = i'
        · subst e
          rw [if_pos rfl, if_pos c2] at hi'
          cases hi'
          refine ⟨by rw [splice_length _ _ _ c3]; exact m1, fun j d hj => ?_⟩
          have hjl : j < row.length := by
            have := (List.getElem?_eq_some_iff.1 hj).1
            rwa [splice_length _ _ _ c3] at this
          unfold splice at hj
          rw [List.append_assoc] at hj
          have l1 : (List.take off row).length = off := by simp; omega
          simp only [List.getElem?_toArray]
          rw [hget]
          by_cases hk : j < off
          · rw [List.getElem?_append_left (by omega), List.getElem?_take, if_pos hk] at hj
            rw [if_neg (by omega)]
            exact m2 j d hj
          · rw [List.getElem?_append_right (by omega), l1] at hj
            by_cases hk2 : j < off + x.cells.length
            · rw [List.getElem?_append_left (by omega)] at hj
              rw [if_pos (by omega)]
              have hjj : i * P.cellsOf bl.ty + j - (i * P.cellsOf bl.ty + off) = j - off := by omega
              rw [hjj]
              have hlt : j - off < vx.cells.toList.length := by omega
              exact ⟨vx.cells.toList[j - off], by simp, q2 _ (List.getElem_mem hlt), q1.2 (j - off) d _ hj (by simp)⟩
            · rw [List.getElem?_append_right (by omega), List.getElem?_drop] at hj
              rw [if_neg (by omega)]
              have : off + x.cells.length + (j - off - x.cells.length) = j := by omega
              rw [this] at hj
              exact m2 j d hj
        · rw [if_neg e] at hi'
          obtain ⟨k1, k2⟩ := h9 i' row' hi'
          refine ⟨k1, fun j d hj => ?_⟩
          have hjl : j < P.cellsOf bl.ty := by have := (List.getElem?_eq_some_iff.1 hj).1; omega
          simp only [List.getElem?_toArray]
          rw [hget, if_neg]
          · exact k2 j d hj
          · intro ⟨u1, u2⟩
            have v1 : i * P.cellsOf bl.ty < i' * P.cellsOf bl.ty + P.cellsOf bl.ty := by omega
            have v2 : i' * P.cellsOf bl.ty < i * P.cellsOf bl.ty + P.cellsOf bl.ty := by omega
            have e1 : i < i' + 1 := Nat.lt_of_mul_lt_mul_right (a := P.cellsOf bl.ty) (by rw [Nat.add_mul, Nat.one_mul]; exact v1)
            have e2 : i' < i + 1 := Nat.lt_of_mul_lt_mul_right (a := P.cellsOf bl.ty) (by rw [Nat.add_mul, Nat.one_mul]; exact v2)
            omega)
      ⟨rfl, rfl, rfl, by simp, fun k _ hk => setRow_other w b k _ (fun e => hk (by rw [e]))⟩
    refine ⟨g', _, ?_, g4, g5, fun r' hr' => ?_⟩
    · simp [Instr.storeAt, Instr.sureAddr, storeVar, sizeOf_run c0, q3, c1, hst]
    · rcases (g2 r').1 hr' with h | rfl
      · exact h
      · exact hU
end Go.DL
