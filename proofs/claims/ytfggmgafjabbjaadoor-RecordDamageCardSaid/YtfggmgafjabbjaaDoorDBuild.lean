/-
  THE D LAYER, 9: composite values; and all operations that are no calls, together. Conditions: none.
-/
import Derived.Test.YtfggmgafjabbjaaDoorDEff
namespace Go.DL
open Go.RowKit
variable {P : Program}

/-- A NEW BLOCK THAT NOBODY WILL WRITE. -/
theorem HM.still [Glob P] {h : H} {g : Mem} {w : World} (hm : HM P h g w) (o : Obj) :
    HM P h { g with I := fun b => g.I b ∨ b = w.heap.size } (w.alloc o) ∧ Mono g { g with I := fun b => g.I b ∨ b = w.heap.size } w (w.alloc o) := by
  have mono : Mono g { g with I := fun b => g.I b ∨ b = w.heap.size } w (w.alloc o) :=
    ⟨rfl, rfl, rfl, by simp, Nat.le_refl _, fun _ h => h, fun _ _ => .inl rfl, fun r b c s h => .inl ⟨r, c, s, h⟩, fun _ h => .inl h, fun b h => by rcases h with h | rfl; exact .inl h; exact .inr (.inl (Nat.le_refl _)), fun b hb _ => Below.heap_alloc w o b hb⟩
  refine ⟨⟨hm.dead, fun r bl hr => ?_, hm.inj, hm.used, fun b hb => ?_, hm.gr.later (hm.kept mono)⟩, mono⟩
  · obtain ⟨blk, c, h1, h2, h3, h4, h5⟩ := hm.blk r bl hr
    refine ⟨blk, c, h1, h2, h3, h4, ?_⟩
    rcases h5 with h5 | ⟨b, cur, rfl, h6, h7, h8, h9⟩
    · exact .inl h5
    · have hlt := (M_lt hm h1).1
      refine .inr ⟨b, cur, rfl, by rw [Below.heap_alloc w o b hlt]; exact h6, h7, fun hI => ?_, fun i row hi => ?_⟩
      · rcases hI with hI | hI
        · exact h8 hI
        · omega
      · obtain ⟨k1, k2⟩ := h9 i row hi
        refine ⟨k1, fun j d hd => ?_⟩
        obtain ⟨u, k3, k4, k5⟩ := k2 j d hd
        exact ⟨u, k3, k4, k5.later hm mono⟩
  · rcases hb with hb | rfl
    · have := hm.imm b hb; simp; omega
    · simp

theorem rowsOk_spec {n : Nat} : ∀ {ps : List (Nat × Operand)} {xs : List D} {i : Nat}, rowsOk n i ps xs → ps.map (·.1) = List.range' i ps.length ∧ xs.length = ps.length ∧ ∀ x ∈ xs, x.cells.length = n ∧ x.cells.all D.one = true := by
  intro ps
  induction ps with
  | nil => intro xs i h; cases xs <;> simp_all [rowsOk]
  | cons p ps ih =>
    intro xs i h
    cases xs with
    | nil => simp [rowsOk] at h
    | cons x xs =>
      obtain ⟨h1, h2, h3, h4⟩ := h
      obtain ⟨k1, k2, k3⟩ := ih h4
      refine ⟨by simp [h1, k1, List.range'_succ], by simp [k2], fun y hy => ?_⟩
      rcases List.mem_cons.1 hy with rfl | hy
      · exact ⟨h2, h3⟩
      · exact k3 y hy

theorem buildSlice_sound [Glob P] {h : H} {g : Mem} {w : World} (hm : HM P h g w) {t : TypeId} {len : Nat} {ps : Array (Nat × Operand)} {xs : List D} {vs : List Value} (hr : Reps w g xs vs) (hc : (buildSliceD P t len ps.toList xs).2) (ρ : Operand → Value) (hρ : ps.toList.map (fun p => ρ p.2) = vs) :
    ∃ v g' w', (Instr.buildSlice t len (ps.map fun (i, x) => (i, ρ x))).run P w = .ok v w' ∧ Rep w' g' (buildSliceD P t len ps.toList xs).1 v ∧ HM P h g' w' ∧ Mono g g' w w' ∧ ∀ r, g'.U r → g.U r := by
  unfold buildSliceD at hc ⊢
  cases he : elemT P t with
  | none => rw [he] at hc; exact hc.elim
  | some e =>
  rw [he] at hc
  simp only at hc ⊢
  have hu := elemT_some he
  obtain ⟨c1, c2, c3, c4, c5⟩ := hc
  obtain ⟨ie, hie, hs⟩ := info_of_pos c3
  obtain ⟨k1, k2, k3⟩ := rowsOk_spec c2
  have hvl : vs.length = len := by rw [← hr.1, k2, c1]
  have hparts : (ps.map fun (i, x) => (i, ρ x)).toList = (vs.zipIdx 0).map fun x => (x.2, x.1) := by
    apply List.ext_getElem?
    intro i
    simp only [Array.toList_map, List.getElem?_map, List.getElem?_zipIdx, ← hρ]
    cases hp : ps.toList[i]? with
    | none => simp
    | some p =>
      have : (ps.toList.map (·.1))[i]? = some p.1 := by simp only [List.getElem?_map, hp, Option.map_some]
      rw [k1] at this
      have hil : i < ps.toList.length := (List.getElem?_eq_some_iff.1 hp).1
      rw [List.getElem?_range' (by omega)] at this
      simp at this
      simp [this]
  obtain ⟨z, hz⟩ : ∃ z, ie.zero = some z := by
    unfold zeroLen at c5
    cases hz : ie.zero with
    | none => simp [hie, hz] at c5
    | some z => exact ⟨z, rfl⟩
  obtain ⟨hm', mono⟩ := hm.still (.cells #[] e)
  by_cases h0 : len = 0
  · subst h0
    have hx0 : xs = [] := List.eq_nil_of_length_eq_zero (by omega)
    subst hx0
    have hp0 : ps = #[] := by
      have : ps.toList = [] := List.eq_nil_of_length_eq_zero c1
      simpa using this
    subst hp0
    refine ⟨.slice (some ⟨w.heap.size, 0, none⟩) 0 0, _, _, ?_, .empty true _ 0 (fun _ => rfl) (by simp [maxLen]), hm', mono, fun _ h => h⟩
    have e0 : (Array.range 0).map (fun _ => (default : Value)) = #[] := by apply Array.ext'; simp
    simp [Instr.buildSlice, run_underlying hu, sizeOf_run c3, Instr.fill, newRow, e0]
  · obtain ⟨r, f1, f2, f3⟩ := Go.Great.fill_dense (s := ie.size) (by omega) vs 0 ((Array.range (len * ie.size)).map (z.cells[· % z.cells.size]!)) (fun v hv => by
      obtain ⟨i, hi, rfl⟩ := List.getElem_of_mem hv
      have hxi : i < xs.length := by omega
      obtain ⟨q1, q2⟩ := k3 xs[i] (List.getElem_mem hxi)
      rw [((hr.2 i xs[i] vs[i] (by simp) (by simp)).cells q2).2.2, q1, hs]) (by simp [hvl])
    have hrun := run_buildSlice (P := P) w t e len (ps.map fun (i, x) => (i, ρ x)) r ie z hu hie hz (by rw [hs]; omega) (by rw [hs]; exact Nat.mul_ne_zero h0 (by omega)) (by rw [hparts]; exact f1)
    obtain ⟨hm', mono⟩ := hm.still (.cells r e)
    have hlen : len = (xs.map D.cells).length := by simp; omega
    refine ⟨_, _, _, hrun, ?_, hm', mono, fun _ h => h⟩
    have key : ∀ (i j : Nat) row d, (xs.map D.cells)[i]? = some row → row[j]? = some d → ∃ u, r[i * P.cellsOf e + j]? = some u ∧ u.oneCell' = true ∧ Rep w g d u := by
      intro i j row d hi hj
      rw [List.getElem?_map] at hi
      cases hxi : xs[i]? with
      | none => rw [hxi] at hi; cases hi
      | some x =>
        rw [hxi] at hi
        simp only [Option.map_some, Option.some.injEq] at hi
        subst hi
        have hil : i < xs.length := (List.getElem?_eq_some_iff.1 hxi).1
        have hiv : i < vs.length := by omega
        obtain ⟨q1, q2⟩ := k3 x (List.mem_of_getElem? hxi)
        obtain ⟨q3, q4, q5⟩ := (hr.2 i x vs[i] hxi (by simp)).cells q2
        have hjl : j < P.cellsOf e := by have := (List.getElem?_eq_some_iff.1 hj).1; omega
        have hjv : j < vs[i].cells.toList.length := by simp; omega
        refine ⟨vs[i].cells.toList[j], ?_, q4 _ (List.getElem_mem hjv), q3.2 j d _ hj (by simp)⟩
        rw [f3, if_pos ⟨by omega, by rw [Nat.zero_add, hs]; exact idx_lt hiv hjl⟩, hs]
        have e1 : (i * P.cellsOf e + j) / P.cellsOf e = i := by rw [Nat.mul_comm, Nat.mul_add_div c3, Nat.div_eq_of_lt hjl]; rfl
        have e2 : (i * P.cellsOf e + j) % P.cellsOf e = j := by rw [Nat.mul_comm, Nat.mul_add_mod, Nat.mod_eq_of_lt hjl]
        rw [e1, e2, Nat.sub_zero, List.getElem?_eq_getElem hiv]
        simp
    have hex : ∀ i j, ∃ u, ∀ row d, (xs.map D.cells)[i]? = some row → row[j]? = some d → r[i * P.cellsOf e + j]? = some u ∧ u.oneCell' = true ∧ Rep w g d u := by
      intro i j
      by_cases hh : ∃ row d, (xs.map D.cells)[i]? = some row ∧ row[j]? = some d
      · obtain ⟨row, d, h1, h2⟩ := hh
        obtain ⟨u, h3, h4, h5⟩ := key i j row d h1 h2
        refine ⟨u, fun row' d' h1' h2' => ?_⟩
        rw [h1] at h1'; cases h1'
        rw [h2] at h2'; cases h2'
        exact ⟨h3, h4, h5⟩
      · exact ⟨undef, fun row d h1 h2 => absurd ⟨row, d, h1, h2⟩ hh⟩
    generalize hf : (fun i j => Classical.choose (hex i j)) = cf
    have hcf : ∀ i j row d, (xs.map D.cells)[i]? = some row → row[j]? = some d → r[i * P.cellsOf e + j]? = some (cf i j) ∧ (cf i j).oneCell' = true ∧ Rep w g d (cf i j) := by
      intro i j; rw [← hf]; exact Classical.choose_spec (hex i j)
    rw [hlen]
    refine .list true _ ⟨w.heap.size, 0, none⟩ _ (P.cellsOf e) cf (.inr rfl) (Nat.le_refl _) (fun _ => rfl) ?_ (fun row hrow => ?_) (fun i j row d h1 h2 => ?_) (fun i j row d h1 h2 => ?_)
    · rw [← hlen]; simp only [maxLen]
      have : len ≤ len * P.cellsOf e := Nat.le_mul_of_pos_right _ c3
      omega
    · simp only [List.mem_map] at hrow
      obtain ⟨x, hx, rfl⟩ := hrow
      exact (k3 x hx).1
    · obtain ⟨h3, h4, _⟩ := hcf i j row d h1 h2
      refine ⟨?_, h4⟩
      rw [add_mk, Nat.zero_add, cell_of_row _ _ _ r e (0, 0) (heap_alloc_new w _)]
      exact h3
    · exact (hcf i j row d h1 h2).2.2.later hm mono

theorem bsOwn_sound [Glob P] {h : H} {g : Mem} {w : World} (hm : HM P h g w) {b : Nat} (hb : ¬ g.U b) {t : TypeId} {len : Nat} {ps : Array (Nat × Operand)} {xs : List D} {vs : List Value} (hr : Reps w g xs vs) (hc : (bsOwn P t len ps.toList xs h b).2.2) (ρ : Operand → Value) (hρ : ps.toList.map (fun p => ρ p.2) = vs) :
    ∃ v g' w', (Instr.buildSlice t len (ps.map fun (i, x) => (i, ρ x))).run P w = .ok v w' ∧ Rep w' g' (bsOwn P t len ps.toList xs h b).1 v ∧ HM P (bsOwn P t len ps.toList xs h b).2.1 g' w' ∧ Mono g g' w w' ∧ ∀ r, g'.U r → g.U r ∨ r = b := by
  unfold bsOwn at hc ⊢
  cases he : elemT P t with
  | none => rw [he] at hc; exact hc.elim
  | some e =>
  rw [he] at hc
  simp only at hc ⊢
  have hu := elemT_some he
  obtain ⟨c0, c1, c2, c3, c4, c5⟩ := hc
  have h0 : ¬ len = 0 := by omega
  obtain ⟨ie, hie, hs⟩ := info_of_pos c3
  obtain ⟨k1, k2, k3⟩ := rowsOk_spec c2
  have hvl : vs.length = len := by rw [← hr.1, k2, c1]
  have hparts : (ps.map fun (i, x) => (i, ρ x)).toList = (vs.zipIdx 0).map fun x => (x.2, x.1) := by
    apply List.ext_getElem?
    intro i
    simp only [Array.toList_map, List.getElem?_map, List.getElem?_zipIdx, ← hρ]
    cases hp : ps.toList[i]? with
    | none => simp
    | some p =>
      have : (ps.toList.map (·.1))[i]? = some p.1 := by simp only [List.getElem?_map, hp, Option.map_some]
      rw [k1] at this
      have hil : i < ps.toList.length := (List.getElem?_eq_some_iff.1 hp).1
      rw [List.getElem?_range' (by omega)] at this
      simp at this
      simp [this]
  obtain ⟨z, hz⟩ : ∃ z, ie.zero = some z := by
    unfold zeroLen at c5
    cases hz : ie.zero with
    | none => simp [hie, hz] at c5
    | some z => exact ⟨z, rfl⟩
  obtain ⟨r, f1, f2, f3⟩ := Go.Great.fill_dense (s := ie.size) (by omega) vs 0 ((Array.range (len * ie.size)).map (z.cells[· % z.cells.size]!)) (fun v hv => by
    obtain ⟨i, hi, rfl⟩ := List.getElem_of_mem hv
    have hxi : i < xs.length := by omega
    obtain ⟨q1, q2⟩ := k3 xs[i] (List.getElem_mem hxi)
    rw [((hr.2 i xs[i] vs[i] (by simp) (by simp)).cells q2).2.2, q1, hs]) (by simp [hvl])
  have hrun := run_buildSlice (P := P) w t e len (ps.map fun (i, x) => (i, ρ x)) r ie z hu hie hz (by rw [hs]; omega) (by rw [hs]; exact Nat.mul_ne_zero h0 (by omega)) (by rw [hparts]; exact f1)
  have key : ∀ (i j : Nat) row d, (xs.map D.cells)[i]? = some row → row[j]? = some d → ∃ u, r[i * P.cellsOf e + j]? = some u ∧ u.oneCell' = true ∧ Rep w g d u := by
    intro i j row d hi hj
    rw [List.getElem?_map] at hi
    cases hxi : xs[i]? with
    | none => rw [hxi] at hi; cases hi
    | some x =>
      rw [hxi] at hi
      simp only [Option.map_some, Option.some.injEq] at hi
      subst hi
      have hil : i < xs.length := (List.getElem?_eq_some_iff.1 hxi).1
      have hiv : i < vs.length := by omega
      obtain ⟨q1, q2⟩ := k3 x (List.mem_of_getElem? hxi)
      obtain ⟨q3, q4, q5⟩ := (hr.2 i x vs[i] hxi (by simp)).cells q2
      have hjl : j < P.cellsOf e := by have := (List.getElem?_eq_some_iff.1 hj).1; omega
      have hjv : j < vs[i].cells.toList.length := by simp; omega
      refine ⟨vs[i].cells.toList[j], ?_, q4 _ (List.getElem_mem hjv), q3.2 j d _ hj (by simp)⟩
      rw [f3, if_pos ⟨by omega, by rw [Nat.zero_add, hs]; exact idx_lt hiv hjl⟩, hs]
      have e1 : (i * P.cellsOf e + j) / P.cellsOf e = i := by rw [Nat.mul_comm, Nat.mul_add_div c3, Nat.div_eq_of_lt hjl]; rfl
      have e2 : (i * P.cellsOf e + j) % P.cellsOf e = j := by rw [Nat.mul_comm, Nat.mul_add_mod, Nat.mod_eq_of_lt hjl]
      rw [e1, e2, Nat.sub_zero, List.getElem?_eq_getElem hiv]
      simp
  have hlen : len = (xs.map D.cells).length := by simp; omega
  have hmx : len ≤ maxLen := by
    simp only [maxLen]
    have : len ≤ len * P.cellsOf e := Nat.le_mul_of_pos_right _ c3
    omega
  obtain ⟨g', h2, h3, h4, h5, h6⟩ := hm.put (h' := upd h b (some ⟨e, xs.map D.cells⟩)) (w' := w.alloc (.cells r e)) b w.heap.size len ⟨e, xs.map D.cells⟩ r (.inl hb) (upd_same _ _ _)
    (fun r hr => .inl (upd_ne _ _ _ _ hr)) (.inl (Nat.le_refl _)) (heap_alloc_new w _) (by simp only [← hs]; simpa using f2) c3 (by simp only; omega) hmx (fun i row hi => by
      have hi' := hi
      simp only [List.getElem?_map] at hi'
      cases hxi : xs[i]? with
      | none => rw [hxi] at hi'; cases hi'
      | some x =>
        rw [hxi] at hi'
        simp only [Option.map_some, Option.some.injEq] at hi'
        subst hi'
        exact ⟨(k3 x (List.mem_of_getElem? hxi)).1, fun j d hj => key i j _ d hi hj⟩) (World.grownBy_alloc w _ _)
  refine ⟨_, g', _, hrun, ?_, h5, h6, fun r hr => (h3 r).1 hr⟩
  refine .mrow b 0 len _ ⟨some ⟨w.heap.size, 0, none⟩, len, rfl, Nat.le_refl _, fun _ => ⟨_, rfl⟩⟩ ((h3 b).2 (.inr rfl)) fun blk c sz he => ?_
  rw [h2] at he
  simp only [Option.some.injEq, Prod.mk.injEq] at he
  obtain ⟨rfl, rfl, rfl⟩ := he
  exact ⟨by omega, .inr ⟨by omega, w.heap.size, rfl, by simp⟩⟩
/-- a struct, part by part -/
theorem fill_sound [Glob P] {s : TypeId} {fs : Array Field} (hfs : P.underlying s = some (.struct fs)) {w : World} {g : Mem} : ∀ (ps : List (Nat × Operand)) (xs : List D) (vs : List Value) (cs : List D) (cells : Array Value) (ρ : Operand → Value), Reps w g xs vs → ps.map (fun p => ρ p.2) = vs → Reps w g cs cells.toList →
    fillOk P s cs.length ps xs → ∃ r, Instr.fill (fun x => (fs.toList.map fun f => (f.offset, P.cellsOf f.type)).toArray[x]?) cells (ps.map fun (i, x) => (i, ρ x)) = some r ∧ Reps w g (fillD P s ps xs cs) r.toList := by
  intro ps
  induction ps with
  | nil => intro xs vs cs cells ρ hx hρ hc hok; exact ⟨cells, by simp [Instr.fill], by simpa [fillD] using hc⟩
  | cons p ps ih =>
    intro xs vs cs cells ρ hx hρ hc hok
    obtain ⟨f, o⟩ := p
    simp only [List.map_cons] at hρ
    subst hρ
    cases xs with
    | nil => simp [fillOk] at hok
    | cons x xs =>
      obtain ⟨h1, h2, h3⟩ := hok
      cases hf : fld P s f with
      | none => rw [hf] at h1; exact h1.elim
      | some ot =>
        obtain ⟨off, t⟩ := ot
        rw [hf] at h1
        simp only at h1
        obtain ⟨h4, h5⟩ := h1
        obtain ⟨q1, q2, q3⟩ := hx.head.cells h2
        have hfp : ((fs.toList.map fun f => (f.offset, P.cellsOf f.type)).toArray[f]?) = some (off, P.cellsOf t) := by
          unfold fld at hf
          rw [hfs] at hf
          simp only at hf
          cases hff : fs[f]? with
          | none => rw [hff] at hf; cases hf
          | some fd =>
            rw [hff] at hf
            simp only [Option.map_some, Option.some.injEq, Prod.mk.injEq] at hf
            simp [hff, hf.1, hf.2]
        have hcl : cs.length = cells.size := by simpa using hc.1
        obtain ⟨g1, g2⟩ := Go.Great.foldl_set off (ρ o).cells.toList 0 cells
        generalize hnew : ((ρ o).cells.toList.zipIdx 0).foldl (fun cs (x : Value × Nat) => cs.setIfInBounds (off + x.2) x.1) cells = new at g1 g2
        have hnl : new.toList = cells.toList.take off ++ (ρ o).cells.toList ++ cells.toList.drop (off + (ρ o).cells.toList.length) := by
          apply List.ext_getElem?
          intro k
          rw [Array.getElem?_toList, g2]
          simp only [Nat.add_zero, List.append_assoc, Array.length_toList, q3]
          have l1 : (cells.toList.take off).length = off := by simp; omega
          have l2 : (ρ o).cells.toList.length = x.cells.length := by simp [q3]
          by_cases hk : k < off
          · rw [if_neg (by omega), List.getElem?_append_left (by omega), List.getElem?_take, if_pos hk]; simp
          · rw [List.getElem?_append_right (by omega), l1]
            by_cases hk2 : k < off + x.cells.length
            · rw [if_pos (by omega), List.getElem?_append_left (by omega)]
            · rw [if_neg (by omega), List.getElem?_append_right (by omega), List.getElem?_drop, Array.getElem?_toList, l2]
              congr 1; omega
        obtain ⟨r, k1, k2⟩ := ih xs (ps.map fun p => ρ p.2) (splice cs off x.cells) new ρ hx.tail rfl (by rw [hnl]; exact splice_reps hc q1 off) (by rw [splice_length _ _ _ h5]; exact h3)
        refine ⟨r, ?_, by simpa [fillD, hf] using k2⟩
        simp only [List.map_cons]
        unfold Instr.fill
        simp only [hfp]
        rw [if_neg (by simp; omega), ← k1]
        congr 1
        rw [← hnew, ← Array.foldl_toList, Array.toList_zipIdx]
theorem build_sound [Glob P] {w : World} {g : Mem} {t : TypeId} {ps : Array (Nat × Operand)} {xs : List D} {vs : List Value} (hr : Reps w g xs vs) (hc : (buildD P t ps.toList xs).2) (ρ : Operand → Value) (hρ : ps.toList.map (fun p => ρ p.2) = vs) :
    ∃ v, (Instr.build t (ps.map fun (i, x) => (i, ρ x))).run P w = .ok v w ∧ Rep w g (buildD P t ps.toList xs).1 v := by
  obtain ⟨c1, c2, c3, c4⟩ := hc
  unfold structB at c4
  split at c4
  case h_2 => cases c4
  rename_i fs hfs
  obtain ⟨i, z, hi, hz⟩ := zero_some c3
  obtain ⟨z1, _, _⟩ := zero_rep hi hz w g c2
  obtain ⟨r, f1, f2⟩ := fill_sound hfs ps.toList xs vs (zeroCells P t) z.cells ρ hr hρ z1 c1
  refine ⟨.agg r, run_build (P := P) w t _ r ?_, .mk_agg f2⟩
  unfold Program.built
  have hp : fs.toList.mapM (fun f => (P.info? f.type).map fun i => (f.offset, i.size)) = some (fs.toList.map fun f => (f.offset, P.cellsOf f.type)) := by
    have : ∀ l : List Field, (l.all fun f => (P.info? f.type).isSome) = true → l.mapM (fun f => (P.info? f.type).map fun i => (f.offset, i.size)) = some (l.map fun f => (f.offset, P.cellsOf f.type)) := by
      intro l
      induction l with
      | nil => intro _; rfl
      | cons a l ih =>
        intro h
        simp only [List.all_cons, Bool.and_eq_true] at h
        obtain ⟨ia, hia⟩ := Option.isSome_iff_exists.1 h.1
        simp [List.mapM_cons, hia, ih h.2, Program.cellsOf]
    exact this _ c4
  simp only [hi, hfs, hz, hp]
  rw [← f1]
  simp
end Go.DL
