/-
  THE D LAYER, 10: all operations that are no calls of functions, together. Conditions: none.
-/
import Derived.Test.YtfggmgafjabbjaaDoorDBuild
namespace Go.DL
open Go.RowKit
variable {P : Program} {W : Words} {C : Con}

def isCall : Op → Bool
  | .call { callee := .value _, .. } => true
  | _ => false

theorem optAt_rep {w : World} {g : Mem} {xs : List D} {ρ : Operand → Value} {l : Option Operand} {rest : List Operand} (h : Reps w g xs ((l.toList ++ rest).map ρ)) :
    OptRep w g (optAt l xs).1 (l.map ρ) ∧ Reps w g (optAt l xs).2 (rest.map ρ) := by
  cases l with
  | none => exact ⟨trivial, by simpa [optAt] using h⟩
  | some x =>
    simp only [Option.toList_some, List.singleton_append, List.map_cons] at h
    cases xs with
    | nil => exact absurd h.1 (by simp)
    | cons d ds => exact ⟨h.head, h.tail⟩

theorem eff_sound [Glob P] {h : H} {g : Mem} {w : World} (hm : HM P h g w) {b : Nat} (hb : ¬ g.U b) {xs : List D} {o : Oper} {ρ : Operand → Value} (hr : Reps w g xs ((opArgs o.op).map ρ)) (hcall : isCall o.op = false) (hc : (eff P W C o.op xs h b).2.2) :
    Does P g w b ((execOp ρ o).run P w) (eff P W C o.op xs h b).1 (eff P W C o.op xs h b).2.1 := by
  obtain ⟨dst, op, ty, pos, after, guard⟩ := o
  simp only at hr hcall hc ⊢
  unfold eff at hc ⊢
  split at hc
  -- move, assign
  · obtain ⟨v, l, e, h1, h2⟩ := hr.of_cons
    simp only [opArgs, List.map_cons, List.map_nil, List.cons.injEq] at e
    obtain ⟨rfl, _⟩ := e
    exact Does.still (s := pure _) hm (by simp) h1
  · obtain ⟨v, l, e, h1, h2⟩ := hr.of_cons
    simp only [opArgs, List.map_cons, List.map_nil, List.cons.injEq] at e
    obtain ⟨rfl, _⟩ := e
    exact Does.still (s := pure _) hm (by simp) h1
  -- alloc
  · rename_i e
    obtain ⟨c1, c2, c3⟩ := hc
    obtain ⟨i, z, hi, hz⟩ := zero_some (P := P) (t := e) (by omega)
    obtain ⟨z1, z2, z3⟩ := zero_rep hi hz w g c2
    obtain ⟨g', k1, k2, k3, k4⟩ := new_sound hm hb (e := e) z1 z2 c1 (by omega)
    refine ⟨_, g', _, .inl ?_, k1, k2, k3, k4⟩
    simp [execOp, Instr.alloc, zeroValue, typeInfo, hi, hz, newVar, newRow]
  -- box
  · rename_i e x d
    obtain ⟨v, l, e1, h1, h2⟩ := hr.of_cons
    simp only [opArgs, List.map_cons, List.map_nil, List.cons.injEq] at e1
    obtain ⟨rfl, _⟩ := e1
    obtain ⟨c1, c2, c3⟩ := hc
    obtain ⟨z1, z2, z3⟩ := h1.cells c2
    obtain ⟨g', k1, k2, k3, k4⟩ := new_sound hm hb (e := e) z1 z2 c1 c3
    refine ⟨_, g', _, .inl ?_, k1, k2, k3, k4⟩
    simp [execOp, Instr.box, newVar, newRow]
  -- build
  · rename_i t ps
    obtain ⟨v, h1, h2⟩ := build_sound (P := P) (ps := ps) hr hc ρ (by simp [opArgs])
    exact Does.still hm h1 h2
  -- buildSlice
  · rename_i t n ps
    cases hbs : C.bs with
    | false =>
      simp only [hbs, Bool.false_eq_true, if_false] at hc ⊢
      obtain ⟨v, g', w', h1, h2, h3, h4, h5⟩ := buildSlice_sound (P := P) hm (ps := ps) hr hc ρ (by simp [opArgs])
      exact ⟨v, g', w', .inl (by simp [execOp, h1]), h2, h3, h4, fun r hr => .inl (h5 r hr)⟩
    | true =>
      simp only [hbs, if_true] at hc ⊢
      obtain ⟨v, g', w', h1, h2, h3, h4, h5⟩ := bsOwn_sound (P := P) hm hb (ps := ps) hr hc ρ (by simp [opArgs])
      exact ⟨v, g', w', .inl (by simp [execOp, h1]), h2, h3, h4, h5⟩
  -- load
  · obtain ⟨v, l, e1, h1, h2⟩ := hr.of_cons
    simp only [opArgs, List.map_cons, List.map_nil, List.cons.injEq] at e1
    obtain ⟨rfl, _⟩ := e1
    obtain ⟨v, k1, k2⟩ := load_sound hm h1 hc
    exact Does.still hm k1 k2
  -- store
  · obtain ⟨v, l, e1, h1, h2⟩ := hr.of_cons
    simp only [opArgs, List.map_cons, List.map_nil, List.cons.injEq] at e1
    obtain ⟨rfl, rfl⟩ := e1
    obtain ⟨g', w', k1, k2, k3, k4⟩ := store_sound hm h1 h2.head hc
    exact ⟨undef, g', w', .inr ⟨by simp [execOp, k1], rfl⟩, .v _, k2, k3, fun r hr => .inl (k4 r hr)⟩
  -- nilCheck
  · obtain ⟨v, l, e1, h1, h2⟩ := hr.of_cons
    simp only [opArgs, List.map_cons, List.map_nil, List.cons.injEq] at e1
    obtain ⟨e1, _⟩ := e1
    obtain ⟨p, e2, _⟩ := ptrAdd_rep h1 hc 0
    refine ⟨v, g, w, .inl ?_, h1, hm, Mono.refl _ _, fun _ h => .inl h⟩
    simp [execOp, e1, e2]
  -- binOp
  · obtain ⟨v, l, e1, h1, h2⟩ := hr.of_cons
    simp only [opArgs, List.map_cons, List.map_nil, List.cons.injEq] at e1
    obtain ⟨rfl, rfl⟩ := e1
    obtain ⟨v, k1, k2⟩ := binD_sound h1 h2.head hc _ _
    exact Does.still hm k1 k2
  -- unOp
  · obtain ⟨v, l, e1, h1, h2⟩ := hr.of_cons
    simp only [opArgs, List.map_cons, List.map_nil, List.cons.injEq] at e1
    obtain ⟨rfl, _⟩ := e1
    obtain ⟨v, k1, k2⟩ := unD_sound h1 hc
    exact Does.still hm k1 k2
  -- convert
  · obtain ⟨v, l, e1, h1, h2⟩ := hr.of_cons
    simp only [opArgs, List.map_cons, List.map_nil, List.cons.injEq] at e1
    obtain ⟨rfl, _⟩ := e1
    obtain ⟨v, k1, k2⟩ := convD_sound h1 hc
    exact Does.still hm k1 k2
  -- makeFunc
  · rename_i f first captured
    simp only [opArgs, List.map_append] at hr
    have q1 := hr.take first.size
    have q2 := hr.drop first.size
    have l1 : (first.toList.map ρ).length = first.size := by simp
    rw [List.take_left' l1] at q1
    rw [List.drop_left' l1] at q2
    refine Does.still (s := Instr.makeFunc f (first.map ρ) (captured.map ρ)) hm (v := .func f (first.map ρ) (captured.map ρ)) (by simp [Instr.makeFunc]) ?_
    exact .fn f _ _ _ _ (by have := q1.1; simp at this ⊢; exact this) (by have := q2.1; simp at this ⊢; exact this) (fun i d x h1 h2 => q1.2 i d x h1 (by simpa using h2)) (fun i d x h1 h2 => q2.2 i d x h1 (by simpa using h2))
  -- slice
  · rename_i t x l hi m d ds
    obtain ⟨v, l', e1, h1, h2⟩ := hr.of_cons
    simp only [opArgs, List.map_cons, List.cons.injEq] at e1
    obtain ⟨rfl, rfl⟩ := e1
    rw [List.append_assoc] at h2
    obtain ⟨k1, h3⟩ := optAt_rep h2
    obtain ⟨k2, h4⟩ := optAt_rep h3
    rw [← List.append_nil m.toList] at h4
    obtain ⟨k3, _⟩ := optAt_rep h4
    obtain ⟨v, q1, q2⟩ := slice_sound hm h1 k1 k2 k3 hc
    exact Does.still hm q1 q2
  -- fieldAddr
  · obtain ⟨v, l, e1, h1, h2⟩ := hr.of_cons
    simp only [opArgs, List.map_cons, List.map_nil, List.cons.injEq] at e1
    obtain ⟨rfl, _⟩ := e1
    obtain ⟨v, k1, k2⟩ := fieldPtr_sound h1 hc
    exact Does.still hm k1 k2
  -- field
  · obtain ⟨v, l, e1, h1, h2⟩ := hr.of_cons
    simp only [opArgs, List.map_cons, List.map_nil, List.cons.injEq] at e1
    obtain ⟨rfl, _⟩ := e1
    obtain ⟨v, k1, k2⟩ := fieldV_sound h1 hc
    exact Does.still hm k1 k2
  -- indexAddr
  · obtain ⟨v, l, e1, h1, h2⟩ := hr.of_cons
    simp only [opArgs, List.map_cons, List.map_nil, List.cons.injEq] at e1
    obtain ⟨rfl, rfl⟩ := e1
    obtain ⟨v, k1, k2⟩ := idxPtr_sound hm h1 h2.head hc
    exact Does.still hm k1 k2
  -- index
  · obtain ⟨v, l, e1, h1, h2⟩ := hr.of_cons
    simp only [opArgs, List.map_cons, List.map_nil, List.cons.injEq] at e1
    obtain ⟨rfl, rfl⟩ := e1
    obtain ⟨v, k1, k2⟩ := idxV_sound (P := P) h1 h2.head hc
    exact Does.still hm k1 k2
  -- extract
  · rename_i i ds
    obtain ⟨v, l, e1, h1, h2⟩ := hr.of_cons
    simp only [opArgs, List.map_cons, List.map_nil, List.cons.injEq] at e1
    obtain ⟨e1, _⟩ := e1
    obtain ⟨vs, rfl, h3⟩ := h1.tuple_inv
    have hl : i < vs.size := by have := h3.1; simp at this; omega
    refine ⟨vs[i], g, w, .inl ?_, ?_, hm, Mono.refl _ _, fun _ h => .inl h⟩
    · simp [execOp, e1, Instr.extract, hl]
    · exact h3.2 i _ _ (by simp [List.getD, List.getElem?_eq_getElem hc]) (by simp [hl])
  -- len
  · rename_i args argTypes d
    obtain ⟨v, l, e1, h1, h2⟩ := hr.of_cons
    simp only [opArgs] at e1
    rw [h2.of_nil] at e1
    split at hc
    case h_2 => exact hc.elim
    rename_i t ht
    have ht' : argTypes = #[t] := by apply Array.ext'; simpa using ht
    have ea : args.map ρ = #[v] := by apply Array.ext'; simpa using e1
    subst ht'
    refine ⟨_, g, w, .inl ?_, .v _, hm, Mono.refl _ _, fun _ h => .inl h⟩
    have := len_sound (ty := ty) h1 hc
    simp [execOp, resolve, invoke, builtin, ea, this]
  -- append
  · rename_i args argTypes d d'
    obtain ⟨v, l, e1, h1, h2⟩ := hr.of_cons
    obtain ⟨v', l', e2, h3, h4⟩ := h2.of_cons
    simp only [opArgs] at e1
    rw [e2, h4.of_nil] at e1
    split at hc
    case h_2 => exact hc.elim
    rename_i t u ht
    have ht' : argTypes = #[t, u] := by apply Array.ext'; simpa using ht
    have ea : args.map ρ = #[v, v'] := by apply Array.ext'; simpa using e1
    subst ht'
    obtain ⟨x, g', w', k1, k2, k3, k4, k5⟩ := append_sound hm hb h1 h3 hc ty
    refine ⟨x, g', w', .inl ?_, k2, k3, k4, k5⟩
    simp [execOp, resolve, invoke, builtin, ea, k1]
  -- min
  · rename_i args argTypes
    simp only [opArgs] at hr
    obtain ⟨v, k1, k2⟩ := minI_sound (P := P) hr hc argTypes ty
    refine ⟨v, g, w, .inl ?_, k2, hm, Mono.refl _ _, fun _ h => .inl h⟩
    have ea : (args.toList.map ρ).toArray = args.map ρ := by apply Array.ext'; simp
    rw [ea] at k1
    simp [execOp, resolve, invoke, builtin, k1]
  -- max
  · rename_i args argTypes
    simp only [opArgs] at hr
    obtain ⟨v, k1, k2⟩ := maxI_sound (P := P) hr hc argTypes ty
    refine ⟨v, g, w, .inl ?_, k2, hm, Mono.refl _ _, fun _ h => .inl h⟩
    have ea : (args.toList.map ρ).toArray = args.map ρ := by apply Array.ext'; simp
    rw [ea] at k1
    simp [execOp, resolve, invoke, builtin, k1]
  · simp [isCall] at hcall
  · exact hc.elim

/-- pick -/
theorem pick_sound [Glob P] {h : H} {g : Mem} {w : World} (hm : HM P h g w) {b : Nat} {xs : List D} {o : Oper} {ρ : Operand → Value} (hr : Reps w g xs ((opArgs o.op).map ρ)) (hp : isPick o.op = true) {gd : Bool} (hg : gd = true) (hc : (pickD gd xs).2) :
    Does P g w b ((execOp ρ o).run P w) (pickD gd xs).1 h := by
  obtain ⟨dst, op, ty, pos, after, guard⟩ := o
  simp only at hr hp ⊢
  cases op <;> simp only [isPick] at hp <;> try (cases hp; done)
  rename_i c x y
  unfold pickD at hc ⊢
  split at hc
  case h_2 => exact hc.elim
  rename_i dc dx dy
  obtain ⟨q1, q2, q3⟩ := hc hg
  have r1 := hr.head
  have r2 := hr.tail.head
  have r3 := hr.tail.tail.head
  have strip : ∀ {d : D} {v : Value}, Rep w g d v → sg d = true ∧ isB (sd d) = true → v = .bool (bv (sd d)) := by
    intro d v hd ⟨hs, he⟩
    have key : ∀ {d : D}, Rep w g d v → isB d = true → v = .bool (bv d) := by
      intro d hd he
      cases hd with
      | v => cases v <;> first | rfl | cases he
      | _ => cases he
    cases hd with
    | cond b d x ht hf => exact key (ht hs) he
    | v => exact key (.v _) he
    | _ => cases he
  have s1 := strip r1 q1
  refine ⟨.bool (bif bv (sd dc) then bv (sd dx) else bv (sd dy)), g, w, .inl ?_, .v _, hm, Mono.refl _ _, fun _ h => .inl h⟩
  cases hcc : bv (sd dc) with
  | true => have s2 := strip r2 (q2 hcc); simp [execOp, s1, s2, asBool, hcc]
  | false => have s3 := strip r3 (q3 hcc); simp [execOp, s1, s3, asBool, hcc]
end Go.DL
