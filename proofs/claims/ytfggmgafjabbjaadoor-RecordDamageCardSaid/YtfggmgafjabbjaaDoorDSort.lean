/-
  THE D LAYER, 18: slices.SortFunc on a block that may be written (structs): the library's proved contract, told on plain data. Conditions: none.
-/
import Derived.Test.YtfggmgafjabbjaaDoorDRange
import Derived.Shelf.SlSortCmp.NoneTotal
namespace Go.DL
open Go.RowKit
variable {P : Program}

/-- sorted by 'not greater' -/
def SortedBy (cf : List D → List D → Int) (rows : List (List D)) : Prop := rows.Pairwise fun x y => ¬ cf y x < 0
/-- a strict weak order, on these -/
structure SwoOn (cf : List D → List D → Int) (rows : List (List D)) : Prop where
  irrefl : ∀ x ∈ rows, ¬ cf x x < 0
  trans : ∀ x ∈ rows, ∀ y ∈ rows, ∀ z ∈ rows, cf x y < 0 → cf y z < 0 → cf x z < 0
  ntrans : ∀ x ∈ rows, ∀ y ∈ rows, ∀ z ∈ rows, ¬ cf x y < 0 → ¬ cf y z < 0 → ¬ cf x z < 0

theorem sortWorld_heap (enc : Nat → List Value) (k : Nat) (w : World) (b m : Nat) (d : Array Nat) (os : Array Obj) (i : Nat) (hi : i < w.heap.size) (hb : i ≠ b) : (Go.Proofs.sortWorldK enc k w b 0 m d os).heap[i]? = w.heap[i]? := by
  unfold Go.Proofs.sortWorldK Go.Sort.putRowK Go.Sort.putRow Go.Sort.mapBlock Go.Sort.grow
  simp only [Go.Sort.ahead]
  rw [Array.getElem?_append_left (by simpa using hi), Array.getElem?_modify, if_neg (Ne.symm hb)]
theorem sortWorld_at (enc : Nat → List Value) (k : Nat) (w : World) (b m : Nat) (d : Array Nat) (os : Array Obj) {cur : Array Value} {ty : TypeId} (hb : w.heap[b]? = some (.cells cur ty (0, 0))) :
    (Go.Proofs.sortWorldK enc k w b 0 m d os).heap[b]? = some (.cells (Go.Sort.putCells id 0 (Go.Sort.flatK enc k d) cur) ty (0, 0)) := by
  have hi : b < w.heap.size := (Array.getElem?_eq_some_iff.1 hb).1
  unfold Go.Proofs.sortWorldK Go.Sort.putRowK Go.Sort.putRow Go.Sort.mapBlock Go.Sort.grow
  simp only [Go.Sort.ahead]
  rw [Array.getElem?_append_left (by simpa using hi), Array.getElem?_modify, if_pos rfl, hb]
  rfl
theorem sortWorld_size (enc : Nat → List Value) (k : Nat) (w : World) (b m : Nat) (d : Array Nat) (os : Array Obj) : (Go.Proofs.sortWorldK enc k w b 0 m d os).heap.size = w.heap.size + os.size := by
  unfold Go.Proofs.sortWorldK Go.Sort.putRowK Go.Sort.putRow Go.Sort.mapBlock Go.Sort.grow
  simp [Go.Sort.ahead]
theorem bel_grow {w w' : World} (h : Bel w w') : ∃ q os, w' = Go.Sort.grow (w.drewN q) os := by
  refine ⟨w'.drawn - w.drawn, w'.heap.extract w.heap.size w'.heap.size, ?_⟩
  obtain ⟨h1, h2, h3, h4, h5, h6⟩ := h
  have hh : w'.heap = w.heap ++ w'.heap.extract w.heap.size w'.heap.size := by
    apply Array.ext_getElem?
    intro i
    by_cases hi : i < w.heap.size
    · rw [Array.getElem?_append_left hi, h6 i hi]
    · rw [Array.getElem?_append_right (by omega), Array.getElem?_extract]
      by_cases hj : i < w'.heap.size
      · rw [if_pos (by omega)]
        congr 1
        omega
      · rw [if_neg (by omega), Array.getElem?_eq_none (by omega)]
  cases w'
  cases w
  simp only at h1 h2 h3 h5 hh
  simp only [Go.Sort.grow, World.drewN, World.mk.injEq]
  refine ⟨hh, h2, ?_, h1, h3⟩
  omega

theorem sort_rct [Glob P] {ρ : Go.Shelf.Ren} (L : Go.Proofs.SlLaysF0.n6 P ρ) {fS ty : Nat} (hfS : ρ.f 6 = fS) (hty : ρ.t 24 = ty) (aE : ∀ w, (isAgg ty).run P w = .ok true w) (zE : ∀ w, (Go.sizeOf ty).run P w = .ok (P.cellsOf ty) w)
    {r nf g : Nat} {rows : List (List D)} {h : H} {caps : List D} (cf : List D → List D → Int) (hbS : hasBody P fS = true) (hr : h r = some ⟨ty, rows⟩) (hnr : nrr rows = true) (hcn : caps.all D.nr = true) (hmax : rows.length < 4611686018427387904)
    (hcmp : ∀ x ∈ rows, ∀ y ∈ rows, PureCt P g ([.agg x, .agg y] ++ caps) (.i (cf x y))) (hO : SwoOn cf rows) :
    RCt P fS [.mrow r 0 rows.length, .fn (.func g) [] caps] h nf (fun d h' n' => d = .tuple [] ∧ n' = nf ∧ ∃ rows', rows'.Perm rows ∧ SortedBy cf rows' ∧ h' = upd h r (some ⟨ty, rows'⟩)) := by
  refine ⟨hbS, fun w gm vs hm hU hrs => ?_⟩
  obtain ⟨x, vs1, rfl, hx, h1⟩ := hrs.of_cons
  obtain ⟨f, vs2, rfl, hf, h2⟩ := h1.of_cons
  rw [h2.of_nil]
  cases hf with | fn _ _ _ fs cs l1 l2 r1 r2 =>
  have hfs : fs = #[] := Array.eq_empty_of_size_eq_zero (by simpa using l1.symm)
  subst hfs
  cases hx with | mrow _ _ _ _ _ hUr hv =>
  obtain ⟨blk, c, q1, q2, q3, q4, q5⟩ := hm.blk r _ hr
  obtain ⟨v1, v2⟩ := hv _ _ _ q1
  by_cases hne : rows = []
  · subst hne
    have hx' : ∃ p cap, x = .slice p 0 cap := by
      rcases v2 with ⟨_, a, rfl⟩ | ⟨_, b, _, rfl⟩
      · exact ⟨a, 0, rfl⟩
      · exact ⟨_, _, rfl⟩
    obtain ⟨p, cap, rfl⟩ := hx'
    have key := Go.Proofs.AnyF.slices_SortFunc_none L p cap (.func (.func g) #[] cs) w
    rw [hfS] at key
    refine callsIn_wide.2 (key.mono ?_)
    rintro e w' ⟨rfl, rfl⟩
    refine ⟨_, gm, _, h, nf, ⟨rfl, rfl, [], .refl _, .nil, ?_⟩, rfl, .mk_tuple (vs := #[]) .nil, hm, Mono.refl _ _, hU⟩
    funext i
    unfold upd
    split
    · rename_i e; subst e; exact hr
    · rfl
  · have hn0 : 0 < rows.length := List.length_pos_iff.2 hne
    rcases q5 with ⟨_, q5⟩ | ⟨b, cur, rfl, q6, q7, q8, q9⟩
    · simp only at q3; omega
    rcases v2 with ⟨e0, a, rfl⟩ | ⟨hc0, b', hb', rfl⟩
    · simp only at q3; omega
    cases hb'
    have hbw : b < w.heap.size := (Array.getElem?_eq_some_iff.1 q6).1
    generalize hk : P.cellsOf ty = k at *
    simp only at q3
    -- the values of a row, by its number
    let ix : Nat → Nat := fun i => if i < rows.length then i else 0
    have hix : ∀ i, ix i < rows.length := fun i => by simp only [ix]; split <;> assumption
    have hixs : ∀ i, i < rows.length → ix i = i := fun i hi => by simp only [ix]; rw [if_pos hi]
    let enc : Nat → List Value := fun i => (List.range k).map fun j => cur.getD (ix i * k + j) undef
    have hklen : ∀ i, (enc i).length = k := fun i => by simp [enc]
    have hrow : ∀ i, i < rows.length → (rows.getD i []).length = k ∧ ∀ (j : Nat) d, (rows.getD i [])[j]? = some d → (enc i)[j]? = some (cur.getD (i * k + j) undef) ∧ cur[i * k + j]? = some (cur.getD (i * k + j) undef) ∧ (cur.getD (i * k + j) undef).oneCell' = true ∧ Rep w gm d (cur.getD (i * k + j) undef) := by
      intro i hi
      have e1 : rows[i]? = some (rows.getD i []) := by simp [List.getD, hi]
      obtain ⟨p1, p2⟩ := q9 i _ e1
      simp only [hk] at p1 p2
      refine ⟨p1, fun j d hd => ?_⟩
      obtain ⟨u, u1, u2, u3⟩ := p2 j d hd
      have e2 : cur.getD (i * k + j) undef = u := by simp [Array.getD_eq_getD_getElem?, u1]
      have hj : j < k := by rw [← p1]; exact (List.getElem?_eq_some_iff.1 hd).1
      rw [e2]
      refine ⟨by simp [enc, hj, hixs i hi]; rw [← e2]; simp [Array.getD_eq_getD_getElem?], u1, u2, u3⟩
    have hencI : ∀ i, enc i = enc (ix i) := fun i => by simp only [enc]; rw [hixs (ix i) (hix i)]
    have hone : ∀ i, ∀ v ∈ enc i, v.oneCell' = true := by
      intro i v hv
      rw [hencI] at hv
      obtain ⟨j, hj⟩ := List.getElem?_of_mem hv
      have hjk : j < k := by rw [← hklen (ix i)]; exact (List.getElem?_eq_some_iff.1 hj).1
      obtain ⟨p1, p2⟩ := hrow (ix i) (hix i)
      have hd : (rows.getD (ix i) [])[j]? = some ((rows.getD (ix i) [])[j]'(by omega)) := by simp
      obtain ⟨u1, _, u2, _⟩ := p2 j _ hd
      rw [u1] at hj
      cases hj
      exact u2
    let rw' : Nat → List D := fun i => rows.getD (ix i) []
    have hmem : ∀ i, rw' i ∈ rows := fun i => by
      have : rw' i = rows[ix i]'(hix i) := by simp [rw', List.getD, hix i]
      rw [this]; exact List.getElem_mem _
    let cn : Nat → Nat → Int := fun i j => cf (rw' i) (rw' j)
    have hswo : Go.Sort.SWO (Go.Proofs.ltOf cn) := by
      refine ⟨fun x => ?_, fun x y z p1 p2 => ?_, fun x y z p1 p2 => ?_⟩
      · simp only [Go.Proofs.ltOf, cn, decide_eq_false_iff_not]; exact hO.irrefl _ (hmem x)
      · simp only [Go.Proofs.ltOf, cn, decide_eq_true_eq] at *; exact hO.trans _ (hmem x) _ (hmem y) _ (hmem z) p1 p2
      · simp only [Go.Proofs.ltOf, cn, decide_eq_false_iff_not] at *; exact hO.ntrans _ (hmem x) _ (hmem y) _ (hmem z) p1 p2
    let d : Array Nat := Array.range rows.length
    have hds : d.size = rows.length := by simp [d]
    have hdg : ∀ i, i < rows.length → d[i]! = i := fun i hi => by simp [d, hi]
    have hmodlt : ∀ t, t < rows.length * k → t / k < rows.length ∧ t % k < k := fun t ht => ⟨Nat.div_lt_of_lt_mul (by rw [Nat.mul_comm]; exact ht), Nat.mod_lt _ q2⟩
    have hget : ∀ i j, i < rows.length → j < k → (enc i)[j]! = cur.getD (i * k + j) undef := by
      intro i j hi hj
      obtain ⟨p1, p2⟩ := hrow i hi
      have hd : (rows.getD i [])[j]? = some ((rows.getD i [])[j]'(by omega)) := by simp
      rw [List.getElem!_eq_getElem?_getD, (p2 j _ hd).1]; rfl
    have hH : Go.Sort.HoldsK enc k w b 0 d := by
      intro t ht
      simp only [Go.Sort.size_flatK, hds] at ht
      rw [Go.Sort.get_flatK _ _ _ _ (by rw [hds]; exact ht)]
      obtain ⟨t1, t2⟩ := hmodlt t ht
      rw [hdg _ t1, hget _ _ t1 t2]
      have e : t / k * k + t % k = t := by rw [Nat.mul_comm]; exact Nat.div_add_mod t k
      rw [e, Nat.zero_add]
      have hlt : t < cur.size := by rw [q7]; exact Nat.lt_of_lt_of_le ht (Nat.mul_le_mul_right k q3)
      refine ⟨?_, ?_⟩
      · simp [World.cell?, q6, hlt, id, Array.getD_eq_getD_getElem?]
      · simp [World.frozen?, q6]
    have hcl : Go.Proofs.CmpLays P g cs enc k cn b 0 d.size w := by
      intro m os dk hdk x y
      obtain ⟨hbd, _, hct⟩ := hcmp _ (hmem x) _ (hmem y)
      have hW := sortWorld_size enc k w b m dk os
      have hI : ∀ b', gm.I b' → b' < (Go.Proofs.sortWorldK enc k w b 0 m dk os).heap.size := fun b' hb' => by rw [hW]; have := hm.imm b' hb'; omega
      have hrep : ∀ {d : D} {v : Value}, d.nr = true → Rep w gm d v → Rep (Go.Proofs.sortWorldK enc k w b 0 m dk os) (noM gm.I) d v := by
        intro d v hd hv
        have h1 := Rep.clean (g' := noM gm.I) hv hd (fun b hb => hb)
        refine Rep.mono (g := noM gm.I) (g' := noM gm.I) (fun b' hb' => ⟨hb', ?_⟩) (fun _ h => h) (fun _ h => .inl rfl) h1
        exact sortWorld_heap enc k w b m dk os b' (hm.imm b' hb') (fun e => q8 (e ▸ hb'))
      have hagg : ∀ i, Rep (Go.Proofs.sortWorldK enc k w b 0 m dk os) (noM gm.I) (.agg (rw' i)) (.agg (enc i).toArray) := by
        intro i
        rw [hencI i]
        obtain ⟨p1, p2⟩ := hrow (ix i) (hix i)
        refine .mk_agg ⟨by rw [p1, hklen], fun j d v e1 e2 => ?_⟩
        obtain ⟨u1, _, _, u4⟩ := p2 j d e1
        rw [u1] at e2
        cases e2
        exact hrep (nrs_mem (nrr_mem hnr (hmem i)) (List.mem_of_getElem? e1)) u4
      have hargs : Reps (Go.Proofs.sortWorldK enc k w b 0 m dk os) (noM gm.I) ([.agg (rw' x), .agg (rw' y)] ++ caps) ([.agg (enc x).toArray, .agg (enc y).toArray] ++ cs.toList) := by
        refine Reps.append (.cons (hagg x) (.cons (hagg y) .nil)) ⟨by simpa using l2, fun i d v e1 e2 => ?_⟩
        exact hrep (List.all_eq_true.1 hcn d (List.mem_of_getElem? e1)) (r2 i d v e1 (by simpa using e2))
      have := callsIn_wide.1 (hct _ gm.I _ hI (hm.gr.later fun b' hb' => ⟨hb', sortWorld_heap enc k w b m dk os b' (hm.imm b' hb') (fun e => q8 (e ▸ hb'))⟩) hargs)
      have ea : ([.agg (enc x).toArray, .agg (enc y).toArray] ++ cs.toList : List Value).toArray = #[.agg (enc x).toArray, .agg (enc y).toArray] ++ cs := by apply Array.ext'; simp
      rw [ea] at this
      refine this.mono ?_
      rintro e w' ⟨v, rfl, hb, hv⟩
      refine ⟨?_, bel_grow hb⟩
      rw [hv.v_inv]
    have key := Go.Proofs.AnyQ.slices_SortFunc L k (by rw [hty]; exact aE) (by rw [hty]; exact zE) enc hklen hone cn hswo g cs b 0 c d w (fun args w => callFunc_run (hcmp _ (hmem 0) _ (hmem 0)).1 args w) hcl hH hbw (by rw [hds]; exact hmax)
    rw [hfS, hds] at key
    have ev : (Value.slice (some ⟨b, 0 * k, Option.none⟩) rows.length (c - 0)) = Value.slice (some ⟨b, 0, Option.none⟩) rows.length c := by simp
    rw [ev]
    refine callsIn_wide.2 (key.mono ?_)
    rintro e w' ⟨rfl, d', n', os, hperm, hsort, rfl⟩
    obtain ⟨hsz, _, hpm⟩ := hperm
    rw [hds] at hsz
    have hex : ∀ a : Array Nat, a.size = rows.length → a.extract 0 rows.length = a := fun a ha => by rw [← ha]; exact Array.extract_size
    rw [hex d' hsz, hex d hds] at hpm
    have hlt' : ∀ i, i < rows.length → d'[i]! < rows.length := by
      intro i hi
      have h1 : d'[i]! ∈ d'.toList := by
        rw [getElem!_pos d' i (by omega)]
        simp
      have := hpm.mem_iff.1 h1
      simpa [d] using this
    let rows' : List (List D) := d'.toList.map rw'
    have hrows : d.toList.map rw' = rows := by
      apply List.ext_getElem?
      intro i
      by_cases hi : i < rows.length
      · simp [d, hi, rw', hixs i hi, List.getD]
      · simp [d, hi]
    have hP : rows'.Perm rows := by rw [← hrows]; exact hpm.map rw'
    have hS : SortedBy cf rows' := by
      unfold SortedBy
      rw [List.pairwise_iff_getElem]
      intro i j hi hj hij
      have hj' : j < rows.length := by simpa [rows', hsz] using hj
      have := hsort i j (Nat.zero_le _) hij hj'
      simp only [Go.Proofs.ltOf, cn, decide_eq_false_iff_not] at this
      rw [getElem!_pos d' i (by omega), getElem!_pos d' j (by omega)] at this
      simpa [rows'] using this
    have hl' : rows'.length = rows.length := by simp [rows', hsz]
    have hput := hm.put (h' := upd h r (some ⟨ty, rows'⟩)) (w' := Go.Proofs.sortWorldK enc k w b 0 n' d' os) r b c ⟨ty, rows'⟩ (Go.Sort.putCells id 0 (Go.Sort.flatK enc k d') cur)
      (.inr (by simp only [hk]; exact q1)) (upd_same _ _ _) (fun r' hr' => .inl (upd_ne _ _ _ _ hr')) (.inr ⟨r, c, _, q1, .inl rfl⟩) (sortWorld_at enc k w b n' d' os q6) (by simp [Go.Sort.putCells, q7, hk]) (by simp only [hk]; exact q2)
      (by simp only [hl']; exact q3) q4 (by
        intro i row hi
        have hil : i < rows.length := by rw [← hl']; exact (List.getElem?_eq_some_iff.1 hi).1
        have e1 : row = rows.getD (d'[i]!) [] := by
          simp only [rows', List.getElem?_map] at hi
          rw [getElem!_pos d' i (by omega)]
          have : d'.toList[i]? = some d'[i] := by simp
          rw [this] at hi
          simp only [Option.map_some, Option.some.injEq] at hi
          rw [← hi]
          simp only [rw']
          rw [hixs _ (by have := hlt' i hil; rwa [getElem!_pos d' i (by omega)] at this)]
        obtain ⟨p1, p2⟩ := hrow _ (hlt' i hil)
        rw [← e1] at p1 p2
        simp only [hk]
        refine ⟨p1, fun j dd hd => ?_⟩
        have hjk : j < k := by rw [← p1]; exact (List.getElem?_eq_some_iff.1 hd).1
        obtain ⟨u1, u2, u3, u4⟩ := p2 j dd hd
        have hbound : i * k + j < rows.length * k := by
          have := Nat.mul_le_mul_right k (show i + 1 ≤ rows.length from hil)
          rw [Nat.add_mul, Nat.one_mul] at this; omega
        have hcs : i * k + j < cur.size := by rw [q7]; exact Nat.lt_of_lt_of_le hbound (Nat.mul_le_mul_right k q3)
        refine ⟨_, ?_, u3, u4⟩
        have hdiv : (i * k + j) / k = i := by rw [Nat.mul_comm, Nat.mul_add_div q2, Nat.div_eq_of_lt hjk]; rfl
        have hmod : (i * k + j) % k = j := by rw [Nat.mul_comm, Nat.mul_add_mod, Nat.mod_eq_of_lt hjk]
        simp only [Go.Sort.putCells, Array.getElem?_mapIdx, Array.getElem?_eq_getElem hcs, Option.map_some]
        rw [if_pos ⟨Nat.zero_le _, by simp only [Go.Sort.size_flatK, hsz]; omega⟩, Nat.sub_zero, Go.Sort.get_flatK _ _ _ _ (by rw [hsz]; exact hbound), hdiv, hmod, hget _ _ (hlt' i hil) hjk]
        rfl)
      ⟨rfl, rfl, rfl, by rw [sortWorld_size]; omega, fun i hi hne => sortWorld_heap enc k w b n' d' os i hi (fun e => hne (by rw [e]))⟩ (by unfold Go.Proofs.sortWorldK Go.Sort.putRowK Go.Sort.putRow Go.Sort.mapBlock Go.Sort.grow Go.Sort.ahead; exact Nat.le_add_right _ _)
    obtain ⟨g', g1, g2, g3, g4, g5⟩ := hput
    exact ⟨_, g', _, _, nf, ⟨rfl, rfl, rows', hP, hS, rfl⟩, rfl, .mk_tuple (vs := #[]) .nil, g4, g5, fun r' hr' => by
      rcases (g2 r').1 hr' with h | h
      · exact hU _ h
      · subst h; exact hU _ hUr⟩
end Go.DL
