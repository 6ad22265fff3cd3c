/-
  THE D LAYER, 19: from a contract on plain data to a given row: what arguments read as; a law that answers true. Conditions: none.
-/
import Derived.Test.YtfggmgafjabbjaaDoorDRange
import Derived.Carry
import Derived.RowKit
import Derived.ChangeSame
import Derived.OpenShut
namespace Go.DL
open Go.RowKit Go.ChangeShapes Go.WideShapes
variable {P : Program}

/-! ### data of a type -/
def ShSt (Q : TypeId → List D → Prop) : List Field → List D → Prop
  | [], ds => ds = []
  | f :: fs, ds => ∃ a b, ds = a ++ b ∧ Q f.type a ∧ ShSt Q fs b
def Sh (P : Program) [Glob P] : Nat → TypeId → List D → Prop
  | 0, _, _ => False
  | k + 1, t, ds => match P.underlying t with
    | some .bool => ∃ b, ds = [.v (.bool b)]
    | some (.int q) => ∃ n, ds = [.v (.int q n)] ∧ (Lit.int q n).wf = true
    | some .string => ∃ s, ds = [.v (.string s)] ∧ s.size ≤ maxLen
    | some (.slice e) => ∃ rows, ds = [.list false rows] ∧ ∀ r ∈ rows, Sh P k e r
    | some (.struct fs) => ShSt (Sh P k) fs.toList ds
    | _ => False
def shB (P : Program) [Glob P] : Nat → TypeId → Bool
  | 0, _ => false
  | k + 1, t => match P.underlying t with
    | some .bool | some (.int _) | some .string => true
    | some (.slice e) => decide (0 < P.cellsOf e) && decide (e < P.types.size) && shB P k e
    | some (.struct fs) => fs.toList.all fun f => decide (f.type < P.types.size) && shB P k f.type
    | _ => false
/-- cells that stand for data -/
def RepC (w : World) (g : Mem) (ds : List D) (cs : List Value) : Prop := Reps w g ds cs ∧ ∀ v ∈ cs, v.oneCell' = true
theorem RepC.nil {w : World} {g : Mem} : RepC w g [] [] := ⟨.nil, fun v h => by cases h⟩
theorem RepC.one {w : World} {g : Mem} {d : D} {v : Value} (h : Rep w g d v) (h1 : v.oneCell' = true) : RepC w g [d] [v] :=
  ⟨.cons h .nil, fun u hu => by rw [List.mem_singleton] at hu; subst hu; exact h1⟩
theorem RepC.append {w : World} {g : Mem} {ds es : List D} {cs us : List Value} (h : RepC w g ds cs) (k : RepC w g es us) : RepC w g (ds ++ es) (cs ++ us) :=
  ⟨h.1.append k.1, fun v hv => (List.mem_append.1 hv).elim (h.2 v) (k.2 v)⟩
theorem cells_block {w : World} {a : Addr} {v : Value} (h : w.cell? a = some v) : a.block < w.heap.size := by
  unfold World.cell? at h
  split at h
  · rename_i c _ _ hb; exact (Array.getElem?_eq_some_iff.1 hb).1
  · cases h
theorem cells_get {w : World} {base : Nat} {a : Addr} {n : Nat} {cs : List Value} (h : w.cells? base a n = some cs) : cs.length = n ∧ ∀ j, j < n → w.cell? (a.add j) = cs[j]? := by
  unfold World.cells? at h
  split at h
  · have key : ∀ (l : List Nat) (cs : List Value), l.mapM (fun i => w.cell? (a.add i)) = some cs → cs.length = l.length ∧ ∀ (j i : Nat), l[j]? = some i → w.cell? (a.add i) = cs[j]? := by
      intro l
      induction l with
      | nil => intro cs h; simp at h; subst h; exact ⟨rfl, fun j i h => by simp at h⟩
      | cons i l ih =>
        intro cs h
        rw [List.mapM_cons] at h
        cases hc : w.cell? (a.add i) with
        | none => rw [hc] at h; simp at h
        | some v =>
          rw [hc] at h
          simp only [Option.bind_eq_bind, Option.bind_some] at h
          cases hr : l.mapM (fun i => w.cell? (a.add i)) with
          | none => rw [hr] at h; simp at h
          | some r =>
            rw [hr] at h
            simp at h
            subst h
            obtain ⟨h1, h2⟩ := ih r hr
            refine ⟨by simp [h1], fun j i' hj => ?_⟩
            cases j with
            | zero => simp at hj; subst hj; simpa using hc
            | succ j => simp at hj; simpa using h2 j i' hj
    obtain ⟨h1, h2⟩ := key _ _ h
    exact ⟨by simpa using h1, fun j hj => h2 j j (by simp [hj])⟩
  · cases h
theorem take_drop_append {α : Type} (l : List α) (m n : Nat) : (l.drop m).take n ++ (l.drop (m + n)) = l.drop m := by
  rw [← List.drop_drop]; exact List.take_append_drop n (l.drop m)

/-- WHAT IS READ STANDS FOR DATA OF ITS TYPE. -/
theorem reads [Glob P] {H : Type} {enc : TypeId × Value → H} {w : World} {base : Nat} {spare : Nat → Bool} {held : Bool} (hl : laidOutB P = true) :
    ∀ (k : Nat) (t : TypeId) (cs : List Value) (fuel : Nat) (x : DataW H × List MemPlace), t < P.types.size → shB P k t = true → DataW.trod enc P w base spare held fuel t cs = some x →
      ∃ ds, Sh P k t ds ∧ RepC w (noM fun b => b < w.heap.size) ds cs := by
  intro k
  induction k with
  | zero => intro t cs fuel x _ h; cases h
  | succ k ih =>
    intro t cs fuel x htl hs hr
    unfold shB at hs
    unfold Sh
    split at hs
    · rename_i hu
      obtain ⟨b, rfl, _⟩ := DataW.trod_bool hu hr
      exact ⟨_, ⟨b, rfl⟩, .one (.v _) rfl⟩
    · rename_i q hu
      obtain ⟨n, rfl, _, hw⟩ := DataW.trod_int hu hr
      exact ⟨_, ⟨n, rfl, hw⟩, .one (.v _) rfl⟩
    · rename_i hu
      obtain ⟨s, rfl, _, hw⟩ := DataW.trod_string hu hr
      exact ⟨_, ⟨s, rfl, hw⟩, .one (.v _) rfl⟩
    · rename_i e hu
      simp only [Bool.and_eq_true, decide_eq_true_eq] at hs
      obtain ⟨⟨hpos, hel⟩, hs⟩ := hs
      rcases DataW.trod_slice hu hr with ⟨rfl, _⟩ | ⟨a, len, cap, elems, rest, n, _, rfl, _, _, hlc, hcm, hlen, hrd, _, _⟩
      · exact ⟨_, ⟨[], rfl, fun r h => by cases h⟩, .one (.empty false none 0 (fun h => by cases h) (by simp [maxLen])) rfl⟩
      · -- each element
        have hrow : ∀ i, i < len → ∃ ds, Sh P k e ds ∧ ds.length = P.cellsOf e ∧ ∀ (j : Nat) d, ds[j]? = some d → ∃ v, w.cell? (a.add (i * P.cellsOf e + j)) = some v ∧ v.oneCell' = true ∧ Rep w (noM fun b => b < w.heap.size) d v := by
          intro i hi
          have h1 := hrd i hi
          have h2 : elems[i]? = some (elems[i]'(by omega)) := List.getElem?_eq_getElem _
          rw [h2] at h1
          rw [Option.bind_eq_some_iff] at h1
          obtain ⟨cs', hc, ht⟩ := h1
          obtain ⟨hcl, hcg⟩ := cells_get hc
          obtain ⟨ds, hsh, ⟨hrl, hrr⟩, ho⟩ := ih e cs' n _ hel hs ht
          refine ⟨ds, hsh, by rw [hrl, hcl], fun j d hd => ?_⟩
          have hj : j < cs'.length := by rw [← hrl]; exact (List.getElem?_eq_some_iff.1 hd).1
          have hcj := hcg j (by omega)
          rw [add_add'] at hcj
          have hg : cs'[j]? = some (cs'[j]'hj) := List.getElem?_eq_getElem _
          exact ⟨cs'[j]'hj, by rw [hcj, hg], ho _ (List.getElem_mem _), hrr j d _ hd hg⟩
        have hch : ∃ rows : List (List D), rows.length = len ∧ ∀ i r, rows[i]? = some r → Sh P k e r ∧ r.length = P.cellsOf e ∧ ∀ (j : Nat) d, r[j]? = some d → ∃ v, w.cell? (a.add (i * P.cellsOf e + j)) = some v ∧ v.oneCell' = true ∧ Rep w (noM fun b => b < w.heap.size) d v := by
          refine ⟨(List.range len).map fun i => if h : i < len then Classical.choose (hrow i h) else [], by simp, fun i r hr => ?_⟩
          rw [List.getElem?_map] at hr
          by_cases hi : i < len
          · rw [List.getElem?_range hi] at hr
            simp only [Option.map_some, Option.some.injEq] at hr
            rw [dif_pos hi] at hr
            subst hr
            exact Classical.choose_spec (hrow i hi)
          · rw [List.getElem?_eq_none (by simpa using hi)] at hr; cases hr
        obtain ⟨rows, hrl, hrr⟩ := hch
        refine ⟨_, ⟨rows, rfl, fun r h => by obtain ⟨i, hi⟩ := List.getElem?_of_mem h; exact (hrr i r hi).1⟩, .one ?_ rfl⟩
        cases hz : len with
        | zero =>
          subst hz
          have : rows = [] := List.eq_nil_of_length_eq_zero hrl
          subst this
          exact .empty false _ _ (fun h => by cases h) hcm
        | succ m =>
          rw [← hz, ← hrl]
          have hcv : ∀ i j, ∃ u, ∀ row d, rows[i]? = some row → row[j]? = some d → w.cell? (a.add (i * P.cellsOf e + j)) = some u ∧ u.oneCell' = true ∧ Rep w (noM fun b => b < w.heap.size) d u := by
            intro i j
            by_cases hh : ∃ row d, rows[i]? = some row ∧ row[j]? = some d
            · obtain ⟨row, d, q1, q2⟩ := hh
              obtain ⟨u, q3⟩ := (hrr i row q1).2.2 j d q2
              refine ⟨u, fun row' d' q1' q2' => ?_⟩
              rw [q1] at q1'; cases q1'
              rw [q2] at q2'; cases q2'
              exact q3
            · exact ⟨undef, fun row d q1 q2 => absurd ⟨row, d, q1, q2⟩ hh⟩
          have hcs : ∀ i j row d, rows[i]? = some row → row[j]? = some d → w.cell? (a.add (i * P.cellsOf e + j)) = some (Classical.choose (hcv i j)) ∧ (Classical.choose (hcv i j)).oneCell' = true ∧ Rep w (noM fun b => b < w.heap.size) d (Classical.choose (hcv i j)) := fun i j row d h1 h2 => Classical.choose_spec (hcv i j) row d h1 h2
          refine .list false rows a cap (P.cellsOf e) (fun i j => Classical.choose (hcv i j)) ?_ (by omega) (fun h => by cases h) hcm (fun r hr => ?_) (fun i j r d h1 h2 => ⟨(hcs i j r d h1 h2).1, (hcs i j r d h1 h2).2.1⟩) fun i j r d h1 h2 => (hcs i j r d h1 h2).2.2
          · show a.block < w.heap.size
            have h0 : rows[0]? = some (rows[0]'(by omega)) := List.getElem?_eq_getElem _
            obtain ⟨_, q2, q3⟩ := hrr 0 _ h0
            have h1 : (rows[0]'(by omega))[0]? = some ((rows[0]'(by omega))[0]'(by omega)) := List.getElem?_eq_getElem _
            obtain ⟨v, hv, _⟩ := q3 0 _ h1
            have := cells_block hv
            rwa [block_add] at this
          · obtain ⟨i, hi⟩ := List.getElem?_of_mem hr
            exact (hrr i r hi).2.1
    · rename_i fs hu
      obtain ⟨xs, n, _, _, hcl, hxl, hf⟩ := DataW.trod_struct hu hr
      obtain ⟨_, hsum, hoff⟩ := kid_struct hl htl hu
      simp only [List.all_eq_true, Bool.and_eq_true, decide_eq_true_eq] at hs
      have key : ∀ (fl : List Field) (i off : Nat), fs.toList.drop i = fl → off = ((fs.toList.take i).map fun f => P.cellsOf f.type).sum → ∃ ds, ShSt (Sh P k) fl ds ∧ RepC w (noM fun b => b < w.heap.size) ds (cs.drop off) := by
        intro fl
        induction fl with
        | nil =>
          intro i off hd ho
          have hil : fs.toList.length ≤ i := by
            have := congrArg List.length hd
            simp only [List.length_drop, List.length_nil] at this; omega
          have : off = cs.length := by rw [hcl, hsum, ho, List.take_of_length_le hil]
          rw [this, List.drop_length]
          exact ⟨[], rfl, .nil⟩
        | cons f fl ihf =>
          intro i off hd ho
          have hil : i < fs.toList.length := by
            have := congrArg List.length hd
            simp only [List.length_drop, List.length_cons] at this; omega
          have hfi : fs.toList[i]? = some f := by
            have : (fs.toList.drop i)[0]? = some f := by rw [hd]; rfl
            simpa using this
          have hofs := hoff i f hfi
          have hxi : xs[i]? = some (xs[i]'(by rw [hxl]; simpa using hil)) := List.getElem?_eq_getElem _
          have hrd := hf i f (by simpa using hfi)
          rw [hxi, hofs, ← ho] at hrd
          have hmem := List.mem_of_getElem? hfi
          obtain ⟨ds1, h1, h2⟩ := ih f.type _ n _ (hs f hmem).1 (hs f hmem).2 hrd
          have htk : fs.toList.take (i + 1) = fs.toList.take i ++ [f] := by rw [List.take_add_one, hfi]; rfl
          obtain ⟨ds2, h3, h4⟩ := ihf (i + 1) (off + P.cellsOf f.type) (by rw [← List.drop_drop, hd]; rfl) (by rw [htk, List.map_append, List.sum_append, ← ho]; simp)
          refine ⟨ds1 ++ ds2, ⟨ds1, ds2, rfl, h1, h3⟩, ?_⟩
          rw [← take_drop_append cs off (P.cellsOf f.type)]
          exact h2.append h4
      obtain ⟨ds, h1, h2⟩ := key fs.toList 0 0 rfl (by simp)
      exact ⟨ds, h1, by simpa using h2⟩
    · cases hs

/-! ### arguments -/
def shFuel : Nat := 12
def ShV (P : Program) [Glob P] (t : TypeId) (x : D) : Prop := match P.underlying t with
  | some (.struct _) => ∃ cs, x = .agg cs ∧ Sh P shFuel t cs
  | _ => Sh P shFuel t [x]
def ShArgs (P : Program) [Glob P] : List TypeId → List D → Prop
  | [], xs => xs = []
  | t :: ts, xs => ∃ x ys, xs = x :: ys ∧ ShV P t x ∧ ShArgs P ts ys
theorem readV [Glob P] {H : Type} {enc : TypeId × Value → H} {w : World} {spare : Nat → Bool} {held : Bool} {b0 : Nat} {t : TypeId} {v : Value} {d : DataW H} {ps : List MemPlace} (hl : laidOutB P = true) (htl : t < P.types.size) (hs : shB P shFuel t = true) (hv : Value.okWide P w .any b0 t v) (h : DataW.Trod enc P w 0 spare held t v d ps) :
    ∃ x, ShV P t x ∧ Rep w (noM fun b => b < w.heap.size) x v := by
  obtain ⟨fuel, h⟩ := h
  obtain ⟨ds, h1, h2⟩ := reads hl shFuel t v.cells.toList fuel _ htl hs h
  have one : v.cells = #[v] → ShV P t (ds.headD .junk) ∧ Rep w (noM fun b => b < w.heap.size) (ds.headD .junk) v ∨ (∃ fs, P.underlying t = some (.struct fs)) := by
    intro hc
    rw [hc] at h2
    have hlen : ds.length = 1 := h2.1.1
    match ds, hlen with
    | [x], _ =>
      by_cases hst : ∃ fs, P.underlying t = some (.struct fs)
      · exact .inr hst
      · refine .inl ⟨?_, h2.1.head⟩
        unfold ShV
        split
        · rename_i fs hu; exact absurd ⟨fs, hu⟩ hst
        · exact h1
  unfold shFuel shB at hs
  split at hs
  · rename_i hu
    obtain ⟨b, rfl⟩ := okWide_bool hu hv
    rcases one rfl with h | ⟨fs, h⟩
    · exact ⟨_, h⟩
    · rw [hu] at h; cases h
  · rename_i q hu
    obtain ⟨n, rfl⟩ := okWide_int hu hv
    rcases one rfl with h | ⟨fs, h⟩
    · exact ⟨_, h⟩
    · rw [hu] at h; cases h
  · rename_i hu
    obtain ⟨s, rfl⟩ := okWide_string hu hv
    rcases one rfl with h | ⟨fs, h⟩
    · exact ⟨_, h⟩
    · rw [hu] at h; cases h
  · rename_i e hu
    obtain ⟨a, len, cap, rfl⟩ := okWide_slice hu hv
    rcases one rfl with h | ⟨fs, h⟩
    · exact ⟨_, h⟩
    · rw [hu] at h; cases h
  · rename_i fs hu
    obtain ⟨cs, rfl, _⟩ := okWide_struct hu hv
    refine ⟨.agg ds, ?_, .mk_agg ?_⟩
    · unfold ShV; rw [hu]; exact ⟨ds, rfl, h1⟩
    · have : (Value.agg cs).cells = cs := rfl
      rw [this] at h2
      exact h2.1
  · cases hs
theorem readAll [Glob P] {H : Type} {enc : TypeId × Value → H} {w : World} {spare : Nat → Bool} {held : Bool} {b0 : Nat} (hl : laidOutB P = true) : ∀ (ts : List TypeId) (vs : List Value) (ds : List (DataW H)) (ps : List MemPlace), (∀ t ∈ ts, t < P.types.size ∧ shB P shFuel t = true) →
    (∀ (j : Nat) t v, ts[j]? = some t → vs[j]? = some v → Value.okWide P w .any b0 t v) → DataW.TrodAll enc P w 0 spare held ts vs ds ps → ∃ xs, ShArgs P ts xs ∧ Reps w (noM fun b => b < w.heap.size) xs vs
  | [], [], [], _, _, _, _ => ⟨[], rfl, .nil⟩
  | t :: ts, v :: vs, d :: ds, ps, ht, hv, ⟨p, q, h1, h2, _⟩ => by
    obtain ⟨x, hx1, hx2⟩ := readV hl (ht t (by simp)).1 (ht t (by simp)).2 (hv 0 t v rfl rfl) h1
    obtain ⟨xs, hy1, hy2⟩ := readAll hl ts vs ds q (fun t' h => ht t' (by simp [h])) (fun j t' v' e1 e2 => hv (j + 1) t' v' (by simpa using e1) (by simpa using e2)) h2
    exact ⟨x :: xs, ⟨x, xs, rfl, hx1, hy1⟩, .cons hx2 hy2⟩

/-! ### behind the call -/
theorem bel_kept {W W' : World} (hb : Bel W W') (may : MemPlace → Prop) : W.keptBut W' may := by
  refine ⟨hb.os, hb.output, fun i hi => ?_⟩
  rw [hb.block i hi]
  cases h : W.heap[i]? with
  | none => trivial
  | some o =>
    cases o <;> first
      | exact ⟨rfl, rfl, rfl, fun _ _ => rfl⟩
      | exact .inr ⟨rfl, rfl⟩
      | rfl
theorem trodAll_stays [Glob P] {H : Type} {enc : TypeId × Value → H} {W W' : World} (hl : laidOutB P = true) (hb : Bel W W') : ∀ (ts : List TypeId) (vs : List Value) (ds : List (DataW H)) (ps : List MemPlace), (∀ t ∈ ts, P.readableRec t = true ∧ t < P.types.size) →
    DataW.TrodAll enc P W 0 (fun _ => true) true ts vs ds ps → (∀ x ∈ ps, x.block < W.heap.size) → ∀ sp : Nat → Bool, (∀ x ∈ ps, sp x.block = true) → DataW.TrodAll enc P W' 0 sp true ts vs ds ps
  | [], [], [], _, _, h, _, _, _ => h
  | t :: ts, v :: vs, d :: ds, ps, ht, ⟨p, q, h1, h2, e⟩, hlt, sp, hsp => by
    subst e
    have hbe : Below W.heap.size W W' := ⟨hb.os, hb.tape, hb.output, hb.size, hb.block⟩
    exact ⟨p, q, WideElems.Trod_stays hl (ht t (by simp)).1 (ht t (by simp)).2 h1 (fun x hx => hbe.same (hlt x (List.mem_append_left _ hx))) (fun x hx => hsp x (List.mem_append_left _ hx)),
      trodAll_stays hl hb ts vs ds q (fun t' h => ht t' (by simp [h])) h2 (fun x hx => hlt x (List.mem_append_right _ hx)) sp (fun x hx => hsp x (List.mem_append_right _ hx)), rfl⟩
/-- A LAW THAT ANSWERS TRUE, and leaves memory alone. -/
theorem law_contract_g [Glob P] {H : Type} {enc : TypeId × Value → H} {f : FuncId} {fn : Func} {s : ChangeSpec} {tb : TypeId} {apart fresh handsOn again : Bool} (hl : laidOutB P = true) (hvars : s.vars = []) (hrt : fn.resultTypes = #[tb]) (hbool : P.underlying tb = some .bool)
    (hpar : (fn.params.toList.all fun t => P.readableRec t && decide (t < P.types.size) && shB P shFuel t) = true)
    (hfn : ∀ ds : List (DataW H), ds.length = fn.params.toList.length → s.fn H ds = { results := [.lit (.bool true)], args := ds })
    (hct : ∀ xs : List D, ShArgs P fn.params.toList xs → PureCt P f xs (.b true)) :
    ∀ (W : World) (base : Nat) (args : Array Value) (ds gs : List (DataW H)) (before : List MemPlace), Gr P (fun b => b < W.heap.size) W → (∀ (j : Nat) t v, fn.params[j]? = some t → args[j]? = some v → Value.okWide P W .any base t v) →
      DataW.Whole enc P fn.params.toList s.vars apart W args.toList ds gs before →
      Calls P f args W fun e W' => ∃ v, e = .returned v ∧ s.post enc P fn apart fresh handsOn again W args v W' := by
  intro W base args ds gs before hgr hval hW
  simp only [List.all_eq_true, Bool.and_eq_true, decide_eq_true_eq] at hpar
  have hW' := hW
  obtain ⟨p, q, hA, hV, hpq, hfz, hnd⟩ := hW
  rw [hvars] at hV
  obtain ⟨rfl, rfl⟩ : gs = [] ∧ q = [] := by
    cases gs with
    | nil => exact ⟨rfl, hV⟩
    | cons g gs => exact False.elim hV
  rw [List.append_nil] at hpq
  obtain ⟨xs, hx1, hx2⟩ := readAll hl _ _ _ _ (fun t ht => ⟨(hpar t ht).1.2, (hpar t ht).2⟩) (fun j t v h1 h2 => hval j t v (by simpa using h1) (by simpa using h2)) hA
  obtain ⟨_, _, hct⟩ := hct xs hx1
  have hlen : ∀ {ts : List TypeId} {vs : List Value} {ds : List (DataW H)} {ps : List MemPlace}, DataW.TrodAll enc P W 0 (fun _ => true) true ts vs ds ps → ds.length = ts.length := by
    intro ts
    induction ts with
    | nil => intro vs ds ps h; cases vs <;> cases ds <;> first | rfl | exact False.elim h
    | cons t ts ih =>
      intro vs ds ps h
      cases vs <;> cases ds <;> first | exact False.elim h | skip
      obtain ⟨_, _, _, h2, _⟩ := h
      simp [ih h2]
  have hres := hfn ds (hlen hA)
  have := callsIn_wide.1 (hct W (fun b => b < W.heap.size) _ (fun b h => h) hgr hx2)
  have ea : args.toList.toArray = args := by simp
  rw [ea] at this
  refine this.mono ?_
  rintro e W' ⟨v, rfl, hb, hv⟩
  rw [hv.v_inv]
  refine ⟨_, rfl, ?_⟩
  have hlt : ∀ x ∈ before, x.block < W.heap.size := fun x hx => hW'.lt x hx
  have hsp : ∀ sp : Nat → Bool, (∀ x ∈ before, sp x.block = true) → DataW.TrodAll enc P W' 0 sp true fn.params.toList args.toList ds before := by
    intro sp h
    rw [hpq] at h hlt ⊢
    exact trodAll_stays hl hb _ _ _ _ (fun t ht => (hpar t ht).1) hA hlt sp h
  have hfn' : s.fn H (ds ++ []) = { results := [.lit (.bool true)], args := ds } := by rw [List.append_nil]; exact hres
  have hrs : ∀ (b : Nat) (sp : Nat → Bool) (hd : Bool), DataW.TrodAll enc P W' b sp hd fn.resultTypes.toList ((Value.bool true).resultList fn.resultTypes.size) [.lit (.bool true)] [] := by
    intro b sp hd
    rw [hrt]
    exact trodAll_cons_mk (shut_bool hbool _) trodAll_mk0
  have hold : ∀ x ∈ before, (fun b => decide (b < W.heap.size)) x.block = true := fun x hx => by simpa using hlt x hx
  have hvs : ∀ sp : Nat → Bool, DataW.TrodVars enc P W' sp s.vars [] [] := fun sp => by rw [hvars]; exact rfl
  have hfz' : ∀ x ∈ before, ∀ b off, x = MemPlace.cell b off → W'.frozen? ⟨b, off, none⟩ = false := by
    intro x hx b off e
    subst e
    have hbl : b < W.heap.size := hlt _ hx
    have e2 : W'.frozen? ⟨b, off, none⟩ = W.frozen? ⟨b, off, none⟩ := World.frozen?_of_block (hb.block b hbl)
    rw [e2]
    exact hfz b off hx
  unfold ChangeSpec.post
  refine ⟨ds, [], before, [], before, [], hW', ?_, ?_, ?_, World.keptBut_mono (fun x hx => ⟨hx, .inr (.inl hx)⟩) (bel_kept hb (· ∈ before)), fun _ => ⟨?_, ?_⟩⟩
  · rw [hfn']; exact hrs _ _ _
  · rw [hfn']; exact hsp _ hold
  · rw [hfn']; exact hvs _
  · exact ok_one hrt rfl (okWide_bool_mk hbool _)
  · refine ⟨_, [], ([] ++ before) ++ [], ⟨[] ++ before, [], trodAll_append (hsp _ fun _ _ => rfl) (hrs _ _ _), hvs _, rfl, ?_, ?_⟩, ?_⟩
    · intro b off hx
      exact hfz' _ (by simpa using hx) b off rfl
    · intro ha
      simpa using hnd ha
    · intro x hx _
      simpa using hx
theorem law_contract [Glob P] {H : Type} {enc : TypeId × Value → H} {f : FuncId} {fn : Func} {s : ChangeSpec} {tb : TypeId} {apart fresh handsOn again : Bool} (hl : laidOutB P = true) (hg : ∀ x, Glob.tab P x = none) (hvars : s.vars = []) (hrt : fn.resultTypes = #[tb]) (hbool : P.underlying tb = some .bool)
    (hpar : (fn.params.toList.all fun t => P.readableRec t && decide (t < P.types.size) && shB P shFuel t) = true)
    (hfn : ∀ ds : List (DataW H), ds.length = fn.params.toList.length → s.fn H ds = { results := [.lit (.bool true)], args := ds })
    (hct : ∀ xs : List D, ShArgs P fn.params.toList xs → PureCt P f xs (.b true)) :
    ∀ (W : World) (base : Nat) (args : Array Value) (ds gs : List (DataW H)) (before : List MemPlace), (∀ (j : Nat) t v, fn.params[j]? = some t → args[j]? = some v → Value.okWide P W .any base t v) →
      DataW.Whole enc P fn.params.toList s.vars apart W args.toList ds gs before →
      Calls P f args W fun e W' => ∃ v, e = .returned v ∧ s.post enc P fn apart fresh handsOn again W args v W' :=
  fun W base args ds gs before => law_contract_g (apart := apart) (fresh := fresh) (handsOn := handsOn) (again := again) hl hvars hrt hbool hpar hfn hct W base args ds gs before (fun x cs e => by rw [hg x] at e; cases e)
end Go.DL
