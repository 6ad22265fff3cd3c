/-
  THE D LAYER, 3: when a machine's value and memory are as plain data say ('Rep', 'HM'), and what stays so ('Mono'). Conditions: none.
-/
import Derived.Test.YtfggmgafjabbjaaDoorDCore
namespace Go.DL
open Go.RowKit

/-- Ghost facts: which block a name stands for (with its capacity, and the cells of an element); which names were given; which blocks nobody writes. -/
structure Mem where
  M : Nat → Option (Option Nat × Nat × Nat)
  U : Nat → Prop
  I : Nat → Prop

theorem block_add (a : Addr) (n : Nat) : (a.add n).block = a.block := by unfold Addr.add; split <;> rfl
theorem add_add' (a : Addr) (i j : Nat) : (a.add i).add j = a.add (i + j) := by
  unfold Addr.add
  by_cases hi : i = 0 <;> by_cases hj : j = 0 <;> simp [hi, hj, Nat.add_assoc]
theorem add_mk (b o n : Nat) : (⟨b, o, none⟩ : Addr).add n = ⟨b, o + n, none⟩ := by
  unfold Addr.add; split <;> simp_all

inductive Rep (w : World) (g : Mem) : D → Value → Prop
  | v (x : Value) : Rep w g (.v x) x
  | agg (ds : List D) (vs : Array Value) (hn : ds.length = vs.size) (h : ∀ (i : Nat) d x, ds[i]? = some d → vs[i]? = some x → Rep w g d x) : Rep w g (.agg ds) (.agg vs)
  | tuple (ds : List D) (vs : Array Value) (hn : ds.length = vs.size) (h : ∀ (i : Nat) d x, ds[i]? = some d → vs[i]? = some x → Rep w g d x) : Rep w g (.tuple ds) (.tuple vs)
  | iface (t : TypeId) (d : D) (x : Value) (h : Rep w g d x) : Rep w g (.iface t d) (.iface t x)
  | empty (full : Bool) (a : Option Addr) (cap : Nat) (hf : full = true → cap = 0) (hm : cap ≤ maxLen) : Rep w g (.list full []) (.slice a 0 cap)
  | list (full : Bool) (rows : List (List D)) (ad : Addr) (cap size : Nat) (cv : Nat → Nat → Value) (hI : g.I ad.block) (hl : rows.length ≤ cap) (hf : full = true → cap = rows.length) (hm : cap ≤ maxLen)
      (hs : ∀ r ∈ rows, r.length = size) (hc : ∀ (i j : Nat) r d, rows[i]? = some r → r[j]? = some d → w.cell? (ad.add (i * size + j)) = some (cv i j) ∧ (cv i j).oneCell' = true)
      (hr : ∀ (i j : Nat) r d, rows[i]? = some r → r[j]? = some d → Rep w g d (cv i j)) : Rep w g (.list full rows) (.slice (some ad) rows.length cap)
  | eptr (cs : List D) (p : Addr) (cv : Nat → Value) (hI : g.I p.block) (hc : ∀ (j : Nat) d, cs[j]? = some d → w.cell? (p.add j) = some (cv j)) (hr : ∀ (j : Nat) d, cs[j]? = some d → Rep w g d (cv j)) : Rep w g (.eptr cs) (.pointer (some p))
  | mrow (r off len : Nat) (x : Value) (hx : ∃ a c, x = .slice a len c ∧ len ≤ c ∧ (0 < len → ∃ p, a = some p)) (hU : g.U r) (h : ∀ blk c sz, g.M r = some (blk, c, sz) → off + len ≤ c ∧ ((c = off ∧ ∃ a, x = .slice a 0 0) ∨ (c ≠ off ∧ ∃ b, blk = some b ∧ x = .slice (some ⟨b, off * sz, Option.none⟩) len (c - off)))) : Rep w g (.mrow r off len) x
  | mptr (r i off : Nat) (x : Value) (hx : ∃ p, x = .pointer (some p)) (hU : g.U r) (h : ∀ blk c sz, g.M r = some (blk, c, sz) → ∃ b, blk = some b ∧ x = .pointer (some ⟨b, i * sz + off, Option.none⟩)) : Rep w g (.mptr r i off) x
  | fn (f : Fn) (first caps : List D) (fs cs : Array Value) (hf : first.length = fs.size) (hc : caps.length = cs.size) (h1 : ∀ (i : Nat) d x, first[i]? = some d → fs[i]? = some x → Rep w g d x)
      (h2 : ∀ (i : Nat) d x, caps[i]? = some d → cs[i]? = some x → Rep w g d x) : Rep w g (.fn f first caps) (.func f fs cs)
  | cond (b : Bool) (d : D) (x : Value) (ht : b = true → Rep w g d x) (hf : b = false → x = undef) : Rep w g (.cond b d) x
  | junk (x : Value) : Rep w g .junk x

theorem Rep.mono {w w' : World} {g g' : Mem} (hI : ∀ b, g.I b → g'.I b ∧ w'.heap[b]? = w.heap[b]?) (hU : ∀ r, g.U r → g'.U r) (hM : ∀ r, g.U r → g'.M r = g.M r ∨ g'.M r = Option.none)
    {d : D} {x : Value} (h : Rep w g d x) : Rep w' g' d x := by
  induction h with
  | v x => exact .v x
  | agg ds vs hn _ ih => exact .agg ds vs hn ih
  | tuple ds vs hn _ ih => exact .tuple ds vs hn ih
  | iface t d x _ ih => exact .iface t d x ih
  | empty full a cap hf hm => exact .empty full a cap hf hm
  | list full rows ad cap size cv hi hl hf hm hs hc _ ih =>
    refine .list full rows ad cap size cv (hI _ hi).1 hl hf hm hs (fun i j r d h1 h2 => ?_) ih
    obtain ⟨h3, h4⟩ := hc i j r d h1 h2
    refine ⟨?_, h4⟩
    rw [← h3]
    exact World.cell?_of_block (by rw [block_add]; exact (hI _ hi).2)
  | eptr cs p cv hi hc _ ih =>
    refine .eptr cs p cv (hI _ hi).1 (fun j d h1 => ?_) ih
    rw [← hc j d h1]
    exact World.cell?_of_block (by rw [block_add]; exact (hI _ hi).2)
  | mrow r off len x hx hu h =>
    refine .mrow r off len x hx (hU r hu) fun blk c sz he => ?_
    rcases hM r hu with e | e
    · exact h blk c sz (e ▸ he)
    · rw [e] at he; cases he
  | mptr r i off x hx hu h =>
    refine .mptr r i off x hx (hU r hu) fun blk c sz he => ?_
    rcases hM r hu with e | e
    · exact h blk c sz (e ▸ he)
    · rw [e] at he; cases he
  | fn f first caps fs cs hf hc _ _ ih1 ih2 => exact .fn f first caps fs cs hf hc ih1 ih2
  | cond b d x _ hf ih => exact .cond b d x ih hf
  | junk x => exact .junk x

/-- Lists of data and of values. -/
def Reps (w : World) (g : Mem) (ds : List D) (vs : List Value) : Prop := ds.length = vs.length ∧ ∀ (i : Nat) d x, ds[i]? = some d → vs[i]? = some x → Rep w g d x
theorem Reps.nil {w : World} {g : Mem} : Reps w g [] [] := ⟨rfl, fun i d x h => by simp at h⟩
theorem Reps.cons {w : World} {g : Mem} {d : D} {x : Value} {ds : List D} {vs : List Value} (h : Rep w g d x) (hs : Reps w g ds vs) : Reps w g (d :: ds) (x :: vs) := by
  refine ⟨by simp [hs.1], fun i d' x' h1 h2 => ?_⟩
  cases i with
  | zero => simp at h1 h2; subst h1; subst h2; exact h
  | succ i => simp at h1 h2; exact hs.2 i d' x' h1 h2
theorem Reps.head {w : World} {g : Mem} {d : D} {x : Value} {ds : List D} {vs : List Value} (hs : Reps w g (d :: ds) (x :: vs)) : Rep w g d x := hs.2 0 d x rfl rfl
theorem Reps.tail {w : World} {g : Mem} {d : D} {x : Value} {ds : List D} {vs : List Value} (hs : Reps w g (d :: ds) (x :: vs)) : Reps w g ds vs :=
  ⟨by simpa using hs.1, fun i d' x' h1 h2 => hs.2 (i + 1) d' x' (by simpa using h1) (by simpa using h2)⟩
theorem Reps.of_nil {w : World} {g : Mem} {vs : List Value} (hs : Reps w g [] vs) : vs = [] := List.eq_nil_of_length_eq_zero hs.1.symm
theorem Reps.of_cons {w : World} {g : Mem} {d : D} {ds : List D} {vs : List Value} (hs : Reps w g (d :: ds) vs) : ∃ x xs, vs = x :: xs ∧ Rep w g d x ∧ Reps w g ds xs := by
  cases vs with
  | nil => simp [Reps] at hs
  | cons x xs => exact ⟨x, xs, rfl, hs.head, hs.tail⟩
theorem Reps.append {w : World} {g : Mem} {ds es : List D} {vs us : List Value} (h : Reps w g ds vs) (k : Reps w g es us) : Reps w g (ds ++ es) (vs ++ us) := by
  induction ds generalizing vs with
  | nil => rw [h.of_nil]; exact k
  | cons d ds ih => obtain ⟨x, xs, rfl, h1, h2⟩ := h.of_cons; exact .cons h1 (ih h2)
theorem Reps.take {w : World} {g : Mem} {ds : List D} {vs : List Value} (h : Reps w g ds vs) (n : Nat) : Reps w g (ds.take n) (vs.take n) := by
  refine ⟨by simp [h.1], fun i d x h1 h2 => ?_⟩
  rw [List.getElem?_take] at h1 h2
  split at h1
  · rename_i hi; rw [if_pos hi] at h2; exact h.2 i d x h1 h2
  · cases h1
theorem Reps.drop {w : World} {g : Mem} {ds : List D} {vs : List Value} (h : Reps w g ds vs) (n : Nat) : Reps w g (ds.drop n) (vs.drop n) := by
  refine ⟨by simp [h.1], fun i d x h1 h2 => ?_⟩
  rw [List.getElem?_drop] at h1 h2
  exact h.2 _ d x h1 h2
theorem Reps.mono {w w' : World} {g g' : Mem} (hI : ∀ b, g.I b → g'.I b ∧ w'.heap[b]? = w.heap[b]?) (hU : ∀ r, g.U r → g'.U r) (hM : ∀ r, g.U r → g'.M r = g.M r ∨ g'.M r = Option.none)
    {ds : List D} {vs : List Value} (h : Reps w g ds vs) : Reps w' g' ds vs := ⟨h.1, fun i d x h1 h2 => (h.2 i d x h1 h2).mono hI hU hM⟩

/-- A block holds rows of data. -/
def Holds (P : Program) [Glob P] (w : World) (g : Mem) (bl : Blk) (cur : Array Value) : Prop :=
  ∀ (i : Nat) row, bl.rows[i]? = some row → row.length = P.cellsOf bl.ty ∧ ∀ (j : Nat) d, row[j]? = some d → ∃ u, cur[i * P.cellsOf bl.ty + j]? = some u ∧ u.oneCell' = true ∧ Rep w g d u

/-- the told variables lie as told, and nobody writes them -/
def Gr (P : Program) [Glob P] (I : Nat → Prop) (w : World) : Prop := ∀ x cs, Glob.tab P x = some cs → I x ∧ ∀ (j : Nat) v, cs[j]? = some v → w.cell? ⟨x, j, Option.none⟩ = some v
theorem Gr.later {P : Program} [Glob P] {I I' : Nat → Prop} {w w' : World} (h : Gr P I w) (k : ∀ b, I b → I' b ∧ w'.heap[b]? = w.heap[b]?) : Gr P I' w' := by
  intro x cs hx
  obtain ⟨h1, h2⟩ := h x cs hx
  refine ⟨(k x h1).1, fun j v hj => ?_⟩
  rw [← h2 j v hj]
  exact World.cell?_of_block (k x h1).2
structure HM (P : Program) [Glob P] (h : H) (g : Mem) (w : World) : Prop where
  dead : ∀ r, h r = Option.none → g.M r = Option.none
  blk : ∀ r bl, h r = some bl → ∃ blk c, g.M r = some (blk, c, P.cellsOf bl.ty) ∧ 0 < P.cellsOf bl.ty ∧ bl.rows.length ≤ c ∧ c ≤ maxLen ∧
    ((blk = Option.none ∧ c = 0) ∨ ∃ b cur, blk = some b ∧ w.heap[b]? = some (.cells cur bl.ty (0, 0)) ∧ cur.size = c * P.cellsOf bl.ty ∧ ¬ g.I b ∧ Holds P w g bl cur)
  inj : ∀ r r' b c c' s s', g.M r = some (some b, c, s) → g.M r' = some (some b, c', s') → r = r'
  used : ∀ r, g.M r ≠ Option.none → g.U r
  imm : ∀ b, g.I b → b < w.heap.size
  gr : Gr P g.I w

structure Mono (g g' : Mem) (w w' : World) : Prop where
  os : w'.os = w.os
  tape : w'.tape = w.tape
  output : w'.output = w.output
  size : w.heap.size ≤ w'.heap.size
  drawn : w.drawn ≤ w'.drawn
  U : ∀ r, g.U r → g'.U r
  M : ∀ r, g.U r → g'.M r = g.M r ∨ g'.M r = Option.none
  new : ∀ r b c s, g'.M r = some (some b, c, s) → (∃ r' c' s', g.M r' = some (some b, c', s')) ∨ w.heap.size ≤ b
  I : ∀ b, g.I b → g'.I b
  inew : ∀ b, g'.I b → g.I b ∨ w.heap.size ≤ b ∨ ∃ r c s, g.M r = some (some b, c, s)
  same : ∀ b, b < w.heap.size → (∀ r c s, g.M r ≠ some (some b, c, s)) → w'.heap[b]? = w.heap[b]?

theorem Mono.refl (g : Mem) (w : World) : Mono g g w w :=
  ⟨rfl, rfl, rfl, Nat.le_refl _, Nat.le_refl _, fun _ h => h, fun _ _ => .inl rfl, fun r _ c s h => .inl ⟨r, c, s, h⟩, fun _ h => h, fun _ h => .inl h, fun _ _ _ => rfl⟩
theorem Mono.trans {g g' g'' : Mem} {w w' w'' : World} (h : Mono g g' w w') (k : Mono g' g'' w' w'') : Mono g g'' w w'' := by
  refine ⟨k.os.trans h.os, k.tape.trans h.tape, k.output.trans h.output, Nat.le_trans h.size k.size, Nat.le_trans h.drawn k.drawn, fun r hr => k.U r (h.U r hr), fun r hr => ?_, fun r b c s hr => ?_, fun b hb => k.I b (h.I b hb), fun b hb => ?_, fun b hb hn => ?_⟩
  · rcases k.M r (h.U r hr) with e | e
    · rw [e]; exact h.M r hr
    · exact .inr e
  · rcases k.new r b c s hr with ⟨r', c', s', e⟩ | e
    · exact h.new r' b c' s' e
    · exact .inr (Nat.le_trans h.size e)
  · rcases k.inew b hb with e | e | ⟨r, c, s, e⟩
    · exact h.inew b e
    · exact .inr (.inl (Nat.le_trans h.size e))
    · rcases h.new r b c s e with ⟨r', c', s', e'⟩ | e'
      · exact .inr (.inr ⟨r', c', s', e'⟩)
      · exact .inr (.inl e')
  · refine (k.same b (Nat.lt_of_lt_of_le hb h.size) fun r c s e => ?_).trans (h.same b hb hn)
    rcases h.new r b c s e with ⟨r', c', s', e'⟩ | e'
    · exact hn r' c' s' e'
    · omega
/-- What nobody writes lies as it lay. -/
theorem HM.kept {P : Program} [Glob P] {h : H} {g g' : Mem} {w w' : World} (hm : HM P h g w) (k : Mono g g' w w') : ∀ b, g.I b → g'.I b ∧ w'.heap[b]? = w.heap[b]? := by
  refine fun b hb => ⟨k.I b hb, k.same b (hm.imm b hb) fun r c s e => ?_⟩
  cases hr : h r with
  | none => rw [hm.dead r hr] at e; cases e
  | some bl =>
    obtain ⟨blk, c', e1, _, _, _, h5⟩ := hm.blk r bl hr
    rw [e] at e1
    simp only [Option.some.injEq, Prod.mk.injEq] at e1
    rcases h5 with ⟨h6, _⟩ | ⟨b', cur, h6, _, _, h7, _⟩
    · rw [← e1.1] at h6; cases h6
    · rw [← e1.1] at h6; cases h6; exact h7 hb
theorem Rep.later {P : Program} [Glob P] {h : H} {g g' : Mem} {w w' : World} (hm : HM P h g w) (k : Mono g g' w w') {d : D} {x : Value} (hr : Rep w g d x) : Rep w' g' d x := hr.mono (hm.kept k) k.U k.M
theorem Reps.later {P : Program} [Glob P] {h : H} {g g' : Mem} {w w' : World} (hm : HM P h g w) (k : Mono g g' w w') {d : List D} {x : List Value} (hr : Reps w g d x) : Reps w' g' d x := hr.mono (hm.kept k) k.U k.M

/-! ### data, with less said of capacities -/
mutual
def wk : D → D
  | .agg cs => .agg (wks cs)
  | .list _ rows => .list false (wkr rows)
  | .eptr cs => .eptr (wks cs)
  | .tuple ds => .tuple (wks ds)
  | .iface t d => .iface t (wk d)
  | d => d
def wks : List D → List D
  | [] => []
  | d :: ds => wk d :: wks ds
def wkr : List (List D) → List (List D)
  | [] => []
  | r :: rs => wks r :: wkr rs
end
theorem wks_map : ∀ ds : List D, wks ds = ds.map wk
  | [] => rfl
  | d :: ds => by simp only [wks, wks_map ds, List.map_cons]
theorem wkr_map : ∀ ds : List (List D), wkr ds = ds.map wks
  | [] => rfl
  | d :: ds => by simp only [wkr, wkr_map ds, List.map_cons]
theorem map_at {α β : Type} {f : α → β} {l : List α} {i : Nat} {y : β} (h : (l.map f)[i]? = some y) : ∃ x, l[i]? = some x ∧ f x = y := by
  rw [List.getElem?_map] at h
  cases hi : l[i]? with
  | none => rw [hi] at h; cases h
  | some x => rw [hi] at h; exact ⟨x, rfl, by simpa using h⟩
theorem Rep.wk {w : World} {g : Mem} {d : D} {v : Value} (h : Rep w g d v) : Rep w g (wk d) v := by
  induction h with
  | v x => exact .v x
  | agg ds vs hl _ ih =>
    simp only [DL.wk, wks_map]
    exact .agg _ vs (by simpa using hl) fun i d x h1 h2 => by obtain ⟨y, h3, rfl⟩ := map_at h1; exact ih i y x h3 h2
  | tuple ds vs hl _ ih =>
    simp only [DL.wk, wks_map]
    exact .tuple _ vs (by simpa using hl) fun i d x h1 h2 => by obtain ⟨y, h3, rfl⟩ := map_at h1; exact ih i y x h3 h2
  | iface t d x _ ih => exact .iface t _ x ih
  | empty full a cap hf hm => exact .empty false a cap (fun h => by cases h) hm
  | list full rows ad cap size cv hi hl hf hm hs hc _ ih =>
    simp only [DL.wk, wkr_map]
    have e : rows.length = (rows.map wks).length := by simp
    rw [e]
    refine .list false _ ad cap size cv hi (by simpa using hl) (fun h => by cases h) hm (fun r hr => ?_) (fun i j r d h1 h2 => ?_) (fun i j r d h1 h2 => ?_)
    · obtain ⟨r', h1, rfl⟩ := List.mem_map.1 hr
      rw [wks_map]; simpa using hs r' h1
    · obtain ⟨r', h3, rfl⟩ := map_at h1
      rw [wks_map] at h2
      obtain ⟨d', h4, rfl⟩ := map_at h2
      exact hc i j r' d' h3 h4
    · obtain ⟨r', h3, rfl⟩ := map_at h1
      rw [wks_map] at h2
      obtain ⟨d', h4, rfl⟩ := map_at h2
      exact ih i j r' d' h3 h4
  | eptr cs p cv hi hc _ ih =>
    simp only [DL.wk, wks_map]
    refine .eptr _ p cv hi (fun j d h1 => ?_) (fun j d h1 => ?_)
    · obtain ⟨d', h3, rfl⟩ := map_at h1; exact hc j d' h3
    · obtain ⟨d', h3, rfl⟩ := map_at h1; exact ih j d' h3
  | mrow r off len x hx hu h => exact .mrow r off len x hx hu h
  | mptr r i off x hx hu h => exact .mptr r i off x hx hu h
  | fn f first caps fs cs hf hc h1 h2 _ _ => exact .fn f first caps fs cs hf hc h1 h2
  | cond b d x ht hf _ => exact .cond b d x ht hf
  | junk x => exact .junk x

/-- What stays true of memory as long as nobody writes what nobody may write: a caller's facts, carried along. x: a block that is no row of cells, and may be turned by one who says so. -/
structure Env where
  p : Mem → World → Prop
  x : Option Nat
  st : ∀ (P : Program) [Glob P] (h : H) (g g' : Mem) (w w' : World), HM P h g w → Mono g g' w w' → p g w → p g' w'
def Env.tt : Env := ⟨fun _ _ => True, Option.none, fun _ _ _ _ _ _ _ _ _ _ => trivial⟩
theorem Env.later {P : Program} [Glob P] {E : Env} {h : H} {g g' : Mem} {w w' : World} (hm : HM P h g w) (k : Mono g g' w w') (hr : E.p g w) : E.p g' w' := E.st P h g g' w w' hm k hr
/-- As Mono, but for one block. -/
structure MonoX (x : Option Nat) (g g' : Mem) (w w' : World) : Prop where
  os : w'.os = w.os
  tape : w'.tape = w.tape
  output : w'.output = w.output
  size : w.heap.size ≤ w'.heap.size
  drawn : w.drawn ≤ w'.drawn
  U : ∀ r, g.U r → g'.U r
  M : ∀ r, g.U r → g'.M r = g.M r ∨ g'.M r = Option.none
  new : ∀ r b c s, g'.M r = some (some b, c, s) → (∃ r' c' s', g.M r' = some (some b, c', s')) ∨ w.heap.size ≤ b
  I : ∀ b, g.I b → g'.I b
  inew : ∀ b, g'.I b → g.I b ∨ w.heap.size ≤ b ∨ ∃ r c s, g.M r = some (some b, c, s)
  same : ∀ b, b < w.heap.size → (∀ r c s, g.M r ≠ some (some b, c, s)) → x ≠ some b → w'.heap[b]? = w.heap[b]?
theorem Mono.toX {x : Option Nat} {g g' : Mem} {w w' : World} (h : Mono g g' w w') : MonoX x g g' w w' := ⟨h.os, h.tape, h.output, h.size, h.drawn, h.U, h.M, h.new, h.I, h.inew, fun b h1 h2 _ => h.same b h1 h2⟩
theorem MonoX.out {g g' : Mem} {w w' : World} (h : MonoX Option.none g g' w w') : Mono g g' w w' := ⟨h.os, h.tape, h.output, h.size, h.drawn, h.U, h.M, h.new, h.I, h.inew, fun b h1 h2 => h.same b h1 h2 (by simp)⟩
theorem MonoX.refl (x : Option Nat) (g : Mem) (w : World) : MonoX x g g w w := (Mono.refl g w).toX
theorem MonoX.trans {x : Option Nat} {g g' g'' : Mem} {w w' w'' : World} (h : MonoX x g g' w w') (k : MonoX x g' g'' w' w'') : MonoX x g g'' w w'' := by
  refine ⟨k.os.trans h.os, k.tape.trans h.tape, k.output.trans h.output, Nat.le_trans h.size k.size, Nat.le_trans h.drawn k.drawn, fun r hr => k.U r (h.U r hr), fun r hr => ?_, fun r b c s e => ?_, fun b hb => k.I b (h.I b hb), fun b hb => ?_, fun b hb hn hx => ?_⟩
  · rcases k.M r (h.U r hr) with e | e
    · rcases h.M r hr with e' | e'
      · exact .inl (e.trans e')
      · exact .inr (e.trans e')
    · exact .inr e
  · rcases k.new r b c s e with ⟨r', c', s', e'⟩ | e'
    · exact h.new r' b c' s' e'
    · exact .inr (Nat.le_trans h.size e')
  · rcases k.inew b hb with e | e | ⟨r, c, s, e⟩
    · exact h.inew b e
    · exact .inr (.inl (Nat.le_trans h.size e))
    · rcases h.new r b c s e with ⟨r', c', s', e'⟩ | e'
      · exact .inr (.inr ⟨r', c', s', e'⟩)
      · exact .inr (.inl e')
  · refine (k.same b (Nat.lt_of_lt_of_le hb h.size) (fun r c s e => ?_) hx).trans (h.same b hb hn hx)
    rcases h.new r b c s e with ⟨r', c', s', e'⟩ | e'
    · exact hn r' c' s' e'
    · omega
end Go.DL
