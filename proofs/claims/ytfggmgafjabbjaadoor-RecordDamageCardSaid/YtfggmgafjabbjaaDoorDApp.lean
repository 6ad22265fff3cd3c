/-
  THE D LAYER, 7: rows of data in memory; append. Conditions: none.
-/
import Derived.Test.YtfggmgafjabbjaaDoorDOps
namespace Go.DL
open Go.RowKit
variable {P : Program}

/-- A list of cells holds rows of data. -/
def RowsIn (w : World) (g : Mem) (size : Nat) (rows : List (List D)) (cs : List Value) : Prop :=
  cs.length = rows.length * size ∧ ∀ (i : Nat) row, rows[i]? = some row → row.length = size ∧ ∀ (j : Nat) d, row[j]? = some d → ∃ u, cs[i * size + j]? = some u ∧ u.oneCell' = true ∧ Rep w g d u
theorem idx_lt {i j n size : Nat} (hi : i < n) (hj : j < size) : i * size + j < n * size := by
  have e1 : (i + 1) * size ≤ n * size := Nat.mul_le_mul_right _ (by omega)
  rw [Nat.add_mul, Nat.one_mul] at e1
  omega
theorem RowsIn.nil {w : World} {g : Mem} {size : Nat} : RowsIn w g size [] [] := ⟨by simp, fun i row h => by simp at h⟩
theorem RowsIn.append {w : World} {g : Mem} {size : Nat} {r s : List (List D)} {a b : List Value} (h : RowsIn w g size r a) (k : RowsIn w g size s b) : RowsIn w g size (r ++ s) (a ++ b) := by
  refine ⟨by simp [h.1, k.1, Nat.add_mul], fun i row hi => ?_⟩
  by_cases hlt : i < r.length
  · rw [List.getElem?_append_left hlt] at hi
    obtain ⟨h1, h2⟩ := h.2 i row hi
    refine ⟨h1, fun j d hj => ?_⟩
    have hjl : j < size := by have := (List.getElem?_eq_some_iff.1 hj).1; omega
    have := idx_lt hlt hjl
    rw [List.getElem?_append_left (by rw [h.1]; exact this)]
    exact h2 j d hj
  · rw [List.getElem?_append_right (by omega)] at hi
    obtain ⟨h1, h2⟩ := k.2 _ row hi
    refine ⟨h1, fun j d hj => ?_⟩
    have e : i * size = r.length * size + (i - r.length) * size := by rw [← Nat.add_mul]; congr 1; omega
    rw [List.getElem?_append_right (by rw [h.1]; omega), h.1]
    have e2 : i * size + j - r.length * size = (i - r.length) * size + j := by omega
    rw [e2]
    exact h2 j d hj
theorem RowsIn.one {w : World} {g : Mem} {size : Nat} {rows : List (List D)} {cs : List Value} (h : RowsIn w g size rows cs) : ∀ u ∈ cs, u.oneCell' = true := by
  intro u hu
  obtain ⟨k, hk, rfl⟩ := List.getElem_of_mem hu
  rcases Nat.eq_zero_or_pos size with h0 | h0
  · rw [h.1, h0] at hk; omega
  · have hi : k / size < rows.length := by rw [Nat.div_lt_iff_lt_mul h0, ← h.1]; exact hk
    obtain ⟨h1, h2⟩ := h.2 (k / size) rows[k / size] (by simp)
    have hj : k % size < rows[k / size].length := by rw [h1]; exact Nat.mod_lt _ h0
    obtain ⟨u, h3, h4, _⟩ := h2 (k % size) (rows[k / size][k % size]) (by simp)
    have e : k / size * size + k % size = k := by rw [Nat.mul_comm]; exact Nat.div_add_mod k size
    rw [e, List.getElem?_eq_getElem hk] at h3
    cases h3; exact h4
theorem RowsIn.mono {w w' : World} {g g' : Mem} {size : Nat} {rows : List (List D)} {cs : List Value} (h : RowsIn w g size rows cs) (hk : ∀ d u, Rep w g d u → Rep w' g' d u) : RowsIn w' g' size rows cs :=
  ⟨h.1, fun i row hi => ⟨(h.2 i row hi).1, fun j d hj => by obtain ⟨u, h1, h2, h3⟩ := (h.2 i row hi).2 j d hj; exact ⟨u, h1, h2, hk _ _ h3⟩⟩⟩
theorem RowsIn.holds [Glob P] {w : World} {g : Mem} {e : TypeId} {rows : List (List D)} {cs : List Value} {cur : Array Value} (h : RowsIn w g (P.cellsOf e) rows cs) (hc : cur.toList.take cs.length = cs) : Holds P w g ⟨e, rows⟩ cur := by
  intro i row hi
  obtain ⟨h1, h2⟩ := h.2 i row hi
  refine ⟨h1, fun j d hj => ?_⟩
  obtain ⟨u, h3, h4, h5⟩ := h2 j d hj
  refine ⟨u, ?_, h4, h5⟩
  rw [← hc, List.getElem?_take] at h3
  split at h3
  · simpa using h3
  · cases h3
theorem Holds.rowsIn [Glob P] {w : World} {g : Mem} {bl : Blk} {cur : Array Value} (h : Holds P w g bl cur) (off len : Nat) (hl : off + len ≤ bl.rows.length) (hc : bl.rows.length * P.cellsOf bl.ty ≤ cur.size) :
    RowsIn w g (P.cellsOf bl.ty) ((bl.rows.drop off).take len) ((cur.toList.drop (off * P.cellsOf bl.ty)).take (len * P.cellsOf bl.ty)) := by
  have e1 : (off + len) * P.cellsOf bl.ty ≤ bl.rows.length * P.cellsOf bl.ty := Nat.mul_le_mul_right _ hl
  rw [Nat.add_mul] at e1
  refine ⟨?_, fun i row hi => ?_⟩
  · simp only [List.length_take, List.length_drop, Array.length_toList]
    rw [Nat.min_eq_left (by omega), Nat.min_eq_left (by omega)]
  · rw [List.getElem?_take] at hi
    split at hi
    · rename_i hil
      rw [List.getElem?_drop] at hi
      obtain ⟨h1, h2⟩ := h (off + i) row hi
      refine ⟨h1, fun j d hj => ?_⟩
      obtain ⟨u, h3, h4, h5⟩ := h2 j d hj
      have hjl : j < P.cellsOf bl.ty := by have := (List.getElem?_eq_some_iff.1 hj).1; omega
      refine ⟨u, ?_, h4, h5⟩
      rw [List.getElem?_take, if_pos (idx_lt hil hjl), List.getElem?_drop, Array.getElem?_toList, ← h3]
      congr 1
      rw [Nat.add_mul]; omega
    · cases hi

/-- What is read of a slice or a string. -/
theorem rows_read [Glob P] {h : H} {g : Mem} {w : World} (hm : HM P h g w) {y : D} {vy : Value} (hy : Rep w g y vy) {size : Nat} (hp : 0 < size) (hl : (rowsOf y h).length = lenD y) (hs : ∀ r ∈ rowsOf y h, r.length = size) {u : TypeId} (ho : srcOk P u h y = true) :
    ∃ cs, RowsIn w g size (rowsOf y h) cs ∧ (∀ w', (Builtin.lenOf vy).run P w' = .ok (lenD y) w') ∧ (∀ w', w'.heap = w.heap → (Builtin.firstCells size (lenD y) vy).run P w' = .ok cs.toArray w') ∧
      (∀ w', ∃ d, (underlying u).run P w' = .ok d w' ∧ (d = .string ∨ ∃ e', d = .slice e')) := by
  cases hy with
  | empty full a cap hf hmx =>
    obtain ⟨e, he⟩ := Option.isSome_iff_exists.1 (show (elemT P u).isSome = true from ho)
    have hu : P.underlying u = some (.slice e) := by unfold elemT at he; split at he <;> simp_all
    refine ⟨[], .nil, fun w' => by simp [Builtin.lenOf, lenD], fun w' _ => ?_, fun w' => ⟨_, run_underlying hu w', by simp⟩⟩
    cases a <;> simp [Builtin.firstCells, lenD, loadCells, loadCellsFrom]
  | list full rows ad cap sz cv hI hlc hf hmx hsz hc hr =>
    obtain ⟨e, he⟩ := Option.isSome_iff_exists.1 (show (elemT P u).isSome = true from ho)
    have hu : P.underlying u = some (.slice e) := by unfold elemT at he; split at he <;> simp_all
    simp only [rowsOf] at hs hl ⊢
    by_cases hz : rows = []
    · subst hz
      refine ⟨[], .nil, fun w' => by simp [Builtin.lenOf, lenD], fun w' _ => ?_, fun w' => ⟨_, run_underlying hu w', by simp⟩⟩
      simp [Builtin.firstCells, lenD, loadCells, loadCellsFrom]
    have hse : sz = size := by
      cases rows with
      | nil => exact absurd rfl hz
      | cons a l => rw [← hsz a (by simp), hs a (by simp)]
    subst hse
    refine ⟨(List.range (rows.length * sz)).map fun k => cv (k / sz) (k % sz), ⟨by simp, fun i row hi => ⟨hs row (List.mem_of_getElem? hi), fun j d hj => ?_⟩⟩, fun w' => by simp [Builtin.lenOf, lenD], fun w' hw => ?_, fun w' => ⟨_, run_underlying hu w', by simp⟩⟩
    · have hil : i < rows.length := (List.getElem?_eq_some_iff.1 hi).1
      have hjl : j < sz := by have := (List.getElem?_eq_some_iff.1 hj).1; have := hs row (List.mem_of_getElem? hi); omega
      refine ⟨cv i j, ?_, (hc i j row d hi hj).2, hr i j row d hi hj⟩
      rw [List.getElem?_map, List.getElem?_range (idx_lt hil hjl)]
      have e1 : (i * sz + j) / sz = i := by rw [Nat.mul_comm, Nat.mul_add_div hp, Nat.div_eq_of_lt hjl]; rfl
      have e2 : (i * sz + j) % sz = j := by rw [Nat.mul_comm, Nat.mul_add_mod, Nat.mod_eq_of_lt hjl]
      simp [e1, e2]
    · have := run_loadCells (P := P) w' ad (rows.length * sz) (fun k => cv (k / sz) (k % sz)) (fun k hk => by
        have hil : k / sz < rows.length := by rw [Nat.div_lt_iff_lt_mul hp]; exact hk
        have hjl : k % sz < (rows[k / sz]).length := by rw [hs _ (by simp)]; exact Nat.mod_lt _ hp
        have h1 := (hc (k / sz) (k % sz) rows[k / sz] (rows[k / sz][k % sz]) (by simp) (by simp)).1
        have e : k / sz * sz + k % sz = k := by rw [Nat.mul_comm]; exact Nat.div_add_mod k sz
        rw [e] at h1
        rw [← h1]
        exact World.cell?_of_block (by rw [hw]))
      simpa [Builtin.firstCells, lenD] using this
  | mrow r off len x hx hU hv =>
    simp only [srcOk, Bool.and_eq_true] at ho
    obtain ⟨e, he⟩ := Option.isSome_iff_exists.1 ho.1
    have hu : P.underlying u = some (.slice e) := by unfold elemT at he; split at he <;> simp_all
    simp only [rowsOf, lenD] at hs hl ⊢
    cases hr : h r with
    | none =>
      rw [hr] at ho; simp at ho
    | some bl =>
      rw [hr] at hl hs
      simp only at hl hs ⊢
      obtain ⟨blk, c, h1, h2, h3, h4, h5⟩ := hm.blk r bl hr
      obtain ⟨h6, h7⟩ := hv _ _ _ h1
      rcases h7 with ⟨rfl, a, rfl⟩ | ⟨hne, b, rfl, rfl⟩
      · have : len = 0 := by omega
        subst this
        refine ⟨[], by simpa using RowsIn.nil, fun w' => by simp [Builtin.lenOf], fun w' _ => ?_, fun w' => ⟨_, run_underlying hu w', by simp⟩⟩
        cases a <;> simp [Builtin.firstCells, loadCells, loadCellsFrom]
      · rcases h5 with ⟨h5, _⟩ | ⟨b', cur, h5, k1, k2, k3, k4⟩
        · cases h5
        cases h5
        have hle : off + len ≤ bl.rows.length ∨ len = 0 := by
          simp only [List.length_take, List.length_drop] at hl; omega
        rcases hle with hle | hle
        · have hR := k4.rowsIn off len hle (by rw [k2]; exact Nat.mul_le_mul_right _ h3)
          by_cases hz : len = 0
          · subst hz
            refine ⟨[], by simpa using RowsIn.nil, fun w' => by simp [Builtin.lenOf], fun w' _ => by simp [Builtin.firstCells, loadCells, loadCellsFrom], fun w' => ⟨_, run_underlying hu w', by simp⟩⟩
          have hse : P.cellsOf bl.ty = size := by
            have hlt : 0 < ((bl.rows.drop off).take len).length := by omega
            have m1 := hs _ (List.getElem_mem hlt)
            have m2 := (hR.2 0 _ (List.getElem?_eq_getElem hlt)).1
            omega
          rw [hse] at hR k2
          refine ⟨_, hR, fun w' => by simp [Builtin.lenOf], fun w' hw => ?_, fun w' => ⟨_, run_underlying hu w', by simp⟩⟩
          rw [hse]
          have hlen := hR.1
          rw [hl] at hlen
          refine run_firstCells_some (P := P) w' size len _ len _ _ hlen fun j v hj => ?_
          rw [add_mk, cell_of_row w' b _ cur bl.ty (0, 0) (by rw [hw]; exact k1)]
          rw [List.getElem?_take] at hj
          split at hj
          · rw [List.getElem?_drop] at hj; simpa using hj
          · cases hj
        · subst hle
          refine ⟨[], by simpa using RowsIn.nil, fun w' => by simp [Builtin.lenOf], fun w' _ => by simp [Builtin.firstCells, loadCells, loadCellsFrom], fun w' => ⟨_, run_underlying hu w', by simp⟩⟩
  | v =>
    cases vy <;> simp only [srcOk] at ho <;> try (cases ho; done)
    rename_i s
    have hu : P.underlying u = some .string := by split at ho <;> simp_all
    simp only [rowsOf, lenD] at hs hl ⊢
    by_cases hz : s.size = 0
    · have e : s.data.toList = [] := List.eq_nil_of_length_eq_zero (by simpa using hz)
      refine ⟨[], by rw [e]; exact RowsIn.nil, fun w' => by simp [Builtin.lenOf], fun w' _ => ?_, fun w' => ⟨_, run_underlying hu w', by simp⟩⟩
      simp [Builtin.firstCells, hz]
    · have hse : size = 1 := by
        have hlt : 0 < s.data.toList.length := by simp; exact Nat.pos_of_ne_zero hz
        rw [← hs [.v (.int .u8 (s.data.toList[0].toNat))] (by simp only [List.mem_map]; exact ⟨_, List.getElem_mem hlt, rfl⟩)]; rfl
      subst hse
      refine ⟨s.data.toList.map fun b => .int .u8 b.toNat, ⟨by simp, fun i row hi => ?_⟩, fun w' => by simp [Builtin.lenOf], fun w' _ => ?_, fun w' => ⟨_, run_underlying hu w', by simp⟩⟩
      · rw [List.getElem?_map] at hi
        cases hb : s.data.toList[i]? with
        | none => rw [hb] at hi; cases hi
        | some b =>
          rw [hb] at hi; simp at hi; subst hi
          refine ⟨rfl, fun j d hj => ?_⟩
          cases j with
          | succ j => simp at hj
          | zero => simp at hj; subst hj; exact ⟨.int .u8 b.toNat, by rw [List.getElem?_map]; simp [hb], rfl, .v _⟩
      · simp [Builtin.firstCells]
        apply Array.ext'
        simp
  | _ => simp [srcOk] at ho

section
variable {t u e : TypeId} {i : TypeInfo} {x : Value} {n : Nat} {w : World}
theorem append_room [Glob P] (ht : P.underlying t = some (.slice e)) (hi : P.info? e = some i) (hu : ∃ d, (underlying u).run P w = .ok d w ∧ (d = .string ∨ ∃ e', d = .slice e')) (ty : TypeId) (b o sLen sCap : Nat)
    (hl : (Builtin.lenOf x).run P w = .ok n w) (hroom : sLen + n ≤ sCap) {news : List Value} (hn : (Builtin.firstCells i.size n x).run P w = .ok news.toArray w) (h1 : ∀ v ∈ news, v.oneCell' = true)
    {cur : Array Value} (hg : w.heap[b]? = some (.cells cur e (0, 0))) (hfit : o + sLen * i.size + news.length ≤ cur.size) :
    (Builtin.append_ #[t, u] ty #[.slice (some ⟨b, o, none⟩) sLen sCap, x]).run P w = .ok (.slice (some ⟨b, o, none⟩) (sLen + n) sCap)
      (w.setRow b (cur.toList.take (o + sLen * i.size) ++ news ++ cur.toList.drop (o + sLen * i.size + news.length)).toArray) := by
  obtain ⟨d, hu, hd⟩ := hu
  have hst := run_storeCells_at P b (o + sLen * i.size) e news 0 cur w hg (by simpa using hfit) h1
  simp only [Nat.add_zero] at hst
  rcases hd with rfl | ⟨e', rfl⟩ <;> simp [Builtin.append_, run_underlying ht, hu, sizeOf, typeInfo, hi, hl, hroom, hn, add_mk, hst]
/-- nothing to append -/
theorem append_nothing [Glob P] (ht : P.underlying t = some (.slice e)) (hi : P.info? e = some i) (hu : ∃ d, (underlying u).run P w = .ok d w ∧ (d = .string ∨ ∃ e', d = .slice e')) (ty : TypeId) (a : Option Addr) (sLen sCap : Nat) (hle : sLen ≤ sCap)
    (hl : (Builtin.lenOf x).run P w = .ok 0 w) (hn : (Builtin.firstCells i.size 0 x).run P w = .ok #[] w) :
    (Builtin.append_ #[t, u] ty #[.slice a sLen sCap, x]).run P w = .ok (.slice a sLen sCap) w := by
  obtain ⟨d, hu, hd⟩ := hu
  rcases hd with rfl | ⟨e', rfl⟩ <;> cases a <;> simp [Builtin.append_, run_underlying ht, hu, sizeOf, typeInfo, hi, hl, hle, hn, storeCells]
theorem append_grow [Glob P] (ht : P.underlying t = some (.slice e)) (hi : P.info? e = some i) {z : Value} (hz : i.zero = some z) (hu : ∃ d, (underlying u).run P w = .ok d w ∧ (d = .string ∨ ∃ e', d = .slice e')) (ty : TypeId) (a : Option Addr) (sLen sCap : Nat)
    (hl : (Builtin.lenOf x).run P w = .ok n w) (hgr : sCap < sLen + n) {olds news : List Value} (ho : (Builtin.firstCells i.size sLen (.slice a sLen sCap)).run P w.drew = .ok olds.toArray w.drew)
    (hn : (Builtin.firstCells i.size n x).run P w.drew = .ok news.toArray w.drew) (h63 : sLen + n ≤ 9223372036854775807) (hby : (sLen + n) * i.bytes ≤ 140737488355328) :
    (Builtin.append_ #[t, u] ty #[.slice a sLen sCap, x]).run P w = .ok (.slice (some ⟨w.heap.size, 0, none⟩) (sLen + n) (grownCap w (sLen + n) sCap e))
      (w.drew.alloc (.cells ((olds ++ news).toArray ++ Builtin.zeroCells z.cells (grownCap w (sLen + n) sCap e - (sLen + n))) e)) := by
  obtain ⟨d, hu', hd⟩ := hu
  have h1 : ¬ (sLen + n ≤ sCap) := by omega
  have h63' : ¬ (9223372036854775807 < (sLen : Int) + (n : Int)) := by omega
  have h48 : ¬ (281474976710656 < Builtin.nextslicecap (sLen + n) sCap * i.bytes) := by have := growslice_fits (bytes := i.bytes) hgr hby; omega
  have e0 : ∀ Z : Array Value, (olds ++ news).toArray ++ Z = olds.toArray ++ (news.toArray ++ Z) := fun Z => by apply Array.ext'; simp
  rw [e0]
  rcases hd with rfl | ⟨e', rfl⟩ <;> simp [Builtin.append_, run_underlying ht, hu', sizeOf, typeInfo, zeroValue, hi, hz, hl, h1, h63', h48, Question.forced, ho, hn, newRow, grownCap]
end

theorem elemT_some [Glob P] {t e : TypeId} (h : elemT P t = some e) : P.underlying t = some (.slice e) := by unfold elemT at h; split at h <;> simp_all
theorem zero_of_len [Glob P] {t : TypeId} {i : TypeInfo} (hi : P.info? t = some i) (hl : (zeroCells P t).length = P.cellsOf t) (hp : 0 < P.cellsOf t) : ∃ z, i.zero = some z := by
  obtain ⟨i', z, h1, h2⟩ := zero_some (P := P) (t := t) (by omega)
  rw [hi] at h1; cases h1
  exact ⟨z, h2⟩

theorem grown_put [Glob P] {h h' : H} {g : Mem} {w : World} (hm : HM P h g w) {b : Nat} (hb : ¬ g.U b) {e : TypeId} {rows : List (List D)} {cs : List Value} (hr : RowsIn w g (P.cellsOf e) rows cs) (hp : 0 < P.cellsOf e) {z : Value} (hz : z.cells.size = P.cellsOf e)
    (hb' : h' b = some ⟨e, rows⟩) (hrr : ∀ r, r ≠ b → h' r = h r ∨ h' r = none) (c : Nat) (hc : rows.length ≤ c) (hc0 : 0 < c) (hmx : c ≤ maxLen) :
    ∃ g', Rep (w.drew.alloc (.cells (cs.toArray ++ Builtin.zeroCells z.cells (c - rows.length)) e)) g' (.mrow b 0 rows.length) (.slice (some ⟨w.heap.size, 0, none⟩) rows.length c) ∧
      HM P h' g' (w.drew.alloc (.cells (cs.toArray ++ Builtin.zeroCells z.cells (c - rows.length)) e)) ∧ Mono g g' w (w.drew.alloc (.cells (cs.toArray ++ Builtin.zeroCells z.cells (c - rows.length)) e)) ∧ ∀ r, g'.U r → g.U r ∨ r = b := by
  obtain ⟨g', h2, h3, h4, h5, h6⟩ := hm.put (h' := h') (w' := w.drew.alloc (.cells (cs.toArray ++ Builtin.zeroCells z.cells (c - rows.length)) e)) b w.heap.size c ⟨e, rows⟩ (cs.toArray ++ Builtin.zeroCells z.cells (c - rows.length)) (.inl hb) hb' hrr (.inl (Nat.le_refl _))
    (heap_alloc_new w.drew _) (by simp only [Array.size_append, List.size_toArray, size_zeroCells, hz, hr.1, ← Nat.add_mul]; congr 1; omega) hp hc hmx
    (hr.holds (by simp)) ⟨rfl, rfl, rfl, by simp, fun k hk _ => Below.heap_alloc w.drew _ k hk⟩
  refine ⟨g', .mrow b 0 rows.length _ ⟨_, _, rfl, hc, fun _ => ⟨_, rfl⟩⟩ ((h3 b).2 (.inr rfl)) fun blk c' sz he => ?_, h5, h6, fun r hr => (h3 r).1 hr⟩
  rw [h2] at he
  simp only [Option.some.injEq, Prod.mk.injEq] at he
  obtain ⟨rfl, rfl, rfl⟩ := he
  exact ⟨by omega, .inr ⟨by omega, w.heap.size, rfl, by simp⟩⟩
theorem rep_none {w : World} {g : Mem} {b sz : Nat} (hM : g.M b = some (none, 0, sz)) (hU : g.U b) (a : Option Addr) : Rep w g (.mrow b 0 0) (.slice a 0 0) :=
  .mrow b 0 0 _ ⟨_, _, rfl, Nat.le_refl _, fun h => absurd h (by omega)⟩ hU fun blk c s he => by
    rw [hM] at he
    simp only [Option.some.injEq, Prod.mk.injEq] at he
    obtain ⟨rfl, rfl, rfl⟩ := he
    exact ⟨Nat.le_refl _, .inl ⟨rfl, a, rfl⟩⟩

/-- APPEND. -/
theorem append_sound [Glob P] {h : H} {g : Mem} {w : World} (hm : HM P h g w) {t u : TypeId} {x y : D} {vx vy : Value} {b : Nat} (hb : ¬ g.U b) (hx : Rep w g x vx) (hy : Rep w g y vy) (hc : (appendD P t u x y h b).2.2) (ty : TypeId) :
    ∃ v g' w', (Builtin.append_ #[t, u] ty #[vx, vy]).run P w = .ok v w' ∧ Rep w' g' (appendD P t u x y h b).1 v ∧ HM P (appendD P t u x y h b).2.1 g' w' ∧ Mono g g' w w' ∧ ∀ r, g'.U r → g.U r ∨ r = b := by
  unfold appendD at hc ⊢
  cases he : elemT P t with
  | none => rw [he] at hc; exact hc.elim
  | some e =>
    rw [he] at hc
    simp only at hc ⊢
    have ht := elemT_some he
    -- what both arms share
    have common : (0 < P.cellsOf e ∧ (lenD x + (rowsOf y h).length) * P.bytesOf e ≤ 140737488355328 ∧ lenD x + (rowsOf y h).length ≤ 9223372036854775807) →
        ((rowsOf y h).length = lenD y ∧ srcOk P u h y = true ∧ zeroLen P e = true ∧ ∀ r ∈ rowsOf y h, r.length = P.cellsOf e) →
        ∃ i z news, P.info? e = some i ∧ i.size = P.cellsOf e ∧ i.bytes = P.bytesOf e ∧ i.zero = some z ∧ z.cells.size = P.cellsOf e ∧ RowsIn w g (P.cellsOf e) (rowsOf y h) news ∧ (Builtin.lenOf vy).run P w = .ok (rowsOf y h).length w ∧
          (∀ w', w'.heap = w.heap → (Builtin.firstCells i.size (rowsOf y h).length vy).run P w' = .ok news.toArray w') ∧ (∃ d, (underlying u).run P w = .ok d w ∧ (d = .string ∨ ∃ e', d = .slice e')) := by
      rintro ⟨a1, a2, a3⟩ ⟨b1, b2, b3, b4⟩
      obtain ⟨i, hi, hs⟩ := info_of_pos a1
      unfold zeroLen at b3
      cases hz : i.zero with
      | none => simp [hi, hz] at b3
      | some z =>
        simp only [hi, hz, Option.bind_some, beq_iff_eq] at b3
        obtain ⟨news, r1, r2, r3, r4⟩ := rows_read hm hy a1 b1 b4 b2
        exact ⟨i, z, news, hi, hs, by simp [Program.bytesOf, hi], hz, b3, r1, by rw [b1]; exact r2 w, by rw [b1, hs]; exact r3, r4 w⟩
    split at hc
    case h_3 => exact hc.elim
    case h_1 rows =>
      obtain ⟨hsz, hsrc, hne, hrl⟩ := hc
      simp only [lenD] at hsz common
      obtain ⟨i, z, news, hi, hs, hby, hz, hzs, hR, hlen, hfc, hu⟩ := common hsz hsrc
      by_cases hn : rowsOf y h = []
      · have hr0 := hne hn
        subst hr0
        rw [hn] at hlen hfc hR ⊢
        have : news = [] := List.eq_nil_of_length_eq_zero (by simpa using hR.1)
        subst this
        obtain ⟨g', g1, g2, g3, g4, g5⟩ := hm.putNone (h' := upd h b (some ⟨e, []⟩)) b ⟨e, []⟩ hb (upd_same _ _ _) (fun r hr => .inl (upd_ne _ _ _ _ hr)) hsz.1 rfl
        have hv : ∃ a, vx = .slice a 0 0 := by
          cases hx with
          | empty full a cap hf hmx => rw [hf rfl]; exact ⟨a, rfl⟩
          | list full rows ad cap size cv hI hl hf hmx hs' hc' hr' => rw [hf rfl]; exact ⟨_, rfl⟩
        obtain ⟨a, rfl⟩ := hv
        exact ⟨.slice a 0 0, g', w, append_nothing ht hi hu ty a 0 0 (Nat.le_refl _) hlen (hfc w rfl), rep_none g1 ((g2 b).2 (.inr rfl)) a, g4, g5, fun r hr => (g2 r).1 hr⟩
      · have hpos : 0 < (rowsOf y h).length := List.length_pos_iff.2 hn
        obtain ⟨olds, o1, o2, o3, _⟩ := rows_read hm hx (u := t) hsz.1 (by simp [rowsOf, lenD]) hrl (by simp [srcOk, he])
        simp only [rowsOf, lenD] at o1 o2 o3
        have hv : ∃ a, vx = .slice a rows.length rows.length := by
          cases hx with
          | empty full a cap hf hmx => rw [hf rfl]; exact ⟨a, rfl⟩
          | list full rows ad cap size cv hI hl hf hmx hs' hc' hr' => rw [hf rfl]; exact ⟨_, rfl⟩
        obtain ⟨a, rfl⟩ := hv
        have hap := append_grow (P := P) ht hi hz hu ty a rows.length rows.length hlen (by omega) (by rw [hs]; exact o3 w.drew rfl) (hfc w.drew rfl) hsz.2.2 (by rw [hby]; exact hsz.2.1)
        have hge := grownCap_ge w (rows.length + (rowsOf y h).length) rows.length e
        obtain ⟨g', k1, k2, k3, k4⟩ := grown_put (h' := upd h b (some ⟨e, rows ++ rowsOf y h⟩)) hm hb (o1.append hR) hsz.1 hzs (upd_same _ _ _) (fun r hr => .inl (upd_ne _ _ _ _ hr)) (grownCap w (rows.length + (rowsOf y h).length) rows.length e) (by simpa using hge) (by omega)
          (grownCap_le_maxLen _ _ _ _ (by simp only [maxLen]; exact hsz.2.2))
        simp only [List.length_append] at k1 k2 k3
        exact ⟨_, g', _, hap, k1, k2, k3, k4⟩
    case h_2 r n =>
      cases hr : h r with
      | none => rw [hr] at hc; exact hc.elim
      | some bl =>
        rw [hr] at hc
        simp only at hc ⊢
        obtain ⟨hsz, hsrc, rfl, rfl, hrb⟩ := hc
        simp only [lenD] at hsz common
        obtain ⟨i, z, news, hi, hs, hby, hz, hzs, hR, hlen, hfc, hu⟩ := common hsz hsrc
        have hh' : ∀ r', r' ≠ b → upd (upd h r none) b (some ⟨bl.ty, bl.rows ++ rowsOf y h⟩) r' = h r' ∨ upd (upd h r none) b (some ⟨bl.ty, bl.rows ++ rowsOf y h⟩) r' = none := by
          intro r' hr'
          rw [upd_ne _ _ _ _ hr']
          by_cases e1 : r' = r
          · subst e1; exact .inr (upd_same _ _ _)
          · exact .inl (upd_ne _ _ _ _ e1)
        obtain ⟨blk, c, q1, q2, q3, q4, q5⟩ := hm.blk r bl hr
        cases hx with | mrow _ _ _ _ hxx hU hv =>
        obtain ⟨q6, q7⟩ := hv _ _ _ q1
        have grow : ∀ a cap, vx = .slice a bl.rows.length cap → cap < bl.rows.length + (rowsOf y h).length → ∃ v g' w', (Builtin.append_ #[t, u] ty #[vx, vy]).run P w = .ok v w' ∧ Rep w' g' (.mrow b 0 (bl.rows.length + (rowsOf y h).length)) v ∧
            HM P (upd (upd h r none) b (some ⟨bl.ty, bl.rows ++ rowsOf y h⟩)) g' w' ∧ Mono g g' w w' ∧ ∀ r, g'.U r → g.U r ∨ r = b := by
          rintro a cap rfl hcap
          have hrx : rowsOf (.mrow r 0 bl.rows.length) h = bl.rows := by simp [rowsOf, hr]
          obtain ⟨olds, o1, o2, o3, _⟩ := rows_read hm (.mrow r 0 bl.rows.length _ hxx hU hv) (u := t) hsz.1 (by simp [hrx, lenD]) (by
            rw [hrx]
            intro row hrow
            obtain ⟨k, hk, rfl⟩ := List.getElem_of_mem hrow
            rcases q5 with ⟨_, rfl⟩ | ⟨b', cur, _, _, _, _, k9⟩
            · omega
            · exact (k9 k _ (List.getElem?_eq_getElem hk)).1) (by simp [srcOk, he, hr])
          rw [hrx] at o1
          simp only [lenD] at o2 o3
          have hap := append_grow (P := P) ht hi hz hu ty a bl.rows.length cap hlen hcap (by rw [hs]; exact o3 w.drew rfl) (hfc w.drew rfl) hsz.2.2 (by rw [hby]; exact hsz.2.1)
          have hge := grownCap_ge w (bl.rows.length + (rowsOf y h).length) cap bl.ty
          obtain ⟨g', k1, k2, k3, k4⟩ := grown_put (h' := upd (upd h r none) b (some ⟨bl.ty, bl.rows ++ rowsOf y h⟩)) hm hb (o1.append hR) hsz.1 hzs (upd_same _ _ _) hh' (grownCap w (bl.rows.length + (rowsOf y h).length) cap bl.ty) (by simpa using hge) (by omega)
            (grownCap_le_maxLen _ _ _ _ (by simp only [maxLen]; exact hsz.2.2))
          simp only [List.length_append] at k1 k2 k3
          exact ⟨_, g', _, hap, k1, k2, k3, k4⟩
        rcases q7 with ⟨hc0, a, rfl⟩ | ⟨hc0, b0, rfl, rfl⟩
        · have hl0 : bl.rows.length = 0 := by omega
          by_cases hn : rowsOf y h = []
          · rw [hn] at hlen hfc hR ⊢
            have : news = [] := List.eq_nil_of_length_eq_zero (by simpa using hR.1)
            subst this
            rw [List.eq_nil_of_length_eq_zero hl0]
            obtain ⟨g', g1, g2, g3, g4, g5⟩ := hm.putNone (h' := upd (upd h r none) b (some ⟨bl.ty, [] ++ []⟩)) b ⟨bl.ty, []⟩ hb (upd_same _ _ _) (by rw [hn, List.eq_nil_of_length_eq_zero hl0] at hh'; exact hh') hsz.1 rfl
            exact ⟨.slice a 0 0, g', w, append_nothing ht hi hu ty a 0 0 (Nat.le_refl _) hlen (hfc w rfl), rep_none g1 ((g2 b).2 (.inr rfl)) a, g4, g5, fun r hr => (g2 r).1 hr⟩
          · have hpos : 0 < (rowsOf y h).length := List.length_pos_iff.2 hn
            exact grow a 0 (by rw [hl0]) (by omega)
        · rcases q5 with ⟨q5, _⟩ | ⟨b', cur, q5, k1, k2, k3, k4⟩
          · cases q5
          cases q5
          simp only [Nat.zero_mul, Nat.sub_zero] at *
          by_cases hroom : bl.rows.length + (rowsOf y h).length ≤ c
          · have hnl : news.length = (rowsOf y h).length * P.cellsOf bl.ty := hR.1
            have hfit : bl.rows.length * P.cellsOf bl.ty + news.length ≤ cur.size := by
              rw [hnl, k2, ← Nat.add_mul]; exact Nat.mul_le_mul_right _ hroom
            have hap := append_room (P := P) ht hi hu ty b0 0 bl.rows.length c hlen hroom (hfc w rfl) hR.one k1 (by rw [hs]; simpa using hfit)
            rw [hs] at hap
            simp only [Nat.zero_add] at hap
            have hO := k4.rowsIn 0 bl.rows.length (by omega) (by rw [k2]; exact Nat.mul_le_mul_right _ q3)
            simp only [List.drop_zero, List.take_length, Nat.zero_mul] at hO
            have hA := hO.append hR
            generalize hnew : (List.take (bl.rows.length * P.cellsOf bl.ty) cur.toList ++ news ++ List.drop (bl.rows.length * P.cellsOf bl.ty + news.length) cur.toList) = new at hap
            have hsize : new.length = cur.size := by rw [← hnew]; simp; omega
            obtain ⟨g', g1, g2, g3, g4, g5⟩ := hm.put (h' := upd (upd h r none) b (some ⟨bl.ty, bl.rows ++ rowsOf y h⟩)) (w' := w.setRow b0 new.toArray) b b0 c ⟨bl.ty, bl.rows ++ rowsOf y h⟩ new.toArray (.inl hb) (upd_same _ _ _) hh'
              (.inr ⟨r, c, _, q1, .inr (by rw [upd_ne _ _ _ _ hrb]; exact upd_same _ _ _)⟩) (setRow_heap w b0 cur _ bl.ty _ k1) (by simp [hsize, k2]) hsz.1 (by simpa using hroom) q4
              (hA.holds (by rw [← hnew]; simp only [List.append_assoc]; rw [← List.append_assoc]; exact List.take_left))
              ⟨rfl, rfl, rfl, by simp, fun k _ hk => setRow_other w b0 k _ (fun e => hk (by rw [e]))⟩
            refine ⟨_, g', _, hap, .mrow b 0 _ _ ⟨_, _, rfl, hroom, fun _ => ⟨_, rfl⟩⟩ ((g2 b).2 (.inr rfl)) fun blk c' sz he => ?_, g4, g5, fun r hr => (g2 r).1 hr⟩
            rw [g1] at he
            simp only [Option.some.injEq, Prod.mk.injEq] at he
            obtain ⟨rfl, rfl, rfl⟩ := he
            exact ⟨by omega, .inr ⟨hc0, b0, rfl, by simp⟩⟩
          · exact grow _ c rfl (by omega)
end Go.DL
