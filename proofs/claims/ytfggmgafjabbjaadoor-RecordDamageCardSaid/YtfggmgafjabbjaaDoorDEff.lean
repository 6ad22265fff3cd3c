/-
  THE D LAYER, 8: every operation that is no call of a function does as the evaluator says. Conditions: none.
-/
import Derived.Test.YtfggmgafjabbjaaDoorDApp
namespace Go.DL
open Go.RowKit
variable {P : Program}

theorem Rep.agg_inv {w : World} {g : Mem} {ds : List D} {v : Value} (h : Rep w g (.agg ds) v) : ∃ vs, v = .agg vs ∧ Reps w g ds vs.toList := by
  cases h with | agg _ vs hn hv => exact ⟨vs, rfl, by simpa using hn, fun i d x h1 h2 => hv i d x h1 (by simpa using h2)⟩
theorem Rep.tuple_inv {w : World} {g : Mem} {ds : List D} {v : Value} (h : Rep w g (.tuple ds) v) : ∃ vs, v = .tuple vs ∧ Reps w g ds vs.toList := by
  cases h with | tuple _ vs hn hv => exact ⟨vs, rfl, by simpa using hn, fun i d x h1 h2 => hv i d x h1 (by simpa using h2)⟩
theorem Rep.mk_agg {w : World} {g : Mem} {ds : List D} {vs : Array Value} (h : Reps w g ds vs.toList) : Rep w g (.agg ds) (.agg vs) :=
  .agg ds vs (by simpa using h.1) fun i d x h1 h2 => h.2 i d x h1 (by simpa using h2)
theorem Rep.mk_tuple {w : World} {g : Mem} {ds : List D} {vs : Array Value} (h : Reps w g ds vs.toList) : Rep w g (.tuple ds) (.tuple vs) :=
  .tuple ds vs (by simpa using h.1) fun i d x h1 h2 => h.2 i d x h1 (by simpa using h2)

/-! ### pointers -/
theorem ptrAdd_rep {w : World} {g : Mem} {a : D} {va : Value} (ha : Rep w g a va) (hp : isPtr a = true) (n : Nat) : ∃ p, va = .pointer (some p) ∧ Rep w g (ptrAdd n a) (.pointer (some (p.add n))) := by
  cases ha with
  | eptr cs p cv hI hc hr =>
    refine ⟨p, rfl, .eptr _ _ (fun j => cv (n + j)) (by rw [block_add]; exact hI) (fun j d hj => ?_) (fun j d hj => ?_)⟩
    · rw [List.getElem?_drop] at hj
      rw [add_add']; exact hc _ d hj
    · rw [List.getElem?_drop] at hj
      exact hr _ d hj
  | mptr r i off x hx hU hv =>
    obtain ⟨p, rfl⟩ := hx
    refine ⟨p, rfl, .mptr r i (off + n) _ ⟨_, rfl⟩ hU fun blk c sz he => ?_⟩
    obtain ⟨b, h1, h2⟩ := hv blk c sz he
    refine ⟨b, h1, ?_⟩
    simp only [Value.pointer.injEq, Option.some.injEq] at h2
    rw [h2, add_mk, Nat.add_assoc]
  | v =>
    unfold isPtr at hp
    split at hp
    · rename_i e; cases e
    · rename_i e; cases e
    · rename_i p e; cases e; exact ⟨_, rfl, .v _⟩
    · cases hp
  | _ => simp [isPtr] at hp
theorem isPtr_of_gp {a : D} (h : isGp a = true) : isPtr a = true := by
  unfold isGp at h
  split at h
  · rfl
  · rfl
  · cases h
theorem fieldPtr_sound [Glob P] {w : World} {g : Mem} {s : TypeId} {f : Nat} {a : D} {va : Value} (ha : Rep w g a va) (hc : (fieldPtr P s f a).2) : ∃ v, (Instr.fieldAt s va f).run P w = .ok v w ∧ Rep w g (fieldPtr P s f a).1 v := by
  unfold fieldPtr at hc ⊢
  cases hf : fld P s f with
  | none => rw [hf] at hc; exact hc.elim
  | some ot =>
    obtain ⟨off, t⟩ := ot
    rw [hf] at hc
    obtain ⟨h1, h2⟩ := hc
    obtain ⟨p, rfl, h3⟩ := ptrAdd_rep ha h1 off
    refine ⟨_, ?_, h3⟩
    unfold fld at hf
    split at hf
    case h_2 => cases hf
    rename_i fs hfs
    cases hff : fs[f]? with
    | none => rw [hff] at hf; cases hf
    | some fd =>
      rw [hff] at hf
      simp only [Option.map_some, Option.some.injEq, Prod.mk.injEq] at hf
      obtain ⟨rfl, rfl⟩ := hf
      have h4 := sizeOf_run (P := P) (t := fd.type) (by omega) w
      simp [Instr.fieldAt, run_underlying hfs, hff, Instr.sureAddr, fieldPlace, h4, h2]
theorem fieldV_sound [Glob P] {w : World} {g : Mem} {s : TypeId} {f : Nat} {a : D} {va : Value} (ha : Rep w g a va) (hc : (fieldV P s f a).2) : ∃ v, (Instr.field s va f).run P w = .ok v w ∧ Rep w g (fieldV P s f a).1 v := by
  unfold fieldV at hc ⊢
  split at hc
  case h_2 => exact hc.elim
  rename_i off t cs hf
  obtain ⟨h1, h2, h3⟩ := hc
  obtain ⟨vs, rfl, hv⟩ := ha.agg_inv
  obtain ⟨v, h4, h5⟩ := part_sound (P := P) hv h1 h2 h3
  refine ⟨v, ?_, h5⟩
  unfold fld at hf
  split at hf
  case h_2 => cases hf
  rename_i fs hfs
  cases hff : fs[f]? with
  | none => rw [hff] at hf; cases hf
  | some fd =>
    rw [hff] at hf
    simp only [Option.map_some, Option.some.injEq, Prod.mk.injEq] at hf
    obtain ⟨rfl, rfl⟩ := hf
    simp [Instr.field, run_underlying hfs, hff, asAgg, h4]

/-- A slice's element. -/
theorem idxPtr_sound [Glob P] {h : H} {g : Mem} {w : World} (hm : HM P h g w) {t : TypeId} {x ix : D} {vx vi : Value} (hx : Rep w g x vx) (hi : Rep w g ix vi) (hc : (idxPtr P t x ix h).2) : ∃ v, (Instr.indexAt t vx vi).run P w = .ok v w ∧ Rep w g (idxPtr P t x ix h).1 v := by
  unfold idxPtr at hc ⊢
  cases he : elemT P t with
  | none =>
    rw [he] at hc
    simp only at hc ⊢
    unfold idxArr at hc ⊢
    split at hc
    case h_2 => exact hc.elim
    rename_i n e k kk ha
    obtain ⟨c1, c2, c3, c4⟩ := hc
    obtain ⟨p, rfl, h3⟩ := ptrAdd_rep hx (isPtr_of_gp c1) (kk.toNat * P.cellsOf e)
    rw [hi.v_inv]
    refine ⟨_, ?_, h3⟩
    unfold arrT at ha
    split at ha
    case h_2 => cases ha
    rename_i n' e' hu
    cases ha
    simp [Instr.indexAt, asIntOf, run_underlying hu, Instr.sureAddr, c2, c3, sizeOf_run c4]
  | some e =>
  rw [he] at hc
  simp only at hc ⊢
  have hu := elemT_some he
  split at hc
  case h_3 => exact hc.elim
  case h_1 full rows k n =>
    rw [hi.v_inv]
    obtain ⟨c1, c2, c3, c4⟩ := hc
    have hlt : n.toNat < rows.length := by omega
    cases hx with
    | empty => simp at hlt
    | list full rows ad cap size cv hI hl hf hmx hs hcc hr =>
      have hsz : size = P.cellsOf e := by
        rw [← c4, ← hs (rows.getD n.toNat []) (by simp [List.getD, List.getElem?_eq_getElem hlt])]
      subst hsz
      refine ⟨.pointer (some (ad.add (n.toNat * P.cellsOf e))), ?_, ?_⟩
      · have h2 : n < (rows.length : Int) := c2
        simp [Instr.indexAt, asIntOf, run_underlying hu, c1, h2, sizeOf_run c3]
      · have hrow : rows[n.toNat]? = some (rows.getD n.toNat []) := by simp [List.getD, List.getElem?_eq_getElem hlt]
        refine .eptr _ _ (fun j => cv n.toNat j) (by rw [block_add]; exact hI) (fun j d hj => ?_) (fun j d hj => hr _ _ _ _ hrow hj)
        rw [add_add']
        exact (hcc _ _ _ _ hrow hj).1
  case h_2 r off len k n =>
    rw [hi.v_inv]
    obtain ⟨c1, c2, c3, c4⟩ := hc
    cases hr : h r with
    | none => rw [hr] at c4; exact c4.elim
    | some bl =>
      rw [hr] at c4
      simp only at c4
      subst c4
      cases hx with | mrow _ _ _ _ hxx hU hv =>
      obtain ⟨a, c, rfl, h1, h2⟩ := hxx
      obtain ⟨p, rfl⟩ := h2 (by omega)
      refine ⟨.pointer (some (p.add (n.toNat * P.cellsOf bl.ty))), ?_, .mptr _ _ _ _ ⟨_, rfl⟩ hU fun blk c' sz hM => ?_⟩
      · simp [Instr.indexAt, asIntOf, run_underlying hu, c1, c2, sizeOf_run c3]
      · obtain ⟨blk', c'', q1, _⟩ := hm.blk r bl hr
        rw [hM] at q1
        simp only [Option.some.injEq, Prod.mk.injEq] at q1
        obtain ⟨_, q2⟩ := hv _ _ _ hM
        rcases q2 with ⟨rfl, a, q2⟩ | ⟨_, b, q3, q4⟩
        · omega
        · refine ⟨b, q3, ?_⟩
          simp only [Value.slice.injEq, Option.some.injEq] at q4
          rw [q4.1, add_mk, q1.2.2, ← Nat.add_mul]
          rfl
/-- A letter of a string. -/
theorem idxV_sound [Glob P] {g : Mem} {w : World} {t : TypeId} {x ix : D} {vx vi : Value} (hx : Rep w g x vx) (hi : Rep w g ix vi) (hc : (idxV P t x ix).2) : ∃ v, (Instr.index t vx vi).run P w = .ok v w ∧ Rep w g (idxV P t x ix).1 v := by
  unfold idxV at hc ⊢
  split at hc
  case h_2 => exact hc.elim
  rename_i s k n
  obtain ⟨c1, c2, c3⟩ := hc
  rw [hx.v_inv, hi.v_inv]
  refine ⟨_, ?_, .v _⟩
  have hlt : n.toNat < s.size := by omega
  have e : s[n.toNat]? = some (s.data.toList.getD n.toNat 0) := by
    rw [ByteArray.getElem?_lt' s n.toNat hlt]
    have hlt' : n.toNat < s.data.size := hlt
    simp only [List.getD, Array.getElem?_toList, Array.getElem?_eq_getElem hlt', Option.getD_some]
    rfl
  simp [Instr.index, asIntOf, run_underlying c3, c1, e]
theorem unD_sound {g : Mem} {w : World} {op : UnOp} {x : D} {vx : Value} (hx : Rep w g x vx) (hc : (unD op x).2) : ∃ v, (Op.unary op vx).run P w = .ok v w ∧ Rep w g (unD op x).1 v := by
  unfold unD at hc ⊢
  split at hc
  · rw [hx.v_inv]; exact ⟨_, by simp [Op.unary], .v _⟩
  · rw [hx.v_inv]; exact ⟨_, by simp [Op.unary, Op.intArith, wrap_in hc], .v _⟩
  · exact hc.elim
theorem convD_sound [Glob P] {g : Mem} {w : World} {src dst : TypeId} {x : D} {vx : Value} (hx : Rep w g x vx) (hc : (convD P src dst x).2) : ∃ v, (convert src dst vx).run P w = .ok v w ∧ Rep w g (convD P src dst x).1 v := by
  unfold convD at hc ⊢
  split at hc
  · rename_i k k' n hd
    obtain ⟨d, hs⟩ := Option.isSome_iff_exists.1 hc
    rw [hx.v_inv]
    exact ⟨.int k (k.wrap n), by simp [convert, run_underlying hs, run_underlying hd, Conv.intToInt], .v _⟩
  · rename_i s hd
    rw [hx.v_inv]
    split at hc
    · rename_i hs
      exact ⟨_, by simp [convert, run_underlying hs, run_underlying hd], .v _⟩
    · exact hc.elim
  · rename_i full rows hd
    obtain ⟨h1, h2⟩ := hc
    unfold byteSl at h1
    split at h1
    case h_2 => cases h1
    rename_i e hs
    split at h1
    case h_2 => cases h1
    rename_i he
    have key : ∀ (a : Option Addr) (n c : Nat), vx = .slice a n c → (convert src dst vx).run P w = (Conv.bytesToString (.slice a n c)).run P w := by
      intro a n c e; subst e; exact run_convert_bytes_string w src dst _ a n c hs he hd
    cases hx with
    | empty full a cap hf hm =>
      refine ⟨_, ?_, .v _⟩
      rw [key _ _ _ rfl]
      cases a with
      | none => simp [Conv.bytesToString]; rfl
      | some a =>
        rw [run_bytesToString w a 0 cap [] (by have := run_loadCells (P := P) w a 0 (fun _ => undef) (fun j hj => by omega); simpa using this)]
        rfl
    | list full rows ad cap size cv hi hl hf hm hs' hcc hr =>
      have hrow : ∀ i (hi : i < rows.length), ∃ n, rows[i] = [.v (.int .u8 n)] := by
        intro i hi
        have h3 := List.all_eq_true.1 h2 rows[i] (List.getElem_mem hi)
        unfold isByte at h3
        split at h3
        · exact ⟨_, by assumption⟩
        · cases h3
      have hex : ∀ i, ∃ n, i < rows.length → rows[i]? = some [.v (.int .u8 n)] := by
        intro i
        by_cases hi : i < rows.length
        · obtain ⟨n, h⟩ := hrow i hi; exact ⟨n, fun _ => by rw [List.getElem?_eq_getElem hi, h]⟩
        · exact ⟨0, fun h => absurd h hi⟩
      obtain ⟨f, hf'⟩ : ∃ f : Nat → Int, ∀ i, i < rows.length → rows[i]? = some [.v (.int .u8 (f i))] := ⟨fun i => Classical.choose (hex i), fun i => Classical.choose_spec (hex i)⟩
      refine ⟨_, ?_, .v _⟩
      rw [key _ _ _ rfl]
      have hcell : ∀ j, j < rows.length → w.cell? (ad.add j) = some (.int .u8 (f j)) := by
        intro j hj
        have h4 := hf' j hj
        have hsz : size = 1 := by rw [← hs' _ (List.mem_of_getElem? h4)]; rfl
        obtain ⟨h5, _⟩ := hcc j 0 _ _ h4 rfl
        have h6 := (hr j 0 _ _ h4 rfl).v_inv
        rw [hsz, Nat.mul_one, Nat.add_zero, h6] at h5
        exact h5
      have hload := run_loadCells (P := P) w ad rows.length (fun j => .int .u8 (f j)) hcell
      rw [run_bytesToString w ad rows.length cap ((List.range rows.length).map f) (by rw [hload, List.map_map]; rfl)]
      congr 2
      have hfold : ∀ (l : List Int) (r : ByteArray), l.foldl (fun r n => r.push (UInt8.ofNat n.toNat)) r = ⟨r.data ++ (l.map fun n => UInt8.ofNat n.toNat).toArray⟩ := by
        intro l
        induction l with
        | nil => intro r; simp
        | cons n l ih =>
          intro r
          rw [List.foldl_cons, ih]
          congr 1
          apply Array.ext'
          simp [ByteArray.push]
      rw [hfold]
      congr 1
      apply Array.ext'
      have he2 : ByteArray.empty.data = #[] := rfl
      rw [he2]
      simp only [Array.toList_append, List.nil_append]
      apply List.ext_getElem?
      intro i
      by_cases hi : i < rows.length
      · have h4 := hf' i hi
        have h5 : (List.range rows.length)[i]? = some i := List.getElem?_range hi
        simp only [List.getElem?_map, h4, h5, Option.map_some]
        rfl
      · rw [List.getElem?_eq_none (by simp only [List.length_map, List.length_range]; omega), List.getElem?_eq_none (by simp only [List.length_map]; omega)]
  · exact hc.elim
theorem minI_sound {g : Mem} {w : World} {xs : List D} {vs : List Value} (hx : Reps w g xs vs) (hc : (minI xs).2) (a : Array TypeId) (t : TypeId) : ∃ v, (Builtin.min_ a t vs.toArray).run P w = .ok v w ∧ Rep w g (minI xs).1 v := by
  unfold minI at hc ⊢
  split at hc
  · obtain ⟨x, l, rfl, h1, h2⟩ := hx.of_cons
    obtain ⟨y, l, rfl, h3, h4⟩ := h2.of_cons
    rw [h4.of_nil, h1.v_inv, h3.v_inv]
    subst hc
    rename_i k a b
    refine ⟨.int k (min a b), ?_, .v _⟩
    have e : (if b < a then b else a) = min a b := by omega
    simp [Builtin.min_, Builtin.min2, e]
  · exact hc.elim
theorem maxI_sound {g : Mem} {w : World} {xs : List D} {vs : List Value} (hx : Reps w g xs vs) (hc : (maxI xs).2) (a : Array TypeId) (t : TypeId) : ∃ v, (Builtin.max_ a t vs.toArray).run P w = .ok v w ∧ Rep w g (maxI xs).1 v := by
  unfold maxI at hc ⊢
  split at hc
  · obtain ⟨x, l, rfl, h1, h2⟩ := hx.of_cons
    obtain ⟨y, l, rfl, h3, h4⟩ := h2.of_cons
    rw [h4.of_nil, h1.v_inv, h3.v_inv]
    subst hc
    rename_i k a b
    refine ⟨.int k (max a b), ?_, .v _⟩
    have e : (if a < b then b else a) = max a b := by omega
    simp [Builtin.max_, Builtin.max2, e]
  · exact hc.elim
theorem len_sound [Glob P] {g : Mem} {w : World} {t ty : TypeId} {x : D} {vx : Value} (hx : Rep w g x vx) (hc : lenOk P t x = true) : (Builtin.len_ #[t] ty #[vx]).run P w = .ok (.int .i64 (lenD x)) w := by
  unfold lenOk at hc
  split at hc
  · obtain ⟨e, he⟩ := Option.isSome_iff_exists.1 hc
    cases hx with
    | empty => simp [Builtin.len_, run_underlying (elemT_some he), goInt, lenD]
    | list => simp [Builtin.len_, run_underlying (elemT_some he), goInt, lenD]
  · obtain ⟨e, he⟩ := Option.isSome_iff_exists.1 hc
    cases hx with | mrow _ _ _ _ hxx hU hv =>
    obtain ⟨a, c, rfl, _⟩ := hxx
    simp [Builtin.len_, run_underlying (elemT_some he), goInt, lenD]
  · rename_i s
    have hu : P.underlying t = some .string := by split at hc <;> simp_all
    rw [hx.v_inv]
    simp [Builtin.len_, run_underlying hu, goInt, lenD]
  · cases hc

/-! ### parts of slices and strings -/
def OptRep (w : World) (g : Mem) (o : Option D) (vo : Option Value) : Prop := match o, vo with | some x, some v => Rep w g x v | none, none => True | _, _ => False
def optB (vo : Option Value) (d y : Nat) (code : BoundsCode) : Sem Nat := match vo with | some v => Instr.sliceBound v y code | none => pure d
theorem bound_run [Glob P] {o : Option D} {vo : Option Value} {d : Nat} {y : Nat} {w : World} {g : Mem} (hr : OptRep w g o vo) (hk : bndOk o = true) (h0 : 0 ≤ bnd o d) (hle : bnd o d ≤ y) (code : BoundsCode) :
    (optB vo d y code).run P w = .ok (bnd o d).toNat w := by
  unfold OptRep at hr
  split at hr
  · rename_i x v
    unfold bndOk at hk
    split at hk
    · rename_i e; cases e
    · rename_i k n e
      cases e
      rw [hr.v_inv]
      simp only [bnd] at h0 hle ⊢
      simp [optB, Instr.sliceBound, asIntOf, h0, hle]
    · cases hk
  · simp [optB, bnd]
  · exact hr.elim
theorem bounds_run [Glob P] {b : Bool} {len cap l h : Nat} {vl vh : Option Value} {w : World} (c1 : (optB vh len cap (if b then .sliceAcap else .sliceAlen)).run P w = .ok h w) (c2 : (optB vl 0 h .sliceB).run P w = .ok l w) :
    (Instr.sliceBounds b len cap vl vh none).run P w = .ok (l, h, cap) w := by
  cases vh <;> cases vl <;> simp_all [Instr.sliceBounds, optB]
theorem bounds3_run [Glob P] {b : Bool} {len cap l h m : Nat} {vl : Option Value} {vh vm : Value} {w : World} (c0 : (Instr.sliceBound vm cap (if b then .slice3Acap else .slice3Alen)).run P w = .ok m w) (c1 : (Instr.sliceBound vh m .slice3B).run P w = .ok h w) (c2 : (optB vl 0 h .slice3C).run P w = .ok l w) :
    (Instr.sliceBounds b len cap vl (some vh) (some vm)).run P w = .ok (l, h, m) w := by
  cases vl <;> simp_all [Instr.sliceBounds, optB]

theorem sliceAt_run [Glob P] {t e : TypeId} (hu : P.underlying t = some (.slice e)) (he : 0 < P.cellsOf e) {a : Option Addr} {len cap l h m : Nat} {vl vh vm : Option Value} {w : World} (hb : (Instr.sliceBounds true len cap vl vh vm).run P w = .ok (l, h, m) w) :
    (Instr.sliceAt t (.slice a len cap) vl vh vm).run P w = .ok (.slice (if m = l then a else a.map (·.add (l * P.cellsOf e))) (h - l) (m - l)) w := by
  simp [Instr.sliceAt, Instr.slice, run_underlying hu, hb, sizeOf_run he]

theorem list_cut {w : World} {g : Mem} {full : Bool} {rows : List (List D)} {ao : Option Addr} {len cap e : Nat} (hx : Rep w g (.list full rows) (.slice ao len cap)) (he : 0 < e) (hs : ∀ r ∈ rows, r.length = e) (lo hi m : Nat) (h1 : lo ≤ hi) (h2 : hi ≤ rows.length) (h3 : hi ≤ m) (h4 : m ≤ cap) (f : Bool) (hf : f = true → m = hi) :
    Rep w g (.list f ((rows.take hi).drop lo)) (.slice (if m = lo then ao else ao.map (·.add (lo * e))) (hi - lo) (m - lo)) := by
  by_cases hz : (rows.take hi).drop lo = []
  · rw [hz]
    have hlen : hi - lo = 0 := by
      have := congrArg List.length hz; simp at this; omega
    have hm : cap ≤ maxLen := by cases hx <;> assumption
    rw [hlen]
    exact .empty f _ _ (fun h => by have := hf h; omega) (by omega)
  · cases hx with
    | empty => simp at hz
    | list full rows ad cap size cv hI hl hff hmx hss hcc hr =>
      have hlt : lo < hi := by
        rcases Nat.lt_or_ge lo hi with h | h
        · exact h
        · exfalso; apply hz; apply List.drop_eq_nil_of_le; simp; omega
      rw [if_neg (by omega)]
      have hse : size = e := by
        have h0 : 0 < rows.length := by omega
        rw [← hss rows[0] (by simp), hs rows[0] (by simp)]
      subst hse
      have hlen : hi - lo = ((rows.take hi).drop lo).length := by simp; omega
      rw [hlen]
      have hg : ∀ (i : Nat) r, ((rows.take hi).drop lo)[i]? = some r → rows[lo + i]? = some r := by
        intro i r hir
        rw [List.getElem?_drop, List.getElem?_take] at hir
        split at hir
        · exact hir
        · cases hir
      refine .list f _ _ _ size (fun i j => cv (lo + i) j) (by rw [block_add]; exact hI) (by omega) (fun h => by have := hf h; omega) (by omega) (fun r hr => hs r (List.mem_of_mem_take (List.mem_of_mem_drop hr))) (fun i j r d h5 h6 => ?_) (fun i j r d h5 h6 => hr _ _ _ _ (hg i r h5) h6)
      have := hcc _ _ _ _ (hg i r h5) h6
      rw [add_add']
      have e2 : lo * size + (i * size + j) = (lo + i) * size + j := by rw [Nat.add_mul]; omega
      rw [e2]
      exact this

theorem slice_sound [Glob P] {h : H} {g : Mem} {w : World} (hm : HM P h g w) {t : TypeId} {x : D} {l hh m : Option D} {vx : Value} {vl vh vm : Option Value} (hx : Rep w g x vx) (hl : OptRep w g l vl) (hh' : OptRep w g hh vh) (hmm : OptRep w g m vm) (hc : (sliceD P t x l hh m h).2) :
    ∃ v, (Instr.sliceAt t vx vl vh vm).run P w = .ok v w ∧ Rep w g (sliceD P t x l hh m h).1 v := by
  unfold sliceD at hc ⊢
  split at hc
  case h_4 => exact hc.elim
  case h_1 s =>
    obtain ⟨⟨b1, b2, b3, b4, b5, b6⟩, rfl, hu⟩ := hc
    rw [hx.v_inv]
    cases vm with
    | some v => exact hmm.elim
    | none =>
    simp only [lenD] at b4 b5 b6 ⊢
    have r2 := bound_run (P := P) (d := s.size) (y := s.size) hh' b2 (by omega) (by omega) (if false then .sliceAcap else .sliceAlen)
    have r1 := bound_run (P := P) (d := 0) (y := (bnd hh s.size).toNat) hl b1 b4 (by omega) .sliceB
    exact ⟨_, by simp [Instr.sliceAt, Instr.slice, run_underlying hu, bounds_run r2 r1], .v _⟩
  case h_2 full rows =>
    cases he : elemT P t with
    | none => rw [he] at hc; exact hc.elim
    | some e =>
    rw [he] at hc
    simp only at hc ⊢
    have hu := elemT_some he
    simp only [lenD] at hc ⊢
    have hv : ∃ a cap, vx = .slice a rows.length cap ∧ rows.length ≤ cap ∧ cap ≤ maxLen ∧ (full = true → cap = rows.length) := by
      cases hx with
      | empty full a cap hf hmx => exact ⟨a, cap, rfl, Nat.zero_le _, hmx, hf⟩
      | list full rows ad cap size cv hI hll hf hmx hs' hc' hr' => exact ⟨_, cap, rfl, hll, hmx, hf⟩
    obtain ⟨a, cap, rfl, v1, v2, v3⟩ := hv
    cases m with
    | none =>
      simp only at hc ⊢
      obtain ⟨⟨b1, b2, b3, b4, b5, b6⟩, c2, c3⟩ := hc
      cases vm with
      | some v => exact hmm.elim
      | none =>
      have r2 := bound_run (P := P) (d := rows.length) (y := cap) hh' b2 (by omega) (by omega) (if true then .sliceAcap else .sliceAlen)
      have r1 := bound_run (P := P) (d := 0) (y := (bnd hh rows.length).toNat) hl b1 b4 (by omega) .sliceB
      refine ⟨_, sliceAt_run hu c2 (bounds_run r2 r1), ?_⟩
      refine list_cut hx c2 c3 _ _ cap (by omega) (by omega) (by omega) (Nat.le_refl _) _ fun hf => ?_
      simp only [Bool.and_eq_true, beq_iff_eq] at hf
      have := v3 hf.1
      omega
    | some dm =>
      simp only at hc ⊢
      obtain ⟨⟨b1, b2, b3, b4, b5, b6⟩, c0, c1, c2, c3⟩ := hc
      cases vm with
      | none => exact hmm.elim
      | some vm =>
      obtain ⟨dh, rfl⟩ := Option.isSome_iff_exists.1 c0
      cases vh with
      | none => exact hh'.elim
      | some vh =>
      have r3 := bound_run (P := P) (d := 0) (y := cap) hmm b3 (by omega) (by omega) (if true then .slice3Acap else .slice3Alen)
      have r2 := bound_run (P := P) (d := rows.length) (y := (bnd (some dm) 0).toNat) hh' b2 (by omega) (by omega) .slice3B
      have r1 := bound_run (P := P) (d := 0) (y := (bnd (some dh) rows.length).toNat) hl b1 b4 (by omega) .slice3C
      refine ⟨_, sliceAt_run hu c2 (bounds3_run r3 r2 r1), ?_⟩
      exact list_cut hx c2 c3 _ _ _ (by omega) (by omega) (by omega) (by omega) _ fun hf => by omega
  case h_3 r off len =>
    cases he : elemT P t with
    | none => rw [he] at hc; exact hc.elim
    | some e =>
    rw [he] at hc
    simp only at hc ⊢
    have hu := elemT_some he
    simp only [lenD] at hc ⊢
    obtain ⟨⟨b1, b2, b3, b4, b5, b6⟩, rfl, c2, c3⟩ := hc
    cases hr : h r with
    | none => rw [hr] at c3; exact c3.elim
    | some bl =>
    rw [hr] at c3
    simp only at c3
    subst c3
    cases vm with
    | some v => exact hmm.elim
    | none =>
    cases hx with | mrow _ _ _ _ hxx hU hv =>
    obtain ⟨a, c, rfl, h1, h2⟩ := hxx
    have r2 := bound_run (P := P) (d := len) (y := c) hh' b2 (by omega) (by omega) (if true then .sliceAcap else .sliceAlen)
    have r1 := bound_run (P := P) (d := 0) (y := (bnd hh len).toNat) hl b1 b4 (by omega) .sliceB
    refine ⟨_, sliceAt_run hu c2 (bounds_run r2 r1), ?_⟩
    have e1 : (bnd hh len).toNat - (bnd l 0).toNat = (bnd hh len - bnd l 0).toNat := by omega
    rw [e1]
    refine .mrow r _ _ _ ⟨_, _, rfl, by omega, fun hlt => ?_⟩ hU fun blk c' sz hM => ?_
    · obtain ⟨p, rfl⟩ := h2 (by omega)
      split
      · exact ⟨p, rfl⟩
      · exact ⟨_, rfl⟩
    · obtain ⟨q1, q2⟩ := hv _ _ _ hM
      obtain ⟨blk', c'', q5, -⟩ := hm.blk r bl hr
      rw [hM] at q5
      simp only [Option.some.injEq, Prod.mk.injEq] at q5
      rcases q2 with ⟨rfl, a', q2⟩ | ⟨q2, b, rfl, q3⟩
      · simp only [Value.slice.injEq] at q2
        obtain ⟨rfl, rfl, rfl⟩ := q2
        have z1 : (bnd l 0).toNat = 0 := by omega
        have z2 : (bnd hh 0 - bnd l 0).toNat = 0 := by omega
        exact ⟨by omega, .inl ⟨by omega, _, by rw [z1, z2]⟩⟩
      · simp only [Value.slice.injEq] at q3
        obtain ⟨rfl, _, rfl⟩ := q3
        refine ⟨by omega, ?_⟩
        by_cases hcl : c' - off = (bnd l 0).toNat
        · refine .inl ⟨by omega, some ⟨b, off * sz, none⟩, ?_⟩
          rw [if_pos hcl]
          have z2 : (bnd hh len - bnd l 0).toNat = 0 := by omega
          rw [z2, hcl, Nat.sub_self]
        · refine .inr ⟨by omega, b, rfl, ?_⟩
          rw [if_neg hcl, q5.2.2]
          simp only [Option.map_some, add_mk, ← Nat.add_mul]
          rw [Nat.sub_sub]
end Go.DL
