/-
  THE D LAYER, 4: the operations that leave memory alone do as the evaluator says. Conditions: none.
-/
import Derived.Test.YtfggmgafjabbjaaDoorDExec
import Derived.Laws.StructEq
namespace Go.DL
open Go.RowKit

theorem wrap_in {k : IntKind} {n : Int} (h : inK k n) : k.wrap n = n := by
  cases k <;> simp [inK, IntKind.min, IntKind.max, IntKind.signed, IntKind.bits] at h
  · exact IntWalk.i8_in n h
  · exact IntWalk.i16_in n h
  · exact IntWalk.i32_in n h
  · exact IntWalk.i64_in n h
  · exact IntWalk.u8_in n ⟨h.1, by omega⟩
  · exact IntWalk.u16_in n ⟨h.1, by omega⟩
  · exact IntWalk.u32_in n ⟨h.1, by omega⟩
  · exact IntWalk.u64_in n ⟨h.1, by omega⟩
theorem inK_div {k : IntKind} {a b : Int} (h : inK k a) (h0 : 0 ≤ a) (h1 : 1 ≤ b) : inK k (a / b) := by
  have h2 : 0 ≤ a / b := Int.ediv_nonneg h0 (by omega)
  have h3 : a / b ≤ a := Int.ediv_le_self _ h0
  exact ⟨by have := h.1; cases k <;> simp [IntKind.min, IntKind.signed, IntKind.bits] at * <;> omega, Int.le_trans h3 h.2⟩

variable {P : Program}
/-- two-place operations on plain values -/
theorem binV_sound [Glob P] {t : TypeId} {op : BinOp} {x y : Value} (h : (binV P t op x y).2) (a b : Operand) (w : World) :
    (do eqGuard op t a b x y; binOp op t x y : Sem Value).run P w = .ok (binV P t op x y).1 w := by
  unfold binV at h ⊢
  split at h
  case h_1 k a' k' b' =>
    by_cases hs : k.signed = true
    · simp only [hs, if_true] at h ⊢
      obtain ⟨rfl, h2⟩ := h
      simp [eqGuard, binOp, Op.intArith, wrap_in h2]
    · simp only [hs, if_false, Bool.false_eq_true] at h ⊢
      subst h
      simp [eqGuard, binOp, Op.intArith]
  case h_2 k a' k' b' =>
    by_cases hs : k.signed = true
    · simp only [hs, if_true] at h ⊢
      obtain ⟨rfl, h2⟩ := h
      simp [eqGuard, binOp, Op.intArith, wrap_in h2]
    · simp only [hs, if_false, Bool.false_eq_true] at h ⊢
      subst h
      simp [eqGuard, binOp, Op.intArith]
  case h_3 k a' k' b' =>
    by_cases hs : k.signed = true
    · simp only [hs, if_true] at h ⊢
      obtain ⟨rfl, h2⟩ := h
      simp [eqGuard, binOp, Op.intArith, wrap_in h2]
    · simp only [hs, if_false, Bool.false_eq_true] at h ⊢
      subst h
      simp [eqGuard, binOp, Op.intArith]
  case h_4 k a' k' b' =>
    obtain ⟨rfl, h2, h3, h4⟩ := h
    have e : k.wrap (a'.tdiv b') = a' / b' := by
      rw [Int.tdiv_eq_ediv_of_nonneg h2, wrap_in (inK_div h4 h2 h3)]
    simp [eqGuard, binOp, Op.intDiv, show b' ≠ 0 by omega, e]
  case h_5 k a' k' b' =>
    obtain ⟨rfl, h2, h3⟩ := h
    simp [eqGuard, binOp, Op.intDiv, show b' ≠ 0 by omega, Int.tmod_eq_emod_of_nonneg h2]
  case h_17 a' b' =>
    simp only [eqGuard, binOp]
    simp [Op.stringOp, ByteArray.toList_eq]
  case h_18 a' b' =>
    simp only [eqGuard, binOp]
    simp [Op.stringOp, ByteArray.toList_eq]
  case h_19 a' b' =>
    simp only [eqGuard, binOp]
    simp [Op.stringOp, ByteArray.toList_eq]
  case h_20 a' b' =>
    simp only [eqGuard, binOp]
    simp [Op.stringOp, ByteArray.toList_eq]
  case h_21 k a' k' b' =>
    have h' : ¬ b' < 0 := by omega
    simp [eqGuard, binOp, Op.shift, h']
  case h_22 k a' k' b' =>
    have h' : ¬ b' < 0 := by omega
    simp [eqGuard, binOp, Op.shift, h']
  case h_23 k a' k' b' =>
    subst h
    simp [eqGuard, binOp, Op.intBits]
  case h_24 => exact h.elim
  case h_16 a' b' =>
    have := run_string_add_sum (P := P) w a' b' h
    simp [eqGuard, binOp, this]
  case h_12 a' b' =>
    have e : (Op.equalIn 10000 t (.bool a') (.bool b')).run P w = .ok (a' == b') w := run_equalIn_bool w 9999 t a' b' h
    simp only [eqGuard, binOp]
    simp [Op.equal, Op.maxDepth, e]
  case h_13 a' b' =>
    have e : (Op.equalIn 10000 t (.bool a') (.bool b')).run P w = .ok (a' == b') w := run_equalIn_bool w 9999 t a' b' h
    simp only [eqGuard, binOp]
    simp [Op.equal, Op.maxDepth, e, bne]
  case h_14 a' b' =>
    simp only [eqGuard, binOp]
    simp [Op.stringOp, ByteArray.toList_eq]
  case h_15 a' b' =>
    simp only [eqGuard, binOp]
    simp [Op.stringOp, ByteArray.toList_eq, bne]
  all_goals
    subst h
    simp only [eqGuard, binOp]
    simp [Op.intCmp]

theorem Rep.v_inv {w : World} {g : Mem} {x y : Value} (h : Rep w g (.v x) y) : y = x := by cases h; rfl
theorem plainAs_inv {k : Kd} {a b : D} (h : plainAs k a b = true) :
    (k = .i ∧ ∃ kk x y, a = .v (.int kk x) ∧ b = .v (.int kk y)) ∨ (k = .b ∧ ∃ x y, a = .v (.bool x) ∧ b = .v (.bool y)) ∨ (k = .s ∧ ∃ x y, a = .v (.string x) ∧ b = .v (.string y)) := by
  unfold plainAs at h
  split at h
  · simp only [beq_iff_eq] at h; subst h; exact .inl ⟨rfl, _, _, _, rfl, rfl⟩
  · exact .inr (.inl ⟨rfl, _, _, rfl, rfl⟩)
  · exact .inr (.inr ⟨rfl, _, _, rfl, rfl⟩)
  · cases h
theorem eqFieldsB_sound [Glob P] : ∀ (fs : List Field) (i : Nat) (ks : List Kd) (xs ys : List Value) (dx dy : List D) (w : World) (g : Mem) (n : Nat), eqFieldsB P i fs = some ks → eqPlain ks (dx.drop i) (dy.drop i) = true →
    Reps w g dx xs → Reps w g dy ys → (Op.eqFields (n + 1) xs.toArray ys.toArray fs).run P w = .ok (eqCells (dx.drop i) (dy.drop i)) w := by
  intro fs
  induction fs with
  | nil =>
    intro i ks xs ys dx dy w g n hk hp hx hy
    simp only [eqFieldsB, Option.some.injEq] at hk
    subst hk
    cases h1 : dx.drop i with
    | nil => simp [Op.eqFields, eqCells]
    | cons a l => rw [h1] at hp; simp [eqPlain] at hp
  | cons f fs ih =>
    intro i ks xs ys dx dy w g n hf hp hx hy
    simp only [eqFieldsB] at hf
    split at hf
    case isFalse => cases hf
    rename_i hno
    simp only [Bool.and_eq_true, bne_iff_ne, beq_iff_eq] at hno
    obtain ⟨hn, ho⟩ := hno
    split at hf
    case h_2 => cases hf
    rename_i k ks' hk hr
    simp only [Option.some.injEq] at hf
    subst hf
    have hlt : i < dx.length := by
      rcases Nat.lt_or_ge i dx.length with h | h
      · exact h
      · rw [List.drop_eq_nil_of_le h] at hp; simp [eqPlain] at hp
    have hxi : dx.drop i = dx[i] :: dx.drop (i + 1) := List.drop_eq_getElem_cons hlt
    have hlty : i < dy.length := by
      rcases Nat.lt_or_ge i dy.length with h | h
      · exact h
      · rw [hxi, List.drop_eq_nil_of_le h] at hp; simp [eqPlain] at hp
    have hyi : dy.drop i = dy[i] :: dy.drop (i + 1) := List.drop_eq_getElem_cons hlty
    rw [hxi, hyi] at hp ⊢
    simp only [eqPlain, Bool.and_eq_true] at hp
    have hlx : i < xs.length := by rw [← hx.1]; exact hlt
    have hly : i < ys.length := by rw [← hy.1]; exact hlty
    have rx := hx.2 i dx[i] xs[i] (by simp) (by simp)
    have ry := hy.2 i dy[i] ys[i] (by simp) (by simp)
    have ih' := ih (i + 1) ks' xs ys dx dy w g n hr hp.2 hx hy
    have hu : ∃ d, P.underlying f.type = some d ∧ ((k = .b ∧ d = .bool) ∨ (k = .s ∧ d = .string) ∨ (k = .i ∧ ∃ kk, d = .int kk)) := by
      unfold kindOf at hk
      split at hk <;> simp at hk <;> subst hk <;> simp_all
    obtain ⟨d, hu, hd⟩ := hu
    have hagg : (isAgg f.type).run P w = .ok false w := by
      unfold isAgg
      rw [Sem.run_bind, run_underlying hu w]
      rcases hd with ⟨_, rfl⟩ | ⟨_, rfl⟩ | ⟨_, kk, rfl⟩ <;> simp
    have px : (part f.type xs.toArray f.offset).run P w = .ok xs[i] w := by
      unfold part; simp [hagg, ho, hlx]
    have py : (part f.type ys.toArray f.offset).run P w = .ok ys[i] w := by
      unfold part; simp [hagg, ho, hly]
    have heq : (Op.equalIn (n + 1) f.type xs[i] ys[i]).run P w = .ok (eqCell dx[i] dy[i]) w := by
      rcases plainAs_inv hp.1 with ⟨rfl, kk, x, y, e1, e2⟩ | ⟨rfl, x, y, e1, e2⟩ | ⟨rfl, x, y, e1, e2⟩ <;> rw [e1] at rx ⊢ <;> rw [e2] at ry ⊢ <;> rw [rx.v_inv, ry.v_inv]
      · rcases hd with ⟨h, _⟩ | ⟨h, _⟩ | ⟨_, k2, rfl⟩
        · cases h
        · cases h
        · exact run_equalIn_int w n f.type kk k2 x y hu
      · rcases hd with ⟨_, rfl⟩ | ⟨h, _⟩ | ⟨h, _⟩
        · exact run_equalIn_bool w n f.type x y hu
        · cases h
        · cases h
      · rcases hd with ⟨h, _⟩ | ⟨_, rfl⟩ | ⟨h, _⟩
        · cases h
        · rw [run_equalIn_string w n f.type x y hu, ByteArray.toList_eq, ByteArray.toList_eq]; rfl
        · cases h
    simp only [Op.eqFields, if_pos hn, Sem.run_bind, px, py, heq, Result.andThen_ok, eqCells]
    cases hc : eqCell dx[i] dy[i] with
    | false => simp
    | true => simp [ih']

theorem binD_sound [Glob P] {t : TypeId} {op : BinOp} {x y : D} {vx vy : Value} {w : World} {g : Mem} (hx : Rep w g x vx) (hy : Rep w g y vy) (h : (binD P t op x y).2) (a b : Operand) :
    ∃ v, (do eqGuard op t a b vx vy; binOp op t vx vy : Sem Value).run P w = .ok v w ∧ Rep w g (binD P t op x y).1 v := by
  unfold binD at h ⊢
  split at h
  · rename_i x y
    rw [hx.v_inv, hy.v_inv]
    exact ⟨_, binV_sound h a b w, .v _⟩
  · rename_i xs ys
    cases hx with | agg _ vs hn hv =>
    cases hy with | agg _ us hm hu =>
    have key : ∀ ks, eqKinds P t = some ks → eqPlain ks xs ys = true → (Op.equalIn 10000 t (.agg vs) (.agg us)).run P w = .ok (eqCells xs ys) w ∧ P.eqGuardType P.depth t = false := by
      intro ks hks hp
      unfold eqKinds at hks
      split at hks
      case h_2 => cases hks
      rename_i fs hfs
      split at hks
      case isFalse => cases hks
      rename_i hc
      simp only [Bool.and_eq_true, Bool.not_eq_true'] at hc
      have hF : P.fieldsOf t = fs := by simp [Program.fieldsOf, hfs]
      have h1 := run_equalIn_agg (P := P) w 9999 t vs us (by rw [hF]; exact hfs) hc.1
      have h2 := eqFieldsB_sound (P := P) fs.toList 0 ks vs.toList us.toList xs ys w g 9998 hks (by simpa using hp) ⟨by simpa using hn, fun i d x h1 h2 => hv i d x h1 (by simpa using h2)⟩ ⟨by simpa using hm, fun i d x h1 h2 => hu i d x h1 (by simpa using h2)⟩
      rw [hF] at h1
      simp only [Array.toArray_toList, List.drop_zero] at h2
      exact ⟨h1.trans h2, hc.2⟩
    split at h
    · split at h
      · rename_i ks hks
        obtain ⟨k1, k2⟩ := key ks hks h
        refine ⟨.bool (eqCells xs ys), ?_, .v _⟩
        simp only [Sem.run_bind, run_eqGuard_agg w .eql t a b vs us k2, Result.andThen_ok, run_eql_struct, k1]
      · exact h.elim
    · split at h
      · rename_i ks hks
        obtain ⟨k1, k2⟩ := key ks hks h
        refine ⟨.bool (!eqCells xs ys), ?_, .v _⟩
        simp only [Sem.run_bind, run_eqGuard_agg w .neq t a b vs us k2, Result.andThen_ok, run_neq_struct, k1]
      · exact h.elim
    · exact h.elim
  · exact h.elim
end Go.DL
