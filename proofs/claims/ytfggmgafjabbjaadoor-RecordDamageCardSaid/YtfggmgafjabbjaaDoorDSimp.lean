/-
  THE D LAYER, 15: the equations by which the evaluator is run. Conditions: none.
-/
import Derived.Test.YtfggmgafjabbjaaDoorDW
namespace Go.DL
open Go.RowKit
variable {P : Program} {W : Words} {C : Con}

attribute [go_sem_proc] Nat.reduceEqDiff Nat.reduceAdd Nat.reduceLeDiff Nat.reduceBEq Nat.reduceSub Nat.reduceMul Int.reduceLT Int.reduceLE Int.reduceEq Int.reduceNeg Int.reduceToNat reduceIte Nat.reduceLT reduceCtorEq
attribute [go_sem] decide_true decide_false Bool.not_true Bool.not_false Int.toNat_natCast

/-! ### the run -/
def S.out (s : S) (dst : Option Tmp) (r : D × H × Prop) : S := { n := s.n, t := s.put dst r.1, h := r.2.1, nx := s.nx, ok := s.ok ∧ dstOk s.n dst = true ∧ r.2.2, e := s.e }
def S.outG (s : S) (dst : Option Tmp) (op : Op) (C : Con) (gd : D) (want : Bool) (r : D × H × Prop) : S :=
  { n := s.n, t := s.put dst (.cond (gval gd want) r.1), h := s.h, nx := s.nx, ok := s.ok ∧ dstOk s.n dst = true ∧ gok gd = true ∧ cls C op ≠ .writes ∧ (gval gd want = true → r.2.2), e := s.e }
@[go_sem] theorem exec_eq [Glob P] {L : List Oper} {s : S} : exec P W C L s = execFrom P W C L s.nx 0 L { n := s.n, t := s.t, h := s.h, nx := s.nx + L.length, ok := s.ok, e := s.e } := rfl
@[go_sem] theorem execFrom_nil [Glob P] {L : List Oper} {b i : Nat} {s : S} : execFrom P W C L b i [] s = s := rfl
@[go_sem] theorem execFrom_cons [Glob P] {L : List Oper} {b i : Nat} {o : Oper} {os : List Oper} {s : S} : execFrom P W C L b i (o :: os) s = execFrom P W C L b (i + 1) os (exec1 P W C L b i o s) := rfl
@[go_sem] theorem exec1_plain [Glob P] {L : List Oper} {b i : Nat} {dst : Option Tmp} {op : Op} {ty : TypeId} {pos : String} {af : Array Edge} {s : S} :
    exec1 P W C L b i { dst := dst, op := op, type := ty, pos := pos, after := af, guard := none } s = s.out dst (effG P W C true op ((opArgs op).map s.ev) s.h (b + i)) := rfl
def guardD (L : List Oper) (j : Nat) (t : Nat → D) : D := ((L[j]?).bind (·.dst)).elim .junk t
@[go_sem] theorem exec1_guard [Glob P] {L : List Oper} {b i j : Nat} {want : Bool} {dst : Option Tmp} {op : Op} {ty : TypeId} {pos : String} {af : Array Edge} {s : S} :
    exec1 P W C L b i { dst := dst, op := op, type := ty, pos := pos, after := af, guard := some (j, want) } s =
      s.outG dst op C (guardD L j s.t) want (effG P W C (gval (guardD L j s.t) want) op ((opArgs op).map s.ev) s.h (b + i)) := rfl
@[go_sem] theorem guardD_zero {dst : Option Tmp} {op : Op} {ty : TypeId} {pos : String} {af : Array Edge} {gd : Option (Nat × Bool)} {L : List Oper} {t : Nat → D} :
    guardD ({ dst := dst, op := op, type := ty, pos := pos, after := af, guard := gd } :: L) 0 t = dst.elim .junk t := rfl
@[go_sem] theorem guardD_succ {o : Oper} {L : List Oper} {j : Nat} {t : Nat → D} : guardD (o :: L) (j + 1) t = guardD L j t := by simp [guardD]
@[go_sem] theorem out_some {n nx : Nat} {t : Nat → D} {h : H} {ok : Prop} {e : Env} {d : Tmp} {x : D} {h' : H} {p : Prop} : S.out { n, t, h, nx, ok, e } (some d) (x, h', p) = { n, t := upd t d x, h := h', nx, ok := ok ∧ decide (d < n) = true ∧ p, e } := rfl
@[go_sem] theorem out_none' {n nx : Nat} {t : Nat → D} {h : H} {ok : Prop} {e : Env} {x : D} {h' : H} {p : Prop} : S.out { n, t, h, nx, ok, e } none (x, h', p) = { n, t, h := h', nx, ok := ok ∧ p, e } := by simp [S.out, S.put, dstOk]
@[go_sem] theorem outG_some {n nx : Nat} {t : Nat → D} {h : H} {ok : Prop} {e : Env} {d : Tmp} {op : Op} {gd : D} {want : Bool} {x : D} {h' : H} {p : Prop} :
    S.outG { n, t, h, nx, ok, e } (some d) op C gd want (x, h', p) = { n, t := upd t d (.cond (gval gd want) x), h, nx, ok := ok ∧ decide (d < n) = true ∧ gok gd = true ∧ cls C op ≠ .writes ∧ (gval gd want = true → p), e } := rfl
@[go_sem] theorem clear_eq {n nx : Nat} {t : Nat → D} {h : H} {ok : Prop} {e : Env} : S.clear { n, t, h, nx, ok, e } = { n, t, h, nx, ok := True, e } := rfl
@[go_sem] theorem init_eq {n : Nat} {args : List D} : S.init n args = { n, t := fun i => args.getD i .junk, h := fun _ => none, nx := 0, ok := True, e := Env.tt } := rfl
@[go_sem] theorem ev_tmp {s : S} {i : Tmp} : s.ev (.tmp i) = s.t i := rfl
@[go_sem] theorem ev_const {s : S} {x : Value} : s.ev (.const x) = ofV x := rfl
@[go_sem] theorem ev_global {s : S} {g : Nat} : s.ev (.global g) = .v (.pointer (some ⟨g, 0, none⟩)) := rfl
@[go_sem] theorem ev_func {s : S} {f : FuncId} : s.ev (.func f) = .fn (.func f) [] [] := rfl
@[go_sem] theorem ofV_int {k : IntKind} {n : Int} : ofV (.int k n) = .v (.int k n) := rfl
@[go_sem] theorem ofV_bool {b : Bool} : ofV (.bool b) = .v (.bool b) := rfl
@[go_sem] theorem ofV_string {s : ByteArray} : ofV (.string s) = .v (.string s) := rfl
@[go_sem] theorem ofV_nil : ofV (.slice none 0 0) = .list true [] := rfl
@[go_sem] theorem ofV_nilFunc : ofV .nilFunc = .v .nilFunc := rfl
@[go_sem] theorem ofV_nilIface : ofV .nilIface = .v .nilIface := rfl
@[go_sem] theorem ofV_tuple {vs : Array Value} : ofV (.tuple vs) = .v (.tuple vs) := rfl
@[go_sem] theorem ofV_ptr {p : Option Addr} : ofV (.pointer p) = .v (.pointer p) := rfl
@[go_sem] theorem upd_hit {α : Type} {f : Nat → α} {i : Nat} {x : α} : upd f i x i = x := by simp [upd]
@[go_sem] theorem upd_miss {α : Type} {f : Nat → α} {i j : Nat} {x : α} (h : (j = i) = False) : upd f i x j = f j := by simp only [upd]; rw [if_neg (by rw [h]; exact id)]
attribute [go_sem] List.take_succ_cons List.take_zero List.take_nil List.drop_zero List.drop_succ_cons List.drop_nil List.set_cons_zero List.set_cons_succ List.cons_append List.nil_append List.append_nil Bool.false_eq_true Nat.zero_add Nat.add_zero Nat.add_assoc List.length_map List.headD_cons
attribute [go_sem] ne_eq imp_self Bool.not_eq_true' Bool.not_eq_false' Bool.and_self and_self
attribute [go_sem] eq_self not_false_eq_true and_true true_and List.length_cons List.length_nil List.getD_cons_zero List.getD_cons_succ List.getD_nil implies_true true_implies
@[go_sem] theorem size_lit {α : Type} {l : List α} : l.toArray.size = l.length := rfl

/-! ### operands -/
attribute [go_sem] opArgs List.map_cons List.map_nil
@[go_sem] theorem toList_lit {α : Type} {l : List α} : l.toArray.toList = l := by simp
@[go_sem] theorem sd_v {x : Value} : sd (.v x) = .v x := rfl
@[go_sem] theorem sd_agg {x : List D} : sd (.agg x) = .agg x := rfl
@[go_sem] theorem sd_list {f : Bool} {x : List (List D)} : sd (.list f x) = .list f x := rfl
@[go_sem] theorem sd_eptr {x : List D} : sd (.eptr x) = .eptr x := rfl
@[go_sem] theorem sd_mrow {a b c : Nat} : sd (.mrow a b c) = .mrow a b c := rfl
@[go_sem] theorem sd_mptr {a b c : Nat} : sd (.mptr a b c) = .mptr a b c := rfl
@[go_sem] theorem sd_fn {f : Fn} {a b : List D} : sd (.fn f a b) = .fn f a b := rfl
@[go_sem] theorem sd_tuple {a : List D} : sd (.tuple a) = .tuple a := rfl
@[go_sem] theorem sd_iface {t : TypeId} {d : D} : sd (.iface t d) = .iface t d := rfl
@[go_sem] theorem sd_cond {g : Bool} {d : D} : sd (.cond g d) = d := rfl
@[go_sem] theorem sg_v {x : Value} : sg (.v x) = true := rfl
@[go_sem] theorem sg_agg {x : List D} : sg (.agg x) = true := rfl
@[go_sem] theorem sg_list {f : Bool} {x : List (List D)} : sg (.list f x) = true := rfl
@[go_sem] theorem sg_eptr {x : List D} : sg (.eptr x) = true := rfl
@[go_sem] theorem sg_mrow {a b c : Nat} : sg (.mrow a b c) = true := rfl
@[go_sem] theorem sg_mptr {a b c : Nat} : sg (.mptr a b c) = true := rfl
@[go_sem] theorem sg_fn {f : Fn} {a b : List D} : sg (.fn f a b) = true := rfl
@[go_sem] theorem sg_tuple {a : List D} : sg (.tuple a) = true := rfl
@[go_sem] theorem sg_iface {t : TypeId} {d : D} : sg (.iface t d) = true := rfl
@[go_sem] theorem sg_cond {g : Bool} {d : D} : sg (.cond g d) = g := rfl
attribute [go_sem] List.all_cons List.all_nil Bool.and_true Bool.true_and
@[go_sem] theorem gval_v {b want : Bool} : gval (.v (.bool b)) want = (b == want) := rfl
@[go_sem] theorem gval_c {g b want : Bool} : gval (.cond g (.v (.bool b))) want = (g && (b == want)) := rfl
@[go_sem] theorem gok_v {b : Bool} : gok (.v (.bool b)) = true := rfl
@[go_sem] theorem gok_c {g b : Bool} : gok (.cond g (.v (.bool b))) = true := rfl
attribute [go_sem] Option.elim beq_true beq_false

/-! ### operations -/
@[go_sem] theorem e_move [Glob P] {g : Bool} {x : Operand} {d : D} {h : H} {b : Nat} : effG P W C g (.move x) [d] h b = (sd d, h, (g = true → sg d = true) ∧ True) := by simp [effG, isPick, eff]
@[go_sem] theorem e_assign [Glob P] {g : Bool} {x : Operand} {d : D} {h : H} {b : Nat} : effG P W C g (.assign x) [d] h b = (sd d, h, (g = true → sg d = true) ∧ True) := by simp [effG, isPick, eff]
@[go_sem] theorem e_alloc [Glob P] {g : Bool} {e : TypeId} {h : H} {b : Nat} : effG P W C g (.alloc e) [] h b = (.mptr b 0 0, upd h b (some ⟨e, [zeroCells P e]⟩), (zeroCells P e).length = P.cellsOf e ∧ (zeroCells P e).all D.one = true ∧ 0 < P.cellsOf e) := by simp [effG, isPick, eff]
@[go_sem] theorem e_box [Glob P] {g : Bool} {e : TypeId} {x : Operand} {d : D} {h : H} {b : Nat} : effG P W C g (.box e x) [d] h b = (.mptr b 0 0, upd h b (some ⟨e, [(sd d).cells]⟩), (g = true → sg d = true) ∧ (sd d).cells.length = P.cellsOf e ∧ (sd d).cells.all D.one = true ∧ 0 < P.cellsOf e) := by simp [effG, isPick, eff]
@[go_sem] theorem e_build [Glob P] {g : Bool} {t : TypeId} {ps : Array (Nat × Operand)} {xs : List D} {h : H} {b : Nat} : effG P W C g (.build t ps) xs h b = ((buildD P t ps.toList (xs.map sd)).1, h, (g = true → xs.all sg = true) ∧ (buildD P t ps.toList (xs.map sd)).2) := by simp [effG, isPick, eff, still]
@[go_sem] theorem e_buildSlice [Glob P] {g : Bool} {t : TypeId} {n : Nat} {ps : Array (Nat × Operand)} {xs : List D} {h : H} {b : Nat} : effG P W C g (.buildSlice t n ps) xs h b = if C.bs then ((bsOwn P t n ps.toList (xs.map sd) h b).1, (bsOwn P t n ps.toList (xs.map sd) h b).2.1, (g = true → xs.all sg = true) ∧ (bsOwn P t n ps.toList (xs.map sd) h b).2.2) else ((buildSliceD P t n ps.toList (xs.map sd)).1, h, (g = true → xs.all sg = true) ∧ (buildSliceD P t n ps.toList (xs.map sd)).2) := by cases hb : C.bs <;> simp [effG, isPick, eff, still, hb]
@[go_sem] theorem e_load [Glob P] {g : Bool} {t : TypeId} {x : Operand} {d : D} {h : H} {b : Nat} : effG P W C g (.load t x) [d] h b = (mkD P t (ldc P (sd d) h), h, (g = true → sg d = true) ∧ P.cellsOf t ≤ (ldc P (sd d) h).length ∧ 0 < P.cellsOf t ∧ (P.underlying t).isSome = true) := by simp [effG, isPick, eff, still, ldD]
@[go_sem] theorem e_store [Glob P] {g : Bool} {t : TypeId} {x y : Operand} {d d' : D} {h : H} {b : Nat} : effG P W C g (.store t x y) [d, d'] h b = (.v undef, (stH P t (sd d) (sd d') h).1, (g = true → (sg d && sg d') = true) ∧ (stH P t (sd d) (sd d') h).2) := by simp [effG, isPick, eff]
@[go_sem] theorem e_nilCheck [Glob P] {g : Bool} {x : Operand} {d : D} {h : H} {b : Nat} : effG P W C g (.nilCheck x) [d] h b = (sd d, h, (g = true → sg d = true) ∧ isPtr (sd d) = true) := by simp [effG, isPick, eff]
@[go_sem] theorem e_binOp [Glob P] {g : Bool} {op : BinOp} {t u : TypeId} {x y : Operand} {d d' : D} {h : H} {b : Nat} : effG P W C g (.binOp op t x y u) [d, d'] h b = ((binD P t op (sd d) (sd d')).1, h, (g = true → (sg d && sg d') = true) ∧ (binD P t op (sd d) (sd d')).2) := by simp [effG, isPick, eff, still]
@[go_sem] theorem e_unOp [Glob P] {g : Bool} {op : UnOp} {t : TypeId} {x : Operand} {d : D} {h : H} {b : Nat} : effG P W C g (.unOp op t x) [d] h b = ((unD op (sd d)).1, h, (g = true → sg d = true) ∧ (unD op (sd d)).2) := by simp [effG, isPick, eff, still]
@[go_sem] theorem e_convert [Glob P] {g : Bool} {s t : TypeId} {x : Operand} {d : D} {h : H} {b : Nat} : effG P W C g (.convert s t x) [d] h b = ((convD P s t (sd d)).1, h, (g = true → sg d = true) ∧ (convD P s t (sd d)).2) := by simp [effG, isPick, eff, still]
@[go_sem] theorem e_makeFunc [Glob P] {g : Bool} {f : Fn} {a c : Array Operand} {xs : List D} {h : H} {b : Nat} : effG P W C g (.makeFunc f a c) xs h b = (.fn f ((xs.map sd).take a.size) ((xs.map sd).drop a.size), h, (g = true → xs.all sg = true) ∧ True) := by simp [effG, isPick, eff]
@[go_sem] theorem e_slice [Glob P] {g : Bool} {t : TypeId} {x : Operand} {l hi m : Option Operand} {d : D} {xs : List D} {h : H} {b : Nat} : effG P W C g (.slice t x l hi m) (d :: xs) h b =
    ((sliceD P t (sd d) (optAt l (xs.map sd)).1 (optAt hi (optAt l (xs.map sd)).2).1 (optAt m (optAt hi (optAt l (xs.map sd)).2).2).1 h).1, h, (g = true → (sg d && xs.all sg) = true) ∧ (sliceD P t (sd d) (optAt l (xs.map sd)).1 (optAt hi (optAt l (xs.map sd)).2).1 (optAt m (optAt hi (optAt l (xs.map sd)).2).2).1 h).2) := by simp [effG, isPick, eff, still]
@[go_sem] theorem e_fieldAddr [Glob P] {g : Bool} {t : TypeId} {x : Operand} {f : Nat} {d : D} {h : H} {b : Nat} : effG P W C g (.fieldAddr t x f) [d] h b = ((fieldPtr P t f (sd d)).1, h, (g = true → sg d = true) ∧ (fieldPtr P t f (sd d)).2) := by simp [effG, isPick, eff, still]
@[go_sem] theorem e_field [Glob P] {g : Bool} {t : TypeId} {x : Operand} {f : Nat} {d : D} {h : H} {b : Nat} : effG P W C g (.field t x f) [d] h b = ((fieldV P t f (sd d)).1, h, (g = true → sg d = true) ∧ (fieldV P t f (sd d)).2) := by simp [effG, isPick, eff, still]
@[go_sem] theorem e_indexAddr [Glob P] {g : Bool} {t : TypeId} {x y : Operand} {d d' : D} {h : H} {b : Nat} : effG P W C g (.indexAddr t x y) [d, d'] h b = ((idxPtr P t (sd d) (sd d') h).1, h, (g = true → (sg d && sg d') = true) ∧ (idxPtr P t (sd d) (sd d') h).2) := by simp [effG, isPick, eff, still]
@[go_sem] theorem e_index [Glob P] {g : Bool} {t : TypeId} {x y : Operand} {d d' : D} {h : H} {b : Nat} : effG P W C g (.index t x y) [d, d'] h b = ((idxV P t (sd d) (sd d')).1, h, (g = true → (sg d && sg d') = true) ∧ (idxV P t (sd d) (sd d')).2) := by simp [effG, isPick, eff, still]
@[go_sem] theorem e_extract [Glob P] {g : Bool} {x : Operand} {i : Nat} {ds : List D} {h : H} {b : Nat} : effG P W C g (.extract x i) [.tuple ds] h b = (ds.getD i .junk, h, i < ds.length) := by simp [effG, isPick, eff, sd, sg]
@[go_sem] theorem e_len [Glob P] {g : Bool} {args : Array Operand} {t : TypeId} {d : D} {h : H} {b : Nat} : effG P W C g (.call { callee := .builtin .len, args := args, argTypes := #[t] }) [d] h b = (.v (.int .i64 (lenD (sd d))), h, (g = true → sg d = true) ∧ lenOk P t (sd d) = true) := by simp [effG, isPick, eff]
@[go_sem] theorem e_append [Glob P] {g : Bool} {args : Array Operand} {t u : TypeId} {d d' : D} {h : H} {b : Nat} : effG P W C g (.call { callee := .builtin .append, args := args, argTypes := #[t, u] }) [d, d'] h b = ((appendD P t u (sd d) (sd d') h b).1, (appendD P t u (sd d) (sd d') h b).2.1, (g = true → (sg d && sg d') = true) ∧ (appendD P t u (sd d) (sd d') h b).2.2) := by simp [effG, isPick, eff]
@[go_sem] theorem e_min [Glob P] {g : Bool} {args : Array Operand} {ts : Array TypeId} {k : IntKind} {x y : Int} {h : H} {b : Nat} : effG P W C g (.call { callee := .builtin .min, args := args, argTypes := ts }) [.v (.int k x), .v (.int k y)] h b = (.v (.int k (min x y)), h, True) := by simp [effG, isPick, eff, still, minI, sd, sg]
@[go_sem] theorem e_max [Glob P] {g : Bool} {args : Array Operand} {ts : Array TypeId} {k : IntKind} {x y : Int} {h : H} {b : Nat} : effG P W C g (.call { callee := .builtin .max, args := args, argTypes := ts }) [.v (.int k x), .v (.int k y)] h b = (.v (.int k (max x y)), h, True) := by simp [effG, isPick, eff, still, maxI, sd, sg]
@[go_sem] theorem e_call [Glob P] {g : Bool} {f : Operand} {args : Array Operand} {ts : Array TypeId} {xs : List D} {h : H} {b : Nat} : effG P W C g (.call { callee := .value f, args := args, argTypes := ts }) xs h b = ((callD W C f (xs.map sd) h b).1, (callD W C f (xs.map sd) h b).2.1, (g = true → xs.all sg = true) ∧ (callD W C f (xs.map sd) h b).2.2) := by simp [effG, isPick, eff]
@[go_sem] theorem bv_v {b : Bool} : bv (.v (.bool b)) = b := rfl
@[go_sem] theorem isB_v {b : Bool} : isB (.v (.bool b)) = true := rfl
/-- pick, run -/
@[go_sem] theorem e_pick [Glob P] {g : Bool} {x y z : Operand} {c a b : D} {h : H} {n : Nat} :
    effG P W C g (.pick x y z) [c, a, b] h n = (.v (.bool (bif bv (sd c) then bv (sd a) else bv (sd b))), h, (g = true → (sg c = true ∧ isB (sd c) = true) ∧ (bv (sd c) = true → sg a = true ∧ isB (sd a) = true) ∧ (bv (sd c) = false → sg b = true ∧ isB (sd b) = true))) := rfl
attribute [go_sem] cond_true cond_false

@[go_sem] theorem nw_move {x : Operand} : (cls C (.move x) = .writes) = False := by simp [cls]
@[go_sem] theorem nw_assign {x : Operand} : (cls C (.assign x) = .writes) = False := by simp [cls]
@[go_sem] theorem nw_load {t : TypeId} {x : Operand} : (cls C (.load t x) = .writes) = False := by simp [cls]
@[go_sem] theorem nw_binOp {op : BinOp} {t u : TypeId} {x y : Operand} : (cls C (.binOp op t x y u) = .writes) = False := by simp [cls]
@[go_sem] theorem nw_unOp {op : UnOp} {t : TypeId} {x : Operand} : (cls C (.unOp op t x) = .writes) = False := by simp [cls]
@[go_sem] theorem nw_fieldAddr {t : TypeId} {x : Operand} {f : Nat} : (cls C (.fieldAddr t x f) = .writes) = False := by simp [cls]
@[go_sem] theorem nw_field {t : TypeId} {x : Operand} {f : Nat} : (cls C (.field t x f) = .writes) = False := by simp [cls]
@[go_sem] theorem nw_indexAddr {t : TypeId} {x y : Operand} : (cls C (.indexAddr t x y) = .writes) = False := by simp [cls]
@[go_sem] theorem nw_index {t : TypeId} {x y : Operand} : (cls C (.index t x y) = .writes) = False := by simp [cls]
@[go_sem] theorem nw_pick {x y z : Operand} : (cls C (.pick x y z) = .writes) = False := by simp [cls]
@[go_sem] theorem nw_convert {t u : TypeId} {x : Operand} : (cls C (.convert t u x) = .writes) = False := by simp [cls]
@[go_sem] theorem nw_slice {t : TypeId} {x : Operand} {a b c : Option Operand} : (cls C (.slice t x a b c) = .writes) = False := by simp [cls]
@[go_sem] theorem nw_extract {x : Operand} {i : Nat} : (cls C (.extract x i) = .writes) = False := by simp [cls]
@[go_sem] theorem nw_nilCheck {x : Operand} : (cls C (.nilCheck x) = .writes) = False := by simp [cls]
@[go_sem] theorem nw_build {t : TypeId} {ps : Array (Nat × Operand)} : (cls C (.build t ps) = .writes) = False := by simp [cls]
@[go_sem] theorem nw_buildSlice {t : TypeId} {n : Nat} {ps : Array (Nat × Operand)} : (cls C (.buildSlice t n ps) = .writes) = (C.bs = true) := by cases hb : C.bs <;> simp [cls, hb]
@[go_sem] theorem nw_makeFunc {f : Fn} {a b : Array Operand} : (cls C (.makeFunc f a b) = .writes) = False := by simp [cls]
@[go_sem] theorem nw_len {args : Array Operand} {ts : Array TypeId} : (cls C (.call { callee := .builtin .len, args := args, argTypes := ts }) = .writes) = False := by simp [cls]
@[go_sem] theorem nw_min {args : Array Operand} {ts : Array TypeId} : (cls C (.call { callee := .builtin .min, args := args, argTypes := ts }) = .writes) = False := by simp [cls]
@[go_sem] theorem nw_max {args : Array Operand} {ts : Array TypeId} : (cls C (.call { callee := .builtin .max, args := args, argTypes := ts }) = .writes) = False := by simp [cls]
@[go_sem] theorem nw_call {f : Operand} {args : Array Operand} {ts : Array TypeId} : (cls C (.call { callee := .value f, args := args, argTypes := ts }) = .writes) = False := by
  simp [cls, isPureCall]

@[go_sem] theorem bif_or {c b : Bool} : (bif c then true else b) = (c || b) := by cases c <;> rfl
@[go_sem] theorem bif_and {c b : Bool} : (bif c then b else false) = (c && b) := by cases c <;> rfl
@[go_sem] theorem bif_nand {c b : Bool} : (bif c then false else b) = (!c && b) := by cases c <;> rfl

/-! ### what the operations come to -/
@[go_sem] theorem cells_agg {cs : List D} : D.cells (.agg cs) = cs := rfl
@[go_sem] theorem cells_v {x : Value} : D.cells (.v x) = [.v x] := rfl
@[go_sem] theorem cells_list {f : Bool} {x : List (List D)} : D.cells (.list f x) = [.list f x] := rfl
@[go_sem] theorem cells_mrow {a b c : Nat} : D.cells (.mrow a b c) = [.mrow a b c] := rfl
@[go_sem] theorem cells_mptr {a b c : Nat} : D.cells (.mptr a b c) = [.mptr a b c] := rfl
@[go_sem] theorem cells_eptr {a : List D} : D.cells (.eptr a) = [.eptr a] := rfl
@[go_sem] theorem cells_fn {f : Fn} {a b : List D} : D.cells (.fn f a b) = [.fn f a b] := rfl
@[go_sem] theorem cells_iface {t : TypeId} {d : D} : D.cells (.iface t d) = [.iface t d] := rfl
@[go_sem] theorem one_int {k : IntKind} {n : Int} : D.one (.v (.int k n)) = true := rfl
@[go_sem] theorem one_bool {b : Bool} : D.one (.v (.bool b)) = true := rfl
@[go_sem] theorem one_string {b : ByteArray} : D.one (.v (.string b)) = true := rfl
@[go_sem] theorem one_nilFunc : D.one (.v .nilFunc) = true := rfl
@[go_sem] theorem one_nilIface : D.one (.v .nilIface) = true := rfl
@[go_sem] theorem one_list {f : Bool} {x : List (List D)} : D.one (.list f x) = true := rfl
@[go_sem] theorem one_mrow {a b c : Nat} : D.one (.mrow a b c) = true := rfl
@[go_sem] theorem one_mptr {a b c : Nat} : D.one (.mptr a b c) = true := rfl
@[go_sem] theorem one_eptr {a : List D} : D.one (.eptr a) = true := rfl
@[go_sem] theorem one_fn {f : Fn} {a b : List D} : D.one (.fn f a b) = true := rfl
@[go_sem] theorem one_iface {t : TypeId} {d : D} : D.one (.iface t d) = true := rfl
@[go_sem] theorem ldc_eptr [Glob P] {cs : List D} {h : H} : ldc P (.eptr cs) h = cs := rfl
@[go_sem] theorem ldc_mptr [Glob P] {r i off : Nat} {h : H} : ldc P (.mptr r i off) h = match h r with | some b => (b.rows.getD i []).drop off | none => [] := rfl
@[go_sem] theorem ldD_eq [Glob P] {t : TypeId} {a : D} {h : H} : ldD P t a h = (mkD P t (ldc P a h), P.cellsOf t ≤ (ldc P a h).length ∧ 0 < P.cellsOf t ∧ (P.underlying t).isSome = true) := rfl
theorem ldc_ptr [Glob P] {x o : Nat} {h : H} : ldc P (.v (.pointer (some ⟨x, o, none⟩))) h = match Glob.tab P x with | some cs => (cs.drop o).map D.v | none => [] := rfl
@[go_sem] theorem ldCells_eptr {cs : List D} {h : H} : ldCells (.eptr cs) h = cs := rfl
@[go_sem] theorem ldCells_mptr {r i off : Nat} {h : H} : ldCells (.mptr r i off) h = match h r with | some b => (b.rows.getD i []).drop off | none => [] := rfl
attribute [go_sem] mkD fieldPtr fieldV splice
@[go_sem] theorem ptrAdd_eptr {n : Nat} {cs : List D} : ptrAdd n (.eptr cs) = .eptr (cs.drop n) := rfl
@[go_sem] theorem ptrAdd_mptr {n r i off : Nat} : ptrAdd n (.mptr r i off) = .mptr r i (off + n) := rfl
@[go_sem] theorem ptrAdd_ptr {n x o : Nat} : ptrAdd n (.v (.pointer (some ⟨x, o, none⟩))) = .v (.pointer (some ⟨x, o + n, none⟩)) := by simp only [ptrAdd, add_mk]
@[go_sem] theorem isPtr_ptr {p : Addr} : isPtr (.v (.pointer (some p))) = true := rfl
@[go_sem] theorem isPtr_eptr {cs : List D} : isPtr (.eptr cs) = true := rfl
@[go_sem] theorem isPtr_mptr {r i off : Nat} : isPtr (.mptr r i off) = true := rfl
@[go_sem] theorem stH_mptr [Glob P] {t : TypeId} {r i off : Nat} {x : D} {h : H} : stH P t (.mptr r i off) x h = match h r with
    | some b => (upd h r (some { b with rows := b.rows.set i (splice (b.rows.getD i []) off x.cells) }), x.cells.length = P.cellsOf t ∧ 0 < P.cellsOf t ∧ i < b.rows.length ∧ off + x.cells.length ≤ (b.rows.getD i []).length ∧ x.cells.all D.one = true)
    | none => (h, False) := rfl
@[go_sem] theorem idxPtr_list [Glob P] {t : TypeId} {f : Bool} {rows : List (List D)} {k : IntKind} {n : Int} {h : H} : idxPtr P t (.list f rows) (.v (.int k n)) h = match elemT P t with
    | none => idxArr P t (.list f rows) (.v (.int k n))
    | some e => (.eptr (rows.getD n.toNat []), 0 ≤ n ∧ n < rows.length ∧ 0 < P.cellsOf e ∧ (rows.getD n.toNat []).length = P.cellsOf e) := by unfold idxPtr; cases elemT P t <;> rfl
@[go_sem] theorem idxPtr_mrow [Glob P] {t : TypeId} {r off len : Nat} {k : IntKind} {n : Int} {h : H} : idxPtr P t (.mrow r off len) (.v (.int k n)) h = match elemT P t with
    | none => idxArr P t (.mrow r off len) (.v (.int k n))
    | some e => (.mptr r (off + n.toNat) 0, 0 ≤ n ∧ n < len ∧ 0 < P.cellsOf e ∧ match h r with | some bl => bl.ty = e | none => False) := by unfold idxPtr; cases elemT P t <;> rfl
@[go_sem] theorem idxPtr_ptr [Glob P] {t : TypeId} {p : Option Addr} {k : IntKind} {n : Int} {h : H} : idxPtr P t (.v (.pointer p)) (.v (.int k n)) h = match elemT P t with
    | none => idxArr P t (.v (.pointer p)) (.v (.int k n))
    | some _ => (.junk, False) := by unfold idxPtr; cases elemT P t <;> rfl
@[go_sem] theorem isGp_ptr {p : Addr} : isGp (.v (.pointer (some p))) = true := rfl
@[go_sem] theorem isGp_eptr {cs : List D} : isGp (.eptr cs) = true := rfl
@[go_sem] theorem idxArr_eq [Glob P] {t : TypeId} {x : D} {k : IntKind} {n : Int} : idxArr P t x (.v (.int k n)) = match arrT P t with
    | some (m, e) => (ptrAdd (n.toNat * P.cellsOf e) x, isGp x = true ∧ 0 ≤ n ∧ n < m ∧ 0 < P.cellsOf e)
    | none => (.junk, False) := by unfold idxArr; cases arrT P t <;> rfl
@[go_sem] theorem rowsOf_list {f : Bool} {rows : List (List D)} {h : H} : rowsOf (.list f rows) h = rows := rfl
@[go_sem] theorem rowsOf_mrow {r off len : Nat} {h : H} : rowsOf (.mrow r off len) h = match h r with | some b => (b.rows.drop off).take len | none => [] := rfl
@[go_sem] theorem lenD_list {f : Bool} {rows : List (List D)} : lenD (.list f rows) = rows.length := rfl
@[go_sem] theorem lenD_mrow {r off len : Nat} : lenD (.mrow r off len) = len := rfl
@[go_sem] theorem lenD_string {s : ByteArray} : lenD (.v (.string s)) = s.size := rfl
@[go_sem] theorem lenOk_list [Glob P] {t : TypeId} {f : Bool} {rows : List (List D)} : lenOk P t (.list f rows) = (elemT P t).isSome := rfl
@[go_sem] theorem lenOk_mrow [Glob P] {t : TypeId} {r off len : Nat} : lenOk P t (.mrow r off len) = (elemT P t).isSome := rfl
@[go_sem] theorem lenOk_string [Glob P] {t : TypeId} {s : ByteArray} : lenOk P t (.v (.string s)) = match P.underlying t with | some .string => true | _ => false := rfl
attribute [go_sem] Option.isSome_some
@[go_sem] theorem srcOk_list [Glob P] {t : TypeId} {h : H} {f : Bool} {rows : List (List D)} : srcOk P t h (.list f rows) = (elemT P t).isSome := rfl
@[go_sem] theorem srcOk_mrow [Glob P] {t : TypeId} {h : H} {r off len : Nat} : srcOk P t h (.mrow r off len) = ((elemT P t).isSome && (h r).isSome) := rfl
@[go_sem] theorem srcOk_string [Glob P] {t : TypeId} {h : H} {s : ByteArray} : srcOk P t h (.v (.string s)) = match P.underlying t with | some .string => true | _ => false := rfl
@[go_sem] theorem append_list [Glob P] {t u : TypeId} {rows : List (List D)} {y : D} {h : H} {b : Nat} : appendD P t u (.list true rows) y h b = match elemT P t with
    | none => (.junk, h, False)
    | some e => (.mrow b 0 (rows.length + (rowsOf y h).length), upd h b (some ⟨e, rows ++ rowsOf y h⟩), (0 < P.cellsOf e ∧ (rows.length + (rowsOf y h).length) * P.bytesOf e ≤ 140737488355328 ∧ rows.length + (rowsOf y h).length ≤ 9223372036854775807) ∧
        ((rowsOf y h).length = lenD y ∧ srcOk P u h y = true ∧ zeroLen P e = true ∧ ∀ r ∈ rowsOf y h, r.length = P.cellsOf e) ∧ (rowsOf y h = [] → rows = []) ∧ ∀ r ∈ rows, r.length = P.cellsOf e) := by
  unfold appendD; cases elemT P t <;> rfl
@[go_sem] theorem append_mrow [Glob P] {t u : TypeId} {r n : Nat} {y : D} {h : H} {b : Nat} : appendD P t u (.mrow r 0 n) y h b = match elemT P t with
    | none => (.junk, h, False)
    | some e => match h r with
      | none => (.junk, h, False)
      | some bl => (.mrow b 0 (n + (rowsOf y h).length), upd (upd h r none) b (some ⟨e, bl.rows ++ rowsOf y h⟩), (0 < P.cellsOf e ∧ (n + (rowsOf y h).length) * P.bytesOf e ≤ 140737488355328 ∧ n + (rowsOf y h).length ≤ 9223372036854775807) ∧
        ((rowsOf y h).length = lenD y ∧ srcOk P u h y = true ∧ zeroLen P e = true ∧ ∀ r ∈ rowsOf y h, r.length = P.cellsOf e) ∧ bl.ty = e ∧ bl.rows.length = n ∧ r ≠ b) := by
  unfold appendD; cases elemT P t with
  | none => rfl
  | some e => cases hr : h r with
    | none => simp only [hr]
    | some bl => simp only [lenD, hr]
attribute [go_sem] buildD fillD fillOk buildSliceD bsOwn rowsOk
@[go_sem] theorem binD_v [Glob P] {t : TypeId} {op : BinOp} {a b : Value} : binD P t op (.v a) (.v b) = (.v (binV P t op a b).1, (binV P t op a b).2) := rfl
@[go_sem] theorem binV_lss [Glob P] {t : TypeId} {k k' : IntKind} {a b : Int} : binV P t .lss (.int k a) (.int k' b) = (.bool (decide (a < b)), k = k') := rfl
@[go_sem] theorem binV_leq [Glob P] {t : TypeId} {k k' : IntKind} {a b : Int} : binV P t .leq (.int k a) (.int k' b) = (.bool (decide (a ≤ b)), k = k') := rfl
@[go_sem] theorem binV_gtr [Glob P] {t : TypeId} {k k' : IntKind} {a b : Int} : binV P t .gtr (.int k a) (.int k' b) = (.bool (decide (b < a)), k = k') := rfl
@[go_sem] theorem binV_geq [Glob P] {t : TypeId} {k k' : IntKind} {a b : Int} : binV P t .geq (.int k a) (.int k' b) = (.bool (decide (b ≤ a)), k = k') := rfl
@[go_sem] theorem binV_eql [Glob P] {t : TypeId} {k k' : IntKind} {a b : Int} : binV P t .eql (.int k a) (.int k' b) = (.bool (a == b), k = k') := rfl
@[go_sem] theorem binV_neq [Glob P] {t : TypeId} {k k' : IntKind} {a b : Int} : binV P t .neq (.int k a) (.int k' b) = (.bool (a != b), k = k') := rfl
@[go_sem] theorem binV_add [Glob P] {t : TypeId} {k k' : IntKind} {a b : Int} : binV P t .add (.int k a) (.int k' b) = if k.signed then (.int k (a + b), k = k' ∧ inK k (a + b)) else (.int k (k.wrap (a + b)), k = k') := rfl
@[go_sem] theorem binV_sub [Glob P] {t : TypeId} {k k' : IntKind} {a b : Int} : binV P t .sub (.int k a) (.int k' b) = if k.signed then (.int k (a - b), k = k' ∧ inK k (a - b)) else (.int k (k.wrap (a - b)), k = k') := rfl
@[go_sem] theorem binV_mul [Glob P] {t : TypeId} {k k' : IntKind} {a b : Int} : binV P t .mul (.int k a) (.int k' b) = if k.signed then (.int k (a * b), k = k' ∧ inK k (a * b)) else (.int k (k.wrap (a * b)), k = k') := rfl
@[go_sem] theorem binV_quo [Glob P] {t : TypeId} {k k' : IntKind} {a b : Int} : binV P t .quo (.int k a) (.int k' b) = (.int k (a / b), k = k' ∧ 0 ≤ a ∧ 1 ≤ b ∧ inK k a) := rfl
@[go_sem] theorem binV_rem [Glob P] {t : TypeId} {k k' : IntKind} {a b : Int} : binV P t .rem (.int k a) (.int k' b) = (.int k (a % b), k = k' ∧ 0 ≤ a ∧ 1 ≤ b) := rfl
@[go_sem] theorem binV_eqb [Glob P] {t : TypeId} {a b : Bool} : binV P t .eql (.bool a) (.bool b) = (.bool (a == b), P.underlying t = some .bool) := rfl
@[go_sem] theorem binV_neb [Glob P] {t : TypeId} {a b : Bool} : binV P t .neq (.bool a) (.bool b) = (.bool (a != b), P.underlying t = some .bool) := rfl
@[go_sem] theorem binV_eqs [Glob P] {t : TypeId} {a b : ByteArray} : binV P t .eql (.string a) (.string b) = (.bool (a.data.toList == b.data.toList), True) := rfl
@[go_sem] theorem binV_nes [Glob P] {t : TypeId} {a b : ByteArray} : binV P t .neq (.string a) (.string b) = (.bool (a.data.toList != b.data.toList), True) := rfl
@[go_sem] theorem binV_adds [Glob P] {t : TypeId} {a b : ByteArray} : binV P t .add (.string a) (.string b) = (.string (a ++ b), a.size + b.size ≤ 9223372036854775807) := rfl
@[go_sem] theorem binV_lsss [Glob P] {t : TypeId} {a b : ByteArray} : binV P t .lss (.string a) (.string b) = (.bool (Go.Op.bytesLess a.data.toList b.data.toList), True) := rfl
@[go_sem] theorem binV_leqs [Glob P] {t : TypeId} {a b : ByteArray} : binV P t .leq (.string a) (.string b) = (.bool (Go.Op.bytesLess a.data.toList b.data.toList || a.data.toList == b.data.toList), True) := rfl
@[go_sem] theorem binV_gtrs [Glob P] {t : TypeId} {a b : ByteArray} : binV P t .gtr (.string a) (.string b) = (.bool !(Go.Op.bytesLess a.data.toList b.data.toList || a.data.toList == b.data.toList), True) := rfl
@[go_sem] theorem binV_geqs [Glob P] {t : TypeId} {a b : ByteArray} : binV P t .geq (.string a) (.string b) = (.bool !(Go.Op.bytesLess a.data.toList b.data.toList), True) := rfl
@[go_sem] theorem binV_shl [Glob P] {t : TypeId} {k k' : IntKind} {a b : Int} : binV P t .shl (.int k a) (.int k' b) = (.int k (k.wrap (a * 2 ^ (min b.toNat k.bits))), 0 ≤ b) := rfl
@[go_sem] theorem binV_shr [Glob P] {t : TypeId} {k k' : IntKind} {a b : Int} : binV P t .shr (.int k a) (.int k' b) = (.int k (a.fdiv (2 ^ (min b.toNat k.bits))), 0 ≤ b) := rfl
@[go_sem] theorem binV_or [Glob P] {t : TypeId} {k k' : IntKind} {a b : Int} : binV P t .or (.int k a) (.int k' b) = (.int k (k.wrap (BitVec.ofInt k.bits a ||| BitVec.ofInt k.bits b).toNat), k = k') := rfl
@[go_sem] theorem binD_eq [Glob P] {t : TypeId} {xs ys : List D} : binD P t .eql (.agg xs) (.agg ys) = (.v (.bool (eqCells xs ys)), match eqKinds P t with | some ks => eqPlain ks xs ys = true | none => False) := rfl
@[go_sem] theorem binD_ne [Glob P] {t : TypeId} {xs ys : List D} : binD P t .neq (.agg xs) (.agg ys) = (.v (.bool (!eqCells xs ys)), match eqKinds P t with | some ks => eqPlain ks xs ys = true | none => False) := rfl
attribute [go_sem] eqCells eqPlain
@[go_sem] theorem eqCell_i {k k' : IntKind} {a b : Int} : eqCell (.v (.int k a)) (.v (.int k' b)) = (a == b) := rfl
@[go_sem] theorem eqCell_b {a b : Bool} : eqCell (.v (.bool a)) (.v (.bool b)) = (a == b) := rfl
@[go_sem] theorem eqCell_s {a b : ByteArray} : eqCell (.v (.string a)) (.v (.string b)) = (a.data.toList == b.data.toList) := rfl
@[go_sem] theorem plainAs_i {k k' : IntKind} {a b : Int} : plainAs .i (.v (.int k a)) (.v (.int k' b)) = (k == k') := rfl
@[go_sem] theorem plainAs_b {a b : Bool} : plainAs .b (.v (.bool a)) (.v (.bool b)) = true := rfl
@[go_sem] theorem plainAs_s {a b : ByteArray} : plainAs .s (.v (.string a)) (.v (.string b)) = true := rfl
@[go_sem] theorem signed_i64 : IntKind.i64.signed = true := rfl
@[go_sem] theorem signed_u8 : IntKind.u8.signed = false := rfl
@[go_sem] theorem signed_u16 : IntKind.u16.signed = false := rfl
@[go_sem] theorem signed_u32 : IntKind.u32.signed = false := rfl
@[go_sem] theorem signed_u64 : IntKind.u64.signed = false := rfl
@[go_sem] theorem inK_i64 {n : Int} : inK .i64 n = (-9223372036854775808 ≤ n ∧ n ≤ 9223372036854775807) := by simp [inK, IntKind.min, IntKind.max, IntKind.signed, IntKind.bits]
@[go_sem] theorem unD_not {b : Bool} : unD .not (.v (.bool b)) = (.v (.bool !b), True) := rfl
@[go_sem] theorem unD_neg {k : IntKind} {n : Int} : unD .neg (.v (.int k n)) = (.v (.int k (-n)), inK k (-n)) := rfl
attribute [go_sem] convD
@[go_sem] theorem idxV_s [Glob P] {t : TypeId} {s : ByteArray} {k : IntKind} {n : Int} : idxV P t (.v (.string s)) (.v (.int k n)) = (.v (.int .u8 (s.data.toList.getD n.toNat 0).toNat), 0 ≤ n ∧ n < s.size ∧ P.underlying t = some .string) := rfl
@[go_sem] theorem bnd_none {d : Nat} : bnd none d = d := rfl
@[go_sem] theorem bnd_some {d : Nat} {k : IntKind} {n : Int} : bnd (some (.v (.int k n))) d = n := rfl
@[go_sem] theorem bndOk_none : bndOk none = true := rfl
@[go_sem] theorem bndOk_some {k : IntKind} {n : Int} : bndOk (some (.v (.int k n))) = true := rfl
attribute [go_sem] Option.toList_some Option.toList_none optAt sliceD
attribute [go_sem] derefW
@[go_sem] theorem wk_v {x : Value} : wk (.v x) = .v x := rfl
@[go_sem] theorem wk_agg {cs : List D} : wk (.agg cs) = .agg (wks cs) := rfl
@[go_sem] theorem wk_list {f : Bool} {rows : List (List D)} : wk (.list f rows) = .list false (wkr rows) := rfl
@[go_sem] theorem wk_eptr {cs : List D} : wk (.eptr cs) = .eptr (wks cs) := rfl
@[go_sem] theorem wk_tuple {cs : List D} : wk (.tuple cs) = .tuple (wks cs) := rfl
@[go_sem] theorem wk_mrow {a b c : Nat} : wk (.mrow a b c) = .mrow a b c := rfl
@[go_sem] theorem wk_mptr {a b c : Nat} : wk (.mptr a b c) = .mptr a b c := rfl
@[go_sem] theorem wk_fn {f : Fn} {a b : List D} : wk (.fn f a b) = .fn f a b := rfl
@[go_sem] theorem wk_iface {t : TypeId} {d : D} : wk (.iface t d) = .iface t (wk d) := rfl
attribute [go_sem] wks wkr
@[go_sem] theorem deref_list {f : Bool} {rows : List (List D)} {h : H} : deref h (.list f rows) = .list f rows := rfl
@[go_sem] theorem deref_v {x : Value} {h : H} : deref h (.v x) = .v x := rfl
@[go_sem] theorem deref_agg {x : List D} {h : H} : deref h (.agg x) = .agg x := rfl
@[go_sem] theorem deref_fn {f : Fn} {a b : List D} {h : H} : deref h (.fn f a b) = .fn f (a.map (deref1 h)) (b.map (deref1 h)) := rfl
@[go_sem] theorem deref_mptr {a b c : Nat} {h : H} : deref h (.mptr a b c) = .eptr ((ldCells (.mptr a b c) h).map (deref0 h)) := rfl
@[go_sem] theorem deref1_mptr {a b c : Nat} {h : H} : deref1 h (.mptr a b c) = .eptr ((ldCells (.mptr a b c) h).map (deref0 h)) := rfl
@[go_sem] theorem deref1_mrow {a b c : Nat} {h : H} : deref1 h (.mrow a b c) = .list false (rowsOf (.mrow a b c) h) := rfl
@[go_sem] theorem deref0_mrow {a b c : Nat} {h : H} : deref0 h (.mrow a b c) = .list false (rowsOf (.mrow a b c) h) := rfl
@[go_sem] theorem deref1_v {x : Value} {h : H} : deref1 h (.v x) = .v x := rfl
@[go_sem] theorem deref1_list {f : Bool} {rows : List (List D)} {h : H} : deref1 h (.list f rows) = .list f rows := rfl
@[go_sem] theorem deref1_eptr {x : List D} {h : H} : deref1 h (.eptr x) = .eptr x := rfl
@[go_sem] theorem deref1_fn {f : Fn} {a b : List D} {h : H} : deref1 h (.fn f a b) = .fn f a b := rfl
@[go_sem] theorem deref0_v {x : Value} {h : H} : deref0 h (.v x) = .v x := rfl
@[go_sem] theorem deref0_list {f : Bool} {rows : List (List D)} {h : H} : deref0 h (.list f rows) = .list f rows := rfl
@[go_sem] theorem deref0_fn {f : Fn} {a b : List D} {h : H} : deref0 h (.fn f a b) = .fn f a b := rfl
@[go_sem] theorem deref_eptr {x : List D} {h : H} : deref h (.eptr x) = .eptr x := rfl
@[go_sem] theorem isMrow_eptr {x : List D} : isMrow (.eptr x) = false := rfl
@[go_sem] theorem derefOk_eptr {x : List D} {h : H} : derefOk h (.eptr x) = True := rfl
@[go_sem] theorem deref_mrow {a b c : Nat} {h : H} : deref h (.mrow a b c) = .list false (rowsOf (.mrow a b c) h) := rfl
@[go_sem] theorem isMrow_list {f : Bool} {rows : List (List D)} : isMrow (.list f rows) = false := rfl
@[go_sem] theorem isMrow_v {x : Value} : isMrow (.v x) = false := rfl
@[go_sem] theorem isMrow_agg {x : List D} : isMrow (.agg x) = false := rfl
@[go_sem] theorem isMrow_fn {f : Fn} {a b : List D} : isMrow (.fn f a b) = (a.any isRef || b.any isRef) := rfl
@[go_sem] theorem isMrow_mptr {a b c : Nat} : isMrow (.mptr a b c) = true := rfl
@[go_sem] theorem isRef_mptr {a b c : Nat} : isRef (.mptr a b c) = true := rfl
@[go_sem] theorem isRef_mrow {a b c : Nat} : isRef (.mrow a b c) = true := rfl
@[go_sem] theorem isRef_v {x : Value} : isRef (.v x) = false := rfl
@[go_sem] theorem isRef_list {f : Bool} {rows : List (List D)} : isRef (.list f rows) = false := rfl
@[go_sem] theorem isRef_eptr {x : List D} : isRef (.eptr x) = false := rfl
@[go_sem] theorem isRef_fn {f : Fn} {a b : List D} : isRef (.fn f a b) = false := rfl
@[go_sem] theorem isMrow_mrow {a b c : Nat} : isMrow (.mrow a b c) = true := rfl
@[go_sem] theorem derefOk_list {f : Bool} {rows : List (List D)} {h : H} : derefOk h (.list f rows) = True := rfl
@[go_sem] theorem derefOk_v {x : Value} {h : H} : derefOk h (.v x) = True := rfl
@[go_sem] theorem derefOk_agg {x : List D} {h : H} : derefOk h (.agg x) = True := rfl
@[go_sem] theorem derefOk_fn {f : Fn} {a b : List D} {h : H} : derefOk h (.fn f a b) = ((∀ c ∈ a, derefOk1 h c) ∧ ∀ c ∈ b, derefOk1 h c) := rfl
@[go_sem] theorem derefOk_mptr {r i off : Nat} {h : H} : derefOk h (.mptr r i off) = ((h r).isSome = true ∧ ∀ c ∈ ldCells (.mptr r i off) h, derefOk0 h c) := rfl
@[go_sem] theorem derefOk1_mptr {r i off : Nat} {h : H} : derefOk1 h (.mptr r i off) = ((h r).isSome = true ∧ ∀ c ∈ ldCells (.mptr r i off) h, derefOk0 h c) := rfl
@[go_sem] theorem derefOk1_mrow {r off len : Nat} {h : H} : derefOk1 h (.mrow r off len) = ((h r).isSome = true ∧ (rowsOf (.mrow r off len) h).length = len) := rfl
@[go_sem] theorem derefOk0_mrow {r off len : Nat} {h : H} : derefOk0 h (.mrow r off len) = ((h r).isSome = true ∧ (rowsOf (.mrow r off len) h).length = len) := rfl
@[go_sem] theorem derefOk1_v {x : Value} {h : H} : derefOk1 h (.v x) = True := rfl
@[go_sem] theorem derefOk1_list {f : Bool} {rows : List (List D)} {h : H} : derefOk1 h (.list f rows) = True := rfl
@[go_sem] theorem derefOk1_eptr {x : List D} {h : H} : derefOk1 h (.eptr x) = True := rfl
@[go_sem] theorem derefOk1_fn {f : Fn} {a b : List D} {h : H} : derefOk1 h (.fn f a b) = True := rfl
@[go_sem] theorem derefOk0_v {x : Value} {h : H} : derefOk0 h (.v x) = True := rfl
@[go_sem] theorem derefOk0_list {f : Bool} {rows : List (List D)} {h : H} : derefOk0 h (.list f rows) = True := rfl
@[go_sem] theorem derefOk0_fn {f : Fn} {a b : List D} {h : H} : derefOk0 h (.fn f a b) = True := rfl
@[go_sem] theorem derefOk_mrow {r off len : Nat} {h : H} : derefOk h (.mrow r off len) = ((h r).isSome = true ∧ (rowsOf (.mrow r off len) h).length = len) := rfl
attribute [go_sem] List.any_cons List.any_nil Bool.or_false Bool.or_true Bool.false_or Bool.true_or
@[go_sem] theorem call_func {k : FuncId} {d : D} {ys : List D} {h : H} {b : Nat} : callD W C (.func k) (d :: ys) h b = if C.pure k then
      (C.pf k (ys.map (derefW h)), h, W.pureCt k (ys.map (derefW h)) (C.pf k (ys.map (derefW h))) ∧ (ys.any isMrow = true → flat (C.pf k (ys.map (derefW h))) = true ∧ ∀ y ∈ ys, derefOk h y))
    else (.junk, h, False) := rfl
@[go_sem] theorem call_tmp {k : FuncId} {t : Tmp} {first caps ys : List D} {h : H} {b : Nat} : callD W C (.tmp t) (.fn (.func k) first caps :: ys) h b = if C.pure k then
      (C.pf k ((first ++ ys ++ caps).map (derefW h)), h, W.pureCt k ((first ++ ys ++ caps).map (derefW h)) (C.pf k ((first ++ ys ++ caps).map (derefW h))) ∧ ((first ++ ys ++ caps).any isMrow = true → flat (C.pf k ((first ++ ys ++ caps).map (derefW h))) = true ∧ ∀ y ∈ first ++ ys ++ caps, derefOk h y))
    else (.junk, h, False) := rfl
@[go_sem] theorem words_pure [Glob P] {k : FuncId} {xs : List D} {r : D} : (words P).pureCt k xs r = PureCt P k xs r := rfl
@[go_sem] theorem words_ct [Glob P] {k : FuncId} {xs : List D} {h h' : H} {b : Nat} {r : D} : (words P).ct k xs h b r h' = Ct P k xs h b r h' := rfl
@[go_sem] theorem flat_v {x : Value} : flat (.v x) = true := rfl

/-! ### leaving -/
attribute [go_sem] resOk resOneOk resOne resD
attribute [go_sem] List.forall_mem_cons List.not_mem_nil false_implies forall_const
@[go_sem] theorem snap_v {h : H} {k : Nat} {x : Value} : snap h k (.v x) = .v x := by cases k <;> rfl
@[go_sem] theorem snap_list {h : H} {k : Nat} {f : Bool} {x : List (List D)} : snap h k (.list f x) = .list f x := by cases k <;> rfl
@[go_sem] theorem snap_mrow {h : H} {k : Nat} {r off len : Nat} : snap h (k + 1) (.mrow r off len) = .list false ((rowsOf (.mrow r off len) h).map fun row => row.map (snap h k)) := rfl
@[go_sem] theorem snap_agg {h : H} {k : Nat} {cs : List D} : snap h (k + 1) (.agg cs) = .agg (cs.map (snap h k)) := rfl
@[go_sem] theorem snap_tuple {h : H} {k : Nat} {cs : List D} : snap h (k + 1) (.tuple cs) = .tuple (cs.map (snap h k)) := rfl
@[go_sem] theorem snapOk_v {h : H} {k : Nat} {x : Value} : snapOk h k (.v x) = True := by cases k <;> simp [snapOk, D.nr]
@[go_sem] theorem snapOk_list {h : H} {k : Nat} {f : Bool} {x : List (List D)} : snapOk h k (.list f x) = (nrr x = true) := by cases k <;> rfl
@[go_sem] theorem snapOk_mrow {h : H} {k : Nat} {r off len : Nat} : snapOk h (k + 1) (.mrow r off len) = (derefOk h (.mrow r off len) ∧ ∀ row ∈ rowsOf (.mrow r off len) h, ∀ c ∈ row, snapOk h k c) := rfl
@[go_sem] theorem snapOk_agg {h : H} {k : Nat} {cs : List D} : snapOk h (k + 1) (.agg cs) = ∀ c ∈ cs, snapOk h k c := rfl
@[go_sem] theorem snapOk_tuple {h : H} {k : Nat} {cs : List D} : snapOk h (k + 1) (.tuple cs) = ∀ c ∈ cs, snapOk h k c := rfl
@[go_sem] theorem snap_mptr {h : H} {k : Nat} {r i off : Nat} : snap h (k + 1) (.mptr r i off) = .eptr ((ldCells (.mptr r i off) h).map (snap h k)) := rfl
@[go_sem] theorem snap_fn {h : H} {k : Nat} {f : Fn} {a b : List D} : snap h (k + 1) (.fn f a b) = .fn f (a.map (snap h k)) (b.map (snap h k)) := rfl
@[go_sem] theorem snapOk_mptr {h : H} {k : Nat} {r i off : Nat} : snapOk h (k + 1) (.mptr r i off) = ((h r).isSome = true ∧ ∀ c ∈ ldCells (.mptr r i off) h, snapOk h k c) := rfl
@[go_sem] theorem snapOk_fn {h : H} {k : Nat} {f : Fn} {a b : List D} : snapOk h (k + 1) (.fn f a b) = ((∀ c ∈ a, snapOk h k c) ∧ ∀ c ∈ b, snapOk h k c) := rfl
theorem snap_nr {h : H} {d : D} (hn : d.nr = true) : snap h 0 d = d ∧ snapOk h 0 d := ⟨rfl, hn⟩
theorem snap_rows0 {h : H} (rows : List (List D)) : (rows.map fun row => row.map (snap h 0)) = rows := by
  have : (fun row : List D => row.map (snap h 0)) = id := by funext row; exact List.map_id row
  rw [this]; exact List.map_id rows
theorem snapOk_rows0 {h : H} {rows : List (List D)} (hn : nrr rows = true) : ∀ row ∈ rows, ∀ c ∈ row, snapOk h 0 c := fun _ h1 _ h2 => nrs_mem (nrr_mem hn h1) h2

/-! ### walks -/
theorem dw_region_eq [Glob P] {ro : Option Nat} {Q : Exit → S → Prop} {s s' : S} {id : Nat} {ops : Array Oper} {draw : Bool} (he : exec P (words P) C ops.toList s = s') (hd : draw = true → P.follows .mixedOrders = true ∧ commOk C ops.toList = true ∧ backOk ops.toList = true) (hok : s'.ok) (hq : Q .normal s'.clear) : DW P ro (.region id ops draw) Q s :=
  dw_region (C := C) hd (by rw [he]; exact hok) (by rw [he]; exact hq)
end Go.DL
