/-
  MANY TEXTS OF MINE IN ONE (a claim has a limit of files): DFt, DW, DSimp, Types, DWalk, DRange, Str, Rec, Cmp, Rec2, Rec3, Rec4, Rec5, Sym, Rec6, Rec7. Conditions: none.
-/
import Derived.Deep.LoopGhost
import Derived.RangeFuncRecord
import Derived.Test.YtjngdcldglkolaaDoorProg
import Derived.KernelRfl
import Derived.Lib.Bytealg
import Derived.Shelf.Small.Strs
import Derived.Test.YtjngdcldglkolaaDoorMR1
set_option linter.unusedVariables false
set_option linter.unusedSimpArgs false
set_option linter.unusedSectionVars false
namespace Go.DL
open Go.RowKit
variable {P : Program} {C : Con} {B : Bot}
def Zkr (L : List Oper) (k : Nat) (z : Tmp) : Bool := (List.range L.length).all fun m => decide (m < k) || (L.getD m default).dst != some z
theorem keep1 [Glob P] {W : Words} {L : List Oper} {b : Nat} {z : Tmp} {s : S} {k : Nat} (h : ∀ o, L[k]? = some o → o.dst ≠ some z) : (Zbc P W C L b s k).t z = s.t z := by
 unfold Zbc
 cases hk : L[k]? with
 | none => rfl
 | some o =>
  have := h o hk
  simp only
  rw [Zsa]
  show S.put s o.dst _ z = s.t z
  cases hd : o.dst with
  | none => rfl
  | some d => exact upd_ne _ _ _ _ fun e => this (by rw [hd, e])
theorem keeps [Glob P] {W : Words} {L : List Oper} {b : Nat} {z : Tmp} : ∀ (l : List Nat) (s : S), (∀ k ∈ l, ∀ o, L[k]? = some o → o.dst ≠ some z) → (l.foldl (Zbc P W C L b) s).t z = s.t z
 | [], s, _ => rfl
 | k :: l, s, h => by
  simp only [List.foldl_cons]
  rw [keeps l _ fun m hm => h m (by simp [hm]), keep1 (h k (by simp))]
theorem Zij {L : List Oper} {k : Nat} {z : Tmp} (h : Zkr L k z = true) {m : Nat} (hm : k ≤ m) : ∀ o, L[m]? = some o → o.dst ≠ some z := by
 intro o ho
 have hl : m < L.length := (List.getElem?_eq_some_iff.1 ho).1
 simp only [Zkr, List.all_eq_true, List.mem_range, Bool.or_eq_true, decide_eq_true_eq, bne_iff_ne] at h
 rcases h m hl with h | h
 ·
  omega
 ·
  simpa only [List.getD, ho, Option.getD_some] using h
theorem Zfl [Glob P] {W : Words} {L : List Oper} {b : Nat} : ∀ (k i : Nat) (s : S), i + k ≤ L.length → Zha P W C L b i ((L.drop i).take k) s = (List.range' i k).foldl (Zbc P W C L b) s := by
 intro k
 induction k with
 | zero => intro i s _; simp [Zha]
 | succ k ih =>
  intro i s hk
  have hlt : i < L.length := by omega
  rw [List.drop_eq_getElem_cons hlt, List.take_succ_cons, List.range'_succ]
  simp only [Zha, List.foldl_cons]
  rw [ih (i + 1) _ (by omega)]
  congr 1
  simp [Zbc, hlt]
theorem Zot {a : D} {h h' : H} (hn : ∀ r, named r a = true → h' r = h r) : Zwa a h' = Zwa a h := by
 cases a with
 | mptr r i off =>
  have := hn r (by simp [named])
  simp only [Zwa, this]
 | _ => rfl
theorem Zey [Glob P] {a : D} {h h' : H} (hn : ∀ r, named r a = true → h' r = h r) : ldc P a h' = ldc P a h := by
 unfold ldc
 split
 ·
  rfl
 ·
  exact Zot hn
def Mem.only (g : Mem) (h' : H) : Mem := { M := fun r => if (h' r).isSome then g.M r else none, U := g.U, I := g.I }
theorem only_M {g : Mem} {h' : H} (r : Nat) (_ : g.U r) : (g.only h').M r = g.M r ∨ (g.only h').M r = none := by
 show (if (h' r).isSome then g.M r else none) = g.M r ∨ (if (h' r).isSome then g.M r else none) = none
 split
 ·
  exact .inl rfl
 ·
  exact .inr rfl
theorem only_mono {g : Mem} {h' : H} {w : World} : Mono g (g.only h') w w := by
 refine ⟨rfl, rfl, rfl, Nat.le_refl _, Nat.le_refl _, fun _ h => h, only_M, fun r b c s h => .inl ⟨r, c, s, ?_⟩, fun _ h => h, fun _ h => .inl h, fun _ _ _ => rfl⟩
 ·
  have h' : (if (h' r).isSome then g.M r else none) = some (some b, c, s) := h
  split at h'
  ·
   exact h'
  ·
   cases h'
theorem Rep.only {g : Mem} {h' : H} {w : World} {d : D} {v : Value} (h : Rep w g d v) : Rep w (g.only h') d v :=
 Rep.mono (g := g) (g' := g.only h') (fun _ hb => ⟨hb, rfl⟩) (fun _ h => h) only_M h
theorem HM.only [Glob P] {h h' : H} {g : Mem} {w : World} (hm : HM P h g w) (hh : ∀ r, h' r = h r ∨ h' r = none) : HM P h' (g.only h') w := by
 have inv : ∀ {r x}, (g.only h').M r = some x → g.M r = some x := by
  intro r x e
  have e : (if (h' r).isSome then g.M r else none) = some x := e
  split at e
  ·
   exact e
  ·
   cases e
 refine ⟨fun r hr => ?_, fun r bl hr => ?_, fun r r' b c c' s s' q1 q2 => hm.inj _ _ _ _ _ _ _ (inv q1) (inv q2), fun r hr => ?_, hm.imm, hm.gr⟩
 ·
  show (if (h' r).isSome then g.M r else none) = none
  rw [hr]; rfl
 ·
  have e : h r = some bl := by
   rcases hh r with e | e
   ·
    rw [← e]; exact hr
   ·
    rw [e] at hr; cases hr
  obtain ⟨blk, c, h1, h2, h3, h4, h5⟩ := hm.blk r bl e
  refine ⟨blk, c, by show (if (h' r).isSome then g.M r else none) = _; rw [hr]; exact h1, h2, h3, h4, ?_⟩
  rcases h5 with h5 | ⟨b, cur, rfl, h6, h7, h8, h9⟩
  ·
   exact .inl h5
  ·
   refine .inr ⟨b, cur, rfl, h6, h7, h8, fun i row hi => ⟨(h9 i row hi).1, fun j d hd => ?_⟩⟩
   obtain ⟨u, k3, k4, k5⟩ := (h9 i row hi).2 j d hd
   exact ⟨u, k3, k4, k5.only⟩
 ·
  cases e : (g.only h').M r with
  | none => exact absurd e hr
  | some x => exact hm.used r (by rw [inv e]; simp)
def Zdl (g : Mem) (r : Nat) : Mem := { M := fun x => if x = r then none else g.M x, U := g.U, I := fun b => g.I b ∨ ∃ c s, g.M r = some (some b, c, s) }
theorem Zqr {g : Mem} {r x : Nat} {y} (e : (Zdl g r).M x = some y) : x ≠ r ∧ g.M x = some y := by
 have e : (if x = r then none else g.M x) = some y := e
 split at e
 ·
  cases e
 ·
  exact ⟨‹_›, e⟩
theorem Zpr (g : Mem) (r : Nat) (w : World) : Mono g (Zdl g r) w w := by
 refine ⟨rfl, rfl, rfl, Nat.le_refl _, Nat.le_refl _, fun _ h => h, fun x _ => ?_, fun x b c s e => .inl ⟨x, c, s, (Zqr e).2⟩, fun _ h => .inl h, fun b hb => ?_, fun _ _ _ => rfl⟩
 ·
  show (if x = r then none else g.M x) = g.M x ∨ (if x = r then none else g.M x) = none
  split
  ·
   exact .inr rfl
  ·
   exact .inl rfl
 ·
  rcases hb with hb | ⟨c, s, hb⟩
  ·
   exact .inl hb
  ·
   exact .inr (.inr ⟨r, c, s, hb⟩)
theorem frz_hm [Glob P] {h : H} {g : Mem} {w : World} (hm : HM P h g w) (r : Nat) : HM P (upd h r none) (Zdl g r) w := by
 have mono := Zpr g r w
 refine ⟨fun x hx => ?_, fun x bl hx => ?_, fun x x' b c c' s s' q1 q2 => hm.inj _ _ _ _ _ _ _ (Zqr q1).2 (Zqr q2).2, fun x hx => ?_, fun b hb => ?_, hm.gr.later (hm.kept mono)⟩
 ·
  show (if x = r then none else g.M x) = none
  split
  ·
   rfl
  ·
   rename_i e; rw [upd_ne _ _ _ _ e] at hx; exact hm.dead x hx
 ·
  by_cases e : x = r
  ·
   subst e; rw [upd_same] at hx; cases hx
  rw [upd_ne _ _ _ _ e] at hx
  obtain ⟨blk, c, h1, h2, h3, h4, h5⟩ := hm.blk x bl hx
  refine ⟨blk, c, by show (if x = r then none else g.M x) = _; rw [if_neg e]; exact h1, h2, h3, h4, ?_⟩
  rcases h5 with h5 | ⟨b, cur, rfl, h6, h7, h8, h9⟩
  ·
   exact .inl h5
  ·
   refine .inr ⟨b, cur, rfl, h6, h7, fun hI => ?_, fun i row hi => ⟨(h9 i row hi).1, fun j d hd => ?_⟩⟩
   ·
    rcases hI with hI | ⟨c', s', hI⟩
    ·
     exact h8 hI
    ·
     exact e (hm.inj _ _ _ _ _ _ _ h1 hI)
   ·
    obtain ⟨u, k3, k4, k5⟩ := (h9 i row hi).2 j d hd
    exact ⟨u, k3, k4, k5.later hm mono⟩
 ·
  cases e : (Zdl g r).M x with
  | none => exact absurd e hx
  | some y => exact hm.used x (by rw [(Zqr e).2]; simp)
 ·
  rcases hb with hb | ⟨c, s, hb⟩
  ·
   exact hm.imm b hb
  ·
   exact (Zn1 hm hb).1
theorem nrr_sub : ∀ {rows rows' : List (List D)}, nrr rows = true → (∀ r ∈ rows', r ∈ rows) → nrr rows' = true := by
 intro rows rows' h hs
 exact Zz2 fun r hr => Zcn h (hs r hr)
theorem Zw3 [Glob P] {h : H} {g : Mem} {w : World} (hm : HM P h g w) {r : Nat} {ty : TypeId} {rows : List (List D)} (hr : h r = some ⟨ty, rows⟩) (hn : nrr rows = true) {off k : Nat} (hk : off + k ≤ rows.length) {v : Value} (hv : Rep w g (.mrow r off k) v) : Rep w (Zdl g r) (.list false ((rows.drop off).take k)) v := by
 let h1 : H := fun x => if x = r then h r else none
 have hsub : ∀ x, h1 x = h x ∨ h1 x = none := fun x => by
  by_cases e : x = r
  ·
   subst e; exact .inl (if_pos rfl)
  ·
   exact .inr (if_neg e)
 have hm1 := hm.only hsub
 have e1 : h1 r = some ⟨ty, rows⟩ := by show (if r = r then h r else none) = _; rw [if_pos rfl]; exact hr
 have e2 : rowsOf (.mrow r off k) h1 = (rows.drop off).take k := by simp only [rowsOf, e1]
 have := Zlf hm1 (Zyc hv.only) ⟨by rw [e1]; rfl, by rw [e2]; simp; omega⟩
 rw [e2] at this
 refine this.clean (nrr_sub hn fun x hx => List.mem_of_mem_drop (List.mem_of_mem_take hx)) fun b hb => ?_
 rcases hb with hb | ⟨x, c, sz, hb⟩
 ·
  exact .inl hb
 ·
  have hb2 : (if (h1 x).isSome then g.M x else none) = some (some b, c, sz) := hb
  split at hb2
  ·
   rename_i hx
   have : x = r := by
    refine Classical.byContradiction fun e => ?_
    have : h1 x = none := if_neg e
    rw [this] at hx; cases hx
   subst this
   exact .inr ⟨c, sz, hb2⟩
  ·
   cases hb2
def Zo1 : D → List Nat
 | .mrow r _ _ | .mptr r _ _ | .mp r => [r]
 | _ => []
def foot (op : Op) (xs : List D) (b : Nat) : List Nat := match op, xs with
 | .load .., [a] => Zo1 a
 | .alloc _, _ => [b]
 | .call { callee := .builtin .append, .. }, [x, y] => b :: (Zo1 x ++ Zo1 y)
 | .store .., [a, _] => Zo1 a
 | _, _ => []
def Zmj (C : Con) (o : Oper) : Bool := o.guard.isNone && (match o.op with
 | .load .. | .alloc _ | .store .. => true
 | .call { callee := .builtin .append, .. } => true
 | op => cls C op == .none)
structure Loc (f : H → D × H × Prop) (F : List Nat) : Prop where
 out : ∀ h r, r ∉ F → (f h).2.1 r = h r
 same : ∀ h h', (∀ r ∈ F, h r = h' r) → (f h).1 = (f h').1 ∧ (f h).2.2 = (f h').2.2 ∧ ∀ r ∈ F, (f h).2.1 r = (f h').2.1 r
theorem Loc.comm {f g : H → D × H × Prop} {F G : List Nat} (hf : Loc f F) (hg : Loc g G) (hd : ∀ r ∈ F, r ∉ G) (h : H) :
  (g (f h).2.1).1 = (g h).1 ∧ (g (f h).2.1).2.2 = (g h).2.2 ∧ (f (g h).2.1).1 = (f h).1 ∧ (f (g h).2.1).2.2 = (f h).2.2 ∧ (g (f h).2.1).2.1 = (f (g h).2.1).2.1 := by
 have a := hg.same (f h).2.1 h fun r hr => hf.out h r fun q => hd r q hr
 have c := hf.same (g h).2.1 h fun r hr => hg.out h r (hd r hr)
 refine ⟨a.1, a.2.1, c.1, c.2.1, ?_⟩
 funext r
 by_cases q1 : r ∈ F
 ·
  rw [c.2.2 r q1, hg.out _ r (hd r q1)]
 ·
  by_cases q2 : r ∈ G
  ·
   rw [a.2.2 r q2, hf.out _ r q1]
  ·
   rw [hg.out _ r q2, hf.out _ r q1, hf.out _ r q1, hg.out _ r q2]
theorem Zze {f : H → D × H × Prop} (h1 : ∀ h, (f h).2.1 = h) (h2 : ∀ h h', (f h).1 = (f h').1 ∧ (f h).2.2 = (f h').2.2) : Loc f [] :=
 ⟨fun h r _ => by rw [h1], fun h h' _ => ⟨(h2 h h').1, (h2 h h').2, fun r hr => by cases hr⟩⟩
theorem loc_load [Glob P] {t : TypeId} {x : Operand} {W : Words} {xs : List D} {b : Nat} : Loc (fun h => eff P W C (.load t x) xs h b) (foot (.load t x) xs b) := by
 match xs with
 | [] => exact Zze (fun _ => rfl) fun _ _ => ⟨rfl, rfl⟩
 | a :: c :: l => exact Zze (fun _ => rfl) fun _ _ => ⟨rfl, rfl⟩
 | [a] =>
  refine ⟨fun h r _ => rfl, fun h h' hh => ?_⟩
  have key : ldD P t a h = ldD P t a h' := by
   have : ldc P a h = ldc P a h' := Zey fun r hr => hh r (by
    cases a <;> first | (simp only [named, beq_iff_eq] at hr; subst hr; exact List.mem_singleton.2 rfl) | (cases hr))
   unfold ldD
   simp only [this]
  refine ⟨?_, ?_, fun r hr => hh r hr⟩
  ·
   show (ldD P t a h).1 = (ldD P t a h').1
   rw [key]
  ·
   show (ldD P t a h).2 = (ldD P t a h').2
   rw [key]
theorem Zh3 [Glob P] {t : TypeId} {W : Words} {xs : List D} {b : Nat} : Loc (fun h => eff P W C (.alloc t) xs h b) (foot (.alloc t) xs b) := by
 match xs with
 | a :: l => exact ⟨fun h r _ => rfl, fun h h' hh => ⟨rfl, rfl, fun r hr => hh r hr⟩⟩
 | [] =>
  refine ⟨fun h r hr => ?_, fun h h' hh => ⟨rfl, rfl, fun r hr => ?_⟩⟩
  ·
   exact upd_ne _ _ _ _ fun e => hr (by rw [e]; exact List.mem_singleton.2 rfl)
  ·
   have : r = b := List.mem_singleton.1 hr
   subst this
   show upd h r _ r = upd h' r _ r
   rw [upd_same, upd_same]
theorem Zg3 [Glob P] {t : TypeId} {x y : Operand} {W : Words} {xs : List D} {b : Nat} : Loc (fun h => eff P W C (.store t x y) xs h b) (foot (.store t x y) xs b) := by
 match xs with
 | [] => exact Zze (fun _ => rfl) fun _ _ => ⟨rfl, rfl⟩
 | [a] => exact Zze (fun _ => rfl) fun _ _ => ⟨rfl, rfl⟩
 | a :: c :: d :: l => exact Zze (fun _ => rfl) fun _ _ => ⟨rfl, rfl⟩
 | [a, c] =>
  cases a with
  | mptr r k off =>
   refine ⟨fun h q hq => ?_, fun h h' hh => ?_⟩
   ·
    show (stH P t (.mptr r k off) c h).1 q = h q
    have : q ≠ r := fun e => hq (by rw [e]; exact List.mem_singleton.2 rfl)
    cases hr : h r with
    | none => simp only [stH, hr]
    | some bl => simp only [stH, hr]; exact upd_ne _ _ _ _ this
   ·
    have hr := hh r (List.mem_singleton.2 rfl)
    refine ⟨rfl, ?_, fun q hq => ?_⟩
    ·
     show (stH P t (.mptr r k off) c h).2 = (stH P t (.mptr r k off) c h').2
     simp only [stH, hr]
     cases h' r <;> rfl
    ·
     have : q = r := List.mem_singleton.1 hq
     subst this
     show (stH P t (.mptr q k off) c h).1 q = (stH P t (.mptr q k off) c h').1 q
     simp only [stH, hr]
     cases h' q with
     | none => exact hr
     | some bl => simp only [upd_same]
  | _ => exact ⟨fun h q _ => rfl, fun h h' hh => ⟨rfl, rfl, fun q hq => hh q hq⟩⟩
theorem Zjv {y : D} {h h' : H} (hh : ∀ r ∈ Zo1 y, h r = h' r) : rowsOf y h = rowsOf y h' := by
 cases y with
 | mrow r off len => simp only [rowsOf, hh r (List.mem_singleton.2 rfl)]
 | v x => cases x <;> rfl
 | _ => rfl
theorem Zpz [Glob P] {u : TypeId} {y : D} {h h' : H} (hh : ∀ r ∈ Zo1 y, h r = h' r) : Zhg P u h y = Zhg P u h' y := by
 cases y with
 | mrow r off len => simp only [Zhg, hh r (List.mem_singleton.2 rfl)]
 | v x => cases x <;> rfl
 | _ => rfl
theorem Zvv [Glob P] {t u : TypeId} {x y : D} {b : Nat} : Loc (fun h => Zib P t u x y h b) (b :: (Zo1 x ++ Zo1 y)) := by
 refine ⟨fun h r hr => ?_, fun h h' hh => ?_⟩
 ·
  have hb : r ≠ b := fun e => hr (by rw [e]; simp)
  have hx : r ∉ Zo1 x := fun e => hr (by simp [e])
  show (Zib P t u x y h b).2.1 r = h r
  unfold Zib
  cases Zya P t with
  | none => rfl
  | some e =>
   simp only
   split
   ·
    exact upd_ne _ _ _ _ hb
   ·
    rename_i q n
    split
    ·
     have : r ≠ q := fun e => hx (by rw [e]; exact List.mem_singleton.2 rfl)
     show upd (upd h q none) b _ r = h r
     rw [upd_ne _ _ _ _ hb, upd_ne _ _ _ _ this]
    ·
     rfl
   ·
    rfl
 ·
  have e1 : rowsOf y h = rowsOf y h' := Zjv fun r hr => hh r (by simp [hr])
  have e2 : Zhg P u h y = Zhg P u h' y := Zpz fun r hr => hh r (by simp [hr])
  show (Zib P t u x y h b).1 = (Zib P t u x y h' b).1 ∧ (Zib P t u x y h b).2.2 = (Zib P t u x y h' b).2.2 ∧ ∀ r ∈ _, (Zib P t u x y h b).2.1 r = (Zib P t u x y h' b).2.1 r
  unfold Zib
  cases Zya P t with
  | none => exact ⟨rfl, rfl, fun r hr => hh r hr⟩
  | some e =>
   simp only [e1, e2]
   split
   ·
    refine ⟨rfl, rfl, fun r hr => ?_⟩
    show upd h b _ r = upd h' b _ r
    by_cases q : r = b
    ·
     subst q; rw [upd_same, upd_same]
    ·
     rw [upd_ne _ _ _ _ q, upd_ne _ _ _ _ q]; exact hh r hr
   ·
    rename_i q n
    have e3 : h q = h' q := hh q (by simp [Zo1])
    rw [e3]
    cases h' q with
    | none => exact ⟨rfl, rfl, fun r hr => hh r hr⟩
    | some bl =>
     refine ⟨rfl, rfl, fun r hr => ?_⟩
     show upd (upd h q none) b _ r = upd (upd h' q none) b _ r
     by_cases q1 : r = b
     ·
      subst q1; rw [upd_same, upd_same]
     ·
      rw [upd_ne _ _ _ _ q1, upd_ne _ _ _ _ q1]
      by_cases q2 : r = q
      ·
       subst q2; rw [upd_same, upd_same]
      ·
       rw [upd_ne _ _ _ _ q2, upd_ne _ _ _ _ q2]; exact hh r hr
   ·
    exact ⟨rfl, rfl, fun r hr => hh r hr⟩
theorem eff_loc [Glob P] {W : Words} {o : Oper} {xs : List D} {b : Nat} (ho : Zmj C o = true) : Loc (fun h => eff P W C o.op xs h b) (foot o.op xs b) := by
 have hnone : cls C o.op = .none → foot o.op xs b = [] → Loc (fun h => eff P W C o.op xs h b) (foot o.op xs b) := by
  intro hc hf
  rw [hf]
  refine Zze (fun h => ?_) fun h h' => ?_
  ·
   rw [Zvr (h' := h) hc]
  ·
   rw [Zvr (h := h) (h' := h') hc]; exact ⟨rfl, rfl⟩
 unfold Zmj at ho
 rw [Bool.and_eq_true] at ho
 obtain ⟨_, ho⟩ := ho
 generalize o.op = op at ho hnone
 split at ho
 ·
  exact loc_load
 ·
  exact Zh3
 ·
  exact Zg3
 ·
  rename_i args ts
  match xs with
  | [] => exact Zze (fun _ => rfl) fun _ _ => ⟨rfl, rfl⟩
  | [a] => exact Zze (fun _ => rfl) fun _ _ => ⟨rfl, rfl⟩
  | a :: c :: d :: l => exact Zze (fun _ => rfl) fun _ _ => ⟨rfl, rfl⟩
  | [x, y] =>
   show Loc (fun h => match ts.toList with | [t, u] => Zib P t u x y h b | _ => (.junk, h, False)) (b :: (Zo1 x ++ Zo1 y))
   split
   ·
    exact Zvv
   ·
    exact ⟨fun h r _ => rfl, fun h h' hh => ⟨rfl, rfl, hh⟩⟩
 ·
  refine hnone (by simpa using ho) ?_
  unfold foot
  split <;> first | rfl | (exfalso; simp_all)
def Zfm (b : Nat) (r : D × H × Prop) : D × H × Prop := match r.1 with
 | .mrow q 0 m => if q = b then (match r.2.1 b with
  | some bl => (.list false (bl.rows.take m), upd r.2.1 b none, r.2.2 ∧ m ≤ bl.rows.length ∧ nrr bl.rows = true)
  | none => (.junk, r.2.1, False)) else (.junk, r.2.1, False)
 | _ => (.junk, r.2.1, False)
theorem Znn {b m : Nat} {h : H} {p : Prop} {bl : Blk} (hb : h b = some bl) : Zfm b (.mrow b 0 m, h, p) = (.list false (bl.rows.take m), upd h b none, p ∧ m ≤ bl.rows.length ∧ nrr bl.rows = true) := by
 simp only [Zfm, if_true, hb]
theorem frz1_ok {b : Nat} {r : D × H × Prop} (h : (Zfm b r).2.2) : ∃ m bl, r.1 = .mrow b 0 m ∧ r.2.1 b = some bl ∧ r.2.2 ∧ m ≤ bl.rows.length ∧ nrr bl.rows = true ∧ Zfm b r = (.list false (bl.rows.take m), upd r.2.1 b none, r.2.2 ∧ m ≤ bl.rows.length ∧ nrr bl.rows = true) := by
 obtain ⟨d, h', p⟩ := r
 cases d with
 | mrow q off m =>
  cases off with
  | zero =>
   by_cases e : q = b
   ·
    subst e
    cases hb : h' q with
    | none => simp only [Zfm, if_true, hb] at h
    | some bl =>
     rw [Znn hb] at h
     exact ⟨m, bl, rfl, hb, h.1, h.2.1, h.2.2, Znn hb⟩
   ·
    simp only [Zfm, if_neg e] at h
  | succ k => exact h.elim
 | _ => exact h.elim
theorem Loc.frz {f : H → D × H × Prop} {F : List Nat} {b : Nat} (hf : Loc f F) (hb : b ∈ F) : Loc (fun h => Zfm b (f h)) F := by
 have key : ∀ h, (∃ m bl, (f h).1 = .mrow b 0 m ∧ (f h).2.1 b = some bl ∧ Zfm b (f h) = (.list false (bl.rows.take m), upd (f h).2.1 b none, (f h).2.2 ∧ m ≤ bl.rows.length ∧ nrr bl.rows = true)) ∨ (Zfm b (f h) = (.junk, (f h).2.1, False) ∧ ∀ m bl, (f h).1 = .mrow b 0 m → (f h).2.1 b ≠ some bl) := by
  intro h
  rcases hr : f h with ⟨d, h', p⟩
  cases d with
  | mrow q off m =>
   cases off with
   | zero =>
    by_cases e : q = b
    ·
     subst e
     cases hb : h' q with
     | none => exact .inr ⟨by simp only [Zfm, if_true, hb], fun m bl _ q => by simp only [hb] at q; cases q⟩
     | some bl => exact .inl ⟨m, bl, rfl, hb, Znn hb⟩
    ·
     exact .inr ⟨by simp only [Zfm, if_neg e], fun m bl q => absurd (by cases q; rfl) e⟩
   | succ k => exact .inr ⟨rfl, fun m bl q => by cases q⟩
  | _ => exact .inr ⟨rfl, fun m bl q => by cases q⟩
 refine ⟨fun h r hr => ?_, fun h h' hh => ?_⟩
 ·
  show (Zfm b (f h)).2.1 r = h r
  have hne : r ≠ b := fun e => hr (by rw [e]; exact hb)
  rcases key h with ⟨m, bl, _, _, e⟩ | ⟨e, _⟩
  ·
   rw [e]; show upd _ b none r = h r; rw [upd_ne _ _ _ _ hne]; exact hf.out h r hr
  ·
   rw [e]; exact hf.out h r hr
 ·
  show (Zfm b (f h)).1 = (Zfm b (f h')).1 ∧ (Zfm b (f h)).2.2 = (Zfm b (f h')).2.2 ∧ ∀ r ∈ F, (Zfm b (f h)).2.1 r = (Zfm b (f h')).2.1 r
  obtain ⟨s1, s2, s3⟩ := hf.same h h' hh
  rcases key h with ⟨m, bl, k1, k2, e⟩ | ⟨e, k⟩ <;> rcases key h' with ⟨m', bl', k1', k2', e'⟩ | ⟨e', k'⟩
  ·
   have hm : m = m' := by rw [k1, k1'] at s1; cases s1; rfl
   have hbl : bl = bl' := by have := s3 b hb; rw [k2, k2'] at this; exact Option.some.inj this
   subst hm; subst hbl
   rw [e, e']
   refine ⟨rfl, by show (_ ∧ _) = (_ ∧ _); rw [s2], fun r hr => ?_⟩
   show upd _ b none r = upd _ b none r
   by_cases q : r = b
   ·
    subst q; rw [upd_same, upd_same]
   ·
    rw [upd_ne _ _ _ _ q, upd_ne _ _ _ _ q]; exact s3 r hr
  ·
   exact absurd (by rw [← s3 b hb]; exact k2) (k' m bl (by rw [← s1]; exact k1))
  ·
   exact absurd (by rw [s3 b hb]; exact k2') (k m' bl' (by rw [s1]; exact k1'))
  ·
   rw [e, e']; exact ⟨rfl, rfl, s3⟩
def outG (P : Program) [Glob P] (W : Words) (C : Con) (L : List Oper) (b : Nat) (fz : Option Nat) (i : Nat) (o : Oper) (n : Nat) (ev : Operand → D) (t : Nat → D) (h : H) : D × H × Prop :=
 if fz = some i then Zfm (b + i) (Zob P W C L b i o n ev t h) else Zob P W C L b i o n ev t h
def stepG (P : Program) [Glob P] (W : Words) (C : Con) (L : List Oper) (b : Nat) (fz : Option Nat) (s : S) (i : Nat) : S := match L[i]? with
 | none => s
 | some o => { s with t := s.put o.dst (outG P W C L b fz i o s.n s.ev s.t s.h).1, h := (outG P W C L b fz i o s.n s.ev s.t s.h).2.1, ok := s.ok ∧ (outG P W C L b fz i o s.n s.ev s.t s.h).2.2 }
theorem Zwc [Glob P] {W : Words} {L : List Oper} {b i : Nat} {fz : Option Nat} {s : S} (h : fz ≠ some i) : stepG P W C L b fz s i = Zbc P W C L b s i := by
 unfold stepG Zbc
 cases L[i]? with
 | none => rfl
 | some o => simp only [outG, if_neg h, Zsa]
theorem Zdp [Glob P] {W : Words} {L : List Oper} {b i : Nat} {fz : Option Nat} {o : Oper} {s s' : S} {n : Nat} {h : H} (he : ∀ x ∈ looks L o, s.t x = s'.t x) : outG P W C L b fz i o n s.ev s.t h = outG P W C L b fz i o n s'.ev s'.t h := by
 unfold outG
 rw [Zhf he]
theorem Zv2 [Glob P] {W : Words} {L : List Oper} {b i : Nat} {o : Oper} {n : Nat} {ev : Operand → D} {t : Nat → D} (ho : Zmj C o = true) : Loc (fun h => Zob P W C L b i o n ev t h) (foot o.op (((Zga o.op).map ev).map sd) (b + i)) := by
 have hg : o.guard = none := by
  unfold Zmj at ho
  rw [Bool.and_eq_true] at ho
  exact Option.isNone_iff_eq_none.1 ho.1
 have he := eff_loc (P := P) (W := W) (xs := ((Zga o.op).map ev).map sd) (b := b + i) ho
 cases hp : Zra o.op with
 | true =>
  have hf : foot o.op (((Zga o.op).map ev).map sd) (b + i) = [] := by
   cases hop : o.op <;> simp only [hop, Zra, Bool.false_eq_true] at hp
   rfl
  rw [hf]
  refine Zze (fun h => ?_) fun h h' => ?_
  ·
   simp only [Zob, hg, Zmb, hp, if_true]; rfl
  ·
   simp only [Zob, hg, Zmb, hp, if_true]; exact ⟨rfl, rfl⟩
 | false =>
  refine ⟨fun h r hr => ?_, fun h h' hh => ?_⟩
  ·
   show (Zob P W C L b i o n ev t h).2.1 r = h r
   simp only [Zob, hg, Zmb, hp, Bool.false_eq_true, if_false]
   exact he.out h r hr
  ·
   show (Zob P W C L b i o n ev t h).1 = (Zob P W C L b i o n ev t h').1 ∧ (Zob P W C L b i o n ev t h).2.2 = (Zob P W C L b i o n ev t h').2.2 ∧ ∀ r ∈ _, (Zob P W C L b i o n ev t h).2.1 r = (Zob P W C L b i o n ev t h').2.1 r
   obtain ⟨q1, q2, q3⟩ := he.same h h' hh
   simp only [Zob, hg, Zmb, hp, Bool.false_eq_true, if_false]
   exact ⟨q1, by rw [q2], q3⟩
def Zas (o : Oper) : Bool := match o.op with
 | .call { callee := .builtin .append, args, .. } => args.toList.length == 2
 | _ => false
theorem Zm1 {o : Oper} (h : Zas o = true) (hr : Zxk o.op = true) : False := by
 unfold Zas at h
 split at h
 ·
  rename_i e
  rw [e] at hr
  cases hr
 ·
  cases h
theorem app_foot {o : Oper} {ev : Operand → D} {b : Nat} (h : Zas o = true) : b ∈ foot o.op (((Zga o.op).map ev).map sd) b := by
 unfold Zas at h
 split at h
 ·
  rename_i args ts e
  have h2 : args.toList.length = 2 := by simpa using h
  rw [e]
  match hq : args.toList, h2 with
  | [x, y], _ =>
   show b ∈ foot _ ((args.toList.map ev).map sd) b
   rw [hq]
   exact List.mem_cons_self
 ·
  cases h
theorem Zux [Glob P] {W : Words} {L : List Oper} {b i : Nat} {fz : Option Nat} {o : Oper} {n : Nat} {ev : Operand → D} {t : Nat → D} (ho : Zmj C o = true) (hz : fz = some i → Zas o = true) : Loc (fun h => outG P W C L b fz i o n ev t h) (foot o.op (((Zga o.op).map ev).map sd) (b + i)) := by
 by_cases e : fz = some i
 ·
  have : (fun h => outG P W C L b fz i o n ev t h) = fun h => Zfm (b + i) (Zob P W C L b i o n ev t h) := by funext h; simp only [outG, if_pos e]
  rw [this]
  exact (Zv2 ho).frz (app_foot (hz e))
 ·
  have : (fun h => outG P W C L b fz i o n ev t h) = fun h => Zob P W C L b i o n ev t h := by funext h; simp only [outG, if_neg e]
  rw [this]
  exact Zv2 ho
theorem put_swap {x y : Option Tmp} {t : Nat → D} {n n' : Nat} {h h' : H} {nx nx' : Nat} {ok ok' : Prop} {e e' : Env} {r q : D} (hne : ∀ d, x = some d → y ≠ some d) : S.put { n := n, t := S.put { n := n, t := t, h := h, nx := nx, ok := ok, e := e } x r, h := h, nx := nx, ok := ok, e := e } y q = S.put { n := n', t := S.put { n := n', t := t, h := h', nx := nx', ok := ok', e := e' } y q, h := h', nx := nx', ok := ok', e := e' } x r := by
 cases x with
 | none => rfl
 | some d =>
  cases y with
  | none => rfl
  | some d' =>
   have hne : d ≠ d' := fun e => hne d rfl (by rw [e])
   funext z
   simp only [S.put, upd]
   by_cases e1 : z = d
   ·
    have : z ≠ d' := fun e => hne (e1 ▸ e)
    simp [e1, hne]
   ·
    simp [e1]
theorem Znz [Glob P] {W : Words} {L : List Oper} {b i j : Nat} {fz : Option Nat} {x y : Oper} {s : S} (hi : L[i]? = some x) (hj : L[j]? = some y) (hs : Znc L x y = true) (fx : Zmj C x = true) (fy : Zmj C y = true) (zx : fz = some i → Zas x = true) (zy : fz = some j → Zas y = true)
  (hd : ∀ r ∈ foot x.op (((Zga x.op).map s.ev).map sd) (b + i), r ∉ foot y.op (((Zga y.op).map s.ev).map sd) (b + j)) : stepG P W C L b fz (stepG P W C L b fz s i) j = stepG P W C L b fz (stepG P W C L b fz s j) i := by
 simp only [Znc, Bool.and_eq_true] at hs
 obtain ⟨h1, h2⟩ := hs
 have nx : ∀ d, x.dst = some d → d ∉ looks L y ∧ y.dst ≠ some d := by
  intro d hd
  rw [hd] at h1
  simp only [Bool.and_eq_true, Bool.not_eq_true', bne_iff_ne] at h1
  exact ⟨by simpa using h1.1, h1.2⟩
 have ny : ∀ d, y.dst = some d → d ∉ looks L x := by
  intro d hd
  rw [hd] at h2
  simpa using h2
 have look : ∀ {u : Oper} {s : S} {dst : Option Tmp} {r : D}, (∀ d, dst = some d → d ∉ looks L u) → ∀ z ∈ looks L u, s.t z = (S.put s dst r) z := by
  intro u s dst r hd z hz
  cases dst with
  | none => rfl
  | some d => exact (upd_ne _ _ _ _ (fun e => hd d rfl (by rw [← e]; exact hz))).symm
 have hc := (Zux (P := P) (W := W) (L := L) (b := b) (i := i) (n := s.n) (ev := s.ev) (t := s.t) fx zx).comm (Zux (P := P) (W := W) (L := L) (b := b) (i := j) (n := s.n) (ev := s.ev) (t := s.t) fy zy) hd s.h
 obtain ⟨c1, c2, c3, c4, c5⟩ := hc
 have e1 : ∀ u, stepG P W C L b fz u i = { u with t := u.put x.dst (outG P W C L b fz i x u.n u.ev u.t u.h).1, h := (outG P W C L b fz i x u.n u.ev u.t u.h).2.1, ok := u.ok ∧ (outG P W C L b fz i x u.n u.ev u.t u.h).2.2 } := fun u => by simp only [stepG, hi]
 have e2 : ∀ u, stepG P W C L b fz u j = { u with t := u.put y.dst (outG P W C L b fz j y u.n u.ev u.t u.h).1, h := (outG P W C L b fz j y u.n u.ev u.t u.h).2.1, ok := u.ok ∧ (outG P W C L b fz j y u.n u.ev u.t u.h).2.2 } := fun u => by simp only [stepG, hj]
 have ly : ∀ h', outG P W C L b fz j y s.n (S.ev (stepG P W C L b fz s i)) (stepG P W C L b fz s i).t h' = outG P W C L b fz j y s.n s.ev s.t h' := fun h' => by
  refine (Zdp (s := s) (s' := stepG P W C L b fz s i) fun z hz => ?_).symm
  rw [e1]
  exact look (fun d hd => (nx d hd).1) z hz
 have lx : ∀ h', outG P W C L b fz i x s.n (S.ev (stepG P W C L b fz s j)) (stepG P W C L b fz s j).t h' = outG P W C L b fz i x s.n s.ev s.t h' := fun h' => by
  refine (Zdp (s := s) (s' := stepG P W C L b fz s j) fun z hz => ?_).symm
  rw [e2]
  exact look (fun d hd => ny d hd) z hz
 have hi' : (stepG P W C L b fz s i).h = (outG P W C L b fz i x s.n s.ev s.t s.h).2.1 := by rw [e1]
 have hj' : (stepG P W C L b fz s j).h = (outG P W C L b fz j y s.n s.ev s.t s.h).2.1 := by rw [e2]
 have ni : (stepG P W C L b fz s i).n = s.n := by rw [e1]
 have nj : (stepG P W C L b fz s j).n = s.n := by rw [e2]
 rw [e2 (stepG P W C L b fz s i), e1 (stepG P W C L b fz s j), ni, nj, ly, lx, hi', hj', c1, c2, c3, c4, c5, e1 s, e2 s]
 congr 1
 ·
  exact put_swap fun d hd => (nx d hd).2
 ·
  exact propext ⟨fun ⟨⟨a, b⟩, c⟩ => ⟨⟨a, c⟩, b⟩, fun ⟨⟨a, b⟩, c⟩ => ⟨⟨a, c⟩, b⟩⟩
structure Pr where
 (j i : Nat)
def Zyv (L : List Oper) (k : Nat) : Bool := (looks L (L.getD k default)).all fun z => Zkr L k z
def prOk (C : Con) (L : List Oper) (p : Pr) : Bool := Zmj C (L.getD p.j default) && Zmj C (L.getD p.i default) && Znc L (L.getD p.j default) (L.getD p.i default) && Zyv L p.j && Zyv L p.i
def isPr (ps : List Pr) (j i : Nat) : Bool := ps.any fun p => p.j == j && p.i == i
def fzIs (fz : Option Nat) (i : Nat) : Bool := match fz with
 | some k => k == i
 | none => false
def fzOk (L : List Oper) (fz : Option Nat) : Bool := match fz with
 | some k => Zas (L.getD k default)
 | none => true
def Zzf (C : Con) (L : List Oper) (fz : Option Nat) (ps : List Pr) : Bool :=
 let B := Zao L []
 L.all (Zoc C) && ps.all (prOk C L) && fzOk L fz && (List.range L.length).all fun i => (List.range i).all fun j => (B.getD i 0).testBit j || isPr ps j i || (!fzIs fz i && !fzIs fz j && Zte C L (L.getD j default) (L.getD i default))
def Zwd (L : List Oper) (b i : Nat) (s : S) : List Nat := foot (L.getD i default).op (((Zga (L.getD i default).op).map s.ev).map sd) (b + i)
theorem Zv3 {fz : Option Nat} {i : Nat} (h : fzIs fz i = false) : fz ≠ some i := by
 rintro rfl
 simp [fzIs] at h
theorem Zor {L : List Oper} {fz : Option Nat} (h : fzOk L fz = true) {i : Nat} (e : fz = some i) : Zas (L.getD i default) = true := by subst e; exact h
theorem Zei {L : List Oper} {b i : Nat} {s s' : S} (h : ∀ z ∈ looks L (L.getD i default), s.t z = s'.t z) : Zwd L b i s = Zwd L b i s' := by
 unfold Zwd
 congr 2
 refine List.map_congr_left fun x hx => ?_
 cases x with
 | tmp t => exact h t (List.mem_append.2 (.inl (List.mem_filterMap.2 ⟨.tmp t, hx, rfl⟩)))
 | _ => rfl
theorem Ze2 [Glob P] {W : Words} {L : List Oper} {b k z : Nat} {fz : Option Nat} {s : S} (h : ∀ o, L[k]? = some o → o.dst ≠ some z) : (stepG P W C L b fz s k).t z = s.t z := by
 unfold stepG
 cases hk : L[k]? with
 | none => rfl
 | some o =>
  have := h o hk
  show S.put s o.dst _ z = s.t z
  cases hd : o.dst with
  | none => rfl
  | some d => exact upd_ne _ _ _ _ fun e => this (by rw [hd, e])
theorem Zrr [Glob P] {W : Words} {L : List Oper} {b z : Nat} {fz : Option Nat} : ∀ (l : List Nat) (s : S), (∀ k ∈ l, ∀ o, L[k]? = some o → o.dst ≠ some z) → (l.foldl (stepG P W C L b fz) s).t z = s.t z
 | [], s, _ => rfl
 | k :: l, s, h => by
  simp only [List.foldl_cons]
  rw [Zrr l _ fun m hm => h m (by simp [hm]), Ze2 (h k (by simp))]
theorem Zix [Glob P] {W : Words} {L : List Oper} {b i : Nat} {fz : Option Nat} {s : S} (h : (stepG P W C L b fz s i).ok) : s.ok := by
 unfold stepG at h
 cases hk : L[i]? with
 | none => rw [hk] at h; exact h
 | some o => rw [hk] at h; exact h.1
theorem Zgm [Glob P] {W : Words} {L : List Oper} {b : Nat} {fz : Option Nat} : ∀ {l : List Nat} {s : S}, (l.foldl (stepG P W C L b fz) s).ok → s.ok
 | [], _, h => h
 | _ :: l, _, h => Zix (Zgm (l := l) h)
theorem Zcv [Glob P] {W : Words} {L : List Oper} {b i r : Nat} {fz : Option Nat} {s : S} (hc : L.all (Zoc C) = true) (hr : r ≠ b + i) (hn : s.h r = none) : (stepG P W C L b fz s i).h r = none := by
 by_cases e : fz = some i
 ·
  unfold stepG
  cases hk : L[i]? with
  | none => exact hn
  | some o =>
   show (outG P W C L b fz i o s.n s.ev s.t s.h).2.1 r = none
   have h1 := Zji (P := P) (W := W) (C := C) (L := L) (b := b) (i := i) (o := o) (s := s) (List.all_eq_true.1 hc o (List.mem_of_getElem? hk)) hr hn
   rw [Zsa] at h1
   have h1 : (Zob P W C L b i o s.n s.ev s.t s.h).2.1 r = none := h1
   simp only [outG, if_pos e]
   generalize Zob P W C L b i o s.n s.ev s.t s.h = x at h1
   unfold Zfm
   split
   ·
    split
    ·
     split
     ·
      show upd x.2.1 (b + i) none r = none
      rw [upd_ne _ _ _ _ hr]; exact h1
     ·
      exact h1
    ·
     exact h1
   ·
    exact h1
 ·
  rw [Zwc e]
  unfold Zbc
  cases hk : L[i]? with
  | none => exact hn
  | some o => exact Zji (List.all_eq_true.1 hc o (List.mem_of_getElem? hk)) hr hn
theorem Zin {L : List Oper} {x y : Oper} (h : Znc L x y = true) : ∀ z ∈ looks L y, x.dst ≠ some z := by
 intro z hz e
 simp only [Znc, e, Bool.and_eq_true] at h
 simp [hz] at h
theorem Zgi [Glob P] {W : Words} {L : List Oper} {b i : Nat} {y : Oper} {fz : Option Nat} {ps : List Pr} (hcp : L.all (Zoc C) = true) (hz : fzOk L fz = true) (hps : ∀ p ∈ ps, prOk C L p = true) (hi : L[i]? = some y) : ∀ (pre : List Nat) (s : S), (∀ j ∈ pre, j ≠ i ∧ ∀ x, L[j]? = some x → (isPr ps j i = true ∨ (fz ≠ some i ∧ fz ≠ some j ∧ Zte C L x y = true))) →
  (∀ p ∈ ps, p.i = i → ∀ pre1 pre2, pre = pre1 ++ p.j :: pre2 → ∀ r ∈ Zwd L b p.j (pre1.foldl (stepG P W C L b fz) s), r ∉ Zwd L b p.i s) →
  (reader y = true → ∀ j ∈ pre, ∀ d ∈ (Zga y.op).map s.ev, named (b + j) (sd d) = false) → s.h (b + i) = none → (pre.foldl (stepG P W C L b fz) s).ok →
  stepG P W C L b fz (pre.foldl (stepG P W C L b fz) s) i = pre.foldl (stepG P W C L b fz) (stepG P W C L b fz s i)
 | [], s, _, _, _, _, _ => rfl
 | j :: pre, s, h, hf, hr, hh, hok => by
  simp only [List.foldl_cons] at hok ⊢
  have hji := (h j (by simp)).1
  have hok1 := Zgm hok
  have hgetY : L.getD i default = y := by simp only [List.getD, hi, Option.getD_some]
  cases hj : L[j]? with
  | none =>
   have e : ∀ u, stepG P W C L b fz u j = u := fun u => by simp only [stepG, hj]
   rw [e s, e] at *
   refine Zgi hcp hz hps hi pre s (fun k hk => h k (by simp [hk])) (fun p hp hpi pre1 pre2 hsp => ?_) (fun hry k hk => hr hry k (by simp [hk])) hh hok
   have := hf p hp hpi (j :: pre1) pre2 (by simp [hsp])
   simp only [List.foldl_cons, e] at this
   exact this
  | some x =>
   have hap := (h j (by simp)).2 x hj
   have hgetX : L.getD j default = x := by simp only [List.getD, hj, Option.getD_some]
   have hsl : Znc L x y = true := by
    rcases hap with hap | hap
    ·
     simp only [isPr, List.any_eq_true, Bool.and_eq_true, beq_iff_eq] at hap
     obtain ⟨p, hp, h1, h2⟩ := hap
     have := hps p hp
     simp only [prOk, Bool.and_eq_true, h1, h2, hgetX, hgetY] at this
     exact this.1.1.2
    ·
     exact Zsd hap.2.2
   have hstep : stepG P W C L b fz (stepG P W C L b fz s j) i = stepG P W C L b fz (stepG P W C L b fz s i) j := by
    rcases hap with hap | ⟨z1, z2, hap⟩
    ·
     simp only [isPr, List.any_eq_true, Bool.and_eq_true, beq_iff_eq] at hap
     obtain ⟨p, hp, h1, h2⟩ := hap
     have hk := hps p hp
     simp only [prOk, Bool.and_eq_true, h1, h2, hgetX, hgetY] at hk
     have hd := hf p hp h2 [] pre (by simp [h1])
     simp only [List.foldl_nil, Zwd, h1, h2, hgetX, hgetY] at hd
     exact Znz hj hi hsl hk.1.1.1.1 hk.1.1.1.2 (fun e => by have := Zor hz e; rwa [hgetX] at this) (fun e => by have := Zor hz e; rwa [hgetY] at this) hd
    ·
     rw [Zwc z2, Zwc z1, Zwc z1, Zwc z2]
     have e : ∀ u, Zbc P W C L b u j = Zhb P W C L b j x u := fun u => by simp only [Zbc, hj]
     have e' : ∀ u, Zbc P W C L b u i = Zhb P W C L b i y u := fun u => by simp only [Zbc, hi]
     rw [e, e, e', e']
     refine Zqn hji hap (fun _ hry => hr hry j (by simp)) fun _ _ => ⟨hh, ?_⟩
     rw [Zwc z2, e, Zsa] at hok1
     exact hok1.2
   have hty : ∀ z ∈ looks L y, (stepG P W C L b fz s j).t z = s.t z := fun z hz => Ze2 fun o ho => by
    rw [hj] at ho; cases ho
    exact Zin hsl z hz
   rw [← hstep]
   refine Zgi hcp hz hps hi pre _ (fun k hk => h k (by simp [hk])) (fun p hp hpi pre1 pre2 hsp => ?_) (fun hry k hk => ?_) ?_ hok
   ·
    have h1 := hf p hp hpi (j :: pre1) pre2 (by simp [hsp])
    simp only [List.foldl_cons] at h1
    rw [show Zwd L b p.i (stepG P W C L b fz s j) = Zwd L b p.i s from Zei (by rw [hpi, hgetY]; exact hty)]
    exact h1
   ·
    have : (Zga y.op).map (stepG P W C L b fz s j).ev = (Zga y.op).map s.ev := List.map_congr_left fun x hx => by
     cases x with
     | tmp t => exact hty t (List.mem_append.2 (.inl (List.mem_filterMap.2 ⟨.tmp t, hx, rfl⟩)))
     | _ => rfl
    rw [this]
    exact hr hry k (by simp [hk])
   ·
    exact Zcv hcp (by omega) hh
theorem Zbv [Glob P] {s : S} {g : Mem} {a : Act} {w : World} (hs : St P B s g a w) {b i N : Nat} {fz : Option Nat} (hb : ¬ g.U (b + i)) (hN : ∀ r, g.U r → r < N) {ops : Array Oper} {o : Oper} (hi : ops[i]? = some o) (hok : (stepG P (words P) C ops.toList b fz s i).ok)
  {ro : Option Nat} {n : Nat} {K : Act → World → Prop} {Q : Exit → Act → World → Prop}
  (hK : ∀ g' a' w', St P B (stepG P (words P) C ops.toList b fz s i) g' a' w' → Mono g g' w w' → (∀ r, g'.U r → g.U r ∨ r = b + i) → K a' w') : wpOpIn (Fw ro) n P ops Q i K a w := by
 have hi' : ops.toList[i]? = some o := by rw [Array.getElem?_toList]; exact hi
 by_cases e : fz = some i
 ·
  have es : stepG P (words P) C ops.toList b fz s i = { s with t := s.put o.dst (Zfm (b + i) (Zob P (words P) C ops.toList b i o s.n s.ev s.t s.h)).1, h := (Zfm (b + i) (Zob P (words P) C ops.toList b i o s.n s.ev s.t s.h)).2.1, ok := s.ok ∧ (Zfm (b + i) (Zob P (words P) C ops.toList b i o s.n s.ev s.t s.h)).2.2 } := by
   simp only [stepG, hi', outG, if_pos e]
  rw [es] at hok hK
  obtain ⟨m, bl, k1, k2, k3, k4, k5, k6⟩ := frz1_ok hok.2
  rw [k6] at hK
  refine Zfe hs hb hN hi (by rw [Zsa]; exact ⟨hok.1, k3⟩) fun g' a' w' q1 q2 q3 => ?_
  rw [Zsa] at q1
  have mono := Zpr g' (b + i) w'
  refine hK (Zdl g' (b + i)) a' w' ⟨q1.sz, fun j => ?_, frz_hm q1.mem (b + i), q1.df.later q1.mem mono, Env.later q1.mem mono q1.en, q1.bd⟩ (q2.trans mono) q3
  have hj := q1.tm j
  show Rep w' _ (S.put s o.dst (.list false (bl.rows.take m)) j) _
  have hj : Rep w' g' (S.put s o.dst (Zob P (words P) C ops.toList b i o s.n s.ev s.t s.h).1 j) (a'.tmps.getD j undef) := hj
  cases hd : o.dst with
  | none => rw [hd] at hj; exact hj.later q1.mem mono
  | some d =>
   rw [hd] at hj
   by_cases ej : j = d
   ·
    subst ej
    have hj : Rep w' g' (upd s.t j _ j) _ := hj
    rw [upd_same, k1] at hj
    show Rep w' _ (upd s.t j _ j) _
    rw [upd_same]
    have := Zw3 (ty := bl.ty) (rows := bl.rows) q1.mem k2 k5 (off := 0) (k := m) (by omega) hj
    simpa only [List.drop_zero] using this
   ·
    have hj : Rep w' g' (upd s.t d _ j) _ := hj
    rw [upd_ne _ _ _ _ ej] at hj
    show Rep w' _ (upd s.t d _ j) _
    rw [upd_ne _ _ _ _ ej]
    exact hj.later q1.mem mono
 ·
  have er : stepG P (words P) C ops.toList b fz s i = Zhb P (words P) C ops.toList b i o s := by rw [Zwc e]; simp only [Zbc, hi']
  rw [er] at hok hK
  exact Zfe hs hb hN hi hok hK
theorem Zlw [Glob P] {ops : Array Oper} {b : Nat} {ro : Option Nat} {n : Nat} {Q : Exit → Act → World → Prop} {w0 : World} {g0 : Mem} {fin : S} {fz : Option Nat} {ps : List Pr} (hcomm : Zzf C ops.toList fz ps = true) (hfar : ∀ p ∈ ps, ∀ r ∈ Zwd ops.toList b p.j fin, r ∉ Zwd ops.toList b p.i fin) :
  ∀ (fuel : Nat) (listed : Array Bool) (s : S) (g : Mem) (a : Act) (w : World), listed.size = ops.size → (todo ops.size listed).length ≤ fuel → (∀ (i : Nat) o, ops.toList[i]? = some o → listed.getD i false = true → ∀ e ∈ o.after.toList, Region.binds .any e = true → listed.getD e.on false = true) →
   (∀ (i : Nat) o, ops.toList[i]? = some o → ∀ e ∈ o.after.toList, Region.binds .any e = true → e.on < i) →
   St P B s g a w → Mono g0 g w0 w → (∀ r, g.U r → r < b ∨ ∃ i, listed.getD i false = true ∧ i < ops.size ∧ r = b + i) → (todo ops.size listed).foldl (stepG P (words P) C ops.toList b fz) s = fin → fin.ok →
   (∀ g' a' w', St P B fin g' a' w' → Mono g0 g' w0 w' → (∀ r, g'.U r → r < b + ops.size) → Q .normal a' w') →
   wpAnyIn (Fw ro) n P .any ops Q fuel listed a w := by
 have hcp : ops.toList.all (Zoc C) = true := by unfold Zzf at hcomm; simp only [Bool.and_eq_true] at hcomm; exact hcomm.1.1.1
 have hps : ∀ p ∈ ps, prOk C ops.toList p = true := by unfold Zzf at hcomm; simp only [Bool.and_eq_true, List.all_eq_true] at hcomm; exact hcomm.1.1.2
 have hz : fzOk ops.toList fz = true := by unfold Zzf at hcomm; simp only [Bool.and_eq_true] at hcomm; exact hcomm.1.2
 have hcm := hcomm
 unfold Zzf at hcm
 simp only [Bool.and_eq_true] at hcm
 have hcm := hcm.2
 simp only [List.all_eq_true, List.mem_range, Bool.or_eq_true, Bool.and_eq_true, Bool.not_eq_true'] at hcm
 intro fuel
 induction fuel with
 | zero =>
  intro listed s g a w hsz hfu hX hback hs hm hU hfin hok hQ
  have hnil : todo ops.size listed = [] := List.eq_nil_of_length_eq_zero (by omega)
  rw [hnil] at hfin
  simp only [List.foldl_nil] at hfin
  subst hfin
  refine ⟨?_, hQ g a w hs hm fun r hr => ?_⟩
  ·
   unfold Region.ready
   rw [List.filter_eq_nil_iff]
   intro i hi
   have h1 : i ∉ todo ops.size listed := by rw [hnil]; simp
   simp only [todo, List.mem_filter, hi, true_and, Bool.not_eq_true', Bool.not_eq_false] at h1
   have hil : i < listed.size := by rw [hsz]; simpa using hi
   have h2 : listed.getD i true = true := by simp [Array.getD, hil] at h1 ⊢; exact h1
   simp [h2]
  ·
   rcases hU r hr with h | ⟨i, _, h, rfl⟩ <;> omega
 | succ fuel ih =>
  intro listed s g a w hsz hfu hX hback hs hm hU hfin hok hQ
  refine ⟨fun hrd => ?_, fun i hi => ?_⟩
  ·
   have hnil : todo ops.size listed = [] := by
    rw [todo, List.filter_eq_nil_iff]
    intro i hi
    simp only [Bool.not_eq_true', Bool.not_eq_false]
    have hlt : i < ops.size := by simpa using hi
    have : ∀ k, k < ops.size → listed.getD k false = true := by
     intro k
     induction k using Nat.strongRecOn with
     | _ k ihk =>
      intro hk
      have h0 : k ∉ Region.ready .any ops listed := by rw [hrd]; simp
      unfold Region.ready at h0
      simp only [List.mem_filter, List.mem_range, hk, true_and] at h0
      have hkl : k < listed.size := by omega
      cases hq : listed.getD k false with
      | true => rfl
      | false =>
       exfalso
       apply h0
       have h2 : listed.getD k true = false := by simp [Array.getD, hkl] at hq ⊢; exact hq
       have h3 : ops[k]? = some ops[k] := by simp [hk]
       simp only [h2, Bool.not_false, h3, Option.map_some, Option.getD_some, Bool.true_and]
       rw [Array.all_eq_true]
       intro q hqq
       simp only [Bool.or_eq_true, Bool.not_eq_true']
       cases hb : Region.binds .any (ops[k].after[q]) with
       | false => exact .inl rfl
       | true =>
        have hmem : ops[k].after[q] ∈ ops[k].after.toList := by simp
        have h4 := hback k ops[k] (by simp [hk]) _ hmem hb
        exact .inr (ihk _ h4 (by omega))
    exact this i hlt
   rw [hnil] at hfin
   simp only [List.foldl_nil] at hfin
   subst hfin
   exact hQ g a w hs hm fun r hr => by rcases hU r hr with h | ⟨i, _, h, rfl⟩ <;> omega
  ·
   unfold Region.ready at hi
   simp only [List.mem_filter, List.mem_range, Bool.and_eq_true, Bool.not_eq_true'] at hi
   obtain ⟨hlt, h1, h2⟩ := hi
   have h3 : ops[i]? = some ops[i] := by simp [hlt]
   have h3L : ops.toList[i]? = some ops[i] := by simp [hlt]
   simp only [h3, Option.map_some, Option.getD_some] at h2
   have hil : i < listed.size := by omega
   have h1f : listed.getD i false = false := by simp [Array.getD, hil] at h1 ⊢; exact h1
   have hpred : ∀ e ∈ (ops[i]).after.toList, Region.binds .any e = true → listed.getD e.on false = true := by
    intro e he hb
    rw [Array.all_eq_true] at h2
    obtain ⟨q, hq, rfl⟩ := Array.mem_iff_getElem.1 (Array.mem_toList_iff.1 he)
    have := h2 q hq
    simp only [hb, Bool.not_true, Bool.false_or] at this
    exact this
   have hmem : i ∈ todo ops.size listed := by simp [todo, hlt]; simpa using h1f
   obtain ⟨pre, post, hsplit⟩ := List.append_of_mem hmem
   have hsorted : (todo ops.size listed).Pairwise (· < ·) := List.Pairwise.filter _ List.pairwise_lt_range
   rw [hsplit] at hsorted
   have hpre : ∀ j ∈ pre, j < i := fun j hj => (List.pairwise_append.1 hsorted).2.2 j hj i (by simp)
   have hpost : ∀ j ∈ post, i < j := fun j hj => (List.pairwise_cons.1 (List.pairwise_append.1 hsorted).2.1).1 j hj
   have hap : ∀ j ∈ pre, j ≠ i ∧ ∀ x, ops.toList[j]? = some x → (isPr ps j i = true ∨ (fz ≠ some i ∧ fz ≠ some j ∧ Zte C ops.toList x ops[i] = true)) := by
    intro j hj
    have hjl := hpre j hj
    refine ⟨by omega, fun x hx => ?_⟩
    have hjm : j ∈ todo ops.size listed := by rw [hsplit]; simp [hj]
    have hjn : listed.getD j false = false := by simp only [todo, List.mem_filter, Bool.not_eq_true'] at hjm; exact hjm.2
    have e1 : ops.toList.getD j default = x := by simp only [List.getD, hx, Option.getD_some]
    have e2 : ops.toList.getD i default = ops[i] := by simp only [List.getD, h3L, Option.getD_some]
    rcases hcm i (by simpa using hlt) j hjl with (h | h) | h
    ·
     exfalso
     have := Zzd (L := ops.toList) (X := fun k => listed.getD k false = true) hX i _ h3L hpred j h
     rw [hjn] at this; cases this
    ·
     exact .inl h
    ·
     rw [e1, e2] at h; exact .inr ⟨Zv3 h.1.1, Zv3 h.1.2, h.2⟩
   have hslot : ∀ j ∈ pre, ∀ x, ops.toList[j]? = some x → Znc ops.toList x ops[i] = true := by
    intro j hj x hx
    have e1 : ops.toList.getD j default = x := by simp only [List.getD, hx, Option.getD_some]
    have e2 : ops.toList.getD i default = ops[i] := by simp only [List.getD, h3L, Option.getD_some]
    rcases (hap j hj).2 x hx with h | h
    ·
     simp only [isPr, List.any_eq_true, Bool.and_eq_true, beq_iff_eq] at h
     obtain ⟨p, hp, h1, h2⟩ := h
     have := hps p hp
     simp only [prOk, Bool.and_eq_true, h1, h2, e1, e2] at this
     exact this.1.1.2
    ·
     exact Zsd h.2.2
   have hnU : ∀ j, j ∈ todo ops.size listed → ¬ g.U (b + j) := by
    intro j hjm hu
    have hjn : listed.getD j false = false := by simp only [todo, List.mem_filter, Bool.not_eq_true'] at hjm; exact hjm.2
    rcases hU _ hu with h | ⟨k, hk, _, e⟩
    ·
     omega
    ·
     have : k = j := by omega
     subst this; rw [hjn] at hk; cases hk
   have hh0 : s.h (b + i) = none := by
    cases hq : s.h (b + i) with
    | none => rfl
    | some bl =>
     obtain ⟨blk, c', q1, _⟩ := hs.mem.blk _ bl hq
     exact absurd (hs.mem.used _ (by rw [q1]; simp)) (hnU i hmem)
   have hok0 := hok
   rw [← hfin, hsplit, List.foldl_append, List.foldl_cons] at hok0
   have hok1 := Zgm hok0
   have hokp : (pre.foldl (stepG P (words P) C ops.toList b fz) s).ok := Zix hok1
   have hlooks : ∀ z ∈ looks ops.toList ops[i], (pre.foldl (stepG P (words P) C ops.toList b fz) s).t z = s.t z := fun z hz => Zrr _ _ fun k hk o ho => Zin (hslot k hk o ho) z hz
   have hnam : reader ops[i] = true → ∀ j ∈ pre, ∀ d ∈ (Zga (ops[i]).op).map s.ev, named (b + j) (sd d) = false := by
    intro hr j hj d hd
    have hsg : sg d = true := by
     have e : (Zga (ops[i]).op).map (pre.foldl (stepG P (words P) C ops.toList b fz) s).ev = (Zga (ops[i]).op).map s.ev := List.map_congr_left fun x hx => by
      cases x with
      | tmp t => exact hlooks t (List.mem_append.2 (.inl (List.mem_filterMap.2 ⟨.tmp t, hx, rfl⟩)))
      | _ => rfl
     have hne : fz ≠ some i := fun e => by
      have := Zor hz e
      simp only [List.getD, h3L, Option.getD_some] at this
      obtain ⟨r1, r2⟩ := Zbe hr
      exact Zm1 this r1
     have hrun' : ∀ u, stepG P (words P) C ops.toList b fz u i = Zhb P (words P) C ops.toList b i ops[i] u := fun u => by rw [Zwc hne]; simp [Zbc, hlt]
     rw [hrun', Zsa] at hok1
     have h2 := hok1.2
     obtain ⟨r1, r2⟩ := Zbe hr
     simp only [Zob, r2, Zmb, Zvh r1, Bool.false_eq_true, if_false] at h2
     have h4 := h2.2.1 trivial
     rw [e] at h4
     exact List.all_eq_true.1 h4 d hd
    cases hq : named (b + j) (sd d) with
    | false => rfl
    | true =>
     exfalso
     obtain ⟨z, _, rfl⟩ := List.mem_map.1 hd
     exact hnU j (by rw [hsplit]; simp [hj]) (Zbt (Zzg hs z) hsg hq)
   have hfr : ∀ p ∈ ps, p.i = i → ∀ pre1 pre2, pre = pre1 ++ p.j :: pre2 → ∀ r ∈ Zwd ops.toList b p.j (pre1.foldl (stepG P (words P) C ops.toList b fz) s), r ∉ Zwd ops.toList b p.i s := by
    intro p hp hpi pre1 pre2 hsp
    have hk := hps p hp
    simp only [prOk, Zyv, Bool.and_eq_true, List.all_eq_true] at hk
    have f1 := hfar p hp
    have hpp := (List.pairwise_append.1 hsorted).1
    rw [hsp] at hpp
    have hpp2 := (List.pairwise_cons.1 (List.pairwise_append.1 hpp).2.1).1
    have g1 : ∀ z ∈ looks ops.toList (ops.toList.getD p.j default), fin.t z = (pre1.foldl (stepG P (words P) C ops.toList b fz) s).t z := by
     intro z hz
     rw [← hfin, hsplit, hsp, List.append_assoc, List.foldl_append]
     refine Zrr _ _ fun k hkm => Zij (hk.1.2 z hz) ?_
     have hjp : p.j < i := hpre p.j (by rw [hsp]; simp)
     simp only [List.cons_append, List.mem_cons, List.mem_append] at hkm
     rcases hkm with h | h | h | h
     ·
      omega
     ·
      have := hpp2 k h; omega
     ·
      omega
     ·
      have := hpost k h; omega
    have e2 : ops.toList.getD p.i default = ops[i] := by rw [hpi]; simp only [List.getD, h3L, Option.getD_some]
    have g2 : ∀ z ∈ looks ops.toList (ops.toList.getD p.i default), fin.t z = s.t z := by
     intro z hz
     rw [← hfin, hsplit, List.foldl_append]
     refine (Zrr (i :: post) _ fun k hkm => Zij (hk.2 z hz) ?_).trans (hlooks z (by rw [← e2]; exact hz))
     rcases List.mem_cons.1 hkm with h | h
     ·
      omega
     ·
      have := hpost k h; omega
    rw [← Zei g1, ← Zei g2]
    exact f1
   have hfin' : (pre ++ post).foldl (stepG P (words P) C ops.toList b fz) (stepG P (words P) C ops.toList b fz s i) = fin := by
    rw [← hfin, hsplit, List.foldl_append, List.foldl_append, List.foldl_cons, Zgi hcp hz hps h3L pre s hap hfr hnam hh0 hokp]
   have hset : ∀ k, (listed.setIfInBounds i true).getD k false = (listed.getD k false || k == i) := by
    intro k
    by_cases e : k = i
    ·
     subst e; simp [Array.getD, hil]
    ·
     rw [getD_set_ne false (Ne.symm e)]
     have : (k == i) = false := by simpa using e
     rw [this, Bool.or_false]
   have htodo : todo ops.size (listed.setIfInBounds i true) = pre ++ post := by
    have e1 : todo ops.size (listed.setIfInBounds i true) = (todo ops.size listed).filter (· != i) := by
     unfold todo
     rw [List.filter_filter]
     refine List.filter_congr fun k _ => ?_
     rw [hset k]
     by_cases e : k = i
     ·
      simp [e]
     ·
      have e2 : (k == i) = false := by simpa using e
      have e3 : (k != i) = true := by simpa using e
      rw [e2, e3, Bool.or_false, Bool.true_and]
    rw [e1, hsplit, List.filter_append, List.filter_cons]
    have p1 : pre.filter (· != i) = pre := List.filter_eq_self.2 fun j hj => by have := hpre j hj; simp; omega
    have p2 : post.filter (· != i) = post := List.filter_eq_self.2 fun j hj => by have := hpost j hj; simp; omega
    simp [p1, p2]
   refine Zbv hs (b := b) (N := b + ops.size) (fun h => ?_) (fun r hr => ?_) h3 (Zgm (by rw [hfin']; exact hok)) fun g' a' w' q1 q2 q3 => ?_
   ·
    rcases hU _ h with h | ⟨k, hk, _, e⟩
    ·
     omega
    ·
     have : k = i := by omega
     subst this; rw [h1f] at hk; cases hk
   ·
    rcases hU r hr with h | ⟨k, _, h, rfl⟩ <;> omega
   ·
    refine ih (listed.setIfInBounds i true) _ g' a' w' (by simp [hsz]) (by rw [htodo]; have := congrArg List.length hsplit; simp at this; simp; omega) (fun k o hk hkl e he hb => ?_) hback q1 (hm.trans q2) (fun r hr => ?_) (by rw [htodo]; exact hfin') hok hQ
    ·
     rw [hset] at hkl ⊢
     simp only [Bool.or_eq_true, beq_iff_eq] at hkl ⊢
     rcases hkl with hkl | rfl
     ·
      exact .inl (hX k o hk hkl e he hb)
     ·
      rw [h3L] at hk; cases hk
      exact .inl (hpred e he hb)
    ·
     rcases q3 r hr with h | rfl
     ·
      rcases hU r h with h | ⟨k, hk, hks, rfl⟩
      ·
       exact .inl h
      ·
       exact .inr ⟨k, by rw [hset, hk]; rfl, hks, rfl⟩
     ·
      exact .inr ⟨i, by rw [hset]; simp, hlt, rfl⟩
end Go.DL
namespace Go.DL
open Go.RowKit
variable {P : Program} {C : Con}
def S.clear (s : S) : S := { s with ok := True }
theorem St.clear [Glob P] {B : Bot} {s : S} {g : Mem} {a : Act} {w : World} (h : St P B s g a w) : St P B s.clear g a w := ⟨h.sz, h.tm, h.mem, h.df, h.en, h.bd⟩
def DW (P : Program) [Glob P] (ro : Option Nat) (c : Code) (Q : Exit → S → Prop) (s : S) : Prop :=
 ∀ (B : Bot) (g : Mem) (a : Act) (w : World), St P B s g a w → (∀ r, g.U r → r < s.nx) →
  c.wpIn (Fw ro) 0 P (fun e a' w' => ∃ s' g', Q e s' ∧ St P B s' g' a' w' ∧ MonoX s.e.x g g' w w' ∧ (∀ r, g'.U r → r < s'.nx) ∧ s'.e.x = s.e.x) a w
theorem wpIn_loop_ghost [Glob P] {F : Fence} {n : Nat} {Q : Exit → Act → World → Prop} {a : Act} {w : World} {c : Code} (I : Nat → Act → World → Prop) (n0 : Nat) (h0 : I n0 a w)
  (round : ∀ k a w, I k a w → c.wpIn F n P (Exit.then (fun a' w' => ∃ k', k' < k ∧ I k' a' w') Q) a w) : (Code.loop c).wpIn F n P Q a w := by
 refine wpIn_loop (fun a w => ∃ k, I k a w) (fun a w => leastOf fun k => I k a w) ⟨n0, h0⟩ fun a w h => ?_
 obtain ⟨h1, h2⟩ := leastOf_spec h
 refine wpIn_mono (round _ a w h1) fun e a' w' hq => ?_
 cases e with
 | normal =>
  obtain ⟨k', hlt, hI⟩ := hq
  exact ⟨⟨k', hI⟩, Nat.lt_of_le_of_lt ((leastOf_spec ⟨k', hI⟩).2 k' hI) hlt⟩
 | _ => exact hq
section
variable {ro : Option Nat} {Q : Exit → S → Prop} {s : S}
theorem DW.mono [Glob P] {c : Code} {Q' : Exit → S → Prop} (h : DW P ro c Q s) (hq : ∀ e s, Q e s → Q' e s) : DW P ro c Q' s :=
 fun B g a w hs hU => wpIn_mono (h B g a w hs hU) fun _ _ _ ⟨s', g', q, r⟩ => ⟨s', g', hq _ _ q, r⟩
theorem dw_skip [Glob P] (h : Q .normal s) : DW P ro .skip Q s := fun _ g _ _ hs hU => wpIn_skip ⟨s, g, h, hs, MonoX.refl _ _ _, hU, rfl⟩
theorem Zja [Glob P] {id : Nat} (h : Q (.exit id) s) : DW P ro (.exit id) Q s := fun _ g _ _ hs hU => wpIn_exit ⟨s, g, h, hs, MonoX.refl _ _ _, hU, rfl⟩
theorem Zca [Glob P] (h : Q .ret s) : DW P ro .ret Q s := fun _ g _ _ hs hU => wpIn_ret ⟨s, g, h, hs, MonoX.refl _ _ _, hU, rfl⟩
def thenS (next : S → Prop) (Q : Exit → S → Prop) : Exit → S → Prop
 | .normal, s => next s
 | e, s => Q e s
theorem Zaa [Glob P] {x y : Code} (h : DW P ro x (thenS (DW P ro y Q) Q) s) : DW P ro (.seq x y) Q s := by
 intro B g a w hs hU
 refine wpIn_seq (wpIn_mono (h B g a w hs hU) ?_)
 rintro e a' w' ⟨s', g', hq, hs', hm, hU', hx⟩
 cases e with
 | normal => exact wpIn_mono (hq B g' a' w' hs' hU') fun e a'' w'' ⟨s'', g'', q, r, m, u, v⟩ => ⟨s'', g'', q, r, hm.trans (hx ▸ m), u, v.trans hx⟩
 | _ => exact ⟨s', g', hq, hs', hm, hU', hx⟩
theorem Ziu [Glob P] {x y : Code} (M : S → Prop) (h : DW P ro x (thenS M Q) s) (k : ∀ s', M s' → DW P ro y Q s') : DW P ro (.seq x y) Q s :=
 Zaa (h.mono fun e s' hq => by cases e <;> first | exact k s' hq | exact hq)
theorem dw_cond [Glob P] {c : Operand} {x y : Code} {t : Bool} (hc : s.ev c = .v (.bool t)) (ht : t = true → DW P ro x Q s) (hf : t = false → DW P ro y Q s) : DW P ro (.cond c x y) Q s := by
 intro B g a w hs hU
 have h := Zzg hs c
 rw [hc] at h
 exact wpIn_cond_split h.v_inv (fun e => ht e B g a w hs hU) (fun e => hf e B g a w hs hU)
def blockS (id : Nat) (Q : Exit → S → Prop) : Exit → S → Prop
 | .exit id', s => if id' = id then Q .normal s else Q (.exit id') s
 | e, s => Q e s
theorem Zba [Glob P] {id : Nat} {c : Code} (h : DW P ro c (blockS id Q) s) : DW P ro (.block id c) Q s := by
 intro B g a w hs hU
 refine wpIn_block (wpIn_mono (h B g a w hs hU) ?_)
 rintro e a' w' ⟨s', g', hq, r⟩
 cases e with
 | exit id' =>
  simp only [Exit.inBlock, blockS] at hq ⊢
  split
  ·
   rename_i e; rw [if_pos e] at hq; exact ⟨s', g', hq, r⟩
  ·
   rename_i e; rw [if_neg e] at hq; exact ⟨s', g', hq, r⟩
 | _ => exact ⟨s', g', hq, r⟩
def Zch (L : List Oper) : Bool := (List.range L.length).all fun i => (L.getD i default).after.toList.all fun e => !Region.binds .any e || decide (e.on < i)
theorem Zz3 [Glob P] {W : Words} {L : List Oper} {b : Nat} {fz : Option Nat} : ∀ (l : List Nat) (u : S), (l.foldl (stepG P W C L b fz) u).nx = u.nx ∧ (l.foldl (stepG P W C L b fz) u).e = u.e := by
 intro l
 induction l with
 | nil => intro u; exact ⟨rfl, rfl⟩
 | cons k l ih =>
  intro u
  simp only [List.foldl_cons]
  rw [(ih _).1, (ih _).2]
  unfold stepG
  cases L[k]? <;> exact ⟨rfl, rfl⟩
theorem Zb1 [Glob P] {ro : Option Nat} {Q : Exit → S → Prop} {s fin : S} {id : Nat} {ops : Array Oper} (fz : Option Nat) (ps : List Pr) (hd : P.follows .mixedOrders = true ∧ Zzf C ops.toList fz ps = true ∧ Zch ops.toList = true)
  (hfin : (List.range' 0 ops.toList.length).foldl (stepG P (words P) C ops.toList s.nx fz) (s.begin ops.toList.length) = fin)
  (hfar : ∀ p ∈ ps, ∀ r ∈ Zwd ops.toList s.nx p.j fin, r ∉ Zwd ops.toList s.nx p.i fin)
  (hok : fin.ok) (hq : Q .normal fin.clear) : DW P ro (.region id ops true) Q s := by
 intro B g a w hs hU
 have hs0 : St P B (s.begin ops.toList.length) g a w := ⟨hs.sz, hs.tm, hs.mem, hs.df, hs.en, hs.bd⟩
 have hnxf : fin.nx = s.nx + ops.size := by rw [← hfin, (Zz3 _ _).1]; simp [S.begin]
 have hef : fin.clear.e.x = s.e.x := by show fin.e.x = s.e.x; rw [← hfin, (Zz3 _ _).2]; rfl
 obtain ⟨h1, h2, h3⟩ := hd
 refine wpIn_region_any h1 ?_
 obtain ⟨hs1, hm1⟩ := Zk4 hs0
 have hrep : ∀ i, (Array.replicate ops.size false).getD i false = false := by
  intro i
  by_cases h : i < ops.size <;> simp [Array.getD, h]
 have htodo : todo ops.size (Array.replicate ops.size false) = List.range' 0 ops.toList.length := by
  unfold todo
  rw [List.filter_eq_self.2 (fun i _ => by rw [hrep]; rfl), List.range_eq_range']
  simp
 refine Zlw (C := C) (B := B) (b := s.nx) (fin := fin) h2 hfar ops.size _ (s.begin ops.toList.length) g a _ (by simp) (by rw [htodo]; simp) (fun i o _ hi => by rw [hrep] at hi; cases hi) (fun i o ho e he hb => ?_) hs1 hm1 (fun r hr => .inl (hU r hr)) (by rw [htodo, hfin]) hok
  (fun g' a' w' q1 q2 q3 => ⟨_, g', hq, q1.clear, q2.toX, fun r hr => by show r < fin.nx; rw [hnxf]; exact q3 r hr, hef⟩)
 unfold Zch at h3
 simp only [List.all_eq_true, List.mem_range, Bool.or_eq_true, Bool.not_eq_true', decide_eq_true_eq] at h3
 have hil : i < ops.toList.length := (List.getElem?_eq_some_iff.1 ho).1
 have ho' : ops.toList.getD i default = o := by simp only [List.getD, ho, Option.getD_some]
 have := h3 i hil e (by rw [ho']; exact he)
 rcases this with h | h
 ·
  rw [hb] at h; cases h
 ·
  exact h
theorem Zeu [Glob P] {W : Words} {L : List Oper} {b : Nat} {fz : Option Nat} : ∀ (l : List Nat) (u : S), (∀ k ∈ l, fz ≠ some k) → l.foldl (stepG P W C L b fz) u = l.foldl (Zbc P W C L b) u
 | [], u, _ => rfl
 | k :: l, u, h => by
  simp only [List.foldl_cons]
  rw [Zwc (h k (by simp)), Zeu l _ fun m hm => h m (by simp [hm])]
theorem dw_regN [Glob P] {ro : Option Nat} {Q : Exit → S → Prop} {s fin : S} {id : Nat} {ops : Array Oper} (ps : List Pr) (hd : P.follows .mixedOrders = true ∧ Zzf C ops.toList none ps = true ∧ Zch ops.toList = true)
  (he : exec P (words P) C ops.toList s = fin) (hfar : ∀ p ∈ ps, ∀ r ∈ Zwd ops.toList s.nx p.j fin, r ∉ Zwd ops.toList s.nx p.i fin)
  (hok : fin.ok) (hq : Q .normal fin.clear) : DW P ro (.region id ops true) Q s := by
 refine Zb1 none ps hd ?_ hfar hok hq
 rw [Zeu _ _ (fun _ _ h => by cases h), ← he]
 have := Znj (P := P) (W := words P) (C := C) (L := ops.toList) (b := s.nx) ops.toList.length 0 (s.begin ops.toList.length) (by omega)
 rw [List.drop_zero] at this
 exact this.symm
theorem Zko (o : Oper) : Zoc C o = true := by
 unfold Zoc
 split <;> rfl
theorem Ze1 {L : List Oper} (h : Zkl C L = true) : Zzf C L none [] = true := by
 unfold Zkl at h
 unfold Zzf
 simp only [Bool.and_eq_true, List.all_eq_true, List.mem_range, Bool.or_eq_true] at h ⊢
 exact ⟨⟨⟨fun x _ => Zko x, fun p hp => by cases hp⟩, rfl⟩, fun i hi j hj => (h i hi j hj).elim (fun q => .inl (.inl q)) fun q => .inr ⟨⟨rfl, rfl⟩, q⟩⟩
theorem Zg4 [Glob P] {id : Nat} {ops : Array Oper} {draw : Bool} (hd : draw = true → P.follows .mixedOrders = true ∧ Zkl C ops.toList = true ∧ Zch ops.toList = true)
  (hok : (exec P (words P) C ops.toList s).ok) (hq : Q .normal (exec P (words P) C ops.toList s).clear) : DW P ro (.region id ops draw) Q s := by
 intro B g a w hs hU
 have hs0 : St P B (s.begin ops.toList.length) g a w := ⟨hs.sz, hs.tm, hs.mem, hs.df, hs.en, hs.bd⟩
 have hnx : ∀ (l : List Nat) (u : S), (l.foldl (Zbc P (words P) C ops.toList s.nx) u).nx = u.nx := by
  intro l
  induction l with
  | nil => intro u; rfl
  | cons i l ih =>
   intro u
   simp only [List.foldl_cons]
   rw [ih]
   unfold Zbc
   split
   ·
    exact exec1_n.2
   ·
    rfl
 have hfold := Znj (P := P) (W := words P) (C := C) (L := ops.toList) (b := s.nx) ops.toList.length 0 (s.begin ops.toList.length) (by omega)
 simp only [List.drop_zero] at hfold
 have hfin : exec P (words P) C ops.toList s = (List.range' 0 ops.toList.length).foldl (Zbc P (words P) C ops.toList s.nx) (s.begin ops.toList.length) := hfold
 have hnxf : (exec P (words P) C ops.toList s).nx = s.nx + ops.size := by rw [hfin, hnx]; simp [S.begin]
 have hex : ∀ (l : List Nat) (u : S), (l.foldl (Zbc P (words P) C ops.toList s.nx) u).e = u.e := by
  intro l
  induction l with
  | nil => intro u; rfl
  | cons i l ih =>
   intro u
   simp only [List.foldl_cons]
   rw [ih]
   unfold Zbc
   split
   ·
    unfold Zhb; split <;> rfl
   ·
    rfl
 have hef : (exec P (words P) C ops.toList s).clear.e.x = s.e.x := by show (exec P (words P) C ops.toList s).e.x = s.e.x; rw [hfin, hex]; rfl
 have fin : ∀ g' a' w', St P B (exec P (words P) C ops.toList s) g' a' w' → Mono g g' w w' → (∀ r, g'.U r → r < s.nx + ops.size) → ∃ s' g'', Q .normal s' ∧ St P B s' g'' a' w' ∧ MonoX s.e.x g g'' w w' ∧ (∀ r, g''.U r → r < s'.nx) ∧ s'.e.x = s.e.x :=
  fun g' a' w' h1 h2 h3 => ⟨_, g', hq, h1.clear, h2.toX, fun r hr => by show r < (exec P (words P) C ops.toList s).nx; rw [hnxf]; exact h3 r hr, hef⟩
 cases draw with
 | false =>
  refine wpIn_region ?_
  have := Zjo (P := P) (C := C) (B := B) (ops := ops) (b := s.nx) (ro := ro) (n := 0) (Q := fun e a' w' => ∃ s' g', Q e s' ∧ St P B s' g' a' w' ∧ MonoX s.e.x g g' w w' ∧ (∀ r, g'.U r → r < s'.nx) ∧ s'.e.x = s.e.x) ops.size 0 (s.begin ops.toList.length) g a w hs0 (Mono.refl _ _) (fun r hr => by have := hU r hr; omega) (by omega)
   (by simp only [List.drop_zero]; exact hok) (by simp only [List.drop_zero]; exact fin)
  rw [List.range_eq_range']
  exact this
 | true =>
  obtain ⟨h1, h2, h3⟩ := hd rfl
  exact dw_regN [] ⟨h1, Ze1 h2, h3⟩ rfl (fun p hp => by cases hp) hok hq B g a w hs hU
end
def S.init (n : Nat) (args : List D) : S := { n, t := fun i => args.getD i .junk, h := fun _ => none, nx := 0 }
def Zat [Glob P] (s : S) : ResultVar → D
 | .tmp t => s.t t
 | .cell a t => (ldD P t (s.t a) s.h).1
def Zox [Glob P] (s : S) : ResultVar → Prop
 | .tmp _ => True
 | .cell a t => (ldD P t (s.t a) s.h).2
def resD (P : Program) [Glob P] (rs : List ResultVar) (s : S) : D := match rs.map (Zat (P := P) s) with
 | [d] => d
 | ds => .tuple ds
def Zyz (P : Program) [Glob P] (s : S) : List ResultVar → Prop
 | [] => True
 | r :: rs => Zox (P := P) s r ∧ Zyz P s rs
def Znx (tmps : Array Value) (r : ResultVar) : Sem Value := match r with
 | .tmp t => pure (tmps.getD t undef)
 | .cell a t => do loadVar t (← asAddr (tmps.getD a undef))
theorem Zxi [Glob P] {B : Bot} {s : S} {g : Mem} {a : Act} {w : World} (hs : St P B { s with e := Env.tt } g a w) : ∀ rs : List ResultVar, Zyz P s rs → ∃ vs : List Value, (rs.mapM (Znx a.tmps)).run P w = .ok vs w ∧ Reps w g (rs.map (Zat (P := P) s)) vs
 | [], _ => ⟨[], by simp, .nil⟩
 | r :: rs, h => by
  obtain ⟨vs, h1, h2⟩ := Zxi hs rs h.2
  cases r with
  | tmp t => exact ⟨a.tmps.getD t undef :: vs, by simp only [List.mapM_cons, Sem.run_bind, Znx, Sem.run_pure, Result.andThen_ok, h1], .cons (hs.tm t) h2⟩
  | cell c t =>
   obtain ⟨q1, q2, q3⟩ := h.1
   obtain ⟨p, hp, hc⟩ := Zet hs.mem (hs.tm c) (by intro e; rw [e] at q1; simp at q1; omega)
   obtain ⟨v, h4, h5⟩ := Zwk hc q1 q2 q3
   refine ⟨v :: vs, ?_, .cons h5 h2⟩
   simp only [List.mapM_cons, Sem.run_bind, Znx, hp, asAddr, Sem.run_pure, Result.andThen_ok, h4, h1]
theorem Zwi [Glob P] {fn : Func} {B : Bot} {s : S} {g : Mem} {a : Act} {w : World} (hs : St P B { s with e := Env.tt } g a w) (hok : Zyz P s fn.results.toList) : ∃ v, (results fn a.tmps).run P w = .ok v w ∧ Rep w g (resD P fn.results.toList s) v := by
 obtain ⟨vs, h1, h2⟩ := Zxi hs _ hok
 have hrun : (results fn a.tmps).run P w = .ok (if h : vs.toArray.size = 1 then vs.toArray[0] else .tuple vs.toArray) w := by
  have e : results fn a.tmps = (do let vs ← fn.results.mapM (Znx a.tmps); pure (if h : vs.size = 1 then vs[0] else .tuple vs) : Sem Value) := rfl
  rw [e, Array.mapM_eq_mapM_toList]
  simp [h1]
 refine ⟨_, hrun, ?_⟩
 unfold resD
 split
 ·
  rename_i d hd
  rw [hd] at h2
  obtain ⟨v, l, rfl, h3, h4⟩ := h2.of_cons
  rw [h4.of_nil]
  simpa using h3
 ·
  rename_i hne
  rw [dif_neg (fun h => ?_)]
  ·
   exact .mk_tuple (by simpa using h2)
  ·
   have hl : (fn.results.toList.map (Zat (P := P) s)).length = 1 := by rw [h2.1]; simpa using h
   match hq : fn.results.toList.map (Zat (P := P) s), hl with
   | [d], _ => exact hne d hq
def Stays : Obj → Prop
 | .cells .. | .map .. => True
 | _ => False
theorem Zug [Glob P] {fn : Func} {tmps : Array Value} {R : Ending → World → Prop} {n B : Nat} {g : Mem} : ∀ (ds : List Deferred) (w : World), Marks B g ds w →
  (∀ w', w'.drawn = w.drawn → w'.os = w.os → w'.tape = w.tape → w'.output = w.output → w'.heap.size = w.heap.size → (∀ k : Nat, k < B → w'.heap[k]? = w.heap[k]?) → (∀ k : Nat, g.I k → w'.heap[k]? = w.heap[k]?) → (∀ (k : Nat) o, w.heap[k]? = some o → Stays o → w'.heap[k]? = w.heap[k]?) → ∃ v, (results fn tmps).run P w' = .ok v w' ∧ R (.returned v) w') →
  LeavesInM Fence.wide n P fn tmps R ds .returning w := by
 intro ds
 induction ds with
 | nil =>
  intro w _ h
  exact h w rfl rfl rfl rfl rfl (fun _ _ => rfl) (fun _ _ => rfl) (fun _ _ _ _ => rfl)
 | cons d ds ih =>
  rintro w ⟨⟨D, h1, h2, h3, h4, h5⟩, h6⟩ h
  refine ⟨by simp, .inl ⟨D, w.putObj D (.deferred none), h1, run_takeDeferred h2, ?_⟩⟩
  have hne : ∀ k, k ≠ D → (w.putObj D (.deferred none)).heap[k]? = w.heap[k]? := fun k hk => World.putObj_heap_other hk
  have hms : ∀ ds : List Deferred, (∀ d' ∈ ds, d'.target ≠ .collected D) → Marks B g ds w → Marks B g ds (w.putObj D (.deferred none)) := by
   intro ds
   induction ds with
   | nil => intro _ _; trivial
   | cons e ds ihd =>
    rintro hds ⟨⟨D', k1, k2, k3, k4, k5⟩, k6⟩
    refine ⟨⟨D', k1, ?_, k3, k4, k5⟩, ihd (fun d' hd' => hds d' (by simp [hd'])) k6⟩
    rw [hne D' (fun e' => by subst e'; exact hds e (by simp) k1)]
    exact k2
  refine ih _ (hms ds h3 h6) fun w' e0 e1 e2 e3 e4 e5 e6 e7 => ?_
  refine h w' (by rw [e0]; rfl) (by rw [e1]; rfl) (by rw [e2]; rfl) (by rw [e3]; rfl) (by rw [e4]; simp) (fun k hk => ?_) (fun k hk => ?_) (fun k o hk ho => ?_)
  ·
   rw [e5 k hk, hne k (by omega)]
  ·
   rw [e6 k hk, hne k (fun e => by subst e; exact h5 hk)]
  ·
   have : k ≠ D := fun e' => by subst e'; rw [h2] at hk; cases hk; exact ho
   rw [e7 k o (by rw [hne k this]; exact hk) ho, hne k this]
theorem HM.marks [Glob P] {h : H} {g : Mem} {w w' : World} (hm : HM P h g w) (e4 : w'.heap.size = w.heap.size) (e6 : ∀ k : Nat, g.I k → w'.heap[k]? = w.heap[k]?) (e7 : ∀ (k : Nat) o, w.heap[k]? = some o → Stays o → w'.heap[k]? = w.heap[k]?) : HM P h g w' := by
 refine ⟨hm.dead, fun r bl hr => ?_, hm.inj, hm.used, fun b hb => by rw [e4]; exact hm.imm b hb, hm.gr.later fun b hb => ⟨hb, e6 b hb⟩⟩
 obtain ⟨blk, c, h1, h2, h3, h4, h5⟩ := hm.blk r bl hr
 refine ⟨blk, c, h1, h2, h3, h4, ?_⟩
 rcases h5 with h5 | ⟨b, cur, rfl, h6, h7, h8, h9⟩
 ·
  exact .inl h5
 ·
  have hst : w'.heap[b]? = w.heap[b]? := by
   obtain ⟨x, hx, hy⟩ := h6.some
   exact e7 b x hx (by rcases hy with ⟨_, _, _, rfl⟩ | ⟨_, _, rfl⟩ <;> trivial)
  exact .inr ⟨b, cur, rfl, by rw [hst]; exact h6, h7, h8, fun i row hi => ⟨(h9 i row hi).1, fun j d hd => by
   obtain ⟨u, k3, k4, k5⟩ := (h9 i row hi).2 j d hd
   exact ⟨u, k3, k4, k5.mono (fun b hb => ⟨hb, e6 b hb⟩) (fun _ h => h) (fun _ _ => .inl rfl)⟩⟩⟩
theorem St.marks [Glob P] {B : Bot} {s : S} {g : Mem} {a : Act} {w w' : World} (hs : St P B s g a w) (e4 : w'.heap.size = w.heap.size) (e6 : ∀ k : Nat, g.I k → w'.heap[k]? = w.heap[k]?) (e7 : ∀ (k : Nat) o, w.heap[k]? = some o → Stays o → w'.heap[k]? = w.heap[k]?) :
  St P (Bot.of B.n) { s with e := Env.tt } g { a with defers := [] } w' :=
 ⟨hs.sz, fun i => (hs.tm i).mono (fun b hb => ⟨hb, e6 b hb⟩) (fun _ h => h) (fun _ _ => .inl rfl), hs.mem.marks e4 e6 e7, Dfs.start, trivial, by rw [e4]; exact hs.bd⟩
theorem Zcw [Glob P] {n : Nat} {args : List D} {vs : List Value} {g : Mem} {w : World} (hr : Reps w g args vs) (hn : args.length ≤ n) {h : H} (hm : HM P h g w) {nx : Nat} :
  St P (Bot.of w.heap.size) { S.init n args with h := h, nx := nx } g { tmps := vs.toArray ++ Array.replicate (n - vs.toArray.size) undef, defers := [] } w := by
 have hl : vs.length = args.length := hr.1.symm
 refine ⟨by simp [S.init]; omega, fun i => ?_, hm, Dfs.start, trivial, Nat.le_refl _⟩
 simp only [S.init]
 by_cases hi : i < args.length
 ·
  have e1 : args.getD i .junk = args[i] := by simp [List.getD, List.getElem?_eq_getElem hi]
  have hi' : i < vs.length := by omega
  have e2 : (vs.toArray ++ Array.replicate (n - vs.toArray.size) undef).getD i undef = vs[i] := by
   simp [Array.getElem?_append, hi']
  rw [e1, e2]
  exact hr.2 i _ _ (by simp) (by simp)
 ·
  have e1 : args.getD i .junk = .junk := by simp [List.getD, List.getElem?_eq_none (Nat.le_of_not_lt hi)]
  rw [e1]
  exact .junk _
theorem Zda [Glob P] {f : FuncId} {fn : Func} {c : Code} {args : List D} {res : D} (hf : P.funcs[f]? = some fn) (hb : fn.body = some c) (hbd : Zea P f = true) (hnr : args.all D.nr = true) (hn : args.length ≤ fn.ntmps)
  (h : DW P none c (fun e s => (e = .normal ∨ e = .ret) ∧ Zyz P s fn.results.toList ∧ ∃ k, Zkb s.h k (resD P fn.results.toList s) ∧ wk (Zjh s.h k (resD P fn.results.toList s)) = res) (S.init fn.ntmps args)) : PureCt P f args res := by
 refine ⟨hbd, hnr, fun w I vs hI hgr hr => ?_⟩
 have hm : HM P (fun _ => none) (noM I) w := by
  refine ⟨fun _ _ => rfl, ?_, ?_, ?_, hI, hgr⟩
  ·
   intro r bl h; cases h
  ·
   intro r r' b c c' s s' h; cases h
  ·
   intro r h; exact absurd rfl h
 have hs : St P (Bot.of w.heap.size) (S.init fn.ntmps args) (noM I) { tmps := vs.toArray ++ Array.replicate (fn.ntmps - vs.toArray.size) undef, defers := [] } w := Zcw hr hn hm
 refine callsIn_of_wp_marks (n := 0) hf hb trivial (wpIn_mono (F := Fence.wide) (h (Bot.of w.heap.size) (noM I) _ w hs (fun r h => False.elim h)) ?_)
 rintro e a' w' ⟨s', g', ⟨he, ho, k, hk, hres⟩, hs', hm', _⟩
 have hm' := hm'.out
 have hlast : LeavesInM Fence.wide 0 P fn a'.tmps (fun e w' => ∃ v, e = .returned v ∧ Bel w w' ∧ Rep w' (noM fun b => I b ∨ (w.heap.size ≤ b ∧ b < w'.heap.size)) res v) a'.defers .returning w' := by
  refine Zug (P := P) a'.defers w' hs'.df.marks fun w2 e0 e1 e2 e3 e4 e5 e6 e7 => ?_
  have hs2 := hs'.marks e4 e6 e7
  obtain ⟨v, h1, h2⟩ := Zwi (fn := fn) hs2 ho
  refine ⟨v, h1, v, rfl, ⟨by rw [e1, hm'.os], by rw [e2, hm'.tape], by rw [e3, hm'.output], by rw [e4]; exact hm'.size, by rw [e0]; exact hm'.drawn, fun b hb => ?_⟩, ?_⟩
  ·
   rw [e5 b hb, hm'.same b hb (fun r c s h => by cases h)]
  ·
   obtain ⟨q1, q2⟩ := Zkx hs2.mem k _ v (Zyc h2) hk
   have q1 := q1.wk
   have q2 := wk_nr _ q2
   rw [hres] at q1 q2
   refine q1.clean q2 fun b hb => ?_
   rcases hb with hb | ⟨r, c, s, hb⟩
   ·
    rcases hm'.inew b hb with h | h | ⟨r, c, s, h⟩
    ·
     exact .inl h
    ·
     exact .inr ⟨h, hs2.mem.imm b hb⟩
    ·
     cases h
   ·
    rcases hm'.new r b c s hb with ⟨r', c', s', h⟩ | h
    ·
     cases h
    ·
     exact .inr ⟨h, (Zn1 hs2.mem hb).1⟩
 rcases he with rfl | rfl <;> exact hlast
end Go.DL
namespace Go.DL
open Go.RowKit
variable {P : Program} {W : Words} {C : Con}
attribute [go_sem_proc] Nat.reduceEqDiff Nat.reduceAdd Nat.reduceLeDiff Nat.reduceBEq Nat.reduceSub Nat.reduceMul Int.reduceLT Int.reduceLE Int.reduceEq Int.reduceNeg Int.reduceToNat reduceIte Nat.reduceLT reduceCtorEq
attribute [go_sem] decide_true decide_false Bool.not_true Bool.not_false Int.toNat_natCast
def S.out (s : S) (dst : Option Tmp) (r : D × H × Prop) : S := { n := s.n, t := s.put dst r.1, h := r.2.1, nx := s.nx, ok := s.ok ∧ Zhe s.n dst = true ∧ r.2.2, e := s.e }
def S.outG (s : S) (dst : Option Tmp) (op : Op) (C : Con) (gd : D) (want : Bool) (r : D × H × Prop) : S :=
 { n := s.n, t := s.put dst (.cond (Zpp gd want) r.1), h := s.h, nx := s.nx, ok := s.ok ∧ Zhe s.n dst = true ∧ gok gd = true ∧ cls C op ≠ .writes ∧ (Zpp gd want = true → r.2.2), e := s.e }
@[go_sem] theorem exec_eq [Glob P] {L : List Oper} {s : S} : exec P W C L s = Zha P W C L s.nx 0 L { n := s.n, t := s.t, h := s.h, nx := s.nx + L.length, ok := s.ok, e := s.e } := rfl
@[go_sem] theorem execFrom_nil [Glob P] {L : List Oper} {b i : Nat} {s : S} : Zha P W C L b i [] s = s := rfl
@[go_sem] theorem execFrom_cons [Glob P] {L : List Oper} {b i : Nat} {o : Oper} {os : List Oper} {s : S} : Zha P W C L b i (o :: os) s = Zha P W C L b (i + 1) os (Zhb P W C L b i o s) := rfl
@[go_sem] theorem exec1_plain [Glob P] {L : List Oper} {b i : Nat} {dst : Option Tmp} {op : Op} {ty : TypeId} {pos : String} {af : Array Edge} {s : S} :
  Zhb P W C L b i { dst := dst, op := op, type := ty, pos := pos, after := af, guard := none } s = s.out dst (Zmb P W C true op ((Zga op).map s.ev) s.h (b + i)) := rfl
def Zqp (L : List Oper) (j : Nat) (t : Nat → D) : D := ((L[j]?).bind (·.dst)).elim .junk t
@[go_sem] theorem exec1_guard [Glob P] {L : List Oper} {b i j : Nat} {want : Bool} {dst : Option Tmp} {op : Op} {ty : TypeId} {pos : String} {af : Array Edge} {s : S} :
  Zhb P W C L b i { dst := dst, op := op, type := ty, pos := pos, after := af, guard := some (j, want) } s =
   s.outG dst op C (Zqp L j s.t) want (Zmb P W C (Zpp (Zqp L j s.t) want) op ((Zga op).map s.ev) s.h (b + i)) := rfl
@[go_sem] theorem guardD_zero {dst : Option Tmp} {op : Op} {ty : TypeId} {pos : String} {af : Array Edge} {gd : Option (Nat × Bool)} {L : List Oper} {t : Nat → D} :
  Zqp ({ dst := dst, op := op, type := ty, pos := pos, after := af, guard := gd } :: L) 0 t = dst.elim .junk t := rfl
@[go_sem] theorem guardD_succ {o : Oper} {L : List Oper} {j : Nat} {t : Nat → D} : Zqp (o :: L) (j + 1) t = Zqp L j t := by simp [Zqp]
@[go_sem] theorem out_some {n nx : Nat} {t : Nat → D} {h : H} {ok : Prop} {e : Env} {d : Tmp} {x : D} {h' : H} {p : Prop} : S.out { n, t, h, nx, ok, e } (some d) (x, h', p) = { n, t := upd t d x, h := h', nx, ok := ok ∧ decide (d < n) = true ∧ p, e } := rfl
@[go_sem] theorem out_none' {n nx : Nat} {t : Nat → D} {h : H} {ok : Prop} {e : Env} {x : D} {h' : H} {p : Prop} : S.out { n, t, h, nx, ok, e } none (x, h', p) = { n, t, h := h', nx, ok := ok ∧ p, e } := by simp [S.out, S.put, Zhe]
@[go_sem] theorem outG_some {n nx : Nat} {t : Nat → D} {h : H} {ok : Prop} {e : Env} {d : Tmp} {op : Op} {gd : D} {want : Bool} {x : D} {h' : H} {p : Prop} :
  S.outG { n, t, h, nx, ok, e } (some d) op C gd want (x, h', p) = { n, t := upd t d (.cond (Zpp gd want) x), h, nx, ok := ok ∧ decide (d < n) = true ∧ gok gd = true ∧ cls C op ≠ .writes ∧ (Zpp gd want = true → p), e } := rfl
@[go_sem] theorem Zed {n nx : Nat} {t : Nat → D} {h : H} {ok : Prop} {e : Env} : S.clear { n, t, h, nx, ok, e } = { n, t, h, nx, ok := True, e } := rfl
@[go_sem] theorem Zia {n : Nat} {args : List D} : S.init n args = { n, t := fun i => args.getD i .junk, h := fun _ => none, nx := 0, ok := True, e := Env.tt } := rfl
@[go_sem] theorem ev_tmp {s : S} {i : Tmp} : s.ev (.tmp i) = s.t i := rfl
@[go_sem] theorem ev_const {s : S} {x : Value} : s.ev (.const x) = ofV x := rfl
@[go_sem] theorem ev_global {s : S} {g : Nat} : s.ev (.global g) = .v (.pointer (some ⟨g, 0, none⟩)) := rfl
@[go_sem] theorem ev_func {s : S} {f : FuncId} : s.ev (.func f) = .fn (.func f) [] [] := rfl
@[go_sem] theorem ofV_int {k : IntKind} {n : Int} : ofV (.int k n) = .v (.int k n) := rfl
@[go_sem] theorem ofV_bool {b : Bool} : ofV (.bool b) = .v (.bool b) := rfl
@[go_sem] theorem ofV_string {s : ByteArray} : ofV (.string s) = .v (.string s) := rfl
@[go_sem] theorem ofV_nil : ofV (.slice none 0 0) = .list true [] := rfl
@[go_sem] theorem ofV_nilFunc : ofV .nilFunc = .v .nilFunc := rfl
@[go_sem] theorem ofV_nilIface : ofV .nilIface = .v .nilIface := rfl
@[go_sem] theorem ofV_tuple {vs : Array Value} : ofV (.tuple vs) = .v (.tuple vs) := rfl
@[go_sem] theorem ofV_ptr {p : Option Addr} : ofV (.pointer p) = .v (.pointer p) := rfl
@[go_sem] theorem upd_hit {α : Type} {f : Nat → α} {i : Nat} {x : α} : upd f i x i = x := by simp [upd]
@[go_sem] theorem upd_miss {α : Type} {f : Nat → α} {i j : Nat} {x : α} (h : (j = i) = False) : upd f i x j = f j := by simp only [upd]; rw [if_neg (by rw [h]; exact id)]
attribute [go_sem] List.take_succ_cons List.take_zero List.take_nil List.drop_zero List.drop_succ_cons List.drop_nil List.set_cons_zero List.set_cons_succ List.cons_append List.nil_append List.append_nil Bool.false_eq_true Nat.zero_add Nat.add_zero Nat.add_assoc List.length_map List.headD_cons
attribute [go_sem] ne_eq imp_self Bool.not_eq_true' Bool.not_eq_false' Bool.and_self and_self
attribute [go_sem] eq_self not_false_eq_true and_true true_and List.length_cons List.length_nil List.getD_cons_zero List.getD_cons_succ List.getD_nil implies_true true_implies
@[go_sem] theorem size_lit {α : Type} {l : List α} : l.toArray.size = l.length := rfl
attribute [go_sem] Zga List.map_cons List.map_nil
@[go_sem] theorem toList_lit {α : Type} {l : List α} : l.toArray.toList = l := by simp
@[go_sem] theorem sd_v {x : Value} : sd (.v x) = .v x := rfl
@[go_sem] theorem sd_agg {x : List D} : sd (.agg x) = .agg x := rfl
@[go_sem] theorem sd_list {f : Bool} {x : List (List D)} : sd (.list f x) = .list f x := rfl
@[go_sem] theorem sd_eptr {x : List D} : sd (.eptr x) = .eptr x := rfl
@[go_sem] theorem sd_mrow {a b c : Nat} : sd (.mrow a b c) = .mrow a b c := rfl
@[go_sem] theorem sd_mptr {a b c : Nat} : sd (.mptr a b c) = .mptr a b c := rfl
@[go_sem] theorem sd_fn {f : Fn} {a b : List D} : sd (.fn f a b) = .fn f a b := rfl
@[go_sem] theorem sd_tuple {a : List D} : sd (.tuple a) = .tuple a := rfl
@[go_sem] theorem sd_iface {t : TypeId} {d : D} : sd (.iface t d) = .iface t d := rfl
@[go_sem] theorem sd_cond {g : Bool} {d : D} : sd (.cond g d) = d := rfl
@[go_sem] theorem sd_mp {r : Nat} : sd (.mp r) = .mp r := rfl
@[go_sem] theorem sd_fmap {kv : List D} : sd (.fmap kv) = .fmap kv := rfl
@[go_sem] theorem sg_mp {r : Nat} : sg (.mp r) = true := rfl
@[go_sem] theorem sg_fmap {kv : List D} : sg (.fmap kv) = true := rfl
@[go_sem] theorem sg_v {x : Value} : sg (.v x) = true := rfl
@[go_sem] theorem sg_agg {x : List D} : sg (.agg x) = true := rfl
@[go_sem] theorem sg_list {f : Bool} {x : List (List D)} : sg (.list f x) = true := rfl
@[go_sem] theorem sg_eptr {x : List D} : sg (.eptr x) = true := rfl
@[go_sem] theorem sg_mrow {a b c : Nat} : sg (.mrow a b c) = true := rfl
@[go_sem] theorem sg_mptr {a b c : Nat} : sg (.mptr a b c) = true := rfl
@[go_sem] theorem sg_fn {f : Fn} {a b : List D} : sg (.fn f a b) = true := rfl
@[go_sem] theorem sg_tuple {a : List D} : sg (.tuple a) = true := rfl
@[go_sem] theorem sg_iface {t : TypeId} {d : D} : sg (.iface t d) = true := rfl
@[go_sem] theorem sg_cond {g : Bool} {d : D} : sg (.cond g d) = g := rfl
attribute [go_sem] List.all_cons List.all_nil Bool.and_true Bool.true_and
@[go_sem] theorem gval_v {b want : Bool} : Zpp (.v (.bool b)) want = (b == want) := rfl
@[go_sem] theorem gval_c {g b want : Bool} : Zpp (.cond g (.v (.bool b))) want = (g && (b == want)) := rfl
@[go_sem] theorem gok_v {b : Bool} : gok (.v (.bool b)) = true := rfl
@[go_sem] theorem gok_c {g b : Bool} : gok (.cond g (.v (.bool b))) = true := rfl
attribute [go_sem] Option.elim beq_true beq_false
@[go_sem] theorem e_move [Glob P] {g : Bool} {x : Operand} {d : D} {h : H} {b : Nat} : Zmb P W C g (.move x) [d] h b = (sd d, h, (g = true → sg d = true) ∧ True) := by simp [Zmb, Zra, eff]
@[go_sem] theorem e_assign [Glob P] {g : Bool} {x : Operand} {d : D} {h : H} {b : Nat} : Zmb P W C g (.assign x) [d] h b = (sd d, h, (g = true → sg d = true) ∧ True) := by simp [Zmb, Zra, eff]
@[go_sem] theorem e_alloc [Glob P] {g : Bool} {e : TypeId} {h : H} {b : Nat} : Zmb P W C g (.alloc e) [] h b = (.mptr b 0 0, upd h b (some ⟨e, [zeroCells P e]⟩), (zeroCells P e).length = P.cellsOf e ∧ (zeroCells P e).all D.one = true ∧ 0 < P.cellsOf e) := by simp [Zmb, Zra, eff]
@[go_sem] theorem e_box [Glob P] {g : Bool} {e : TypeId} {x : Operand} {d : D} {h : H} {b : Nat} : Zmb P W C g (.box e x) [d] h b = (.mptr b 0 0, upd h b (some ⟨e, [(sd d).cells]⟩), (g = true → sg d = true) ∧ (sd d).cells.length = P.cellsOf e ∧ (sd d).cells.all D.one = true ∧ 0 < P.cellsOf e) := by simp [Zmb, Zra, eff]
@[go_sem] theorem e_build [Glob P] {g : Bool} {t : TypeId} {ps : Array (Nat × Operand)} {xs : List D} {h : H} {b : Nat} : Zmb P W C g (.build t ps) xs h b = ((Zfq P t ps.toList (xs.map sd)).1, h, (g = true → xs.all sg = true) ∧ (Zfq P t ps.toList (xs.map sd)).2) := by simp [Zmb, Zra, eff, still]
@[go_sem] theorem e_buildSlice [Glob P] {g : Bool} {t : TypeId} {n : Nat} {ps : Array (Nat × Operand)} {xs : List D} {h : H} {b : Nat} : Zmb P W C g (.buildSlice t n ps) xs h b = if C.bs then ((Zrl P t n ps.toList (xs.map sd) h b).1, (Zrl P t n ps.toList (xs.map sd) h b).2.1, (g = true → xs.all sg = true) ∧ (Zrl P t n ps.toList (xs.map sd) h b).2.2) else ((Zsc P t n ps.toList (xs.map sd)).1, h, (g = true → xs.all sg = true) ∧ (Zsc P t n ps.toList (xs.map sd)).2) := by cases hb : C.bs <;> simp [Zmb, Zra, eff, still, hb]
@[go_sem] theorem e_load [Glob P] {g : Bool} {t : TypeId} {x : Operand} {d : D} {h : H} {b : Nat} : Zmb P W C g (.load t x) [d] h b = (mkD P t (ldc P (sd d) h), h, (g = true → sg d = true) ∧ P.cellsOf t ≤ (ldc P (sd d) h).length ∧ 0 < P.cellsOf t ∧ (P.underlying t).isSome = true) := by simp [Zmb, Zra, eff, still, ldD]
@[go_sem] theorem e_store [Glob P] {g : Bool} {t : TypeId} {x y : Operand} {d d' : D} {h : H} {b : Nat} : Zmb P W C g (.store t x y) [d, d'] h b = (.v undef, (stH P t (sd d) (sd d') h).1, (g = true → (sg d && sg d') = true) ∧ (stH P t (sd d) (sd d') h).2) := by simp [Zmb, Zra, eff]
@[go_sem] theorem e_nilCheck [Glob P] {g : Bool} {x : Operand} {d : D} {h : H} {b : Nat} : Zmb P W C g (.nilCheck x) [d] h b = (sd d, h, (g = true → sg d = true) ∧ Zeo (sd d) = true) := by simp [Zmb, Zra, eff]
@[go_sem] theorem e_binOp [Glob P] {g : Bool} {op : BinOp} {t u : TypeId} {x y : Operand} {d d' : D} {h : H} {b : Nat} : Zmb P W C g (.binOp op t x y u) [d, d'] h b = ((binD P t op (sd d) (sd d')).1, h, (g = true → (sg d && sg d') = true) ∧ (binD P t op (sd d) (sd d')).2) := by simp [Zmb, Zra, eff, still]
@[go_sem] theorem e_unOp [Glob P] {g : Bool} {op : UnOp} {t : TypeId} {x : Operand} {d : D} {h : H} {b : Nat} : Zmb P W C g (.unOp op t x) [d] h b = ((unD op (sd d)).1, h, (g = true → sg d = true) ∧ (unD op (sd d)).2) := by simp [Zmb, Zra, eff, still]
@[go_sem] theorem e_convert [Glob P] {g : Bool} {s t : TypeId} {x : Operand} {d : D} {h : H} {b : Nat} : Zmb P W C g (.convert s t x) [d] h b = ((Ztw P s t (sd d)).1, h, (g = true → sg d = true) ∧ (Ztw P s t (sd d)).2) := by simp [Zmb, Zra, eff, still]
@[go_sem] theorem e_makeFunc [Glob P] {g : Bool} {f : Fn} {a c : Array Operand} {xs : List D} {h : H} {b : Nat} : Zmb P W C g (.makeFunc f a c) xs h b = (.fn f ((xs.map sd).take a.size) ((xs.map sd).drop a.size), h, (g = true → xs.all sg = true) ∧ True) := by simp [Zmb, Zra, eff]
@[go_sem] theorem e_slice [Glob P] {g : Bool} {t : TypeId} {x : Operand} {l hi m : Option Operand} {d : D} {xs : List D} {h : H} {b : Nat} : Zmb P W C g (.slice t x l hi m) (d :: xs) h b =
  ((Zdg P t (sd d) (Zje l (xs.map sd)).1 (Zje hi (Zje l (xs.map sd)).2).1 (Zje m (Zje hi (Zje l (xs.map sd)).2).2).1 h).1, h, (g = true → (sg d && xs.all sg) = true) ∧ (Zdg P t (sd d) (Zje l (xs.map sd)).1 (Zje hi (Zje l (xs.map sd)).2).1 (Zje m (Zje hi (Zje l (xs.map sd)).2).2).1 h).2) := by simp [Zmb, Zra, eff, still]
@[go_sem] theorem e_fieldAddr [Glob P] {g : Bool} {t : TypeId} {x : Operand} {f : Nat} {d : D} {h : H} {b : Nat} : Zmb P W C g (.fieldAddr t x f) [d] h b = ((Zyf P t f (sd d)).1, h, (g = true → sg d = true) ∧ (Zyf P t f (sd d)).2) := by simp [Zmb, Zra, eff, still]
@[go_sem] theorem e_field [Glob P] {g : Bool} {t : TypeId} {x : Operand} {f : Nat} {d : D} {h : H} {b : Nat} : Zmb P W C g (.field t x f) [d] h b = ((Zpn P t f (sd d)).1, h, (g = true → sg d = true) ∧ (Zpn P t f (sd d)).2) := by simp [Zmb, Zra, eff, still]
@[go_sem] theorem e_indexAddr [Glob P] {g : Bool} {t : TypeId} {x y : Operand} {d d' : D} {h : H} {b : Nat} : Zmb P W C g (.indexAddr t x y) [d, d'] h b = ((Zzb P t (sd d) (sd d') h).1, h, (g = true → (sg d && sg d') = true) ∧ (Zzb P t (sd d) (sd d') h).2) := by simp [Zmb, Zra, eff, still]
@[go_sem] theorem e_index [Glob P] {g : Bool} {t : TypeId} {x y : Operand} {d d' : D} {h : H} {b : Nat} : Zmb P W C g (.index t x y) [d, d'] h b = ((idxV P t (sd d) (sd d')).1, h, (g = true → (sg d && sg d') = true) ∧ (idxV P t (sd d) (sd d')).2) := by simp [Zmb, Zra, eff, still]
@[go_sem] theorem e_extract [Glob P] {g : Bool} {x : Operand} {i : Nat} {ds : List D} {h : H} {b : Nat} : Zmb P W C g (.extract x i) [.tuple ds] h b = (ds.getD i .junk, h, i < ds.length) := by simp [Zmb, Zra, eff, sd, sg]
@[go_sem] theorem e_len [Glob P] {g : Bool} {args : Array Operand} {t : TypeId} {d : D} {h : H} {b : Nat} : Zmb P W C g (.call { callee := .builtin .len, args := args, argTypes := #[t] }) [d] h b = (.v (.int .i64 (Zqf (sd d))), h, (g = true → sg d = true) ∧ Zwv P t (sd d) = true) := by simp [Zmb, Zra, eff]
@[go_sem] theorem e_append [Glob P] {g : Bool} {args : Array Operand} {t u : TypeId} {d d' : D} {h : H} {b : Nat} : Zmb P W C g (.call { callee := .builtin .append, args := args, argTypes := #[t, u] }) [d, d'] h b = ((Zib P t u (sd d) (sd d') h b).1, (Zib P t u (sd d) (sd d') h b).2.1, (g = true → (sg d && sg d') = true) ∧ (Zib P t u (sd d) (sd d') h b).2.2) := by simp [Zmb, Zra, eff]
@[go_sem] theorem e_min [Glob P] {g : Bool} {args : Array Operand} {ts : Array TypeId} {k : IntKind} {x y : Int} {h : H} {b : Nat} : Zmb P W C g (.call { callee := .builtin .min, args := args, argTypes := ts }) [.v (.int k x), .v (.int k y)] h b = (.v (.int k (min x y)), h, True) := by simp [Zmb, Zra, eff, still, minI, sd, sg]
@[go_sem] theorem e_max [Glob P] {g : Bool} {args : Array Operand} {ts : Array TypeId} {k : IntKind} {x y : Int} {h : H} {b : Nat} : Zmb P W C g (.call { callee := .builtin .max, args := args, argTypes := ts }) [.v (.int k x), .v (.int k y)] h b = (.v (.int k (max x y)), h, True) := by simp [Zmb, Zra, eff, still, maxI, sd, sg]
@[go_sem] theorem e_call [Glob P] {g : Bool} {f : Operand} {args : Array Operand} {ts : Array TypeId} {xs : List D} {h : H} {b : Nat} : Zmb P W C g (.call { callee := .value f, args := args, argTypes := ts }) xs h b = ((Zke W C f (xs.map sd) h b).1, (Zke W C f (xs.map sd) h b).2.1, (g = true → xs.all sg = true) ∧ (Zke W C f (xs.map sd) h b).2.2) := by simp [Zmb, Zra, eff]
@[go_sem] theorem e_makeMap [Glob P] {g : Bool} {t : TypeId} {r : Option Operand} {xs : List D} {h : H} {b : Nat} : Zmb P W C g (.makeMap t r) xs h b = (.mp b, upd h b (some ⟨t, Zfc []⟩), (g = true → xs.all sg = true) ∧ (mapT P t).isSome = true ∧ P.cellsOf t = 1 ∧ Zlr (xs.map sd) = true) := by simp [Zmb, Zra, eff, Ztv]
@[go_sem] theorem e_mapUpdate [Glob P] {g : Bool} {t : TypeId} {x y z : Operand} {m k d : D} {h : H} {b : Nat} : Zmb P W C g (.mapUpdate t x y z) [m, k, d] h b = (.v undef, (Zcg P t (sd m) (sd k) (sd d) h).1, (g = true → (sg m && (sg k && sg d)) = true) ∧ (Zcg P t (sd m) (sd k) (sd d) h).2) := by simp [Zmb, Zra, eff]
@[go_sem] theorem e_insert [Glob P] {g : Bool} {t : TypeId} {x y z : Operand} {m k d : D} {h : H} {b : Nat} : Zmb P W C g (.insert t x y z) [m, k, d] h b = (.v undef, (Zcg P t (sd m) (sd k) (sd d) h).1, (g = true → (sg m && (sg k && sg d)) = true) ∧ (Zcg P t (sd m) (sd k) (sd d) h).2) := by simp [Zmb, Zra, eff]
@[go_sem] theorem e_lookup [Glob P] {g ok : Bool} {t : TypeId} {x y : Operand} {m k : D} {h : H} {b : Nat} : Zmb P W C g (.lookup t x y ok) [m, k] h b = ((Zej P t ok (sd m) (sd k) h).1, h, (g = true → (sg m && sg k) = true) ∧ (Zej P t ok (sd m) (sd k) h).2) := by simp [Zmb, Zra, eff, still]
@[go_sem] theorem e_makeSlice [Glob P] {g : Bool} {t : TypeId} {x y : Operand} {d d' : D} {h : H} {b : Nat} : Zmb P W C g (.makeSlice t x y) [d, d'] h b = ((Zsv P t h b (sd d) (sd d')).1, (Zsv P t h b (sd d) (sd d')).2.1, (g = true → (sg d && sg d') = true) ∧ (Zsv P t h b (sd d) (sd d')).2.2) := by simp [Zmb, Zra, eff]
@[go_sem] theorem mkSl_i [Glob P] {t : TypeId} {h : H} {b : Nat} {k k' : IntKind} {n m : Int} : Zsv P t h b (.v (.int k n)) (.v (.int k' m)) = (match Zya P t with
  | some e => (.mrow b 0 n.toNat, upd h b (some ⟨e, List.replicate n.toNat (zeroCells P e)⟩), n = m ∧ 0 ≤ n ∧ P.bytesOf e * n ≤ 281474976710656 ∧ n ≤ 9223372036854775807 ∧ Zka P e = true ∧ (zeroCells P e).length = P.cellsOf e ∧ (zeroCells P e).all D.one = true ∧ 0 < P.cellsOf e)
  | none => (.junk, h, False)) := rfl
@[go_sem] theorem nw_lookup {t : TypeId} {x y : Operand} {ok : Bool} : (cls C (.lookup t x y ok) = .writes) = False := by simp [cls]
@[go_sem] theorem intHint_nil : Zlr [] = true := rfl
@[go_sem] theorem intHint_i {k : IntKind} {n : Int} : Zlr [.v (.int k n)] = true := rfl
@[go_sem] theorem updMap_mp [Glob P] {t : TypeId} {r : Nat} {k d : D} {h : H} : Zcg P t (.mp r) k d h = (match mapT P t with
 | some (kt, _) => match h r with
  | some bl => match kvB bl with
   | some kv => (upd h r (some ⟨bl.ty, Zfc (Zml kv k d)⟩), Zkh P kt k = true ∧ Zoh P kt kv = true ∧ Zkn P kt = true)
   | none => (h, False)
  | none => (h, False)
 | _ => (h, False)) := by unfold Zcg; cases mapT P t <;> rfl
@[go_sem] theorem lookD_eq [Glob P] {t : TypeId} {ok : Bool} {m k : D} {h : H} : Zej P t ok m k h = (match mapT P t with
 | some (kt, e) => match kvH h m with
  | some kv => (if ok then .tuple [(Znl kv k).getD (Zkz P e), .b (Znl kv k).isSome] else (Znl kv k).getD (Zkz P e), Zkh P kt k = true ∧ Zoh P kt kv = true ∧ Zkn P kt = true ∧ Zs3 P e = true)
  | none => (.junk, False)
 | _ => (.junk, False)) := by unfold Zej; cases mapT P t <;> cases kvH h m <;> rfl
@[go_sem] theorem kvH_fmap {h : H} {kv : List D} : kvH h (.fmap kv) = some kv := rfl
@[go_sem] theorem kvH_mp {h : H} {r : Nat} : kvH h (.mp r) = (match h r with | some bl => kvB bl | none => none) := by show (h r).bind kvB = _; cases h r <;> rfl
@[go_sem] theorem kvB_rows {t : TypeId} {kv : List D} : kvB ⟨t, Zfc kv⟩ = some kv := rfl
@[go_sem] theorem bv_v {b : Bool} : bv (.v (.bool b)) = b := rfl
@[go_sem] theorem isB_v {b : Bool} : isB (.v (.bool b)) = true := rfl
@[go_sem] theorem e_pick [Glob P] {g : Bool} {x y z : Operand} {c a b : D} {h : H} {n : Nat} :
  Zmb P W C g (.pick x y z) [c, a, b] h n = (.v (.bool (bif bv (sd c) then bv (sd a) else bv (sd b))), h, (g = true → (sg c = true ∧ isB (sd c) = true) ∧ (bv (sd c) = true → sg a = true ∧ isB (sd a) = true) ∧ (bv (sd c) = false → sg b = true ∧ isB (sd b) = true))) := rfl
attribute [go_sem] cond_true cond_false
@[go_sem] theorem nw_move {x : Operand} : (cls C (.move x) = .writes) = False := by simp [cls]
@[go_sem] theorem nw_assign {x : Operand} : (cls C (.assign x) = .writes) = False := by simp [cls]
@[go_sem] theorem nw_load {t : TypeId} {x : Operand} : (cls C (.load t x) = .writes) = False := by simp [cls]
@[go_sem] theorem nw_binOp {op : BinOp} {t u : TypeId} {x y : Operand} : (cls C (.binOp op t x y u) = .writes) = False := by simp [cls]
@[go_sem] theorem nw_unOp {op : UnOp} {t : TypeId} {x : Operand} : (cls C (.unOp op t x) = .writes) = False := by simp [cls]
@[go_sem] theorem nw_fieldAddr {t : TypeId} {x : Operand} {f : Nat} : (cls C (.fieldAddr t x f) = .writes) = False := by simp [cls]
@[go_sem] theorem nw_field {t : TypeId} {x : Operand} {f : Nat} : (cls C (.field t x f) = .writes) = False := by simp [cls]
@[go_sem] theorem nw_indexAddr {t : TypeId} {x y : Operand} : (cls C (.indexAddr t x y) = .writes) = False := by simp [cls]
@[go_sem] theorem nw_index {t : TypeId} {x y : Operand} : (cls C (.index t x y) = .writes) = False := by simp [cls]
@[go_sem] theorem nw_pick {x y z : Operand} : (cls C (.pick x y z) = .writes) = False := by simp [cls]
@[go_sem] theorem nw_convert {t u : TypeId} {x : Operand} : (cls C (.convert t u x) = .writes) = False := by simp [cls]
@[go_sem] theorem nw_slice {t : TypeId} {x : Operand} {a b c : Option Operand} : (cls C (.slice t x a b c) = .writes) = False := by simp [cls]
@[go_sem] theorem nw_extract {x : Operand} {i : Nat} : (cls C (.extract x i) = .writes) = False := by simp [cls]
@[go_sem] theorem nw_nilCheck {x : Operand} : (cls C (.nilCheck x) = .writes) = False := by simp [cls]
@[go_sem] theorem nw_build {t : TypeId} {ps : Array (Nat × Operand)} : (cls C (.build t ps) = .writes) = False := by simp [cls]
@[go_sem] theorem nw_buildSlice {t : TypeId} {n : Nat} {ps : Array (Nat × Operand)} : (cls C (.buildSlice t n ps) = .writes) = (C.bs = true) := by cases hb : C.bs <;> simp [cls, hb]
@[go_sem] theorem nw_makeFunc {f : Fn} {a b : Array Operand} : (cls C (.makeFunc f a b) = .writes) = False := by simp [cls]
@[go_sem] theorem nw_len {args : Array Operand} {ts : Array TypeId} : (cls C (.call { callee := .builtin .len, args := args, argTypes := ts }) = .writes) = False := by simp [cls]
@[go_sem] theorem nw_min {args : Array Operand} {ts : Array TypeId} : (cls C (.call { callee := .builtin .min, args := args, argTypes := ts }) = .writes) = False := by simp [cls]
@[go_sem] theorem nw_max {args : Array Operand} {ts : Array TypeId} : (cls C (.call { callee := .builtin .max, args := args, argTypes := ts }) = .writes) = False := by simp [cls]
@[go_sem] theorem nw_call {f : Operand} {args : Array Operand} {ts : Array TypeId} : (cls C (.call { callee := .value f, args := args, argTypes := ts }) = .writes) = False := by
 cases h : C.cf <;> simp [cls, Zif, h]
@[go_sem] theorem bif_or {c b : Bool} : (bif c then true else b) = (c || b) := by cases c <;> rfl
@[go_sem] theorem bif_and {c b : Bool} : (bif c then b else false) = (c && b) := by cases c <;> rfl
@[go_sem] theorem bif_nand {c b : Bool} : (bif c then false else b) = (!c && b) := by cases c <;> rfl
@[go_sem] theorem cells_agg {cs : List D} : D.cells (.agg cs) = cs := rfl
@[go_sem] theorem cells_v {x : Value} : D.cells (.v x) = [.v x] := rfl
@[go_sem] theorem cells_list {f : Bool} {x : List (List D)} : D.cells (.list f x) = [.list f x] := rfl
@[go_sem] theorem cells_mrow {a b c : Nat} : D.cells (.mrow a b c) = [.mrow a b c] := rfl
@[go_sem] theorem cells_mptr {a b c : Nat} : D.cells (.mptr a b c) = [.mptr a b c] := rfl
@[go_sem] theorem cells_eptr {a : List D} : D.cells (.eptr a) = [.eptr a] := rfl
@[go_sem] theorem cells_fn {f : Fn} {a b : List D} : D.cells (.fn f a b) = [.fn f a b] := rfl
@[go_sem] theorem cells_iface {t : TypeId} {d : D} : D.cells (.iface t d) = [.iface t d] := rfl
@[go_sem] theorem one_int {k : IntKind} {n : Int} : D.one (.v (.int k n)) = true := rfl
@[go_sem] theorem one_bool {b : Bool} : D.one (.v (.bool b)) = true := rfl
@[go_sem] theorem one_string {b : ByteArray} : D.one (.v (.string b)) = true := rfl
@[go_sem] theorem one_nilFunc : D.one (.v .nilFunc) = true := rfl
@[go_sem] theorem one_nilIface : D.one (.v .nilIface) = true := rfl
@[go_sem] theorem one_list {f : Bool} {x : List (List D)} : D.one (.list f x) = true := rfl
@[go_sem] theorem one_mrow {a b c : Nat} : D.one (.mrow a b c) = true := rfl
@[go_sem] theorem one_mptr {a b c : Nat} : D.one (.mptr a b c) = true := rfl
@[go_sem] theorem one_eptr {a : List D} : D.one (.eptr a) = true := rfl
@[go_sem] theorem one_fn {f : Fn} {a b : List D} : D.one (.fn f a b) = true := rfl
@[go_sem] theorem one_iface {t : TypeId} {d : D} : D.one (.iface t d) = true := rfl
@[go_sem] theorem ldc_eptr [Glob P] {cs : List D} {h : H} : ldc P (.eptr cs) h = cs := rfl
@[go_sem] theorem ldc_mptr [Glob P] {r i off : Nat} {h : H} : ldc P (.mptr r i off) h = match h r with | some b => (b.rows.getD i []).drop off | none => [] := rfl
@[go_sem] theorem ldD_eq [Glob P] {t : TypeId} {a : D} {h : H} : ldD P t a h = (mkD P t (ldc P a h), P.cellsOf t ≤ (ldc P a h).length ∧ 0 < P.cellsOf t ∧ (P.underlying t).isSome = true) := rfl
@[go_sem] theorem ldCells_eptr {cs : List D} {h : H} : Zwa (.eptr cs) h = cs := rfl
@[go_sem] theorem ldCells_mptr {r i off : Nat} {h : H} : Zwa (.mptr r i off) h = match h r with | some b => (b.rows.getD i []).drop off | none => [] := rfl
attribute [go_sem] mkD Zyf Zpn splice
@[go_sem] theorem ptrAdd_eptr {n : Nat} {cs : List D} : Zal n (.eptr cs) = .eptr (cs.drop n) := rfl
@[go_sem] theorem ptrAdd_mptr {n r i off : Nat} : Zal n (.mptr r i off) = .mptr r i (off + n) := rfl
@[go_sem] theorem ptrAdd_ptr {n x o : Nat} : Zal n (.v (.pointer (some ⟨x, o, none⟩))) = .v (.pointer (some ⟨x, o + n, none⟩)) := by simp only [Zal, Zgg]
@[go_sem] theorem isPtr_ptr {p : Addr} : Zeo (.v (.pointer (some p))) = true := rfl
@[go_sem] theorem isPtr_eptr {cs : List D} : Zeo (.eptr cs) = true := rfl
@[go_sem] theorem isPtr_mptr {r i off : Nat} : Zeo (.mptr r i off) = true := rfl
@[go_sem] theorem stH_mptr [Glob P] {t : TypeId} {r i off : Nat} {x : D} {h : H} : stH P t (.mptr r i off) x h = match h r with
  | some b => (upd h r (some { b with rows := b.rows.set i (splice (b.rows.getD i []) off x.cells) }), x.cells.length = P.cellsOf t ∧ 0 < P.cellsOf t ∧ i < b.rows.length ∧ off + x.cells.length ≤ (b.rows.getD i []).length ∧ x.cells.all D.one = true)
  | none => (h, False) := rfl
@[go_sem] theorem idxPtr_list [Glob P] {t : TypeId} {f : Bool} {rows : List (List D)} {k : IntKind} {n : Int} {h : H} : Zzb P t (.list f rows) (.v (.int k n)) h = match Zya P t with
  | none => Zph P t (.list f rows) (.v (.int k n))
  | some e => (.eptr (rows.getD n.toNat []), 0 ≤ n ∧ n < rows.length ∧ 0 < P.cellsOf e ∧ (rows.getD n.toNat []).length = P.cellsOf e) := by unfold Zzb; cases Zya P t <;> rfl
@[go_sem] theorem idxPtr_mrow [Glob P] {t : TypeId} {r off len : Nat} {k : IntKind} {n : Int} {h : H} : Zzb P t (.mrow r off len) (.v (.int k n)) h = match Zya P t with
  | none => Zph P t (.mrow r off len) (.v (.int k n))
  | some e => (.mptr r (off + n.toNat) 0, 0 ≤ n ∧ n < len ∧ 0 < P.cellsOf e ∧ match h r with | some bl => bl.ty = e | none => False) := by unfold Zzb; cases Zya P t <;> rfl
@[go_sem] theorem idxPtr_ptr [Glob P] {t : TypeId} {p : Option Addr} {k : IntKind} {n : Int} {h : H} : Zzb P t (.v (.pointer p)) (.v (.int k n)) h = match Zya P t with
  | none => Zph P t (.v (.pointer p)) (.v (.int k n))
  | some _ => (.junk, False) := by unfold Zzb; cases Zya P t <;> rfl
@[go_sem] theorem isGp_ptr {p : Addr} : isGp (.v (.pointer (some p))) = true := rfl
@[go_sem] theorem isGp_eptr {cs : List D} : isGp (.eptr cs) = true := rfl
@[go_sem] theorem isGp_mptr {r i off : Nat} : isGp (.mptr r i off) = true := rfl
@[go_sem] theorem idxPtr_mptr [Glob P] {t : TypeId} {r i off : Nat} {k : IntKind} {n : Int} {h : H} : Zzb P t (.mptr r i off) (.v (.int k n)) h = match Zya P t with
  | none => Zph P t (.mptr r i off) (.v (.int k n))
  | some _ => (.junk, False) := by unfold Zzb; cases Zya P t <;> rfl
@[go_sem] theorem idxArr_eq [Glob P] {t : TypeId} {x : D} {k : IntKind} {n : Int} : Zph P t x (.v (.int k n)) = match Zhz P t with
  | some (m, e) => (Zal (n.toNat * P.cellsOf e) x, isGp x = true ∧ 0 ≤ n ∧ n < m ∧ 0 < P.cellsOf e)
  | none => (.junk, False) := by unfold Zph; cases Zhz P t <;> rfl
@[go_sem] theorem rowsOf_list {f : Bool} {rows : List (List D)} {h : H} : rowsOf (.list f rows) h = rows := rfl
@[go_sem] theorem rowsOf_mrow {r off len : Nat} {h : H} : rowsOf (.mrow r off len) h = match h r with | some b => (b.rows.drop off).take len | none => [] := rfl
@[go_sem] theorem lenD_list {f : Bool} {rows : List (List D)} : Zqf (.list f rows) = rows.length := rfl
@[go_sem] theorem lenD_mrow {r off len : Nat} : Zqf (.mrow r off len) = len := rfl
@[go_sem] theorem lenD_string {s : ByteArray} : Zqf (.v (.string s)) = s.size := rfl
@[go_sem] theorem lenOk_list [Glob P] {t : TypeId} {f : Bool} {rows : List (List D)} : Zwv P t (.list f rows) = (Zya P t).isSome := rfl
@[go_sem] theorem lenOk_mrow [Glob P] {t : TypeId} {r off len : Nat} : Zwv P t (.mrow r off len) = (Zya P t).isSome := rfl
@[go_sem] theorem lenOk_string [Glob P] {t : TypeId} {s : ByteArray} : Zwv P t (.v (.string s)) = match P.underlying t with | some .string => true | _ => false := rfl
attribute [go_sem] Option.isSome_some
@[go_sem] theorem srcOk_list [Glob P] {t : TypeId} {h : H} {f : Bool} {rows : List (List D)} : Zhg P t h (.list f rows) = (Zya P t).isSome := rfl
@[go_sem] theorem srcOk_mrow [Glob P] {t : TypeId} {h : H} {r off len : Nat} : Zhg P t h (.mrow r off len) = ((Zya P t).isSome && (h r).isSome) := rfl
@[go_sem] theorem srcOk_string [Glob P] {t : TypeId} {h : H} {s : ByteArray} : Zhg P t h (.v (.string s)) = match P.underlying t with | some .string => true | _ => false := rfl
@[go_sem] theorem append_list [Glob P] {t u : TypeId} {rows : List (List D)} {y : D} {h : H} {b : Nat} : Zib P t u (.list true rows) y h b = match Zya P t with
  | none => (.junk, h, False)
  | some e => (.mrow b 0 (rows.length + (rowsOf y h).length), upd h b (some ⟨e, rows ++ rowsOf y h⟩), (0 < P.cellsOf e ∧ (rows.length + (rowsOf y h).length) * P.bytesOf e ≤ 140737488355328 ∧ rows.length + (rowsOf y h).length ≤ 9223372036854775807) ∧
    ((rowsOf y h).length = Zqf y ∧ Zhg P u h y = true ∧ Zka P e = true ∧ ∀ r ∈ rowsOf y h, r.length = P.cellsOf e) ∧ (rowsOf y h = [] → rows = []) ∧ ∀ r ∈ rows, r.length = P.cellsOf e) := by
 unfold Zib; cases Zya P t <;> rfl
@[go_sem] theorem append_mrow [Glob P] {t u : TypeId} {r n : Nat} {y : D} {h : H} {b : Nat} : Zib P t u (.mrow r 0 n) y h b = match Zya P t with
  | none => (.junk, h, False)
  | some e => match h r with
   | none => (.junk, h, False)
   | some bl => (.mrow b 0 (n + (rowsOf y h).length), upd (upd h r none) b (some ⟨e, bl.rows ++ rowsOf y h⟩), (0 < P.cellsOf e ∧ (n + (rowsOf y h).length) * P.bytesOf e ≤ 140737488355328 ∧ n + (rowsOf y h).length ≤ 9223372036854775807) ∧
    ((rowsOf y h).length = Zqf y ∧ Zhg P u h y = true ∧ Zka P e = true ∧ ∀ r ∈ rowsOf y h, r.length = P.cellsOf e) ∧ bl.ty = e ∧ bl.rows.length = n ∧ r ≠ b) := by
 unfold Zib; cases Zya P t with
 | none => rfl
 | some e => cases hr : h r with
  | none => simp only [hr]
  | some bl => simp only [Zqf, hr]
attribute [go_sem] Zfq Ztr Zel Zsc Zrl Zsm
@[go_sem] theorem binD_v [Glob P] {t : TypeId} {op : BinOp} {a b : Value} : binD P t op (.v a) (.v b) = (.v (Zoi P t op a b).1, (Zoi P t op a b).2) := rfl
@[go_sem] theorem binV_lss [Glob P] {t : TypeId} {k k' : IntKind} {a b : Int} : Zoi P t .lss (.int k a) (.int k' b) = (.bool (decide (a < b)), k = k') := rfl
@[go_sem] theorem binV_leq [Glob P] {t : TypeId} {k k' : IntKind} {a b : Int} : Zoi P t .leq (.int k a) (.int k' b) = (.bool (decide (a ≤ b)), k = k') := rfl
@[go_sem] theorem binV_gtr [Glob P] {t : TypeId} {k k' : IntKind} {a b : Int} : Zoi P t .gtr (.int k a) (.int k' b) = (.bool (decide (b < a)), k = k') := rfl
@[go_sem] theorem binV_geq [Glob P] {t : TypeId} {k k' : IntKind} {a b : Int} : Zoi P t .geq (.int k a) (.int k' b) = (.bool (decide (b ≤ a)), k = k') := rfl
@[go_sem] theorem binV_eql [Glob P] {t : TypeId} {k k' : IntKind} {a b : Int} : Zoi P t .eql (.int k a) (.int k' b) = (.bool (a == b), k = k') := rfl
@[go_sem] theorem binV_neq [Glob P] {t : TypeId} {k k' : IntKind} {a b : Int} : Zoi P t .neq (.int k a) (.int k' b) = (.bool (a != b), k = k') := rfl
@[go_sem] theorem binV_add [Glob P] {t : TypeId} {k k' : IntKind} {a b : Int} : Zoi P t .add (.int k a) (.int k' b) = if k.signed then (.int k (a + b), k = k' ∧ inK k (a + b)) else (.int k (k.wrap (a + b)), k = k') := rfl
@[go_sem] theorem binV_sub [Glob P] {t : TypeId} {k k' : IntKind} {a b : Int} : Zoi P t .sub (.int k a) (.int k' b) = if k.signed then (.int k (a - b), k = k' ∧ inK k (a - b)) else (.int k (k.wrap (a - b)), k = k') := rfl
@[go_sem] theorem binV_mul [Glob P] {t : TypeId} {k k' : IntKind} {a b : Int} : Zoi P t .mul (.int k a) (.int k' b) = if k.signed then (.int k (a * b), k = k' ∧ inK k (a * b)) else (.int k (k.wrap (a * b)), k = k') := rfl
@[go_sem] theorem binV_quo [Glob P] {t : TypeId} {k k' : IntKind} {a b : Int} : Zoi P t .quo (.int k a) (.int k' b) = (.int k (a / b), k = k' ∧ 0 ≤ a ∧ 1 ≤ b ∧ inK k a) := rfl
@[go_sem] theorem binV_rem [Glob P] {t : TypeId} {k k' : IntKind} {a b : Int} : Zoi P t .rem (.int k a) (.int k' b) = (.int k (a % b), k = k' ∧ 0 ≤ a ∧ 1 ≤ b) := rfl
@[go_sem] theorem binV_eqb [Glob P] {t : TypeId} {a b : Bool} : Zoi P t .eql (.bool a) (.bool b) = (.bool (a == b), P.underlying t = some .bool) := rfl
@[go_sem] theorem binV_neb [Glob P] {t : TypeId} {a b : Bool} : Zoi P t .neq (.bool a) (.bool b) = (.bool (a != b), P.underlying t = some .bool) := rfl
@[go_sem] theorem binV_eqs [Glob P] {t : TypeId} {a b : ByteArray} : Zoi P t .eql (.string a) (.string b) = (.bool (a.data.toList == b.data.toList), True) := rfl
@[go_sem] theorem binV_nes [Glob P] {t : TypeId} {a b : ByteArray} : Zoi P t .neq (.string a) (.string b) = (.bool (a.data.toList != b.data.toList), True) := rfl
@[go_sem] theorem binV_adds [Glob P] {t : TypeId} {a b : ByteArray} : Zoi P t .add (.string a) (.string b) = (.string (a ++ b), a.size + b.size ≤ 9223372036854775807) := rfl
@[go_sem] theorem binV_lsss [Glob P] {t : TypeId} {a b : ByteArray} : Zoi P t .lss (.string a) (.string b) = (.bool (Go.Op.bytesLess a.data.toList b.data.toList), True) := rfl
@[go_sem] theorem binV_leqs [Glob P] {t : TypeId} {a b : ByteArray} : Zoi P t .leq (.string a) (.string b) = (.bool (Go.Op.bytesLess a.data.toList b.data.toList || a.data.toList == b.data.toList), True) := rfl
@[go_sem] theorem binV_gtrs [Glob P] {t : TypeId} {a b : ByteArray} : Zoi P t .gtr (.string a) (.string b) = (.bool !(Go.Op.bytesLess a.data.toList b.data.toList || a.data.toList == b.data.toList), True) := rfl
@[go_sem] theorem binV_geqs [Glob P] {t : TypeId} {a b : ByteArray} : Zoi P t .geq (.string a) (.string b) = (.bool !(Go.Op.bytesLess a.data.toList b.data.toList), True) := rfl
@[go_sem] theorem binV_shl [Glob P] {t : TypeId} {k k' : IntKind} {a b : Int} : Zoi P t .shl (.int k a) (.int k' b) = (.int k (k.wrap (a * 2 ^ (min b.toNat k.bits))), 0 ≤ b) := rfl
@[go_sem] theorem binV_shr [Glob P] {t : TypeId} {k k' : IntKind} {a b : Int} : Zoi P t .shr (.int k a) (.int k' b) = (.int k (a.fdiv (2 ^ (min b.toNat k.bits))), 0 ≤ b) := rfl
@[go_sem] theorem binV_or [Glob P] {t : TypeId} {k k' : IntKind} {a b : Int} : Zoi P t .or (.int k a) (.int k' b) = (.int k (k.wrap (BitVec.ofInt k.bits a ||| BitVec.ofInt k.bits b).toNat), k = k') := rfl
@[go_sem] theorem binD_eq [Glob P] {t : TypeId} {xs ys : List D} : binD P t .eql (.agg xs) (.agg ys) = (.v (.bool (Zrc xs ys)), match Zge P t with | some ks => Zcd ks xs ys = true | none => False) := rfl
@[go_sem] theorem binD_ne [Glob P] {t : TypeId} {xs ys : List D} : binD P t .neq (.agg xs) (.agg ys) = (.v (.bool (!Zrc xs ys)), match Zge P t with | some ks => Zcd ks xs ys = true | none => False) := rfl
attribute [go_sem] Zrc Zcd
@[go_sem] theorem eqCell_i {k k' : IntKind} {a b : Int} : Zqe (.v (.int k a)) (.v (.int k' b)) = (a == b) := rfl
@[go_sem] theorem eqCell_b {a b : Bool} : Zqe (.v (.bool a)) (.v (.bool b)) = (a == b) := rfl
@[go_sem] theorem eqCell_s {a b : ByteArray} : Zqe (.v (.string a)) (.v (.string b)) = (a.data.toList == b.data.toList) := rfl
@[go_sem] theorem plainAs_i {k k' : IntKind} {a b : Int} : Zrg .i (.v (.int k a)) (.v (.int k' b)) = (k == k') := rfl
@[go_sem] theorem plainAs_b {a b : Bool} : Zrg .b (.v (.bool a)) (.v (.bool b)) = true := rfl
@[go_sem] theorem plainAs_s {a b : ByteArray} : Zrg .s (.v (.string a)) (.v (.string b)) = true := rfl
@[go_sem] theorem signed_i64 : IntKind.i64.signed = true := rfl
@[go_sem] theorem signed_u8 : IntKind.u8.signed = false := rfl
@[go_sem] theorem signed_u16 : IntKind.u16.signed = false := rfl
@[go_sem] theorem signed_u32 : IntKind.u32.signed = false := rfl
@[go_sem] theorem signed_u64 : IntKind.u64.signed = false := rfl
@[go_sem] theorem inK_i64 {n : Int} : inK .i64 n = (-9223372036854775808 ≤ n ∧ n ≤ 9223372036854775807) := by simp [inK, IntKind.min, IntKind.max, IntKind.signed, IntKind.bits]
@[go_sem] theorem unD_not {b : Bool} : unD .not (.v (.bool b)) = (.v (.bool !b), True) := rfl
@[go_sem] theorem unD_neg {k : IntKind} {n : Int} : unD .neg (.v (.int k n)) = (.v (.int k (-n)), inK k (-n)) := rfl
attribute [go_sem] Ztw
@[go_sem] theorem idxV_s [Glob P] {t : TypeId} {s : ByteArray} {k : IntKind} {n : Int} : idxV P t (.v (.string s)) (.v (.int k n)) = (.v (.int .u8 (s.data.toList.getD n.toNat 0).toNat), 0 ≤ n ∧ n < s.size ∧ P.underlying t = some .string) := rfl
@[go_sem] theorem bnd_none {d : Nat} : bnd none d = d := rfl
@[go_sem] theorem bnd_some {d : Nat} {k : IntKind} {n : Int} : bnd (some (.v (.int k n))) d = n := rfl
@[go_sem] theorem bndOk_none : Zbx none = true := rfl
@[go_sem] theorem bndOk_some {k : IntKind} {n : Int} : Zbx (some (.v (.int k n))) = true := rfl
attribute [go_sem] Option.toList_some Option.toList_none Zje Zdg
attribute [go_sem] Zie
@[go_sem] theorem wk_v {x : Value} : wk (.v x) = .v x := rfl
@[go_sem] theorem wk_agg {cs : List D} : wk (.agg cs) = .agg (wks cs) := rfl
@[go_sem] theorem wk_list {f : Bool} {rows : List (List D)} : wk (.list f rows) = .list false (wkr rows) := rfl
@[go_sem] theorem wk_eptr {cs : List D} : wk (.eptr cs) = .eptr (wks cs) := rfl
@[go_sem] theorem wk_tuple {cs : List D} : wk (.tuple cs) = .tuple (wks cs) := rfl
@[go_sem] theorem wk_mrow {a b c : Nat} : wk (.mrow a b c) = .mrow a b c := rfl
@[go_sem] theorem wk_mptr {a b c : Nat} : wk (.mptr a b c) = .mptr a b c := rfl
@[go_sem] theorem wk_fn {f : Fn} {a b : List D} : wk (.fn f a b) = .fn f a b := rfl
@[go_sem] theorem wk_iface {t : TypeId} {d : D} : wk (.iface t d) = .iface t (wk d) := rfl
@[go_sem] theorem wk_fmap {kv : List D} : wk (.fmap kv) = .fmap (wks kv) := rfl
@[go_sem] theorem deref_fmap {kv : List D} {h : H} : deref h (.fmap kv) = .fmap kv := rfl
@[go_sem] theorem deref1_fmap {kv : List D} {h : H} : Zre h (.fmap kv) = .fmap kv := rfl
@[go_sem] theorem deref0_fmap {kv : List D} {h : H} : Zbh h (.fmap kv) = .fmap kv := rfl
@[go_sem] theorem isMrow_fmap {kv : List D} : Zgc (.fmap kv) = false := rfl
@[go_sem] theorem isRef_fmap {kv : List D} : Zgk (.fmap kv) = false := rfl
@[go_sem] theorem derefOk_fmap {kv : List D} {h : H} : Zhc h (.fmap kv) = True := rfl
@[go_sem] theorem derefOk1_fmap {kv : List D} {h : H} : Zqc h (.fmap kv) = True := rfl
@[go_sem] theorem derefOk0_fmap {kv : List D} {h : H} : Zdd h (.fmap kv) = True := rfl
@[go_sem] theorem snap_fmap {h : H} {k : Nat} {x : List D} : Zjh h k (.fmap x) = .fmap x := by cases k <;> rfl
@[go_sem] theorem snapOk_fmap {h : H} {k : Nat} {x : List D} : Zkb h k (.fmap x) = (nrs x = true) := by cases k <;> rfl
attribute [go_sem] wks wkr
@[go_sem] theorem deref_list {f : Bool} {rows : List (List D)} {h : H} : deref h (.list f rows) = .list f rows := rfl
@[go_sem] theorem deref_v {x : Value} {h : H} : deref h (.v x) = .v x := rfl
@[go_sem] theorem deref_agg {x : List D} {h : H} : deref h (.agg x) = .agg x := rfl
@[go_sem] theorem deref_fn {f : Fn} {a b : List D} {h : H} : deref h (.fn f a b) = .fn f (a.map (Zre h)) (b.map (Zre h)) := rfl
@[go_sem] theorem deref_mptr {a b c : Nat} {h : H} : deref h (.mptr a b c) = .eptr ((Zwa (.mptr a b c) h).map (Zbh h)) := rfl
@[go_sem] theorem deref1_mptr {a b c : Nat} {h : H} : Zre h (.mptr a b c) = .eptr ((Zwa (.mptr a b c) h).map (Zbh h)) := rfl
@[go_sem] theorem deref1_mrow {a b c : Nat} {h : H} : Zre h (.mrow a b c) = .list false (rowsOf (.mrow a b c) h) := rfl
@[go_sem] theorem deref0_mrow {a b c : Nat} {h : H} : Zbh h (.mrow a b c) = .list false (rowsOf (.mrow a b c) h) := rfl
@[go_sem] theorem deref1_v {x : Value} {h : H} : Zre h (.v x) = .v x := rfl
@[go_sem] theorem deref1_list {f : Bool} {rows : List (List D)} {h : H} : Zre h (.list f rows) = .list f rows := rfl
@[go_sem] theorem deref1_eptr {x : List D} {h : H} : Zre h (.eptr x) = .eptr x := rfl
@[go_sem] theorem deref1_fn {f : Fn} {a b : List D} {h : H} : Zre h (.fn f a b) = .fn f a b := rfl
@[go_sem] theorem deref0_v {x : Value} {h : H} : Zbh h (.v x) = .v x := rfl
@[go_sem] theorem deref0_list {f : Bool} {rows : List (List D)} {h : H} : Zbh h (.list f rows) = .list f rows := rfl
@[go_sem] theorem deref0_fn {f : Fn} {a b : List D} {h : H} : Zbh h (.fn f a b) = .fn f a b := rfl
@[go_sem] theorem deref_eptr {x : List D} {h : H} : deref h (.eptr x) = .eptr x := rfl
@[go_sem] theorem isMrow_eptr {x : List D} : Zgc (.eptr x) = false := rfl
@[go_sem] theorem derefOk_eptr {x : List D} {h : H} : Zhc h (.eptr x) = True := rfl
@[go_sem] theorem deref_mrow {a b c : Nat} {h : H} : deref h (.mrow a b c) = .list false (rowsOf (.mrow a b c) h) := rfl
@[go_sem] theorem isMrow_list {f : Bool} {rows : List (List D)} : Zgc (.list f rows) = false := rfl
@[go_sem] theorem isMrow_v {x : Value} : Zgc (.v x) = false := rfl
@[go_sem] theorem isMrow_agg {x : List D} : Zgc (.agg x) = false := rfl
@[go_sem] theorem isMrow_fn {f : Fn} {a b : List D} : Zgc (.fn f a b) = (a.any Zgk || b.any Zgk) := rfl
@[go_sem] theorem isMrow_mptr {a b c : Nat} : Zgc (.mptr a b c) = true := rfl
@[go_sem] theorem isRef_mptr {a b c : Nat} : Zgk (.mptr a b c) = true := rfl
@[go_sem] theorem isRef_mrow {a b c : Nat} : Zgk (.mrow a b c) = true := rfl
@[go_sem] theorem isRef_v {x : Value} : Zgk (.v x) = false := rfl
@[go_sem] theorem isRef_list {f : Bool} {rows : List (List D)} : Zgk (.list f rows) = false := rfl
@[go_sem] theorem isRef_eptr {x : List D} : Zgk (.eptr x) = false := rfl
@[go_sem] theorem isRef_fn {f : Fn} {a b : List D} : Zgk (.fn f a b) = false := rfl
@[go_sem] theorem isMrow_mrow {a b c : Nat} : Zgc (.mrow a b c) = true := rfl
@[go_sem] theorem derefOk_list {f : Bool} {rows : List (List D)} {h : H} : Zhc h (.list f rows) = True := rfl
@[go_sem] theorem derefOk_v {x : Value} {h : H} : Zhc h (.v x) = True := rfl
@[go_sem] theorem derefOk_agg {x : List D} {h : H} : Zhc h (.agg x) = True := rfl
@[go_sem] theorem derefOk_fn {f : Fn} {a b : List D} {h : H} : Zhc h (.fn f a b) = ((∀ c ∈ a, Zqc h c) ∧ ∀ c ∈ b, Zqc h c) := rfl
@[go_sem] theorem derefOk_mptr {r i off : Nat} {h : H} : Zhc h (.mptr r i off) = ((h r).isSome = true ∧ ∀ c ∈ Zwa (.mptr r i off) h, Zdd h c) := rfl
@[go_sem] theorem derefOk1_mptr {r i off : Nat} {h : H} : Zqc h (.mptr r i off) = ((h r).isSome = true ∧ ∀ c ∈ Zwa (.mptr r i off) h, Zdd h c) := rfl
@[go_sem] theorem derefOk1_mrow {r off len : Nat} {h : H} : Zqc h (.mrow r off len) = ((h r).isSome = true ∧ (rowsOf (.mrow r off len) h).length = len) := rfl
@[go_sem] theorem derefOk0_mrow {r off len : Nat} {h : H} : Zdd h (.mrow r off len) = ((h r).isSome = true ∧ (rowsOf (.mrow r off len) h).length = len) := rfl
@[go_sem] theorem derefOk1_v {x : Value} {h : H} : Zqc h (.v x) = True := rfl
@[go_sem] theorem derefOk1_list {f : Bool} {rows : List (List D)} {h : H} : Zqc h (.list f rows) = True := rfl
@[go_sem] theorem derefOk1_eptr {x : List D} {h : H} : Zqc h (.eptr x) = True := rfl
@[go_sem] theorem derefOk1_fn {f : Fn} {a b : List D} {h : H} : Zqc h (.fn f a b) = True := rfl
@[go_sem] theorem derefOk0_v {x : Value} {h : H} : Zdd h (.v x) = True := rfl
@[go_sem] theorem derefOk0_list {f : Bool} {rows : List (List D)} {h : H} : Zdd h (.list f rows) = True := rfl
@[go_sem] theorem derefOk0_fn {f : Fn} {a b : List D} {h : H} : Zdd h (.fn f a b) = True := rfl
@[go_sem] theorem derefOk_mrow {r off len : Nat} {h : H} : Zhc h (.mrow r off len) = ((h r).isSome = true ∧ (rowsOf (.mrow r off len) h).length = len) := rfl
attribute [go_sem] List.any_cons List.any_nil Bool.or_false Bool.or_true Bool.false_or Bool.true_or
@[go_sem] theorem call_func {k : FuncId} {d : D} {ys : List D} {h : H} {b : Nat} : Zke W C (.func k) (d :: ys) h b = if C.pure k then
   (if C.cf then (C.pf k (ys.map wk), h, W.pureCt k (ys.map wk) (C.pf k (ys.map wk)) ∧ ys.any Zgc = false)
   else if C.dp then (C.pf k (ys.map (Zll h)), h, W.pureCt k (ys.map (Zll h)) (C.pf k (ys.map (Zll h))) ∧ flat (C.pf k (ys.map (Zll h))) = true ∧ ∀ y ∈ ys, Zkb h 5 y)
   else (C.pf k (ys.map (Zie h)), h, W.pureCt k (ys.map (Zie h)) (C.pf k (ys.map (Zie h))) ∧ (ys.any Zgc = true → flat (C.pf k (ys.map (Zie h))) = true ∧ ∀ y ∈ ys, Zhc h y)))
  else (.junk, h, False) := rfl
@[go_sem] theorem call_tmp {k : FuncId} {t : Tmp} {first caps ys : List D} {h : H} {b : Nat} : Zke W C (.tmp t) (.fn (.func k) first caps :: ys) h b = if C.pure k then
   (if C.cf then (C.pf k ((first ++ ys ++ caps).map wk), h, W.pureCt k ((first ++ ys ++ caps).map wk) (C.pf k ((first ++ ys ++ caps).map wk)) ∧ (first ++ ys ++ caps).any Zgc = false)
   else if C.dp then (C.pf k ((first ++ ys ++ caps).map (Zll h)), h, W.pureCt k ((first ++ ys ++ caps).map (Zll h)) (C.pf k ((first ++ ys ++ caps).map (Zll h))) ∧ flat (C.pf k ((first ++ ys ++ caps).map (Zll h))) = true ∧ ∀ y ∈ first ++ ys ++ caps, Zkb h 5 y)
   else (C.pf k ((first ++ ys ++ caps).map (Zie h)), h, W.pureCt k ((first ++ ys ++ caps).map (Zie h)) (C.pf k ((first ++ ys ++ caps).map (Zie h))) ∧ ((first ++ ys ++ caps).any Zgc = true → flat (C.pf k ((first ++ ys ++ caps).map (Zie h))) = true ∧ ∀ y ∈ first ++ ys ++ caps, Zhc h y)))
  else (.junk, h, False) := rfl
@[go_sem] theorem words_pure [Glob P] {k : FuncId} {xs : List D} {r : D} : (words P).pureCt k xs r = PureCt P k xs r := rfl
@[go_sem] theorem words_ct [Glob P] {k : FuncId} {xs : List D} {h h' : H} {b : Nat} {r : D} : (words P).ct k xs h b r h' = Ct P k xs h b r h' := rfl
@[go_sem] theorem flat_v {x : Value} : flat (.v x) = true := rfl
attribute [go_sem] Zyz Zox Zat resD
attribute [go_sem] List.forall_mem_cons List.not_mem_nil false_implies forall_const
@[go_sem] theorem snap_v {h : H} {k : Nat} {x : Value} : Zjh h k (.v x) = .v x := by cases k <;> rfl
@[go_sem] theorem snap_list {h : H} {k : Nat} {f : Bool} {x : List (List D)} : Zjh h k (.list f x) = .list f x := by cases k <;> rfl
@[go_sem] theorem snap_mrow {h : H} {k : Nat} {r off len : Nat} : Zjh h (k + 1) (.mrow r off len) = .list false ((rowsOf (.mrow r off len) h).map fun row => row.map (Zjh h k)) := rfl
@[go_sem] theorem snap_agg {h : H} {k : Nat} {cs : List D} : Zjh h (k + 1) (.agg cs) = .agg (cs.map (Zjh h k)) := rfl
@[go_sem] theorem snap_tuple {h : H} {k : Nat} {cs : List D} : Zjh h (k + 1) (.tuple cs) = .tuple (cs.map (Zjh h k)) := rfl
@[go_sem] theorem snapOk_v {h : H} {k : Nat} {x : Value} : Zkb h k (.v x) = True := by cases k <;> simp [Zkb, D.nr]
@[go_sem] theorem snapOk_list {h : H} {k : Nat} {f : Bool} {x : List (List D)} : Zkb h k (.list f x) = (nrr x = true) := by cases k <;> rfl
@[go_sem] theorem snapOk_mrow {h : H} {k : Nat} {r off len : Nat} : Zkb h (k + 1) (.mrow r off len) = (Zhc h (.mrow r off len) ∧ ∀ row ∈ rowsOf (.mrow r off len) h, ∀ c ∈ row, Zkb h k c) := rfl
@[go_sem] theorem snapOk_agg {h : H} {k : Nat} {cs : List D} : Zkb h (k + 1) (.agg cs) = ∀ c ∈ cs, Zkb h k c := rfl
@[go_sem] theorem snapOk_tuple {h : H} {k : Nat} {cs : List D} : Zkb h (k + 1) (.tuple cs) = ∀ c ∈ cs, Zkb h k c := rfl
@[go_sem] theorem snap_mptr {h : H} {k : Nat} {r i off : Nat} : Zjh h (k + 1) (.mptr r i off) = .eptr ((Zwa (.mptr r i off) h).map (Zjh h k)) := rfl
@[go_sem] theorem snap_fn {h : H} {k : Nat} {f : Fn} {a b : List D} : Zjh h (k + 1) (.fn f a b) = .fn f (a.map (Zjh h k)) (b.map (Zjh h k)) := rfl
@[go_sem] theorem snapOk_mptr {h : H} {k : Nat} {r i off : Nat} : Zkb h (k + 1) (.mptr r i off) = ((h r).isSome = true ∧ ∀ c ∈ Zwa (.mptr r i off) h, Zkb h k c) := rfl
@[go_sem] theorem snapOk_fn {h : H} {k : Nat} {f : Fn} {a b : List D} : Zkb h (k + 1) (.fn f a b) = ((∀ c ∈ a, Zkb h k c) ∧ ∀ c ∈ b, Zkb h k c) := rfl
theorem Zrz {h : H} (rows : List (List D)) : (rows.map fun row => row.map (Zjh h 0)) = rows := by
 have : (fun row : List D => row.map (Zjh h 0)) = id := by funext row; exact List.map_id row
 rw [this]; exact List.map_id rows
theorem Zls {h : H} {rows : List (List D)} (hn : nrr rows = true) : ∀ row ∈ rows, ∀ c ∈ row, Zkb h 0 c := fun _ h1 _ h2 => Zye (Zcn hn h1) h2
theorem Zhl [Glob P] {ro : Option Nat} {Q : Exit → S → Prop} {s s' : S} {id : Nat} {ops : Array Oper} {draw : Bool} (he : exec P (words P) C ops.toList s = s') (hd : draw = true → P.follows .mixedOrders = true ∧ Zkl C ops.toList = true ∧ Zch ops.toList = true) (hok : s'.ok) (hq : Q .normal s'.clear) : DW P ro (.region id ops draw) Q s :=
 Zg4 (C := C) hd (by rw [he]; exact hok) (by rw [he]; exact hq)
end Go.DL
namespace Go.Proofs.YtjngdcldglkolaaDoor
open Go.DL
def rulesTab : List Value := [.int .i64 0, .int .i64 0, .int .i64 0, .int .i64 0, .int .i64 0, .bool false, .bool false, .bool false, .int .i64 0, .int .i64 1, .int .i64 1000000, .int .i64 0, .int .i64 0, .bool false, .bool false, .bool true, .int .i64 1, .int .i64 0, .int .i64 0, .int .i64 0, .int .i64 0, .bool false, .bool false, .bool false, .int .i64 1, .int .i64 0, .int .i64 0, .int .i64 0, .int .i64 0, .bool false, .bool true, .bool false, .int .i64 0, .int .i64 0, .int .i64 65535, .int .i64 0, .int .i64 100000, .bool false, .bool true, .bool false, .int .i64 3, .int .i64 0, .int .i64 0, .int .i64 0, .int .i64 0, .bool false, .bool false, .bool true, .int .i64 0, .int .i64 1, .int .i64 1000000, .int .i64 1, .int .i64 3, .bool false, .bool false, .bool false, .int .i64 0, .int .i64 1, .int .i64 1000000, .int .i64 1, .int .i64 3, .bool false, .bool false, .bool false, .int .i64 2, .int .i64 2, .int .i64 510, .int .i64 0, .int .i64 0, .bool true, .bool false, .bool true]
instance : Glob Tryd.prog := ⟨fun x => match x with | 0 => some rulesTab | _ => none⟩
theorem mix : Tryd.prog.follows .mixedOrders = true := by kernel_rfl
@[go_sem] theorem ty1_0 : Zpf Tryd.prog 1 = false ∧ Tryd.prog.cellsOf 1 = 1 ∧ Tryd.prog.bytesOf 1 = 8 ∧ zeroCells Tryd.prog 1 = [.v .nilFunc] ∧ Zka Tryd.prog 1 = true ∧ (Tryd.prog.underlying 1).isSome = true := ⟨by kernel_rfl, by kernel_rfl, by kernel_rfl, by kernel_rfl, by kernel_rfl, by kernel_rfl⟩
@[go_sem] theorem ty2_0 : Zpf Tryd.prog 2 = false ∧ Tryd.prog.cellsOf 2 = 1 ∧ Tryd.prog.bytesOf 2 = 8 ∧ zeroCells Tryd.prog 2 = [.v (.int .i64 0)] ∧ Zka Tryd.prog 2 = true ∧ Tryd.prog.underlying 2 = some (.int .i64) := ⟨by kernel_rfl, by kernel_rfl, by kernel_rfl, by kernel_rfl, by kernel_rfl, by kernel_rfl⟩
@[go_sem] theorem ty3_0 : Zpf Tryd.prog 3 = false ∧ Tryd.prog.cellsOf 3 = 1 ∧ Tryd.prog.bytesOf 3 = 8 ∧ zeroCells Tryd.prog 3 = [.v (.int .i64 0)] ∧ Zka Tryd.prog 3 = true ∧ Tryd.prog.underlying 3 = some (.int .i64) := ⟨by kernel_rfl, by kernel_rfl, by kernel_rfl, by kernel_rfl, by kernel_rfl, by kernel_rfl⟩
@[go_sem] theorem ty4_0 : Zpf Tryd.prog 4 = false ∧ Tryd.prog.cellsOf 4 = 1 ∧ Tryd.prog.bytesOf 4 = 1 ∧ zeroCells Tryd.prog 4 = [.v (.bool false)] ∧ Zka Tryd.prog 4 = true ∧ Tryd.prog.underlying 4 = some .bool := ⟨by kernel_rfl, by kernel_rfl, by kernel_rfl, by kernel_rfl, by kernel_rfl, by kernel_rfl⟩
@[go_sem] theorem ty5_0 : Zpf Tryd.prog 5 = false ∧ Tryd.prog.cellsOf 5 = 1 ∧ Tryd.prog.bytesOf 5 = 1 ∧ zeroCells Tryd.prog 5 = [.v (.int .u8 0)] ∧ Zka Tryd.prog 5 = true ∧ Tryd.prog.underlying 5 = some (.int .u8) := ⟨by kernel_rfl, by kernel_rfl, by kernel_rfl, by kernel_rfl, by kernel_rfl, by kernel_rfl⟩
@[go_sem] theorem ty9_0 : Zpf Tryd.prog 9 = false ∧ Tryd.prog.cellsOf 9 = 1 ∧ Tryd.prog.bytesOf 9 = 16 ∧ zeroCells Tryd.prog 9 = [.v (.string ⟨⟨[]⟩⟩)] ∧ Zka Tryd.prog 9 = true ∧ Tryd.prog.underlying 9 = some .string := ⟨by kernel_rfl, by kernel_rfl, by kernel_rfl, by kernel_rfl, by kernel_rfl, by kernel_rfl⟩
@[go_sem] theorem ty22_0 : Zpf Tryd.prog 22 = false ∧ Tryd.prog.cellsOf 22 = 1 ∧ Tryd.prog.bytesOf 22 = 24 ∧ zeroCells Tryd.prog 22 = [.list true []] ∧ Zka Tryd.prog 22 = true ∧ (Tryd.prog.underlying 22).isSome = true ∧ Zya Tryd.prog 22 = some 45 := ⟨by kernel_rfl, by kernel_rfl, by kernel_rfl, by kernel_rfl, by kernel_rfl, by kernel_rfl, by kernel_rfl⟩
@[go_sem] theorem ty24_0 : Zpf Tryd.prog 24 = true ∧ Tryd.prog.cellsOf 24 = 4 ∧ Tryd.prog.bytesOf 24 = 56 ∧ zeroCells Tryd.prog 24 = [.v (.string ⟨⟨[]⟩⟩), .v (.int .i64 0), .v (.int .i64 0), .list true []] ∧ Zka Tryd.prog 24 = true ∧ (Tryd.prog.underlying 24).isSome = true ∧ fld Tryd.prog 24 0 = some (0, 9) ∧ fld Tryd.prog 24 1 = some (1, 3) ∧ fld Tryd.prog 24 2 = some (2, 3) ∧ fld Tryd.prog 24 3 = some (3, 22) ∧ Zlg Tryd.prog 24 = true := ⟨by kernel_rfl, by kernel_rfl, by kernel_rfl, by kernel_rfl, by kernel_rfl, by kernel_rfl, by kernel_rfl, by kernel_rfl, by kernel_rfl, by kernel_rfl, by kernel_rfl⟩
@[go_sem] theorem ty25_0 : Zpf Tryd.prog 25 = false ∧ Tryd.prog.cellsOf 25 = 1 ∧ Tryd.prog.bytesOf 25 = 24 ∧ zeroCells Tryd.prog 25 = [.list true []] ∧ Zka Tryd.prog 25 = true ∧ (Tryd.prog.underlying 25).isSome = true ∧ Zya Tryd.prog 25 = some 24 := ⟨by kernel_rfl, by kernel_rfl, by kernel_rfl, by kernel_rfl, by kernel_rfl, by kernel_rfl, by kernel_rfl⟩
@[go_sem] theorem ty26_0 : Zpf Tryd.prog 26 = false ∧ Tryd.prog.cellsOf 26 = 1 ∧ Tryd.prog.bytesOf 26 = 24 ∧ zeroCells Tryd.prog 26 = [.list true []] ∧ Zka Tryd.prog 26 = true ∧ (Tryd.prog.underlying 26).isSome = true ∧ Zya Tryd.prog 26 = some 5 := ⟨by kernel_rfl, by kernel_rfl, by kernel_rfl, by kernel_rfl, by kernel_rfl, by kernel_rfl, by kernel_rfl⟩
@[go_sem] theorem ty29_0 : Zpf Tryd.prog 29 = false ∧ Tryd.prog.cellsOf 29 = 1 ∧ Tryd.prog.bytesOf 29 = 8 ∧ zeroCells Tryd.prog 29 = [.v (.int .i64 0)] ∧ Zka Tryd.prog 29 = true ∧ Tryd.prog.underlying 29 = some (.int .i64) := ⟨by kernel_rfl, by kernel_rfl, by kernel_rfl, by kernel_rfl, by kernel_rfl, by kernel_rfl⟩
@[go_sem] theorem ty40_0 : Zpf Tryd.prog 40 = false ∧ Tryd.prog.cellsOf 40 = 1 ∧ Tryd.prog.bytesOf 40 = 8 ∧ zeroCells Tryd.prog 40 = [.v .nilFunc] ∧ Zka Tryd.prog 40 = true ∧ (Tryd.prog.underlying 40).isSome = true := ⟨by kernel_rfl, by kernel_rfl, by kernel_rfl, by kernel_rfl, by kernel_rfl, by kernel_rfl⟩
@[go_sem] theorem ty41_0 : Zpf Tryd.prog 41 = false ∧ Tryd.prog.cellsOf 41 = 1 ∧ Tryd.prog.bytesOf 41 = 8 ∧ zeroCells Tryd.prog 41 = [.v .nilFunc] ∧ Zka Tryd.prog 41 = true ∧ (Tryd.prog.underlying 41).isSome = true := ⟨by kernel_rfl, by kernel_rfl, by kernel_rfl, by kernel_rfl, by kernel_rfl, by kernel_rfl⟩
@[go_sem] theorem ty45_0 : Zpf Tryd.prog 45 = true ∧ Tryd.prog.cellsOf 45 = 3 ∧ Tryd.prog.bytesOf 45 = 32 ∧ zeroCells Tryd.prog 45 = [.v (.string ⟨⟨[]⟩⟩), .v (.int .i64 0), .v (.int .i64 0)] ∧ Zka Tryd.prog 45 = true ∧ (Tryd.prog.underlying 45).isSome = true ∧ fld Tryd.prog 45 0 = some (0, 9) ∧ fld Tryd.prog 45 1 = some (1, 3) ∧ fld Tryd.prog 45 2 = some (2, 3) ∧ Zlg Tryd.prog 45 = true ∧ Zge Tryd.prog 45 = some [.s, .i, .i] := ⟨by kernel_rfl, by kernel_rfl, by kernel_rfl, by kernel_rfl, by kernel_rfl, by kernel_rfl, by kernel_rfl, by kernel_rfl, by kernel_rfl, by kernel_rfl, by kernel_rfl⟩
@[go_sem] theorem ty46_0 : Zpf Tryd.prog 46 = false ∧ Tryd.prog.cellsOf 46 = 1 ∧ Tryd.prog.bytesOf 46 = 8 ∧ zeroCells Tryd.prog 46 = [.v .nilFunc] ∧ Zka Tryd.prog 46 = true ∧ (Tryd.prog.underlying 46).isSome = true := ⟨by kernel_rfl, by kernel_rfl, by kernel_rfl, by kernel_rfl, by kernel_rfl, by kernel_rfl⟩
@[go_sem] theorem ty48_0 : Zpf Tryd.prog 48 = false ∧ Tryd.prog.cellsOf 48 = 1 ∧ Tryd.prog.bytesOf 48 = 8 ∧ zeroCells Tryd.prog 48 = [.v .nilFunc] ∧ Zka Tryd.prog 48 = true ∧ (Tryd.prog.underlying 48).isSome = true := ⟨by kernel_rfl, by kernel_rfl, by kernel_rfl, by kernel_rfl, by kernel_rfl, by kernel_rfl⟩
@[go_sem] theorem ty51_0 : Zpf Tryd.prog 51 = true ∧ Tryd.prog.cellsOf 51 = 8 ∧ Tryd.prog.bytesOf 51 = 48 ∧ zeroCells Tryd.prog 51 = [.v (.int .i64 0), .v (.int .i64 0), .v (.int .i64 0), .v (.int .i64 0), .v (.int .i64 0), .v (.bool false), .v (.bool false), .v (.bool false)] ∧ Zka Tryd.prog 51 = true ∧ (Tryd.prog.underlying 51).isSome = true ∧ fld Tryd.prog 51 0 = some (0, 3) ∧ fld Tryd.prog 51 1 = some (1, 3) ∧ fld Tryd.prog 51 2 = some (2, 3) ∧ fld Tryd.prog 51 3 = some (3, 3) ∧ fld Tryd.prog 51 4 = some (4, 3) ∧ fld Tryd.prog 51 5 = some (5, 4) := ⟨by kernel_rfl, by kernel_rfl, by kernel_rfl, by kernel_rfl, by kernel_rfl, by kernel_rfl, by kernel_rfl, by kernel_rfl, by kernel_rfl, by kernel_rfl, by kernel_rfl, by kernel_rfl⟩
@[go_sem] theorem ty51_12 : fld Tryd.prog 51 6 = some (6, 4) ∧ fld Tryd.prog 51 7 = some (7, 4) ∧ Zlg Tryd.prog 51 = true ∧ Zge Tryd.prog 51 = some [.i, .i, .i, .i, .i, .b, .b, .b] := ⟨by kernel_rfl, by kernel_rfl, by kernel_rfl, by kernel_rfl⟩
@[go_sem] theorem ty52_0 : Zpf Tryd.prog 52 = true ∧ Tryd.prog.cellsOf 52 = 72 ∧ Tryd.prog.bytesOf 52 = 432 ∧ zeroCells Tryd.prog 52 = [.v (.int .i64 0), .v (.int .i64 0), .v (.int .i64 0), .v (.int .i64 0), .v (.int .i64 0), .v (.bool false), .v (.bool false), .v (.bool false), .v (.int .i64 0), .v (.int .i64 0), .v (.int .i64 0), .v (.int .i64 0), .v (.int .i64 0), .v (.bool false), .v (.bool false), .v (.bool false), .v (.int .i64 0), .v (.int .i64 0), .v (.int .i64 0), .v (.int .i64 0), .v (.int .i64 0), .v (.bool false), .v (.bool false), .v (.bool false), .v (.int .i64 0), .v (.int .i64 0), .v (.int .i64 0), .v (.int .i64 0), .v (.int .i64 0), .v (.bool false), .v (.bool false), .v (.bool false), .v (.int .i64 0), .v (.int .i64 0), .v (.int .i64 0), .v (.int .i64 0), .v (.int .i64 0), .v (.bool false), .v (.bool false), .v (.bool false), .v (.int .i64 0), .v (.int .i64 0), .v (.int .i64 0), .v (.int .i64 0), .v (.int .i64 0), .v (.bool false), .v (.bool false), .v (.bool false), .v (.int .i64 0), .v (.int .i64 0), .v (.int .i64 0), .v (.int .i64 0), .v (.int .i64 0), .v (.bool false), .v (.bool false), .v (.bool false), .v (.int .i64 0), .v (.int .i64 0), .v (.int .i64 0), .v (.int .i64 0), .v (.int .i64 0), .v (.bool false), .v (.bool false), .v (.bool false), .v (.int .i64 0), .v (.int .i64 0), .v (.int .i64 0), .v (.int .i64 0), .v (.int .i64 0), .v (.bool false), .v (.bool false), .v (.bool false)] ∧ Zka Tryd.prog 52 = true ∧ (Tryd.prog.underlying 52).isSome = true ∧ Zya Tryd.prog 52 = none ∧ Zhz Tryd.prog 52 = some (9, 51) ∧ Zlg Tryd.prog 52 = true := ⟨by kernel_rfl, by kernel_rfl, by kernel_rfl, by kernel_rfl, by kernel_rfl, by kernel_rfl, by kernel_rfl, by kernel_rfl, by kernel_rfl⟩
@[go_sem] theorem fn52 {f : Nat} : fld Tryd.prog 52 f = none := by kernel_rfl
@[go_sem] theorem ty56_0 : Zpf Tryd.prog 56 = false ∧ Tryd.prog.cellsOf 56 = 1 ∧ Tryd.prog.bytesOf 56 = 8 ∧ zeroCells Tryd.prog 56 = [.v .nilFunc] ∧ Zka Tryd.prog 56 = true ∧ (Tryd.prog.underlying 56).isSome = true := ⟨by kernel_rfl, by kernel_rfl, by kernel_rfl, by kernel_rfl, by kernel_rfl, by kernel_rfl⟩
@[go_sem] theorem ty58_0 : Zpf Tryd.prog 58 = false ∧ Tryd.prog.cellsOf 58 = 1 ∧ Tryd.prog.bytesOf 58 = 8 ∧ zeroCells Tryd.prog 58 = [.v .nilFunc] ∧ Zka Tryd.prog 58 = true ∧ (Tryd.prog.underlying 58).isSome = true := ⟨by kernel_rfl, by kernel_rfl, by kernel_rfl, by kernel_rfl, by kernel_rfl, by kernel_rfl⟩
@[go_sem] theorem ty63_0 : Zpf Tryd.prog 63 = false ∧ Tryd.prog.cellsOf 63 = 1 ∧ Tryd.prog.bytesOf 63 = 8 ∧ zeroCells Tryd.prog 63 = [.v .nilFunc] ∧ Zka Tryd.prog 63 = true ∧ (Tryd.prog.underlying 63).isSome = true := ⟨by kernel_rfl, by kernel_rfl, by kernel_rfl, by kernel_rfl, by kernel_rfl, by kernel_rfl⟩
@[go_sem] theorem ty65_0 : Zpf Tryd.prog 65 = true ∧ Tryd.prog.cellsOf 65 = 2 ∧ Tryd.prog.bytesOf 65 = 32 ∧ zeroCells Tryd.prog 65 = [.list true [], .v (.bool false)] ∧ Zka Tryd.prog 65 = true ∧ (Tryd.prog.underlying 65).isSome = true ∧ fld Tryd.prog 65 0 = some (0, 26) ∧ fld Tryd.prog 65 1 = some (1, 4) ∧ Zlg Tryd.prog 65 = true := ⟨by kernel_rfl, by kernel_rfl, by kernel_rfl, by kernel_rfl, by kernel_rfl, by kernel_rfl, by kernel_rfl, by kernel_rfl, by kernel_rfl⟩
@[go_sem] theorem ty66_0 : Zpf Tryd.prog 66 = false ∧ Tryd.prog.cellsOf 66 = 1 ∧ Tryd.prog.bytesOf 66 = 8 ∧ zeroCells Tryd.prog 66 = [.v .nilFunc] ∧ Zka Tryd.prog 66 = true ∧ (Tryd.prog.underlying 66).isSome = true := ⟨by kernel_rfl, by kernel_rfl, by kernel_rfl, by kernel_rfl, by kernel_rfl, by kernel_rfl⟩
@[go_sem] theorem ty67_0 : Zpf Tryd.prog 67 = false ∧ Tryd.prog.cellsOf 67 = 1 ∧ Tryd.prog.bytesOf 67 = 8 ∧ zeroCells Tryd.prog 67 = [.v .nilFunc] ∧ Zka Tryd.prog 67 = true ∧ (Tryd.prog.underlying 67).isSome = true := ⟨by kernel_rfl, by kernel_rfl, by kernel_rfl, by kernel_rfl, by kernel_rfl, by kernel_rfl⟩
@[go_sem] theorem ty68_0 : Zpf Tryd.prog 68 = false ∧ Tryd.prog.cellsOf 68 = 1 ∧ Tryd.prog.bytesOf 68 = 8 ∧ zeroCells Tryd.prog 68 = [.v (.pointer none)] ∧ Zka Tryd.prog 68 = true ∧ (Tryd.prog.underlying 68).isSome = true := ⟨by kernel_rfl, by kernel_rfl, by kernel_rfl, by kernel_rfl, by kernel_rfl, by kernel_rfl⟩
@[go_sem] theorem ty70_0 : Zpf Tryd.prog 70 = true ∧ Tryd.prog.cellsOf 70 = 3 ∧ Tryd.prog.bytesOf 70 = 40 ∧ zeroCells Tryd.prog 70 = [.list true [], .v (.int .i64 0), .v (.bool false)] ∧ Zka Tryd.prog 70 = true ∧ (Tryd.prog.underlying 70).isSome = true ∧ fld Tryd.prog 70 0 = some (0, 26) ∧ fld Tryd.prog 70 1 = some (1, 3) ∧ fld Tryd.prog 70 2 = some (2, 4) ∧ Zlg Tryd.prog 70 = true := ⟨by kernel_rfl, by kernel_rfl, by kernel_rfl, by kernel_rfl, by kernel_rfl, by kernel_rfl, by kernel_rfl, by kernel_rfl, by kernel_rfl, by kernel_rfl⟩
@[go_sem] theorem ty72_0 : Zpf Tryd.prog 72 = false ∧ Tryd.prog.cellsOf 72 = 1 ∧ Tryd.prog.bytesOf 72 = 8 ∧ zeroCells Tryd.prog 72 = [.v .nilFunc] ∧ Zka Tryd.prog 72 = true ∧ (Tryd.prog.underlying 72).isSome = true := ⟨by kernel_rfl, by kernel_rfl, by kernel_rfl, by kernel_rfl, by kernel_rfl, by kernel_rfl⟩
@[go_sem] theorem ty74_0 : Zpf Tryd.prog 74 = false ∧ Tryd.prog.cellsOf 74 = 1 ∧ Tryd.prog.bytesOf 74 = 24 ∧ zeroCells Tryd.prog 74 = [.list true []] ∧ Zka Tryd.prog 74 = true ∧ (Tryd.prog.underlying 74).isSome = true ∧ Zya Tryd.prog 74 = some 3 := ⟨by kernel_rfl, by kernel_rfl, by kernel_rfl, by kernel_rfl, by kernel_rfl, by kernel_rfl, by kernel_rfl⟩
@[go_sem] theorem ty75_0 : Zpf Tryd.prog 75 = false ∧ Tryd.prog.cellsOf 75 = 1 ∧ Tryd.prog.bytesOf 75 = 8 ∧ zeroCells Tryd.prog 75 = [.v .nilFunc] ∧ Zka Tryd.prog 75 = true ∧ (Tryd.prog.underlying 75).isSome = true := ⟨by kernel_rfl, by kernel_rfl, by kernel_rfl, by kernel_rfl, by kernel_rfl, by kernel_rfl⟩
@[go_sem] theorem ty80_0 : Zpf Tryd.prog 80 = false ∧ Tryd.prog.cellsOf 80 = 1 ∧ Tryd.prog.bytesOf 80 = 16 ∧ zeroCells Tryd.prog 80 = [.v (.string ⟨⟨[]⟩⟩)] ∧ Zka Tryd.prog 80 = true ∧ Tryd.prog.underlying 80 = some .string := ⟨by kernel_rfl, by kernel_rfl, by kernel_rfl, by kernel_rfl, by kernel_rfl, by kernel_rfl⟩
@[go_sem] theorem ty84_0 : Zpf Tryd.prog 84 = false ∧ Tryd.prog.cellsOf 84 = 1 ∧ Tryd.prog.bytesOf 84 = 24 ∧ zeroCells Tryd.prog 84 = [.list true []] ∧ Zka Tryd.prog 84 = true ∧ (Tryd.prog.underlying 84).isSome = true ∧ Zya Tryd.prog 84 = some 9 := ⟨by kernel_rfl, by kernel_rfl, by kernel_rfl, by kernel_rfl, by kernel_rfl, by kernel_rfl, by kernel_rfl⟩
@[go_sem] theorem ty86_0 : Zpf Tryd.prog 86 = false ∧ Tryd.prog.cellsOf 86 = 1 ∧ Tryd.prog.bytesOf 86 = 8 ∧ zeroCells Tryd.prog 86 = [.v (.int .u64 0)] ∧ Zka Tryd.prog 86 = true ∧ Tryd.prog.underlying 86 = some (.int .u64) := ⟨by kernel_rfl, by kernel_rfl, by kernel_rfl, by kernel_rfl, by kernel_rfl, by kernel_rfl⟩
@[go_sem] theorem ty87_0 : Zpf Tryd.prog 87 = false ∧ Tryd.prog.cellsOf 87 = 1 ∧ Tryd.prog.bytesOf 87 = 8 ∧ zeroCells Tryd.prog 87 = [.v (.pointer none)] ∧ Zka Tryd.prog 87 = true ∧ (Tryd.prog.underlying 87).isSome = true := ⟨by kernel_rfl, by kernel_rfl, by kernel_rfl, by kernel_rfl, by kernel_rfl, by kernel_rfl⟩
@[go_sem] theorem ty89_0 : Zpf Tryd.prog 89 = false ∧ Tryd.prog.cellsOf 89 = 1 ∧ Tryd.prog.bytesOf 89 = 8 ∧ zeroCells Tryd.prog 89 = [.v (.int .u64 0)] ∧ Zka Tryd.prog 89 = true ∧ Tryd.prog.underlying 89 = some (.int .u64) := ⟨by kernel_rfl, by kernel_rfl, by kernel_rfl, by kernel_rfl, by kernel_rfl, by kernel_rfl⟩
@[go_sem] theorem ty90_0 : Zpf Tryd.prog 90 = false ∧ Tryd.prog.cellsOf 90 = 1 ∧ Tryd.prog.bytesOf 90 = 8 ∧ zeroCells Tryd.prog 90 = [.v .nilFunc] ∧ Zka Tryd.prog 90 = true ∧ (Tryd.prog.underlying 90).isSome = true := ⟨by kernel_rfl, by kernel_rfl, by kernel_rfl, by kernel_rfl, by kernel_rfl, by kernel_rfl⟩
@[go_sem] theorem ty92_0 : Zpf Tryd.prog 92 = false ∧ Tryd.prog.cellsOf 92 = 1 ∧ Tryd.prog.bytesOf 92 = 8 ∧ zeroCells Tryd.prog 92 = [.v .nilFunc] ∧ Zka Tryd.prog 92 = true ∧ (Tryd.prog.underlying 92).isSome = true := ⟨by kernel_rfl, by kernel_rfl, by kernel_rfl, by kernel_rfl, by kernel_rfl, by kernel_rfl⟩
end Go.Proofs.YtjngdcldglkolaaDoor
namespace Go.DL
open Go.RowKit
variable {P : Program} {C : Con} {ro : Option Nat} {Q : Exit → S → Prop}
theorem dw_reg [Glob P] {s : S} {n nx : Nat} {t : Nat → D} {h : H} {ok : Prop} {e : Env} {id : Nat} {ops : Array Oper} {draw : Bool} (he : exec P (words P) C ops.toList s = ⟨n, t, h, nx, ok, e⟩) (hd : draw = true → P.follows .mixedOrders = true ∧ Zkl C ops.toList = true ∧ Zch ops.toList = true) (hok : ok) (hq : Q .normal ⟨n, t, h, nx, True, e⟩) : DW P ro (.region id ops draw) Q s :=
 Zhl (C := C) he hd hok hq
theorem dw_step [Glob P] {s : S} {n nx : Nat} {t : Nat → D} {h : H} {ok : Prop} {e : Env} {id : Nat} {ops : Array Oper} {draw : Bool} {y : Code} (he : exec P (words P) C ops.toList s = ⟨n, t, h, nx, ok, e⟩) (hd : draw = true → P.follows .mixedOrders = true ∧ Zkl C ops.toList = true ∧ Zch ops.toList = true) (hok : ok) (hq : DW P ro y Q ⟨n, t, h, nx, True, e⟩) : DW P ro (.seq (.region id ops draw) y) Q s :=
 Zaa (Zhl (C := C) he hd hok hq)
@[go_sem] theorem ne_add {r n i : Nat} (h : r < n) : (r = n + i) = False := by simp; omega
@[go_sem] theorem add_ne {r n i : Nat} (h : r < n) : (n + i = r) = False := by simp; omega
@[go_sem] theorem Zmd {α β : Type} {f : α → β} {l : List α} : (l.map f).take l.length = l.map f := by rw [List.take_of_length_le]; simp
@[go_sem] theorem take_map_len1 {α β : Type} {f : α → β} {l : List α} {x : β} : (l.map f ++ [x]).take (l.length + 1) = l.map f ++ [x] := by rw [List.take_of_length_le]; simp
@[go_sem] theorem wkr_app : ∀ {a b : List (List D)}, wkr (a ++ b) = wkr a ++ wkr b
 | [], _ => rfl
 | r :: a, b => by simp only [List.cons_append, wkr, wkr_app]
attribute [go_sem] Zrz Zfp nrr nrs
@[go_sem] theorem snapOk_rows {h : H} {rows : List (List D)} : (∀ row ∈ rows, ∀ c ∈ row, Zkb h 0 c) = (nrr rows = true) := by
 apply propext
 refine ⟨fun k => Zz2 fun r hr => Zbn fun c hc => k r hr c hc, fun k => Zls k⟩
@[go_sem] theorem nr_v {x : Value} : D.nr (.v x) = true := rfl
@[go_sem] theorem nr_list {f : Bool} {rows : List (List D)} : D.nr (.list f rows) = nrr rows := rfl
def tab : List (Nat × D) → Nat → D
 | [], _ => .junk
 | (j, x) :: l, i => if i = j then x else tab l i
@[go_sem] theorem tab_hit {i : Nat} {x : D} {l : List (Nat × D)} : tab ((i, x) :: l) i = x := by simp [tab]
@[go_sem] theorem tab_miss {j i : Nat} {x : D} {l : List (Nat × D)} (h : (i = j) = False) : tab ((j, x) :: l) i = tab l i := by simp only [tab]; rw [if_neg (by rw [h]; exact id)]
def Tb (t : Nat → D) (p : Nat × D) : Prop := t p.1 = p.2 ∨ wk (t p.1) = p.2
@[go_sem] theorem tb_eq {t : Nat → D} {i : Nat} {d : D} : Tb t (i, d) = (t i = d ∨ wk (t i) = d) := rfl
attribute [go_sem] true_or
theorem Zoq {t : Nat → D} : ∀ {l : List (Nat × D)}, (∀ p ∈ l, Tb t p) → ∀ i, tab l i = t i ∨ tab l i = wk (t i) ∨ tab l i = .junk
 | [], _, _ => .inr (.inr rfl)
 | (j, x) :: l, h, i => by
  simp only [tab]
  split
  ·
   rename_i e; subst e
   rcases h (i, x) (by simp) with h | h
   ·
    exact .inl h.symm
   ·
    exact .inr (.inl h.symm)
  ·
   exact Zoq (fun p hp => h p (by simp [hp])) i
theorem Marks.only {B : Nat} {g : Mem} {h' : H} {w : World} : ∀ {ds : List Deferred}, Marks B g ds w → Marks B (g.only h') ds w
 | [], _ => trivial
 | _ :: _, ⟨h1, h2⟩ => ⟨h1, Marks.only h2⟩
theorem Dfs.only {B : Bot} {g : Mem} {h' : H} {w : World} {ds : List Deferred} (h : Dfs B g ds w) : Dfs B (g.only h') ds w := h.map fun _ k => k.only
theorem St.forget [Glob P] {B : Bot} {s : S} {g : Mem} {a : Act} {w : World} (hs : St P B s g a w) {t' : Nat → D} {h' : H} {nx' : Nat} (ht : ∀ i, t' i = s.t i ∨ t' i = wk (s.t i) ∨ t' i = .junk) (hh : ∀ r, h' r = s.h r ∨ h' r = none) :
  St P B { n := s.n, t := t', h := h', nx := nx', e := s.e } (g.only h') a w := by
 refine ⟨hs.sz, fun i => ?_, hs.mem.only hh, hs.df.only, s.e.st P s.h g _ w w hs.mem only_mono hs.en, hs.bd⟩
 rcases ht i with e | e | e
 ·
  show Rep w (g.only h') (t' i) _
  rw [e]; exact (hs.tm i).only
 ·
  show Rep w (g.only h') (t' i) _
  rw [e]; exact (hs.tm i).wk.only
 ·
  show Rep w (g.only h') (t' i) _
  rw [e]; exact .junk _
theorem Zj4 [Glob P] {c : Code} {s : S} (t' : Nat → D) (h' : H) (nx' : Nat) (ht : ∀ i, t' i = s.t i ∨ t' i = wk (s.t i) ∨ t' i = .junk) (hh : ∀ r, h' r = s.h r ∨ h' r = none) (hn : s.nx ≤ nx') (h : DW P ro c Q { n := s.n, t := t', h := h', nx := nx', e := s.e }) : DW P ro c Q s := by
 intro B g a w hs hU
 exact wpIn_mono (h B _ a w (hs.forget ht hh) fun r hr => Nat.lt_of_lt_of_le (hU r hr) hn) fun e a' w' ⟨s', g', q, r, m, u, v⟩ => ⟨s', g', q, r, only_mono.toX.trans m, u, v⟩
theorem Ze4 [Glob P] {c : Code} {s : S} (l : List (Nat × D)) (h' : H) (nx' : Nat) (ht : ∀ p ∈ l, Tb s.t p) (hh : ∀ r, h' r = s.h r ∨ h' r = none) (hn : s.nx ≤ nx') (h : DW P ro c Q { n := s.n, t := tab l, h := h', nx := nx', e := s.e }) : DW P ro c Q s :=
 Zj4 _ _ _ (Zoq ht) hh hn h
theorem Zsn [Glob P] {c : Code} {s : S} {α : Type} (A : α → Prop) (μ : α → Nat) (tb : α → List (Nat × D)) (hh : α → H) (nxx : α → Nat) (a0 : α) (hA : A a0) (ht : ∀ p ∈ tb a0, Tb s.t p) (hhp : ∀ r, hh a0 r = s.h r ∨ hh a0 r = none) (hn : s.nx ≤ nxx a0)
  (round : ∀ a, A a → DW P ro c (thenS (fun s' => ∃ a', A a' ∧ μ a' < μ a ∧ (∀ p ∈ tb a', Tb s'.t p) ∧ (∀ r, hh a' r = s'.h r ∨ hh a' r = none) ∧ s'.nx ≤ nxx a' ∧ s'.n = s.n ∧ s'.e = s.e) Q) { n := s.n, t := tab (tb a), h := hh a, nx := nxx a, e := s.e }) : DW P ro (.loop c) Q s := by
 intro B g a w hs hU
 refine wpIn_loop_ghost (fun k a' w' => ∃ x g', A x ∧ μ x = k ∧ St P B { n := s.n, t := tab (tb x), h := hh x, nx := nxx x, e := s.e } g' a' w' ∧ MonoX s.e.x g g' w w' ∧ ∀ r, g'.U r → r < nxx x) (μ a0) ⟨a0, _, hA, rfl, hs.forget (Zoq ht) hhp, only_mono.toX, fun r hr => Nat.lt_of_lt_of_le (hU r hr) hn⟩ ?_
 rintro k a1 w1 ⟨x, g1, hx, rfl, hs1, hm1, hU1⟩
 refine wpIn_mono (round x hx B g1 a1 w1 hs1 hU1) ?_
 rintro e a2 w2 ⟨s2, g2, hq, hs2, hm2, hU2, hx2⟩
 cases e with
 | normal =>
  obtain ⟨x', h1, h2, h3, h4, h5, h6, h7⟩ := hq
  refine ⟨μ x', h2, x', g2.only (hh x'), h1, rfl, ?_, (hm1.trans hm2).trans only_mono.toX, fun r hr => Nat.lt_of_lt_of_le (hU2 r hr) h5⟩
  have := hs2.forget (nx' := nxx x') (Zoq h3) h4
  rw [h6, h7] at this
  exact this
 | _ => exact ⟨s2, g2, hq, hs2, hm1.trans hm2, hU2, hx2⟩
def htab : List (Nat × Blk) → H
 | [] => fun _ => none
 | (r, b) :: l => upd (htab l) r (some b)
@[go_sem] theorem htab_nil : htab [] = fun _ => none := rfl
@[go_sem] theorem htab_cons {r : Nat} {b : Blk} {l : List (Nat × Blk)} : htab ((r, b) :: l) = upd (htab l) r (some b) := rfl
theorem Zlj {h : H} : ∀ {l : List (Nat × Blk)}, (∀ p ∈ l, h p.1 = some p.2) → ∀ r, htab l r = h r ∨ htab l r = none
 | [], _, _ => .inr rfl
 | (j, x) :: l, hl, i => by
  simp only [htab, upd]
  split
  ·
   rename_i e; subst e; exact .inl (hl (i, x) (by simp)).symm
  ·
   exact Zlj (fun p hp => hl p (by simp [hp])) i
theorem Zf3 {s : S} {keep : List Nat} {fx : List (Nat × D)} (hfx : keep.map (fun i => (i, s.t i)) = fx) : ∀ p ∈ fx, Tb s.t p := by
 intro p hp
 rw [← hfx] at hp
 obtain ⟨i, _, rfl⟩ := List.mem_map.1 hp
 exact .inl rfl
theorem Zkw [Glob P] {c : Code} {s : S} {α : Type} (keep : List Nat) (A : α → Prop) (μ : α → Nat) (tb : α → List (Nat × D)) (hb : α → List (Nat × Blk)) (nxx : α → Nat) (a0 : α) {fx : List (Nat × D)} (hfx : keep.map (fun i => (i, s.t i)) = fx) (hA : A a0) (ht : ∀ p ∈ tb a0, Tb s.t p) (hh : ∀ p ∈ hb a0, s.h p.1 = some p.2) (hn : s.nx ≤ nxx a0)
  (round : ∀ a, A a → DW P ro c (thenS (fun s' => ∃ a', A a' ∧ μ a' < μ a ∧ (∀ p ∈ tb a', Tb s'.t p) ∧ (∀ p ∈ fx, Tb s'.t p) ∧ (∀ p ∈ hb a', s'.h p.1 = some p.2) ∧ s'.nx ≤ nxx a' ∧ s'.n = s.n ∧ s'.e = s.e) Q) { n := s.n, t := tab (tb a ++ fx), h := htab (hb a), nx := nxx a, e := s.e }) : DW P ro (.loop c) Q s :=
 Zsn A μ (fun a => tb a ++ fx) (fun a => htab (hb a)) nxx a0 hA (fun p hp => (List.mem_append.1 hp).elim (ht p) (Zf3 hfx p)) (Zlj hh) hn fun a ha => (round a ha).mono fun e s' hq => by
  cases e with
  | normal =>
   obtain ⟨a', h1, h2, h3, h4, h5, h6, h7, h8⟩ := hq
   exact ⟨a', h1, h2, fun p hp => (List.mem_append.1 hp).elim (h3 p) (h4 p), Zlj h5, h6, h7, h8⟩
  | _ => exact hq
theorem dw_join [Glob P] {x y : Code} {s : S} {α : Type} (keep : List Nat) (A : α → Prop) (tb : α → List (Nat × D)) (hb : α → List (Nat × Blk)) (nxx : α → Nat) {fx : List (Nat × D)} (_hfx : keep.map (fun i => (i, s.t i)) = fx)
  (h : DW P ro x (thenS (fun s' => ∃ a, A a ∧ (∀ p ∈ tb a, Tb s'.t p) ∧ (∀ p ∈ fx, Tb s'.t p) ∧ (∀ p ∈ hb a, s'.h p.1 = some p.2) ∧ s'.nx ≤ nxx a ∧ s'.n = s.n ∧ s'.e = s.e) Q) s)
  (k : ∀ a, A a → DW P ro y Q { n := s.n, t := tab (tb a ++ fx), h := htab (hb a), nx := nxx a, e := s.e }) : DW P ro (.seq x y) Q s := by
 refine Ziu _ h ?_
 rintro s' ⟨a, h1, h2, h3, h4, h5, h6, h7⟩
 refine Ze4 (tb a ++ fx) (htab (hb a)) (nxx a) (fun p hp => (List.mem_append.1 hp).elim (h2 p) (h3 p)) (Zlj h4) h5 ?_
 rw [h6, h7]
 exact k a h1
theorem Zfg [Glob P] {c : Code} {s : S} (keep : List Nat) (hb : List (Nat × Blk)) {fx : List (Nat × D)} (hfx : keep.map (fun i => (i, s.t i)) = fx) (hh : ∀ p ∈ hb, s.h p.1 = some p.2) (h : DW P ro c Q { n := s.n, t := tab fx, h := htab hb, nx := s.nx, e := s.e }) : DW P ro c Q s :=
 Ze4 fx (htab hb) s.nx (Zf3 hfx) (Zlj hh) (Nat.le_refl _) h
theorem dw_len [Glob P] {c : Code} {s : S} (i : Nat) {f : Bool} {rows : List (List D)} (he : s.t i = .list f rows) (h : rows.length ≤ maxLen → DW P ro c Q s) : DW P ro c Q s := by
 intro B g a w hs hU
 refine h ?_ B g a w hs hU
 have hr := hs.tm i
 rw [he] at hr
 generalize a.tmps.getD i undef = v at hr
 cases hr with
 | empty => simp [maxLen]
 | list _ _ ad cap size cv hI hl hf hm hs hc hr => omega
theorem Zrn [Glob P] {c : Code} {s : S} (i : Nat) (ty : TypeId) (hi : s.t i = .list true []) (hty : 0 < P.cellsOf ty) (h : DW P ro c Q { n := s.n, t := upd s.t i (.mrow s.nx 0 0), h := upd s.h s.nx (some ⟨ty, []⟩), nx := s.nx + 1, e := s.e }) : DW P ro c Q s := by
 intro B g a w hs hU
 have hnu : ¬ g.U s.nx := fun h => Nat.lt_irrefl _ (hU _ h)
 obtain ⟨g', q1, q2, q3, q4, q5⟩ := hs.mem.putNone (h' := upd s.h s.nx (some ⟨ty, []⟩)) s.nx ⟨ty, []⟩ hnu (upd_same _ _ _) (fun r hr => .inl (upd_ne _ _ _ _ hr)) hty rfl
 have hst : St P B { n := s.n, t := upd s.t i (.mrow s.nx 0 0), h := upd s.h s.nx (some ⟨ty, []⟩), nx := s.nx + 1, e := s.e } g' a w := by
  refine ⟨hs.sz, fun j => ?_, q4, hs.df.later hs.mem q5, Env.later hs.mem q5 hs.en, hs.bd⟩
  by_cases e : j = i
  ·
   subst e
   simp only [upd_same]
   have hr := hs.tm j
   rw [hi] at hr
   generalize a.tmps.getD j undef = v at hr
   have key : ∃ x, v = .slice x 0 0 := by
    cases hr with
    | empty _ x cap hf hm => exact ⟨x, by rw [hf rfl]⟩
    | list _ _ ad cap size cv hI hl hf => exact ⟨some ad, by rw [hf rfl]; rfl⟩
   obtain ⟨x, rfl⟩ := key
   refine .mrow _ _ _ _ ⟨x, 0, rfl, Nat.le_refl _, fun h => absurd h (by omega)⟩ ((q2 _).2 (.inr rfl)) fun blk c sz he => ?_
   rw [q1] at he
   cases he
   exact ⟨⟨Nat.le_refl _, Nat.zero_le _⟩, .inl ⟨rfl, x, rfl⟩⟩
  ·
   simp only [upd_ne _ _ _ _ e]
   exact (hs.tm j).later hs.mem q5
 exact wpIn_mono (h B g' a w hst (fun r hr => by
  rcases (q2 r).1 hr with h | h
  ·
   exact Nat.lt_succ_of_lt (hU r h)
  ·
   subst h; exact Nat.lt_succ_self _)) fun e a' w' ⟨s', g'', q, r, m, u, v⟩ => ⟨s', g'', q, r, q5.toX.trans m, u, v⟩
theorem Zjw {w : World} {g : Mem} {v : Value} (hr : Rep w g (.list true []) v) : ∃ x, v = .slice x 0 0 := by
 cases hr with
 | empty _ x cap hf hm => exact ⟨x, by rw [hf rfl]⟩
 | list _ _ ad cap size cv hI hl hf => exact ⟨some ad, by rw [hf rfl]; rfl⟩
theorem Zju [Glob P] {c : Code} {s : S} (i r : Nat) {ty : TypeId} {rows : List (List D)} {len : Nat} (hi : s.t i = .mrow r 0 len) (hr : s.h r = some ⟨ty, rows⟩) (hl : rows.length = len) (hn : nrr rows = true) (h : DW P ro c Q { n := s.n, t := upd s.t i (.list false rows), h := upd s.h r none, nx := s.nx, e := s.e }) : DW P ro c Q s := by
 intro B g a w hs hU
 let g' : Mem := { M := fun x => if x = r then none else g.M x, U := g.U, I := fun b => g.I b ∨ ∃ c s, g.M r = some (some b, c, s) }
 have inv : ∀ {x y}, g'.M x = some y → x ≠ r ∧ g.M x = some y := by
  intro x y e
  have e : (if x = r then none else g.M x) = some y := e
  split at e
  ·
   cases e
  ·
   exact ⟨‹_›, e⟩
 have mono : Mono g g' w w := by
  refine ⟨rfl, rfl, rfl, Nat.le_refl _, Nat.le_refl _, fun _ h => h, fun x _ => ?_, fun x b c s e => .inl ⟨x, c, s, (inv e).2⟩, fun _ h => .inl h, fun b hb => ?_, fun _ _ _ => rfl⟩
  ·
   show (if x = r then none else g.M x) = g.M x ∨ (if x = r then none else g.M x) = none
   split
   ·
    exact .inr rfl
   ·
    exact .inl rfl
  ·
   rcases hb with hb | ⟨c, s, hb⟩
   ·
    exact .inl hb
   ·
    exact .inr (.inr ⟨r, c, s, hb⟩)
 have hm : HM P (upd s.h r none) g' w := by
  refine ⟨fun x hx => ?_, fun x bl hx => ?_, fun x x' b c c' s s' q1 q2 => hs.mem.inj _ _ _ _ _ _ _ (inv q1).2 (inv q2).2, fun x hx => ?_, fun b hb => ?_, hs.mem.gr.later (hs.mem.kept mono)⟩
  ·
   show (if x = r then none else g.M x) = none
   split
   ·
    rfl
   ·
    rename_i e; rw [upd_ne _ _ _ _ e] at hx; exact hs.mem.dead x hx
  ·
   by_cases e : x = r
   ·
    subst e; rw [upd_same] at hx; cases hx
   rw [upd_ne _ _ _ _ e] at hx
   obtain ⟨blk, c, h1, h2, h3, h4, h5⟩ := hs.mem.blk x bl hx
   refine ⟨blk, c, by show (if x = r then none else g.M x) = _; rw [if_neg e]; exact h1, h2, h3, h4, ?_⟩
   rcases h5 with h5 | ⟨b, cur, rfl, h6, h7, h8, h9⟩
   ·
    exact .inl h5
   ·
    refine .inr ⟨b, cur, rfl, h6, h7, fun hI => ?_, fun i row hi => ⟨(h9 i row hi).1, fun j d hd => ?_⟩⟩
    ·
     rcases hI with hI | ⟨c', s', hI⟩
     ·
      exact h8 hI
     ·
      exact e (hs.mem.inj _ _ _ _ _ _ _ h1 hI)
    ·
     obtain ⟨u, k3, k4, k5⟩ := (h9 i row hi).2 j d hd
     exact ⟨u, k3, k4, k5.later hs.mem mono⟩
  ·
   cases e : g'.M x with
   | none => exact absurd e hx
   | some y => exact hs.mem.used x (by rw [(inv e).2]; simp)
  ·
   rcases hb with hb | ⟨c, s, hb⟩
   ·
    exact hs.mem.imm b hb
   ·
    exact (Zn1 hs.mem hb).1
 have hst : St P B { n := s.n, t := upd s.t i (.list false rows), h := upd s.h r none, nx := s.nx, e := s.e } g' a w := by
  refine ⟨hs.sz, fun j => ?_, hm, hs.df.later hs.mem mono, Env.later hs.mem mono hs.en, hs.bd⟩
  by_cases e : j = i
  ·
   subst e
   simp only [upd_same]
   have hj := hs.tm j
   rw [hi] at hj
   let h1 : H := fun x => if x = r then s.h r else none
   have hsub : ∀ x, h1 x = s.h x ∨ h1 x = none := fun x => by
    by_cases e : x = r
    ·
     subst e; exact .inl (if_pos rfl)
    ·
     exact .inr (if_neg e)
   have hm1 := hs.mem.only hsub
   have e1 : h1 r = some ⟨ty, rows⟩ := by show (if r = r then s.h r else none) = _; rw [if_pos rfl]; exact hr
   have e2 : rowsOf (.mrow r 0 len) h1 = rows := by simp only [rowsOf, e1, List.drop_zero]; rw [← hl]; exact List.take_length
   have := Zlf hm1 (Zyc hj.only) ⟨by rw [e1]; rfl, by rw [e2]; exact hl⟩
   rw [e2] at this
   refine this.clean hn fun b hb => ?_
   rcases hb with hb | ⟨x, c, sz, hb⟩
   ·
    exact .inl hb
   ·
    have hb2 : (if (h1 x).isSome then g.M x else none) = some (some b, c, sz) := hb
    split at hb2
    ·
     rename_i hx
     have : x = r := by
      refine Classical.byContradiction fun e => ?_
      have : h1 x = none := if_neg e
      rw [this] at hx; cases hx
     subst this
     exact .inr ⟨c, sz, hb2⟩
    ·
     cases hb2
  ·
   simp only [upd_ne _ _ _ _ e]
   exact (hs.tm j).later hs.mem mono
 exact wpIn_mono (h B g' a w hst hU) fun e a' w' ⟨s', g'', q, r, m, u, v⟩ => ⟨s', g'', q, r, mono.toX.trans m, u, v⟩
def RCt (P : Program) [Glob P] (f : FuncId) (args : List D) (h : H) (n : Nat) (R : D → H → Nat → Prop) : Prop :=
 Zea P f = true ∧ ∀ (w : World) (g : Mem) (vs : List Value), HM P h g w → (∀ r, g.U r → r < n) → Reps w g args vs →
  CallsIn Fence.wide 0 P f vs.toArray w fun e w' => ∃ v g' res h' n', R res h' n' ∧ e = .returned v ∧ Rep w' g' res v ∧ HM P h' g' w' ∧ Mono g g' w w' ∧ ∀ r, g'.U r → r < n'
theorem RCt.mono [Glob P] {f : FuncId} {args : List D} {h : H} {n : Nat} {R R' : D → H → Nat → Prop} (k : RCt P f args h n R) (i : ∀ d h' n', R d h' n' → R' d h' n') : RCt P f args h n R' :=
 ⟨k.1, fun w g vs h1 h2 h3 => (k.2 w g vs h1 h2 h3).mono fun _ _ ⟨v, g', res, h', n', q, r⟩ => ⟨v, g', res, h', n', i _ _ _ q, r⟩⟩
theorem Zk0 [Glob P] {h : H} {g : Mem} {w : World} {n : Nat} (hm : HM P h g w) (hU : ∀ r, g.U r → r < n) : ∀ r, n ≤ r → h r = none := by
 intro r hr
 cases hq : h r with
 | none => rfl
 | some bl =>
  obtain ⟨blk, c', h1, _⟩ := hm.blk r bl hq
  have := hU r (hm.used r (by rw [h1]; simp))
  omega
theorem Zqa [Glob P] {f : FuncId} {fn : Func} {c : Code} {args : List D} {h : H} {n : Nat} {R : D → H → Nat → Prop} (hf : P.funcs[f]? = some fn) (hb : fn.body = some c) (hbd : Zea P f = true) (hn : args.length ≤ fn.ntmps)
  (hw : (∀ r, n ≤ r → h r = none) → DW P none c (fun e s => (e = .normal ∨ e = .ret) ∧ Zyz P s fn.results.toList ∧ ∃ h' n', (∀ r, h' r = s.h r ∨ h' r = none) ∧ s.nx ≤ n' ∧ R (resD P fn.results.toList s) h' n') { n := fn.ntmps, t := fun i => args.getD i .junk, h := h, nx := n }) : RCt P f args h n R := by
 refine ⟨hbd, fun w g vs hm hU hr => ?_⟩
 have hs := Zcw (P := P) (n := fn.ntmps) hr hn hm (nx := n)
 refine callsIn_of_wp_marks (n := 0) hf hb trivial (wpIn_mono (F := Fence.wide) (hw (Zk0 hm hU) (Bot.of w.heap.size) g _ w hs hU) ?_)
 rintro e a' w' ⟨s', g', ⟨he, ho, h', n', hh, hn', hR⟩, hs', hm', hU', _⟩
 have hm' := hm'.out
 have hlast : LeavesInM Fence.wide 0 P fn a'.tmps (fun e w' => ∃ v g' res h' n', R res h' n' ∧ e = .returned v ∧ Rep w' g' res v ∧ HM P h' g' w' ∧ Mono g g' w w' ∧ ∀ r, g'.U r → r < n') a'.defers .returning w' := by
  refine Zug (P := P) a'.defers w' hs'.df.marks fun w2 e0 e1 e2 e3 e4 e5 e6 e7 => ?_
  have hs2 := hs'.marks e4 e6 e7
  obtain ⟨v, h1, h2⟩ := Zwi (fn := fn) hs2 ho
  have mono2 : Mono g g' w w2 := by
   refine ⟨by rw [e1, hm'.os], by rw [e2, hm'.tape], by rw [e3, hm'.output], by rw [e4]; exact hm'.size, by rw [e0]; exact hm'.drawn, hm'.U, hm'.M, hm'.new, hm'.I, hm'.inew, fun k hk hne => ?_⟩
   rw [e5 k hk]; exact hm'.same k hk hne
  exact ⟨v, h1, v, g'.only h', _, h', n', hR, rfl, h2.only, hs2.mem.only hh, mono2.trans only_mono, fun r hr => Nat.lt_of_lt_of_le (hU' r hr) hn'⟩
 rcases he with rfl | rfl <;> exact hlast
theorem Zdh {α : Type} {a : Array α} {k : Nat} {o : α} (h : a.toList[k]? = some o) : a[k]? = some o := by rwa [Array.getElem?_toList] at h
theorem Zvb [Glob P] {B : Bot} {ops : Array Oper} {b : Nat} {n : Nat} {Q : Exit → Act → World → Prop} {w0 : World} {g0 : Mem} {rest : List Nat} : ∀ (k i : Nat) (s : S) (g : Mem) (a : Act) (w : World), St P B s g a w → Mono g0 g w0 w → (∀ r, g.U r → r < b + i) →
  i + k ≤ ops.size → (Zha P (words P) C ops.toList b i ((ops.toList.drop i).take k) s).ok →
  (∀ g' a' w', St P B (Zha P (words P) C ops.toList b i ((ops.toList.drop i).take k) s) g' a' w' → Mono g0 g' w0 w' → (∀ r, g'.U r → r < b + (i + k)) → wpOpsIn (Fw ro) n P ops Q rest a' w') →
  wpOpsIn (Fw ro) n P ops Q (List.range' i k ++ rest) a w := by
 intro k
 induction k with
 | zero =>
  intro i s g a w hs hm hU hk hok hQ
  exact hQ g a w hs hm hU
 | succ k ih =>
  intro i s g a w hs hm hU hk hok hQ
  have hlt : i < ops.size := by omega
  have hd : (ops.toList.drop i).take (k + 1) = ops[i] :: (ops.toList.drop (i + 1)).take k := by rw [List.drop_eq_getElem_cons (by simpa using hlt)]; simp
  rw [hd] at hok hQ
  simp only [Zha] at hok hQ
  rw [List.range'_succ, List.cons_append, wpOpsIn_cons]
  refine Zfe hs (b := b) (N := b + i) (fun h => by have := hU _ h; omega) hU (by simp [hlt]) (Zii hok) fun g' a' w' h1 h2 h3 => ?_
  refine ih (i + 1) _ g' a' w' h1 (hm.trans h2) (fun r hr => by rcases h3 r hr with h | h <;> first | omega | (have := hU r h; omega)) (by omega) hok fun g'' a'' w'' q1 q2 q3 => hQ g'' a'' w'' q1 q2 fun r hr => by have := q3 r hr; omega
theorem Reps.wk {w : World} {g : Mem} {ds : List D} {vs : List Value} (h : Reps w g ds vs) : Reps w g (ds.map wk) vs :=
 ⟨by simpa using h.1, fun i d x h1 h2 => by obtain ⟨y, h3, rfl⟩ := Zlc h1; exact (h.2 i y x h3 h2).wk⟩
theorem dw_call [Glob P] {s s1 : S} {id : Nat} {ops : Array Oper} (k : Nat) {o : Oper} {f : Operand} {args : Array Operand} {ts : Array TypeId} {fid : FuncId} {first caps xs : List D} (R : D → H → Nat → Prop)
  (ho : ops[k]? = some o) (hop : o.op = .call { callee := .value f, args := args, argTypes := ts }) (hg : o.guard = none)
  (he : Zha P (words P) C ops.toList s.nx 0 (ops.toList.take k) { n := s.n, t := s.t, h := s.h, nx := s.nx + k, ok := s.ok, e := s.e } = s1) (hok : s1.ok) (hd : Zhe s1.n o.dst = true)
  (hf : s1.ev f = .fn (.func fid) first caps) (hxg : (args.toList.map s1.ev).all sg = true) (hx : ((args.toList.map s1.ev).map sd).map wk = xs) (hct : RCt P fid (first ++ xs ++ caps) s1.h (s.nx + k) R)
  (hk : ∀ res h' n', R res h' n' → ∃ s2, Zha P (words P) C ops.toList n' (k + 1) (ops.toList.drop (k + 1)) { n := s1.n, t := s1.put o.dst res, h := h', nx := n' + ops.size, ok := True, e := s1.e } = s2 ∧ s2.ok ∧ Q .normal s2.clear) :
  DW P ro (.region id ops false) Q s := by
 intro B g a w hs hU
 have hlt : k < ops.size := (Array.getElem?_eq_some_iff.1 ho).1
 refine wpIn_region ?_
 have hr : List.range ops.size = List.range' 0 k ++ (k :: List.range' (k + 1) (ops.size - (k + 1))) := by
  rw [List.range_eq_range']
  have : ops.size = k + ((ops.size - (k + 1)) + 1) := by omega
  conv => lhs; rw [this]
  rw [← List.range'_append_1, List.range'_succ]
  simp
 rw [hr]
 have hs0 : St P B { n := s.n, t := s.t, h := s.h, nx := s.nx + k, ok := s.ok, e := s.e } g a w := ⟨hs.sz, hs.tm, hs.mem, hs.df, hs.en, hs.bd⟩
 have e0 : (ops.toList.drop 0).take k = ops.toList.take k := rfl
 refine Zvb (C := C) (b := s.nx) k 0 _ g a w hs0 (Mono.refl _ _) (fun r hr => by have := hU r hr; omega) (by omega) (by rw [e0, he]; exact hok) fun g1 a1 w1 hs1 hm1 hU1 => ?_
 rw [e0, he] at hs1
 rw [wpOpsIn_cons]
 unfold wpOpIn
 rw [ho]
 simp only
 have hw : Region.wanted o (yielded ops a1.tmps) = true := by simp [Region.wanted, hg]
 rw [if_pos hw]
 have hdef : ∀ c, o.op ≠ .defer c := by intro c e; rw [e] at hop; cases hop
 have hsem : o.semAt (Fw ro).round a1.eval = execOp a1.eval o := Oper.semAt_eq _ _ _ hdef
 refine ⟨fun _ _ => trivial, ?_⟩
 rw [hsem]
 obtain ⟨hbd, hct⟩ := hct
 have hfr := Zzg hs1 f
 rw [hf] at hfr
 have hxr := Reps.wk (Zyd (Zki hs1 args.toList) hxg)
 rw [hx] at hxr
 generalize hv : a1.eval f = vf at hfr
 cases hfr with | fn _ _ _ fs cs l1 l2 r1 r2 =>
 have hrun : (execOp a1.eval o).run P w1 = .ok (.enter fid (fs ++ args.map a1.eval ++ cs)) w1 := by
  simp [execOp, hop, resolve, Deferred.ofValue, hv, invoke, Zuc hbd]
 rw [hrun, Oper.uponIn_enter]
 have e : fs ++ args.map a1.eval ++ cs = (fs.toList ++ args.toList.map a1.eval ++ cs.toList).toArray := by apply Array.ext'; simp
 rw [e]
 refine ⟨fun h => by simp [Fw, Fence.wide] at h, Znf ((hct w1 g1 _ hs1.mem (fun r hr => by have := hU1 r hr; omega) (Reps.append (Reps.append ⟨by simpa using l1, fun i d x h1 h2 => r1 i d x h1 (by simpa using h2)⟩ hxr) ⟨by simpa using l2, fun i d x h1 h2 => r2 i d x h1 (by simpa using h2)⟩)).mono ?_)⟩
 rintro e w' ⟨v, g', res, h', n', hR, rfl, q1, q2, q3, q4⟩
 obtain ⟨s2, e2, ok2, hQ⟩ := hk res h' n' hR
 have hs2 := Zzk hs1 q3 q2 hd q1 True
 have hs3 : St P B { n := s1.n, t := s1.put o.dst res, h := h', nx := n' + ops.size, ok := True, e := s1.e } g' (a1.put o.dst v) w' := ⟨hs2.sz, hs2.tm, hs2.mem, hs2.df, hs2.en, hs2.bd⟩
 have hnx : ∀ (l : List Oper) (i : Nat) (u : S), (Zha P (words P) C ops.toList n' i l u).nx = u.nx := by
  intro l
  induction l with
  | nil => intro i u; rfl
  | cons x l ih => intro i u; simp only [Zha]; rw [ih, exec1_n.2]
 have hex : ∀ (l : List Oper) (i b : Nat) (u : S), (Zha P (words P) C ops.toList b i l u).e = u.e := by
  intro l
  induction l with
  | nil => intro i b u; rfl
  | cons x l ih =>
   intro i b u
   simp only [Zha]
   rw [ih]
   unfold Zhb
   split <;> rfl
 have e3 : (ops.toList.drop (k + 1)).take (ops.size - (k + 1)) = ops.toList.drop (k + 1) := List.take_of_length_le (by simp)
 have := Zvb (ro := ro) (P := P) (C := C) (B := B) (ops := ops) (b := n') (n := 0) (rest := []) (g0 := g) (w0 := w) (Q := fun e a' w' => ∃ s' g', Q e s' ∧ St P B s' g' a' w' ∧ MonoX s.e.x g g' w w' ∧ (∀ r, g'.U r → r < s'.nx) ∧ s'.e.x = s.e.x) (ops.size - (k + 1)) (k + 1) _ g' _ w' hs3 (hm1.trans q3) (fun r hr => by have := q4 r hr; omega) (by omega)
  (by rw [e3, e2]; exact ok2) fun g'' a'' w'' p1 p2 p3 => by
   rw [e3, e2] at p1
   refine ⟨_, g'', hQ, p1.clear, p2.toX, fun r hr => ?_, ?_⟩
   ·
    have h3 := p3 r hr
    have h4 := hnx (ops.toList.drop (k + 1)) (k + 1) { n := s1.n, t := s1.put o.dst res, h := h', nx := n' + ops.size, ok := True, e := s1.e }
    rw [e2] at h4
    show r < s2.nx
    rw [h4]
    show r < n' + ops.size
    omega
   ·
    have h5 := hex (ops.toList.drop (k + 1)) (k + 1) n' { n := s1.n, t := s1.put o.dst res, h := h', nx := n' + ops.size, ok := True, e := s1.e }
    rw [e2] at h5
    have h6 := hex (ops.toList.take k) 0 s.nx { n := s.n, t := s.t, h := s.h, nx := s.nx + k, ok := s.ok, e := s.e }
    rw [he] at h6
    show s2.e.x = s.e.x
    rw [h5]
    show s1.e.x = s.e.x
    rw [h6]
 rw [List.append_nil] at this
 exact this
end Go.DL
namespace Go.DL
open Go.RowKit
variable {P : Program} {C : Con} {Q : Exit → S → Prop}
def recAt (r : Loop) (j : Option Code) : Loop := { r with state := if j.isNone then .ready else .done, pending := j }
def Env.loop (l : Nat) (r : Loop) (t : Nat → D) : Env where
 p g w := w.heap[l]? = some (.loop r) ∧ ¬ g.I l ∧ ∀ i, Rep w g (t i) (r.tmps.getD i undef)
 x := some l
 st P _ h g g' w w' hm k := fun ⟨h1, h2, h3⟩ => ⟨Zqd hm k h1 (fun c e f => by simp), fun hI => by
   rcases k.inew l hI with e | e | ⟨r, c, s, e⟩
   ·
    exact h2 e
   ·
    have := (Array.getElem?_eq_some_iff.1 h1).1; omega
   ·
    exact Zzc hm h1 (fun c e f => by simp) (fun c e => by simp) r c s e, fun i => (h3 i).later hm k⟩
theorem HM.keptX [Glob P] {h : H} {g g' : Mem} {w w' : World} {l : Nat} (hm : HM P h g w) (k : MonoX (some l) g g' w w') (hl : ¬ g.I l) : ∀ b, g.I b → g'.I b ∧ w'.heap[b]? = w.heap[b]? := by
 refine fun b hb => ⟨k.I b hb, k.same b (hm.imm b hb) (fun r c s e => ?_) (fun e => hl (by cases e; exact hb))⟩
 cases hr : h r with
 | none => rw [hm.dead r hr] at e; cases e
 | some bl =>
  obtain ⟨blk, c', e1, _, _, _, h5⟩ := hm.blk r bl hr
  rw [e] at e1
  simp only [Option.some.injEq, Prod.mk.injEq] at e1
  rcases h5 with ⟨h6, _⟩ | ⟨b', cur, h6, _, _, h7, _⟩
  ·
   rw [← e1.1] at h6; cases h6
  ·
   rw [← e1.1] at h6; cases h6; exact h7 hb
theorem Zwf [Glob P] {h : H} {g g' : Mem} {w w' : World} {l : Nat} (hm : HM P h g w) (k : MonoX (some l) g g' w w') {D : Nat} {o : Obj} (hD : w.heap[D]? = some o) (ho : ∀ c e f, o ≠ .cells c e f) (hl : l ≠ D) (ho2 : ∀ c e, o ≠ .map c e := by intro c e; simp) : w'.heap[D]? = some o := by
 rw [k.same D (Array.getElem?_eq_some_iff.1 hD).1 (Zzc hm hD ho ho2) (fun e => hl (by cases e; rfl))]; exact hD
theorem Marks.laterX [Glob P] {h : H} {g g' : Mem} {w w' : World} {l : Nat} (hm : HM P h g w) (k : MonoX (some l) g g' w w') {r : Loop} (hl : w.heap[l]? = some (.loop r)) {B : Nat} : ∀ {ds : List Deferred}, Marks B g ds w → Marks B g' ds w'
 | [], _ => trivial
 | d :: ds, ⟨⟨D, h1, h2, h3, h4, h5⟩, h6⟩ => ⟨⟨D, h1, Zwf hm k h2 (fun c e f => by simp) (fun e => by subst e; rw [hl] at h2; cases h2), h3, h4, fun hI => by
   rcases k.inew D hI with e | e | ⟨r, c, s, e⟩
   ·
    exact h5 e
   ·
    have := (Array.getElem?_eq_some_iff.1 h2).1; omega
   ·
    exact Zzc hm h2 (fun c e f => by simp) (fun c e => by simp) r c s e⟩, h6.laterX hm k hl⟩
theorem Dfs.laterX [Glob P] {h : H} {g g' : Mem} {w w' : World} {l : Nat} (hm : HM P h g w) (k : MonoX (some l) g g' w w') {r : Loop} (hl : w.heap[l]? = some (.loop r)) {B : Bot} {ds : List Deferred} (hd : Dfs B g ds w) : Dfs B g' ds w' := hd.map fun _ h => h.laterX hm k hl
theorem Zfn {g : Mem} {w : World} {l : Nat} (o : Obj) : MonoX (some l) g g w (w.putObj l o) :=
 ⟨rfl, rfl, rfl, by simp, Nat.le_refl _, fun _ h => h, fun _ _ => .inl rfl, fun r _ c s h => .inl ⟨r, c, s, h⟩, fun _ h => h, fun _ h => .inl h, fun _ _ _ hx => World.putObj_heap_other (fun e => hx (by rw [e]))⟩
theorem HM.putLoop [Glob P] {h : H} {g : Mem} {w : World} {l : Nat} {r : Loop} (hm : HM P h g w) (hl : w.heap[l]? = some (.loop r)) (hI : ¬ g.I l) (o : Obj) : HM P h g (w.putObj l o) :=
 hm.marks (by simp) (fun k hk => World.putObj_heap_other (fun e => hI (e ▸ hk))) fun k o hk ho => World.putObj_heap_other (fun e' => by subst e'; rw [hl] at hk; cases hk; exact ho)
def Zps (t : Nat → D) (ps : List Nat) (ds : List D) : Nat → D := (ps.zip ds).foldl (fun t p => upd t p.1 p.2) t
@[go_sem] theorem Zos {t : Nat → D} {ds : List D} : Zps t [] ds = t := rfl
@[go_sem] theorem Zso {t : Nat → D} {p : Nat} {ps : List Nat} {d : D} {ds : List D} : Zps t (p :: ps) (d :: ds) = Zps (upd t p d) ps ds := rfl
theorem Zns {w : World} {g : Mem} : ∀ (ps : List Nat) (ds : List D) (vs : List Value) (t : Nat → D) (tmps : Array Value), Reps w g ds vs → (∀ p ∈ ps, p < tmps.size) → (∀ i, Rep w g (t i) (tmps.getD i undef)) →
  ((ps.zip vs).foldl (fun tmps (p : Nat × Value) => tmps.setIfInBounds p.1 p.2) tmps).size = tmps.size ∧ ∀ i, Rep w g (Zps t ps ds i) (((ps.zip vs).foldl (fun tmps (p : Nat × Value) => tmps.setIfInBounds p.1 p.2) tmps).getD i undef)
 | [], _, _, _, _, _, _, h => ⟨rfl, h⟩
 | p :: ps, ds, vs, t, tmps, hr, hp, h => by
  cases ds with
  | nil => rw [hr.of_nil]; exact ⟨rfl, h⟩
  | cons d ds =>
   obtain ⟨x, xs, rfl, h1, h2⟩ := hr.of_cons
   have := Zns ps ds xs (upd t p d) (tmps.setIfInBounds p x) h2 (fun q hq => by simpa using hp q (by simp [hq])) (fun i => by
    by_cases e : i = p
    ·
     subst e
     have hlt := hp i (by simp)
     rw [upd_same]
     simpa [hlt] using h1
    ·
     rw [upd_ne _ _ _ _ e]
     have : (tmps.setIfInBounds p x).getD i undef = tmps.getD i undef := by simp [Ne.symm e]
     rw [this]; exact h i)
   refine ⟨by simpa using this.1, this.2⟩
theorem Zoy [Glob P] {s s1 : S} {id : Nat} {ops : Array Oper} (k : Nat) {o : Oper} {f : Operand} {args : Array Operand} {ts : Array TypeId} {l : Nat} {r : Loop} {t : Nat → D} {xs : List D}
  (ho : ops[k]? = some o) (hop : o.op = .call { callee := .value f, args := args, argTypes := ts }) (hg : o.guard = none) (hse : s.e = Env.loop l (recAt r none) t)
  (he : Zha P (words P) C ops.toList s.nx 0 (ops.toList.take k) { n := s.n, t := s.t, h := s.h, nx := s.nx + k, ok := s.ok, e := s.e } = s1) (hok : s1.ok) (hd : Zhe s1.n o.dst = true)
  (hf : s1.ev f = .fn (.yield l) [] []) (hxg : (args.toList.map s1.ev).all sg = true) (hx : (args.toList.map s1.ev).map sd = xs) (hps : xs.length = r.params.size) (hpn : ∀ p ∈ r.params.toList, p < r.tmps.size)
  (hbody : DW P (some l) r.assign (thenS (fun s2 => s2.e = Env.tt ∧ DW P (some l) r.body (fun e s' => s'.e = Env.tt ∧ ∃ b j, (match e with | .normal => b = true ∧ j = none | .ret => b = false ∧ j = some .ret | .exit i => b = false ∧ j = some (.exit i) | _ => False) ∧
    ∃ s2, Zha P (words P) C ops.toList s'.nx (k + 1) (ops.toList.drop (k + 1)) { n := s1.n, t := s1.put o.dst (.v (.bool b)), h := s'.h, nx := s'.nx + ops.size, ok := True, e := Env.loop l (recAt r j) t } = s2 ∧ s2.ok ∧ Q .normal s2.clear) s2) (fun _ _ => False))
   { n := r.tmps.size, t := Zps t r.params.toList xs, h := s1.h, nx := s.nx + k }) :
  DW P none (.region id ops false) Q s := by
 intro B g a w hs hU
 have hlt : k < ops.size := (Array.getElem?_eq_some_iff.1 ho).1
 have hex : ∀ (l : List Oper) (i b : Nat) (u : S), (Zha P (words P) C ops.toList b i l u).e = u.e := by
  intro l
  induction l with
  | nil => intro i b u; rfl
  | cons x l ih =>
   intro i b u
   simp only [Zha]
   rw [ih]
   unfold Zhb
   split <;> rfl
 have hnxx : ∀ (l : List Oper) (i b : Nat) (u : S), (Zha P (words P) C ops.toList b i l u).nx = u.nx := by
  intro l
  induction l with
  | nil => intro i b u; rfl
  | cons x l ih => intro i b u; simp only [Zha]; rw [ih, exec1_n.2]
 refine wpIn_region ?_
 have hr : List.range ops.size = List.range' 0 k ++ (k :: List.range' (k + 1) (ops.size - (k + 1))) := by
  rw [List.range_eq_range']
  have : ops.size = k + ((ops.size - (k + 1)) + 1) := by omega
  conv => lhs; rw [this]
  rw [← List.range'_append_1, List.range'_succ]
  simp
 rw [hr]
 have hs0 : St P B { n := s.n, t := s.t, h := s.h, nx := s.nx + k, ok := s.ok, e := s.e } g a w := ⟨hs.sz, hs.tm, hs.mem, hs.df, hs.en, hs.bd⟩
 have e0 : (ops.toList.drop 0).take k = ops.toList.take k := rfl
 refine Zvb (C := C) (b := s.nx) k 0 _ g a w hs0 (Mono.refl _ _) (fun r hr => by have := hU r hr; omega) (by omega) (by rw [e0, he]; exact hok) fun g1 a1 w1 hs1 hm1 hU1 => ?_
 rw [e0, he] at hs1
 have hs1e : s1.e = Env.loop l (recAt r none) t := by
  have h6 := hex (ops.toList.take k) 0 s.nx { n := s.n, t := s.t, h := s.h, nx := s.nx + k, ok := s.ok, e := s.e }
  rw [he] at h6
  rw [h6]; exact hse
 obtain ⟨hl1, hI1, ht1⟩ : (Env.loop l (recAt r none) t).p g1 w1 := by rw [← hs1e]; exact hs1.en
 rw [wpOpsIn_cons]
 unfold wpOpIn
 rw [ho]
 simp only
 have hw : Region.wanted o (yielded ops a1.tmps) = true := by simp [Region.wanted, hg]
 rw [if_pos hw]
 have hdef : ∀ c, o.op ≠ .defer c := by intro c e; rw [e] at hop; cases hop
 have hsem : o.semAt (Fw none).round a1.eval = execOp a1.eval o := Oper.semAt_eq _ _ _ hdef
 refine ⟨fun _ _ => trivial, ?_⟩
 rw [hsem]
 have hfr := Zzg hs1 f
 rw [hf] at hfr
 have hxr := Zyd (Zki hs1 args.toList) hxg
 rw [hx] at hxr
 generalize hv : a1.eval f = vf at hfr
 cases hfr with | fn _ _ _ fs cs l1 l2 r1 r2 =>
 have hfs : fs = #[] := by apply Array.eq_empty_of_size_eq_zero; simpa using l1.symm
 have hcs : cs = #[] := by apply Array.eq_empty_of_size_eq_zero; simpa using l2.symm
 subst hfs; subst hcs
 have hsz : (args.map a1.eval).size = (recAt r none).params.size := by
  have h1 := hxr.1
  show (args.map a1.eval).size = r.params.size
  rw [← hps, h1]; simp
 have hrun : (execOp a1.eval o).run P w1 = .ok (.round l r.fn ((r.params.zip (args.map a1.eval)).foldl (fun tmps (t, a) => tmps.setIfInBounds t a) r.tmps) r.assign r.body) w1 := by
  have := run_yield (P := P) (w := w1) (l := l) (r := recAt r none) (args := args.map a1.eval) hl1 hsz
  have e1 : (execOp a1.eval o).run P w1 = (Instr.yield l (args.map a1.eval)).run P w1 := by simp [execOp, hop, resolve, Deferred.ofValue, hv, invoke]
  rw [e1]; exact this
 rw [hrun, Oper.uponIn_round]
 refine ⟨fun h => by simp [Fw, Fence.wide] at h, ?_⟩
 obtain ⟨hz1, hz2⟩ := Zns r.params.toList xs _ t r.tmps hxr hpn ht1
 have hzip : (r.params.zip (args.map a1.eval)).foldl (fun tmps (t, a) => tmps.setIfInBounds t a) r.tmps = (r.params.toList.zip (args.toList.map a1.eval)).foldl (fun tmps (p : Nat × Value) => tmps.setIfInBounds p.1 p.2) r.tmps := by
  rw [← Array.foldl_toList]; simp
 rw [hzip]
 generalize (r.params.toList.zip (args.toList.map a1.eval)).foldl (fun tmps (p : Nat × Value) => tmps.setIfInBounds p.1 p.2) r.tmps = tm at hz1 hz2
 have hsb : St P (Bot.of 0) { n := r.tmps.size, t := Zps t r.params.toList xs, h := s1.h, nx := s.nx + k } g1 { tmps := tm, defers := [] } w1 := ⟨hz1, hz2, hs1.mem, Dfs.start, trivial, Nat.zero_le _⟩
 refine roundIn_of_wpIn trivial (wpIn_mono (hbody (Bot.of 0) g1 _ w1 hsb (fun r hr => by have := hU1 r hr; show r < s.nx + k; omega)) ?_)
 rintro e a2 w2 ⟨s2, g2, hq, hs2, hm2, hU2, hx2⟩
 cases e with
 | normal =>
  have hm2' : Mono g1 g2 w1 w2 := hm2.out
  have hl2 := Zqd hs1.mem hm2' hl1 (fun c e f => by simp)
  have hI2 : ¬ g2.I l := fun hI => by
   rcases hm2'.inew l hI with e | e | ⟨r, c, s, e⟩
   ·
    exact hI1 e
   ·
    have := (Array.getElem?_eq_some_iff.1 hl1).1; omega
   ·
    exact Zzc hs1.mem hl1 (fun c e f => by simp) (fun c e => by simp) r c s e
  refine ⟨_, run_beginRound hl2 rfl, ?_⟩
  have hlt2 : l < w2.heap.size := (Array.getElem?_eq_some_iff.1 hl2).1
  obtain ⟨he2, hbd⟩ := hq
  have hb2 : St P (Bot.of 0) s2 g2 a2 (w2.putObj l (.loop { recAt r none with state := .busy })) := by
   refine ⟨hs2.sz, fun i => (hs2.tm i).mono (fun b hb => ⟨hb, World.putObj_heap_other (fun e => hI2 (by rw [← e]; exact hb))⟩) (fun _ h => h) (fun _ _ => .inl rfl), hs2.mem.putLoop hl2 hI2 _, hs2.df.laterX hs2.mem (Zfn _) hl2, ?_, Nat.zero_le _⟩
   rw [he2]; trivial
  refine wpIn_mono (hbd (Bot.of 0) g2 a2 _ hb2 hU2) ?_
  rintro e a3 w3 ⟨s3, g3, ⟨_, b, j, hcase, s4, e4, ok4, hQ⟩, hs3, hm3, hU3, _⟩
  rw [he2] at hm3
  have hm3' := hm3.out
  have hl2' : (w2.putObj l (.loop { recAt r none with state := .busy })).heap[l]? = some (.loop { recAt r none with state := .busy }) := World.putObj_heap_same hlt2
  have hl3 := Zqd hb2.mem hm3' hl2' (fun c e f => by simp)
  have hI3 : ¬ g3.I l := fun hI => by
   rcases hm3'.inew l hI with e | e | ⟨r, c, s, e⟩
   ·
    exact hI2 e
   ·
    simp at e; omega
   ·
    exact Zzc hb2.mem hl2' (fun c e f => by simp) (fun c e => by simp) r c s e
  have hlt3 : l < w3.heap.size := (Array.getElem?_eq_some_iff.1 hl3).1
  have fin : b = j.isNone → ∃ v w', (Instr.endRound l j).run P w3 = .ok v w' ∧ (fun e w'' => match e with
    | Ending.returned v => wpOpsIn (Fw none) 0 P ops (fun e a' w' => ∃ s' g', Q e s' ∧ St P B s' g' a' w' ∧ MonoX s.e.x g g' w w' ∧ (∀ r, g'.U r → r < s'.nx) ∧ s'.e.x = s.e.x) (List.range' (k + 1) (ops.size - (k + 1))) (a1.put o.dst v) w''
    | Ending.panicked chain => ∃ s' g', Q (.panic chain) s' ∧ St P B s' g' a1 w'' ∧ MonoX s.e.x g g' w w'' ∧ (∀ r, g'.U r → r < s'.nx) ∧ s'.e.x = s.e.x
    | Ending.outgrown => LetsOut (fun e a' w' => ∃ s' g', Q e s' ∧ St P B s' g' a' w' ∧ MonoX s.e.x g g' w w' ∧ (∀ r, g'.U r → r < s'.nx) ∧ s'.e.x = s.e.x)) (.returned v) w' := by
   rintro rfl
   refine ⟨_, _, run_endRound j hl3, ?_⟩
   have mX : MonoX (some l) g1 g3 w1 (w3.putObj l (.loop (recAt r j))) := hm2'.toX.trans ((Zfn _).trans (hm3'.toX.trans (Zfn _)))
   have kept := hs1.mem.keptX mX hI1
   have hbase : St P B { n := s1.n, t := s1.t, h := s3.h, nx := s3.nx + ops.size, ok := True, e := Env.loop l (recAt r j) t } g3 a1 (w3.putObj l (.loop (recAt r j))) :=
    ⟨hs1.sz, fun i => (hs1.tm i).mono kept mX.U mX.M, hs3.mem.putLoop hl3 hI3 _, hs1.df.laterX hs1.mem mX hl1, ⟨World.putObj_heap_same hlt3, hI3, fun i => (ht1 i).mono kept mX.U mX.M⟩, Nat.le_trans hs1.bd mX.size⟩
   have hput := Zzk hbase (Mono.refl _ _) hbase.mem hd (.v (.bool j.isNone)) True
   have e3 : (ops.toList.drop (k + 1)).take (ops.size - (k + 1)) = ops.toList.drop (k + 1) := List.take_of_length_le (by simp)
   have := Zvb (ro := none) (P := P) (C := C) (B := B) (ops := ops) (b := s3.nx) (n := 0) (rest := []) (g0 := g3) (w0 := w3.putObj l (.loop (recAt r j))) (Q := fun e a' w' => ∃ s' g', Q e s' ∧ St P B s' g' a' w' ∧ MonoX s.e.x g g' w w' ∧ (∀ r, g'.U r → r < s'.nx) ∧ s'.e.x = s.e.x) (ops.size - (k + 1)) (k + 1) _ g3 _ _ hput (Mono.refl _ _) (fun r hr => by have := hU3 r hr; omega) (by omega)
    (by rw [e3]; exact e4 ▸ ok4) fun g'' a'' w'' p1 p2 p3 => by
     rw [e3] at p1
     have p1 : St P B s4 g'' a'' w'' := e4 ▸ p1
     have hx : s.e.x = some l := by rw [hse]; rfl
     refine ⟨_, g'', hQ, p1.clear, ?_, fun r' hr' => ?_, ?_⟩
     ·
      rw [hx]; exact hm1.toX.trans (mX.trans p2.toX)
     ·
      have h3 := p3 r' hr'
      have h4 := hnxx (ops.toList.drop (k + 1)) (k + 1) s3.nx { n := s1.n, t := s1.put o.dst (.v (.bool j.isNone)), h := s3.h, nx := s3.nx + ops.size, ok := True, e := Env.loop l (recAt r j) t }
      rw [e4] at h4
      show r' < s4.nx
      rw [h4]
      show r' < s3.nx + ops.size
      omega
     ·
      have h5 := hex (ops.toList.drop (k + 1)) (k + 1) s3.nx { n := s1.n, t := s1.put o.dst (.v (.bool j.isNone)), h := s3.h, nx := s3.nx + ops.size, ok := True, e := Env.loop l (recAt r j) t }
      rw [e4] at h5
      show s4.e.x = s.e.x
      rw [h5, hx]; rfl
   rw [List.append_nil] at this
   exact this
  cases e with
  | normal => obtain ⟨rfl, rfl⟩ := hcase; exact fin rfl
  | ret => obtain ⟨rfl, rfl⟩ := hcase; exact fin rfl
  | exit i => obtain ⟨rfl, rfl⟩ := hcase; exact fin rfl
  | _ => exact hcase.elim
 | _ => exact hq.elim
theorem HM.lay [Glob P] {h : H} {g : Mem} {w : World} (hm : HM P h g w) (o : Obj) : HM P h g (w.alloc o) ∧ Mono g g w (w.alloc o) := by
 have mono : Mono g g w (w.alloc o) :=
  ⟨rfl, rfl, rfl, by simp, Nat.le_refl _, fun _ h => h, fun _ _ => .inl rfl, fun r b c s h => .inl ⟨r, c, s, h⟩, fun _ h => h, fun b h => .inl h, fun b hb _ => Below.heap_alloc w o b hb⟩
 refine ⟨⟨hm.dead, fun r bl hr => ?_, hm.inj, hm.used, fun b hb => Nat.lt_of_lt_of_le (hm.imm b hb) (by simp), hm.gr.later (hm.kept mono)⟩, mono⟩
 obtain ⟨blk, c, h1, h2, h3, h4, h5⟩ := hm.blk r bl hr
 refine ⟨blk, c, h1, h2, h3, h4, ?_⟩
 rcases h5 with h5 | ⟨b, cur, rfl, h6, h7, h8, h9⟩
 ·
  exact .inl h5
 ·
  have hlt := (Zn1 hm h1).1
  refine .inr ⟨b, cur, rfl, by rw [Below.heap_alloc w o b hlt]; exact h6, h7, h8, fun i row hi => ⟨(h9 i row hi).1, fun j d hd => ?_⟩⟩
  obtain ⟨u, k3, k4, k5⟩ := (h9 i row hi).2 j d hd
  exact ⟨u, k3, k4, k5.later hm mono⟩
theorem Zil [Glob P] {s : S} {gf : Operand} {ps : Array Tmp} {assign body : Code} {f : FuncId} {fn : Func} {c : Code} {first caps : List D} (he : s.e = Env.tt) (hev : s.ev gf = .fn (.func f) first caps) (hf : P.funcs[f]? = some fn) (hb : fn.body = some c) (hbd : Zea P f = true)
  (hn : (first ++ [D.fn (.yield 0) [] []] ++ caps).length ≤ fn.ntmps) (hres : fn.results = #[])
  (walk : ∀ l r, r.params = ps → r.assign = assign → r.body = body → r.tmps.size = s.n → DW P none c (fun e s' => (e = .normal ∨ e = .ret) ∧ ∃ j, s'.e = Env.loop l (recAt r j) s.t ∧
    (match j with | none => Q .normal { n := s.n, t := s.t, h := s'.h, nx := s'.nx } | some .ret => Q .ret { n := s.n, t := s.t, h := s'.h, nx := s'.nx } | some (.exit i) => Q (.exit i) { n := s.n, t := s.t, h := s'.h, nx := s'.nx } | _ => False))
   { n := fn.ntmps, t := fun i => (first ++ [D.fn (.yield l) [] []] ++ caps).getD i .junk, h := s.h, nx := s.nx, e := Env.loop l (recAt r none) s.t }) : DW P none (.rangeFunc gf ps assign body) Q s := by
 intro B g a w hs hU
 refine wpIn_rangeFunc fun fn' _ => ?_
 let Dk := w.heap.size
 let l := w.heap.size + 1
 let r : Loop := { state := .ready, pending := none, fn := fn', tmps := a.tmps, params := ps, assign := assign, body := body, defers := w.heap.size }
 let w1 := (w.alloc (.deferred (some []))).alloc (.loop r)
 have hfr := Zzg hs gf
 rw [hev] at hfr
 generalize hv : a.eval gf = vf at hfr
 cases hfr with | fn _ _ _ fs cs l1 l2 r1 r2 =>
 obtain ⟨q1, q2⟩ := hs.mem.lay (.deferred (some []))
 obtain ⟨q3, q4⟩ := q1.lay (.loop r)
 have mono1 : Mono g g w w1 := q2.trans q4
 have hl1 : w1.heap[l]? = some (.loop r) := by
  have := World.alloc_heap_new (w.alloc (.deferred (some []))) (.loop r)
  simpa [l, w1] using this
 have hD1 : w1.heap[Dk]? = some (.deferred (some [])) := by
  have h1 := World.alloc_heap_new w (.deferred (some []))
  have h2 := Below.heap_alloc (w.alloc (.deferred (some []))) (.loop r) Dk (by simp [Dk])
  exact h2.trans h1
 have hsz1 : w1.heap.size = w.heap.size + 2 := by simp [w1]
 have hIl : ¬ g.I l := fun h => by have := hs.mem.imm l h; simp [l] at this; omega
 have hID : ¬ g.I Dk := fun h => by have := hs.mem.imm Dk h; simp [Dk] at this
 refine ⟨l, _, w1, ⟨.fn (.func f) cs, fs ++ #[.func (.yield l) #[] #[]]⟩, w1, f, fs ++ #[.func (.yield l) #[] #[]] ++ cs, w1, run_enterLoop_outer _ _ _ _ _, ?_, fun _ _ => trivial, ?_, fun h => by simp [Fw, Fence.wide] at h, ?_⟩
 ·
  have : a.eval (.const (Value.func (.yield l) #[] #[])) = Value.func (.yield l) #[] #[] := rfl
  simp [resolve, Deferred.ofValue, hv, this]
 ·
  simp [invoke, Zuc hbd]
 have hargs : Reps w1 g (first ++ [D.fn (.yield l) [] []] ++ caps) (fs.toList ++ [Value.func (.yield l) #[] #[]] ++ cs.toList) := by
  refine Reps.append (Reps.append ⟨by simpa using l1, fun i d x h1 h2 => (r1 i d x h1 (by simpa using h2)).later hs.mem mono1⟩ (.cons (x := Value.func (.yield l) #[] #[]) (.fn (.yield l) [] [] #[] #[] rfl rfl (fun _ _ _ h => by simp at h) (fun _ _ _ h => by simp at h)) .nil)) ⟨by simpa using l2, fun i d x h1 h2 => (r2 i d x h1 (by simpa using h2)).later hs.mem mono1⟩
 have e : fs ++ #[.func (.yield l) #[] #[]] ++ cs = (fs.toList ++ [Value.func (.yield l) #[] #[]] ++ cs.toList).toArray := by apply Array.ext'; simp
 rw [e]
 have hn' : (first ++ [D.fn (.yield l) [] []] ++ caps).length ≤ fn.ntmps := by simpa using hn
 have hinit := Zcw (P := P) (n := fn.ntmps) hargs hn' q3 (nx := s.nx)
 have hst : St P (Bot.of w1.heap.size) { n := fn.ntmps, t := fun i => (first ++ [D.fn (.yield l) [] []] ++ caps).getD i .junk, h := s.h, nx := s.nx, e := Env.loop l (recAt r none) s.t } g _ w1 :=
  ⟨hinit.sz, hinit.tm, hinit.mem, hinit.df, ⟨hl1, hIl, fun i => (hs.tm i).later hs.mem mono1⟩, hinit.bd⟩
 refine Znf (callsIn_of_wp_marks (n := 0) hf hb trivial (wpIn_mono (F := Fence.wide) (walk l r rfl rfl rfl hs.sz (Bot.of w1.heap.size) g _ w1 hst hU) ?_))
 rintro e a' w' ⟨s', g', ⟨hne, j, hse, hq⟩, hs', hm', hU', _⟩
 have hm' : MonoX (some l) g g' w1 w' := hm'
 obtain ⟨hl', hIl', _⟩ : (Env.loop l (recAt r j) s.t).p g' w' := by rw [← hse]; exact hs'.en
 have hlast : LeavesInM Fence.wide 0 P fn a'.tmps (rangePost (Fw none) 0 P l (fun e a' w' => ∃ s' g', Q e s' ∧ St P B s' g' a' w' ∧ MonoX s.e.x g g' w w' ∧ (∀ r, g'.U r → r < s'.nx) ∧ s'.e.x = s.e.x) { a with defers := [{ target := .collected w.heap.size, args := #[] }] ++ a.defers }) a'.defers .returning w' := by
  refine Zug (P := P) a'.defers w' hs'.df.marks fun w2 e0 e1 e2 e3 e4 e5 e6 e7 => ?_
  refine ⟨.tuple #[], by simp [results, hres], ?_⟩
  have hll : l < w1.heap.size := by rw [hsz1]; simp [l]
  have hl2 : w2.heap[l]? = some (.loop (recAt r j)) := by rw [e5 l hll]; exact hl'
  have hl2lt : l < w2.heap.size := (Array.getElem?_eq_some_iff.1 hl2).1
  refine ⟨_, _, run_endLoop hl2 (by cases j <;> simp [recAt]), ?_⟩
  have same4 : ∀ b, b ≠ l → b < w1.heap.size → (w2.putObj l (.loop { recAt r j with state := .exhausted })).heap[b]? = w'.heap[b]? := fun b h1 h2 => by
   rw [World.putObj_heap_other h1, e5 b h2]
  have kept : ∀ b, g.I b → g'.I b ∧ (w2.putObj l (.loop { recAt r j with state := .exhausted })).heap[b]? = w.heap[b]? := fun b hb => by
   obtain ⟨k1, k2⟩ := q3.keptX hm' hIl b hb
   refine ⟨k1, ?_⟩
   rw [same4 b (fun e => hIl (e ▸ hb)) (q3.imm b hb), k2]
   exact (hs.mem.kept mono1 b hb).2
  have hIDk' : ¬ g'.I Dk := fun hI => by
   rcases hm'.inew Dk hI with e | e | ⟨r, c, s, e⟩
   ·
    exact hID e
   ·
    rw [hsz1] at e; simp [Dk] at e; omega
   ·
    exact Zzc q3 hD1 (fun c e f => by simp) (fun c e => by simp) r c s e
  have marks : ∀ ds : List Deferred, Marks B.n g ds w → (∀ d ∈ ds, d.target ≠ .collected Dk) ∧ Marks B.n g' ds (w2.putObj l (.loop { recAt r j with state := .exhausted })) := by
   intro ds
   induction ds with
   | nil => intro _; exact ⟨fun _ h => by simp at h, trivial⟩
   | cons d ds ih =>
    rintro ⟨⟨Dd, h1, h2, h3, h4, h5⟩, h6⟩
    obtain ⟨i1, i2⟩ := ih h6
    have hlt : Dd < w.heap.size := (Array.getElem?_eq_some_iff.1 h2).1
    have hne : Dd ≠ l := by simp [l]; omega
    have h21 : w1.heap[Dd]? = some (.deferred (some [])) := Zqd hs.mem mono1 h2 (fun c e f => by simp)
    refine ⟨fun d' hd' => ?_, ⟨Dd, h1, ?_, h3, h4, fun hI => ?_⟩, i2⟩
    ·
     rcases List.mem_cons.1 hd' with rfl | h
     ·
      rw [h1]; intro e; cases e; simp [Dk] at hlt
     ·
      exact i1 d' h
    ·
     rw [same4 Dd hne (by rw [hsz1]; omega)]
     exact Zwf q3 hm' h21 (fun c e f => by simp) (Ne.symm hne)
    ·
     rcases hm'.inew Dd hI with e | e | ⟨r, c, s, e⟩
     ·
      exact h5 e
     ·
      rw [hsz1] at e; omega
     ·
      exact Zzc q3 h21 (fun c e f => by simp) (fun c e => by simp) r c s e
  obtain ⟨ms, hms, hmk⟩ := hs.df
  obtain ⟨mk1, mk2⟩ := marks ms hmk
  have fin : St P B { n := s.n, t := s.t, h := s'.h, nx := s'.nx } g' { a with defers := [{ target := .collected w.heap.size, args := #[] }] ++ a.defers } (w2.putObj l (.loop { recAt r j with state := .exhausted })) := by
   refine ⟨hs.sz, fun i => (hs.tm i).mono kept hm'.U hm'.M, (hs'.mem.marks e4 e6 e7).putLoop hl2 hIl' _, ⟨{ target := .collected w.heap.size, args := #[] } :: ms, by rw [hms]; rfl, ⟨Dk, rfl, ?_, mk1, hs.bd, hIDk'⟩, mk2⟩, trivial, ?_⟩
   ·
    rw [same4 Dk (by simp [Dk, l]) (by rw [hsz1]; simp [Dk])]
    exact Zwf q3 hm' hD1 (fun c e f => by simp) (by simp [Dk, l])
   ·
    simp only [World.putObj_size]
    rw [e4]
    exact Nat.le_trans hs.bd (Nat.le_trans mono1.size hm'.size)
  have mono4 : MonoX s.e.x g g' w (w2.putObj l (.loop { recAt r j with state := .exhausted })) := by
   refine ⟨by show w2.os = _; rw [e1, hm'.os, mono1.os], by show w2.tape = _; rw [e2, hm'.tape, mono1.tape], by show w2.output = _; rw [e3, hm'.output, mono1.output], by simp only [World.putObj_size]; rw [e4]; exact Nat.le_trans mono1.size hm'.size, by show w.drawn ≤ w2.drawn; rw [e0]; exact Nat.le_trans mono1.drawn hm'.drawn, hm'.U, hm'.M, fun r b c s h => ?_, hm'.I, fun b h => ?_, fun b h1 h2 _ => ?_⟩
   ·
    rcases hm'.new r b c s h with h | h
    ·
     exact .inl h
    ·
     exact .inr (Nat.le_trans mono1.size h)
   ·
    rcases hm'.inew b h with h | h | h
    ·
     exact .inl h
    ·
     exact .inr (.inl (Nat.le_trans mono1.size h))
    ·
     exact .inr (.inr h)
   ·
    have hne : b ≠ l := by simp [l]; omega
    rw [same4 b hne (by rw [hsz1]; omega), hm'.same b (by rw [hsz1]; omega) h2 (fun e => hne (by cases e; rfl))]
    exact mono1.same b h1 h2
  have hx : ({ n := s.n, t := s.t, h := s'.h, nx := s'.nx } : S).e.x = s.e.x := by rw [he]
  match j, hq with
  | none, hq => exact ⟨_, g', hq, fin, mono4, hU', hx⟩
  | some .ret, hq => exact wpIn_ret ⟨_, g', hq, fin, mono4, hU', hx⟩
  | some (.exit i), hq => exact wpIn_exit ⟨_, g', hq, fin, mono4, hU', hx⟩
 rcases hne with rfl | rfl <;> exact hlast
end Go.DL
namespace Go.Str
open Go.DL
abbrev Str := List UInt8
def bs (l : Str) : ByteArray := ⟨l.toArray⟩
@[go_sem] theorem bs_mk (l : Str) : (ByteArray.mk l.toArray) = bs l := rfl
@[go_sem] theorem Zzn (l : Str) : (bs l).data.toList = l := by simp [bs]
@[go_sem] theorem bs_size (l : Str) : (bs l).size = l.length := by simp [bs, ByteArray.size]
theorem Zc5 {a b : ByteArray} (h : a.data.toList = b.data.toList) : a = b := by
 cases a; cases b; congr 1; exact Array.ext' h
@[go_sem] theorem bs_extract (l : Str) (i j : Nat) : (bs l).extract i j = bs ((l.take j).drop i) := by
 apply Zc5
 rw [ByteArray.data_extract]
 simp [bs, List.drop_take]
@[go_sem] theorem bs_append (a b : Str) : bs a ++ bs b = bs (a ++ b) := by
 apply Zc5
 rw [ByteArray.data_append]
 simp [bs]
theorem bs_of (a : ByteArray) : a = bs a.data.toList := by apply Zc5; simp [bs]
def bD (b : UInt8) : List D := [.v (.int .u8 b.toNat)]
def sR (s : Str) : List D := [.v (.string (bs s))]
def str1 : D → Str
 | .v (.string s) => s.data.toList
 | _ => []
def int1 : D → Int
 | .v (.int _ n) => n
 | _ => 0
def bytes1 : D → Str
 | .list _ rows => rows.map Go.DL.byteOf
 | _ => []
@[go_sem] theorem str1_v {s : ByteArray} : str1 (.v (.string s)) = s.data.toList := rfl
@[go_sem] theorem int1_v {k : IntKind} {n : Int} : int1 (.v (.int k n)) = n := rfl
theorem Zee {α β : Type} {f : α → β} {g : β → α} (h : ∀ x, g (f x) = x) (l : List α) : (l.map f).map g = l := by
 rw [List.map_map]
 exact (List.map_congr_left fun x _ => h x).trans (List.map_id l)
@[go_sem] theorem bytes1_map {f : Bool} {l : Str} : bytes1 (.list f (l.map bD)) = l := Zee (f := bD) (g := Go.DL.byteOf) (fun x => by simp [Go.DL.byteOf, bD]) l
@[go_sem] theorem bytes1_nil {f : Bool} : bytes1 (.list f []) = [] := rfl
attribute [go_sem] sR bD
theorem Znr {l : List Str} {n : Nat} (h : n < l.length) : (l.map sR).getD n [] = [.v (.string (bs l[n]!))] := by
 simp [List.getD, h, getElem!_pos, sR]
@[go_sem] theorem wkr_sR {l : List Str} : wkr (l.map sR) = l.map sR := by
 induction l with
 | nil => rfl
 | cons x l ih => simp only [List.map_cons, wkr, ih]; rfl
@[go_sem] theorem nrr_sR {l : List Str} : nrr (l.map sR) = true := by
 induction l with
 | nil => rfl
 | cons x l ih => simp only [List.map_cons, nrr, ih]; rfl
@[go_sem] theorem wkr_bD {l : Str} : wkr (l.map bD) = l.map bD := by
 induction l with
 | nil => rfl
 | cons x l ih => simp only [List.map_cons, wkr, ih]; rfl
@[go_sem] theorem nrr_bD {l : Str} : nrr (l.map bD) = true := by
 induction l with
 | nil => rfl
 | cons x l ih => simp only [List.map_cons, nrr, ih]; rfl
def Zig (n : Nat) (p : Nat → Bool) (k : Nat) : Bool := if k < n then p k && Zig n p (k + 1) else true
termination_by n - k
theorem Zbb (n : Nat) (p : Nat → Bool) (k : Nat) : Zig n p k = if k < n then p k && Zig n p (k + 1) else true := by rw [Zig]
theorem Zbg (n : Nat) (p : Nat → Bool) (k : Nat) : Zig n p k = true ↔ ∀ i, k ≤ i → i < n → p i = true := by
 rw [Zbb]
 split
 ·
  rename_i h
  rw [Bool.and_eq_true, Zbg n p (k + 1)]
  refine ⟨fun ⟨h1, h2⟩ i hi hn => ?_, fun h1 => ⟨h1 k (Nat.le_refl _) h, fun i hi hn => h1 i (by omega) hn⟩⟩
  by_cases e : i = k
  ·
   subst e; exact h1
  ·
   exact h2 i (by omega) hn
 ·
  rename_i h
  exact ⟨fun _ i hi hn => by omega, fun _ => rfl⟩
termination_by n - k
def Zpk (c : UInt8) : Bool := (decide (97 ≤ c.toNat) && decide (c.toNat ≤ 122)) || (decide (48 ≤ c.toNat) && decide (c.toNat ≤ 57))
def Zwx (l : Str) (i : Nat) : Bool := Zpk (l.getD i 0) || (decide ((l.getD i 0).toNat = 45) && decide (0 < i) && decide (i + 1 < l.length))
def labelOk (l : Str) : Bool := Zig l.length (Zwx l) 0 && decide (1 ≤ l.length) && decide (l.length ≤ 12)
def okIn (l : Str) (i : Nat) : Bool := Zpk (l.getD i 0) || decide ((l.getD i 0).toNat = 45)
theorem Zm3 (l : Str) : labelOk l = if l.length < 1 then false else if 12 < l.length then false else if (l.getD 0 0).toNat = 45 then false else if (l.getD (l.length - 1) 0).toNat = 45 then false else Zig l.length (okIn l) 0 := by
 by_cases h1 : l.length < 1
 ·
  rw [if_pos h1]; unfold labelOk; rw [decide_eq_false (by omega : ¬ 1 ≤ l.length)]; simp
 rw [if_neg h1]
 by_cases h2 : 12 < l.length
 ·
  rw [if_pos h2]; unfold labelOk; rw [decide_eq_false (by omega : ¬ l.length ≤ 12)]; simp
 rw [if_neg h2]
 have e : labelOk l = Zig l.length (Zwx l) 0 := by
  unfold labelOk; rw [decide_eq_true (by omega : 1 ≤ l.length), decide_eq_true (by omega : l.length ≤ 12)]; simp
 rw [e]
 have not45 : ∀ c : UInt8, c.toNat = 45 → Zpk c = false := by
  intro c hc; simp [Zpk, hc]
 by_cases h3 : (l.getD 0 0).toNat = 45
 ·
  rw [if_pos h3]
  cases h : Zig l.length (Zwx l) 0 with
  | false => rfl
  | true =>
   have := (Zbg _ _ _).1 h 0 (Nat.le_refl _) (by omega)
   simp only [Zwx, not45 _ h3, Nat.lt_irrefl, decide_false, Bool.and_false, Bool.false_and, Bool.or_false] at this
   exact this.symm
 rw [if_neg h3]
 by_cases h4 : (l.getD (l.length - 1) 0).toNat = 45
 ·
  rw [if_pos h4]
  cases h : Zig l.length (Zwx l) 0 with
  | false => rfl
  | true =>
   have := (Zbg _ _ _).1 h (l.length - 1) (Nat.zero_le _) (by omega)
   simp only [Zwx, not45 _ h4, Bool.false_or, Bool.and_eq_true, decide_eq_true_eq] at this
   omega
 rw [if_neg h4, Bool.eq_iff_iff, Zbg, Zbg]
 refine ⟨fun h i hi hn => ?_, fun h i hi hn => ?_⟩
 ·
  have := h i hi hn
  simp only [Zwx, okIn, Bool.or_eq_true, Bool.and_eq_true, decide_eq_true_eq] at this ⊢
  exact this.imp id fun h => h.1.1
 ·
  have := h i hi hn
  simp only [Zwx, okIn, Bool.or_eq_true, Bool.and_eq_true, decide_eq_true_eq] at this ⊢
  rcases this with h5 | h5
  ·
   exact .inl h5
  ·
   refine .inr ⟨⟨h5, ?_⟩, ?_⟩
   ·
    rcases Nat.eq_zero_or_pos i with e | e
    ·
     subst e; exact absurd h5 h3
    ·
     exact e
   ·
    rcases Nat.lt_or_ge (i + 1) l.length with e | e
    ·
     exact e
    ·
     have : i = l.length - 1 := by omega
     subst this; exact absurd h5 h4
def split (l : Str) : List Str := match l with
 | [] => [[]]
 | c :: r => if c = 46 then [] :: split r else match split r with
  | [] => [[c]]
  | p :: ps => (c :: p) :: ps
def Zeb (out : List Str) (c : UInt8) : List Str := if c = 46 then out ++ [[]] else out.set (out.length - 1) (out[out.length - 1]! ++ [c])
theorem Zdv {out : List Str} {c : UInt8} (h : (c.toNat : Int) = 46) : Zeb out c = out ++ [[]] := by
 have : c = 46 := by apply UInt8.toNat_inj.1; simpa using Int.ofNat.inj h
 unfold Zeb; rw [if_pos this]
theorem Zev {out : List Str} {c : UInt8} (h : ¬ (c.toNat : Int) = 46) : Zeb out c = out.set (out.length - 1) (out[out.length - 1]! ++ [c]) := by
 unfold Zeb; rw [if_neg]; intro e; subst e; exact h rfl
theorem one_cut {l : Str} {k : Nat} (h : k < l.length) : (l.take (k + 1)).drop k = [l.getD k 0] := by
 rw [List.take_add_one, List.drop_append_of_le_length (by simp; omega), List.drop_eq_nil_of_le (by simp; omega)]
 simp [List.getD, h]
def Zmc (l : Str) (k : Nat) (out : List Str) : List Str := if k < l.length then Zmc l (k + 1) (Zeb out (l.getD k 0)) else out
termination_by l.length - k
theorem Zod (l : Str) (k : Nat) (out : List Str) : Zmc l k out = if k < l.length then Zmc l (k + 1) (Zeb out (l.getD k 0)) else out := by rw [Zmc]
def splitF (l : Str) : List Str := Zmc l 0 [[]]
def Zlb (l : Str) (c : Int) : Nat → Int
 | 0 => -1
 | k + 1 => if ((l.getD k 0).toNat : Int) = c then k else Zlb l c k
theorem Zgj {l : Str} {c : Int} {k : Nat} (h : 0 < k) : Zlb l c k = if ((l.getD (k - 1) 0).toNat : Int) = c then ((k - 1 : Nat) : Int) else Zlb l c (k - 1) := by
 obtain ⟨j, rfl⟩ : ∃ j, k = j + 1 := ⟨k - 1, by omega⟩
 rw [Zlb]; rfl
def lastIx (l : Str) (c : Int) : Int := Zlb l c l.length
theorem Zbi (l : Str) (c : Int) : ∀ k, Zlb l c k < k ∧ -1 ≤ Zlb l c k
 | 0 => by simp [Zlb]
 | k + 1 => by
  have := Zbi l c k
  unfold Zlb
  split <;> omega
theorem Zfj (l : Str) (c : Int) : lastIx l c < l.length ∧ -1 ≤ lastIx l c := Zbi l c l.length
theorem Zrq {out : List Str} {c : UInt8} {k : Nat} (h : ∀ x ∈ out, x.length ≤ k) : (∀ x ∈ Zeb out c, x.length ≤ k + 1) ∧ (Zeb out c).length ≤ out.length + 1 := by
 unfold Zeb
 split
 ·
  refine ⟨fun x hx => ?_, by simp⟩
  rcases List.mem_append.1 hx with hx | hx
  ·
   exact Nat.le_succ_of_le (h x hx)
  ·
   simp at hx; subst hx; exact Nat.zero_le _
 ·
  refine ⟨fun x hx => ?_, by simp⟩
  rcases List.mem_or_eq_of_mem_set hx with hx | hx
  ·
   exact Nat.le_succ_of_le (h x hx)
  ·
   subst hx
   rw [List.length_append]
   refine Nat.succ_le_succ ?_
   by_cases ho : out.length - 1 < out.length
   ·
    exact h _ (by rw [getElem!_pos out _ ho]; exact List.getElem_mem _)
   ·
    rw [getElem!_neg out _ ho]; exact Nat.zero_le _
theorem Zsi (l : Str) (k : Nat) (out : List Str) (hk : k ≤ l.length) (h : ∀ x ∈ out, x.length ≤ k) : (∀ x ∈ Zmc l k out, x.length ≤ l.length) ∧ (Zmc l k out).length ≤ out.length + (l.length - k) := by
 rw [Zod]
 split
 ·
  rename_i hlt
  obtain ⟨h1, h2⟩ := Zrq (c := l.getD k 0) h
  obtain ⟨h3, h4⟩ := Zsi l (k + 1) _ (by omega) h1
  exact ⟨h3, by omega⟩
 ·
  exact ⟨fun x hx => Nat.le_trans (h x hx) hk, by omega⟩
termination_by l.length - k
theorem Zzj (l : Str) : (∀ x ∈ splitF l, x.length ≤ l.length) ∧ (splitF l).length ≤ l.length + 1 := by
 obtain ⟨h1, h2⟩ := Zsi l 0 [[]] (Nat.zero_le _) (by simp)
 exact ⟨h1, by unfold splitF; simp only [List.length_cons, List.length_nil] at h2; omega⟩
theorem Zf2 (l : Str) (i : Nat) : (splitF l)[i]!.length ≤ l.length := by
 by_cases h : i < (splitF l).length
 ·
  exact (Zzj l).1 _ (by rw [getElem!_pos (splitF l) i h]; exact List.getElem_mem _)
 ·
  rw [getElem!_neg (splitF l) i h]; exact Nat.zero_le _
def Zae (l : Str) : List Str := l.drop (lastIx l 46 + 1).toNat :: (if _h : lastIx l 46 < 0 then [] else Zae (l.take (lastIx l 46).toNat))
termination_by l.length
decreasing_by
 have := Zbi l 46 l.length
 unfold lastIx at *
 simp
 omega
theorem Zyb (l : Str) : Zae l = l.drop (lastIx l 46 + 1).toNat :: (if lastIx l 46 < 0 then [] else Zae (l.take (lastIx l 46).toNat)) := by
 rw [Zae]; split <;> rfl
def Zbj (ps : List Str) (i : Nat) : Bool := labelOk ps[i]! || (decide (i = 0) && ps[i]! == [42])
def nameOk (l : Str) : Bool := if l = [46] then true else if 60 < l.length then false else Zig (splitF l).length (Zbj (splitF l)) 0 && decide ((splitF l).length ≤ 8)
def partsOf (l : Str) : List Str := if l = [46] then [] else splitF l
def Zpi : List Str → Nat → Bool → Bool
 | [], _, _ => true
 | x :: r, n, wild => if wild || decide (8 < n + 1) then false else if !(x == [42]) && !labelOk x then false else Zpi r (n + 1) (x == [42])
theorem Zfh (l : Str) : split l ≠ [] := by
 cases l with
 | nil => simp [split]
 | cons c r =>
  unfold split
  split
  ·
   simp
  ·
   split <;> simp
theorem Zwe {x : Str} {xs : List Str} (c : UInt8) (h : xs ≠ []) : Zeb (x :: xs) c = x :: Zeb xs c := by
 unfold Zeb
 split
 ·
  rfl
 ·
  have hl : 0 < xs.length := List.length_pos_iff.2 h
  obtain ⟨n, hn⟩ : ∃ n, xs.length = n + 1 := ⟨xs.length - 1, by omega⟩
  simp [hn]
theorem Zoo (c : UInt8) : ∀ p : Str, split (p ++ [c]) = Zeb (split p) c
 | [] => by
  by_cases h : c = 46
  ·
   subst h; rfl
  ·
   simp [split, Zeb, h]
 | a :: p => by
  have ih := Zoo c p
  show split (a :: (p ++ [c])) = _
  rw [split, split.eq_2 a p]
  by_cases h : a = 46
  ·
   rw [if_pos h, if_pos h, ih, Zwe c (Zfh p)]
  ·
   rw [if_neg h, if_neg h, ih]
   cases hq : split p with
   | nil => exact absurd hq (Zfh p)
   | cons q qs =>
    by_cases hc : c = 46
    ·
     simp [Zeb, hc]
    ·
     cases qs with
     | nil => simp [Zeb, hc]
     | cons r rs =>
      rw [Zwe (x := q) (xs := r :: rs) c (by simp), Zwe (x := a :: q) (xs := r :: rs) c (by simp)]
theorem Zng (l : Str) (k : Nat) (hk : k ≤ l.length) : Zmc l k (split (l.take k)) = split l := by
 rw [Zod]
 split
 ·
  rename_i h
  rw [← Zoo, ← Zng l (k + 1) (by omega)]
  congr 2
  rw [List.take_add_one]
  simp [List.getD, h]
 ·
  rw [List.take_of_length_le (by omega)]
termination_by l.length - k
theorem Zog (l : Str) : splitF l = split l := Zng l 0 (Nat.zero_le _)
theorem Zqq : ∀ l : Str, (∀ x ∈ l, x ≠ 46) → split l = [l]
 | [], _ => rfl
 | c :: r, h => by
  rw [split, if_neg (h c (by simp)), Zqq r (fun x hx => h x (by simp [hx]))]
theorem Zjs (b : Str) : ∀ a : Str, split (a ++ 46 :: b) = split a ++ split b
 | [] => by rfl
 | x :: a => by
  show split (x :: (a ++ 46 :: b)) = _
  rw [split, split.eq_2 x a, Zjs b a]
  by_cases h : x = 46
  ·
   rw [if_pos h, if_pos h]; rfl
  ·
   rw [if_neg h, if_neg h]
   cases hq : split a with
   | nil => exact absurd hq (Zfh a)
   | cons q qs => rfl
theorem Zhj (l : Str) (c : Int) : ∀ k, (Zlb l c k < 0 → ∀ j, j < k → ¬ ((l.getD j 0).toNat : Int) = c) ∧ (0 ≤ Zlb l c k → ((l.getD (Zlb l c k).toNat 0).toNat : Int) = c ∧ ∀ j, (Zlb l c k).toNat < j → j < k → ¬ ((l.getD j 0).toNat : Int) = c)
 | 0 => by simp [Zlb]
 | k + 1 => by
  obtain ⟨h1, h2⟩ := Zhj l c k
  unfold Zlb
  by_cases h : ((l.getD k 0).toNat : Int) = c
  ·
   rw [if_pos h]
   exact ⟨fun h3 => by omega, fun _ => ⟨by simpa using h, fun j h4 h5 => by simp at h4; omega⟩⟩
  ·
   rw [if_neg h]
   refine ⟨fun h3 j hj => ?_, fun h3 => ⟨(h2 h3).1, fun j h4 h5 => ?_⟩⟩
   ·
    by_cases e : j = k
    ·
     subst e; exact h
    ·
     exact h1 h3 j (by omega)
   ·
    by_cases e : j = k
    ·
     subst e; exact h
    ·
     exact (h2 h3).2 j h4 (by omega)
theorem not46 {l : Str} {n : Nat} (h : ∀ j, n ≤ j → j < l.length → ¬ ((l.getD j 0).toNat : Int) = 46) : ∀ x ∈ l.drop n, x ≠ 46 := by
 intro x hx e
 subst e
 obtain ⟨i, hi, he⟩ := List.getElem_of_mem hx
 rw [List.getElem_drop] at he
 have hi' : n + i < l.length := by simp at hi; omega
 refine h (n + i) (by omega) hi' ?_
 have : l.getD (n + i) 0 = 46 := by simp only [List.getD, List.getElem?_eq_getElem hi', Option.getD_some]; exact he
 rw [this]; rfl
theorem Ztc (l : Str) : Zae l = (split l).reverse := by
 rw [Zyb]
 obtain ⟨h1, h2⟩ := Zhj l 46 l.length
 obtain ⟨h3, h4⟩ := Zfj l 46
 by_cases h : lastIx l 46 < 0
 ·
  rw [if_pos h]
  have e : (lastIx l 46 + 1).toNat = 0 := by omega
  have hs := Zqq l (fun x hx => by have := not46 (l := l) (n := 0) (fun j _ hj => h1 h j hj) x; exact this (by simpa using hx))
  rw [e, hs]; rfl
 ·
  rw [if_neg h]
  obtain ⟨h5, h6⟩ := h2 (by unfold lastIx at h; omega)
  generalize hi : (lastIx l 46).toNat = i at *
  have hi' : (Zlb l 46 l.length).toNat = i := hi
  have e : (lastIx l 46 + 1).toNat = i + 1 := by omega
  have hlt : i < l.length := by omega
  rw [hi'] at h5 h6
  have hl : l = l.take i ++ 46 :: l.drop (i + 1) := by
   have hc : l[i] = 46 := by
    have : l.getD i 0 = l[i] := by simp [List.getD, hlt]
    rw [this] at h5
    apply UInt8.toNat_inj.1; simpa using Int.ofNat.inj h5
   conv => lhs; rw [← List.take_append_drop i l]
   rw [List.drop_eq_getElem_cons hlt, hc]
  have hs := Zqq (l.drop (i + 1)) (not46 fun j hj hn => h6 j (by omega) hn)
  have ih := Ztc (l.take i)
  rw [e, ih]
  conv => rhs; rw [hl]
  rw [Zjs, hs]
  simp
termination_by l.length
decreasing_by
 simp; omega
theorem Zu1 {x : Str} {r : List Str} {n : Nat} {w : Bool} (h : (w || decide (8 < (n : Int) + 1)) = true) : Zpi (x :: r) n w = false := by
 unfold Zpi
 rw [if_pos]
 rw [← h, decide_eq_decide.2 (by omega : 8 < n + 1 ↔ 8 < (n : Int) + 1)]
theorem cnt_le {n : Nat} {w : Bool} (h : (w || decide (8 < (n : Int) + 1)) = false) : n + 1 ≤ 8 := by
 rw [Bool.or_eq_false_iff, decide_eq_false_iff_not] at h
 omega
theorem Zt1 {x : Str} {r : List Str} {n : Nat} {w : Bool} (h : (w || decide (8 < (n : Int) + 1)) = false) (k : (!(x == [42]) && !labelOk x) = true) : Zpi (x :: r) n w = false := by
 unfold Zpi
 rw [if_neg, if_pos k]
 rw [decide_eq_decide.2 (by omega : 8 < n + 1 ↔ 8 < (n : Int) + 1), h]
 simp
theorem Zs1 {x : Str} {r : List Str} {n : Nat} {w : Bool} (h : (w || decide (8 < (n : Int) + 1)) = false) (k : (!(x == [42]) && !labelOk x) = false) : Zpi (x :: r) n w = Zpi r (n + 1) (x == [42]) := by
 conv => lhs; unfold Zpi
 rw [if_neg, if_neg]
 ·
  rw [k]; simp
 ·
  rw [decide_eq_decide.2 (by omega : 8 < n + 1 ↔ 8 < (n : Int) + 1), h]
  simp
theorem star_no : labelOk [42] = false := by
 unfold labelOk
 rw [Zbb]
 rfl
theorem Zno (h : Str) : ∀ (ys : List Str) (n : Nat) (w : Bool), Zpi (ys ++ [h]) n w = (!w && ys.all labelOk && (labelOk h || h == [42]) && decide (n + ys.length + 1 ≤ 8))
 | [], n, w => by
  simp only [List.nil_append, Zpi, List.all_nil, List.length_nil, Nat.add_zero]
  cases w <;> cases h1 : labelOk h <;> cases h2 : (h == [42]) <;> by_cases h3 : n + 1 ≤ 8 <;> simp [h3, show ¬ 8 < n + 1 ↔ n + 1 ≤ 8 by omega] <;> omega
 | y :: ys, n, w => by
  have ih := Zno h ys (n + 1) (y == [42])
  simp only [List.cons_append, Zpi, List.all_cons, List.length_cons]
  rw [ih]
  have e : n + 1 + ys.length + 1 = n + (ys.length + 1) + 1 := by omega
  rw [e]
  by_cases hs : y = [42]
  ·
   subst hs
   rw [star_no]
   cases w <;> simp
  ·
   have hs' : (y == [42]) = false := by simpa using hs
   rw [hs']
   by_cases h3 : 8 < n + 1
   ·
    have h4 : ¬ n + (ys.length + 1) + 1 ≤ 8 := by omega
    simp [h3, h4]
   ·
    cases w <;> cases labelOk y <;> simp [h3]
theorem allParts (h : Str) (t : List Str) : Zig (h :: t).length (Zbj (h :: t)) 0 = (t.all labelOk && (labelOk h || h == [42])) := by
 rw [Bool.eq_iff_iff, Zbg]
 simp only [Zbj, Bool.and_eq_true, Bool.or_eq_true, List.all_eq_true, decide_eq_true_eq, beq_iff_eq]
 refine ⟨fun q => ⟨fun x hx => ?_, ?_⟩, fun ⟨q1, q2⟩ i _ hi => ?_⟩
 ·
  obtain ⟨i, hi, rfl⟩ := List.getElem_of_mem hx
  have := q (i + 1) (Nat.zero_le _) (by simp; omega)
  rcases this with h1 | h1
  ·
   simpa [hi] using h1
  ·
   omega
 ·
  have := q 0 (Nat.le_refl _) (by simp)
  simpa using this
 ·
  cases i with
  | zero => simpa using q2
  | succ i =>
   have hi' : i < t.length := by simpa using hi
   exact .inl (by simpa [hi'] using q1 t[i] (List.getElem_mem hi'))
theorem Zen (l : Str) : nameOk l = if l = [46] then true else if 60 < l.length then false else Zpi (Zae l) 0 false := by
 unfold nameOk
 rw [Ztc, ← Zog]
 cases hq : splitF l with
 | nil => exact absurd (by rw [← Zog]; exact hq) (Zfh l)
 | cons h t =>
  rw [allParts, List.reverse_cons, Zno]
  simp
theorem partOk_f {ps : List Str} {k : Nat} (h1 : labelOk ps[k]! = false) (h2 : 0 < k ∨ ¬ ps[k]! = [42]) : Zbj ps k = false := by
 unfold Zbj
 rw [h1, Bool.false_or, Bool.and_eq_false_iff, decide_eq_false_iff_not, beq_eq_false_iff_ne]
 rcases h2 with h | h
 ·
  exact .inl (by omega)
 ·
  exact .inr h
theorem partOk_t {ps : List Str} {k : Nat} (h : labelOk ps[k]! = true ∨ (¬ 0 < k ∧ ps[k]! = [42])) : Zbj ps k = true := by
 unfold Zbj
 rw [Bool.or_eq_true, Bool.and_eq_true, decide_eq_true_eq, beq_iff_eq]
 rcases h with h | ⟨h1, h2⟩
 ·
  exact .inl h
 ·
  exact .inr ⟨by omega, h2⟩
def Zpg (l : Str) : List Str := if l = [46] then [] else Zae l
def pl (more : Bool) (rest : Str) : List Str := if more then Zae rest else []
def Zaj (more : Bool) (rest : Str) : Str := if more then rest.drop (lastIx rest 46 + 1).toNat else []
def Zff (more : Bool) (rest : Str) : Bool := more && decide (0 ≤ lastIx rest 46)
def Zef (more : Bool) (rest : Str) : Str := if Zff more rest then rest.take (lastIx rest 46).toNat else rest
theorem Zt2 {rest : Str} : pl true rest = Zaj true rest :: pl (Zff true rest) (Zef true rest) := by
 unfold pl Zaj Zff Zef Zff
 rw [if_pos rfl, if_pos rfl, Zyb]
 by_cases h : lastIx rest 46 < 0
 ·
  have : ¬ 0 ≤ lastIx rest 46 := by omega
  simp [h, this]
 ·
  have : 0 ≤ lastIx rest 46 := by omega
  simp [h, this]
theorem Zf0 (more : Bool) (rest : Str) : (Zef more rest).length ≤ rest.length := by
 unfold Zef
 split
 ·
  simp; omega
 ·
  exact Nat.le_refl _
def Zpl : List Str → List Str → Int
 | [], _ => -1
 | _ :: _, [] => 1
 | x :: xs, y :: ys => if Go.Lib.compareBytes x y != 0 then Go.Lib.compareBytes x y else Zpl xs ys
def nmCmp (a b : Str) : Int := if a = b then 0 else Zpl (Zpg a) (Zpg b)
theorem Zcc {l : Str} (h : nameOk l = true) : l.length ≤ 60 := by
 unfold nameOk at h
 split at h
 ·
  rename_i e; subst e; decide
 ·
  split at h
  ·
   cases h
  ·
   omega
theorem rlabs_pl (l : Str) : Zpg l = pl (l != [46]) l := by
 unfold Zpg pl
 by_cases h : l = [46]
 ·
  subst h; rfl
 ·
  have : (l != [46]) = true := by simpa using h
  rw [if_neg h, this]; rfl
theorem cmp_1 {more : Bool} {rest r2 : Str} (h : (!more) = true) : Zpl (Zae rest) (pl more r2) = 1 := by
 cases more with
 | true => cases h
 | false => rw [Zyb]; rfl
theorem cmp_2 {more : Bool} {rest r2 : Str} (h : (!more) = false) (k : (Go.Lib.compareBytes (rest.drop (lastIx rest 46 + 1).toNat) (Zaj more r2) != 0) = true) : Zpl (Zae rest) (pl more r2) = Go.Lib.compareBytes (rest.drop (lastIx rest 46 + 1).toNat) (Zaj more r2) := by
 cases more with
 | false => cases h
 | true => rw [Zyb, Zt2, Zpl, if_pos k]
theorem cmp_3 {more : Bool} {rest r2 : Str} (h : (!more) = false) (k : (Go.Lib.compareBytes (rest.drop (lastIx rest 46 + 1).toNat) (Zaj more r2) != 0) = false) : Zpl (Zae rest) (pl more r2) = Zpl (if lastIx rest 46 < 0 then [] else Zae (rest.take (lastIx rest 46).toNat)) (pl (Zff more r2) (Zef more r2)) := by
 cases more with
 | false => cases h
 | true => rw [Zyb, Zt2, Zpl, if_neg (by rw [k]; simp)]
def ordL : List Str → List Str → Int
 | [], [] => 0
 | [], _ :: _ => -1
 | _ :: _, [] => 1
 | x :: xs, y :: ys => if Go.Op.bytesLess x y then -1 else if !(Go.Op.bytesLess x y || x == y) then 1 else ordL xs ys
def nmOrd (a b : Str) : Int := ordL (Zpg a) (Zpg b)
def Zgt (l m : List Str) (i : Nat) : Int := if i ≤ l.length ∧ i ≤ m.length then (if Go.Op.bytesLess l[l.length - i]! m[m.length - i]! then -1 else if !(Go.Op.bytesLess l[l.length - i]! m[m.length - i]! || l[l.length - i]! == m[m.length - i]!) then 1 else Zgt l m (i + 1)) else if l.length < m.length then -1 else if m.length < l.length then 1 else 0
termination_by l.length + 1 - i
theorem Zvf (l m : List Str) (i : Nat) : Zgt l m i = if i ≤ l.length ∧ i ≤ m.length then (if Go.Op.bytesLess l[l.length - i]! m[m.length - i]! then -1 else if !(Go.Op.bytesLess l[l.length - i]! m[m.length - i]! || l[l.length - i]! == m[m.length - i]!) then 1 else Zgt l m (i + 1)) else if l.length < m.length then -1 else if m.length < l.length then 1 else 0 := by rw [Zgt]
theorem Zbm {l : List Str} {k : Nat} (h : k < l.length) : l.reverse.drop k = l[l.length - (k + 1)]! :: l.reverse.drop (k + 1) := by
 rw [List.drop_eq_getElem_cons (by simpa using h), List.getElem_reverse]
 congr 1
 have h2 : l.length - 1 - k < l.length := by omega
 have e : l.length - (k + 1) = l.length - 1 - k := by omega
 rw [e, getElem!_pos l _ h2]
theorem Zw2 (l m : List Str) (k : Nat) (h1 : k ≤ l.length) (h2 : k ≤ m.length) : Zgt l m (k + 1) = ordL (l.reverse.drop k) (m.reverse.drop k) := by
 rw [Zvf]
 by_cases h : k + 1 ≤ l.length ∧ k + 1 ≤ m.length
 ·
  rw [if_pos h, Zbm (by omega : k < l.length), Zbm (by omega : k < m.length), ordL, Zw2 l m (k + 1) h.1 h.2]
 ·
  rw [if_neg h]
  by_cases e1 : k = l.length
  ·
   rw [List.drop_eq_nil_of_le (by simp; omega)]
   by_cases e2 : k = m.length
   ·
    rw [List.drop_eq_nil_of_le (by simp; omega), if_neg (by omega), if_neg (by omega)]; rfl
   ·
    rw [Zbm (by omega : k < m.length), if_pos (by omega)]; rfl
  ·
   have e2 : k = m.length := by omega
   have hm : m.reverse.drop k = [] := List.drop_eq_nil_of_le (by simp; omega)
   rw [hm, Zbm (by omega : k < l.length), if_neg (by omega), if_pos (by omega)]; rfl
termination_by l.length - k
theorem Zwm (l : Str) : (partsOf l).reverse = Zpg l := by
 unfold partsOf Zpg
 split
 ·
  rfl
 ·
  rw [Ztc, Zog]
theorem nmOrd_ix (a b : Str) : nmOrd a b = Zgt (partsOf a) (partsOf b) 1 := by
 rw [Zw2 _ _ 0 (Nat.zero_le _) (Nat.zero_le _), List.drop_zero, List.drop_zero, Zwm, Zwm]; rfl
theorem Zac : ∀ a : Str, Go.Op.bytesLess a a = false
 | [] => rfl
 | c :: r => by simp [Go.Op.bytesLess, Zac r]
theorem Zun : ∀ a b : Str, Go.Lib.compareBytes a b = if Go.Op.bytesLess a b then -1 else if a == b then 0 else 1
 | [], [] => rfl
 | [], _ :: _ => rfl
 | _ :: _, [] => by simp [Go.Lib.compareBytes, Go.Op.bytesLess]
 | x :: a, y :: b => by
  unfold Go.Lib.compareBytes Go.Op.bytesLess
  by_cases h1 : x < y
  ·
   simp [h1]
  ·
   by_cases h2 : y < x
   ·
    have h3 : ¬ x = y := fun e => by subst e; exact h1 h2
    simp [h1, h2, h3]
   ·
    have h3 : x = y := by
     apply UInt8.toNat_inj.1
     have h4 : ¬ x.toNat < y.toNat := h1
     have h5 : ¬ y.toNat < x.toNat := h2
     omega
    subst h3
    simp [h1, Zun a b]
theorem Zwy : ∀ xs ys : List Str, xs ≠ ys → Zpl xs ys = ordL xs ys
 | [], [], h => absurd rfl h
 | [], _ :: _, _ => rfl
 | _ :: _, [], _ => rfl
 | x :: xs, y :: ys, h => by
  unfold Zpl ordL
  rw [Zun]
  by_cases h1 : Go.Op.bytesLess x y = true
  ·
   simp [h1]
  ·
   by_cases h2 : x = y
   ·
    subst h2
    simp [Zac]
    exact Zwy xs ys fun e => h (by rw [e])
   ·
    have h3 : (x == y) = false := by simpa using h2
    simp [h1, h3]
theorem Zft : ∀ xs : List Str, ordL xs xs = 0
 | [] => rfl
 | x :: xs => by simp [ordL, Zac, Zft xs]
def Zn3 : List Str → Str
 | [] => []
 | [p] => p
 | p :: q :: r => p ++ 46 :: Zn3 (q :: r)
theorem Zfk : ∀ l : Str, Zn3 (split l) = l
 | [] => rfl
 | c :: r => by
  have ih := Zfk r
  unfold split
  by_cases h : c = 46
  ·
   rw [if_pos h]
   cases hs : split r with
   | nil => exact absurd hs (Zfh r)
   | cons q qs => rw [hs] at ih; rw [Zn3, ih, h]; rfl
  ·
   rw [if_neg h]
   cases hs : split r with
   | nil => exact absurd hs (Zfh r)
   | cons q qs =>
    rw [hs] at ih
    cases qs with
    | nil => simp only [Zn3] at ih ⊢; rw [ih]
    | cons q2 qs2 => simp only [Zn3] at ih ⊢; rw [← ih]; rfl
theorem Zxs {a b : Str} (h : Zpg a = Zpg b) : a = b := by
 unfold Zpg at h
 have ne : ∀ l : Str, Zae l ≠ [] := fun l e => by rw [Zyb] at e; cases e
 by_cases ha : a = [46] <;> by_cases hb : b = [46]
 ·
  rw [ha, hb]
 ·
  rw [if_pos ha, if_neg hb] at h; exact absurd h.symm (ne b)
 ·
  rw [if_neg ha, if_pos hb] at h; exact absurd h (ne a)
 ·
  rw [if_neg ha, if_neg hb, Ztc, Ztc] at h
  rw [← Zfk a, ← Zfk b, List.reverse_inj.1 h]
theorem Zdn (a b : Str) : nmCmp a b = nmOrd a b := by
 unfold nmCmp nmOrd
 by_cases h : a = b
 ·
  subst h; rw [if_pos rfl, Zft]
 ·
  rw [if_neg h, Zwy _ _ fun e => h (Zxs e)]
theorem Zxm (l : Str) : (∀ x ∈ partsOf l, x.length ≤ l.length) ∧ (partsOf l).length ≤ l.length + 1 := by
 unfold partsOf
 split
 ·
  exact ⟨by simp, Nat.zero_le _⟩
 ·
  exact Zzj l
end Go.Str
namespace Go.Rec
open Go.DL Go.Str
structure Dat where
 t : Str
 n : Int
 m : Int
 deriving Inhabited, DecidableEq
structure RSet where
 name : Str
 ty : Int
 life : Int
 data : List Dat
 deriving Inhabited, DecidableEq
structure Rule where
 text : Int
 n0 : Int
 n1 : Int
 m0 : Int
 m1 : Int
 even : Bool
 single : Bool
 wild : Bool
 deriving Inhabited, DecidableEq
def Dat.d (x : Dat) : List D := [.v (.string (bs x.t)), .i x.n, .i x.m]
def Dat.of : List D → Dat
 | [.v (.string s), .v (.int _ n), .v (.int _ m)] => ⟨s.data.toList, n, m⟩
 | _ => default
def RSet.d (x : RSet) : List D := [.v (.string (bs x.name)), .i x.ty, .i x.life, .list false (x.data.map Dat.d)]
def RSet.of : List D → RSet
 | [.v (.string s), .v (.int _ t), .v (.int _ l), .list _ rows] => ⟨s.data.toList, t, l, rows.map Dat.of⟩
 | _ => default
def Rule.d (r : Rule) : List D := [.i r.text, .i r.n0, .i r.n1, .i r.m0, .i r.m1, .b r.even, .b r.single, .b r.wild]
def Rule.of : List D → Rule
 | [.v (.int _ a), .v (.int _ b), .v (.int _ c), .v (.int _ d), .v (.int _ e), .v (.bool f), .v (.bool g), .v (.bool h)] => ⟨a, b, c, d, e, f, g, h⟩
 | _ => default
def agg1 {α : Type} (f : List D → α) (z : α) : D → α
 | .agg cs => f cs
 | _ => z
def list1 {α : Type} (f : List D → α) : D → List α
 | .list _ rows => rows.map f
 | _ => []
def iR (n : Int) : List D := [.i n]
def ofI : List D → Int
 | [.v (.int _ n)] => n
 | _ => 0
def ints1 : D → List Int := list1 ofI
def dat1 : D → Dat := agg1 Dat.of default
def dats1 : D → List Dat := list1 Dat.of
def set1 : D → RSet := agg1 RSet.of default
def sets1 : D → List RSet := list1 RSet.of
def rule1 : D → Rule := agg1 Rule.of default
attribute [go_sem] Dat.d RSet.d Rule.d iR
theorem Zxx (x : Dat) : Dat.of x.d = x := by simp [Dat.of, Dat.d, Zzn]
theorem of_set (x : RSet) : RSet.of x.d = x := by simp [RSet.of, RSet.d, Zzn, Zee Zxx]
@[go_sem] theorem Znu {f : Bool} {l : List Dat} : dats1 (.list f (l.map Dat.d)) = l := Zee Zxx l
@[go_sem] theorem dats1_nil {f : Bool} : dats1 (.list f []) = [] := rfl
@[go_sem] theorem Zms {f : Bool} {l : List RSet} : sets1 (.list f (l.map RSet.d)) = l := Zee of_set l
@[go_sem] theorem sets1_nil {f : Bool} : sets1 (.list f []) = [] := rfl
@[go_sem] theorem ints1_map {f : Bool} {l : List Int} : ints1 (.list f (l.map iR)) = l := Zee (f := iR) (g := ofI) (fun _ => rfl) l
@[go_sem] theorem dat1_agg {s : ByteArray} {n m : Int} {k k' : IntKind} : dat1 (.agg [.v (.string s), .v (.int k n), .v (.int k' m)]) = ⟨s.data.toList, n, m⟩ := rfl
@[go_sem] theorem set1_agg {s : ByteArray} {n m : Int} {k k' : IntKind} {f : Bool} {rows : List (List D)} : set1 (.agg [.v (.string s), .v (.int k n), .v (.int k' m), .list f rows]) = ⟨s.data.toList, n, m, dats1 (.list f rows)⟩ := rfl
@[go_sem] theorem rule1_agg {r : Rule} : rule1 (.agg [.i r.text, .i r.n0, .i r.n1, .i r.m0, .i r.m1, .b r.even, .b r.single, .b r.wild]) = r := rfl
def inR (x lo hi : Int) : Bool := decide (lo ≤ x) && decide (x ≤ hi)
def cmpI (x y : Int) : Int := if x < y then -1 else if y < x then 1 else 0
def ltS (a b : Str) : Bool := Go.Op.bytesLess a b
def cmpS (a b : Str) : Int := if ltS a b then -1 else if !(ltS a b || a == b) then 1 else 0
def hasPre (s p : Str) : Bool := decide (p.length ≤ s.length) && s.take p.length == p
def wildB (s : Str) : Bool := decide (0 < s.length) && decide ((s.getD 0 0).toNat = 42)
theorem wild_pre (s : Str) : hasPre s [42] = wildB s := by
 cases s with
 | nil => rfl
 | cons c r =>
  simp only [hasPre, wildB, List.length_cons, List.length_nil, List.take_succ_cons, List.take_zero, List.getD_cons_zero]
  have h1 : decide (0 + 1 ≤ r.length + 1) = true := by simp
  have h2 : decide (0 < r.length + 1) = true := by simp
  rw [h1, h2, Bool.true_and, Bool.true_and, Bool.eq_iff_iff, beq_iff_eq, decide_eq_true_eq]
  constructor
  ·
   intro h; have := (List.cons.inj h).1; subst this; rfl
  ·
   intro h; have : c = 42 := UInt8.toNat_inj.1 h
   subst this; rfl
def orFrom (l : List Int) (k : Nat) : Int := if k < l.length then if l[k]! != 0 then l[k]! else orFrom l (k + 1) else 0
termination_by l.length - k
theorem Zde (l : List Int) (k : Nat) : orFrom l k = if k < l.length then if l[k]! != 0 then l[k]! else orFrom l (k + 1) else 0 := by rw [orFrom]
def Zjf (l : Str) (i : Nat) : Bool := Zpk (l.getD i 0) || decide ((l.getD i 0).toNat = 32)
def freeB (l : Str) : Bool := if l.length < 1 then false else if 40 < l.length then false else if (l.getD 0 0).toNat = 32 then false else if (l.getD (l.length - 1) 0).toNat = 32 then false else Zig l.length (Zjf l) 0
def less (a b : Dat) : Bool := if a.t != b.t then ltS a.t b.t else if a.n != b.n then decide (a.n < b.n) else decide (a.m < b.m)
end Go.Rec
namespace Go.Cmp
open Go.Str
structure Cm {α : Type} (c : α → α → Int) : Prop where
 anti : ∀ x y, c y x = - c x y
 tr : ∀ x y z, c x y ≤ 0 → c y z ≤ 0 → c x z ≤ 0
 lo : ∀ x y, -1 ≤ c x y
namespace Cm
variable {α : Type} {c : α → α → Int} (h : Cm c)
include h
theorem hi (x y : α) : c x y ≤ 1 := by have := h.lo y x; have := h.anti x y; omega
theorem self (x : α) : c x x = 0 := by have := h.anti x x; omega
theorem lt_le {x y z : α} (a : c x y < 0) (b : c y z ≤ 0) : c x z < 0 := by
 have h1 := h.tr x y z (by omega) b
 by_cases e : c x z = 0
 ·
  have h2 := h.tr y z x b (by have := h.anti x z; omega)
  have := h.anti x y; omega
 ·
  omega
theorem le_lt {x y z : α} (a : c x y ≤ 0) (b : c y z < 0) : c x z < 0 := by
 have h1 := h.tr x y z a (by omega)
 by_cases e : c x z = 0
 ·
  have h2 := h.tr z x y (by have := h.anti x z; omega) a
  have := h.anti y z; omega
 ·
  omega
theorem eq_eq {x y z : α} (a : c x y = 0) (b : c y z = 0) : c x z = 0 := by
 have h1 := h.tr x y z (by omega) (by omega)
 have h2 := h.tr z y x (by have := h.anti y z; omega) (by have := h.anti x y; omega)
 have := h.anti x z; omega
end Cm
def Zlm (a b : Int) : Int := if a != 0 then a else b
theorem Zvw {α : Type} {c d : α → α → Int} (h : Cm c) (k : Cm d) : Cm fun x y => Zlm (c x y) (d x y) := by
 have e : ∀ x y, Zlm (c x y) (d x y) = if c x y = 0 then d x y else c x y := by
  intro x y; unfold Zlm; by_cases q : c x y = 0 <;> simp [q]
 refine ⟨fun x y => ?_, fun x y z => ?_, fun x y => ?_⟩
 ·
  simp only [e]
  have := h.anti x y; have := k.anti x y
  split <;> split <;> omega
 ·
  simp only [e]
  intro a b
  by_cases e1 : c x y = 0 <;> by_cases e2 : c y z = 0
  ·
   rw [if_pos e1] at a; rw [if_pos e2] at b
   rw [if_pos (h.eq_eq e1 e2)]; exact k.tr _ _ _ a b
  ·
   rw [if_neg e2] at b
   have := h.le_lt (x := x) (by omega : c x y ≤ 0) (by omega : c y z < 0)
   rw [if_neg (by omega)]; omega
  ·
   rw [if_neg e1] at a
   have := h.lt_le (by omega : c x y < 0) (by omega : c y z ≤ 0)
   rw [if_neg (by omega)]; omega
  ·
   rw [if_neg e1] at a; rw [if_neg e2] at b
   have := h.lt_le (by omega : c x y < 0) (by omega : c y z ≤ 0)
   rw [if_neg (by omega)]; omega
 ·
  simp only [e]
  have := h.lo x y; have := k.lo x y
  split <;> omega
theorem Zww {α β : Type} {c : β → β → Int} (h : Cm c) (f : α → β) : Cm fun x y => c (f x) (f y) :=
 ⟨fun x y => h.anti _ _, fun x y z => h.tr _ _ _, fun x y => h.lo _ _⟩
def cmpI (x y : Int) : Int := if x < y then -1 else if y < x then 1 else 0
theorem Zxy : Cm cmpI := by
 refine ⟨fun x y => ?_, fun x y z => ?_, fun x y => ?_⟩ <;> unfold cmpI <;> (repeat' split) <;> omega
theorem cmpI_eq {x y : Int} : cmpI x y = 0 ↔ x = y := by
 unfold cmpI; (repeat' split) <;> omega
def lex {α : Type} (c : α → α → Int) : List α → List α → Int
 | [], [] => 0
 | [], _ :: _ => -1
 | _ :: _, [] => 1
 | x :: xs, y :: ys => Zlm (c x y) (lex c xs ys)
theorem Zrb {a b : Int} : Zlm a b = if a = 0 then b else a := by
 unfold Zlm; by_cases q : a = 0 <;> simp [q]
theorem cm_lex {α : Type} {c : α → α → Int} (h : Cm c) : Cm (lex c) := by
 refine ⟨?_, ?_, ?_⟩
 ·
  intro x
  induction x with
  | nil => intro y; cases y <;> rfl
  | cons x xs ih =>
   intro y
   cases y with
   | nil => rfl
   | cons y ys =>
    simp only [lex, Zrb]
    have := h.anti x y; have := ih ys
    split <;> split <;> omega
 ·
  intro x
  induction x with
  | nil =>
   intro y z _ _
   cases z
   ·
    simp [lex]
   ·
    simp [lex]
  | cons x xs ih =>
   intro y z a b
   cases y with
   | nil => simp [lex] at a
   | cons y ys =>
    cases z with
    | nil => simp [lex] at b
    | cons z zs =>
     simp only [lex, Zrb] at a b ⊢
     by_cases e1 : c x y = 0 <;> by_cases e2 : c y z = 0
     ·
      rw [if_pos e1] at a; rw [if_pos e2] at b
      rw [if_pos (h.eq_eq e1 e2)]; exact ih _ _ a b
     ·
      rw [if_neg e2] at b
      have := h.le_lt (x := x) (by omega : c x y ≤ 0) (by omega : c y z < 0)
      rw [if_neg (by omega)]; omega
     ·
      rw [if_neg e1] at a
      have := h.lt_le (by omega : c x y < 0) (by omega : c y z ≤ 0)
      rw [if_neg (by omega)]; omega
     ·
      rw [if_neg e1] at a; rw [if_neg e2] at b
      have := h.lt_le (by omega : c x y < 0) (by omega : c y z ≤ 0)
      rw [if_neg (by omega)]; omega
 ·
  intro x
  induction x with
  | nil => intro y; cases y <;> simp [lex]
  | cons x xs ih =>
   intro y
   cases y with
   | nil => simp [lex]
   | cons y ys =>
    simp only [lex, Zrb]
    have := h.lo x y; have := ih ys
    split <;> omega
theorem Zi3 {α : Type} {c : α → α → Int} (h : ∀ x y, c x y = 0 → x = y) : ∀ xs ys : List α, lex c xs ys = 0 → xs = ys
 | [], [], _ => rfl
 | [], _ :: _, e => by simp [lex] at e
 | _ :: _, [], e => by simp [lex] at e
 | x :: xs, y :: ys, e => by
  simp only [lex, Zrb] at e
  split at e
  ·
   rename_i q; rw [h _ _ q, Zi3 h xs ys e]
  ·
   rename_i q; exact absurd e q
def cmpU (x y : UInt8) : Int := cmpI x.toNat y.toNat
theorem cm_u : Cm cmpU := Zww Zxy fun x : UInt8 => (x.toNat : Int)
theorem cmpU_eq {x y : UInt8} (h : cmpU x y = 0) : x = y := UInt8.toNat_inj.1 (by have := cmpI_eq.1 h; omega)
theorem Zud : ∀ a b : Str, Go.Lib.compareBytes a b = lex cmpU a b
 | [], [] => rfl
 | [], _ :: _ => rfl
 | _ :: _, [] => rfl
 | x :: a, y :: b => by
  unfold Go.Lib.compareBytes lex
  have ih := Zud a b
  simp only [Zrb, cmpU, cmpI]
  by_cases h1 : x < y
  ·
   have : (x.toNat : Int) < y.toNat := by have : x.toNat < y.toNat := h1; omega
   simp [h1, this]
  ·
   have h1' : ¬ (x.toNat : Int) < y.toNat := by have : ¬ x.toNat < y.toNat := h1; omega
   by_cases h2 : y < x
   ·
    have : (y.toNat : Int) < x.toNat := by have : y.toNat < x.toNat := h2; omega
    simp [h1, h2, h1', this]
   ·
    have h2' : ¬ (y.toNat : Int) < x.toNat := by have : ¬ y.toNat < x.toNat := h2; omega
    simp [h1, h2, h1', h2', ih]
theorem Zyy : Cm (Go.Lib.compareBytes) := by
 have : Go.Lib.compareBytes = lex cmpU := by funext a b; exact Zud a b
 rw [this]; exact cm_lex cm_u
theorem Zaz {a b : Str} (h : Go.Lib.compareBytes a b = 0) : a = b := by
 rw [Zud] at h; exact Zi3 (fun _ _ => cmpU_eq) a b h
theorem Zcr : ∀ xs ys : List Str, ordL xs ys = lex Go.Lib.compareBytes xs ys
 | [], [] => rfl
 | [], _ :: _ => rfl
 | _ :: _, [] => rfl
 | x :: xs, y :: ys => by
  unfold ordL lex
  have ih := Zcr xs ys
  rw [Zun, Zrb, ih]
  by_cases h1 : Go.Op.bytesLess x y = true
  ·
   simp [h1]
  ·
   by_cases h2 : x = y
   ·
    subst h2; simp [Zac]
   ·
    have h3 : (x == y) = false := by simpa using h2
    simp [h1, h3]
theorem cm_nm : Cm nmOrd := by
 have : nmOrd = fun a b => lex Go.Lib.compareBytes (Zpg a) (Zpg b) := by funext a b; exact Zcr _ _
 rw [this]; exact Zww (cm_lex Zyy) Zpg
theorem nm_eq {a b : Str} (h : nmOrd a b = 0) : a = b := by
 unfold nmOrd at h
 rw [Zcr] at h
 exact Zxs (Zi3 (fun _ _ => Zaz) _ _ h)
section
variable {α : Type} (c : α → α → Int) (m : α → α → α)
def ins : List α → α → List α
 | [], x => [x]
 | y :: r, x => if c y x < 0 then y :: ins r x else if 0 < c y x then x :: y :: r else m y x :: r
structure Un : Prop where
 left : ∀ x y, c x y = 0 → c (m x y) x = 0
 comm : ∀ x y, c x y = 0 → m x y = m y x
 swap : ∀ x y z, c x y = 0 → c x z = 0 → m (m x y) z = m (m x z) y
variable {c m}
theorem Cm.congr (h : Cm c) {x y : α} (e : c x y = 0) (z : α) : c x z = c y z := by
 have e' : c y x = 0 := by have := h.anti x y; omega
 have l1 := h.lo x z; have l2 := h.lo y z; have u1 := h.hi x z; have u2 := h.hi y z
 rcases Int.lt_trichotomy (c x z) 0 with q | q | q
 ·
  have := h.le_lt (by omega : c y x ≤ 0) q; omega
 ·
  have := h.eq_eq e' q; omega
 ·
  have a1 := h.anti x z
  have : c z x < 0 := by omega
  have := h.lt_le this (by omega : c x y ≤ 0)
  have := h.anti y z; omega
theorem Cm.congr_r (h : Cm c) {x y : α} (e : c x y = 0) (z : α) : c z x = c z y := by
 have := h.anti x z; have := h.anti y z; have := h.congr e z; omega
theorem Zhy (h : Cm c) (u : Un c m) : ∀ (l : List α) (x z : α), ins c m (ins c m l x) z = ins c m (ins c m l z) x
 | [], x, z => by
  simp only [ins]
  have := h.anti x z
  rcases Int.lt_trichotomy (c x z) 0 with q | q | q
  ·
   rw [if_pos q, if_neg (by omega), if_pos (by omega)]
  ·
   rw [if_neg (by omega), if_neg (by omega), if_neg (by omega), if_neg (by omega), u.comm x z q]
  ·
   rw [if_neg (by omega), if_pos q, if_pos (by omega)]
 | y :: r, x, z => by
  have ih := Zhy h u r x z
  have axz := h.anti x z
  have ayx := h.anti y x
  have ayz := h.anti y z
  rcases Int.lt_trichotomy (c y x) 0 with q | q | q <;> rcases Int.lt_trichotomy (c y z) 0 with p | p | p
  ·
   simp only [ins, if_pos q, if_pos p, ih]
  ·
   have e := h.congr (u.left y z p) x
   simp only [ins, if_pos q, if_neg (by omega : ¬ c y z < 0), if_neg (by omega : ¬ 0 < c y z), if_pos (by omega : c (m y z) x < 0)]
  ·
   have : c z x < 0 := h.lt_le (y := y) (by omega) (by omega)
   simp only [ins, if_pos q, if_neg (by omega : ¬ c y z < 0), if_pos p, if_pos this]
  ·
   have e := h.congr (u.left y x q) z
   simp only [ins, if_pos p, if_neg (by omega : ¬ c y x < 0), if_neg (by omega : ¬ 0 < c y x), if_pos (by omega : c (m y x) z < 0)]
  ·
   have e := h.congr (u.left y z p) x
   have e' := h.congr (u.left y x q) z
   simp only [ins, if_neg (by omega : ¬ c y x < 0), if_neg (by omega : ¬ 0 < c y x), if_neg (by omega : ¬ c y z < 0), if_neg (by omega : ¬ 0 < c y z), if_neg (by omega : ¬ c (m y x) z < 0), if_neg (by omega : ¬ 0 < c (m y x) z), if_neg (by omega : ¬ c (m y z) x < 0), if_neg (by omega : ¬ 0 < c (m y z) x), u.swap y x z q p]
  ·
   have e := h.congr (u.left y x q) z
   have : c z x < 0 := h.lt_le (y := y) (by omega) (by omega)
   simp only [ins, if_neg (by omega : ¬ c y x < 0), if_neg (by omega : ¬ 0 < c y x), if_neg (by omega : ¬ c y z < 0), if_pos p, if_neg (by omega : ¬ c (m y x) z < 0), if_pos (by omega : 0 < c (m y x) z), if_pos this]
  ·
   have : c x z < 0 := h.lt_le (y := y) (by omega) (by omega)
   simp only [ins, if_neg (by omega : ¬ c y x < 0), if_pos q, if_pos p, if_pos this]
  ·
   have e := h.congr (u.left y z p) x
   have : c x z < 0 := h.lt_le (y := y) (by omega) (by omega)
   simp only [ins, if_neg (by omega : ¬ c y x < 0), if_pos q, if_neg (by omega : ¬ c y z < 0), if_neg (by omega : ¬ 0 < c y z), if_pos this, if_neg (by omega : ¬ c (m y z) x < 0), if_pos (by omega : 0 < c (m y z) x)]
  ·
   simp only [ins, if_neg (by omega : ¬ c y x < 0), if_pos q, if_neg (by omega : ¬ c y z < 0), if_pos p]
   rcases Int.lt_trichotomy (c x z) 0 with s | s | s
   ·
    simp only [if_pos s, if_neg (by omega : ¬ c z x < 0), if_pos (by omega : 0 < c z x)]
   ·
    simp only [if_neg (by omega : ¬ c x z < 0), if_neg (by omega : ¬ 0 < c x z), if_neg (by omega : ¬ c z x < 0), if_neg (by omega : ¬ 0 < c z x), u.comm x z s]
   ·
    simp only [if_neg (by omega : ¬ c x z < 0), if_pos s, if_pos (by omega : c z x < 0)]
theorem Zmr (h : Cm c) (u : Un c m) {l l' : List α} (p : l.Perm l') : ∀ acc, l.foldl (ins c m) acc = l'.foldl (ins c m) acc := by
 induction p with
 | nil => intro acc; rfl
 | cons x _ ih => intro acc; exact ih _
 | swap x y l => intro acc; simp only [List.foldl_cons, Zhy h u acc y x]
 | trans _ _ ih1 ih2 => intro acc; rw [ih1, ih2]
theorem Zbw : ∀ (l : List α) (x : α), (∀ y ∈ l, c y x < 0) → ins c m l x = l ++ [x]
 | [], _, _ => rfl
 | y :: r, x, h => by
  simp only [ins, if_pos (h y (by simp)), Zbw r x fun z hz => h z (by simp [hz])]
  rfl
theorem Zfy : ∀ (l : List α) (y x : α), (∀ z ∈ l, c z x < 0) → c y x = 0 → ins c m (l ++ [y]) x = l ++ [m y x]
 | [], y, x, _, e => by simp only [List.nil_append, ins, if_neg (by omega : ¬ c y x < 0), if_neg (by omega : ¬ 0 < c y x)]
 | z :: r, y, x, h, e => by
  simp only [List.cons_append, ins, if_pos (h z (by simp)), Zfy r y x (fun z hz => h z (by simp [hz])) e]
def groups (c : α → α → Int) (m : α → α → α) : α → List α → List α
 | y, [] => [y]
 | y, x :: r => if c y x = 0 then groups c m (m y x) r else y :: groups c m x r
def Zyg (c : α → α → Int) (m : α → α → α) : List α → List α
 | [] => []
 | x :: r => groups c m x r
def Sorted (c : α → α → Int) (l : List α) : Prop := l.Pairwise fun x y => c x y ≤ 0
def Zjb (c : α → α → Int) (l : List α) : Prop := l.Pairwise fun x y => c x y < 0
theorem Zdi (h : Cm c) (u : Un c m) : ∀ (s : List α) (acc : List α) (y : α), (∀ z ∈ acc, c z y < 0) → (∀ x ∈ s, c y x ≤ 0) → Sorted c s → s.foldl (ins c m) (acc ++ [y]) = acc ++ groups c m y s
 | [], _, _, _, _, _ => rfl
 | x :: r, acc, y, h1, h2, h3 => by
  have hyx := h2 x (by simp)
  have hax : ∀ z ∈ acc, c z x < 0 := fun z hz => h.lt_le (h1 z hz) hyx
  unfold Sorted at h3
  rw [List.pairwise_cons] at h3
  rw [List.foldl_cons, groups]
  by_cases e : c y x = 0
  ·
   rw [if_pos e, Zfy acc y x hax e]
   have q := u.left y x e
   refine Zdi h u r acc (m y x) (fun z hz => ?_) (fun z hz => ?_) h3.2
   ·
    have := h.congr_r q z; have := h1 z hz; omega
   ·
    have := h.congr q z; have := h2 z (by simp [hz]); omega
  ·
   rw [if_neg e, Zbw]
   ·
    rw [Zdi h u r (acc ++ [y]) x]
    ·
     simp
    ·
     intro z hz
     rcases List.mem_append.1 hz with hz | hz
     ·
      exact hax z hz
     ·
      simp at hz; subst hz; omega
    ·
     exact h3.1
    ·
     exact h3.2
   ·
    intro z hz
    rcases List.mem_append.1 hz with hz | hz
    ·
     exact hax z hz
    ·
     simp at hz; subst hz; omega
theorem Zy0 (h : Cm c) (u : Un c m) {s l : List α} (hs : Sorted c s) (p : s.Perm l) : Zyg c m s = l.foldl (ins c m) [] := by
 rw [← Zmr h u p []]
 cases s with
 | nil => rfl
 | cons x r =>
  unfold Sorted at hs
  rw [List.pairwise_cons] at hs
  exact (Zdi h u r [] x (by simp) hs.1 hs.2).symm
theorem Zvt (h : Cm c) (u : Un c m) : ∀ (l : List α) (x y : α), y ∈ ins c m l x → c y x = 0 ∨ y ∈ l
 | [], x, y, hy => by simp [ins] at hy; subst hy; exact .inl (h.self y)
 | z :: r, x, y, hy => by
  unfold ins at hy
  split at hy
  ·
   rcases List.mem_cons.1 hy with e | e
   ·
    subst e; exact .inr (by simp)
   ·
    exact (Zvt h u r x y e).imp id fun k => by simp [k]
  ·
   split at hy
   ·
    rcases List.mem_cons.1 hy with e | e
    ·
     subst e; exact .inl (h.self y)
    ·
     exact .inr e
   ·
    rename_i h1 h2
    have e0 : c z x = 0 := by omega
    rcases List.mem_cons.1 hy with e | e
    ·
     subst e; left; have := h.congr (u.left z x e0) x; omega
    ·
     exact .inr (by simp [e])
theorem Zip (h : Cm c) (u : Un c m) : ∀ (l : List α) (x : α), Zjb c l → Zjb c (ins c m l x)
 | [], x, _ => by simp [ins, Zjb]
 | y :: r, x, hs => by
  unfold Zjb at hs
  rw [List.pairwise_cons] at hs
  unfold ins
  split
  ·
   rename_i q
   refine List.pairwise_cons.2 ⟨fun z hz => ?_, Zip h u r x hs.2⟩
   rcases Zvt h u r x z hz with e | e
   ·
    have := h.congr_r (by have := h.anti z x; omega : c x z = 0) y; omega
   ·
    exact hs.1 z e
  ·
   split
   ·
    rename_i q
    have ay := h.anti y x
    refine List.pairwise_cons.2 ⟨fun z hz => ?_, List.pairwise_cons.2 hs⟩
    rcases List.mem_cons.1 hz with e | e
    ·
     subst e; omega
    ·
     have := hs.1 z e
     exact h.lt_le (y := y) (by omega) (by omega)
   ·
    have e0 : c y x = 0 := by omega
    refine List.pairwise_cons.2 ⟨fun z hz => ?_, hs.2⟩
    have := h.congr (u.left y x e0) z; have := hs.1 z hz; omega
theorem Zon (h : Cm c) (u : Un c m) : ∀ (l acc : List α), Zjb c acc → Zjb c (l.foldl (ins c m) acc)
 | [], _, k => k
 | x :: l, acc, k => Zon h u l _ (Zip h u acc x k)
theorem Zdu : ∀ (s acc : List α), (∀ z ∈ acc, ∀ x ∈ s, c z x < 0) → Zjb c s → s.foldl (ins c m) acc = acc ++ s
 | [], acc, _, _ => by simp
 | x :: r, acc, h1, h2 => by
  unfold Zjb at h2
  rw [List.pairwise_cons] at h2
  rw [List.foldl_cons, Zbw acc x fun z hz => h1 z hz x (by simp), Zdu r (acc ++ [x])]
  ·
   simp
  ·
   intro z hz w hw
   rcases List.mem_append.1 hz with hz | hz
   ·
    exact h1 z hz w (by simp [hw])
   ·
    simp at hz; subst hz; exact h2.1 w hw
  ·
   exact h2.2
end
end Go.Cmp
namespace Go.Rec
open Go.DL Go.Str Go.Cmp
def Zza (k : Nat) : Rule := match k with
 | 1 => ⟨0, 1, 1000000, 0, 0, false, false, true⟩
 | 2 => ⟨1, 0, 0, 0, 0, false, false, false⟩
 | 3 => ⟨1, 0, 0, 0, 0, false, true, false⟩
 | 4 => ⟨0, 0, 65535, 0, 100000, false, true, false⟩
 | 5 => ⟨3, 0, 0, 0, 0, false, false, true⟩
 | 6 => ⟨0, 1, 1000000, 1, 3, false, false, false⟩
 | 7 => ⟨0, 1, 1000000, 1, 3, false, false, false⟩
 | 8 => ⟨2, 2, 510, 0, 0, true, false, true⟩
 | _ => ⟨0, 0, 0, 0, 0, false, false, false⟩
def Ztk (k : Int) (t : Str) : Bool := if k = 1 then nameOk t && !wildB t else if k = 2 then nameOk t else if k = 3 then freeB t else t == []
def datOk (r : Rule) (d : Dat) : Bool := inR d.n r.n0 r.n1 && inR d.m r.m0 r.m1 && !(r.even && d.n % 2 != 0) && Ztk r.text d.t
def rDatOk (k : Int) (d : Dat) : Bool :=
 if k = 1 then d.t == [] && inR d.n 1 1000000 && d.m == 0
 else if k = 2 ∨ k = 3 then nameOk d.t && !wildB d.t && d.n == 0 && d.m == 0
 else if k = 4 then d.t == [] && inR d.n 0 65535 && inR d.m 0 100000
 else if k = 5 then freeB d.t && d.n == 0 && d.m == 0
 else if k = 6 ∨ k = 7 then d.t == [] && inR d.n 1 1000000 && inR d.m 1 3
 else if k = 8 then nameOk d.t && inR d.n 2 510 && d.n % 2 == 0 && d.m == 0
 else false
theorem inR_self (n : Int) : inR n 0 0 = (n == 0) := by
 unfold inR
 rw [Bool.eq_iff_iff, Bool.and_eq_true, decide_eq_true_eq, decide_eq_true_eq, beq_iff_eq]
 omega
theorem inR_iff {n a b : Int} : inR n a b = true ↔ a ≤ n ∧ n ≤ b := by
 unfold inR
 rw [Bool.and_eq_true, decide_eq_true_eq, decide_eq_true_eq]
theorem kinds {k : Int} (h : inR k 1 8 = true) : k = 1 ∨ k = 2 ∨ k = 3 ∨ k = 4 ∨ k = 5 ∨ k = 6 ∨ k = 7 ∨ k = 8 := by
 have := inR_iff.1 h
 omega
theorem Zs4 {k : Int} (h : inR k 1 8 = true) (d : Dat) : rDatOk k d = datOk (Zza k.toNat) d := by
 rw [Bool.eq_iff_iff]
 rcases kinds h with h | h | h | h | h | h | h | h <;> subst h <;> simp [rDatOk, datOk, Zza, Ztk, inR_self] <;> constructor <;> intro q <;> simp_all
def singleB (k : Int) : Bool := decide (k = 3) || decide (k = 4)
theorem Zsq {k : Int} (h : inR k 1 8 = true) : singleB k = (Zza k.toNat).single := by
 rcases kinds h with h | h | h | h | h | h | h | h <;> subst h <;> rfl
theorem wild_r {k : Int} (h : inR k 1 8 = true) : (k != 1 && k != 5 && k != 8) = !(Zza k.toNat).wild := by
 rcases kinds h with h | h | h | h | h | h | h | h <;> subst h <;> rfl
def datC (a b : Dat) : Int := Zlm (Go.Lib.compareBytes a.t b.t) (Zlm (Go.Cmp.cmpI a.n b.n) (Go.Cmp.cmpI a.m b.m))
theorem cm_dat : Cm datC := Zvw (Zww Zyy Dat.t) (Zvw (Zww Zxy Dat.n) (Zww Zxy Dat.m))
theorem Zzr {a b : Dat} (h : datC a b = 0) : a = b := by
 unfold datC at h
 rw [Zrb] at h
 split at h
 ·
  rename_i h1
  rw [Zrb] at h
  split at h
  ·
   rename_i h2
   have e1 := Zaz h1
   have e2 := cmpI_eq.1 h2
   have e3 := cmpI_eq.1 h
   cases a; cases b; simp only at e1 e2 e3; subst e1; subst e2; subst e3; rfl
  ·
   exact absurd h ‹_›
 ·
  exact absurd h ‹_›
theorem Zjr (a b : Dat) : less a b = decide (datC a b < 0) := by
 unfold less datC ltS
 rw [Zrb, Zrb, Zun]
 by_cases h1 : a.t = b.t
 ·
  rw [h1]
  simp [Zac]
  by_cases h2 : a.n = b.n
  ·
   rw [h2]; simp [Go.Cmp.cmpI]
   by_cases h3 : a.m < b.m
   ·
    simp [h3]
   ·
    simp [h3]; split <;> omega
  ·
   simp [h2, Go.Cmp.cmpI]
   by_cases h3 : a.n < b.n
   ·
    simp [h3]
   ·
    have : b.n < a.n := by omega
    simp [h3, this]
 ·
  have h2 : (a.t == b.t) = false := by simpa using h1
  simp [h1, h2]
  cases h3 : Go.Op.bytesLess a.t b.t <;> simp
theorem Zf1 (a b : Str) : cmpS a b = Go.Lib.compareBytes a b := by
 rw [Zun]
 unfold cmpS ltS
 by_cases h : Go.Op.bytesLess a b = true
 ·
  simp [h]
 ·
  cases h2 : (a == b) <;> simp [h]
theorem orFrom3 (a b c : Int) : orFrom [a, b, c] 0 = if a != 0 then a else if b != 0 then b else if c != 0 then c else 0 := by
 rw [Zde, Zde _ (0 + 1), Zde _ (0 + 1 + 1), Zde _ (0 + 1 + 1 + 1)]
 simp
theorem Zj0 (a b : Dat) : orFrom [cmpS a.t b.t, cmpI a.n b.n, cmpI a.m b.m] 0 = datC a b := by
 rw [orFrom3, Zf1]
 unfold datC Zlm
 show (if _ then _ else if _ then _ else if Go.Cmp.cmpI a.m b.m != 0 then Go.Cmp.cmpI a.m b.m else 0) = _
 by_cases h : Go.Cmp.cmpI a.m b.m = 0
 ·
  simp [h]; rfl
 ·
  simp [h]; rfl
def Zmh (k : Nat) (l : List Dat) (i : Nat) : Bool := datOk (Zza k) l[i]! && (decide (i = 0) || decide (datC l[i - 1]! l[i]! < 0))
def setOk (s : RSet) : Bool := nameOk s.name && inR s.ty 1 8 && inR s.life 0 100000 && inR s.data.length 1 8 && !((Zza s.ty.toNat).single && (s.data.length : Int) != 1) && !(wildB s.name && !(Zza s.ty.toNat).wild) && Zig s.data.length (Zmh s.ty.toNat s.data) 0
structure Zqk (s : RSet) : Prop where
 name : nameOk s.name = true
 ty : inR s.ty 1 8 = true
 life : inR s.life 0 100000 = true
 len : 1 ≤ s.data.length ∧ s.data.length ≤ 8
 single : (Zza s.ty.toNat).single = true → s.data.length = 1
 wild : wildB s.name = true → (Zza s.ty.toNat).wild = true
 dat : ∀ d ∈ s.data, datOk (Zza s.ty.toNat) d = true
 sorted : Zjb datC s.data
theorem Zis {l : List Dat} (h : ∀ i, 0 < i → i < l.length → datC l[i - 1]! l[i]! < 0) : Zjb datC l := by
 induction l with
 | nil => exact .nil
 | cons x r ih =>
  have ih := ih fun i h1 h2 => by
   have := h (i + 1) (by omega) (by simp; omega)
   obtain ⟨j, rfl⟩ : ∃ j, i = j + 1 := ⟨i - 1, by omega⟩
   simpa using this
  refine List.pairwise_cons.2 ⟨fun y hy => ?_, ih⟩
  cases r with
  | nil => cases hy
  | cons z r =>
   have hxz : datC x z < 0 := by simpa using h 1 (by omega) (by simp)
   rcases List.mem_cons.1 hy with e | e
   ·
    subst e; exact hxz
   ·
    have := (List.pairwise_cons.1 ih).1 y e
    exact cm_dat.lt_le hxz (by omega)
theorem Zvu {l : List Dat} (h : Zjb datC l) {i j : Nat} (h1 : i < j) (h2 : j < l.length) : datC l[i]! l[j]! < 0 := by
 rw [getElem!_pos l i (by omega), getElem!_pos l j h2]
 exact List.pairwise_iff_getElem.1 h i j (by omega) h2 h1
theorem Zxb (s : RSet) : setOk s = true ↔ Zqk s := by
 unfold setOk
 simp only [Bool.and_eq_true, Bool.not_eq_true', Bool.and_eq_false_iff, bne_eq_false_iff_eq, Bool.not_eq_false', Zbg]
 constructor
 ·
  rintro ⟨⟨⟨⟨⟨⟨h1, h2⟩, h3⟩, h4⟩, h5⟩, h6⟩, h7⟩
  have h4 := inR_iff.1 h4
  have hd : ∀ i, i < s.data.length → datOk (Zza s.ty.toNat) s.data[i]! = true := fun i hi => by
   have := h7 i (Nat.zero_le _) hi
   unfold Zmh at this
   exact (Bool.and_eq_true _ _ ▸ this).1
  refine ⟨h1, h2, h3, by omega, fun q => ?_, fun q => ?_, fun d hd' => ?_, Zis fun i hi hl => ?_⟩
  ·
   rcases h5 with h | h
   ·
    rw [q] at h; cases h
   ·
    omega
  ·
   rcases h6 with h | h
   ·
    rw [q] at h; cases h
   ·
    exact h
  ·
   obtain ⟨i, hi, rfl⟩ := List.getElem_of_mem hd'
   have := hd i hi
   rwa [getElem!_pos s.data i hi] at this
  ·
   have := h7 i (Nat.zero_le _) hl
   unfold Zmh at this
   rw [Bool.and_eq_true, Bool.or_eq_true, decide_eq_true_eq, decide_eq_true_eq] at this
   exact this.2.resolve_left (by omega)
 ·
  intro ⟨h1, h2, h3, h4, h5, h6, h7, h8⟩
  refine ⟨⟨⟨⟨⟨⟨h1, h2⟩, h3⟩, inR_iff.2 (by omega)⟩, ?_⟩, ?_⟩, fun i _ hi => ?_⟩
  ·
   by_cases q : (Zza s.ty.toNat).single = true
   ·
    right; have := h5 q; omega
   ·
    left; simpa using q
  ·
   by_cases q : wildB s.name = true
   ·
    right; exact h6 q
   ·
    left; simpa using q
  ·
   unfold Zmh
   rw [Bool.and_eq_true, Bool.or_eq_true, decide_eq_true_eq, decide_eq_true_eq]
   refine ⟨by rw [getElem!_pos s.data i hi]; exact h7 _ (List.getElem_mem _), ?_⟩
   by_cases e : i = 0
   ·
    exact .inl e
   ·
    exact .inr (Zvu h8 (by omega) hi)
instance (s : RSet) : Decidable (Zqk s) := decidable_of_iff _ (Zxb s)
def nmC (a b : Str) : Int := if nameOk a && nameOk b then nmCmp a b else 0
def plC (a b : RSet) : Int := if a.name = b.name then cmpI a.ty b.ty else nmC a.name b.name
def rOrd (a b : RSet) : Int := Zlm (nmC a.name b.name) (cmpI a.ty b.ty)
def plc (a b : RSet) : Int := Zlm (nmOrd a.name b.name) (cmpI a.ty b.ty)
theorem cm_pl : Cm plc := Zvw (Zww cm_nm RSet.name) (Zww Zxy RSet.ty)
theorem plc_eq {a b : RSet} : plc a b = 0 ↔ a.name = b.name ∧ a.ty = b.ty := by
 unfold plc
 rw [Zrb]
 constructor
 ·
  intro h
  split at h
  ·
   exact ⟨nm_eq ‹_›, cmpI_eq.1 h⟩
  ·
   exact absurd h ‹_›
 ·
  rintro ⟨h1, h2⟩
  rw [h1, h2, if_pos (cm_nm.self _)]
  exact cmpI_eq.2 rfl
theorem Zu2 {a b : RSet} (ha : nameOk a.name = true) (hb : nameOk b.name = true) : plC a b = plc a b := by
 unfold plC plc nmC
 rw [ha, hb, Zrb]
 by_cases h : a.name = b.name
 ·
  rw [if_pos h, h, if_pos (cm_nm.self _)]
 ·
  rw [if_neg h, if_neg (fun e => h (nm_eq e)), Zdn]; rfl
theorem Zq2 {a b : RSet} (ha : nameOk a.name = true) (hb : nameOk b.name = true) : rOrd a b = plc a b := by
 unfold rOrd plc nmC
 rw [ha, hb, Zdn]; rfl
def uN (n : Int) : Nat := (n % 18446744073709551616).toNat
def Zof (u sh : Nat) : UInt8 := UInt8.ofNat (u / 2 ^ sh)
def be8 (n : Int) : Str := [Zof (uN n) 56, Zof (uN n) 48, Zof (uN n) 40, Zof (uN n) 32, Zof (uN n) 24, Zof (uN n) 16, Zof (uN n) 8, Zof (uN n) 0]
theorem Zab (n : Int) : (be8 n).length = 8 := rfl
def Zmg (n : Nat) (c : UInt8) : Nat := (n * 256 + c.toNat) % 18446744073709551616
def numU (l : Str) : Nat := l.foldl Zmg 0
def sN (n : Nat) : Int := IntKind.i64.wrap (n : Int)
def numOf (l : Str) : Int := sN (numU l)
theorem Zbz (u sh : Nat) : (Zof u sh).toNat = u / 2 ^ sh % 256 := by simp [Zof]
theorem numU_lt : ∀ l : Str, numU l < 18446744073709551616 := by
 intro l
 unfold numU
 rcases List.eq_nil_or_concat l with e | ⟨p, z, e⟩
 ·
  subst e; decide
 ·
  rw [e, List.concat_eq_append, List.foldl_append, List.foldl_cons, List.foldl_nil]
  unfold Zmg
  omega
theorem uN_sN {u : Nat} (h : u < 18446744073709551616) : uN (sN u) = u := by
 unfold uN sN
 rw [IntKind.wrap_i64]
 omega
theorem Zb5 {l : Str} (h : l.length = 8) : be8 (numOf l) = l := by
 unfold numOf be8
 rw [uN_sN (numU_lt l)]
 match l, h with
 | [c0, c1, c2, c3, c4, c5, c6, c7], _ =>
  have h0 := c0.toNat_lt; have h1 := c1.toNat_lt; have h2 := c2.toNat_lt; have h3 := c3.toNat_lt
  have h4 := c4.toNat_lt; have h5 := c5.toNat_lt; have h6 := c6.toNat_lt; have h7 := c7.toNat_lt
  have e : numU [c0, c1, c2, c3, c4, c5, c6, c7] = ((((((c0.toNat * 256 + c1.toNat) * 256 + c2.toNat) * 256 + c3.toNat) * 256 + c4.toNat) * 256 + c5.toNat) * 256 + c6.toNat) * 256 + c7.toNat := by
   simp only [numU, List.foldl_cons, List.foldl_nil, Zmg]
   omega
  have k : ∀ (s : Nat) (c : UInt8), numU [c0, c1, c2, c3, c4, c5, c6, c7] / 2 ^ s % 256 = c.toNat → Zof (numU [c0, c1, c2, c3, c4, c5, c6, c7]) s = c := fun s c q => UInt8.toNat_inj.1 (by rw [Zbz]; exact q)
  rw [k 56 c0 (by rw [e]; omega), k 48 c1 (by rw [e]; omega), k 40 c2 (by rw [e]; omega), k 32 c3 (by rw [e]; omega), k 24 c4 (by rw [e]; omega), k 16 c5 (by rw [e]; omega), k 8 c6 (by rw [e]; omega), k 0 c7 (by rw [e]; omega)]
def Zu0 (n : Nat) : UInt8 := UInt8.ofNat n
def Zwb (t : Str) : Str := Zu0 t.length :: t
def datB (d : Dat) : Str := Zwb d.t ++ be8 d.n ++ be8 d.m
def setB (s : RSet) : Str := Zwb s.name ++ be8 s.ty ++ be8 s.life ++ Zu0 s.data.length :: s.data.flatMap datB
abbrev RS := Str × Bool
def Zub (n : Int) (st : RS) : Str × RS := if st.2 || decide ((st.1.length : Int) < n) then ([], (st.1, true)) else (st.1.take n.toNat, (st.1.drop n.toNat, false))
def Zla (st : RS) : Nat × RS := (if (Zub 1 st).1.length = 1 then ((Zub 1 st).1.getD 0 0).toNat else 0, (Zub 1 st).2)
def Zma (st : RS) : Str × RS := Zub (Zla st).1 (Zla st).2
def Zfb (st : RS) : Int × RS := (numOf (Zub 8 st).1, (Zub 8 st).2)
def Zsg (st : RS) : Dat × RS := (⟨(Zma st).1, (Zfb (Zma st).2).1, (Zfb (Zfb (Zma st).2).2).1⟩, (Zfb (Zfb (Zma st).2).2).2)
def Zvc : Nat → List Dat → RS → List Dat × RS
 | 0, out, st => (out, st)
 | k + 1, out, st => if (Zsg st).2.2 then (out, (Zsg st).2) else Zvc k (out ++ [(Zsg st).1]) (Zsg st).2
def Zcp (st : RS) : RSet × RS :=
 let a := Zma st
 let b := Zfb a.2
 let c := Zfb b.2
 let n := Zla c.2
 let d := Zvc n.1 [] n.2
 (⟨a.1, b.1, c.1, d.1⟩, d.2)
def noSet : RSet := ⟨[], 0, 0, []⟩
def readF (x : Str) : RSet × Int := if (Zcp (x, false)).2.2 || decide (0 < (Zcp (x, false)).2.1.length) || !setOk (Zcp (x, false)).1 then (noSet, 10) else ((Zcp (x, false)).1, 0)
abbrev RT := Nat × Bool
def Zcb (b : Str) (st : RT) : UInt8 × RT := if b.length ≤ st.1 then (0, (st.1, true)) else (b.getD st.1 0, (st.1 + 1, st.2))
def Zne (b : Str) : Nat → Str → RT → Str × RT
 | 0, s, st => (s, st)
 | k + 1, s, st => if st.2 then (s, st) else Zne b k (s ++ [(Zcb b st).1]) (Zcb b st).2
def Zqb (b : Str) (st : RT) : Str × RT := Zne b (Zcb b st).1.toNat [] (Zcb b st).2
def Zzi (b : Str) : Nat → Nat → RT → Nat × RT
 | 0, n, st => (n, st)
 | k + 1, n, st => Zzi b k (Zmg n (Zcb b st).1) (Zcb b st).2
def Zce (b : Str) (st : RT) : Int × RT := (sN (Zzi b 8 0 st).1, (Zzi b 8 0 st).2)
def Zqg (b : Str) (st : RT) : Dat × RT := (⟨(Zqb b st).1, (Zce b (Zqb b st).2).1, (Zce b (Zce b (Zqb b st).2).2).1⟩, (Zce b (Zce b (Zqb b st).2).2).2)
def Zwh (b : Str) : Nat → List Dat → RT → List Dat × RT
 | 0, out, st => (out, st)
 | k + 1, out, st => if st.2 then (out, st) else Zwh b k (out ++ [(Zqg b st).1]) (Zqg b st).2
def Zlv (b : Str) (st : RT) : RSet × RT :=
 let a := Zqb b st
 let t := Zce b a.2
 let c := Zce b t.2
 let n := Zcb b c.2
 let d := Zwh b n.1.toNat [] n.2
 (⟨a.1, t.1, c.1, d.1⟩, d.2)
def readR (x : Str) : RSet × Int := if (Zlv x (0, false)).2.2 || decide ((Zlv x (0, false)).2.1 ≠ x.length) || !setOk (Zlv x (0, false)).1 then (noSet, 10) else ((Zlv x (0, false)).1, 0)
def Alike (b : Str) (s : RS) (t : RT) : Prop := t.1 ≤ b.length ∧ ((s.2 = false ∧ t.2 = false ∧ s.1 = b.drop t.1) ∨ (s.2 = true ∧ t.2 = true))
theorem Zjq {b : Str} {s : RS} {t : RT} (h : Alike b s t) : Alike b (Zla s).2 (Zcb b t).2 ∧ ((Zla s).2.2 = false → (Zla s).1 = (Zcb b t).1.toNat) := by
 obtain ⟨h0, ⟨h1, h2, h3⟩ | ⟨h1, h2⟩⟩ := h
 ·
  unfold Zla Zub Zcb
  rw [h1, h3, Bool.false_or]
  by_cases h : b.length ≤ t.1
  ·
   have e : (b.drop t.1).length = 0 := by simp; omega
   rw [if_pos h, e]
   exact ⟨⟨h0, .inr ⟨rfl, rfl⟩⟩, fun q => by cases q⟩
  ·
   have e : ¬ ((b.drop t.1).length : Int) < 1 := by simp; omega
   rw [if_neg h, decide_eq_false e]
   have e1 : ((b.drop t.1).take 1).length = 1 := by simp; omega
   refine ⟨⟨by show t.1 + 1 ≤ _; omega, .inl ⟨rfl, h2, by show ((b.drop t.1).drop 1) = b.drop (t.1 + 1); rw [List.drop_drop]⟩⟩, fun _ => ?_⟩
   show (if ((b.drop t.1).take 1).length = 1 then (((b.drop t.1).take 1).getD 0 0).toNat else 0) = (b.getD t.1 0).toNat
   rw [if_pos e1]
   congr 1
   simp [List.getD, List.getElem?_take]
 ·
  unfold Zla Zub Zcb
  rw [h1, Bool.true_or]
  refine ⟨?_, fun q => by cases q⟩
  by_cases h : b.length ≤ t.1
  ·
   rw [if_pos h]; exact ⟨h0, .inr ⟨rfl, rfl⟩⟩
  ·
   rw [if_neg h]; exact ⟨by show t.1 + 1 ≤ _; omega, .inr ⟨rfl, h2⟩⟩
theorem Zmm {st : RS} {n : Nat} (h1 : st.2 = false) (h2 : n ≤ st.1.length) : Zub n st = (st.1.take n, (st.1.drop n, false)) := by
 unfold Zub
 rw [h1, Bool.false_or, decide_eq_false (by omega)]
 rfl
theorem Zyj {st : RS} {n : Int} (h : st.2 = true ∨ (st.1.length : Int) < n) : Zub n st = ([], (st.1, true)) := by
 unfold Zub
 have : (st.2 || decide ((st.1.length : Int) < n)) = true := by rw [Bool.or_eq_true, decide_eq_true_eq]; exact h
 rw [this]; rfl
theorem Zmq {b : Str} : ∀ (k : Nat) (s : Str) (t : RT), t.2 = true → Zne b k s t = (s, t)
 | 0, _, _, _ => rfl
 | k + 1, s, t, h => by unfold Zne; rw [if_pos h]
theorem Zqv {b : Str} {t : RT} (h : t.1 < b.length) : Zcb b t = (b.getD t.1 0, (t.1 + 1, t.2)) := by unfold Zcb; rw [if_neg (by omega)]
theorem Zfr {b : Str} {t : RT} (h : b.length ≤ t.1) : Zcb b t = (0, (t.1, true)) := by unfold Zcb; rw [if_pos h]
theorem Zq1 {b : Str} : ∀ (k : Nat) (s : Str) (t : RT), t.2 = false → t.1 ≤ b.length → (t.1 + k ≤ b.length → Zne b k s t = (s ++ (b.drop t.1).take k, (t.1 + k, false))) ∧ (b.length < t.1 + k → (Zne b k s t).2.2 = true ∧ (Zne b k s t).2.1 ≤ b.length)
 | 0, s, t, h, h2 => ⟨fun _ => by unfold Zne; simp [← h], fun q => by omega⟩
 | k + 1, s, t, h, h2 => by
  unfold Zne
  rw [if_neg (by rw [h]; simp)]
  by_cases q : t.1 < b.length
  ·
   rw [Zqv q]
   obtain ⟨i1, i2⟩ := Zq1 (b := b) k (s ++ [b.getD t.1 0]) (t.1 + 1, t.2) h (by show t.1 + 1 ≤ _; omega)
   refine ⟨fun p => ?_, fun p => i2 (by show b.length < t.1 + 1 + k; omega)⟩
   rw [i1 (by show t.1 + 1 + k ≤ _; omega)]
   have e : (b.drop t.1).take (k + 1) = b.getD t.1 0 :: (b.drop (t.1 + 1)).take k := by
    rw [List.drop_eq_getElem_cons q, List.take_succ_cons]
    congr 1
    simp [List.getD, q]
   rw [e]
   refine Prod.ext (by simp) (Prod.ext (by show t.1 + 1 + k = t.1 + (k + 1); omega) rfl)
  ·
   rw [Zfr (by omega), Zmq k _ _ rfl]
   exact ⟨fun p => by omega, fun _ => ⟨rfl, h2⟩⟩
theorem Ziq {b : Str} {s : RS} {t : RT} (h : Alike b s t) : Alike b (Zma s).2 (Zqb b t).2 ∧ ((Zma s).2.2 = false → (Zma s).1 = (Zqb b t).1) := by
 obtain ⟨h1, h2⟩ := Zjq h
 unfold Zma Zqb
 obtain ⟨h0, ⟨k1, k2, k3⟩ | ⟨k1, k2⟩⟩ := h1
 ·
  rw [h2 k1]
  obtain ⟨i1, i2⟩ := Zq1 (b := b) (Zcb b t).1.toNat [] (Zcb b t).2 k2 h0
  have hl : (Zla s).2.1.length = b.length - (Zcb b t).2.1 := by rw [k3]; simp
  by_cases q : (Zcb b t).2.1 + (Zcb b t).1.toNat ≤ b.length
  ·
   rw [i1 q, Zmm k1 (by omega)]
   exact ⟨⟨q, .inl ⟨rfl, rfl, by show (Zla s).2.1.drop _ = _; rw [k3, List.drop_drop]⟩⟩, fun _ => by show (Zla s).2.1.take _ = _; rw [k3]; rfl⟩
  ·
   rw [Zyj (.inr (by omega))]
   obtain ⟨j1, j2⟩ := i2 (by omega)
   exact ⟨⟨j2, .inr ⟨rfl, j1⟩⟩, fun q => by cases q⟩
 ·
  rw [Zyj (.inl k1), Zmq _ _ _ k2]
  exact ⟨⟨h0, .inr ⟨rfl, k2⟩⟩, fun q => by cases q⟩
theorem val_ok {b : Str} : ∀ (k n : Nat) (t : RT), t.1 ≤ b.length → (Zzi b k n t).2.1 ≤ b.length ∧ (t.2 = true → (Zzi b k n t).2.2 = true) ∧ (t.2 = false → (t.1 + k ≤ b.length → Zzi b k n t = (((b.drop t.1).take k).foldl Zmg n, (t.1 + k, false))) ∧ (b.length < t.1 + k → (Zzi b k n t).2.2 = true))
 | 0, n, t, h => ⟨h, fun q => q, fun q => ⟨fun _ => by unfold Zzi; simp [← q], fun p => by omega⟩⟩
 | k + 1, n, t, h => by
  unfold Zzi
  by_cases q : t.1 < b.length
  ·
   rw [Zqv q]
   obtain ⟨i1, i2, i3⟩ := val_ok (b := b) k (Zmg n (b.getD t.1 0)) (t.1 + 1, t.2) (by show t.1 + 1 ≤ _; omega)
   refine ⟨i1, i2, fun e => ⟨fun p => ?_, fun p => (i3 e).2 (by show b.length < t.1 + 1 + k; omega)⟩⟩
   rw [(i3 e).1 (by show t.1 + 1 + k ≤ _; omega)]
   have e : (b.drop t.1).take (k + 1) = b.getD t.1 0 :: (b.drop (t.1 + 1)).take k := by
    rw [List.drop_eq_getElem_cons q, List.take_succ_cons]
    congr 1
    simp [List.getD, q]
   rw [e]
   refine Prod.ext rfl (Prod.ext (by show t.1 + 1 + k = t.1 + (k + 1); omega) rfl)
  ·
   rw [Zfr (by omega)]
   obtain ⟨i1, i2, i3⟩ := val_ok (b := b) k (Zmg n 0) (t.1, true) h
   exact ⟨i1, fun _ => i2 rfl, fun e => ⟨fun p => by omega, fun _ => i2 rfl⟩⟩
theorem Zqj {b : Str} {s : RS} {t : RT} (h : Alike b s t) : Alike b (Zfb s).2 (Zce b t).2 ∧ ((Zfb s).2.2 = false → (Zfb s).1 = (Zce b t).1) := by
 unfold Zfb Zce
 have hh := h.1
 obtain ⟨i1, i2, i3⟩ := val_ok (b := b) 8 0 t hh
 obtain ⟨h0, ⟨k1, k2, k3⟩ | ⟨k1, k2⟩⟩ := h
 ·
  have hl : s.1.length = b.length - t.1 := by rw [k3]; simp
  by_cases q : t.1 + 8 ≤ b.length
  ·
   have e := Zmm (n := 8) k1 (by omega)
   rw [show ((8 : Nat) : Int) = 8 from rfl] at e
   rw [(i3 k2).1 q, e]
   exact ⟨⟨q, .inl ⟨rfl, rfl, by show s.1.drop 8 = _; rw [k3, List.drop_drop]⟩⟩, fun _ => by show numOf (s.1.take 8) = _; rw [k3]; rfl⟩
  ·
   rw [Zyj (.inr (by omega))]
   exact ⟨⟨i1, .inr ⟨rfl, (i3 k2).2 (by omega)⟩⟩, fun q => by cases q⟩
 ·
  rw [Zyj (.inl k1)]
  exact ⟨⟨i1, .inr ⟨rfl, i2 k2⟩⟩, fun q => by cases q⟩
theorem Znq {n : Int} {s : RS} (h : s.2 = true) : (Zub n s).2.2 = true := by rw [Zyj (.inl h)]
theorem Znv {s : RS} (h : s.2 = true) : (Zfb s).2.2 = true := Znq h
theorem Zqu {s : RS} (h : s.2 = true) : (Zla s).2.2 = true := Znq h
theorem text_bad {s : RS} (h : s.2 = true) : (Zma s).2.2 = true := Znq (Zqu h)
theorem Zpd {s : RS} (h : (Zfb s).2.2 = false) : s.2 = false := by
 cases q : s.2 with
 | false => rfl
 | true => rw [Znv q] at h; cases h
theorem Zan {s : RS} (h : (Zla s).2.2 = false) : s.2 = false := by
 cases q : s.2 with
 | false => rfl
 | true => rw [Zqu q] at h; cases h
theorem Ze5 {b : Str} {s : RS} {t : RT} (h : Alike b s t) : Alike b (Zsg s).2 (Zqg b t).2 ∧ ((Zsg s).2.2 = false → (Zsg s).1 = (Zqg b t).1) := by
 obtain ⟨a1, a2⟩ := Ziq h
 obtain ⟨b1, b2⟩ := Zqj a1
 obtain ⟨c1, c2⟩ := Zqj b1
 unfold Zsg Zqg
 refine ⟨c1, fun q => ?_⟩
 have q1 := Zpd q
 have q2 := Zpd q1
 show Dat.mk _ _ _ = Dat.mk _ _ _
 rw [a2 q2, b2 q1, c2 q]
theorem Zco {b : Str} {s : RS} {t : RT} (h : Alike b s t) : s.2 = t.2 := by
 obtain ⟨_, ⟨k1, k2, _⟩ | ⟨k1, k2⟩⟩ := h <;> rw [k1, k2]
theorem Zty : ∀ (k : Nat) (out : List Dat) (s : RS), s.2 = true → (Zvc k out s).2.2 = true
 | 0, _, _, h => h
 | k + 1, out, s, h => by
  unfold Zvc
  have : (Zsg s).2.2 = true := Znv (Znv (text_bad h))
  rw [if_pos this]; exact this
theorem Zum {b : Str} : ∀ (k : Nat) (out : List Dat) (t : RT), t.2 = true → Zwh b k out t = (out, t)
 | 0, _, _, _ => rfl
 | k + 1, out, t, h => by unfold Zwh; rw [if_pos h]
theorem Zkq {b : Str} : ∀ (k : Nat) (out : List Dat) (s : RS) (t : RT), Alike b s t → s.2 = false → Alike b (Zvc k out s).2 (Zwh b k out t).2 ∧ ((Zvc k out s).2.2 = false → (Zvc k out s).1 = (Zwh b k out t).1)
 | 0, out, s, t, h, _ => ⟨h, fun _ => rfl⟩
 | k + 1, out, s, t, h, hs => by
  obtain ⟨a1, a2⟩ := Ze5 h
  have ht : t.2 = false := by rw [← Zco h, hs]
  have er : Zwh b (k + 1) out t = Zwh b k (out ++ [(Zqg b t).1]) (Zqg b t).2 := by rw [Zwh, if_neg (by rw [ht]; simp)]
  rw [er]
  cases q : (Zsg s).2.2 with
  | true =>
   have ep : Zvc (k + 1) out s = (out, (Zsg s).2) := by rw [Zvc, if_pos q]
   rw [ep, Zum k _ _ (by rw [← Zco a1, q])]
   exact ⟨a1, fun q' => by rw [show (out, (Zsg s).2).2.2 = (Zsg s).2.2 from rfl, q] at q'; cases q'⟩
  | false =>
   have ep : Zvc (k + 1) out s = Zvc k (out ++ [(Zsg s).1]) (Zsg s).2 := by rw [Zvc, if_neg (by rw [q]; simp)]
   rw [ep, a2 q]
   exact Zkq k _ _ _ a1 q
theorem Zd5 {b : Str} {s : RS} {t : RT} (h : Alike b s t) : Alike b (Zcp s).2 (Zlv b t).2 ∧ ((Zcp s).2.2 = false → (Zcp s).1 = (Zlv b t).1) := by
 obtain ⟨a1, a2⟩ := Ziq h
 obtain ⟨b1, b2⟩ := Zqj a1
 obtain ⟨c1, c2⟩ := Zqj b1
 obtain ⟨d1, d2⟩ := Zjq c1
 cases q : (Zla (Zfb (Zfb (Zma s).2).2).2).2.2 with
 | false =>
  have q3 := Zan q
  have q2 := Zpd q3
  have q1 := Zpd q2
  obtain ⟨e1, e2⟩ := Zkq (Zla (Zfb (Zfb (Zma s).2).2).2).1 [] _ _ d1 q
  have e := d2 q
  rw [e] at e1 e2
  refine ⟨?_, fun q' => ?_⟩
  ·
   simp only [Zcp, Zlv]
   rw [e]; exact e1
  ·
   simp only [Zcp, Zlv] at q' ⊢
   rw [e] at q' ⊢
   rw [a2 q1, b2 q2, c2 q3, e2 q']
 | true =>
  have h1 := Zty (Zla (Zfb (Zfb (Zma s).2).2).2).1 [] _ q
  have h2 : (Zcb b (Zce b (Zce b (Zqb b t).2).2).2).2.2 = true := by rw [← Zco d1, q]
  simp only [Zcp, Zlv]
  rw [Zum _ [] _ h2, h1]
  exact ⟨⟨d1.1, .inr ⟨h1, h2⟩⟩, fun q' => by cases q'⟩
theorem Zo2 (x : Str) : readR x = readF x := by
 obtain ⟨h0, h1⟩ := Zd5 (b := x) (s := (x, false)) (t := (0, false)) ⟨Nat.zero_le _, .inl ⟨rfl, rfl, rfl⟩⟩
 unfold readR readF
 rcases h0 with ⟨k0, ⟨k1, k2, k3⟩ | ⟨k1, k2⟩⟩
 ·
  rw [k1, k2, h1 k1, k3]
  have : decide ((Zlv x (0, false)).2.1 ≠ x.length) = decide (0 < (x.drop (Zlv x (0, false)).2.1).length) := decide_eq_decide.2 (by simp; omega)
  rw [this]
 ·
  rw [k1, k2]; rfl
def i64 (n : Int) : Prop := -9223372036854775808 ≤ n ∧ n ≤ 9223372036854775807
structure DatSz (d : Dat) : Prop where
 t : d.t.length ≤ 255
 n : i64 d.n
 m : i64 d.m
structure SetSz (s : RSet) : Prop where
 name : s.name.length ≤ 255
 ty : i64 s.ty
 life : i64 s.life
 len : s.data.length ≤ 255
 dat : ∀ d ∈ s.data, DatSz d
theorem Zx2 (l : Str) : i64 (numOf l) := by
 unfold i64 numOf sN
 rw [IntKind.wrap_i64]
 omega
theorem lenB_n {n : Nat} (h : n ≤ 255) : (Zu0 n).toNat = n := by
 unfold Zu0
 simp
 omega
theorem Zk3 (c : UInt8) : Zu0 c.toNat = c := by
 apply UInt8.toNat_inj.1
 rw [lenB_n (by have := c.toNat_lt; omega)]
theorem count_cons (c : UInt8) (r : Str) : Zla (c :: r, false) = (c.toNat, (r, false)) := by
 have e := Zmm (st := (c :: r, false)) (n := 1) rfl (by simp)
 rw [show ((1 : Nat) : Int) = 1 from rfl] at e
 unfold Zla
 rw [e]
 rfl
theorem Ztl {n : Nat} {s : RS} (h : (Zub n s).2.2 = false) : s.2 = false ∧ n ≤ s.1.length := by
 by_cases q : s.2 = true ∨ (s.1.length : Int) < n
 ·
  rw [Zyj q] at h; cases h
 ·
  have : ¬ s.2 = true ∧ ¬ (s.1.length : Int) < n := not_or.1 q
  exact ⟨by simpa using this.1, by omega⟩
theorem Zpu {s : RS} (h : (Zla s).2.2 = false) : ∃ c r, s = (c :: r, false) ∧ Zla s = (c.toNat, (r, false)) := by
 obtain ⟨h1, h2⟩ := Ztl (n := 1) (s := s) h
 obtain ⟨l, b⟩ := s
 simp only at h1 h2
 subst h1
 cases l with
 | nil => simp at h2
 | cons c r => exact ⟨c, r, rfl, count_cons c r⟩
theorem Zdx {s : RS} (h : (Zma s).2.2 = false) : s.1 = Zwb (Zma s).1 ++ (Zma s).2.1 ∧ (Zma s).1.length ≤ 255 := by
 have hc : (Zla s).2.2 = false := (Ztl (n := (Zla s).1) (s := (Zla s).2) h).1
 obtain ⟨c, r, rfl, e⟩ := Zpu hc
 have hl := (Ztl (n := (Zla (c :: r, false)).1) (s := (Zla (c :: r, false)).2) h).2
 unfold Zma
 rw [e] at hl ⊢
 have hl : c.toNat ≤ r.length := hl
 have e2 : Zub (((c.toNat, (r, false)) : Nat × RS).1 : Nat) ((c.toNat, (r, false)) : Nat × RS).2 = (r.take c.toNat, (r.drop c.toNat, false)) := Zmm (st := (r, false)) rfl hl
 rw [e2]
 have hcl := c.toNat_lt
 refine ⟨?_, by show (r.take c.toNat).length ≤ 255; simp; omega⟩
 show c :: r = Zu0 (r.take c.toNat).length :: r.take c.toNat ++ r.drop c.toNat
 have : (r.take c.toNat).length = c.toNat := by simp; omega
 rw [this, Zk3]
 simp
theorem Zer {s : RS} (h : (Zfb s).2.2 = false) : s.1 = be8 (Zfb s).1 ++ (Zfb s).2.1 ∧ i64 (Zfb s).1 := by
 obtain ⟨h1, h2⟩ := Ztl (n := 8) (s := s) h
 have e := Zmm (n := 8) h1 h2
 rw [show ((8 : Nat) : Int) = 8 from rfl] at e
 unfold Zfb
 rw [e]
 refine ⟨?_, Zx2 _⟩
 show s.1 = be8 (numOf (s.1.take 8)) ++ s.1.drop 8
 rw [Zb5 (by simp; omega), List.take_append_drop]
theorem dat_inv {s : RS} (h : (Zsg s).2.2 = false) : s.1 = datB (Zsg s).1 ++ (Zsg s).2.1 ∧ DatSz (Zsg s).1 := by
 have q1 : (Zfb (Zma s).2).2.2 = false := Zpd h
 have q2 := Zpd q1
 obtain ⟨a1, a2⟩ := Zdx q2
 obtain ⟨b1, b2⟩ := Zer q1
 obtain ⟨c1, c2⟩ := Zer (s := (Zfb (Zma s).2).2) h
 refine ⟨?_, ⟨a2, b2, c2⟩⟩
 unfold Zsg datB
 rw [a1, b1, c1]
 simp
theorem Zsy : ∀ (k : Nat) (out : List Dat) (s : RS), s.2 = false → (Zvc k out s).2.2 = false → ∃ l, (Zvc k out s).1 = out ++ l ∧ l.length = k ∧ s.1 = l.flatMap datB ++ (Zvc k out s).2.1 ∧ ∀ d ∈ l, DatSz d
 | 0, out, s, _, _ => ⟨[], by simp [Zvc]⟩
 | k + 1, out, s, hs, h => by
  unfold Zvc at h ⊢
  cases q : (Zsg s).2.2 with
  | true => rw [q, if_pos rfl, q] at h; cases h
  | false =>
   rw [q, if_neg (by simp)] at h
   rw [if_neg (by simp)]
   obtain ⟨a1, a2⟩ := dat_inv q
   obtain ⟨l, b1, b2, b3, b4⟩ := Zsy k _ _ q h
   refine ⟨(Zsg s).1 :: l, by rw [b1]; simp, by simp [b2], by (rw [a1]; (conv => lhs; rw [b3]); simp), fun d hd => ?_⟩
   rcases List.mem_cons.1 hd with e | e
   ·
    subst e; exact a2
   ·
    exact b4 d e
theorem set_inv {s : RS} (h : (Zcp s).2.2 = false) : s.1 = setB (Zcp s).1 ++ (Zcp s).2.1 ∧ SetSz (Zcp s).1 := by
 have hd : (Zvc (Zla (Zfb (Zfb (Zma s).2).2).2).1 [] (Zla (Zfb (Zfb (Zma s).2).2).2).2).2.2 = false := h
 have q4 : (Zla (Zfb (Zfb (Zma s).2).2).2).2.2 = false := by
  cases q : (Zla (Zfb (Zfb (Zma s).2).2).2).2.2 with
  | false => rfl
  | true => rw [Zty _ _ _ q] at hd; cases hd
 have q3 := Zan q4
 have q2 := Zpd q3
 have q1 := Zpd q2
 obtain ⟨a1, a2⟩ := Zdx q1
 obtain ⟨b1, b2⟩ := Zer q2
 obtain ⟨c1, c2⟩ := Zer q3
 obtain ⟨c, r, d1, d2⟩ := Zpu q4
 obtain ⟨l, e1, e2, e3, e4⟩ := Zsy _ _ _ q4 hd
 have hcl := c.toNat_lt
 have hl : l.length = c.toNat := by rw [e2, d2]
 have hs : (Zcp s).1 = ⟨(Zma s).1, (Zfb (Zma s).2).1, (Zfb (Zfb (Zma s).2).2).1, l⟩ := by
  show RSet.mk _ _ _ _ = _
  rw [e1]; rfl
 rw [hs]
 refine ⟨?_, ⟨a2, b2, c2, by show l.length ≤ 255; omega, e4⟩⟩
 have e5 : (Zcp s).2.1 = (Zvc (Zla (Zfb (Zfb (Zma s).2).2).2).1 [] (Zla (Zfb (Zfb (Zma s).2).2).2).2).2.1 := rfl
 rw [e5, a1]
 conv => lhs; rw [b1, c1, d1]
 have e6 : r = (Zla (Zfb (Zfb (Zma s).2).2).2).2.1 := by rw [d2]
 show Zwb _ ++ (be8 _ ++ (be8 _ ++ c :: r)) = (Zwb _ ++ be8 _ ++ be8 _ ++ Zu0 l.length :: l.flatMap datB) ++ _
 rw [hl, Zk3, e6]
 conv => lhs; rw [e3]
 simp
theorem Zmz {k : Int} {t : Str} (h : Ztk k t = true) : t.length ≤ 60 := by
 unfold Ztk at h
 split at h
 ·
  rw [Bool.and_eq_true] at h; exact Zcc h.1
 ·
  split at h
  ·
   exact Zcc h
  ·
   split at h
   ·
    unfold freeB at h
    split at h
    ·
     cases h
    ·
     split at h
     ·
      cases h
     ·
      omega
   ·
    rw [beq_iff_eq] at h; subst h; simp
theorem Zuy {k : Int} (hk : inR k 1 8 = true) {d : Dat} (h : datOk (Zza k.toNat) d = true) : DatSz d ∧ d.t.length ≤ 60 ∧ 0 ≤ d.n ∧ 0 ≤ d.m := by
 unfold datOk at h
 simp only [Bool.and_eq_true, inR_iff] at h
 have ht := Zmz h.2
 have hn := h.1.1.1
 have hm := h.1.1.2
 refine ⟨⟨by omega, ?_, ?_⟩, ht, ?_, ?_⟩ <;> (try unfold i64) <;> rcases kinds hk with e | e | e | e | e | e | e | e <;> subst e <;> simp [Zza] at hn hm <;> omega
def bytesF (s : RSet) : Str × Int := if setOk s then (setB s, 0) else ([], 1)
theorem Zj1 {x : Str} (h : (readF x).2 = 0) : Zqk (readF x).1 ∧ setB (readF x).1 = x := by
 unfold readF at h ⊢
 split at h
 ·
  cases h
 ·
  rename_i q
  rw [if_neg q]
  simp only [Bool.or_eq_true, not_or, decide_eq_true_eq, Bool.not_eq_true', Bool.not_eq_false] at q
  obtain ⟨⟨q1, q2⟩, q3⟩ := q
  have q1 : (Zcp (x, false)).2.2 = false := by simpa using q1
  obtain ⟨h1, _⟩ := set_inv q1
  have h2 : (Zcp (x, false)).2.1 = [] := List.eq_nil_of_length_eq_zero (by omega)
  rw [h2, List.append_nil] at h1
  exact ⟨(Zxb _).1 q3, h1.symm⟩
def cmpF (a b : RSet) : Int × Int := if setOk a && setOk b then (plc a b, 0) else (0, 1)
def sameB (a b : RSet) : Bool := decide (a = b)
def sameSetsB (a b : List RSet) : Bool := decide (a = b)
def sameStr (a b : Str) : Bool := decide (a = b)
def Zio (l : List RSet) (i : Nat) : Bool := decide (l[i]!.data.length ≤ 20) && decide (l[i]!.name.length ≤ 200)
def fewB (l : List RSet) : Bool := decide (l.length ≤ 50) && Zig l.length (Zio l) 0
theorem Zu3 {l : List Int} {n : Nat} (h : n < l.length) : (l.map iR).getD n [] = [.i l[n]!] := by
 simp [List.getD, h, getElem!_pos, iR]
theorem Zpc {l : List Dat} {n : Nat} (h : n < l.length) : (l.map Dat.d).getD n [] = l[n]!.d := by
 simp [List.getD, h, getElem!_pos]
theorem getD_set {l : List RSet} {n : Nat} (h : n < l.length) : (l.map RSet.d).getD n [] = l[n]!.d := by
 simp [List.getD, h, getElem!_pos]
@[go_sem] theorem nrr_iR {l : List Int} : nrr (l.map iR) = true := by
 induction l with
 | nil => rfl
 | cons x l ih => simp only [List.map_cons, nrr, ih]; rfl
@[go_sem] theorem Zyh {l : List Dat} : nrr (l.map Dat.d) = true := by
 induction l with
 | nil => rfl
 | cons x l ih => simp only [List.map_cons, nrr, ih]; rfl
@[go_sem] theorem wkr_dat {l : List Dat} : wkr (l.map Dat.d) = l.map Dat.d := by
 induction l with
 | nil => rfl
 | cons x l ih => simp only [List.map_cons, wkr, ih]; rfl
@[go_sem] theorem Zy2 {l : List RSet} : nrr (l.map RSet.d) = true := by
 induction l with
 | nil => rfl
 | cons x l ih => simp only [List.map_cons, nrr, ih, RSet.d, nrs, D.nr, Zyh]; rfl
@[go_sem] theorem wkr_set {l : List RSet} : wkr (l.map RSet.d) = l.map RSet.d := by
 induction l with
 | nil => rfl
 | cons x l ih => simp only [List.map_cons, wkr, ih, RSet.d, wk, wks, wkr_dat]
theorem Ztq {s : RSet} (c1 : (nameOk s.name = true ∧ inR s.ty 1 8 = true) ∧ inR s.life 0 100000 = true) (c2 : inR s.data.length 1 8 = true) (c3 : ((Zza s.ty.toNat).single = false ∨ (s.data.length : Int) = 1) ∧ (wildB s.name = false ∨ (Zza s.ty.toNat).wild = true)) : setOk s = Zig s.data.length (Zmh s.ty.toNat s.data) 0 := by
 obtain ⟨h1, h2⟩ := c3
 unfold setOk
 rw [c2, c1.1.1, c1.1.2, c1.2]
 rcases h1 with h1 | h1 <;> rcases h2 with h2 | h2 <;> simp [h1, h2]
theorem Zr4 {l : List Dat} {t k : Nat} (h : datOk (Zza t) l[k]! = true ∧ (¬ (0 : Int) < k ∨ ¬ 0 ≤ datC l[k - 1]! l[k]!)) : Zmh t l k = true := by
 unfold Zmh
 rw [Bool.and_eq_true, Bool.or_eq_true, decide_eq_true_eq, decide_eq_true_eq]
 exact ⟨h.1, h.2.imp (fun q => by omega) fun q => by omega⟩
theorem dat_no {l : List Dat} {t k : Nat} (h : datOk (Zza t) l[k]! = false ∨ ((0 : Int) < k ∧ 0 ≤ datC l[k - 1]! l[k]!)) : Zmh t l k = false := by
 unfold Zmh
 rw [Bool.and_eq_false_iff, Bool.or_eq_false_iff, decide_eq_false_iff_not, decide_eq_false_iff_not]
 exact h.imp id fun q => ⟨by omega, by omega⟩
theorem wild4 {k : Int} (w : Bool) (h : inR k 1 8 = true) : (((w && (k != 1)) && (k != 5)) && (k != 8)) = (w && !(Zza k.toNat).wild) := by
 rw [← wild_r h, Bool.and_assoc, Bool.and_assoc, Bool.and_assoc]
theorem Zro {s : RSet} (c1 : (((nameOk s.name = true ∧ inR s.ty 1 8 = true) ∧ inR s.life 0 100000 = true) ∧ inR s.data.length 1 8 = true) ∧ (singleB s.ty = false ∨ ¬ (1 : Int) < s.data.length)) (c2 : wildB s.name = false ∨ (Zza s.ty.toNat).wild = true) : setOk s = Zig s.data.length (Zmh s.ty.toNat s.data) 0 := by
 obtain ⟨⟨⟨⟨h1, h2⟩, h3⟩, h4⟩, h5⟩ := c1
 refine Ztq ⟨⟨h1, h2⟩, h3⟩ h4 ⟨?_, c2⟩
 rw [Zsq h2] at h5
 have := inR_iff.1 h4
 exact h5.imp id fun q => by omega
theorem set_no_r {s : RSet} (c1 : (((nameOk s.name = false ∨ inR s.ty 1 8 = false) ∨ inR s.life 0 100000 = false) ∨ inR s.data.length 1 8 = false) ∨ (singleB s.ty = true ∧ (1 : Int) < s.data.length)) : setOk s = false := by
 cases q : setOk s with
 | false => rfl
 | true =>
  have h := (Zxb s).1 q
  rcases c1 with (((c1 | c1) | c1) | c1) | ⟨c1, c2⟩
  ·
   rw [h.name] at c1; cases c1
  ·
   rw [h.ty] at c1; cases c1
  ·
   rw [h.life] at c1; cases c1
  ·
   have := inR_iff.2 (show (1 : Int) ≤ s.data.length ∧ (s.data.length : Int) ≤ 8 by have := h.len; omega)
   rw [this] at c1; cases c1
  ·
   rw [Zsq h.ty] at c1
   have := h.single c1
   omega
theorem set_no_w {s : RSet} (c : wildB s.name = true ∧ (Zza s.ty.toNat).wild = false) : setOk s = false := by
 cases q : setOk s with
 | false => rfl
 | true =>
  have h := ((Zxb s).1 q).wild c.1
  rw [c.2] at h; cases h
theorem Zq4 {l : List Dat} {t : Int} {k : Nat} (ht : inR t 1 8 = true) (h : rDatOk t l[k]! = true ∧ (¬ (0 : Int) < k ∨ less l[k - 1]! l[k]! = true)) : Zmh t.toNat l k = true := by
 rw [Zs4 ht, Zjr] at h
 exact Zr4 ⟨h.1, h.2.imp id fun q => by have := of_decide_eq_true q; omega⟩
theorem dat_no_r {l : List Dat} {t : Int} {k : Nat} (ht : inR t 1 8 = true) (h : rDatOk t l[k]! = false ∨ ((0 : Int) < k ∧ less l[k - 1]! l[k]! = false)) : Zmh t.toNat l k = false := by
 rw [Zs4 ht, Zjr] at h
 exact dat_no (h.imp id fun q => ⟨q.1, by have := of_decide_eq_false q.2; omega⟩)
theorem cmpF_yes {a b : RSet} (h : setOk a = true ∧ setOk b = true) : cmpF a b = (plC a b, 0) := by
 rw [Zu2 ((Zxb a).1 h.1).name ((Zxb b).1 h.2).name]
 unfold cmpF; rw [h.1, h.2]; rfl
theorem Zg1 {a b : RSet} (h : setOk a = true ∧ setOk b = true) : cmpF a b = (rOrd a b, 0) := by
 rw [Zq2 ((Zxb a).1 h.1).name ((Zxb b).1 h.2).name]
 unfold cmpF; rw [h.1, h.2]; rfl
theorem Zu4 {a b : RSet} (h : setOk a = false ∨ setOk b = false) : cmpF a b = (0, 1) := by
 unfold cmpF
 rcases h with h | h <;> simp [h]
theorem Zi2 {a b : RSet} (h1 : ((a.name = b.name ∧ a.ty = b.ty) ∧ a.life = b.life) ∧ (a.data.length : Int) = b.data.length) (h2 : ∀ i, i < a.data.length → a.data[i]! = b.data[i]!) : sameB a b = true := by
 unfold sameB
 rw [decide_eq_true_eq]
 obtain ⟨an, at', al, ad⟩ := a
 obtain ⟨bn, bt, bl, bd⟩ := b
 simp only at h1 h2
 obtain ⟨⟨⟨rfl, rfl⟩, rfl⟩, h3⟩ := h1
 congr 1
 refine List.ext_getElem (by omega) fun i hi hj => ?_
 have := h2 i hi
 rwa [getElem!_pos ad i hi, getElem!_pos bd i hj] at this
theorem sameB_no {a b : RSet} (h : ((a.name ≠ b.name ∨ a.ty ≠ b.ty) ∨ a.life ≠ b.life) ∨ (a.data.length : Int) ≠ b.data.length) : sameB a b = false := by
 unfold sameB
 rw [decide_eq_false_iff_not]
 rintro rfl
 simp at h
theorem sameB_at {a b : RSet} {k : Nat} (h : a.data[k]! ≠ b.data[k]!) : sameB a b = false := by
 unfold sameB
 rw [decide_eq_false_iff_not]
 rintro rfl
 exact h rfl
theorem Zqs {a b : List RSet} (h1 : (a.length : Int) = b.length) (h2 : ∀ i, i < a.length → a[i]! = b[i]!) : sameSetsB a b = true := by
 unfold sameSetsB
 rw [decide_eq_true_eq]
 refine List.ext_getElem (by omega) fun i hi hj => ?_
 have := h2 i hi
 rwa [getElem!_pos a i hi, getElem!_pos b i hj] at this
theorem Zhv {a b : List RSet} (h : (a.length : Int) ≠ b.length) : sameSetsB a b = false := by
 unfold sameSetsB
 rw [decide_eq_false_iff_not]
 rintro rfl
 exact h rfl
theorem Ziv {a b : List RSet} {k : Nat} (h : sameB a[k]! b[k]! = false) : sameSetsB a b = false := by
 unfold sameSetsB
 rw [decide_eq_false_iff_not]
 rintro rfl
 simp [sameB] at h
theorem sameB_iff {a b : RSet} : sameB a b = true ↔ a = b := decide_eq_true_iff
theorem dat_same {x y : Dat} (h : (!(x.t == y.t && (x.n == y.n && x.m == y.m))) = false) : x = y := by
 obtain ⟨a, b, c⟩ := x
 obtain ⟨d, e, f⟩ := y
 simp at h
 simp [h]
theorem dat_diff {x y : Dat} (h : (!(x.t == y.t && (x.n == y.n && x.m == y.m))) = true) : x ≠ y := by
 rintro rfl
 simp at h
@[go_sem] theorem rowsOf_str {t : Str} {h : H} : rowsOf (.v (.string (bs t))) h = t.map bD := by
 simp only [rowsOf, Zzn]; rfl
@[go_sem] theorem wrap8_len (n : Nat) : IntKind.u8.wrap (n : Int) = ((Zu0 n).toNat : Int) := by
 rw [IntKind.wrap_u8]
 simp [Zu0]
theorem Zus (k : Nat) : (Zza k).even = true → 0 ≤ (Zza k).n0 := by
 unfold Zza
 split <;> simp
end Go.Rec
namespace Go.Cmp
variable {α : Type} [Inhabited α] {c : α → α → Int}
def sw (s : List α) (i j : Nat) : List α := (s.set i s[j]!).set j s[i]!
theorem Zpb {A : List α} {x : α} {B : List α} {i : Nat} (h : i = A.length) : (A ++ x :: B)[i]! = x := by
 subst h
 rw [getElem!_pos (A ++ x :: B) A.length (by simp)]
 simp
theorem Zuq {A : List α} {x y : α} {B : List α} {i : Nat} (h : i = A.length) : (A ++ x :: B).set i y = A ++ y :: B := by
 subst h
 rw [List.set_append_right (h := Nat.le_refl _)]
 simp
theorem sw_app {A M B : List α} {x y : α} {i j : Nat} (hi : i = A.length) (hj : j = A.length + 1 + M.length) : sw (A ++ x :: (M ++ y :: B)) i j = A ++ y :: (M ++ x :: B) := by
 have e : A ++ x :: (M ++ y :: B) = (A ++ x :: M) ++ y :: B := by simp
 have h1 : (A ++ x :: (M ++ y :: B))[j]! = y := by rw [e]; exact Zpb (by simp; omega)
 have h2 : (A ++ x :: (M ++ y :: B))[i]! = x := Zpb hi
 unfold sw
 rw [h1, h2, Zuq hi]
 have e2 : A ++ y :: (M ++ y :: B) = (A ++ y :: M) ++ y :: B := by simp
 rw [e2, Zuq (by simp; omega)]
 simp
theorem Zb2 {A M B : List α} {x y : α} {i j : Nat} (hi : i = A.length) (hj : j = A.length + 1 + M.length) : sw (A ++ x :: (M ++ y :: B)) j i = A ++ y :: (M ++ x :: B) := by
 have e : A ++ x :: (M ++ y :: B) = (A ++ x :: M) ++ y :: B := by simp
 have h1 : (A ++ x :: (M ++ y :: B))[j]! = y := by rw [e]; exact Zpb (by simp; omega)
 have h2 : (A ++ x :: (M ++ y :: B))[i]! = x := Zpb hi
 unfold sw
 rw [h1, h2, e, Zuq (by simp; omega)]
 have e2 : (A ++ x :: M) ++ x :: B = A ++ x :: (M ++ x :: B) := by simp
 rw [e2, Zuq hi]
theorem Znd (s : List α) (i j : Nat) : (sw s i j).length = s.length := by simp [sw]
theorem Zrf {α : Type} (X : List α) (k : Nat) (h : k ≤ X.length) : ∃ X1 X2, X = X1 ++ X2 ∧ X1.length = k := ⟨X.take k, X.drop k, (List.take_append_drop k X).symm, by simp; omega⟩
theorem Zxa (h : Cm c) {X Y : List α} : Sorted c (X ++ Y) ↔ Sorted c X ∧ Sorted c Y ∧ ∀ x ∈ X, ∀ y ∈ Y, c x y ≤ 0 := List.pairwise_append
theorem Zuf (h : Cm c) {X Y : List α} (hX : Sorted c X) (hY : Sorted c Y) (hm : ∀ p x y q, X = p ++ [x] → Y = y :: q → c x y ≤ 0) : Sorted c (X ++ Y) := by
 refine (Zxa h).2 ⟨hX, hY, fun x hx y hy => ?_⟩
 rcases List.eq_nil_or_concat X with e | ⟨p, z, e⟩
 ·
  subst e; cases hx
 ·
  rw [List.concat_eq_append] at e
  cases Y with
  | nil => cases hy
  | cons w q =>
   have h1 : c z w ≤ 0 := hm p z w q e rfl
   have h2 : c x z ≤ 0 := by
    subst e
    rcases List.mem_append.1 hx with k | k
    ·
     exact ((Zxa h).1 hX).2.2 x k z (by simp)
    ·
     simp at k; subst k; have := h.self x; omega
   have h3 : c w y ≤ 0 := by
    rcases List.mem_cons.1 hy with k | k
    ·
     subst k; have := h.self y; omega
    ·
     exact (List.pairwise_cons.1 hY).1 y k
   exact h.tr _ _ _ h2 (h.tr _ _ _ h1 h3)
def Mg (c : α → α → Int) (X Y Z : List α) : Prop := Z.Perm (X ++ Y) ∧ Sorted c Z
theorem mg_all (h : Cm c) {X Y Z U V W : List α} (k1 : Mg c X Y Z) (k2 : Mg c U V W) (h1 : ∀ z ∈ X ++ Y, ∀ w ∈ U ++ V, c z w ≤ 0) : Sorted c (Z ++ W) :=
 (Zxa h).2 ⟨k1.2, k2.2, fun z hz w hw => h1 z (k1.1.mem_iff.1 hz) w (k2.1.mem_iff.1 hw)⟩
theorem mg_cut (h : Cm c) {X1 X2 Y1 Y2 Z W : List α} (hX : Sorted c (X1 ++ X2)) (hY : Sorted c (Y1 ++ Y2)) (ha : ∀ p x y q, X1 = p ++ [x] → Y2 = y :: q → c x y ≤ 0) (hb : ∀ p y x q, Y1 = p ++ [y] → X2 = x :: q → c y x ≤ 0)
  (k1 : Mg c X1 Y1 Z) (k2 : Mg c X2 Y2 W) : Mg c (X1 ++ X2) (Y1 ++ Y2) (Z ++ W) := by
 have sX := (Zxa h).1 hX
 have sY := (Zxa h).1 hY
 have j1 := (Zxa h).1 (Zuf h sX.1 sY.2.1 ha)
 have j2 := (Zxa h).1 (Zuf h sY.1 sX.2.1 hb)
 refine ⟨?_, mg_all h k1 k2 fun z hz w hw => ?_⟩
 ·
  refine (k1.1.append k2.1).trans ?_
  have : (X1 ++ Y1 ++ (X2 ++ Y2)).Perm (X1 ++ (X2 ++ Y1) ++ Y2) := by
   have e : X1 ++ Y1 ++ (X2 ++ Y2) = X1 ++ (Y1 ++ X2) ++ Y2 := by simp
   rw [e]
   exact (List.Perm.append_left _ List.perm_append_comm).append_right _
  refine this.trans (by simp)
 ·
  rcases List.mem_append.1 hz with q | q <;> rcases List.mem_append.1 hw with r | r
  ·
   exact sX.2.2 z q w r
  ·
   exact j1.2.2 z q w r
  ·
   exact j2.2.2 z q w r
  ·
   exact sY.2.2 z q w r
theorem Zby {Y : List α} (h : Sorted c Y) : Mg c [] Y Y := ⟨.refl _, h⟩
theorem Zay {X : List α} (h : Sorted c X) : Mg c X [] X := ⟨by simp, h⟩
theorem Zir (h : Cm c) {x : α} {Y1 Y2 : List α} (hY : Sorted c (Y1 ++ Y2)) (h1 : ∀ p y, Y1 = p ++ [y] → c y x ≤ 0) (h2 : ∀ y q, Y2 = y :: q → c x y ≤ 0) : Mg c [x] (Y1 ++ Y2) (Y1 ++ x :: Y2) := by
 have sY := (Zxa h).1 hY
 refine ⟨List.perm_middle, ?_⟩
 have hx : Sorted c ([x] ++ Y2) := Zuf h (by simp [Sorted]) sY.2.1 fun p z y q e1 e2 => by
  have : z = x := by
   rcases p with _ | ⟨w, p⟩
   ·
    simpa using e1.symm
   ·
    simp at e1
  subst this; exact h2 y q e2
 exact Zuf h sY.1 hx fun p y z q e1 e2 => by
  have : z = x := by simpa using (List.cons.inj e2).1.symm
  subst this; exact h1 p y e1
theorem mg_one_r (h : Cm c) {x : α} {Y1 Y2 : List α} (hY : Sorted c (Y1 ++ Y2)) (h1 : ∀ p y, Y1 = p ++ [y] → c y x ≤ 0) (h2 : ∀ y q, Y2 = y :: q → c x y ≤ 0) : Mg c (Y1 ++ Y2) [x] (Y1 ++ x :: Y2) := by
 obtain ⟨k1, k2⟩ := Zir h hY h1 h2
 exact ⟨k1.trans List.perm_append_comm, k2⟩
def Zkj (c : α → α → Int) (s : List α) (a j : Nat) : List α := if a < j ∧ c s[j]! s[j - 1]! < 0 then Zkj c (sw s j (j - 1)) a (j - 1) else s
termination_by j
decreasing_by omega
theorem Zxf (c : α → α → Int) (s : List α) (a j : Nat) : Zkj c s a j = if a < j ∧ c s[j]! s[j - 1]! < 0 then Zkj c (sw s j (j - 1)) a (j - 1) else s := by rw [Zkj]
def Zeg (c : α → α → Int) (s : List α) (a b i : Nat) : List α := if i < b then Zeg c (Zkj c s a i) a b (i + 1) else s
termination_by b - i
theorem Zbd (c : α → α → Int) (s : List α) (a b i : Nat) : Zeg c s a b i = if i < b then Zeg c (Zkj c s a i) a b (i + 1) else s := by rw [Zeg]
def Zlh (c : α → α → Int) (s : List α) (a b : Nat) : List α := Zeg c s a b (a + 1)
theorem Zxg (c : α → α → Int) (s : List α) (a j : Nat) : (Zkj c s a j).length = s.length := by
 rw [Zxf]
 split
 ·
  rw [Zxg c _ a (j - 1), Znd]
 ·
  rfl
termination_by j
decreasing_by omega
theorem Zjp (c : α → α → Int) (s : List α) (a b i : Nat) : (Zeg c s a b i).length = s.length := by
 rw [Zbd]
 split
 ·
  rw [Zjp c _ a b (i + 1), Zxg]
 ·
  rfl
termination_by b - i
theorem Zgy (h : Cm c) {S1 S2 : List α} {x : α} (hs : Sorted c (S1 ++ S2)) (h2 : ∀ y ∈ S2, c x y < 0) (h1 : ∀ p y, S1 = p ++ [y] → ¬ c x y < 0) : Sorted c (S1 ++ x :: S2) :=
 (Zir h hs (fun p y e => by have := h1 p y e; have := h.anti x y; omega) fun y q e => by have := h2 y (by rw [e]; simp); omega).2
theorem Zxt (h : Cm c) {A R S1 S2 : List α} {x : α} (hs : Sorted c (S1 ++ S2)) (h2 : ∀ y ∈ S2, c x y < 0) :
  ∃ S', Zkj c (A ++ (S1 ++ x :: (S2 ++ R))) A.length (A.length + S1.length) = A ++ (S' ++ R) ∧ S'.Perm (x :: (S1 ++ S2)) ∧ Sorted c S' := by
 rw [Zxf]
 rcases List.eq_nil_or_concat S1 with e | ⟨p, y, e⟩
 ·
  subst e
  rw [if_neg (by simp)]
  exact ⟨x :: S2, by simp, by simp, by
   have := Zgy h (S1 := []) hs h2 fun p y e => by simp at e
   simpa using this⟩
 ·
  rw [List.concat_eq_append] at e
  subst e
  have hj : A.length + (p ++ [y]).length = (A ++ (p ++ [y])).length := by simp
  have e1 : (A ++ ((p ++ [y]) ++ x :: (S2 ++ R)))[A.length + (p ++ [y]).length]! = x := by
   rw [← List.append_assoc]; exact Zpb hj
  have e0 : A ++ ((p ++ [y]) ++ x :: (S2 ++ R)) = (A ++ p) ++ y :: x :: (S2 ++ R) := by simp
  have e2 : (A ++ ((p ++ [y]) ++ x :: (S2 ++ R)))[A.length + (p ++ [y]).length - 1]! = y := by
   rw [e0]; exact Zpb (by simp <;> omega)
  rw [e1, e2]
  by_cases q : c x y < 0
  ·
   rw [if_pos ⟨by simp <;> omega, q⟩]
   have e3 : sw (A ++ ((p ++ [y]) ++ x :: (S2 ++ R))) (A.length + (p ++ [y]).length) (A.length + (p ++ [y]).length - 1) = A ++ (p ++ x :: ((y :: S2) ++ R)) := by
    rw [e0]
    have := Zb2 (A := A ++ p) (M := []) (B := S2 ++ R) (x := y) (y := x) (i := A.length + (p ++ [y]).length - 1) (j := A.length + (p ++ [y]).length) (by simp <;> omega) (by simp <;> omega)
    rw [List.nil_append] at this
    rw [this]
    simp
   rw [e3]
   have e4 : A.length + (p ++ [y]).length - 1 = A.length + p.length := by simp <;> omega
   rw [e4]
   have hs' : Sorted c (p ++ y :: S2) := by simpa using hs
   obtain ⟨S', k1, k2, k3⟩ := Zxt h (A := A) (R := R) (S1 := p) (S2 := y :: S2) (x := x) hs' fun z hz => by
    rcases List.mem_cons.1 hz with e | e
    ·
     subst e; exact q
    ·
     exact h2 z e
   exact ⟨S', k1, by simpa using k2, k3⟩
  ·
   rw [if_neg (by simp [q])]
   exact ⟨(p ++ [y]) ++ x :: S2, by simp, List.perm_middle, Zgy h hs h2 fun p' y' e => by
    have := List.append_inj_right' e rfl
    simp at this; subst this; exact q⟩
termination_by S1.length
decreasing_by all_goals (first | (simp; done) | omega | (simp_all; done) | (simp_all; omega))
theorem Zkp (h : Cm c) {A B : List α} : ∀ (R S : List α), Sorted c S → ∃ M', Zeg c (A ++ (S ++ (R ++ B))) A.length (A.length + S.length + R.length) (A.length + S.length) = A ++ (M' ++ B) ∧ M'.Perm (S ++ R) ∧ Sorted c M'
 | [], S, hs => ⟨S, by rw [Zbd, if_neg (by simp)]; simp, by simp, hs⟩
 | x :: R, S, hs => by
  rw [Zbd, if_pos (by simp)]
  obtain ⟨S', k1, k2, k3⟩ := Zxt h (A := A) (R := R ++ B) (S1 := S) (S2 := []) (x := x) (by simpa using hs) (by simp)
  have e : A ++ (S ++ ((x :: R) ++ B)) = A ++ (S ++ x :: ([] ++ (R ++ B))) := by simp
  rw [e, k1]
  have hl : S'.length = S.length + 1 := by have := k2.length_eq; simpa using this
  obtain ⟨M', m1, m2, m3⟩ := Zkp h (A := A) (B := B) R S' k3
  have e2 : A.length + S.length + (x :: R).length = A.length + S'.length + R.length := by simp; omega
  have e3 : A.length + S.length + 1 = A.length + S'.length := by omega
  rw [e2, e3]
  refine ⟨M', m1, m2.trans ?_, m3⟩
  refine (k2.append_right R).trans ?_
  simp only [List.append_nil]
  exact List.perm_middle.symm
theorem Ztt (h : Cm c) {A M B : List α} : ∃ M', Zlh c (A ++ (M ++ B)) A.length (A.length + M.length) = A ++ (M' ++ B) ∧ M'.Perm M ∧ Sorted c M' := by
 unfold Zlh
 cases M with
 | nil => exact ⟨[], by rw [Zbd, if_neg (by simp)], .refl _, by simp [Sorted]⟩
 | cons x M =>
  have := Zkp h (A := A) (B := B) M [x] (by simp [Sorted])
  simpa [Nat.add_comm, Nat.add_left_comm] using this
end Go.Cmp
namespace Go.Rec
open Go.DL Go.Str Go.Cmp
def keepD (y _ : Dat) : Dat := y
theorem Zw1 : Un datC keepD := by
 refine ⟨fun x y _ => cm_dat.self x, fun x y h => Zzr h, fun x y z h k => rfl⟩
def canon (l : List Dat) : List Dat := l.foldl (ins datC keepD) []
theorem canon_eq {s l : List Dat} (hs : Zjb datC s) (p : s.Perm l) : canon l = s := by
 unfold canon
 rw [← Zmr cm_dat Zw1 p [], Zdu s [] (by simp) hs, List.nil_append]
def Zjn (l : List RSet) (a : Int) : Int := l.foldl (fun a x => min a x.life) a
def uniteF (l : List RSet) : RSet := ⟨l[0]!.name, l[0]!.ty, Zjn l l[0]!.life, canon (l.flatMap RSet.data)⟩
def Zni (s : List RSet) (k : Nat) : Nat := if k < s.length ∧ s[k]!.ty = s[0]!.ty ∧ s[k]!.name = s[0]!.name then Zni s (k + 1) else k
termination_by s.length - k
theorem Zmi (s : List RSet) (k : Nat) : Zni s k = if k < s.length ∧ s[k]!.ty = s[0]!.ty ∧ s[k]!.name = s[0]!.name then Zni s (k + 1) else k := by rw [Zni]
theorem Zuw (s : List RSet) (k : Nat) (h : k ≤ s.length) : k ≤ Zni s k ∧ Zni s k ≤ s.length := by
 rw [Zmi]
 split
 ·
  rename_i q
  have := Zuw s (k + 1) (by omega)
  omega
 ·
  exact ⟨Nat.le_refl _, h⟩
termination_by s.length - k
def Zkt (s out : List RSet) : List RSet × Int :=
 if h : 0 < s.length then
  (if (Zza (uniteF (s.take (Zni s 1))).ty.toNat).single = true ∧ 1 < (uniteF (s.take (Zni s 1))).data.length then ([], 35)
  else if 8 < (uniteF (s.take (Zni s 1))).data.length then ([], 2)
  else Zkt (s.drop (Zni s 1)) (out ++ [uniteF (s.take (Zni s 1))]))
 else (out, 0)
termination_by s.length
decreasing_by
 have := Zuw s 1 h
 simp; omega
theorem Zoe (s out : List RSet) : Zkt s out = if 0 < s.length then
  (if (Zza (uniteF (s.take (Zni s 1))).ty.toNat).single = true ∧ 1 < (uniteF (s.take (Zni s 1))).data.length then ([], 35)
  else if 8 < (uniteF (s.take (Zni s 1))).data.length then ([], 2)
  else Zkt (s.drop (Zni s 1)) (out ++ [uniteF (s.take (Zni s 1))]))
 else (out, 0) := by
 rw [Zkt]
 split <;> rfl
theorem Zhs {l : List RSet} {k : Nat} (h : k < l.length) : (l.take (k + 1)).flatMap RSet.data = (l.take k).flatMap RSet.data ++ l[k]!.data := by
 rw [List.take_add_one, List.getElem?_eq_getElem h, List.flatMap_append, getElem!_pos l k h]
 simp
theorem Zgs {l : List RSet} {k : Nat} (h : k < l.length) (a : Int) : Zjn (l.take (k + 1)) a = min (Zjn (l.take k) a) l[k]!.life := by
 unfold Zjn
 rw [List.take_add_one, List.getElem?_eq_getElem h, List.foldl_append, getElem!_pos l k h]
 simp
theorem canon_len (l : List Dat) : (canon l).length ≤ l.length := by
 have key : ∀ (l acc : List Dat), (l.foldl (ins datC keepD) acc).length ≤ acc.length + l.length := by
  have one : ∀ (acc : List Dat) (x : Dat), (ins datC keepD acc x).length ≤ acc.length + 1 := by
   intro acc
   induction acc with
   | nil => intro x; simp [ins]
   | cons y r ih => intro x; unfold ins; split <;> (try split) <;> simp <;> exact ih x
  intro l
  induction l with
  | nil => intro acc; simp
  | cons x l ih =>
   intro acc
   have h1 := one acc x
   have h2 := ih (ins datC keepD acc x)
   simp only [List.foldl_cons, List.length_cons]
   omega
 have := key l []
 unfold canon
 simpa using this
def Zrj (life : Int) (l : List Int) : RSet := ⟨[120], 1, life, l.map fun n => ⟨[], n, 0⟩⟩
theorem take_one {α : Type} [Inhabited α] {l : List α} {k : Nat} (h : k < l.length) : l.take (k + 1) = l.take k ++ [l[k]!] := by
 rw [List.take_add_one, List.getElem?_eq_getElem h, getElem!_pos l k h]
 rfl
end Go.Rec
