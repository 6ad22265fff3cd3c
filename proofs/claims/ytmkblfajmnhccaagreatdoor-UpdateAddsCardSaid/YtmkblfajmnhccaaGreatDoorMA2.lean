/-
  MANY TEXTS OF MINE IN ONE (a claim has a limit of files): DDraw, DW, DSimp, DWalk, DRange, DFrame, DSh, DGrow, DSl, DPan, DFar. Conditions: none.
-/
import Derived.Deep.LoopGhost
import Derived.RangeFuncRecord
import Derived.Lib.SliceRun
import Derived.KernelRfl
import Derived.Shelf.Spec.SlicesGrow
import Derived.BigFrame
import Derived.Lib.Overlaps
import Derived.RecoverIn
import Derived.Test.YtmkblfajmnhccaaGreatDoorMA1
set_option linter.unusedVariables false
set_option linter.unusedSimpArgs false
set_option linter.unusedSectionVars false
namespace Go.DL
open Go.RowKit
variable {P : Program} {C : Con} {B : Bot}
def tmpOf : Operand → Option Tmp
 | .tmp t => some t
 | _ => none
def looks (L : List Oper) (o : Oper) : List Tmp :=
 (Zja o.op).filterMap tmpOf ++ (match o.guard with | some (j, _) => ((L[j]?).bind (·.dst)).toList | none => [])
def meets : Cls → Cls → Bool
 | .none, _ | _, .none => false
 | .reads, .reads => false
 | _, _ => true
def Zno (C : Con) (L : List Oper) (x y : Oper) : Bool :=
 (match x.dst with | some d => !(looks L y).contains d && y.dst != some d | none => true) &&
 (match y.dst with | some d => !(looks L x).contains d | none => true) && !meets (cls C x.op) (cls C y.op)
def maker (o : Oper) : Bool := (match o.op with | .alloc _ | .box _ _ | .makeSlice .. | .buildSlice .. => true | _ => false) && o.guard.isNone
def Ztl (op : Op) : Bool := match op with
 | .load .. | .indexAddr .. | .slice .. | .lookup .. => true
 | _ => false
def reader (o : Oper) : Bool := Ztl o.op && o.guard.isNone
def Zcd (C : Con) (o : Oper) : Bool := match o.op with
 | .call { callee := .value f, .. } => Zoh f
 | _ => true
def Zcc (L : List Oper) (x y : Oper) : Bool :=
 (match x.dst with | some d => !(looks L y).contains d && y.dst != some d | none => true) &&
 (match y.dst with | some d => !(looks L x).contains d | none => true)
def Zpe (C : Con) (L : List Oper) (x y : Oper) : Bool :=
 Zno C L x y || (Zcc L x y && L.all (Zcd C) && ((maker x && reader y) || (reader x && maker y) || (maker x && maker y)))
def Zi4 (acc : List Nat) (o : Oper) : Nat := o.after.toList.foldl (fun s e => if Region.binds .any e then s ||| 2 ^ e.on ||| acc.getD e.on 0 else s) 0
def Zrn : List Oper → List Nat → List Nat
 | [], acc => acc
 | o :: os, acc => Zrn os (acc ++ [Zi4 acc o])
def Zlo (C : Con) (L : List Oper) : Bool :=
 let B := Zrn L []
 (List.range L.length).all fun i => (List.range i).all fun j => (B.getD i 0).testBit j || Zpe C L (L.getD j default) (L.getD i default)
theorem Zkz : ∀ (os : List Oper) (acc : List Nat), ∃ B, Zrn os acc = acc ++ B ∧ B.length = os.length ∧ ∀ (k : Nat) o, os[k]? = some o → B[k]? = some (Zi4 (acc ++ B.take k) o)
 | [], acc => ⟨[], by simp [Zrn], rfl, fun k o h => by simp at h⟩
 | o :: os, acc => by
  obtain ⟨B, h1, h2, h3⟩ := Zkz os (acc ++ [Zi4 acc o])
  refine ⟨Zi4 acc o :: B, by simp [Zrn, h1], by simp [h2], fun k o' hk => ?_⟩
  cases k with
  | zero => simp at hk; subst hk; simp
  | succ k =>
   simp at hk
   have := h3 k o' hk
   simpa using this
theorem Zcu (acc : List Nat) (j : Nat) : ∀ (es : List Edge) (s : Nat), (es.foldl (fun s e => if Region.binds .any e then s ||| 2 ^ e.on ||| acc.getD e.on 0 else s) s).testBit j = true →
  s.testBit j = true ∨ ∃ e ∈ es, Region.binds .any e = true ∧ (e.on = j ∨ (acc.getD e.on 0).testBit j = true)
 | [], s, h => .inl h
 | e :: es, s, h => by
  simp only [List.foldl_cons] at h
  rcases Zcu acc j es _ h with h | ⟨e', h1, h2, h3⟩
  ·
   split at h
   ·
    rename_i hb
    simp only [Nat.testBit_or, Bool.or_eq_true] at h
    rcases h with (h | h) | h
    ·
     exact .inl h
    ·
     rw [Nat.testBit_two_pow] at h
     exact .inr ⟨e, by simp, hb, .inl (by simpa using h)⟩
    ·
     exact .inr ⟨e, by simp, hb, .inr h⟩
   ·
    exact .inl h
  ·
   exact .inr ⟨e', by simp [h1], h2, h3⟩
theorem Zde {L : List Oper} {X : Nat → Prop} (hX : ∀ (i : Nat) o, L[i]? = some o → X i → ∀ e ∈ o.after.toList, Region.binds .any e = true → X e.on) :
  ∀ (i : Nat) o, L[i]? = some o → (∀ e ∈ o.after.toList, Region.binds .any e = true → X e.on) → ∀ j, ((Zrn L []).getD i 0).testBit j = true → X j := by
 obtain ⟨BB, h1, h2, h3⟩ := Zkz L []
 simp only [List.nil_append] at h1 h3
 rw [h1]
 intro i
 induction i using Nat.strongRecOn with
 | _ i ih =>
  intro o hi hp j hj
  have hBi := h3 i o hi
  rw [List.getD, hBi, Option.getD_some] at hj
  rcases Zcu _ j _ _ hj with h | ⟨e, he, hb, h⟩
  ·
   simp at h
  ·
   rcases h with rfl | h
   ·
    exact hp e he hb
   ·
    rw [List.getD, List.getElem?_take] at h
    split at h
    ·
     rename_i hlt
     have hlB : i < BB.length := by have := (List.getElem?_eq_some_iff.1 hBi).1; exact this
     have hlL : e.on < L.length := by omega
     exact ih e.on hlt L[e.on] (by simp) (hX e.on _ (by simp) (hp e he hb)) j h
    ·
     simp at h
def Zwb (P : Program) [Glob P] (W : Words) (C : Con) (L : List Oper) (b i : Nat) (o : Oper) (n : Nat) (ev : Operand → D) (t : Nat → D) (h : H) : D × H × Prop :=
 match o.guard with
 | none => let r := Zub P W C true o.op ((Zja o.op).map ev) h (b + i); (r.1, r.2.1, Ztb n o.dst = true ∧ r.2.2)
 | some (j, want) =>
  let gd := ((L[j]?).bind (·.dst)).elim .junk t
  let r := Zub P W C (Zyt gd want) o.op ((Zja o.op).map ev) h (b + i)
  (.cond (Zyt gd want) r.1, h, Ztb n o.dst = true ∧ gok gd = true ∧ cls C o.op ≠ .writes ∧ (Zyt gd want = true → r.2.2))
theorem Zta [Glob P] {W : Words} {L : List Oper} {b i : Nat} {o : Oper} {s : S} : Zva P W C L b i o s =
  { s with t := s.put o.dst (Zwb P W C L b i o s.n s.ev s.t s.h).1, h := (Zwb P W C L b i o s.n s.ev s.t s.h).2.1, ok := s.ok ∧ (Zwb P W C L b i o s.n s.ev s.t s.h).2.2 } := by
 unfold Zva Zwb
 cases o.guard <;> rfl
theorem Znh [Glob P] {W : Words} {L : List Oper} {b i : Nat} {o : Oper} {s s' : S} {n : Nat} {h : H} (he : ∀ x ∈ looks L o, s.t x = s'.t x) : Zwb P W C L b i o n s.ev s.t h = Zwb P W C L b i o n s'.ev s'.t h := by
 have h1 : (Zja o.op).map s.ev = (Zja o.op).map s'.ev := by
  refine List.map_congr_left fun x hx => ?_
  cases x with
  | tmp t => exact he t (List.mem_append.2 (.inl (List.mem_filterMap.2 ⟨.tmp t, hx, rfl⟩)))
  | _ => rfl
 unfold Zwb
 cases hg : o.guard with
 | none => simp only [h1]
 | some jw =>
  obtain ⟨j, want⟩ := jw
  have h2 : ((L[j]?).bind (·.dst)).elim D.junk s.t = ((L[j]?).bind (·.dst)).elim D.junk s'.t := by
   cases hd : (L[j]?).bind (·.dst) with
   | none => rfl
   | some d => exact he d (List.mem_append.2 (.inr (by rw [hg]; simp [hd])))
  simp only [h1, h2]
theorem Zaw [Glob P] {W : Words} {op : Op} {xs : List D} {h h' : H} {b : Nat} (hc : cls C op = .none) : eff P W C op xs h b = ((eff P W C op xs h' b).1, h, (eff P W C op xs h' b).2.2) := by
 unfold eff
 split <;> first
  | rfl
  | (exfalso; exact Cls.noConfusion hc)
  | skip
 ·
  rename_i t n ps
  have hb : C.bs = false := by
   cases hb : C.bs with
   | false => rfl
   | true => simp [cls, hb] at hc
  simp only [hb, Bool.false_eq_true, if_false]
  rfl
 ·
  rename_i f args argTypes
  have hcf : C.cf = true := by
   cases hcf : C.cf with
   | true => rfl
   | false => simp [cls, hcf, Zoh] at hc
  unfold Zpg
  split
  ·
   simp only [hcf, if_true]
   split <;> rfl
  ·
   simp only [hcf, if_true]
   split <;> rfl
  ·
   rfl
theorem Zcz [Glob P] {W : Words} {g : Bool} {op : Op} {xs : List D} {h h' : H} {b : Nat} (hc : cls C op = .none) : Zub P W C g op xs h b = ((Zub P W C g op xs h' b).1, h, (Zub P W C g op xs h' b).2.2) := by
 unfold Zub
 split
 ·
  rfl
 ·
  simp only
  rw [Zaw (h := h) (h' := h') hc]
theorem Zkv [Glob P] {W : Words} {L : List Oper} {b i : Nat} {o : Oper} {ev : Operand → D} {t : Nat → D} {n : Nat} {h h' : H} (hc : cls C o.op = .none) :
  Zwb P W C L b i o n ev t h = ((Zwb P W C L b i o n ev t h').1, h, (Zwb P W C L b i o n ev t h').2.2) := by
 unfold Zwb
 cases o.guard with
 | none => simp only; rw [Zcz (h := h) (h' := h') hc]
 | some jw => simp only; rw [Zcz (h := h) (h' := h') hc]
theorem Zfg [Glob P] {W : Words} {L : List Oper} {b i : Nat} {o : Oper} {ev : Operand → D} {t : Nat → D} {n : Nat} {h : H} (hc : cls C o.op ≠ .writes) : (Zwb P W C L b i o n ev t h).2.1 = h := by
 unfold Zwb
 cases o.guard with
 | none =>
  simp only
  unfold Zub
  split
  ·
   rfl
  ·
   exact eff_h hc
 | some jw => rfl
theorem Zs5 {y : Cls} (h : meets .writes y = false) : y = .none := by cases y <;> simp [meets] at h ⊢
theorem Zt0 {x : Cls} (h : meets x .writes = false) : x = .none := by cases x <;> simp [meets] at h ⊢
theorem Zsh [Glob P] {W : Words} {L : List Oper} {b i j : Nat} {x y : Oper} {s : S} (hs : Zcc L x y = true)
  (key : ∀ (rx ry : D) (hx hy : H) (px py : Prop), (Zwb P W C L b i x s.n s.ev s.t s.h) = (rx, hx, px) → (Zwb P W C L b j y s.n s.ev s.t s.h) = (ry, hy, py) →
   ∃ hz, Zwb P W C L b j y s.n s.ev s.t hx = (ry, hz, py) ∧ Zwb P W C L b i x s.n s.ev s.t hy = (rx, hz, px)) : Zva P W C L b j y (Zva P W C L b i x s) = Zva P W C L b i x (Zva P W C L b j y s) := by
 simp only [Zcc, Bool.and_eq_true] at hs
 obtain ⟨h1, h2⟩ := hs
 have nx : ∀ d, x.dst = some d → d ∉ looks L y ∧ y.dst ≠ some d := by
  intro d hd
  rw [hd] at h1
  simp only [Bool.and_eq_true, Bool.not_eq_true', bne_iff_ne] at h1
  exact ⟨by simpa using h1.1, h1.2⟩
 have ny : ∀ d, y.dst = some d → d ∉ looks L x := by
  intro d hd
  rw [hd] at h2
  simpa using h2
 have look : ∀ {u : Oper} {s : S} {dst : Option Tmp} {r : D}, (∀ d, dst = some d → d ∉ looks L u) → ∀ z ∈ looks L u, s.t z = (S.put s dst r) z := by
  intro u s dst r hd z hz
  cases dst with
  | none => rfl
  | some d => exact (upd_ne _ _ _ _ (fun e => hd d rfl (by rw [← e]; exact hz))).symm
 have ly : ∀ {h' : H} {ok' : Prop} {r : D} {n : Nat} {h : H}, Zwb P W C L b j y n (S.ev { s with t := s.put x.dst r, h := h', ok := ok' }) (s.put x.dst r) h = Zwb P W C L b j y n s.ev s.t h :=
  fun {h' ok' r n h} => (Znh (s := s) (s' := { s with t := s.put x.dst r, h := h', ok := ok' }) (look fun d hd => (nx d hd).1)).symm
 have lx : ∀ {h' : H} {ok' : Prop} {r : D} {n : Nat} {h : H}, Zwb P W C L b i x n (S.ev { s with t := s.put y.dst r, h := h', ok := ok' }) (s.put y.dst r) h = Zwb P W C L b i x n s.ev s.t h :=
  fun {h' ok' r n h} => (Znh (s := s) (s' := { s with t := s.put y.dst r, h := h', ok := ok' }) (look fun d hd => ny d hd)).symm
 rw [Zta (s := s) (o := x), Zta (s := s) (o := y), Zta (o := y), Zta (o := x)]
 simp only [ly, lx]
 have hput : ∀ r q, S.put { s with t := s.put x.dst r } y.dst q = S.put { s with t := s.put y.dst q } x.dst r := by
  intro r q
  cases hx : x.dst with
  | none => rfl
  | some d =>
   cases hy : y.dst with
   | none => rfl
   | some d' =>
    have hne : d ≠ d' := fun e => (nx d hx).2 (by rw [hy, e])
    funext z
    simp only [S.put, upd]
    by_cases e1 : z = d
    ·
     have : z ≠ d' := fun e => hne (e1 ▸ e)
     simp [e1, hne]
    ·
     simp [e1]
 have hput' : ∀ r q h1 ok1 h2 ok2, S.put { s with t := s.put x.dst r, h := h1, ok := ok1 } y.dst q = S.put { s with t := s.put y.dst q, h := h2, ok := ok2 } x.dst r := fun r q _ _ _ _ => hput r q
 rcases hox : Zwb P W C L b i x s.n s.ev s.t s.h with ⟨rx, hx, px⟩
 rcases hoy : Zwb P W C L b j y s.n s.ev s.t s.h with ⟨ry, hy, py⟩
 obtain ⟨hz, k1, k2⟩ := key rx ry hx hy px py hox hoy
 simp only [k1, k2]
 congr 1
 ·
  exact hput' _ _ _ _ _ _
 ·
  exact propext ⟨fun ⟨⟨a, b⟩, c⟩ => ⟨⟨a, c⟩, b⟩, fun ⟨⟨a, b⟩, c⟩ => ⟨⟨a, c⟩, b⟩⟩
theorem Zgu [Glob P] {W : Words} {L : List Oper} {b i j : Nat} {x y : Oper} {s : S} (ha : Zno C L x y = true) : Zva P W C L b j y (Zva P W C L b i x s) = Zva P W C L b i x (Zva P W C L b j y s) := by
 simp only [Zno, Bool.and_eq_true, Bool.not_eq_true'] at ha
 obtain ⟨⟨h1, h2⟩, h3⟩ := ha
 refine Zsh (by simp only [Zcc, Bool.and_eq_true]; exact ⟨h1, h2⟩) ?_
 generalize hX : cls C x.op = cx at h3
 generalize hY : cls C y.op = cy at h3
 ·
  intro rx ry hx hy px py e1 e2
  have ex : hx = (Zwb P W C L b i x s.n s.ev s.t s.h).2.1 := by rw [e1]
  have ey : hy = (Zwb P W C L b j y s.n s.ev s.t s.h).2.1 := by rw [e2]
  by_cases c1 : cx = .writes
  ·
   have c2 : cy = .none := Zs5 (c1 ▸ h3)
   subst c2
   rw [Zfg (by rw [hY]; simp)] at ey
   subst ey
   refine ⟨hx, ?_, e1⟩
   rw [Zkv (h := hx) (h' := s.h) hY, e2]
  ·
   rw [Zfg (by rw [hX]; exact c1)] at ex
   subst ex
   by_cases c2 : cy = .writes
   ·
    have c3 : cx = .none := Zt0 (c2 ▸ h3)
    refine ⟨hy, e2, ?_⟩
    rw [Zkv (h := hy) (h' := s.h) (by rw [hX, c3]), e1]
   ·
    rw [Zfg (by rw [hY]; exact c2)] at ey
    subst ey
    exact ⟨s.h, e2, e1⟩
def Zab (P : Program) [Glob P] (W : Words) (C : Con) (L : List Oper) (b : Nat) (s : S) (i : Nat) : S := match L[i]? with
 | some o => Zva P W C L b i o s
 | none => s
theorem Zah [Glob P] {W : Words} {L : List Oper} {b : Nat} : ∀ {l : List Nat} {s : S}, (l.foldl (Zab P W C L b) s).ok → s.ok
 | [], _, h => h
 | i :: l, s, h => by
  have h1 := Zah (l := l) h
  unfold Zab at h1
  split at h1
  ·
   exact Zqm h1
  ·
   exact h1
theorem Zpi [Glob P] {W : Words} {L : List Oper} {b : Nat} : ∀ (k i : Nat) (s : S), i + k = L.length → Zga P W C L b i (L.drop i) s = (List.range' i k).foldl (Zab P W C L b) s := by
 intro k
 induction k with
 | zero =>
  intro i s hk
  rw [List.drop_eq_nil_of_le (by omega)]
  simp [Zga]
 | succ k ih =>
  intro i s hk
  have hlt : i < L.length := by omega
  rw [List.drop_eq_getElem_cons hlt, List.range'_succ]
  simp only [Zga, List.foldl_cons]
  rw [ih (i + 1) _ (by omega)]
  congr 1
  simp [Zab, hlt]
def named (n : Nat) : D → Bool
 | .mrow r _ _ => r == n
 | .mptr r _ _ => r == n
 | .mp r => r == n
 | _ => false
theorem kvH_new {a : D} {h : H} {n : Nat} {bl : Blk} (hn : named n a = false) : kvH (upd h n (some bl)) a = kvH h a := by
 cases a with
 | mp r =>
  have : r ≠ n := by simpa [named] using hn
  show (upd h n (some bl) r).bind kvB = (h r).bind kvB
  rw [upd_ne _ _ _ _ this]
 | _ => rfl
theorem Zgy [Glob P] {t : TypeId} {ok : Bool} {m k : D} {h : H} {n : Nat} {bl : Blk} (hn : named n m = false) : Zbm P t ok m k (upd h n (some bl)) = Zbm P t ok m k h := by
 unfold Zbm
 rw [kvH_new hn]
theorem Zz0 {a : D} {h : H} {n : Nat} {bl : Blk} (hn : named n a = false) : Zbb a (upd h n (some bl)) = Zbb a h := by
 cases a with
 | mptr r i off =>
  have : r ≠ n := by simpa [named] using hn
  simp only [Zbb, upd_ne _ _ _ _ this]
 | _ => rfl
theorem Yda [Glob P] {a : D} {h : H} {n : Nat} {bl : Blk} (hn : named n a = false) : ldc P a (upd h n (some bl)) = ldc P a h := by
 unfold ldc
 split
 ·
  rfl
 ·
  exact Zz0 hn
theorem Zwt [Glob P] {t : TypeId} {x ix : D} {h : H} {n : Nat} {bl : Blk} (hn : named n x = false) : Zoc P t x ix (upd h n (some bl)) = Zoc P t x ix h := by
 unfold Zoc
 cases Zza P t with
 | none => rfl
 | some e =>
  cases x with
  | mrow r off len =>
   have : r ≠ n := by simpa [named] using hn
   cases ix with
   | v y => cases y <;> first | rfl | simp only [upd_ne _ _ _ _ this]
   | _ => rfl
  | list f rows =>
   cases ix with
   | v y => cases y <;> rfl
   | _ => rfl
  | _ => cases ix <;> rfl
theorem Zzs [Glob P] {t : TypeId} {x : D} {l hh m : Option D} {h : H} {n : Nat} {bl : Blk} (hn : named n x = false) : Zti P t x l hh m (upd h n (some bl)) = Zti P t x l hh m h := by
 cases x with
 | mrow r off len =>
  have : r ≠ n := by simpa [named] using hn
  simp only [Zti, upd_ne _ _ _ _ this]
 | v y => cases y <;> rfl
 | list f rows => simp only [Zti]
 | _ => rfl
theorem Zwj {op : Op} (hc : Ztl op = true) : (∃ t x, op = .load t x) ∨ (∃ t x y, op = .indexAddr t x y) ∨ (∃ t x l hh m, op = .slice t x l hh m) ∨ (∃ t m k ok, op = .lookup t m k ok) := by
 unfold Ztl at hc
 split at hc <;> first
  | cases hc
  | skip
 ·
  exact .inl ⟨_, _, rfl⟩
 ·
  exact .inr (.inl ⟨_, _, _, rfl⟩)
 ·
  exact .inr (.inr (.inl ⟨_, _, _, _, _, rfl⟩))
 ·
  exact .inr (.inr (.inr ⟨_, _, _, _, rfl⟩))
theorem Zf5 [Glob P] {W : Words} {op : Op} {xs : List D} {h : H} {n b : Nat} {bl : Blk} (hc : Ztl op = true) (hn : ∀ d ∈ xs, named n d = false) :
  eff P W C op xs (upd h n (some bl)) b = ((eff P W C op xs h b).1, upd h n (some bl), (eff P W C op xs h b).2.2) := by
 rcases Zwj hc with ⟨t, x, rfl⟩ | ⟨t, x, y, rfl⟩ | ⟨t, x, l, hh, m, rfl⟩ | ⟨t, m, k, ok, rfl⟩
 ·
  match xs, hn with
  | [], _ => rfl
  | [a], hn => simp only [eff, still, ldD, Yda (hn a (by simp))]
  | _ :: _ :: _, _ => rfl
 ·
  match xs, hn with
  | [], _ => rfl
  | [_], _ => rfl
  | [a, c], hn => simp only [eff, still, Zwt (hn a (by simp))]
  | _ :: _ :: _ :: _, _ => rfl
 ·
  match xs, hn with
  | [], _ => rfl
  | a :: al9, hn => simp only [eff, still, Zzs (hn a (by simp))]
 ·
  match xs, hn with
  | [], _ => rfl
  | [_], _ => rfl
  | [a, c], hn => simp only [eff, still, Zgy (hn a (by simp))]
  | _ :: _ :: _ :: _, _ => rfl
theorem Zak {a : D} {n : Nat} (hn : named n a = true) : (∃ off len, a = .mrow n off len) ∨ (∃ i off, a = .mptr n i off) ∨ a = .mp n := by
 cases a with
 | mrow r off len =>
           have : r = n := by simpa [named] using hn
           subst this; exact .inl ⟨_, _, rfl⟩
 | mptr r i off =>
          have : r = n := by simpa [named] using hn
          subst this; exact .inr (.inl ⟨_, _, rfl⟩)
 | mp r =>
      have : r = n := by simpa [named] using hn
      subst this; exact .inr (.inr rfl)
 | _ => cases hn
theorem Ze5 [Glob P] {W : Words} {op : Op} {xs : List D} {h : H} {n b : Nat} {bl : Blk} (hc : Ztl op = true) (hno : h n = none) (hok : (eff P W C op xs h b).2.2) :
  eff P W C op xs (upd h n (some bl)) b = ((eff P W C op xs h b).1, upd h n (some bl), (eff P W C op xs h b).2.2) := by
 rcases Zwj hc with ⟨t, x, rfl⟩ | ⟨t, x, y, rfl⟩ | ⟨t, x, l, hh, m, rfl⟩ | ⟨t, m, k, ok, rfl⟩
 ·
  match xs, hok with
  | [a], hok =>
   cases hna : named n a with
   | false => simp only [eff, still, ldD, Yda hna]
   | true =>
    exfalso
    simp only [eff, still, ldD] at hok
    obtain ⟨q1, q2, _⟩ := hok
    rcases Zak hna with ⟨off, len, rfl⟩ | ⟨i, off, rfl⟩ | rfl <;> simp [ldc, Zbb, hno] at q1 <;> omega
 ·
  match xs, hok with
  | [a, c], hok =>
   cases hna : named n a with
   | false => simp only [eff, still, Zwt hna]
   | true =>
    rcases Zak hna with ⟨off, len, rfl⟩ | ⟨i, off, rfl⟩ | rfl
    ·
     exfalso
     simp only [eff, still] at hok
     unfold Zoc at hok
     split at hok
     ·
      unfold Zgk at hok
      split at hok
      ·
       exact absurd hok.1 (by simp [isGp])
      ·
       exact hok
     ·
      split at hok
      ·
       rename_i e; cases e
      ·
       rename_i e; cases e
       rw [hno] at hok; exact hok.2.2.2
      ·
       exact hok
    ·
     have e : ∀ h', Zoc P t (.mptr n i off) c h' = Zoc P t (.mptr n i off) c h := by
      intro h'
      unfold Zoc
      cases Zza P t <;> rfl
     simp only [eff, still, e]
    ·
     exfalso
     simp only [eff, still] at hok
     unfold Zoc at hok
     split at hok
     ·
      unfold Zgk at hok
      split at hok
      ·
       exact absurd hok.1 (by simp [isGp])
      ·
       exact hok
     ·
      exact hok
 ·
  match xs, hok with
  | a :: al9, hok =>
   cases hna : named n a with
   | false => simp only [eff, still, Zzs hna]
   | true =>
    exfalso
    simp only [eff, still] at hok
    rcases Zak hna with ⟨off, len, rfl⟩ | ⟨i, off, rfl⟩ | rfl
    ·
     simp only [Zti] at hok
     split at hok
     ·
      exact hok
     ·
      simp only [hno] at hok; exact hok.2.2.2
    ·
     exact hok
    ·
     exact hok
 ·
  match xs, hok with
  | [a, c], hok =>
   cases hna : named n a with
   | false => simp only [eff, still, Zgy hna]
   | true =>
    exfalso
    simp only [eff, still] at hok
    rcases Zak hna with ⟨off, len, rfl⟩ | ⟨i, off, rfl⟩ | rfl
    ·
     unfold Zbm at hok
     split at hok
     ·
      rename_i e; cases e
     ·
      exact hok
    ·
     unfold Zbm at hok
     split at hok
     ·
      rename_i e; cases e
     ·
      exact hok
    ·
     unfold Zbm at hok
     split at hok
     ·
      rename_i e
      simp only [kvH, hno] at e
      cases e
     ·
      exact hok
theorem Zv5 [Glob P] {W : Words} {op : Op} (hm : (match op with | .alloc _ | .box _ _ | .makeSlice .. | .buildSlice .. => true | _ => false) = true) (xs : List D) (b : Nat) :
  ∃ r p, (∃ bl, ∀ h, eff P W C op xs h b = (r, upd h b (some bl), p)) ∨ ∀ h, eff P W C op xs h b = (r, h, p) := by
 cases op with
 | alloc e =>
  match xs with
  | [] => exact ⟨_, _, .inl ⟨_, fun h => rfl⟩⟩
  | _ :: _ => exact ⟨_, _, .inr fun h => rfl⟩
 | box e x =>
  match xs with
  | [] => exact ⟨_, _, .inr fun h => rfl⟩
  | [a] => exact ⟨_, _, .inl ⟨_, fun h => rfl⟩⟩
  | _ :: _ :: _ => exact ⟨_, _, .inr fun h => rfl⟩
 | buildSlice t n ps =>
  cases hb : C.bs with
  | false => exact ⟨_, _, .inr fun h => by simp only [eff, hb, Bool.false_eq_true, if_false, still]; rfl⟩
  | true =>
   cases he : Zza P t with
   | none => exact ⟨_, _, .inr fun h => by simp only [eff, hb, if_true, Zzo, he]; rfl⟩
   | some e => exact ⟨_, _, .inl ⟨_, fun h => by simp only [eff, hb, if_true, Zzo, he]; rfl⟩⟩
 | makeSlice t x y =>
  match xs with
  | [] => exact ⟨_, _, .inr fun h => rfl⟩
  | [_] => exact ⟨_, _, .inr fun h => rfl⟩
  | _ :: _ :: _ :: _ => exact ⟨_, _, .inr fun h => rfl⟩
  | [a, c] =>
   have key : ∃ r p, (∃ bl, ∀ h, Zr0 P t h b a c = (r, upd h b (some bl), p)) ∨ ∀ h, Zr0 P t h b a c = (r, h, p) := by
    by_cases hm : ∃ k n k' m, a = .v (.int k n) ∧ c = .v (.int k' m)
    ·
     obtain ⟨k, n, k', m, rfl, rfl⟩ := hm
     cases he : Zza P t with
     | none => exact ⟨_, _, .inr fun h => by simp only [Zr0, he]; rfl⟩
     | some e => exact ⟨_, _, .inl ⟨_, fun h => by simp only [Zr0, he]; rfl⟩⟩
    ·
     refine ⟨.junk, False, .inr fun h => ?_⟩
     unfold Zr0
     split
     ·
      exact absurd ⟨_, _, _, _, rfl, rfl⟩ hm
     ·
      rfl
   exact key
 | _ => cases hm
theorem Zdu [Glob P] {W : Words} {L : List Oper} {b i : Nat} : ∀ (pre : List Nat) (s : S), (∀ j ∈ pre, ∀ x y, L[j]? = some x → L[i]? = some y → Zno C L x y = true) →
  Zab P W C L b (pre.foldl (Zab P W C L b) s) i = pre.foldl (Zab P W C L b) (Zab P W C L b s i)
 | [], s, _ => rfl
 | j :: pre, s, h => by
  simp only [List.foldl_cons]
  rw [Zdu pre _ (fun j' hj' => h j' (by simp [hj']))]
  congr 1
  unfold Zab
  cases hj : L[j]? with
  | none => rfl
  | some x =>
   cases hi : L[i]? with
   | none => rfl
   | some y => exact Zgu (h j (by simp) x y hj hi)
theorem Zzl [Glob P] {W : Words} {L : List Oper} {b i : Nat} {o : Oper} {ev : Operand → D} {t : Nat → D} {n : Nat} (hm : maker o = true) :
  ∃ r p, (∃ bl, ∀ h, Zwb P W C L b i o n ev t h = (r, upd h (b + i) (some bl), p)) ∨ ∀ h, Zwb P W C L b i o n ev t h = (r, h, p) := by
 simp only [maker, Bool.and_eq_true, Option.isNone_iff_eq_none] at hm
 obtain ⟨h1, h2⟩ := hm
 have hp : Zxa o.op = false := by cases ho : o.op <;> rw [ho] at h1 <;> first | rfl | cases h1
 obtain ⟨r, p, h⟩ := Zv5 (P := P) (C := C) (W := W) h1 (((Zja o.op).map ev).map sd) (b + i)
 refine ⟨r, Ztb n o.dst = true ∧ ((true : Bool) = true → ((Zja o.op).map ev).all sg = true) ∧ p, ?_⟩
 rcases h with ⟨bl, h⟩ | h
 ·
  refine .inl ⟨bl, fun hh => ?_⟩
  unfold Zwb
  simp only [h2]
  unfold Zub
  simp only [hp, Bool.false_eq_true, if_false, h]
 ·
  refine .inr fun hh => ?_
  unfold Zwb
  simp only [h2]
  unfold Zub
  simp only [hp, Bool.false_eq_true, if_false, h]
theorem Zdg {op : Op} (hc : Ztl op = true) : Zxa op = false := by
 rcases Zwj hc with ⟨t, x, rfl⟩ | ⟨t, x, y, rfl⟩ | ⟨t, x, l, hh, m, rfl⟩ | ⟨t, m, k, ok, rfl⟩ <;> rfl
theorem Zzd {o : Oper} (hr : reader o = true) : Ztl o.op = true ∧ o.guard = none := by
 simp only [reader, Bool.and_eq_true, Option.isNone_iff_eq_none] at hr
 exact hr
theorem Zcn {o : Oper} (hr : reader o = true) : cls C o.op ≠ .writes := by
 rcases Zwj (Zzd hr).1 with ⟨t, x, e⟩ | ⟨t, x, y, e⟩ | ⟨t, x, l, hh, m, e⟩ | ⟨t, m, k, ok, e⟩ <;> simp [e, cls]
theorem Zbn [Glob P] {W : Words} {L : List Oper} {b i m : Nat} {o : Oper} {ev : Operand → D} {t : Nat → D} {n : Nat} {h : H} {bl : Blk} (hr : reader o = true)
  (hn : (∀ d ∈ (Zja o.op).map ev, named m (sd d) = false) ∨ (h m = none ∧ (Zwb P W C L b i o n ev t h).2.2)) :
  Zwb P W C L b i o n ev t (upd h m (some bl)) = ((Zwb P W C L b i o n ev t h).1, upd h m (some bl), (Zwb P W C L b i o n ev t h).2.2) := by
 obtain ⟨hc, hg⟩ := Zzd hr
 have hp := Zdg hc
 have key : eff P W C o.op (((Zja o.op).map ev).map sd) (upd h m (some bl)) (b + i) = ((eff P W C o.op (((Zja o.op).map ev).map sd) h (b + i)).1, upd h m (some bl), (eff P W C o.op (((Zja o.op).map ev).map sd) h (b + i)).2.2) := by
  rcases hn with hn | ⟨h1, h2⟩
  ·
   refine Zf5 hc fun d hd => ?_
   obtain ⟨d', h1, rfl⟩ := List.mem_map.1 hd
   exact hn d' h1
  ·
   refine Ze5 hc h1 ?_
   simp only [Zwb, hg, Zub, hp, Bool.false_eq_true, if_false] at h2
   exact h2.2.2
 simp only [Zwb, hg, Zub, hp, Bool.false_eq_true, if_false, key]
theorem Zun [Glob P] {t : TypeId} {m k x : D} {h : H} {r : Nat} (hn : h r = none) : (Zsi P t m k x h).1 r = none := by
 unfold Zsi
 split
 ·
  split
  ·
   rename_i q bl hq
   split
   ·
    exact (upd_ne _ _ _ _ (fun e => by subst e; rw [hn] at hq; cases hq)).trans hn
   ·
    exact hn
  ·
   exact hn
 ·
  exact hn
theorem Ybb [Glob P] {W : Words} {op : Op} {xs : List D} {h : H} {b r : Nat} (hc : (match op with | .call { callee := .value f, .. } => Zoh f | _ => true) = true) (hr : r ≠ b) (hn : h r = none) : (eff P W C op xs h b).2.1 r = none := by
 by_cases hw : cls C op ≠ .writes
 ·
  rw [eff_h hw]; exact hn
 ·
  have hw : cls C op = .writes := by simpa using hw
  cases op with
  | alloc e =>
   match xs with
   | [] => simp only [eff, upd_ne _ _ _ _ hr]; exact hn
   | _ :: _ => exact hn
  | box e x =>
   match xs with
   | [] => exact hn
   | [a] => simp only [eff, upd_ne _ _ _ _ hr]; exact hn
   | _ :: _ :: _ => exact hn
  | buildSlice t n ps =>
   have hb : C.bs = true := by
    cases hb : C.bs with
    | true => rfl
    | false => simp [cls, hb] at hw
   simp only [eff, hb, if_true, Zzo]
   split
   ·
    simp only [upd_ne _ _ _ _ hr]; exact hn
   ·
    exact hn
  | store t x y =>
   match xs with
   | [] => exact hn
   | [_] => exact hn
   | _ :: _ :: _ :: _ => exact hn
   | [a, x] =>
    simp only [eff, stH]
    cases a with
    | mptr r' i off =>
     simp only
     cases hq : h r' with
     | none => exact hn
     | some bl =>
      have : r ≠ r' := fun e => by subst e; rw [hn] at hq; cases hq
      simp only [upd_ne _ _ _ _ this]; exact hn
    | _ => exact hn
  | makeMap t ro => simp only [eff, Zs0, upd_ne _ _ _ _ hr]; exact hn
  | makeSlice t x y =>
   match xs with
   | [] | [_] | _ :: _ :: _ :: _ => exact hn
   | [a, c] =>
    simp only [eff]
    unfold Zr0
    split
    ·
     split
     ·
      simp only [upd_ne _ _ _ _ hr]; exact hn
     ·
      exact hn
    ·
     exact hn
  | mapUpdate t m k x =>
   match xs with
   | [] | [_] | [_, _] | _ :: _ :: _ :: _ :: _ => exact hn
   | [a, c, d] => exact Zun hn
  | insert t m k x =>
   match xs with
   | [] | [_] | [_, _] | _ :: _ :: _ :: _ :: _ => exact hn
   | [a, c, d] => exact Zun hn
  | call c =>
   obtain ⟨callee, args, ts⟩ := c
   cases callee with
   | value f =>
    simp only at hc
    cases hcf : C.cf <;> simp [cls, hc, hcf] at hw
   | builtin bi =>
    cases bi with
    | append =>
     match xs with
     | [] => exact hn
     | [_] => exact hn
     | _ :: _ :: _ :: _ => exact hn
     | [x, y] =>
      simp only [eff]
      split
      ·
       simp only [Zmb]
       split
       ·
        exact hn
       ·
        split
        ·
         simp only [upd_ne _ _ _ _ hr]; exact hn
        ·
         rename_i r' n'
         cases hq : h r' with
         | none => exact hn
         | some bl =>
          simp only [upd_ne _ _ _ _ hr]
          by_cases e : r = r'
          ·
           subst e; exact upd_same _ _ _
          ·
           rw [upd_ne _ _ _ _ e]; exact hn
        ·
         exact hn
      ·
       exact hn
    | _ => simp [cls] at hw
   | _ => simp [cls] at hw
  | _ => simp [cls] at hw
theorem Zqi [Glob P] {W : Words} {L : List Oper} {b i r : Nat} {o : Oper} {s : S} (hc : Zcd C o = true) (hr : r ≠ b + i) (hn : s.h r = none) : (Zva P W C L b i o s).h r = none := by
 rw [Zta]
 show (Zwb P W C L b i o s.n s.ev s.t s.h).2.1 r = none
 unfold Zwb
 cases o.guard with
 | some jw => exact hn
 | none =>
  simp only [Zub]
  split
  ·
   exact hn
  ·
   exact Ybb hc hr hn
theorem Zci [Glob P] {W : Words} {L : List Oper} {b i : Nat} {x y : Oper} {s : S} (hs : Zcc L x y = true) : (Zja y.op).map (Zva P W C L b i x s).ev = (Zja y.op).map s.ev := by
 simp only [Zcc, Bool.and_eq_true] at hs
 refine List.map_congr_left fun z hz => ?_
 cases z with
 | tmp t =>
  rw [Zta]
  show S.put s x.dst _ t = s.t t
  cases hd : x.dst with
  | none => rfl
  | some d =>
   have h1 := hs.1
   rw [hd] at h1
   simp only [Bool.and_eq_true, Bool.not_eq_true', bne_iff_ne] at h1
   have h2 : d ∉ looks L y := by simpa using h1.1
   refine upd_ne _ _ _ _ fun e => h2 ?_
   subst e
   exact List.mem_append.2 (.inl (List.mem_filterMap.2 ⟨.tmp t, hz, rfl⟩))
 | _ => rfl
theorem Zkc {L : List Oper} {x y : Oper} (h : Zpe C L x y = true) : Zcc L x y = true := by
 unfold Zpe at h
 simp only [Bool.or_eq_true, Bool.and_eq_true] at h
 rcases h with h | h
 ·
  simp only [Zno, Bool.and_eq_true] at h
  simp only [Zcc, Bool.and_eq_true]
  exact h.1
 ·
  exact h.1.1
theorem Zwk [Glob P] {W : Words} {L : List Oper} {b i j : Nat} {x y : Oper} {s : S} (hij : j ≠ i) (ha : Zpe C L x y = true)
  (h1 : maker x = true → reader y = true → ∀ d ∈ (Zja y.op).map s.ev, named (b + j) (sd d) = false)
  (h2 : reader x = true → maker y = true → s.h (b + i) = none ∧ (Zwb P W C L b j x s.n s.ev s.t s.h).2.2) :
  Zva P W C L b i y (Zva P W C L b j x s) = Zva P W C L b j x (Zva P W C L b i y s) := by
 have hs := Zkc ha
 unfold Zpe at ha
 simp only [Bool.or_eq_true, Bool.and_eq_true] at ha
 rcases ha with ha | ⟨_, (⟨hm, hr⟩ | ⟨hr, hm⟩) | ⟨hm, hm2⟩⟩
 ·
  exact Zgu ha
 ·
  refine Zsh hs fun rx ry hx hy px py e1 e2 => ?_
  obtain ⟨r, p, ⟨bl, h⟩ | h⟩ := Zzl (P := P) (C := C) (W := W) (L := L) (b := b) (i := j) (ev := s.ev) (t := s.t) (n := s.n) hm
  ·
   have e3 := Zbn (P := P) (C := C) (W := W) (L := L) (b := b) (i := i) (t := s.t) (n := s.n) (h := s.h) (bl := bl) hr (.inl (h1 hm hr))
   have e4 := h s.h
   rw [e1] at e4
   cases e4
   refine ⟨upd s.h (b + j) (some bl), by rw [e3, e2], ?_⟩
   ·
    have : hy = s.h := by
     have := Zfg (P := P) (W := W) (L := L) (b := b) (i := i) (ev := s.ev) (t := s.t) (n := s.n) (h := s.h) (C := C) (o := y) (Zcn hr)
     rw [e2] at this; exact this
    rw [h hy, this]
  ·
   have e4 := h s.h
   rw [e1] at e4
   cases e4
   exact ⟨hy, e2, h hy⟩
 ·
  refine Zsh hs fun rx ry hx hy px py e1 e2 => ?_
  have hxs : hx = s.h := by
   have := Zfg (P := P) (W := W) (L := L) (b := b) (i := j) (ev := s.ev) (t := s.t) (n := s.n) (h := s.h) (C := C) (o := x) (Zcn hr)
   rw [e1] at this; exact this
  subst hxs
  obtain ⟨r, p, ⟨bl, h⟩ | h⟩ := Zzl (P := P) (C := C) (W := W) (L := L) (b := b) (i := i) (ev := s.ev) (t := s.t) (n := s.n) hm
  ·
   have e3 := Zbn (P := P) (C := C) (W := W) (L := L) (b := b) (i := j) (t := s.t) (n := s.n) (h := s.h) (bl := bl) hr (.inr (h2 hr hm))
   have e4 := h s.h
   rw [e2] at e4
   cases e4
   exact ⟨_, e2, by rw [e3, e1]⟩
  ·
   have e4 := h s.h
   rw [e2] at e4
   cases e4
   exact ⟨_, e2, e1⟩
 ·
  refine Zsh hs fun rx ry hx hy px py e1 e2 => ?_
  obtain ⟨r1, p1, k1⟩ := Zzl (P := P) (C := C) (W := W) (L := L) (b := b) (i := j) (ev := s.ev) (t := s.t) (n := s.n) hm
  obtain ⟨r2, p2, k2⟩ := Zzl (P := P) (C := C) (W := W) (L := L) (b := b) (i := i) (ev := s.ev) (t := s.t) (n := s.n) hm2
  rcases k1 with ⟨bl1, k1⟩ | k1 <;> rcases k2 with ⟨bl2, k2⟩ | k2 <;> rw [k1] at e1 <;> rw [k2] at e2 <;> cases e1 <;> cases e2
  ·
   refine ⟨_, k2 _, ?_⟩
   rw [k1]
   congr 2
   funext q
   by_cases q1 : q = b + j <;> by_cases q2 : q = b + i <;> simp [upd, q1, q2] <;> omega
  ·
   exact ⟨_, k2 _, k1 _⟩
  ·
   exact ⟨_, k2 _, k1 _⟩
  ·
   exact ⟨_, k2 _, k1 _⟩
theorem Zc5 [Glob P] {W : Words} {L : List Oper} {b j : Nat} {y : Oper} {s : S} (h : ∀ x, L[j]? = some x → Zcc L x y = true) : (Zja y.op).map (Zab P W C L b s j).ev = (Zja y.op).map s.ev := by
 unfold Zab
 cases hj : L[j]? with
 | none => rfl
 | some x => exact Zci (h x hj)
theorem Zag [Glob P] {W : Words} {L : List Oper} {b : Nat} {y : Oper} : ∀ (pre : List Nat) (s : S), (∀ j ∈ pre, ∀ x, L[j]? = some x → Zcc L x y = true) → (Zja y.op).map (pre.foldl (Zab P W C L b) s).ev = (Zja y.op).map s.ev
 | [], s, _ => rfl
 | j :: pre, s, h => by
  simp only [List.foldl_cons]
  rw [Zag pre _ fun k hk => h k (by simp [hk]), Zc5 (h j (by simp))]
theorem Zli [Glob P] {W : Words} {L : List Oper} {b i : Nat} {y : Oper} (hi : L[i]? = some y) : ∀ (pre : List Nat) (s : S), (∀ j ∈ pre, j ≠ i ∧ ∀ x, L[j]? = some x → Zpe C L x y = true) →
  (reader y = true → ∀ j ∈ pre, ∀ d ∈ (Zja y.op).map s.ev, named (b + j) (sd d) = false) → s.h (b + i) = none → (pre.foldl (Zab P W C L b) s).ok →
  Zab P W C L b (pre.foldl (Zab P W C L b) s) i = pre.foldl (Zab P W C L b) (Zab P W C L b s i)
 | [], s, _, _, _, _ => rfl
 | j :: pre, s, h, hr, hh, hok => by
  simp only [List.foldl_cons] at hok ⊢
  have hji := (h j (by simp)).1
  have hok1 := Zah hok
  cases hj : L[j]? with
  | none =>
   have e : ∀ u, Zab P W C L b u j = u := fun u => by simp only [Zab, hj]
   rw [e s, e] at *
   exact Zli hi pre s (fun k hk => h k (by simp [hk])) (fun hry k hk => hr hry k (by simp [hk])) hh hok
  | some x =>
   have hap := (h j (by simp)).2 x hj
   have e : ∀ u, Zab P W C L b u j = Zva P W C L b j x u := fun u => by simp only [Zab, hj]
   have e' : ∀ u, Zab P W C L b u i = Zva P W C L b i y u := fun u => by simp only [Zab, hi]
   have hstep : Zab P W C L b (Zab P W C L b s j) i = Zab P W C L b (Zab P W C L b s i) j := by
    rw [e, e, e', e']
    refine Zwk hji hap (fun _ hry => hr hry j (by simp)) fun _ _ => ⟨hh, ?_⟩
    rw [e, Zta] at hok1
    exact hok1.2
   rw [← hstep]
   unfold Zpe at hap
   by_cases hcp : L.all (Zcd C) = true
   ·
    refine Zli hi pre _ (fun k hk => h k (by simp [hk])) (fun hry k hk => ?_) ?_ hok
    ·
     rw [e, Zci (Zkc ((h j (by simp)).2 x hj))]
     exact hr hry k (by simp [hk])
    ·
     rw [e]
     refine Zqi (List.all_eq_true.1 hcp x (List.mem_of_getElem? hj)) (by omega) hh
   ·
    have hall : ∀ k ∈ pre, ∀ x y', L[k]? = some x → L[i]? = some y' → Zno C L x y' = true := by
     intro k hk x' y' hx' hy'
     rw [hi] at hy'; cases hy'
     have := (h k (by simp [hk])).2 x' hx'
     unfold Zpe at this
     have hcp' : L.all (Zcd C) = false := by simpa using hcp
     simpa [hcp'] using this
    exact Zdu pre _ hall
theorem Zrl {w : World} {g : Mem} {d : D} {v : Value} {n : Nat} (hr : Rep w g d v) (hg : sg d = true) (hn : named n (sd d) = true) : g.U n := by
 have key : ∀ {d : D}, Rep w g d v → named n d = true → g.U n := by
  intro d hr hn
  cases hr with
  | mrow r off len x hx hU h => exact (show r = n by simpa [named] using hn) ▸ hU
  | mptr r i off x hx hU h => exact (show r = n by simpa [named] using hn) ▸ hU
  | mp r x hx hU h => exact (show r = n by simpa [named] using hn) ▸ hU
  | _ => cases hn
 cases d with
 | cond g d =>
  cases hr with
  | cond _ _ _ ht hf => exact key (ht hg) hn
 | _ => exact key hr hn
theorem Zsr [Glob P] {s : S} {g : Mem} {a : Act} {w : World} (hs : St P B s g a w) : St P B s g a { w with drawn := w.drawn + 1 } ∧ Mono g g w { w with drawn := w.drawn + 1 } := by
 have m : Mono g g w { w with drawn := w.drawn + 1 } := ⟨rfl, rfl, rfl, Nat.le_refl _, Nat.le_succ _, fun _ h => h, fun _ _ => .inl rfl, fun r _ c s h => .inl ⟨r, c, s, h⟩, fun _ h => h, fun _ h => .inl h, fun _ _ _ => rfl⟩
 refine ⟨⟨hs.sz, fun i => (hs.tm i).later hs.mem m, ⟨hs.mem.dead, fun r bl hr => ?_, hs.mem.inj, hs.mem.used, hs.mem.imm, hs.mem.gr.later (hs.mem.kept m)⟩, hs.df.later hs.mem m, Env.later hs.mem m hs.en, hs.bd⟩, m⟩
 obtain ⟨blk, c, h1, h2, h3, h4, h5⟩ := hs.mem.blk r bl hr
 refine ⟨blk, c, h1, h2, h3, h4, ?_⟩
 rcases h5 with h5 | ⟨b, cur, rfl, h6, h7, h8, h9⟩
 ·
  exact .inl h5
 ·
  exact .inr ⟨b, cur, rfl, h6, h7, h8, fun i row hi => ⟨(h9 i row hi).1, fun j d hd => by
   obtain ⟨u, k3, k4, k5⟩ := (h9 i row hi).2 j d hd
   exact ⟨u, k3, k4, k5.later hs.mem m⟩⟩⟩
def todo (n : Nat) (listed : Array Bool) : List Nat := (List.range n).filter fun i => !listed.getD i false
theorem Zo6 [Glob P] {ops : Array Oper} {b : Nat} {ro : Option Nat} {n : Nat} {Q : Exit → Act → World → Prop} {w0 : World} {g0 : Mem} {fin : S} (hcomm : Zlo C ops.toList = true) :
  ∀ (fuel : Nat) (listed : Array Bool) (s : S) (g : Mem) (a : Act) (w : World), listed.size = ops.size → (todo ops.size listed).length ≤ fuel → (∀ (i : Nat) o, ops.toList[i]? = some o → listed.getD i false = true → ∀ e ∈ o.after.toList, Region.binds .any e = true → listed.getD e.on false = true) →
   (∀ (i : Nat) o, ops.toList[i]? = some o → ∀ e ∈ o.after.toList, Region.binds .any e = true → e.on < i) →
   St P B s g a w → Mono g0 g w0 w → (∀ r, g.U r → r < b ∨ ∃ i, listed.getD i false = true ∧ i < ops.size ∧ r = b + i) → (todo ops.size listed).foldl (Zab P (words P) C ops.toList b) s = fin → fin.ok →
   (∀ g' a' w', St P B fin g' a' w' → Mono g0 g' w0 w' → (∀ r, g'.U r → r < b + ops.size) → Q .normal a' w') →
   wpAnyIn (Fw ro) n P .any ops Q fuel listed a w := by
 intro fuel
 induction fuel with
 | zero =>
  intro listed s g a w hsz hfu hX hback hs hm hU hfin hok hQ
  have hnil : todo ops.size listed = [] := List.eq_nil_of_length_eq_zero (by omega)
  rw [hnil] at hfin
  simp only [List.foldl_nil] at hfin
  subst hfin
  refine ⟨?_, hQ g a w hs hm fun r hr => ?_⟩
  ·
   unfold Region.ready
   rw [List.filter_eq_nil_iff]
   intro i hi
   have h1 : i ∉ todo ops.size listed := by rw [hnil]; simp
   simp only [todo, List.mem_filter, hi, true_and, Bool.not_eq_true', Bool.not_eq_false] at h1
   have hil : i < listed.size := by rw [hsz]; simpa using hi
   have h2 : listed.getD i true = true := by simp [Array.getD, hil] at h1 ⊢; exact h1
   simp [h2]
  ·
   rcases hU r hr with h | ⟨i, _, h, rfl⟩ <;> omega
 | succ fuel ih =>
  intro listed s g a w hsz hfu hX hback hs hm hU hfin hok hQ
  refine ⟨fun hrd => ?_, fun i hi => ?_⟩
  ·
   have hnil : todo ops.size listed = [] := by
    rw [todo, List.filter_eq_nil_iff]
    intro i hi
    simp only [Bool.not_eq_true', Bool.not_eq_false]
    have hlt : i < ops.size := by simpa using hi
    have : ∀ k, k < ops.size → listed.getD k false = true := by
     intro k
     induction k using Nat.strongRecOn with
     | _ k ihk =>
      intro hk
      have h0 : k ∉ Region.ready .any ops listed := by rw [hrd]; simp
      unfold Region.ready at h0
      simp only [List.mem_filter, List.mem_range, hk, true_and] at h0
      have hkl : k < listed.size := by omega
      cases hq : listed.getD k false with
      | true => rfl
      | false =>
       exfalso
       apply h0
       have h2 : listed.getD k true = false := by simp [Array.getD, hkl] at hq ⊢; exact hq
       have h3 : ops[k]? = some ops[k] := by simp [hk]
       simp only [h2, Bool.not_false, h3, Option.map_some, Option.getD_some, Bool.true_and]
       rw [Array.all_eq_true]
       intro q hqq
       simp only [Bool.or_eq_true, Bool.not_eq_true']
       cases hb : Region.binds .any (ops[k].after[q]) with
       | false => exact .inl rfl
       | true =>
        have hmem : ops[k].after[q] ∈ ops[k].after.toList := by simp
        have h4 := hback k ops[k] (by simp [hk]) _ hmem hb
        exact .inr (ihk _ h4 (by omega))
    exact this i hlt
   rw [hnil] at hfin
   simp only [List.foldl_nil] at hfin
   subst hfin
   exact hQ g a w hs hm fun r hr => by rcases hU r hr with h | ⟨i, _, h, rfl⟩ <;> omega
  ·
   unfold Region.ready at hi
   simp only [List.mem_filter, List.mem_range, Bool.and_eq_true, Bool.not_eq_true'] at hi
   obtain ⟨hlt, h1, h2⟩ := hi
   have h3 : ops[i]? = some ops[i] := by simp [hlt]
   have h3L : ops.toList[i]? = some ops[i] := by simp [hlt]
   simp only [h3, Option.map_some, Option.getD_some] at h2
   have hil : i < listed.size := by omega
   have h1f : listed.getD i false = false := by simp [Array.getD, hil] at h1 ⊢; exact h1
   have hpred : ∀ e ∈ (ops[i]).after.toList, Region.binds .any e = true → listed.getD e.on false = true := by
    intro e he hb
    rw [Array.all_eq_true] at h2
    obtain ⟨q, hq, rfl⟩ := Array.mem_iff_getElem.1 (Array.mem_toList_iff.1 he)
    have := h2 q hq
    simp only [hb, Bool.not_true, Bool.false_or] at this
    exact this
   have hmem : i ∈ todo ops.size listed := by simp [todo, hlt]; simpa using h1f
   obtain ⟨pre, post, hsplit⟩ := List.append_of_mem hmem
   have hsorted : (todo ops.size listed).Pairwise (· < ·) := List.Pairwise.filter _ List.pairwise_lt_range
   rw [hsplit] at hsorted
   have hpre : ∀ j ∈ pre, j < i := fun j hj => (List.pairwise_append.1 hsorted).2.2 j hj i (by simp)
   have hpost : ∀ j ∈ post, i < j := fun j hj => (List.pairwise_cons.1 (List.pairwise_append.1 hsorted).2.1).1 j hj
   have hap : ∀ j ∈ pre, j ≠ i ∧ ∀ x, ops.toList[j]? = some x → Zpe C ops.toList x ops[i] = true := by
    intro j hj
    have hjl := hpre j hj
    refine ⟨by omega, fun x hx => ?_⟩
    have hjm : j ∈ todo ops.size listed := by rw [hsplit]; simp [hj]
    have hjn : listed.getD j false = false := by simp only [todo, List.mem_filter, Bool.not_eq_true'] at hjm; exact hjm.2
    unfold Zlo at hcomm
    simp only [List.all_eq_true, List.mem_range, Bool.or_eq_true] at hcomm
    rcases hcomm i (by simpa using hlt) j hjl with h | h
    ·
     exfalso
     have := Zde (L := ops.toList) (X := fun k => listed.getD k false = true) hX i _ h3L hpred j h
     rw [hjn] at this; cases this
    ·
     have e1 : ops.toList.getD j default = x := by simp only [List.getD, hx, Option.getD_some]
     have e2 : ops.toList.getD i default = ops[i] := by simp only [List.getD, h3L, Option.getD_some]
     rw [e1, e2] at h; exact h
   have hnU : ∀ j, j ∈ todo ops.size listed → ¬ g.U (b + j) := by
    intro j hjm hu
    have hjn : listed.getD j false = false := by simp only [todo, List.mem_filter, Bool.not_eq_true'] at hjm; exact hjm.2
    rcases hU _ hu with h | ⟨k, hk, _, e⟩
    ·
     omega
    ·
     have : k = j := by omega
     subst this; rw [hjn] at hk; cases hk
   have hh0 : s.h (b + i) = none := by
    cases hq : s.h (b + i) with
    | none => rfl
    | some bl =>
     obtain ⟨blk, c', q1, _⟩ := hs.mem.blk _ bl hq
     exact absurd (hs.mem.used _ (by rw [q1]; simp)) (hnU i hmem)
   have hok0 := hok
   rw [← hfin, hsplit, List.foldl_append, List.foldl_cons] at hok0
   have hok1 := Zah hok0
   have hokp : (pre.foldl (Zab P (words P) C ops.toList b) s).ok := by
    unfold Zab at hok1
    rw [h3L] at hok1
    exact Zqm hok1
   have hnam : reader ops[i] = true → ∀ j ∈ pre, ∀ d ∈ (Zja (ops[i]).op).map s.ev, named (b + j) (sd d) = false := by
    intro hr j hj d hd
    have hsg : sg d = true := by
     have e := Zag (P := P) (W := words P) (C := C) (L := ops.toList) (b := b) (y := ops[i]) pre s fun k hk x hx => Zkc ((hap k hk).2 x hx)
     have hrun' : ∀ u, Zab P (words P) C ops.toList b u i = Zva P (words P) C ops.toList b i ops[i] u := fun u => by simp [Zab, hlt]
     rw [hrun', Zta] at hok1
     have h2 := hok1.2
     obtain ⟨r1, r2⟩ := Zzd hr
     simp only [Zwb, r2, Zub, Zdg r1, Bool.false_eq_true, if_false] at h2
     have h4 := h2.2.1 trivial
     rw [show (Zja (ops[i]).op).map (pre.foldl (Zab P (words P) C ops.toList b) s).ev = (Zja (ops[i]).op).map s.ev from e] at h4
     exact List.all_eq_true.1 h4 d hd
    cases hq : named (b + j) (sd d) with
    | false => rfl
    | true =>
     exfalso
     obtain ⟨z, _, rfl⟩ := List.mem_map.1 hd
     exact hnU j (by rw [hsplit]; simp [hj]) (Zrl (Zgb hs z) hsg hq)
   have hfin' : (pre ++ post).foldl (Zab P (words P) C ops.toList b) (Zab P (words P) C ops.toList b s i) = fin := by
    rw [← hfin, hsplit, List.foldl_append, List.foldl_append, List.foldl_cons, Zli h3L pre s hap hnam hh0 hokp]
   have hrun : Zab P (words P) C ops.toList b s i = Zva P (words P) C ops.toList b i ops[i] s := by simp [Zab, hlt]
   rw [hrun] at hfin'
   have hset : ∀ k, (listed.setIfInBounds i true).getD k false = (listed.getD k false || k == i) := by
    intro k
    by_cases e : k = i
    ·
     subst e; simp [Array.getD, hil]
    ·
     rw [getD_set_ne false (Ne.symm e)]
     have : (k == i) = false := by simpa using e
     rw [this, Bool.or_false]
   have htodo : todo ops.size (listed.setIfInBounds i true) = pre ++ post := by
    have e1 : todo ops.size (listed.setIfInBounds i true) = (todo ops.size listed).filter (· != i) := by
     unfold todo
     rw [List.filter_filter]
     refine List.filter_congr fun k _ => ?_
     rw [hset k]
     by_cases e : k = i
     ·
      simp [e]
     ·
      have e2 : (k == i) = false := by simpa using e
      have e3 : (k != i) = true := by simpa using e
      rw [e2, e3, Bool.or_false, Bool.true_and]
    rw [e1, hsplit, List.filter_append, List.filter_cons]
    have p1 : pre.filter (· != i) = pre := List.filter_eq_self.2 fun j hj => by have := hpre j hj; simp; omega
    have p2 : post.filter (· != i) = post := List.filter_eq_self.2 fun j hj => by have := hpost j hj; simp; omega
    simp [p1, p2]
   refine Zae hs (b := b) (N := b + ops.size) (fun h => ?_) (fun r hr => ?_) h3 (Zah (by rw [hfin']; exact hok)) fun g' a' w' q1 q2 q3 => ?_
   ·
    rcases hU _ h with h | ⟨k, hk, _, e⟩
    ·
     omega
    ·
     have : k = i := by omega
     subst this; rw [h1f] at hk; cases hk
   ·
    rcases hU r hr with h | ⟨k, _, h, rfl⟩ <;> omega
   ·
    refine ih (listed.setIfInBounds i true) _ g' a' w' (by simp [hsz]) (by rw [htodo]; have := congrArg List.length hsplit; simp at this; simp; omega) (fun k o hk hkl e he hb => ?_) hback q1 (hm.trans q2) (fun r hr => ?_) (by rw [htodo]; exact hfin') hok hQ
    ·
     rw [hset] at hkl ⊢
     simp only [Bool.or_eq_true, beq_iff_eq] at hkl ⊢
     rcases hkl with hkl | rfl
     ·
      exact .inl (hX k o hk hkl e he hb)
     ·
      rw [h3L] at hk; cases hk
      exact .inl (hpred e he hb)
    ·
     rcases q3 r hr with h | rfl
     ·
      rcases hU r h with h | ⟨k, hk, hks, rfl⟩
      ·
       exact .inl h
      ·
       exact .inr ⟨k, by rw [hset, hk]; rfl, hks, rfl⟩
     ·
      exact .inr ⟨i, by rw [hset]; simp, hlt, rfl⟩
end Go.DL
namespace Go.DL
open Go.RowKit
variable {P : Program} {C : Con}
def S.clear (s : S) : S := { s with ok := True }
theorem St.clear [Glob P] {B : Bot} {s : S} {g : Mem} {a : Act} {w : World} (h : St P B s g a w) : St P B s.clear g a w := ⟨h.sz, h.tm, h.mem, h.df, h.en, h.bd⟩
def DW (P : Program) [Glob P] (ro : Option Nat) (c : Code) (Q : Exit → S → Prop) (s : S) : Prop :=
 ∀ (B : Bot) (g : Mem) (a : Act) (w : World), St P B s g a w → (∀ r, g.U r → r < s.nx) →
  c.wpIn (Fw ro) 0 P (fun e a' w' => ∃ s' g', Q e s' ∧ St P B s' g' a' w' ∧ MonoX s.e.x g g' w w' ∧ (∀ r, g'.U r → r < s'.nx) ∧ s'.e.x = s.e.x) a w
theorem wpIn_loop_ghost [Glob P] {F : Fence} {n : Nat} {Q : Exit → Act → World → Prop} {a : Act} {w : World} {c : Code} (I : Nat → Act → World → Prop) (n0 : Nat) (h0 : I n0 a w)
  (round : ∀ k a w, I k a w → c.wpIn F n P (Exit.then (fun a' w' => ∃ k', k' < k ∧ I k' a' w') Q) a w) : (Code.loop c).wpIn F n P Q a w := by
 refine wpIn_loop (fun a w => ∃ k, I k a w) (fun a w => leastOf fun k => I k a w) ⟨n0, h0⟩ fun a w h => ?_
 obtain ⟨h1, h2⟩ := leastOf_spec h
 refine wpIn_mono (round _ a w h1) fun e a' w' hq => ?_
 cases e with
 | normal =>
  obtain ⟨k', hlt, hI⟩ := hq
  exact ⟨⟨k', hI⟩, Nat.lt_of_le_of_lt ((leastOf_spec ⟨k', hI⟩).2 k' hI) hlt⟩
 | _ => exact hq
section
variable {ro : Option Nat} {Q : Exit → S → Prop} {s : S}
theorem DW.mono [Glob P] {c : Code} {Q' : Exit → S → Prop} (h : DW P ro c Q s) (hq : ∀ e s, Q e s → Q' e s) : DW P ro c Q' s :=
 fun B g a w hs hU => wpIn_mono (h B g a w hs hU) fun _ _ _ ⟨s', g', q, r⟩ => ⟨s', g', hq _ _ q, r⟩
theorem dw_skip [Glob P] (h : Q .normal s) : DW P ro .skip Q s := fun _ g _ _ hs hU => wpIn_skip ⟨s, g, h, hs, MonoX.refl _ _ _, hU, rfl⟩
theorem Zka [Glob P] {id : Nat} (h : Q (.exit id) s) : DW P ro (.exit id) Q s := fun _ g _ _ hs hU => wpIn_exit ⟨s, g, h, hs, MonoX.refl _ _ _, hU, rfl⟩
theorem Zba [Glob P] (h : Q .ret s) : DW P ro .ret Q s := fun _ g _ _ hs hU => wpIn_ret ⟨s, g, h, hs, MonoX.refl _ _ _, hU, rfl⟩
def thenS (next : S → Prop) (Q : Exit → S → Prop) : Exit → S → Prop
 | .normal, s => next s
 | e, s => Q e s
theorem Zaa [Glob P] {x y : Code} (h : DW P ro x (thenS (DW P ro y Q) Q) s) : DW P ro (.seq x y) Q s := by
 intro B g a w hs hU
 refine wpIn_seq (wpIn_mono (h B g a w hs hU) ?_)
 rintro e a' w' ⟨s', g', hq, hs', hm, hU', hx⟩
 cases e with
 | normal => exact wpIn_mono (hq B g' a' w' hs' hU') fun e a'' w'' ⟨s'', g'', q, r, m, u, v⟩ => ⟨s'', g'', q, r, hm.trans (hx ▸ m), u, v.trans hx⟩
 | _ => exact ⟨s', g', hq, hs', hm, hU', hx⟩
theorem dw_cond [Glob P] {c : Operand} {x y : Code} {t : Bool} (hc : s.ev c = .v (.bool t)) (ht : t = true → DW P ro x Q s) (hf : t = false → DW P ro y Q s) : DW P ro (.cond c x y) Q s := by
 intro B g a w hs hU
 have h := Zgb hs c
 rw [hc] at h
 exact wpIn_cond_split h.v_inv (fun e => ht e B g a w hs hU) (fun e => hf e B g a w hs hU)
def blockS (id : Nat) (Q : Exit → S → Prop) : Exit → S → Prop
 | .exit id', s => if id' = id then Q .normal s else Q (.exit id') s
 | e, s => Q e s
theorem Zda [Glob P] {id : Nat} {c : Code} (h : DW P ro c (blockS id Q) s) : DW P ro (.block id c) Q s := by
 intro B g a w hs hU
 refine wpIn_block (wpIn_mono (h B g a w hs hU) ?_)
 rintro e a' w' ⟨s', g', hq, r⟩
 cases e with
 | exit id' =>
  simp only [Exit.inBlock, blockS] at hq ⊢
  split
  ·
   rename_i e; rw [if_pos e] at hq; exact ⟨s', g', hq, r⟩
  ·
   rename_i e; rw [if_neg e] at hq; exact ⟨s', g', hq, r⟩
 | _ => exact ⟨s', g', hq, r⟩
def Zte (L : List Oper) : Bool := (List.range L.length).all fun i => (L.getD i default).after.toList.all fun e => !Region.binds .any e || decide (e.on < i)
theorem Ycb [Glob P] {id : Nat} {ops : Array Oper} {draw : Bool} (hd : draw = true → P.follows .mixedOrders = true ∧ Zlo C ops.toList = true ∧ Zte ops.toList = true)
  (hok : (exec P (words P) C ops.toList s).ok) (hq : Q .normal (exec P (words P) C ops.toList s).clear) : DW P ro (.region id ops draw) Q s := by
 intro B g a w hs hU
 have hs0 : St P B (s.begin ops.toList.length) g a w := ⟨hs.sz, hs.tm, hs.mem, hs.df, hs.en, hs.bd⟩
 have hnx : ∀ (l : List Nat) (u : S), (l.foldl (Zab P (words P) C ops.toList s.nx) u).nx = u.nx := by
  intro l
  induction l with
  | nil => intro u; rfl
  | cons i l ih =>
   intro u
   simp only [List.foldl_cons]
   rw [ih]
   unfold Zab
   split
   ·
    exact exec1_n.2
   ·
    rfl
 have hfold := Zpi (P := P) (W := words P) (C := C) (L := ops.toList) (b := s.nx) ops.toList.length 0 (s.begin ops.toList.length) (by omega)
 simp only [List.drop_zero] at hfold
 have hfin : exec P (words P) C ops.toList s = (List.range' 0 ops.toList.length).foldl (Zab P (words P) C ops.toList s.nx) (s.begin ops.toList.length) := hfold
 have hnxf : (exec P (words P) C ops.toList s).nx = s.nx + ops.size := by rw [hfin, hnx]; simp [S.begin]
 have hex : ∀ (l : List Nat) (u : S), (l.foldl (Zab P (words P) C ops.toList s.nx) u).e = u.e := by
  intro l
  induction l with
  | nil => intro u; rfl
  | cons i l ih =>
   intro u
   simp only [List.foldl_cons]
   rw [ih]
   unfold Zab
   split
   ·
    unfold Zva; split <;> rfl
   ·
    rfl
 have hef : (exec P (words P) C ops.toList s).clear.e.x = s.e.x := by show (exec P (words P) C ops.toList s).e.x = s.e.x; rw [hfin, hex]; rfl
 have fin : ∀ g' a' w', St P B (exec P (words P) C ops.toList s) g' a' w' → Mono g g' w w' → (∀ r, g'.U r → r < s.nx + ops.size) → ∃ s' g'', Q .normal s' ∧ St P B s' g'' a' w' ∧ MonoX s.e.x g g'' w w' ∧ (∀ r, g''.U r → r < s'.nx) ∧ s'.e.x = s.e.x :=
  fun g' a' w' h1 h2 h3 => ⟨_, g', hq, h1.clear, h2.toX, fun r hr => by show r < (exec P (words P) C ops.toList s).nx; rw [hnxf]; exact h3 r hr, hef⟩
 cases draw with
 | false =>
  refine wpIn_region ?_
  have := Zns (P := P) (C := C) (B := B) (ops := ops) (b := s.nx) (ro := ro) (n := 0) (Q := fun e a' w' => ∃ s' g', Q e s' ∧ St P B s' g' a' w' ∧ MonoX s.e.x g g' w w' ∧ (∀ r, g'.U r → r < s'.nx) ∧ s'.e.x = s.e.x) ops.size 0 (s.begin ops.toList.length) g a w hs0 (Mono.refl _ _) (fun r hr => by have := hU r hr; omega) (by omega)
   (by simp only [List.drop_zero]; exact hok) (by simp only [List.drop_zero]; exact fin)
  rw [List.range_eq_range']
  exact this
 | true =>
  obtain ⟨h1, h2, h3⟩ := hd rfl
  refine wpIn_region_any h1 ?_
  obtain ⟨hs1, hm1⟩ := Zsr hs0
  have hrep : ∀ i, (Array.replicate ops.size false).getD i false = false := by
   intro i
   by_cases h : i < ops.size <;> simp [Array.getD, h]
  have htodo : todo ops.size (Array.replicate ops.size false) = List.range' 0 ops.toList.length := by
   unfold todo
   rw [List.filter_eq_self.2 (fun i _ => by rw [hrep]; rfl), List.range_eq_range']
   simp
  refine Zo6 (C := C) (B := B) (b := s.nx) (fin := exec P (words P) C ops.toList s) h2 ops.size _ (s.begin ops.toList.length) g a _ (by simp) (by rw [htodo]; simp) (fun i o _ hi => by rw [hrep] at hi; cases hi) (fun i o ho e he hb => ?_) hs1 hm1 (fun r hr => .inl (hU r hr)) (by rw [htodo, hfin]) hok fin
  unfold Zte at h3
  simp only [List.all_eq_true, List.mem_range, Bool.or_eq_true, Bool.not_eq_true', decide_eq_true_eq] at h3
  have hil : i < ops.toList.length := (List.getElem?_eq_some_iff.1 ho).1
  have ho' : ops.toList.getD i default = o := by simp only [List.getD, ho, Option.getD_some]
  have := h3 i hil e (by rw [ho']; exact he)
  rcases this with h | h
  ·
   rw [hb] at h; cases h
  ·
   exact h
end
def S.init (n : Nat) (args : List D) : S := { n, t := fun i => args.getD i .junk, h := fun _ => none, nx := 0 }
def Zjx [Glob P] (s : S) : ResultVar → D
 | .tmp t => s.t t
 | .cell a t => (ldD P t (s.t a) s.h).1
def Zf3 [Glob P] (s : S) : ResultVar → Prop
 | .tmp _ => True
 | .cell a t => (ldD P t (s.t a) s.h).2
def resD (P : Program) [Glob P] (rs : List ResultVar) (s : S) : D := match rs.map (Zjx (P := P) s) with
 | [d] => d
 | ds => .tuple ds
def Zfv (P : Program) [Glob P] (s : S) : List ResultVar → Prop
 | [] => True
 | r :: rs => Zf3 (P := P) s r ∧ Zfv P s rs
def Ze3 (tmps : Array Value) (r : ResultVar) : Sem Value := match r with
 | .tmp t => pure (tmps.getD t undef)
 | .cell a t => do loadVar t (← asAddr (tmps.getD a undef))
theorem Zpl [Glob P] {B : Bot} {s : S} {g : Mem} {a : Act} {w : World} (hs : St P B { s with e := Env.tt } g a w) : ∀ rs : List ResultVar, Zfv P s rs → ∃ vs : List Value, (rs.mapM (Ze3 a.tmps)).run P w = .ok vs w ∧ Reps w g (rs.map (Zjx (P := P) s)) vs
 | [], _ => ⟨[], by simp, .nil⟩
 | r :: rs, h => by
  obtain ⟨vs, h1, h2⟩ := Zpl hs rs h.2
  cases r with
  | tmp t => exact ⟨a.tmps.getD t undef :: vs, by simp only [List.mapM_cons, Sem.run_bind, Ze3, Sem.run_pure, Result.andThen_ok, h1], .cons (hs.tm t) h2⟩
  | cell c t =>
   obtain ⟨q1, q2, q3⟩ := h.1
   obtain ⟨p, hp, hc⟩ := Zqx hs.mem (hs.tm c) (by intro e; rw [e] at q1; simp at q1; omega)
   obtain ⟨v, h4, h5⟩ := Zwn hc q1 q2 q3
   refine ⟨v :: vs, ?_, .cons h5 h2⟩
   simp only [List.mapM_cons, Sem.run_bind, Ze3, hp, asAddr, Sem.run_pure, Result.andThen_ok, h4, h1]
theorem Zuf [Glob P] {fn : Func} {B : Bot} {s : S} {g : Mem} {a : Act} {w : World} (hs : St P B { s with e := Env.tt } g a w) (hok : Zfv P s fn.results.toList) : ∃ v, (results fn a.tmps).run P w = .ok v w ∧ Rep w g (resD P fn.results.toList s) v := by
 obtain ⟨vs, h1, h2⟩ := Zpl hs _ hok
 have hrun : (results fn a.tmps).run P w = .ok (if h : vs.toArray.size = 1 then vs.toArray[0] else .tuple vs.toArray) w := by
  have e : results fn a.tmps = (do let vs ← fn.results.mapM (Ze3 a.tmps); pure (if h : vs.size = 1 then vs[0] else .tuple vs) : Sem Value) := rfl
  rw [e, Array.mapM_eq_mapM_toList]
  simp [h1]
 refine ⟨_, hrun, ?_⟩
 unfold resD
 split
 ·
  rename_i d hd
  rw [hd] at h2
  obtain ⟨v, l, rfl, h3, h4⟩ := h2.of_cons
  rw [h4.of_nil]
  simpa using h3
 ·
  rename_i hne
  rw [dif_neg (fun h => ?_)]
  ·
   exact .mk_tuple (by simpa using h2)
  ·
   have hl : (fn.results.toList.map (Zjx (P := P) s)).length = 1 := by rw [h2.1]; simpa using h
   match hq : fn.results.toList.map (Zjx (P := P) s), hl with
   | [d], _ => exact hne d hq
def Ybc : Obj → Prop
 | .cells .. | .map .. => True
 | _ => False
theorem Zij [Glob P] {fn : Func} {tmps : Array Value} {R : Ending → World → Prop} {n B : Nat} {g : Mem} : ∀ (ds : List Deferred) (w : World), Marks B g ds w →
  (∀ w', w'.drawn = w.drawn → w'.os = w.os → w'.tape = w.tape → w'.output = w.output → w'.heap.size = w.heap.size → (∀ k : Nat, k < B → w'.heap[k]? = w.heap[k]?) → (∀ k : Nat, g.I k → w'.heap[k]? = w.heap[k]?) → (∀ (k : Nat) o, w.heap[k]? = some o → Ybc o → w'.heap[k]? = w.heap[k]?) → ∃ v, (results fn tmps).run P w' = .ok v w' ∧ R (.returned v) w') →
  LeavesInM Fence.wide n P fn tmps R ds .returning w := by
 intro ds
 induction ds with
 | nil =>
  intro w _ h
  exact h w rfl rfl rfl rfl rfl (fun _ _ => rfl) (fun _ _ => rfl) (fun _ _ _ _ => rfl)
 | cons d ds ih =>
  rintro w ⟨⟨D, h1, h2, h3, h4, h5⟩, h6⟩ h
  refine ⟨by simp, .inl ⟨D, w.putObj D (.deferred none), h1, run_takeDeferred h2, ?_⟩⟩
  have hne : ∀ k, k ≠ D → (w.putObj D (.deferred none)).heap[k]? = w.heap[k]? := fun k hk => World.putObj_heap_other hk
  have hms : ∀ ds : List Deferred, (∀ d' ∈ ds, d'.target ≠ .collected D) → Marks B g ds w → Marks B g ds (w.putObj D (.deferred none)) := by
   intro ds
   induction ds with
   | nil => intro _ _; trivial
   | cons e ds ihd =>
    rintro hds ⟨⟨D', k1, k2, k3, k4, k5⟩, k6⟩
    refine ⟨⟨D', k1, ?_, k3, k4, k5⟩, ihd (fun d' hd' => hds d' (by simp [hd'])) k6⟩
    rw [hne D' (fun e' => by subst e'; exact hds e (by simp) k1)]
    exact k2
  refine ih _ (hms ds h3 h6) fun w' e0 e1 e2 e3 e4 e5 e6 e7 => ?_
  refine h w' (by rw [e0]; rfl) (by rw [e1]; rfl) (by rw [e2]; rfl) (by rw [e3]; rfl) (by rw [e4]; simp) (fun k hk => ?_) (fun k hk => ?_) (fun k o hk ho => ?_)
  ·
   rw [e5 k hk, hne k (by omega)]
  ·
   rw [e6 k hk, hne k (fun e => by subst e; exact h5 hk)]
  ·
   have : k ≠ D := fun e' => by subst e'; rw [h2] at hk; cases hk; exact ho
   rw [e7 k o (by rw [hne k this]; exact hk) ho, hne k this]
theorem HM.marks [Glob P] {h : H} {g : Mem} {w w' : World} (hm : HM P h g w) (e4 : w'.heap.size = w.heap.size) (e6 : ∀ k : Nat, g.I k → w'.heap[k]? = w.heap[k]?) (e7 : ∀ (k : Nat) o, w.heap[k]? = some o → Ybc o → w'.heap[k]? = w.heap[k]?) : HM P h g w' := by
 refine ⟨hm.dead, fun r bl hr => ?_, hm.inj, hm.used, fun b hb => by rw [e4]; exact hm.imm b hb, hm.gr.later fun b hb => ⟨hb, e6 b hb⟩⟩
 obtain ⟨blk, c, h1, h2, h3, h4, h5⟩ := hm.blk r bl hr
 refine ⟨blk, c, h1, h2, h3, h4, ?_⟩
 rcases h5 with h5 | ⟨b, cur, rfl, h6, h7, h8, h9⟩
 ·
  exact .inl h5
 ·
  have hst : w'.heap[b]? = w.heap[b]? := by
   obtain ⟨x, hx, hy⟩ := h6.some
   exact e7 b x hx (by rcases hy with ⟨_, _, _, rfl⟩ | ⟨_, _, rfl⟩ <;> trivial)
  exact .inr ⟨b, cur, rfl, by rw [hst]; exact h6, h7, h8, fun i row hi => ⟨(h9 i row hi).1, fun j d hd => by
   obtain ⟨u, k3, k4, k5⟩ := (h9 i row hi).2 j d hd
   exact ⟨u, k3, k4, k5.mono (fun b hb => ⟨hb, e6 b hb⟩) (fun _ h => h) (fun _ _ => .inl rfl)⟩⟩⟩
theorem St.marks [Glob P] {B : Bot} {s : S} {g : Mem} {a : Act} {w w' : World} (hs : St P B s g a w) (e4 : w'.heap.size = w.heap.size) (e6 : ∀ k : Nat, g.I k → w'.heap[k]? = w.heap[k]?) (e7 : ∀ (k : Nat) o, w.heap[k]? = some o → Ybc o → w'.heap[k]? = w.heap[k]?) :
  St P (Bot.of B.n) { s with e := Env.tt } g { a with defers := [] } w' :=
 ⟨hs.sz, fun i => (hs.tm i).mono (fun b hb => ⟨hb, e6 b hb⟩) (fun _ h => h) (fun _ _ => .inl rfl), hs.mem.marks e4 e6 e7, Dfs.start, trivial, by rw [e4]; exact hs.bd⟩
theorem Zjr [Glob P] {n : Nat} {args : List D} {vs : List Value} {g : Mem} {w : World} (hr : Reps w g args vs) (hn : args.length ≤ n) {h : H} (hm : HM P h g w) {nx : Nat} :
  St P (Bot.of w.heap.size) { S.init n args with h := h, nx := nx } g { tmps := vs.toArray ++ Array.replicate (n - vs.toArray.size) undef, defers := [] } w := by
 have hl : vs.length = args.length := hr.1.symm
 refine ⟨by simp [S.init]; omega, fun i => ?_, hm, Dfs.start, trivial, Nat.le_refl _⟩
 simp only [S.init]
 by_cases hi : i < args.length
 ·
  have e1 : args.getD i .junk = args[i] := by simp [List.getD, List.getElem?_eq_getElem hi]
  have hi' : i < vs.length := by omega
  have e2 : (vs.toArray ++ Array.replicate (n - vs.toArray.size) undef).getD i undef = vs[i] := by
   simp [Array.getElem?_append, hi']
  rw [e1, e2]
  exact hr.2 i _ _ (by simp) (by simp)
 ·
  have e1 : args.getD i .junk = .junk := by simp [List.getD, List.getElem?_eq_none (Nat.le_of_not_lt hi)]
  rw [e1]
  exact .junk _
theorem Zca [Glob P] {f : FuncId} {fn : Func} {c : Code} {args : List D} {res : D} (hf : P.funcs[f]? = some fn) (hb : fn.body = some c) (hbd : Zea P f = true) (hnr : args.all D.nr = true) (hn : args.length ≤ fn.ntmps)
  (h : DW P none c (fun e s => (e = .normal ∨ e = .ret) ∧ Zfv P s fn.results.toList ∧ ∃ k, Zqa s.h k (resD P fn.results.toList s) ∧ wk (snap s.h k (resD P fn.results.toList s)) = res) (S.init fn.ntmps args)) : PureCt P f args res := by
 refine ⟨hbd, hnr, fun w I vs hI hgr hr => ?_⟩
 have hm : HM P (fun _ => none) (noM I) w := by
  refine ⟨fun _ _ => rfl, ?_, ?_, ?_, hI, hgr⟩
  ·
   intro r bl h; cases h
  ·
   intro r r' b c c' s s' h; cases h
  ·
   intro r h; exact absurd rfl h
 have hs : St P (Bot.of w.heap.size) (S.init fn.ntmps args) (noM I) { tmps := vs.toArray ++ Array.replicate (fn.ntmps - vs.toArray.size) undef, defers := [] } w := Zjr hr hn hm
 refine callsIn_of_wp_marks (n := 0) hf hb trivial (wpIn_mono (F := Fence.wide) (h (Bot.of w.heap.size) (noM I) _ w hs (fun r h => False.elim h)) ?_)
 rintro e a' w' ⟨s', g', ⟨he, ho, k, hk, hres⟩, hs', hm', _⟩
 have hm' := hm'.out
 have hlast : LeavesInM Fence.wide 0 P fn a'.tmps (fun e w' => ∃ v, e = .returned v ∧ Bel w w' ∧ Rep w' (noM fun b => I b ∨ (w.heap.size ≤ b ∧ b < w'.heap.size)) res v) a'.defers .returning w' := by
  refine Zij (P := P) a'.defers w' hs'.df.marks fun w2 e0 e1 e2 e3 e4 e5 e6 e7 => ?_
  have hs2 := hs'.marks e4 e6 e7
  obtain ⟨v, h1, h2⟩ := Zuf (fn := fn) hs2 ho
  refine ⟨v, h1, v, rfl, ⟨by rw [e1, hm'.os], by rw [e2, hm'.tape], by rw [e3, hm'.output], by rw [e4]; exact hm'.size, by rw [e0]; exact hm'.drawn, fun b hb => ?_⟩, ?_⟩
  ·
   rw [e5 b hb, hm'.same b hb (fun r c s h => by cases h)]
  ·
   obtain ⟨q1, q2⟩ := Zbv hs2.mem k _ v (Zqd h2) hk
   have q1 := q1.wk
   have q2 := wk_nr _ q2
   rw [hres] at q1 q2
   refine q1.clean q2 fun b hb => ?_
   rcases hb with hb | ⟨r, c, s, hb⟩
   ·
    rcases hm'.inew b hb with h | h | ⟨r, c, s, h⟩
    ·
     exact .inl h
    ·
     exact .inr ⟨h, hs2.mem.imm b hb⟩
    ·
     cases h
   ·
    rcases hm'.new r b c s hb with ⟨r', c', s', h⟩ | h
    ·
     cases h
    ·
     exact .inr ⟨h, (Zl4 hs2.mem hb).1⟩
 rcases he with rfl | rfl <;> exact hlast
end Go.DL
namespace Go.DL
open Go.RowKit
variable {P : Program} {W : Words} {C : Con}
attribute [go_sem_proc] Nat.reduceEqDiff Nat.reduceAdd Nat.reduceLeDiff Nat.reduceBEq Nat.reduceSub Nat.reduceMul Int.reduceLT Int.reduceLE Int.reduceEq Int.reduceNeg Int.reduceToNat reduceIte Nat.reduceLT reduceCtorEq
attribute [go_sem] decide_true decide_false Bool.not_true Bool.not_false Int.toNat_natCast
def S.out (s : S) (dst : Option Tmp) (r : D × H × Prop) : S := { n := s.n, t := s.put dst r.1, h := r.2.1, nx := s.nx, ok := s.ok ∧ Ztb s.n dst = true ∧ r.2.2, e := s.e }
def S.outG (s : S) (dst : Option Tmp) (op : Op) (C : Con) (gd : D) (want : Bool) (r : D × H × Prop) : S :=
 { n := s.n, t := s.put dst (.cond (Zyt gd want) r.1), h := s.h, nx := s.nx, ok := s.ok ∧ Ztb s.n dst = true ∧ gok gd = true ∧ cls C op ≠ .writes ∧ (Zyt gd want = true → r.2.2), e := s.e }
@[go_sem] theorem exec_eq [Glob P] {L : List Oper} {s : S} : exec P W C L s = Zga P W C L s.nx 0 L { n := s.n, t := s.t, h := s.h, nx := s.nx + L.length, ok := s.ok, e := s.e } := rfl
@[go_sem] theorem execFrom_nil [Glob P] {L : List Oper} {b i : Nat} {s : S} : Zga P W C L b i [] s = s := rfl
@[go_sem] theorem execFrom_cons [Glob P] {L : List Oper} {b i : Nat} {o : Oper} {os : List Oper} {s : S} : Zga P W C L b i (o :: os) s = Zga P W C L b (i + 1) os (Zva P W C L b i o s) := rfl
@[go_sem] theorem exec1_plain [Glob P] {L : List Oper} {b i : Nat} {dst : Option Tmp} {op : Op} {ty : TypeId} {pos : String} {af : Array Edge} {s : S} :
  Zva P W C L b i { dst := dst, op := op, type := ty, pos := pos, after := af, guard := none } s = s.out dst (Zub P W C true op ((Zja op).map s.ev) s.h (b + i)) := rfl
def Zzt (L : List Oper) (j : Nat) (t : Nat → D) : D := ((L[j]?).bind (·.dst)).elim .junk t
@[go_sem] theorem exec1_guard [Glob P] {L : List Oper} {b i j : Nat} {want : Bool} {dst : Option Tmp} {op : Op} {ty : TypeId} {pos : String} {af : Array Edge} {s : S} :
  Zva P W C L b i { dst := dst, op := op, type := ty, pos := pos, after := af, guard := some (j, want) } s =
   s.outG dst op C (Zzt L j s.t) want (Zub P W C (Zyt (Zzt L j s.t) want) op ((Zja op).map s.ev) s.h (b + i)) := rfl
@[go_sem] theorem guardD_zero {dst : Option Tmp} {op : Op} {ty : TypeId} {pos : String} {af : Array Edge} {gd : Option (Nat × Bool)} {L : List Oper} {t : Nat → D} :
  Zzt ({ dst := dst, op := op, type := ty, pos := pos, after := af, guard := gd } :: L) 0 t = dst.elim .junk t := rfl
@[go_sem] theorem guardD_succ {o : Oper} {L : List Oper} {j : Nat} {t : Nat → D} : Zzt (o :: L) (j + 1) t = Zzt L j t := by simp [Zzt]
@[go_sem] theorem out_some {n nx : Nat} {t : Nat → D} {h : H} {ok : Prop} {e : Env} {d : Tmp} {x : D} {h' : H} {p : Prop} : S.out { n, t, h, nx, ok, e } (some d) (x, h', p) = { n, t := upd t d x, h := h', nx, ok := ok ∧ decide (d < n) = true ∧ p, e } := rfl
@[go_sem] theorem out_none' {n nx : Nat} {t : Nat → D} {h : H} {ok : Prop} {e : Env} {x : D} {h' : H} {p : Prop} : S.out { n, t, h, nx, ok, e } none (x, h', p) = { n, t, h := h', nx, ok := ok ∧ p, e } := by simp [S.out, S.put, Ztb]
@[go_sem] theorem outG_some {n nx : Nat} {t : Nat → D} {h : H} {ok : Prop} {e : Env} {d : Tmp} {op : Op} {gd : D} {want : Bool} {x : D} {h' : H} {p : Prop} :
  S.outG { n, t, h, nx, ok, e } (some d) op C gd want (x, h', p) = { n, t := upd t d (.cond (Zyt gd want) x), h, nx, ok := ok ∧ decide (d < n) = true ∧ gok gd = true ∧ cls C op ≠ .writes ∧ (Zyt gd want = true → p), e } := rfl
@[go_sem] theorem Zna {n nx : Nat} {t : Nat → D} {h : H} {ok : Prop} {e : Env} : S.clear { n, t, h, nx, ok, e } = { n, t, h, nx, ok := True, e } := rfl
@[go_sem] theorem Zfa {n : Nat} {args : List D} : S.init n args = { n, t := fun i => args.getD i .junk, h := fun _ => none, nx := 0, ok := True, e := Env.tt } := rfl
@[go_sem] theorem ev_tmp {s : S} {i : Tmp} : s.ev (.tmp i) = s.t i := rfl
@[go_sem] theorem ev_const {s : S} {x : Value} : s.ev (.const x) = ofV x := rfl
@[go_sem] theorem ev_global {s : S} {g : Nat} : s.ev (.global g) = .v (.pointer (some ⟨g, 0, none⟩)) := rfl
@[go_sem] theorem ev_func {s : S} {f : FuncId} : s.ev (.func f) = .fn (.func f) [] [] := rfl
@[go_sem] theorem ofV_int {k : IntKind} {n : Int} : ofV (.int k n) = .v (.int k n) := rfl
@[go_sem] theorem ofV_bool {b : Bool} : ofV (.bool b) = .v (.bool b) := rfl
@[go_sem] theorem ofV_string {s : ByteArray} : ofV (.string s) = .v (.string s) := rfl
@[go_sem] theorem ofV_nil : ofV (.slice none 0 0) = .list true [] := rfl
@[go_sem] theorem ofV_nilFunc : ofV .nilFunc = .v .nilFunc := rfl
@[go_sem] theorem ofV_nilIface : ofV .nilIface = .v .nilIface := rfl
@[go_sem] theorem ofV_tuple {vs : Array Value} : ofV (.tuple vs) = .v (.tuple vs) := rfl
@[go_sem] theorem ofV_ptr {p : Option Addr} : ofV (.pointer p) = .v (.pointer p) := rfl
@[go_sem] theorem upd_hit {α : Type} {f : Nat → α} {i : Nat} {x : α} : upd f i x i = x := by simp [upd]
@[go_sem] theorem upd_miss {α : Type} {f : Nat → α} {i j : Nat} {x : α} (h : (j = i) = False) : upd f i x j = f j := by simp only [upd]; rw [if_neg (by rw [h]; exact id)]
attribute [go_sem] List.take_succ_cons List.take_zero List.take_nil List.drop_zero List.drop_succ_cons List.drop_nil List.set_cons_zero List.set_cons_succ List.cons_append List.nil_append List.append_nil Bool.false_eq_true Nat.zero_add Nat.add_zero Nat.add_assoc List.length_map List.headD_cons
attribute [go_sem] ne_eq imp_self Bool.not_eq_true' Bool.not_eq_false' Bool.and_self and_self
attribute [go_sem] eq_self not_false_eq_true and_true true_and List.length_cons List.length_nil List.getD_cons_zero List.getD_cons_succ List.getD_nil implies_true true_implies
@[go_sem] theorem size_lit {α : Type} {l : List α} : l.toArray.size = l.length := rfl
attribute [go_sem] Zja List.map_cons List.map_nil
@[go_sem] theorem toList_lit {α : Type} {l : List α} : l.toArray.toList = l := by simp
@[go_sem] theorem sd_v {x : Value} : sd (.v x) = .v x := rfl
@[go_sem] theorem sd_agg {x : List D} : sd (.agg x) = .agg x := rfl
@[go_sem] theorem sd_list {f : Bool} {x : List (List D)} : sd (.list f x) = .list f x := rfl
@[go_sem] theorem sd_eptr {x : List D} : sd (.eptr x) = .eptr x := rfl
@[go_sem] theorem sd_mrow {a b c : Nat} : sd (.mrow a b c) = .mrow a b c := rfl
@[go_sem] theorem sd_mptr {a b c : Nat} : sd (.mptr a b c) = .mptr a b c := rfl
@[go_sem] theorem sd_fn {f : Fn} {a b : List D} : sd (.fn f a b) = .fn f a b := rfl
@[go_sem] theorem sd_tuple {a : List D} : sd (.tuple a) = .tuple a := rfl
@[go_sem] theorem sd_iface {t : TypeId} {d : D} : sd (.iface t d) = .iface t d := rfl
@[go_sem] theorem sd_cond {g : Bool} {d : D} : sd (.cond g d) = d := rfl
@[go_sem] theorem sd_mp {r : Nat} : sd (.mp r) = .mp r := rfl
@[go_sem] theorem sd_fmap {kv : List D} : sd (.fmap kv) = .fmap kv := rfl
@[go_sem] theorem sg_mp {r : Nat} : sg (.mp r) = true := rfl
@[go_sem] theorem sg_fmap {kv : List D} : sg (.fmap kv) = true := rfl
@[go_sem] theorem sg_v {x : Value} : sg (.v x) = true := rfl
@[go_sem] theorem sg_agg {x : List D} : sg (.agg x) = true := rfl
@[go_sem] theorem sg_list {f : Bool} {x : List (List D)} : sg (.list f x) = true := rfl
@[go_sem] theorem sg_eptr {x : List D} : sg (.eptr x) = true := rfl
@[go_sem] theorem sg_mrow {a b c : Nat} : sg (.mrow a b c) = true := rfl
@[go_sem] theorem sg_mptr {a b c : Nat} : sg (.mptr a b c) = true := rfl
@[go_sem] theorem sg_fn {f : Fn} {a b : List D} : sg (.fn f a b) = true := rfl
@[go_sem] theorem sg_tuple {a : List D} : sg (.tuple a) = true := rfl
@[go_sem] theorem sg_iface {t : TypeId} {d : D} : sg (.iface t d) = true := rfl
@[go_sem] theorem sg_cond {g : Bool} {d : D} : sg (.cond g d) = g := rfl
attribute [go_sem] List.all_cons List.all_nil Bool.and_true Bool.true_and
@[go_sem] theorem gval_v {b want : Bool} : Zyt (.v (.bool b)) want = (b == want) := rfl
@[go_sem] theorem gval_c {g b want : Bool} : Zyt (.cond g (.v (.bool b))) want = (g && (b == want)) := rfl
@[go_sem] theorem gok_v {b : Bool} : gok (.v (.bool b)) = true := rfl
@[go_sem] theorem gok_c {g b : Bool} : gok (.cond g (.v (.bool b))) = true := rfl
attribute [go_sem] Option.elim beq_true beq_false
@[go_sem] theorem e_move [Glob P] {g : Bool} {x : Operand} {d : D} {h : H} {b : Nat} : Zub P W C g (.move x) [d] h b = (sd d, h, (g = true → sg d = true) ∧ True) := by simp [Zub, Zxa, eff]
@[go_sem] theorem e_assign [Glob P] {g : Bool} {x : Operand} {d : D} {h : H} {b : Nat} : Zub P W C g (.assign x) [d] h b = (sd d, h, (g = true → sg d = true) ∧ True) := by simp [Zub, Zxa, eff]
@[go_sem] theorem e_alloc [Glob P] {g : Bool} {e : TypeId} {h : H} {b : Nat} : Zub P W C g (.alloc e) [] h b = (.mptr b 0 0, upd h b (some ⟨e, [zeroCells P e]⟩), (zeroCells P e).length = P.cellsOf e ∧ (zeroCells P e).all D.one = true ∧ 0 < P.cellsOf e) := by simp [Zub, Zxa, eff]
@[go_sem] theorem e_box [Glob P] {g : Bool} {e : TypeId} {x : Operand} {d : D} {h : H} {b : Nat} : Zub P W C g (.box e x) [d] h b = (.mptr b 0 0, upd h b (some ⟨e, [(sd d).cells]⟩), (g = true → sg d = true) ∧ (sd d).cells.length = P.cellsOf e ∧ (sd d).cells.all D.one = true ∧ 0 < P.cellsOf e) := by simp [Zub, Zxa, eff]
@[go_sem] theorem e_build [Glob P] {g : Bool} {t : TypeId} {ps : Array (Nat × Operand)} {xs : List D} {h : H} {b : Nat} : Zub P W C g (.build t ps) xs h b = ((Zou P t ps.toList (xs.map sd)).1, h, (g = true → xs.all sg = true) ∧ (Zou P t ps.toList (xs.map sd)).2) := by simp [Zub, Zxa, eff, still]
@[go_sem] theorem e_buildSlice [Glob P] {g : Bool} {t : TypeId} {n : Nat} {ps : Array (Nat × Operand)} {xs : List D} {h : H} {b : Nat} : Zub P W C g (.buildSlice t n ps) xs h b = if C.bs then ((Zzo P t n ps.toList (xs.map sd) h b).1, (Zzo P t n ps.toList (xs.map sd) h b).2.1, (g = true → xs.all sg = true) ∧ (Zzo P t n ps.toList (xs.map sd) h b).2.2) else ((Zce P t n ps.toList (xs.map sd)).1, h, (g = true → xs.all sg = true) ∧ (Zce P t n ps.toList (xs.map sd)).2) := by cases hb : C.bs <;> simp [Zub, Zxa, eff, still, hb]
@[go_sem] theorem e_load [Glob P] {g : Bool} {t : TypeId} {x : Operand} {d : D} {h : H} {b : Nat} : Zub P W C g (.load t x) [d] h b = (mkD P t (ldc P (sd d) h), h, (g = true → sg d = true) ∧ P.cellsOf t ≤ (ldc P (sd d) h).length ∧ 0 < P.cellsOf t ∧ (P.underlying t).isSome = true) := by simp [Zub, Zxa, eff, still, ldD]
@[go_sem] theorem e_store [Glob P] {g : Bool} {t : TypeId} {x y : Operand} {d d' : D} {h : H} {b : Nat} : Zub P W C g (.store t x y) [d, d'] h b = (.v undef, (stH P t (sd d) (sd d') h).1, (g = true → (sg d && sg d') = true) ∧ (stH P t (sd d) (sd d') h).2) := by simp [Zub, Zxa, eff]
@[go_sem] theorem e_nilCheck [Glob P] {g : Bool} {x : Operand} {d : D} {h : H} {b : Nat} : Zub P W C g (.nilCheck x) [d] h b = (sd d, h, (g = true → sg d = true) ∧ Zls (sd d) = true) := by simp [Zub, Zxa, eff]
@[go_sem] theorem e_binOp [Glob P] {g : Bool} {op : BinOp} {t u : TypeId} {x y : Operand} {d d' : D} {h : H} {b : Nat} : Zub P W C g (.binOp op t x y u) [d, d'] h b = ((binD P t op (sd d) (sd d')).1, h, (g = true → (sg d && sg d') = true) ∧ (binD P t op (sd d) (sd d')).2) := by simp [Zub, Zxa, eff, still]
@[go_sem] theorem e_unOp [Glob P] {g : Bool} {op : UnOp} {t : TypeId} {x : Operand} {d : D} {h : H} {b : Nat} : Zub P W C g (.unOp op t x) [d] h b = ((unD op (sd d)).1, h, (g = true → sg d = true) ∧ (unD op (sd d)).2) := by simp [Zub, Zxa, eff, still]
@[go_sem] theorem e_convert [Glob P] {g : Bool} {s t : TypeId} {x : Operand} {d : D} {h : H} {b : Nat} : Zub P W C g (.convert s t x) [d] h b = ((Zy1 P s t (sd d)).1, h, (g = true → sg d = true) ∧ (Zy1 P s t (sd d)).2) := by simp [Zub, Zxa, eff, still]
@[go_sem] theorem e_makeFunc [Glob P] {g : Bool} {f : Fn} {a c : Array Operand} {xs : List D} {h : H} {b : Nat} : Zub P W C g (.makeFunc f a c) xs h b = (.fn f ((xs.map sd).take a.size) ((xs.map sd).drop a.size), h, (g = true → xs.all sg = true) ∧ True) := by simp [Zub, Zxa, eff]
@[go_sem] theorem e_slice [Glob P] {g : Bool} {t : TypeId} {x : Operand} {l hi m : Option Operand} {d : D} {xs : List D} {h : H} {b : Nat} : Zub P W C g (.slice t x l hi m) (d :: xs) h b =
  ((Zti P t (sd d) (Zog l (xs.map sd)).1 (Zog hi (Zog l (xs.map sd)).2).1 (Zog m (Zog hi (Zog l (xs.map sd)).2).2).1 h).1, h, (g = true → (sg d && xs.all sg) = true) ∧ (Zti P t (sd d) (Zog l (xs.map sd)).1 (Zog hi (Zog l (xs.map sd)).2).1 (Zog m (Zog hi (Zog l (xs.map sd)).2).2).1 h).2) := by simp [Zub, Zxa, eff, still]
@[go_sem] theorem e_fieldAddr [Glob P] {g : Bool} {t : TypeId} {x : Operand} {f : Nat} {d : D} {h : H} {b : Nat} : Zub P W C g (.fieldAddr t x f) [d] h b = ((Zni P t f (sd d)).1, h, (g = true → sg d = true) ∧ (Zni P t f (sd d)).2) := by simp [Zub, Zxa, eff, still]
@[go_sem] theorem e_field [Glob P] {g : Bool} {t : TypeId} {x : Operand} {f : Nat} {d : D} {h : H} {b : Nat} : Zub P W C g (.field t x f) [d] h b = ((Zor P t f (sd d)).1, h, (g = true → sg d = true) ∧ (Zor P t f (sd d)).2) := by simp [Zub, Zxa, eff, still]
@[go_sem] theorem e_indexAddr [Glob P] {g : Bool} {t : TypeId} {x y : Operand} {d d' : D} {h : H} {b : Nat} : Zub P W C g (.indexAddr t x y) [d, d'] h b = ((Zoc P t (sd d) (sd d') h).1, h, (g = true → (sg d && sg d') = true) ∧ (Zoc P t (sd d) (sd d') h).2) := by simp [Zub, Zxa, eff, still]
@[go_sem] theorem e_index [Glob P] {g : Bool} {t : TypeId} {x y : Operand} {d d' : D} {h : H} {b : Nat} : Zub P W C g (.index t x y) [d, d'] h b = ((idxV P t (sd d) (sd d')).1, h, (g = true → (sg d && sg d') = true) ∧ (idxV P t (sd d) (sd d')).2) := by simp [Zub, Zxa, eff, still]
@[go_sem] theorem e_extract [Glob P] {g : Bool} {x : Operand} {i : Nat} {ds : List D} {h : H} {b : Nat} : Zub P W C g (.extract x i) [.tuple ds] h b = (ds.getD i .junk, h, i < ds.length) := by simp [Zub, Zxa, eff, sd, sg]
@[go_sem] theorem e_len [Glob P] {g : Bool} {args : Array Operand} {t : TypeId} {d : D} {h : H} {b : Nat} : Zub P W C g (.call { callee := .builtin .len, args := args, argTypes := #[t] }) [d] h b = (.v (.int .i64 (Znf (sd d))), h, (g = true → sg d = true) ∧ Zx0 P t (sd d) = true) := by simp [Zub, Zxa, eff]
@[go_sem] theorem e_append [Glob P] {g : Bool} {args : Array Operand} {t u : TypeId} {d d' : D} {h : H} {b : Nat} : Zub P W C g (.call { callee := .builtin .append, args := args, argTypes := #[t, u] }) [d, d'] h b = ((Zmb P t u (sd d) (sd d') h b).1, (Zmb P t u (sd d) (sd d') h b).2.1, (g = true → (sg d && sg d') = true) ∧ (Zmb P t u (sd d) (sd d') h b).2.2) := by simp [Zub, Zxa, eff]
@[go_sem] theorem e_min [Glob P] {g : Bool} {args : Array Operand} {ts : Array TypeId} {k : IntKind} {x y : Int} {h : H} {b : Nat} : Zub P W C g (.call { callee := .builtin .min, args := args, argTypes := ts }) [.v (.int k x), .v (.int k y)] h b = (.v (.int k (min x y)), h, True) := by simp [Zub, Zxa, eff, still, minI, sd, sg]
@[go_sem] theorem e_max [Glob P] {g : Bool} {args : Array Operand} {ts : Array TypeId} {k : IntKind} {x y : Int} {h : H} {b : Nat} : Zub P W C g (.call { callee := .builtin .max, args := args, argTypes := ts }) [.v (.int k x), .v (.int k y)] h b = (.v (.int k (max x y)), h, True) := by simp [Zub, Zxa, eff, still, maxI, sd, sg]
@[go_sem] theorem e_call [Glob P] {g : Bool} {f : Operand} {args : Array Operand} {ts : Array TypeId} {xs : List D} {h : H} {b : Nat} : Zub P W C g (.call { callee := .value f, args := args, argTypes := ts }) xs h b = ((Zpg W C f (xs.map sd) h b).1, (Zpg W C f (xs.map sd) h b).2.1, (g = true → xs.all sg = true) ∧ (Zpg W C f (xs.map sd) h b).2.2) := by simp [Zub, Zxa, eff]
@[go_sem] theorem e_makeMap [Glob P] {g : Bool} {t : TypeId} {r : Option Operand} {xs : List D} {h : H} {b : Nat} : Zub P W C g (.makeMap t r) xs h b = (.mp b, upd h b (some ⟨t, Ztc []⟩), (g = true → xs.all sg = true) ∧ (Zq9 P t).isSome = true ∧ P.cellsOf t = 1 ∧ Zpv (xs.map sd) = true) := by simp [Zub, Zxa, eff, Zs0]
@[go_sem] theorem e_mapUpdate [Glob P] {g : Bool} {t : TypeId} {x y z : Operand} {m k d : D} {h : H} {b : Nat} : Zub P W C g (.mapUpdate t x y z) [m, k, d] h b = (.v undef, (Zsi P t (sd m) (sd k) (sd d) h).1, (g = true → (sg m && (sg k && sg d)) = true) ∧ (Zsi P t (sd m) (sd k) (sd d) h).2) := by simp [Zub, Zxa, eff]
@[go_sem] theorem e_insert [Glob P] {g : Bool} {t : TypeId} {x y z : Operand} {m k d : D} {h : H} {b : Nat} : Zub P W C g (.insert t x y z) [m, k, d] h b = (.v undef, (Zsi P t (sd m) (sd k) (sd d) h).1, (g = true → (sg m && (sg k && sg d)) = true) ∧ (Zsi P t (sd m) (sd k) (sd d) h).2) := by simp [Zub, Zxa, eff]
@[go_sem] theorem e_lookup [Glob P] {g ok : Bool} {t : TypeId} {x y : Operand} {m k : D} {h : H} {b : Nat} : Zub P W C g (.lookup t x y ok) [m, k] h b = ((Zbm P t ok (sd m) (sd k) h).1, h, (g = true → (sg m && sg k) = true) ∧ (Zbm P t ok (sd m) (sd k) h).2) := by simp [Zub, Zxa, eff, still]
@[go_sem] theorem e_makeSlice [Glob P] {g : Bool} {t : TypeId} {x y : Operand} {d d' : D} {h : H} {b : Nat} : Zub P W C g (.makeSlice t x y) [d, d'] h b = ((Zr0 P t h b (sd d) (sd d')).1, (Zr0 P t h b (sd d) (sd d')).2.1, (g = true → (sg d && sg d') = true) ∧ (Zr0 P t h b (sd d) (sd d')).2.2) := by simp [Zub, Zxa, eff]
@[go_sem] theorem mkSl_i [Glob P] {t : TypeId} {h : H} {b : Nat} {k k' : IntKind} {n m : Int} : Zr0 P t h b (.v (.int k n)) (.v (.int k' m)) = (match Zza P t with
  | some e => (.mrow b 0 n.toNat, upd h b (some ⟨e, List.replicate n.toNat (zeroCells P e)⟩), n = m ∧ 0 ≤ n ∧ P.bytesOf e * n ≤ 281474976710656 ∧ n ≤ 9223372036854775807 ∧ Zia P e = true ∧ (zeroCells P e).length = P.cellsOf e ∧ (zeroCells P e).all D.one = true ∧ 0 < P.cellsOf e)
  | none => (.junk, h, False)) := rfl
@[go_sem] theorem nw_lookup {t : TypeId} {x y : Operand} {ok : Bool} : (cls C (.lookup t x y ok) = .writes) = False := by simp [cls]
@[go_sem] theorem intHint_nil : Zpv [] = true := rfl
@[go_sem] theorem intHint_i {k : IntKind} {n : Int} : Zpv [.v (.int k n)] = true := rfl
@[go_sem] theorem updMap_mp [Glob P] {t : TypeId} {r : Nat} {k d : D} {h : H} : Zsi P t (.mp r) k d h = (match Zq9 P t with
 | some (kt, _) => match h r with
  | some bl => match kvB bl with
   | some kv => (upd h r (some ⟨bl.ty, Ztc (Zim kv k d)⟩), Zkj P kt k = true ∧ Zwi P kt kv = true ∧ Zvo P kt = true)
   | none => (h, False)
  | none => (h, False)
 | _ => (h, False)) := by unfold Zsi; cases Zq9 P t <;> rfl
@[go_sem] theorem lookD_eq [Glob P] {t : TypeId} {ok : Bool} {m k : D} {h : H} : Zbm P t ok m k h = (match Zq9 P t with
 | some (kt, e) => match kvH h m with
  | some kv => (if ok then .tuple [(Zjm kv k).getD (Zoz P e), .b (Zjm kv k).isSome] else (Zjm kv k).getD (Zoz P e), Zkj P kt k = true ∧ Zwi P kt kv = true ∧ Zvo P kt = true ∧ Zg1 P e = true)
  | none => (.junk, False)
 | _ => (.junk, False)) := by unfold Zbm; cases Zq9 P t <;> cases kvH h m <;> rfl
@[go_sem] theorem kvH_fmap {h : H} {kv : List D} : kvH h (.fmap kv) = some kv := rfl
@[go_sem] theorem kvH_mp {h : H} {r : Nat} : kvH h (.mp r) = (match h r with | some bl => kvB bl | none => none) := by show (h r).bind kvB = _; cases h r <;> rfl
@[go_sem] theorem kvB_rows {t : TypeId} {kv : List D} : kvB ⟨t, Ztc kv⟩ = some kv := rfl
@[go_sem] theorem bv_v {b : Bool} : bv (.v (.bool b)) = b := rfl
@[go_sem] theorem isB_v {b : Bool} : isB (.v (.bool b)) = true := rfl
@[go_sem] theorem e_pick [Glob P] {g : Bool} {x y z : Operand} {c a b : D} {h : H} {n : Nat} :
  Zub P W C g (.pick x y z) [c, a, b] h n = (.v (.bool (bif bv (sd c) then bv (sd a) else bv (sd b))), h, (g = true → (sg c = true ∧ isB (sd c) = true) ∧ (bv (sd c) = true → sg a = true ∧ isB (sd a) = true) ∧ (bv (sd c) = false → sg b = true ∧ isB (sd b) = true))) := rfl
attribute [go_sem] cond_true cond_false
@[go_sem] theorem nw_move {x : Operand} : (cls C (.move x) = .writes) = False := by simp [cls]
@[go_sem] theorem nw_assign {x : Operand} : (cls C (.assign x) = .writes) = False := by simp [cls]
@[go_sem] theorem nw_load {t : TypeId} {x : Operand} : (cls C (.load t x) = .writes) = False := by simp [cls]
@[go_sem] theorem nw_binOp {op : BinOp} {t u : TypeId} {x y : Operand} : (cls C (.binOp op t x y u) = .writes) = False := by simp [cls]
@[go_sem] theorem nw_unOp {op : UnOp} {t : TypeId} {x : Operand} : (cls C (.unOp op t x) = .writes) = False := by simp [cls]
@[go_sem] theorem nw_fieldAddr {t : TypeId} {x : Operand} {f : Nat} : (cls C (.fieldAddr t x f) = .writes) = False := by simp [cls]
@[go_sem] theorem nw_field {t : TypeId} {x : Operand} {f : Nat} : (cls C (.field t x f) = .writes) = False := by simp [cls]
@[go_sem] theorem nw_indexAddr {t : TypeId} {x y : Operand} : (cls C (.indexAddr t x y) = .writes) = False := by simp [cls]
@[go_sem] theorem nw_index {t : TypeId} {x y : Operand} : (cls C (.index t x y) = .writes) = False := by simp [cls]
@[go_sem] theorem nw_pick {x y z : Operand} : (cls C (.pick x y z) = .writes) = False := by simp [cls]
@[go_sem] theorem nw_convert {t u : TypeId} {x : Operand} : (cls C (.convert t u x) = .writes) = False := by simp [cls]
@[go_sem] theorem nw_slice {t : TypeId} {x : Operand} {a b c : Option Operand} : (cls C (.slice t x a b c) = .writes) = False := by simp [cls]
@[go_sem] theorem nw_extract {x : Operand} {i : Nat} : (cls C (.extract x i) = .writes) = False := by simp [cls]
@[go_sem] theorem nw_nilCheck {x : Operand} : (cls C (.nilCheck x) = .writes) = False := by simp [cls]
@[go_sem] theorem nw_build {t : TypeId} {ps : Array (Nat × Operand)} : (cls C (.build t ps) = .writes) = False := by simp [cls]
@[go_sem] theorem nw_buildSlice {t : TypeId} {n : Nat} {ps : Array (Nat × Operand)} : (cls C (.buildSlice t n ps) = .writes) = (C.bs = true) := by cases hb : C.bs <;> simp [cls, hb]
@[go_sem] theorem nw_makeFunc {f : Fn} {a b : Array Operand} : (cls C (.makeFunc f a b) = .writes) = False := by simp [cls]
@[go_sem] theorem nw_len {args : Array Operand} {ts : Array TypeId} : (cls C (.call { callee := .builtin .len, args := args, argTypes := ts }) = .writes) = False := by simp [cls]
@[go_sem] theorem nw_min {args : Array Operand} {ts : Array TypeId} : (cls C (.call { callee := .builtin .min, args := args, argTypes := ts }) = .writes) = False := by simp [cls]
@[go_sem] theorem nw_max {args : Array Operand} {ts : Array TypeId} : (cls C (.call { callee := .builtin .max, args := args, argTypes := ts }) = .writes) = False := by simp [cls]
@[go_sem] theorem nw_call {f : Operand} {args : Array Operand} {ts : Array TypeId} : (cls C (.call { callee := .value f, args := args, argTypes := ts }) = .writes) = False := by
 cases h : C.cf <;> simp [cls, Zoh, h]
@[go_sem] theorem bif_or {c b : Bool} : (bif c then true else b) = (c || b) := by cases c <;> rfl
@[go_sem] theorem bif_and {c b : Bool} : (bif c then b else false) = (c && b) := by cases c <;> rfl
@[go_sem] theorem bif_nand {c b : Bool} : (bif c then false else b) = (!c && b) := by cases c <;> rfl
@[go_sem] theorem cells_agg {cs : List D} : D.cells (.agg cs) = cs := rfl
@[go_sem] theorem cells_v {x : Value} : D.cells (.v x) = [.v x] := rfl
@[go_sem] theorem cells_list {f : Bool} {x : List (List D)} : D.cells (.list f x) = [.list f x] := rfl
@[go_sem] theorem cells_mrow {a b c : Nat} : D.cells (.mrow a b c) = [.mrow a b c] := rfl
@[go_sem] theorem cells_mptr {a b c : Nat} : D.cells (.mptr a b c) = [.mptr a b c] := rfl
@[go_sem] theorem cells_eptr {a : List D} : D.cells (.eptr a) = [.eptr a] := rfl
@[go_sem] theorem cells_fn {f : Fn} {a b : List D} : D.cells (.fn f a b) = [.fn f a b] := rfl
@[go_sem] theorem cells_iface {t : TypeId} {d : D} : D.cells (.iface t d) = [.iface t d] := rfl
@[go_sem] theorem one_int {k : IntKind} {n : Int} : D.one (.v (.int k n)) = true := rfl
@[go_sem] theorem one_bool {b : Bool} : D.one (.v (.bool b)) = true := rfl
@[go_sem] theorem one_string {b : ByteArray} : D.one (.v (.string b)) = true := rfl
@[go_sem] theorem one_nilFunc : D.one (.v .nilFunc) = true := rfl
@[go_sem] theorem one_nilIface : D.one (.v .nilIface) = true := rfl
@[go_sem] theorem one_list {f : Bool} {x : List (List D)} : D.one (.list f x) = true := rfl
@[go_sem] theorem one_mrow {a b c : Nat} : D.one (.mrow a b c) = true := rfl
@[go_sem] theorem one_mptr {a b c : Nat} : D.one (.mptr a b c) = true := rfl
@[go_sem] theorem one_eptr {a : List D} : D.one (.eptr a) = true := rfl
@[go_sem] theorem one_fn {f : Fn} {a b : List D} : D.one (.fn f a b) = true := rfl
@[go_sem] theorem one_iface {t : TypeId} {d : D} : D.one (.iface t d) = true := rfl
@[go_sem] theorem ldc_eptr [Glob P] {cs : List D} {h : H} : ldc P (.eptr cs) h = cs := rfl
@[go_sem] theorem ldc_mptr [Glob P] {r i off : Nat} {h : H} : ldc P (.mptr r i off) h = match h r with | some b => (b.rows.getD i []).drop off | none => [] := rfl
@[go_sem] theorem ldD_eq [Glob P] {t : TypeId} {a : D} {h : H} : ldD P t a h = (mkD P t (ldc P a h), P.cellsOf t ≤ (ldc P a h).length ∧ 0 < P.cellsOf t ∧ (P.underlying t).isSome = true) := rfl
@[go_sem] theorem ldCells_eptr {cs : List D} {h : H} : Zbb (.eptr cs) h = cs := rfl
@[go_sem] theorem ldCells_mptr {r i off : Nat} {h : H} : Zbb (.mptr r i off) h = match h r with | some b => (b.rows.getD i []).drop off | none => [] := rfl
attribute [go_sem] mkD Zni Zor splice
@[go_sem] theorem ptrAdd_eptr {n : Nat} {cs : List D} : Zyn n (.eptr cs) = .eptr (cs.drop n) := rfl
@[go_sem] theorem ptrAdd_mptr {n r i off : Nat} : Zyn n (.mptr r i off) = .mptr r i (off + n) := rfl
@[go_sem] theorem ptrAdd_ptr {n x o : Nat} : Zyn n (.v (.pointer (some ⟨x, o, none⟩))) = .v (.pointer (some ⟨x, o + n, none⟩)) := by simp only [Zyn, Zng]
@[go_sem] theorem isPtr_ptr {p : Addr} : Zls (.v (.pointer (some p))) = true := rfl
@[go_sem] theorem isPtr_eptr {cs : List D} : Zls (.eptr cs) = true := rfl
@[go_sem] theorem isPtr_mptr {r i off : Nat} : Zls (.mptr r i off) = true := rfl
@[go_sem] theorem stH_mptr [Glob P] {t : TypeId} {r i off : Nat} {x : D} {h : H} : stH P t (.mptr r i off) x h = match h r with
  | some b => (upd h r (some { b with rows := b.rows.set i (splice (b.rows.getD i []) off x.cells) }), x.cells.length = P.cellsOf t ∧ 0 < P.cellsOf t ∧ i < b.rows.length ∧ off + x.cells.length ≤ (b.rows.getD i []).length ∧ x.cells.all D.one = true)
  | none => (h, False) := rfl
@[go_sem] theorem idxPtr_list [Glob P] {t : TypeId} {f : Bool} {rows : List (List D)} {k : IntKind} {n : Int} {h : H} : Zoc P t (.list f rows) (.v (.int k n)) h = match Zza P t with
  | none => Zgk P t (.list f rows) (.v (.int k n))
  | some e => (.eptr (rows.getD n.toNat []), 0 ≤ n ∧ n < rows.length ∧ 0 < P.cellsOf e ∧ (rows.getD n.toNat []).length = P.cellsOf e) := by unfold Zoc; cases Zza P t <;> rfl
@[go_sem] theorem idxPtr_mrow [Glob P] {t : TypeId} {r off len : Nat} {k : IntKind} {n : Int} {h : H} : Zoc P t (.mrow r off len) (.v (.int k n)) h = match Zza P t with
  | none => Zgk P t (.mrow r off len) (.v (.int k n))
  | some e => (.mptr r (off + n.toNat) 0, 0 ≤ n ∧ n < len ∧ 0 < P.cellsOf e ∧ match h r with | some bl => bl.ty = e | none => False) := by unfold Zoc; cases Zza P t <;> rfl
@[go_sem] theorem idxPtr_ptr [Glob P] {t : TypeId} {p : Option Addr} {k : IntKind} {n : Int} {h : H} : Zoc P t (.v (.pointer p)) (.v (.int k n)) h = match Zza P t with
  | none => Zgk P t (.v (.pointer p)) (.v (.int k n))
  | some _ => (.junk, False) := by unfold Zoc; cases Zza P t <;> rfl
@[go_sem] theorem isGp_ptr {p : Addr} : isGp (.v (.pointer (some p))) = true := rfl
@[go_sem] theorem isGp_eptr {cs : List D} : isGp (.eptr cs) = true := rfl
@[go_sem] theorem isGp_mptr {r i off : Nat} : isGp (.mptr r i off) = true := rfl
@[go_sem] theorem idxPtr_mptr [Glob P] {t : TypeId} {r i off : Nat} {k : IntKind} {n : Int} {h : H} : Zoc P t (.mptr r i off) (.v (.int k n)) h = match Zza P t with
  | none => Zgk P t (.mptr r i off) (.v (.int k n))
  | some _ => (.junk, False) := by unfold Zoc; cases Zza P t <;> rfl
@[go_sem] theorem idxArr_eq [Glob P] {t : TypeId} {x : D} {k : IntKind} {n : Int} : Zgk P t x (.v (.int k n)) = match Zj2 P t with
  | some (m, e) => (Zyn (n.toNat * P.cellsOf e) x, isGp x = true ∧ 0 ≤ n ∧ n < m ∧ 0 < P.cellsOf e)
  | none => (.junk, False) := by unfold Zgk; cases Zj2 P t <;> rfl
@[go_sem] theorem rowsOf_list {f : Bool} {rows : List (List D)} {h : H} : rowsOf (.list f rows) h = rows := rfl
@[go_sem] theorem rowsOf_mrow {r off len : Nat} {h : H} : rowsOf (.mrow r off len) h = match h r with | some b => (b.rows.drop off).take len | none => [] := rfl
@[go_sem] theorem lenD_list {f : Bool} {rows : List (List D)} : Znf (.list f rows) = rows.length := rfl
@[go_sem] theorem lenD_mrow {r off len : Nat} : Znf (.mrow r off len) = len := rfl
@[go_sem] theorem lenD_string {s : ByteArray} : Znf (.v (.string s)) = s.size := rfl
@[go_sem] theorem lenOk_list [Glob P] {t : TypeId} {f : Bool} {rows : List (List D)} : Zx0 P t (.list f rows) = (Zza P t).isSome := rfl
@[go_sem] theorem lenOk_mrow [Glob P] {t : TypeId} {r off len : Nat} : Zx0 P t (.mrow r off len) = (Zza P t).isSome := rfl
@[go_sem] theorem lenOk_string [Glob P] {t : TypeId} {s : ByteArray} : Zx0 P t (.v (.string s)) = match P.underlying t with | some .string => true | _ => false := rfl
attribute [go_sem] Option.isSome_some
@[go_sem] theorem srcOk_list [Glob P] {t : TypeId} {h : H} {f : Bool} {rows : List (List D)} : Ztf P t h (.list f rows) = (Zza P t).isSome := rfl
@[go_sem] theorem srcOk_mrow [Glob P] {t : TypeId} {h : H} {r off len : Nat} : Ztf P t h (.mrow r off len) = ((Zza P t).isSome && (h r).isSome) := rfl
@[go_sem] theorem srcOk_string [Glob P] {t : TypeId} {h : H} {s : ByteArray} : Ztf P t h (.v (.string s)) = match P.underlying t with | some .string => true | _ => false := rfl
@[go_sem] theorem append_list [Glob P] {t u : TypeId} {rows : List (List D)} {y : D} {h : H} {b : Nat} : Zmb P t u (.list true rows) y h b = match Zza P t with
  | none => (.junk, h, False)
  | some e => (.mrow b 0 (rows.length + (rowsOf y h).length), upd h b (some ⟨e, rows ++ rowsOf y h⟩), (0 < P.cellsOf e ∧ (rows.length + (rowsOf y h).length) * P.bytesOf e ≤ 140737488355328 ∧ rows.length + (rowsOf y h).length ≤ 9223372036854775807) ∧
    ((rowsOf y h).length = Znf y ∧ Ztf P u h y = true ∧ Zia P e = true ∧ ∀ r ∈ rowsOf y h, r.length = P.cellsOf e) ∧ (rowsOf y h = [] → rows = []) ∧ ∀ r ∈ rows, r.length = P.cellsOf e) := by
 unfold Zmb; cases Zza P t <;> rfl
@[go_sem] theorem Zk2 [Glob P] {t u : TypeId} {r n : Nat} {y : D} {h : H} {b : Nat} : Zmb P t u (.mrow r 0 n) y h b = match Zza P t with
  | none => (.junk, h, False)
  | some e => match h r with
   | none => (.junk, h, False)
   | some bl => (.mrow b 0 (n + (rowsOf y h).length), upd (upd h r none) b (some ⟨e, bl.rows ++ rowsOf y h⟩), (0 < P.cellsOf e ∧ (n + (rowsOf y h).length) * P.bytesOf e ≤ 140737488355328 ∧ n + (rowsOf y h).length ≤ 9223372036854775807) ∧
    ((rowsOf y h).length = Znf y ∧ Ztf P u h y = true ∧ Zia P e = true ∧ ∀ r ∈ rowsOf y h, r.length = P.cellsOf e) ∧ bl.ty = e ∧ bl.rows.length = n ∧ r ≠ b) := by
 unfold Zmb; cases Zza P t with
 | none => rfl
 | some e => cases hr : h r with
  | none => simp only [hr]
  | some bl => simp only [Znf, hr]
attribute [go_sem] Zou Zzv Zco Zce Zzo Ziq
@[go_sem] theorem binD_v [Glob P] {t : TypeId} {op : BinOp} {a b : Value} : binD P t op (.v a) (.v b) = (.v (Zal P t op a b).1, (Zal P t op a b).2) := rfl
@[go_sem] theorem binV_lss [Glob P] {t : TypeId} {k k' : IntKind} {a b : Int} : Zal P t .lss (.int k a) (.int k' b) = (.bool (decide (a < b)), k = k') := rfl
@[go_sem] theorem binV_leq [Glob P] {t : TypeId} {k k' : IntKind} {a b : Int} : Zal P t .leq (.int k a) (.int k' b) = (.bool (decide (a ≤ b)), k = k') := rfl
@[go_sem] theorem binV_gtr [Glob P] {t : TypeId} {k k' : IntKind} {a b : Int} : Zal P t .gtr (.int k a) (.int k' b) = (.bool (decide (b < a)), k = k') := rfl
@[go_sem] theorem binV_geq [Glob P] {t : TypeId} {k k' : IntKind} {a b : Int} : Zal P t .geq (.int k a) (.int k' b) = (.bool (decide (b ≤ a)), k = k') := rfl
@[go_sem] theorem binV_eql [Glob P] {t : TypeId} {k k' : IntKind} {a b : Int} : Zal P t .eql (.int k a) (.int k' b) = (.bool (a == b), k = k') := rfl
@[go_sem] theorem binV_neq [Glob P] {t : TypeId} {k k' : IntKind} {a b : Int} : Zal P t .neq (.int k a) (.int k' b) = (.bool (a != b), k = k') := rfl
@[go_sem] theorem binV_add [Glob P] {t : TypeId} {k k' : IntKind} {a b : Int} : Zal P t .add (.int k a) (.int k' b) = if k.signed then (.int k (a + b), k = k' ∧ inK k (a + b)) else (.int k (k.wrap (a + b)), k = k') := rfl
@[go_sem] theorem binV_sub [Glob P] {t : TypeId} {k k' : IntKind} {a b : Int} : Zal P t .sub (.int k a) (.int k' b) = if k.signed then (.int k (a - b), k = k' ∧ inK k (a - b)) else (.int k (k.wrap (a - b)), k = k') := rfl
@[go_sem] theorem binV_mul [Glob P] {t : TypeId} {k k' : IntKind} {a b : Int} : Zal P t .mul (.int k a) (.int k' b) = if k.signed then (.int k (a * b), k = k' ∧ inK k (a * b)) else (.int k (k.wrap (a * b)), k = k') := rfl
@[go_sem] theorem binV_quo [Glob P] {t : TypeId} {k k' : IntKind} {a b : Int} : Zal P t .quo (.int k a) (.int k' b) = (.int k (a / b), k = k' ∧ 0 ≤ a ∧ 1 ≤ b ∧ inK k a) := rfl
@[go_sem] theorem binV_rem [Glob P] {t : TypeId} {k k' : IntKind} {a b : Int} : Zal P t .rem (.int k a) (.int k' b) = (.int k (a % b), k = k' ∧ 0 ≤ a ∧ 1 ≤ b) := rfl
@[go_sem] theorem binV_eqb [Glob P] {t : TypeId} {a b : Bool} : Zal P t .eql (.bool a) (.bool b) = (.bool (a == b), P.underlying t = some .bool) := rfl
@[go_sem] theorem binV_neb [Glob P] {t : TypeId} {a b : Bool} : Zal P t .neq (.bool a) (.bool b) = (.bool (a != b), P.underlying t = some .bool) := rfl
@[go_sem] theorem binV_eqs [Glob P] {t : TypeId} {a b : ByteArray} : Zal P t .eql (.string a) (.string b) = (.bool (a.data.toList == b.data.toList), True) := rfl
@[go_sem] theorem binV_nes [Glob P] {t : TypeId} {a b : ByteArray} : Zal P t .neq (.string a) (.string b) = (.bool (a.data.toList != b.data.toList), True) := rfl
@[go_sem] theorem binV_adds [Glob P] {t : TypeId} {a b : ByteArray} : Zal P t .add (.string a) (.string b) = (.string (a ++ b), a.size + b.size ≤ 9223372036854775807) := rfl
@[go_sem] theorem binV_lsss [Glob P] {t : TypeId} {a b : ByteArray} : Zal P t .lss (.string a) (.string b) = (.bool (Go.Op.bytesLess a.data.toList b.data.toList), True) := rfl
@[go_sem] theorem binV_leqs [Glob P] {t : TypeId} {a b : ByteArray} : Zal P t .leq (.string a) (.string b) = (.bool (Go.Op.bytesLess a.data.toList b.data.toList || a.data.toList == b.data.toList), True) := rfl
@[go_sem] theorem binV_gtrs [Glob P] {t : TypeId} {a b : ByteArray} : Zal P t .gtr (.string a) (.string b) = (.bool !(Go.Op.bytesLess a.data.toList b.data.toList || a.data.toList == b.data.toList), True) := rfl
@[go_sem] theorem binV_geqs [Glob P] {t : TypeId} {a b : ByteArray} : Zal P t .geq (.string a) (.string b) = (.bool !(Go.Op.bytesLess a.data.toList b.data.toList), True) := rfl
@[go_sem] theorem binV_shl [Glob P] {t : TypeId} {k k' : IntKind} {a b : Int} : Zal P t .shl (.int k a) (.int k' b) = (.int k (k.wrap (a * 2 ^ (min b.toNat k.bits))), 0 ≤ b) := rfl
@[go_sem] theorem binV_shr [Glob P] {t : TypeId} {k k' : IntKind} {a b : Int} : Zal P t .shr (.int k a) (.int k' b) = (.int k (a.fdiv (2 ^ (min b.toNat k.bits))), 0 ≤ b) := rfl
@[go_sem] theorem binV_or [Glob P] {t : TypeId} {k k' : IntKind} {a b : Int} : Zal P t .or (.int k a) (.int k' b) = (.int k (k.wrap (BitVec.ofInt k.bits a ||| BitVec.ofInt k.bits b).toNat), k = k') := rfl
@[go_sem] theorem binD_eq [Glob P] {t : TypeId} {xs ys : List D} : binD P t .eql (.agg xs) (.agg ys) = (.v (.bool (Zbe xs ys)), match Zne P t with | some ks => Zme ks xs ys = true | none => False) := rfl
@[go_sem] theorem binD_ne [Glob P] {t : TypeId} {xs ys : List D} : binD P t .neq (.agg xs) (.agg ys) = (.v (.bool (!Zbe xs ys)), match Zne P t with | some ks => Zme ks xs ys = true | none => False) := rfl
attribute [go_sem] Zbe Zme
@[go_sem] theorem eqCell_i {k k' : IntKind} {a b : Int} : Zjg (.v (.int k a)) (.v (.int k' b)) = (a == b) := rfl
@[go_sem] theorem eqCell_b {a b : Bool} : Zjg (.v (.bool a)) (.v (.bool b)) = (a == b) := rfl
@[go_sem] theorem eqCell_s {a b : ByteArray} : Zjg (.v (.string a)) (.v (.string b)) = (a.data.toList == b.data.toList) := rfl
@[go_sem] theorem plainAs_i {k k' : IntKind} {a b : Int} : Zfj .i (.v (.int k a)) (.v (.int k' b)) = (k == k') := rfl
@[go_sem] theorem plainAs_b {a b : Bool} : Zfj .b (.v (.bool a)) (.v (.bool b)) = true := rfl
@[go_sem] theorem plainAs_s {a b : ByteArray} : Zfj .s (.v (.string a)) (.v (.string b)) = true := rfl
@[go_sem] theorem signed_i64 : IntKind.i64.signed = true := rfl
@[go_sem] theorem signed_u8 : IntKind.u8.signed = false := rfl
@[go_sem] theorem signed_u16 : IntKind.u16.signed = false := rfl
@[go_sem] theorem signed_u32 : IntKind.u32.signed = false := rfl
@[go_sem] theorem signed_u64 : IntKind.u64.signed = false := rfl
@[go_sem] theorem inK_i64 {n : Int} : inK .i64 n = (-9223372036854775808 ≤ n ∧ n ≤ 9223372036854775807) := by simp [inK, IntKind.min, IntKind.max, IntKind.signed, IntKind.bits]
@[go_sem] theorem unD_not {b : Bool} : unD .not (.v (.bool b)) = (.v (.bool !b), True) := rfl
@[go_sem] theorem unD_neg {k : IntKind} {n : Int} : unD .neg (.v (.int k n)) = (.v (.int k (-n)), inK k (-n)) := rfl
attribute [go_sem] Zy1
@[go_sem] theorem idxV_s [Glob P] {t : TypeId} {s : ByteArray} {k : IntKind} {n : Int} : idxV P t (.v (.string s)) (.v (.int k n)) = (.v (.int .u8 (s.data.toList.getD n.toNat 0).toNat), 0 ≤ n ∧ n < s.size ∧ P.underlying t = some .string) := rfl
@[go_sem] theorem bnd_none {d : Nat} : bnd none d = d := rfl
@[go_sem] theorem bnd_some {d : Nat} {k : IntKind} {n : Int} : bnd (some (.v (.int k n))) d = n := rfl
@[go_sem] theorem bndOk_none : Zi2 none = true := rfl
@[go_sem] theorem bndOk_some {k : IntKind} {n : Int} : Zi2 (some (.v (.int k n))) = true := rfl
attribute [go_sem] Option.toList_some Option.toList_none Zog Zti
attribute [go_sem] Zkg
@[go_sem] theorem wk_v {x : Value} : wk (.v x) = .v x := rfl
@[go_sem] theorem wk_agg {cs : List D} : wk (.agg cs) = .agg (wks cs) := rfl
@[go_sem] theorem wk_list {f : Bool} {rows : List (List D)} : wk (.list f rows) = .list false (wkr rows) := rfl
@[go_sem] theorem wk_eptr {cs : List D} : wk (.eptr cs) = .eptr (wks cs) := rfl
@[go_sem] theorem wk_tuple {cs : List D} : wk (.tuple cs) = .tuple (wks cs) := rfl
@[go_sem] theorem wk_mrow {a b c : Nat} : wk (.mrow a b c) = .mrow a b c := rfl
@[go_sem] theorem wk_mptr {a b c : Nat} : wk (.mptr a b c) = .mptr a b c := rfl
@[go_sem] theorem wk_fn {f : Fn} {a b : List D} : wk (.fn f a b) = .fn f a b := rfl
@[go_sem] theorem wk_iface {t : TypeId} {d : D} : wk (.iface t d) = .iface t (wk d) := rfl
@[go_sem] theorem wk_fmap {kv : List D} : wk (.fmap kv) = .fmap (wks kv) := rfl
@[go_sem] theorem deref_fmap {kv : List D} {h : H} : deref h (.fmap kv) = .fmap kv := rfl
@[go_sem] theorem deref1_fmap {kv : List D} {h : H} : Zvg h (.fmap kv) = .fmap kv := rfl
@[go_sem] theorem deref0_fmap {kv : List D} {h : H} : Zuh h (.fmap kv) = .fmap kv := rfl
@[go_sem] theorem isMrow_fmap {kv : List D} : Zyc (.fmap kv) = false := rfl
@[go_sem] theorem isRef_fmap {kv : List D} : Zgn (.fmap kv) = false := rfl
@[go_sem] theorem derefOk_fmap {kv : List D} {h : H} : Zbd h (.fmap kv) = True := rfl
@[go_sem] theorem derefOk1_fmap {kv : List D} {h : H} : Zxd h (.fmap kv) = True := rfl
@[go_sem] theorem derefOk0_fmap {kv : List D} {h : H} : Zyd h (.fmap kv) = True := rfl
@[go_sem] theorem snap_fmap {h : H} {k : Nat} {x : List D} : snap h k (.fmap x) = .fmap x := by cases k <;> rfl
@[go_sem] theorem snapOk_fmap {h : H} {k : Nat} {x : List D} : Zqa h k (.fmap x) = (nrs x = true) := by cases k <;> rfl
attribute [go_sem] wks wkr
@[go_sem] theorem deref_list {f : Bool} {rows : List (List D)} {h : H} : deref h (.list f rows) = .list f rows := rfl
@[go_sem] theorem deref_v {x : Value} {h : H} : deref h (.v x) = .v x := rfl
@[go_sem] theorem deref_agg {x : List D} {h : H} : deref h (.agg x) = .agg x := rfl
@[go_sem] theorem deref_fn {f : Fn} {a b : List D} {h : H} : deref h (.fn f a b) = .fn f (a.map (Zvg h)) (b.map (Zvg h)) := rfl
@[go_sem] theorem deref_mptr {a b c : Nat} {h : H} : deref h (.mptr a b c) = .eptr ((Zbb (.mptr a b c) h).map (Zuh h)) := rfl
@[go_sem] theorem deref1_mptr {a b c : Nat} {h : H} : Zvg h (.mptr a b c) = .eptr ((Zbb (.mptr a b c) h).map (Zuh h)) := rfl
@[go_sem] theorem deref1_mrow {a b c : Nat} {h : H} : Zvg h (.mrow a b c) = .list false (rowsOf (.mrow a b c) h) := rfl
@[go_sem] theorem deref0_mrow {a b c : Nat} {h : H} : Zuh h (.mrow a b c) = .list false (rowsOf (.mrow a b c) h) := rfl
@[go_sem] theorem deref1_v {x : Value} {h : H} : Zvg h (.v x) = .v x := rfl
@[go_sem] theorem deref1_list {f : Bool} {rows : List (List D)} {h : H} : Zvg h (.list f rows) = .list f rows := rfl
@[go_sem] theorem deref1_eptr {x : List D} {h : H} : Zvg h (.eptr x) = .eptr x := rfl
@[go_sem] theorem deref1_fn {f : Fn} {a b : List D} {h : H} : Zvg h (.fn f a b) = .fn f a b := rfl
@[go_sem] theorem deref0_v {x : Value} {h : H} : Zuh h (.v x) = .v x := rfl
@[go_sem] theorem deref0_list {f : Bool} {rows : List (List D)} {h : H} : Zuh h (.list f rows) = .list f rows := rfl
@[go_sem] theorem deref0_fn {f : Fn} {a b : List D} {h : H} : Zuh h (.fn f a b) = .fn f a b := rfl
@[go_sem] theorem deref_eptr {x : List D} {h : H} : deref h (.eptr x) = .eptr x := rfl
@[go_sem] theorem isMrow_eptr {x : List D} : Zyc (.eptr x) = false := rfl
@[go_sem] theorem derefOk_eptr {x : List D} {h : H} : Zbd h (.eptr x) = True := rfl
@[go_sem] theorem deref_mrow {a b c : Nat} {h : H} : deref h (.mrow a b c) = .list false (rowsOf (.mrow a b c) h) := rfl
@[go_sem] theorem isMrow_list {f : Bool} {rows : List (List D)} : Zyc (.list f rows) = false := rfl
@[go_sem] theorem isMrow_v {x : Value} : Zyc (.v x) = false := rfl
@[go_sem] theorem isMrow_agg {x : List D} : Zyc (.agg x) = false := rfl
@[go_sem] theorem isMrow_fn {f : Fn} {a b : List D} : Zyc (.fn f a b) = (a.any Zgn || b.any Zgn) := rfl
@[go_sem] theorem isMrow_mptr {a b c : Nat} : Zyc (.mptr a b c) = true := rfl
@[go_sem] theorem isRef_mptr {a b c : Nat} : Zgn (.mptr a b c) = true := rfl
@[go_sem] theorem isRef_mrow {a b c : Nat} : Zgn (.mrow a b c) = true := rfl
@[go_sem] theorem isRef_v {x : Value} : Zgn (.v x) = false := rfl
@[go_sem] theorem isRef_list {f : Bool} {rows : List (List D)} : Zgn (.list f rows) = false := rfl
@[go_sem] theorem isRef_eptr {x : List D} : Zgn (.eptr x) = false := rfl
@[go_sem] theorem isRef_fn {f : Fn} {a b : List D} : Zgn (.fn f a b) = false := rfl
@[go_sem] theorem isMrow_mrow {a b c : Nat} : Zyc (.mrow a b c) = true := rfl
@[go_sem] theorem derefOk_list {f : Bool} {rows : List (List D)} {h : H} : Zbd h (.list f rows) = True := rfl
@[go_sem] theorem derefOk_v {x : Value} {h : H} : Zbd h (.v x) = True := rfl
@[go_sem] theorem derefOk_agg {x : List D} {h : H} : Zbd h (.agg x) = True := rfl
@[go_sem] theorem derefOk_fn {f : Fn} {a b : List D} {h : H} : Zbd h (.fn f a b) = ((∀ c ∈ a, Zxd h c) ∧ ∀ c ∈ b, Zxd h c) := rfl
@[go_sem] theorem derefOk_mptr {r i off : Nat} {h : H} : Zbd h (.mptr r i off) = ((h r).isSome = true ∧ ∀ c ∈ Zbb (.mptr r i off) h, Zyd h c) := rfl
@[go_sem] theorem derefOk1_mptr {r i off : Nat} {h : H} : Zxd h (.mptr r i off) = ((h r).isSome = true ∧ ∀ c ∈ Zbb (.mptr r i off) h, Zyd h c) := rfl
@[go_sem] theorem derefOk1_mrow {r off len : Nat} {h : H} : Zxd h (.mrow r off len) = ((h r).isSome = true ∧ (rowsOf (.mrow r off len) h).length = len) := rfl
@[go_sem] theorem derefOk0_mrow {r off len : Nat} {h : H} : Zyd h (.mrow r off len) = ((h r).isSome = true ∧ (rowsOf (.mrow r off len) h).length = len) := rfl
@[go_sem] theorem derefOk1_v {x : Value} {h : H} : Zxd h (.v x) = True := rfl
@[go_sem] theorem derefOk1_list {f : Bool} {rows : List (List D)} {h : H} : Zxd h (.list f rows) = True := rfl
@[go_sem] theorem derefOk1_eptr {x : List D} {h : H} : Zxd h (.eptr x) = True := rfl
@[go_sem] theorem derefOk1_fn {f : Fn} {a b : List D} {h : H} : Zxd h (.fn f a b) = True := rfl
@[go_sem] theorem derefOk0_v {x : Value} {h : H} : Zyd h (.v x) = True := rfl
@[go_sem] theorem derefOk0_list {f : Bool} {rows : List (List D)} {h : H} : Zyd h (.list f rows) = True := rfl
@[go_sem] theorem derefOk0_fn {f : Fn} {a b : List D} {h : H} : Zyd h (.fn f a b) = True := rfl
@[go_sem] theorem derefOk_mrow {r off len : Nat} {h : H} : Zbd h (.mrow r off len) = ((h r).isSome = true ∧ (rowsOf (.mrow r off len) h).length = len) := rfl
attribute [go_sem] List.any_cons List.any_nil Bool.or_false Bool.or_true Bool.false_or Bool.true_or
@[go_sem] theorem call_func {k : FuncId} {d : D} {ys : List D} {h : H} {b : Nat} : Zpg W C (.func k) (d :: ys) h b = if C.pure k then
   (if C.cf then (C.pf k (ys.map wk), h, W.pureCt k (ys.map wk) (C.pf k (ys.map wk)) ∧ ys.any Zyc = false)
   else if C.dp then (C.pf k (ys.map (Zre h)), h, W.pureCt k (ys.map (Zre h)) (C.pf k (ys.map (Zre h))) ∧ flat (C.pf k (ys.map (Zre h))) = true ∧ ∀ y ∈ ys, Zqa h 5 y)
   else (C.pf k (ys.map (Zkg h)), h, W.pureCt k (ys.map (Zkg h)) (C.pf k (ys.map (Zkg h))) ∧ (ys.any Zyc = true → flat (C.pf k (ys.map (Zkg h))) = true ∧ ∀ y ∈ ys, Zbd h y)))
  else (.junk, h, False) := rfl
@[go_sem] theorem call_tmp {k : FuncId} {t : Tmp} {first caps ys : List D} {h : H} {b : Nat} : Zpg W C (.tmp t) (.fn (.func k) first caps :: ys) h b = if C.pure k then
   (if C.cf then (C.pf k ((first ++ ys ++ caps).map wk), h, W.pureCt k ((first ++ ys ++ caps).map wk) (C.pf k ((first ++ ys ++ caps).map wk)) ∧ (first ++ ys ++ caps).any Zyc = false)
   else if C.dp then (C.pf k ((first ++ ys ++ caps).map (Zre h)), h, W.pureCt k ((first ++ ys ++ caps).map (Zre h)) (C.pf k ((first ++ ys ++ caps).map (Zre h))) ∧ flat (C.pf k ((first ++ ys ++ caps).map (Zre h))) = true ∧ ∀ y ∈ first ++ ys ++ caps, Zqa h 5 y)
   else (C.pf k ((first ++ ys ++ caps).map (Zkg h)), h, W.pureCt k ((first ++ ys ++ caps).map (Zkg h)) (C.pf k ((first ++ ys ++ caps).map (Zkg h))) ∧ ((first ++ ys ++ caps).any Zyc = true → flat (C.pf k ((first ++ ys ++ caps).map (Zkg h))) = true ∧ ∀ y ∈ first ++ ys ++ caps, Zbd h y)))
  else (.junk, h, False) := rfl
@[go_sem] theorem words_pure [Glob P] {k : FuncId} {xs : List D} {r : D} : (words P).pureCt k xs r = PureCt P k xs r := rfl
@[go_sem] theorem words_ct [Glob P] {k : FuncId} {xs : List D} {h h' : H} {b : Nat} {r : D} : (words P).ct k xs h b r h' = Ct P k xs h b r h' := rfl
@[go_sem] theorem flat_v {x : Value} : flat (.v x) = true := rfl
attribute [go_sem] Zfv Zf3 Zjx resD
attribute [go_sem] List.forall_mem_cons List.not_mem_nil false_implies forall_const
@[go_sem] theorem snap_v {h : H} {k : Nat} {x : Value} : snap h k (.v x) = .v x := by cases k <;> rfl
@[go_sem] theorem snap_list {h : H} {k : Nat} {f : Bool} {x : List (List D)} : snap h k (.list f x) = .list f x := by cases k <;> rfl
@[go_sem] theorem snap_mrow {h : H} {k : Nat} {r off len : Nat} : snap h (k + 1) (.mrow r off len) = .list false ((rowsOf (.mrow r off len) h).map fun row => row.map (snap h k)) := rfl
@[go_sem] theorem snap_agg {h : H} {k : Nat} {cs : List D} : snap h (k + 1) (.agg cs) = .agg (cs.map (snap h k)) := rfl
@[go_sem] theorem snap_tuple {h : H} {k : Nat} {cs : List D} : snap h (k + 1) (.tuple cs) = .tuple (cs.map (snap h k)) := rfl
@[go_sem] theorem snapOk_v {h : H} {k : Nat} {x : Value} : Zqa h k (.v x) = True := by cases k <;> simp [Zqa, D.nr]
@[go_sem] theorem snapOk_list {h : H} {k : Nat} {f : Bool} {x : List (List D)} : Zqa h k (.list f x) = (nrr x = true) := by cases k <;> rfl
@[go_sem] theorem snapOk_mrow {h : H} {k : Nat} {r off len : Nat} : Zqa h (k + 1) (.mrow r off len) = (Zbd h (.mrow r off len) ∧ ∀ row ∈ rowsOf (.mrow r off len) h, ∀ c ∈ row, Zqa h k c) := rfl
@[go_sem] theorem snapOk_agg {h : H} {k : Nat} {cs : List D} : Zqa h (k + 1) (.agg cs) = ∀ c ∈ cs, Zqa h k c := rfl
@[go_sem] theorem snapOk_tuple {h : H} {k : Nat} {cs : List D} : Zqa h (k + 1) (.tuple cs) = ∀ c ∈ cs, Zqa h k c := rfl
@[go_sem] theorem snap_mptr {h : H} {k : Nat} {r i off : Nat} : snap h (k + 1) (.mptr r i off) = .eptr ((Zbb (.mptr r i off) h).map (snap h k)) := rfl
@[go_sem] theorem Zd8 {h : H} {k : Nat} {f : Fn} {a b : List D} : snap h (k + 1) (.fn f a b) = .fn f (a.map (snap h k)) (b.map (snap h k)) := rfl
@[go_sem] theorem snapOk_mptr {h : H} {k : Nat} {r i off : Nat} : Zqa h (k + 1) (.mptr r i off) = ((h r).isSome = true ∧ ∀ c ∈ Zbb (.mptr r i off) h, Zqa h k c) := rfl
@[go_sem] theorem snapOk_fn {h : H} {k : Nat} {f : Fn} {a b : List D} : Zqa h (k + 1) (.fn f a b) = ((∀ c ∈ a, Zqa h k c) ∧ ∀ c ∈ b, Zqa h k c) := rfl
theorem Zz4 {h : H} (rows : List (List D)) : (rows.map fun row => row.map (snap h 0)) = rows := by
 have : (fun row : List D => row.map (snap h 0)) = id := by funext row; exact List.map_id row
 rw [this]; exact List.map_id rows
theorem Zww {h : H} {rows : List (List D)} (hn : nrr rows = true) : ∀ row ∈ rows, ∀ c ∈ row, Zqa h 0 c := fun _ h1 _ h2 => Zxe (Zxq hn h1) h2
theorem Zgo [Glob P] {ro : Option Nat} {Q : Exit → S → Prop} {s s' : S} {id : Nat} {ops : Array Oper} {draw : Bool} (he : exec P (words P) C ops.toList s = s') (hd : draw = true → P.follows .mixedOrders = true ∧ Zlo C ops.toList = true ∧ Zte ops.toList = true) (hok : s'.ok) (hq : Q .normal s'.clear) : DW P ro (.region id ops draw) Q s :=
 Ycb (C := C) hd (by rw [he]; exact hok) (by rw [he]; exact hq)
end Go.DL
namespace Go.DL
open Go.RowKit
variable {P : Program} {C : Con} {ro : Option Nat} {Q : Exit → S → Prop}
theorem dw_reg [Glob P] {s : S} {n nx : Nat} {t : Nat → D} {h : H} {ok : Prop} {e : Env} {id : Nat} {ops : Array Oper} {draw : Bool} (he : exec P (words P) C ops.toList s = ⟨n, t, h, nx, ok, e⟩) (hd : draw = true → P.follows .mixedOrders = true ∧ Zlo C ops.toList = true ∧ Zte ops.toList = true) (hok : ok) (hq : Q .normal ⟨n, t, h, nx, True, e⟩) : DW P ro (.region id ops draw) Q s :=
 Zgo (C := C) he hd hok hq
theorem dw_step [Glob P] {s : S} {n nx : Nat} {t : Nat → D} {h : H} {ok : Prop} {e : Env} {id : Nat} {ops : Array Oper} {draw : Bool} {y : Code} (he : exec P (words P) C ops.toList s = ⟨n, t, h, nx, ok, e⟩) (hd : draw = true → P.follows .mixedOrders = true ∧ Zlo C ops.toList = true ∧ Zte ops.toList = true) (hok : ok) (hq : DW P ro y Q ⟨n, t, h, nx, True, e⟩) : DW P ro (.seq (.region id ops draw) y) Q s :=
 Zaa (Zgo (C := C) he hd hok hq)
@[go_sem] theorem ne_add {r n i : Nat} (h : r < n) : (r = n + i) = False := by simp; omega
@[go_sem] theorem add_ne {r n i : Nat} (h : r < n) : (n + i = r) = False := by simp; omega
@[go_sem] theorem take_map_len {α β : Type} {f : α → β} {l : List α} : (l.map f).take l.length = l.map f := by rw [List.take_of_length_le]; simp
@[go_sem] theorem take_map_len1 {α β : Type} {f : α → β} {l : List α} {x : β} : (l.map f ++ [x]).take (l.length + 1) = l.map f ++ [x] := by rw [List.take_of_length_le]; simp
@[go_sem] theorem wkr_app : ∀ {a b : List (List D)}, wkr (a ++ b) = wkr a ++ wkr b
 | [], _ => rfl
 | r :: a, b => by simp only [List.cons_append, wkr, wkr_app]
attribute [go_sem] Zz4 Zrt nrr nrs
@[go_sem] theorem snapOk_rows {h : H} {rows : List (List D)} : (∀ row ∈ rows, ∀ c ∈ row, Zqa h 0 c) = (nrr rows = true) := by
 apply propext
 refine ⟨fun k => Zh9 fun r hr => Zwq fun c hc => k r hr c hc, fun k => Zww k⟩
@[go_sem] theorem nr_v {x : Value} : D.nr (.v x) = true := rfl
@[go_sem] theorem nr_list {f : Bool} {rows : List (List D)} : D.nr (.list f rows) = nrr rows := rfl
def tab : List (Nat × D) → Nat → D
 | [], _ => .junk
 | (j, x) :: l, i => if i = j then x else tab l i
@[go_sem] theorem tab_hit {i : Nat} {x : D} {l : List (Nat × D)} : tab ((i, x) :: l) i = x := by simp [tab]
@[go_sem] theorem tab_miss {j i : Nat} {x : D} {l : List (Nat × D)} (h : (i = j) = False) : tab ((j, x) :: l) i = tab l i := by simp only [tab]; rw [if_neg (by rw [h]; exact id)]
def Tb (t : Nat → D) (p : Nat × D) : Prop := t p.1 = p.2 ∨ wk (t p.1) = p.2
@[go_sem] theorem tb_eq {t : Nat → D} {i : Nat} {d : D} : Tb t (i, d) = (t i = d ∨ wk (t i) = d) := rfl
attribute [go_sem] true_or
theorem Zyz {t : Nat → D} : ∀ {l : List (Nat × D)}, (∀ p ∈ l, Tb t p) → ∀ i, tab l i = t i ∨ tab l i = wk (t i) ∨ tab l i = .junk
 | [], _, _ => .inr (.inr rfl)
 | (j, x) :: l, h, i => by
  simp only [tab]
  split
  ·
   rename_i e; subst e
   rcases h (i, x) (by simp) with h | h
   ·
    exact .inl h.symm
   ·
    exact .inr (.inl h.symm)
  ·
   exact Zyz (fun p hp => h p (by simp [hp])) i
def Mem.only (g : Mem) (h' : H) : Mem := { M := fun r => if (h' r).isSome then g.M r else none, U := g.U, I := g.I }
theorem only_M {g : Mem} {h' : H} (r : Nat) (_ : g.U r) : (g.only h').M r = g.M r ∨ (g.only h').M r = none := by
 show (if (h' r).isSome then g.M r else none) = g.M r ∨ (if (h' r).isSome then g.M r else none) = none
 split
 ·
  exact .inl rfl
 ·
  exact .inr rfl
theorem only_mono {g : Mem} {h' : H} {w : World} : Mono g (g.only h') w w := by
 refine ⟨rfl, rfl, rfl, Nat.le_refl _, Nat.le_refl _, fun _ h => h, only_M, fun r b c s h => .inl ⟨r, c, s, ?_⟩, fun _ h => h, fun _ h => .inl h, fun _ _ _ => rfl⟩
 ·
  have h' : (if (h' r).isSome then g.M r else none) = some (some b, c, s) := h
  split at h'
  ·
   exact h'
  ·
   cases h'
theorem Rep.only {g : Mem} {h' : H} {w : World} {d : D} {v : Value} (h : Rep w g d v) : Rep w (g.only h') d v :=
 Rep.mono (g := g) (g' := g.only h') (fun _ hb => ⟨hb, rfl⟩) (fun _ h => h) only_M h
theorem HM.only [Glob P] {h h' : H} {g : Mem} {w : World} (hm : HM P h g w) (hh : ∀ r, h' r = h r ∨ h' r = none) : HM P h' (g.only h') w := by
 have inv : ∀ {r x}, (g.only h').M r = some x → g.M r = some x := by
  intro r x e
  have e : (if (h' r).isSome then g.M r else none) = some x := e
  split at e
  ·
   exact e
  ·
   cases e
 refine ⟨fun r hr => ?_, fun r bl hr => ?_, fun r r' b c c' s s' q1 q2 => hm.inj _ _ _ _ _ _ _ (inv q1) (inv q2), fun r hr => ?_, hm.imm, hm.gr⟩
 ·
  show (if (h' r).isSome then g.M r else none) = none
  rw [hr]; rfl
 ·
  have e : h r = some bl := by
   rcases hh r with e | e
   ·
    rw [← e]; exact hr
   ·
    rw [e] at hr; cases hr
  obtain ⟨blk, c, h1, h2, h3, h4, h5⟩ := hm.blk r bl e
  refine ⟨blk, c, by show (if (h' r).isSome then g.M r else none) = _; rw [hr]; exact h1, h2, h3, h4, ?_⟩
  rcases h5 with h5 | ⟨b, cur, rfl, h6, h7, h8, h9⟩
  ·
   exact .inl h5
  ·
   refine .inr ⟨b, cur, rfl, h6, h7, h8, fun i row hi => ⟨(h9 i row hi).1, fun j d hd => ?_⟩⟩
   obtain ⟨u, k3, k4, k5⟩ := (h9 i row hi).2 j d hd
   exact ⟨u, k3, k4, k5.only⟩
 ·
  cases e : (g.only h').M r with
  | none => exact absurd e hr
  | some x => exact hm.used r (by rw [inv e]; simp)
theorem Marks.only {B : Nat} {g : Mem} {h' : H} {w : World} : ∀ {ds : List Deferred}, Marks B g ds w → Marks B (g.only h') ds w
 | [], _ => trivial
 | _ :: _, ⟨h1, h2⟩ => ⟨h1, Marks.only h2⟩
theorem Dfs.only {B : Bot} {g : Mem} {h' : H} {w : World} {ds : List Deferred} (h : Dfs B g ds w) : Dfs B (g.only h') ds w := h.map fun _ k => k.only
theorem St.forget [Glob P] {B : Bot} {s : S} {g : Mem} {a : Act} {w : World} (hs : St P B s g a w) {t' : Nat → D} {h' : H} {nx' : Nat} (ht : ∀ i, t' i = s.t i ∨ t' i = wk (s.t i) ∨ t' i = .junk) (hh : ∀ r, h' r = s.h r ∨ h' r = none) :
  St P B { n := s.n, t := t', h := h', nx := nx', e := s.e } (g.only h') a w := by
 refine ⟨hs.sz, fun i => ?_, hs.mem.only hh, hs.df.only, s.e.st P s.h g _ w w hs.mem only_mono hs.en, hs.bd⟩
 rcases ht i with e | e | e
 ·
  show Rep w (g.only h') (t' i) _
  rw [e]; exact (hs.tm i).only
 ·
  show Rep w (g.only h') (t' i) _
  rw [e]; exact (hs.tm i).wk.only
 ·
  show Rep w (g.only h') (t' i) _
  rw [e]; exact .junk _
theorem Zrr [Glob P] {c : Code} {s : S} {α : Type} (A : α → Prop) (μ : α → Nat) (tb : α → List (Nat × D)) (hh : α → H) (nxx : α → Nat) (a0 : α) (hA : A a0) (ht : ∀ p ∈ tb a0, Tb s.t p) (hhp : ∀ r, hh a0 r = s.h r ∨ hh a0 r = none) (hn : s.nx ≤ nxx a0)
  (round : ∀ a, A a → DW P ro c (thenS (fun s' => ∃ a', A a' ∧ μ a' < μ a ∧ (∀ p ∈ tb a', Tb s'.t p) ∧ (∀ r, hh a' r = s'.h r ∨ hh a' r = none) ∧ s'.nx ≤ nxx a' ∧ s'.n = s.n ∧ s'.e = s.e) Q) { n := s.n, t := tab (tb a), h := hh a, nx := nxx a, e := s.e }) : DW P ro (.loop c) Q s := by
 intro B g a w hs hU
 refine wpIn_loop_ghost (fun k a' w' => ∃ x g', A x ∧ μ x = k ∧ St P B { n := s.n, t := tab (tb x), h := hh x, nx := nxx x, e := s.e } g' a' w' ∧ MonoX s.e.x g g' w w' ∧ ∀ r, g'.U r → r < nxx x) (μ a0) ⟨a0, _, hA, rfl, hs.forget (Zyz ht) hhp, only_mono.toX, fun r hr => Nat.lt_of_lt_of_le (hU r hr) hn⟩ ?_
 rintro k a1 w1 ⟨x, g1, hx, rfl, hs1, hm1, hU1⟩
 refine wpIn_mono (round x hx B g1 a1 w1 hs1 hU1) ?_
 rintro e a2 w2 ⟨s2, g2, hq, hs2, hm2, hU2, hx2⟩
 cases e with
 | normal =>
  obtain ⟨x', h1, h2, h3, h4, h5, h6, h7⟩ := hq
  refine ⟨μ x', h2, x', g2.only (hh x'), h1, rfl, ?_, (hm1.trans hm2).trans only_mono.toX, fun r hr => Nat.lt_of_lt_of_le (hU2 r hr) h5⟩
  have := hs2.forget (nx' := nxx x') (Zyz h3) h4
  rw [h6, h7] at this
  exact this
 | _ => exact ⟨s2, g2, hq, hs2, hm1.trans hm2, hU2, hx2⟩
def htab : List (Nat × Blk) → H
 | [] => fun _ => none
 | (r, b) :: l => upd (htab l) r (some b)
@[go_sem] theorem htab_nil : htab [] = fun _ => none := rfl
@[go_sem] theorem htab_cons {r : Nat} {b : Blk} {l : List (Nat × Blk)} : htab ((r, b) :: l) = upd (htab l) r (some b) := rfl
theorem Zqv {h : H} : ∀ {l : List (Nat × Blk)}, (∀ p ∈ l, h p.1 = some p.2) → ∀ r, htab l r = h r ∨ htab l r = none
 | [], _, _ => .inr rfl
 | (j, x) :: l, hl, i => by
  simp only [htab, upd]
  split
  ·
   rename_i e; subst e; exact .inl (hl (i, x) (by simp)).symm
  ·
   exact Zqv (fun p hp => hl p (by simp [hp])) i
theorem mem_fx {s : S} {keep : List Nat} {fx : List (Nat × D)} (hfx : keep.map (fun i => (i, s.t i)) = fx) : ∀ p ∈ fx, Tb s.t p := by
 intro p hp
 rw [← hfx] at hp
 obtain ⟨i, _, rfl⟩ := List.mem_map.1 hp
 exact .inl rfl
theorem Zp1 [Glob P] {c : Code} {s : S} {α : Type} (keep : List Nat) (A : α → Prop) (μ : α → Nat) (tb : α → List (Nat × D)) (hb : α → List (Nat × Blk)) (nxx : α → Nat) (a0 : α) {fx : List (Nat × D)} (hfx : keep.map (fun i => (i, s.t i)) = fx) (hA : A a0) (ht : ∀ p ∈ tb a0, Tb s.t p) (hh : ∀ p ∈ hb a0, s.h p.1 = some p.2) (hn : s.nx ≤ nxx a0)
  (round : ∀ a, A a → DW P ro c (thenS (fun s' => ∃ a', A a' ∧ μ a' < μ a ∧ (∀ p ∈ tb a', Tb s'.t p) ∧ (∀ p ∈ fx, Tb s'.t p) ∧ (∀ p ∈ hb a', s'.h p.1 = some p.2) ∧ s'.nx ≤ nxx a' ∧ s'.n = s.n ∧ s'.e = s.e) Q) { n := s.n, t := tab (tb a ++ fx), h := htab (hb a), nx := nxx a, e := s.e }) : DW P ro (.loop c) Q s :=
 Zrr A μ (fun a => tb a ++ fx) (fun a => htab (hb a)) nxx a0 hA (fun p hp => (List.mem_append.1 hp).elim (ht p) (mem_fx hfx p)) (Zqv hh) hn fun a ha => (round a ha).mono fun e s' hq => by
  cases e with
  | normal =>
   obtain ⟨a', h1, h2, h3, h4, h5, h6, h7, h8⟩ := hq
   exact ⟨a', h1, h2, fun p hp => (List.mem_append.1 hp).elim (h3 p) (h4 p), Zqv h5, h6, h7, h8⟩
  | _ => exact hq
theorem dw_len [Glob P] {c : Code} {s : S} (i : Nat) {f : Bool} {rows : List (List D)} (he : s.t i = .list f rows) (h : rows.length ≤ maxLen → DW P ro c Q s) : DW P ro c Q s := by
 intro B g a w hs hU
 refine h ?_ B g a w hs hU
 have hr := hs.tm i
 rw [he] at hr
 generalize a.tmps.getD i undef = v at hr
 cases hr with
 | empty => simp [maxLen]
 | list _ _ ad cap size cv hI hl hf hm hs hc hr => omega
theorem dw_own [Glob P] {c : Code} {s : S} (i : Nat) (ty : TypeId) (hi : s.t i = .list true []) (hty : 0 < P.cellsOf ty) (h : DW P ro c Q { n := s.n, t := upd s.t i (.mrow s.nx 0 0), h := upd s.h s.nx (some ⟨ty, []⟩), nx := s.nx + 1, e := s.e }) : DW P ro c Q s := by
 intro B g a w hs hU
 have hnu : ¬ g.U s.nx := fun h => Nat.lt_irrefl _ (hU _ h)
 obtain ⟨g', q1, q2, q3, q4, q5⟩ := hs.mem.putNone (h' := upd s.h s.nx (some ⟨ty, []⟩)) s.nx ⟨ty, []⟩ hnu (upd_same _ _ _) (fun r hr => .inl (upd_ne _ _ _ _ hr)) hty rfl
 have hst : St P B { n := s.n, t := upd s.t i (.mrow s.nx 0 0), h := upd s.h s.nx (some ⟨ty, []⟩), nx := s.nx + 1, e := s.e } g' a w := by
  refine ⟨hs.sz, fun j => ?_, q4, hs.df.later hs.mem q5, Env.later hs.mem q5 hs.en, hs.bd⟩
  by_cases e : j = i
  ·
   subst e
   simp only [upd_same]
   have hr := hs.tm j
   rw [hi] at hr
   generalize a.tmps.getD j undef = v at hr
   have key : ∃ x, v = .slice x 0 0 := by
    cases hr with
    | empty _ x cap hf hm => exact ⟨x, by rw [hf rfl]⟩
    | list _ _ ad cap size cv hI hl hf => exact ⟨some ad, by rw [hf rfl]; rfl⟩
   obtain ⟨x, rfl⟩ := key
   refine .mrow _ _ _ _ ⟨x, 0, rfl, Nat.le_refl _, fun h => absurd h (by omega)⟩ ((q2 _).2 (.inr rfl)) fun blk c sz he => ?_
   rw [q1] at he
   cases he
   exact ⟨⟨Nat.le_refl _, Nat.zero_le _⟩, .inl ⟨rfl, x, rfl⟩⟩
  ·
   simp only [upd_ne _ _ _ _ e]
   exact (hs.tm j).later hs.mem q5
 exact wpIn_mono (h B g' a w hst (fun r hr => by
  rcases (q2 r).1 hr with h | h
  ·
   exact Nat.lt_succ_of_lt (hU r h)
  ·
   subst h; exact Nat.lt_succ_self _)) fun e a' w' ⟨s', g'', q, r, m, u, v⟩ => ⟨s', g'', q, r, q5.toX.trans m, u, v⟩
theorem Zo1 {w : World} {g : Mem} {v : Value} (hr : Rep w g (.list true []) v) : ∃ x, v = .slice x 0 0 := by
 cases hr with
 | empty _ x cap hf hm => exact ⟨x, by rw [hf rfl]⟩
 | list _ _ ad cap size cv hI hl hf => exact ⟨some ad, by rw [hf rfl]; rfl⟩
def RCt (P : Program) [Glob P] (f : FuncId) (args : List D) (h : H) (n : Nat) (R : D → H → Nat → Prop) : Prop :=
 Zea P f = true ∧ ∀ (w : World) (g : Mem) (vs : List Value), HM P h g w → (∀ r, g.U r → r < n) → Reps w g args vs →
  CallsIn Fence.wide 0 P f vs.toArray w fun e w' => ∃ v g' res h' n', R res h' n' ∧ e = .returned v ∧ Rep w' g' res v ∧ HM P h' g' w' ∧ Mono g g' w w' ∧ ∀ r, g'.U r → r < n'
theorem RCt.mono [Glob P] {f : FuncId} {args : List D} {h : H} {n : Nat} {R R' : D → H → Nat → Prop} (k : RCt P f args h n R) (i : ∀ d h' n', R d h' n' → R' d h' n') : RCt P f args h n R' :=
 ⟨k.1, fun w g vs h1 h2 h3 => (k.2 w g vs h1 h2 h3).mono fun _ _ ⟨v, g', res, h', n', q, r⟩ => ⟨v, g', res, h', n', i _ _ _ q, r⟩⟩
theorem Zzj [Glob P] {h : H} {g : Mem} {w : World} {n : Nat} (hm : HM P h g w) (hU : ∀ r, g.U r → r < n) : ∀ r, n ≤ r → h r = none := by
 intro r hr
 cases hq : h r with
 | none => rfl
 | some bl =>
  obtain ⟨blk, c', h1, _⟩ := hm.blk r bl hq
  have := hU r (hm.used r (by rw [h1]; simp))
  omega
theorem Zlb [Glob P] {f : FuncId} {fn : Func} {c : Code} {args : List D} {h : H} {n : Nat} {R : D → H → Nat → Prop} (hf : P.funcs[f]? = some fn) (hb : fn.body = some c) (hbd : Zea P f = true) (hn : args.length ≤ fn.ntmps)
  (hw : (∀ r, n ≤ r → h r = none) → DW P none c (fun e s => (e = .normal ∨ e = .ret) ∧ Zfv P s fn.results.toList ∧ ∃ h' n', (∀ r, h' r = s.h r ∨ h' r = none) ∧ s.nx ≤ n' ∧ R (resD P fn.results.toList s) h' n') { n := fn.ntmps, t := fun i => args.getD i .junk, h := h, nx := n }) : RCt P f args h n R := by
 refine ⟨hbd, fun w g vs hm hU hr => ?_⟩
 have hs := Zjr (P := P) (n := fn.ntmps) hr hn hm (nx := n)
 refine callsIn_of_wp_marks (n := 0) hf hb trivial (wpIn_mono (F := Fence.wide) (hw (Zzj hm hU) (Bot.of w.heap.size) g _ w hs hU) ?_)
 rintro e a' w' ⟨s', g', ⟨he, ho, h', n', hh, hn', hR⟩, hs', hm', hU', _⟩
 have hm' := hm'.out
 have hlast : LeavesInM Fence.wide 0 P fn a'.tmps (fun e w' => ∃ v g' res h' n', R res h' n' ∧ e = .returned v ∧ Rep w' g' res v ∧ HM P h' g' w' ∧ Mono g g' w w' ∧ ∀ r, g'.U r → r < n') a'.defers .returning w' := by
  refine Zij (P := P) a'.defers w' hs'.df.marks fun w2 e0 e1 e2 e3 e4 e5 e6 e7 => ?_
  have hs2 := hs'.marks e4 e6 e7
  obtain ⟨v, h1, h2⟩ := Zuf (fn := fn) hs2 ho
  have mono2 : Mono g g' w w2 := by
   refine ⟨by rw [e1, hm'.os], by rw [e2, hm'.tape], by rw [e3, hm'.output], by rw [e4]; exact hm'.size, by rw [e0]; exact hm'.drawn, hm'.U, hm'.M, hm'.new, hm'.I, hm'.inew, fun k hk hne => ?_⟩
   rw [e5 k hk]; exact hm'.same k hk hne
  exact ⟨v, h1, v, g'.only h', _, h', n', hR, rfl, h2.only, hs2.mem.only hh, mono2.trans only_mono, fun r hr => Nat.lt_of_lt_of_le (hU' r hr) hn'⟩
 rcases he with rfl | rfl <;> exact hlast
theorem Zqb {α : Type} {a : Array α} {k : Nat} {o : α} (h : a.toList[k]? = some o) : a[k]? = some o := by rwa [Array.getElem?_toList] at h
theorem Zsb [Glob P] {B : Bot} {ops : Array Oper} {b : Nat} {n : Nat} {Q : Exit → Act → World → Prop} {w0 : World} {g0 : Mem} {rest : List Nat} : ∀ (k i : Nat) (s : S) (g : Mem) (a : Act) (w : World), St P B s g a w → Mono g0 g w0 w → (∀ r, g.U r → r < b + i) →
  i + k ≤ ops.size → (Zga P (words P) C ops.toList b i ((ops.toList.drop i).take k) s).ok →
  (∀ g' a' w', St P B (Zga P (words P) C ops.toList b i ((ops.toList.drop i).take k) s) g' a' w' → Mono g0 g' w0 w' → (∀ r, g'.U r → r < b + (i + k)) → wpOpsIn (Fw ro) n P ops Q rest a' w') →
  wpOpsIn (Fw ro) n P ops Q (List.range' i k ++ rest) a w := by
 intro k
 induction k with
 | zero =>
  intro i s g a w hs hm hU hk hok hQ
  exact hQ g a w hs hm hU
 | succ k ih =>
  intro i s g a w hs hm hU hk hok hQ
  have hlt : i < ops.size := by omega
  have hd : (ops.toList.drop i).take (k + 1) = ops[i] :: (ops.toList.drop (i + 1)).take k := by rw [List.drop_eq_getElem_cons (by simpa using hlt)]; simp
  rw [hd] at hok hQ
  simp only [Zga] at hok hQ
  rw [List.range'_succ, List.cons_append, wpOpsIn_cons]
  refine Zae hs (b := b) (N := b + i) (fun h => by have := hU _ h; omega) hU (by simp [hlt]) (Zoi hok) fun g' a' w' h1 h2 h3 => ?_
  refine ih (i + 1) _ g' a' w' h1 (hm.trans h2) (fun r hr => by rcases h3 r hr with h | h <;> first | omega | (have := hU r h; omega)) (by omega) hok fun g'' a'' w'' q1 q2 q3 => hQ g'' a'' w'' q1 q2 fun r hr => by have := q3 r hr; omega
theorem Reps.wk {w : World} {g : Mem} {ds : List D} {vs : List Value} (h : Reps w g ds vs) : Reps w g (ds.map wk) vs :=
 ⟨by simpa using h.1, fun i d x h1 h2 => by obtain ⟨y, h3, rfl⟩ := Zsd h1; exact (h.2 i y x h3 h2).wk⟩
theorem dw_call [Glob P] {s s1 : S} {id : Nat} {ops : Array Oper} (k : Nat) {o : Oper} {f : Operand} {args : Array Operand} {ts : Array TypeId} {fid : FuncId} {first caps xs : List D} (R : D → H → Nat → Prop)
  (ho : ops[k]? = some o) (hop : o.op = .call { callee := .value f, args := args, argTypes := ts }) (hg : o.guard = none)
  (he : Zga P (words P) C ops.toList s.nx 0 (ops.toList.take k) { n := s.n, t := s.t, h := s.h, nx := s.nx + k, ok := s.ok, e := s.e } = s1) (hok : s1.ok) (hd : Ztb s1.n o.dst = true)
  (hf : s1.ev f = .fn (.func fid) first caps) (hxg : (args.toList.map s1.ev).all sg = true) (hx : ((args.toList.map s1.ev).map sd).map wk = xs) (hct : RCt P fid (first ++ xs ++ caps) s1.h (s.nx + k) R)
  (hk : ∀ res h' n', R res h' n' → ∃ s2, Zga P (words P) C ops.toList n' (k + 1) (ops.toList.drop (k + 1)) { n := s1.n, t := s1.put o.dst res, h := h', nx := n' + ops.size, ok := True, e := s1.e } = s2 ∧ s2.ok ∧ Q .normal s2.clear) :
  DW P ro (.region id ops false) Q s := by
 intro B g a w hs hU
 have hlt : k < ops.size := (Array.getElem?_eq_some_iff.1 ho).1
 refine wpIn_region ?_
 have hr : List.range ops.size = List.range' 0 k ++ (k :: List.range' (k + 1) (ops.size - (k + 1))) := by
  rw [List.range_eq_range']
  have : ops.size = k + ((ops.size - (k + 1)) + 1) := by omega
  conv => lhs; rw [this]
  rw [← List.range'_append_1, List.range'_succ]
  simp
 rw [hr]
 have hs0 : St P B { n := s.n, t := s.t, h := s.h, nx := s.nx + k, ok := s.ok, e := s.e } g a w := ⟨hs.sz, hs.tm, hs.mem, hs.df, hs.en, hs.bd⟩
 have e0 : (ops.toList.drop 0).take k = ops.toList.take k := rfl
 refine Zsb (C := C) (b := s.nx) k 0 _ g a w hs0 (Mono.refl _ _) (fun r hr => by have := hU r hr; omega) (by omega) (by rw [e0, he]; exact hok) fun g1 a1 w1 hs1 hm1 hU1 => ?_
 rw [e0, he] at hs1
 rw [wpOpsIn_cons]
 unfold wpOpIn
 rw [ho]
 simp only
 have hw : Region.wanted o (yielded ops a1.tmps) = true := by simp [Region.wanted, hg]
 rw [if_pos hw]
 have hdef : ∀ c, o.op ≠ .defer c := by intro c e; rw [e] at hop; cases hop
 have hsem : o.semAt (Fw ro).round a1.eval = execOp a1.eval o := Oper.semAt_eq _ _ _ hdef
 refine ⟨fun _ _ => trivial, ?_⟩
 rw [hsem]
 obtain ⟨hbd, hct⟩ := hct
 have hfr := Zgb hs1 f
 rw [hf] at hfr
 have hxr := Reps.wk (Zxf (Zxk hs1 args.toList) hxg)
 rw [hx] at hxr
 generalize hv : a1.eval f = vf at hfr
 cases hfr with | fn _ _ _ fs cs l1 l2 r1 r2 =>
 have hrun : (execOp a1.eval o).run P w1 = .ok (.enter fid (fs ++ args.map a1.eval ++ cs)) w1 := by
  simp [execOp, hop, resolve, Deferred.ofValue, hv, invoke, Zdd hbd]
 rw [hrun, Oper.uponIn_enter]
 have e : fs ++ args.map a1.eval ++ cs = (fs.toList ++ args.toList.map a1.eval ++ cs.toList).toArray := by apply Array.ext'; simp
 rw [e]
 refine ⟨fun h => by simp [Fw, Fence.wide] at h, Zxh ((hct w1 g1 _ hs1.mem (fun r hr => by have := hU1 r hr; omega) (Reps.append (Reps.append ⟨by simpa using l1, fun i d x h1 h2 => r1 i d x h1 (by simpa using h2)⟩ hxr) ⟨by simpa using l2, fun i d x h1 h2 => r2 i d x h1 (by simpa using h2)⟩)).mono ?_)⟩
 rintro e w' ⟨v, g', res, h', n', hR, rfl, q1, q2, q3, q4⟩
 obtain ⟨s2, e2, ok2, hQ⟩ := hk res h' n' hR
 have hs2 := Zui hs1 q3 q2 hd q1 True
 have hs3 : St P B { n := s1.n, t := s1.put o.dst res, h := h', nx := n' + ops.size, ok := True, e := s1.e } g' (a1.put o.dst v) w' := ⟨hs2.sz, hs2.tm, hs2.mem, hs2.df, hs2.en, hs2.bd⟩
 have hnx : ∀ (l : List Oper) (i : Nat) (u : S), (Zga P (words P) C ops.toList n' i l u).nx = u.nx := by
  intro l
  induction l with
  | nil => intro i u; rfl
  | cons x l ih => intro i u; simp only [Zga]; rw [ih, exec1_n.2]
 have hex : ∀ (l : List Oper) (i b : Nat) (u : S), (Zga P (words P) C ops.toList b i l u).e = u.e := by
  intro l
  induction l with
  | nil => intro i b u; rfl
  | cons x l ih =>
   intro i b u
   simp only [Zga]
   rw [ih]
   unfold Zva
   split <;> rfl
 have e3 : (ops.toList.drop (k + 1)).take (ops.size - (k + 1)) = ops.toList.drop (k + 1) := List.take_of_length_le (by simp)
 have := Zsb (ro := ro) (P := P) (C := C) (B := B) (ops := ops) (b := n') (n := 0) (rest := []) (g0 := g) (w0 := w) (Q := fun e a' w' => ∃ s' g', Q e s' ∧ St P B s' g' a' w' ∧ MonoX s.e.x g g' w w' ∧ (∀ r, g'.U r → r < s'.nx) ∧ s'.e.x = s.e.x) (ops.size - (k + 1)) (k + 1) _ g' _ w' hs3 (hm1.trans q3) (fun r hr => by have := q4 r hr; omega) (by omega)
  (by rw [e3, e2]; exact ok2) fun g'' a'' w'' p1 p2 p3 => by
   rw [e3, e2] at p1
   refine ⟨_, g'', hQ, p1.clear, p2.toX, fun r hr => ?_, ?_⟩
   ·
    have h3 := p3 r hr
    have h4 := hnx (ops.toList.drop (k + 1)) (k + 1) { n := s1.n, t := s1.put o.dst res, h := h', nx := n' + ops.size, ok := True, e := s1.e }
    rw [e2] at h4
    show r < s2.nx
    rw [h4]
    show r < n' + ops.size
    omega
   ·
    have h5 := hex (ops.toList.drop (k + 1)) (k + 1) n' { n := s1.n, t := s1.put o.dst res, h := h', nx := n' + ops.size, ok := True, e := s1.e }
    rw [e2] at h5
    have h6 := hex (ops.toList.take k) 0 s.nx { n := s.n, t := s.t, h := s.h, nx := s.nx + k, ok := s.ok, e := s.e }
    rw [he] at h6
    show s2.e.x = s.e.x
    rw [h5]
    show s1.e.x = s.e.x
    rw [h6]
 rw [List.append_nil] at this
 exact this
end Go.DL
namespace Go.DL
open Go.RowKit
variable {P : Program} {C : Con} {Q : Exit → S → Prop}
def recAt (r : Loop) (j : Option Code) : Loop := { r with state := if j.isNone then .ready else .done, pending := j }
def Env.loop (l : Nat) (r : Loop) (t : Nat → D) : Env where
 p g w := w.heap[l]? = some (.loop r) ∧ ¬ g.I l ∧ ∀ i, Rep w g (t i) (r.tmps.getD i undef)
 x := some l
 st P _ h g g' w w' hm k := fun ⟨h1, h2, h3⟩ => ⟨Zgf hm k h1 (fun c e f => by simp), fun hI => by
   rcases k.inew l hI with e | e | ⟨r, c, s, e⟩
   ·
    exact h2 e
   ·
    have := (Array.getElem?_eq_some_iff.1 h1).1; omega
   ·
    exact Zie hm h1 (fun c e f => by simp) (fun c e => by simp) r c s e, fun i => (h3 i).later hm k⟩
theorem HM.keptX [Glob P] {h : H} {g g' : Mem} {w w' : World} {l : Nat} (hm : HM P h g w) (k : MonoX (some l) g g' w w') (hl : ¬ g.I l) : ∀ b, g.I b → g'.I b ∧ w'.heap[b]? = w.heap[b]? := by
 refine fun b hb => ⟨k.I b hb, k.same b (hm.imm b hb) (fun r c s e => ?_) (fun e => hl (by cases e; exact hb))⟩
 cases hr : h r with
 | none => rw [hm.dead r hr] at e; cases e
 | some bl =>
  obtain ⟨blk, c', e1, _, _, _, h5⟩ := hm.blk r bl hr
  rw [e] at e1
  simp only [Option.some.injEq, Prod.mk.injEq] at e1
  rcases h5 with ⟨h6, _⟩ | ⟨b', cur, h6, _, _, h7, _⟩
  ·
   rw [← e1.1] at h6; cases h6
  ·
   rw [← e1.1] at h6; cases h6; exact h7 hb
theorem Zii [Glob P] {h : H} {g g' : Mem} {w w' : World} {l : Nat} (hm : HM P h g w) (k : MonoX (some l) g g' w w') {D : Nat} {o : Obj} (hD : w.heap[D]? = some o) (ho : ∀ c e f, o ≠ .cells c e f) (hl : l ≠ D) (ho2 : ∀ c e, o ≠ .map c e := by intro c e; simp) : w'.heap[D]? = some o := by
 rw [k.same D (Array.getElem?_eq_some_iff.1 hD).1 (Zie hm hD ho ho2) (fun e => hl (by cases e; rfl))]; exact hD
theorem Marks.laterX [Glob P] {h : H} {g g' : Mem} {w w' : World} {l : Nat} (hm : HM P h g w) (k : MonoX (some l) g g' w w') {r : Loop} (hl : w.heap[l]? = some (.loop r)) {B : Nat} : ∀ {ds : List Deferred}, Marks B g ds w → Marks B g' ds w'
 | [], _ => trivial
 | d :: ds, ⟨⟨D, h1, h2, h3, h4, h5⟩, h6⟩ => ⟨⟨D, h1, Zii hm k h2 (fun c e f => by simp) (fun e => by subst e; rw [hl] at h2; cases h2), h3, h4, fun hI => by
   rcases k.inew D hI with e | e | ⟨r, c, s, e⟩
   ·
    exact h5 e
   ·
    have := (Array.getElem?_eq_some_iff.1 h2).1; omega
   ·
    exact Zie hm h2 (fun c e f => by simp) (fun c e => by simp) r c s e⟩, h6.laterX hm k hl⟩
theorem Dfs.laterX [Glob P] {h : H} {g g' : Mem} {w w' : World} {l : Nat} (hm : HM P h g w) (k : MonoX (some l) g g' w w') {r : Loop} (hl : w.heap[l]? = some (.loop r)) {B : Bot} {ds : List Deferred} (hd : Dfs B g ds w) : Dfs B g' ds w' := hd.map fun _ h => h.laterX hm k hl
theorem Zcr {g : Mem} {w : World} {l : Nat} (o : Obj) : MonoX (some l) g g w (w.putObj l o) :=
 ⟨rfl, rfl, rfl, by simp, Nat.le_refl _, fun _ h => h, fun _ _ => .inl rfl, fun r _ c s h => .inl ⟨r, c, s, h⟩, fun _ h => h, fun _ h => .inl h, fun _ _ _ hx => World.putObj_heap_other (fun e => hx (by rw [e]))⟩
theorem HM.putLoop [Glob P] {h : H} {g : Mem} {w : World} {l : Nat} {r : Loop} (hm : HM P h g w) (hl : w.heap[l]? = some (.loop r)) (hI : ¬ g.I l) (o : Obj) : HM P h g (w.putObj l o) :=
 hm.marks (by simp) (fun k hk => World.putObj_heap_other (fun e => hI (e ▸ hk))) fun k o hk ho => World.putObj_heap_other (fun e' => by subst e'; rw [hl] at hk; cases hk; exact ho)
def Zzw (t : Nat → D) (ps : List Nat) (ds : List D) : Nat → D := (ps.zip ds).foldl (fun t p => upd t p.1 p.2) t
@[go_sem] theorem Zyw {t : Nat → D} {ds : List D} : Zzw t [] ds = t := rfl
@[go_sem] theorem Zbt {t : Nat → D} {p : Nat} {ps : List Nat} {d : D} {ds : List D} : Zzw t (p :: ps) (d :: ds) = Zzw (upd t p d) ps ds := rfl
theorem Zxw {w : World} {g : Mem} : ∀ (ps : List Nat) (ds : List D) (vs : List Value) (t : Nat → D) (tmps : Array Value), Reps w g ds vs → (∀ p ∈ ps, p < tmps.size) → (∀ i, Rep w g (t i) (tmps.getD i undef)) →
  ((ps.zip vs).foldl (fun tmps (p : Nat × Value) => tmps.setIfInBounds p.1 p.2) tmps).size = tmps.size ∧ ∀ i, Rep w g (Zzw t ps ds i) (((ps.zip vs).foldl (fun tmps (p : Nat × Value) => tmps.setIfInBounds p.1 p.2) tmps).getD i undef)
 | [], _, _, _, _, _, _, h => ⟨rfl, h⟩
 | p :: ps, ds, vs, t, tmps, hr, hp, h => by
  cases ds with
  | nil => rw [hr.of_nil]; exact ⟨rfl, h⟩
  | cons d ds =>
   obtain ⟨x, xs, rfl, h1, h2⟩ := hr.of_cons
   have := Zxw ps ds xs (upd t p d) (tmps.setIfInBounds p x) h2 (fun q hq => by simpa using hp q (by simp [hq])) (fun i => by
    by_cases e : i = p
    ·
     subst e
     have hlt := hp i (by simp)
     rw [upd_same]
     simpa [hlt] using h1
    ·
     rw [upd_ne _ _ _ _ e]
     have : (tmps.setIfInBounds p x).getD i undef = tmps.getD i undef := by simp [Ne.symm e]
     rw [this]; exact h i)
   refine ⟨by simpa using this.1, this.2⟩
theorem Zx3 [Glob P] {s s1 : S} {id : Nat} {ops : Array Oper} (k : Nat) {o : Oper} {f : Operand} {args : Array Operand} {ts : Array TypeId} {l : Nat} {r : Loop} {t : Nat → D} {xs : List D}
  (ho : ops[k]? = some o) (hop : o.op = .call { callee := .value f, args := args, argTypes := ts }) (hg : o.guard = none) (hse : s.e = Env.loop l (recAt r none) t)
  (he : Zga P (words P) C ops.toList s.nx 0 (ops.toList.take k) { n := s.n, t := s.t, h := s.h, nx := s.nx + k, ok := s.ok, e := s.e } = s1) (hok : s1.ok) (hd : Ztb s1.n o.dst = true)
  (hf : s1.ev f = .fn (.yield l) [] []) (hxg : (args.toList.map s1.ev).all sg = true) (hx : (args.toList.map s1.ev).map sd = xs) (hps : xs.length = r.params.size) (hpn : ∀ p ∈ r.params.toList, p < r.tmps.size)
  (hbody : DW P (some l) r.assign (thenS (fun s2 => s2.e = Env.tt ∧ DW P (some l) r.body (fun e s' => s'.e = Env.tt ∧ ∃ b j, (match e with | .normal => b = true ∧ j = none | .ret => b = false ∧ j = some .ret | .exit i => b = false ∧ j = some (.exit i) | _ => False) ∧
    ∃ s2, Zga P (words P) C ops.toList s'.nx (k + 1) (ops.toList.drop (k + 1)) { n := s1.n, t := s1.put o.dst (.v (.bool b)), h := s'.h, nx := s'.nx + ops.size, ok := True, e := Env.loop l (recAt r j) t } = s2 ∧ s2.ok ∧ Q .normal s2.clear) s2) (fun _ _ => False))
   { n := r.tmps.size, t := Zzw t r.params.toList xs, h := s1.h, nx := s.nx + k }) :
  DW P none (.region id ops false) Q s := by
 intro B g a w hs hU
 have hlt : k < ops.size := (Array.getElem?_eq_some_iff.1 ho).1
 have hex : ∀ (l : List Oper) (i b : Nat) (u : S), (Zga P (words P) C ops.toList b i l u).e = u.e := by
  intro l
  induction l with
  | nil => intro i b u; rfl
  | cons x l ih =>
   intro i b u
   simp only [Zga]
   rw [ih]
   unfold Zva
   split <;> rfl
 have hnxx : ∀ (l : List Oper) (i b : Nat) (u : S), (Zga P (words P) C ops.toList b i l u).nx = u.nx := by
  intro l
  induction l with
  | nil => intro i b u; rfl
  | cons x l ih => intro i b u; simp only [Zga]; rw [ih, exec1_n.2]
 refine wpIn_region ?_
 have hr : List.range ops.size = List.range' 0 k ++ (k :: List.range' (k + 1) (ops.size - (k + 1))) := by
  rw [List.range_eq_range']
  have : ops.size = k + ((ops.size - (k + 1)) + 1) := by omega
  conv => lhs; rw [this]
  rw [← List.range'_append_1, List.range'_succ]
  simp
 rw [hr]
 have hs0 : St P B { n := s.n, t := s.t, h := s.h, nx := s.nx + k, ok := s.ok, e := s.e } g a w := ⟨hs.sz, hs.tm, hs.mem, hs.df, hs.en, hs.bd⟩
 have e0 : (ops.toList.drop 0).take k = ops.toList.take k := rfl
 refine Zsb (C := C) (b := s.nx) k 0 _ g a w hs0 (Mono.refl _ _) (fun r hr => by have := hU r hr; omega) (by omega) (by rw [e0, he]; exact hok) fun g1 a1 w1 hs1 hm1 hU1 => ?_
 rw [e0, he] at hs1
 have hs1e : s1.e = Env.loop l (recAt r none) t := by
  have h6 := hex (ops.toList.take k) 0 s.nx { n := s.n, t := s.t, h := s.h, nx := s.nx + k, ok := s.ok, e := s.e }
  rw [he] at h6
  rw [h6]; exact hse
 obtain ⟨hl1, hI1, ht1⟩ : (Env.loop l (recAt r none) t).p g1 w1 := by rw [← hs1e]; exact hs1.en
 rw [wpOpsIn_cons]
 unfold wpOpIn
 rw [ho]
 simp only
 have hw : Region.wanted o (yielded ops a1.tmps) = true := by simp [Region.wanted, hg]
 rw [if_pos hw]
 have hdef : ∀ c, o.op ≠ .defer c := by intro c e; rw [e] at hop; cases hop
 have hsem : o.semAt (Fw none).round a1.eval = execOp a1.eval o := Oper.semAt_eq _ _ _ hdef
 refine ⟨fun _ _ => trivial, ?_⟩
 rw [hsem]
 have hfr := Zgb hs1 f
 rw [hf] at hfr
 have hxr := Zxf (Zxk hs1 args.toList) hxg
 rw [hx] at hxr
 generalize hv : a1.eval f = vf at hfr
 cases hfr with | fn _ _ _ fs cs l1 l2 r1 r2 =>
 have hfs : fs = #[] := by apply Array.eq_empty_of_size_eq_zero; simpa using l1.symm
 have hcs : cs = #[] := by apply Array.eq_empty_of_size_eq_zero; simpa using l2.symm
 subst hfs; subst hcs
 have hsz : (args.map a1.eval).size = (recAt r none).params.size := by
  have h1 := hxr.1
  show (args.map a1.eval).size = r.params.size
  rw [← hps, h1]; simp
 have hrun : (execOp a1.eval o).run P w1 = .ok (.round l r.fn ((r.params.zip (args.map a1.eval)).foldl (fun tmps (t, a) => tmps.setIfInBounds t a) r.tmps) r.assign r.body) w1 := by
  have := run_yield (P := P) (w := w1) (l := l) (r := recAt r none) (args := args.map a1.eval) hl1 hsz
  have e1 : (execOp a1.eval o).run P w1 = (Instr.yield l (args.map a1.eval)).run P w1 := by simp [execOp, hop, resolve, Deferred.ofValue, hv, invoke]
  rw [e1]; exact this
 rw [hrun, Oper.uponIn_round]
 refine ⟨fun h => by simp [Fw, Fence.wide] at h, ?_⟩
 obtain ⟨hz1, hz2⟩ := Zxw r.params.toList xs _ t r.tmps hxr hpn ht1
 have hzip : (r.params.zip (args.map a1.eval)).foldl (fun tmps (t, a) => tmps.setIfInBounds t a) r.tmps = (r.params.toList.zip (args.toList.map a1.eval)).foldl (fun tmps (p : Nat × Value) => tmps.setIfInBounds p.1 p.2) r.tmps := by
  rw [← Array.foldl_toList]; simp
 rw [hzip]
 generalize (r.params.toList.zip (args.toList.map a1.eval)).foldl (fun tmps (p : Nat × Value) => tmps.setIfInBounds p.1 p.2) r.tmps = tm at hz1 hz2
 have hsb : St P (Bot.of 0) { n := r.tmps.size, t := Zzw t r.params.toList xs, h := s1.h, nx := s.nx + k } g1 { tmps := tm, defers := [] } w1 := ⟨hz1, hz2, hs1.mem, Dfs.start, trivial, Nat.zero_le _⟩
 refine roundIn_of_wpIn trivial (wpIn_mono (hbody (Bot.of 0) g1 _ w1 hsb (fun r hr => by have := hU1 r hr; show r < s.nx + k; omega)) ?_)
 rintro e a2 w2 ⟨s2, g2, hq, hs2, hm2, hU2, hx2⟩
 cases e with
 | normal =>
  have hm2' : Mono g1 g2 w1 w2 := hm2.out
  have hl2 := Zgf hs1.mem hm2' hl1 (fun c e f => by simp)
  have hI2 : ¬ g2.I l := fun hI => by
   rcases hm2'.inew l hI with e | e | ⟨r, c, s, e⟩
   ·
    exact hI1 e
   ·
    have := (Array.getElem?_eq_some_iff.1 hl1).1; omega
   ·
    exact Zie hs1.mem hl1 (fun c e f => by simp) (fun c e => by simp) r c s e
  refine ⟨_, run_beginRound hl2 rfl, ?_⟩
  have hlt2 : l < w2.heap.size := (Array.getElem?_eq_some_iff.1 hl2).1
  obtain ⟨he2, hbd⟩ := hq
  have hb2 : St P (Bot.of 0) s2 g2 a2 (w2.putObj l (.loop { recAt r none with state := .busy })) := by
   refine ⟨hs2.sz, fun i => (hs2.tm i).mono (fun b hb => ⟨hb, World.putObj_heap_other (fun e => hI2 (by rw [← e]; exact hb))⟩) (fun _ h => h) (fun _ _ => .inl rfl), hs2.mem.putLoop hl2 hI2 _, hs2.df.laterX hs2.mem (Zcr _) hl2, ?_, Nat.zero_le _⟩
   rw [he2]; trivial
  refine wpIn_mono (hbd (Bot.of 0) g2 a2 _ hb2 hU2) ?_
  rintro e a3 w3 ⟨s3, g3, ⟨_, b, j, hcase, s4, e4, ok4, hQ⟩, hs3, hm3, hU3, _⟩
  rw [he2] at hm3
  have hm3' := hm3.out
  have hl2' : (w2.putObj l (.loop { recAt r none with state := .busy })).heap[l]? = some (.loop { recAt r none with state := .busy }) := World.putObj_heap_same hlt2
  have hl3 := Zgf hb2.mem hm3' hl2' (fun c e f => by simp)
  have hI3 : ¬ g3.I l := fun hI => by
   rcases hm3'.inew l hI with e | e | ⟨r, c, s, e⟩
   ·
    exact hI2 e
   ·
    simp at e; omega
   ·
    exact Zie hb2.mem hl2' (fun c e f => by simp) (fun c e => by simp) r c s e
  have hlt3 : l < w3.heap.size := (Array.getElem?_eq_some_iff.1 hl3).1
  have fin : b = j.isNone → ∃ v w', (Instr.endRound l j).run P w3 = .ok v w' ∧ (fun e w'' => match e with
    | Ending.returned v => wpOpsIn (Fw none) 0 P ops (fun e a' w' => ∃ s' g', Q e s' ∧ St P B s' g' a' w' ∧ MonoX s.e.x g g' w w' ∧ (∀ r, g'.U r → r < s'.nx) ∧ s'.e.x = s.e.x) (List.range' (k + 1) (ops.size - (k + 1))) (a1.put o.dst v) w''
    | Ending.panicked chain => ∃ s' g', Q (.panic chain) s' ∧ St P B s' g' a1 w'' ∧ MonoX s.e.x g g' w w'' ∧ (∀ r, g'.U r → r < s'.nx) ∧ s'.e.x = s.e.x
    | Ending.outgrown => LetsOut (fun e a' w' => ∃ s' g', Q e s' ∧ St P B s' g' a' w' ∧ MonoX s.e.x g g' w w' ∧ (∀ r, g'.U r → r < s'.nx) ∧ s'.e.x = s.e.x)) (.returned v) w' := by
   rintro rfl
   refine ⟨_, _, run_endRound j hl3, ?_⟩
   have mX : MonoX (some l) g1 g3 w1 (w3.putObj l (.loop (recAt r j))) := hm2'.toX.trans ((Zcr _).trans (hm3'.toX.trans (Zcr _)))
   have kept := hs1.mem.keptX mX hI1
   have hbase : St P B { n := s1.n, t := s1.t, h := s3.h, nx := s3.nx + ops.size, ok := True, e := Env.loop l (recAt r j) t } g3 a1 (w3.putObj l (.loop (recAt r j))) :=
    ⟨hs1.sz, fun i => (hs1.tm i).mono kept mX.U mX.M, hs3.mem.putLoop hl3 hI3 _, hs1.df.laterX hs1.mem mX hl1, ⟨World.putObj_heap_same hlt3, hI3, fun i => (ht1 i).mono kept mX.U mX.M⟩, Nat.le_trans hs1.bd mX.size⟩
   have hput := Zui hbase (Mono.refl _ _) hbase.mem hd (.v (.bool j.isNone)) True
   have e3 : (ops.toList.drop (k + 1)).take (ops.size - (k + 1)) = ops.toList.drop (k + 1) := List.take_of_length_le (by simp)
   have := Zsb (ro := none) (P := P) (C := C) (B := B) (ops := ops) (b := s3.nx) (n := 0) (rest := []) (g0 := g3) (w0 := w3.putObj l (.loop (recAt r j))) (Q := fun e a' w' => ∃ s' g', Q e s' ∧ St P B s' g' a' w' ∧ MonoX s.e.x g g' w w' ∧ (∀ r, g'.U r → r < s'.nx) ∧ s'.e.x = s.e.x) (ops.size - (k + 1)) (k + 1) _ g3 _ _ hput (Mono.refl _ _) (fun r hr => by have := hU3 r hr; omega) (by omega)
    (by rw [e3]; exact e4 ▸ ok4) fun g'' a'' w'' p1 p2 p3 => by
     rw [e3] at p1
     have p1 : St P B s4 g'' a'' w'' := e4 ▸ p1
     have hx : s.e.x = some l := by rw [hse]; rfl
     refine ⟨_, g'', hQ, p1.clear, ?_, fun r' hr' => ?_, ?_⟩
     ·
      rw [hx]; exact hm1.toX.trans (mX.trans p2.toX)
     ·
      have h3 := p3 r' hr'
      have h4 := hnxx (ops.toList.drop (k + 1)) (k + 1) s3.nx { n := s1.n, t := s1.put o.dst (.v (.bool j.isNone)), h := s3.h, nx := s3.nx + ops.size, ok := True, e := Env.loop l (recAt r j) t }
      rw [e4] at h4
      show r' < s4.nx
      rw [h4]
      show r' < s3.nx + ops.size
      omega
     ·
      have h5 := hex (ops.toList.drop (k + 1)) (k + 1) s3.nx { n := s1.n, t := s1.put o.dst (.v (.bool j.isNone)), h := s3.h, nx := s3.nx + ops.size, ok := True, e := Env.loop l (recAt r j) t }
      rw [e4] at h5
      show s4.e.x = s.e.x
      rw [h5, hx]; rfl
   rw [List.append_nil] at this
   exact this
  cases e with
  | normal => obtain ⟨rfl, rfl⟩ := hcase; exact fin rfl
  | ret => obtain ⟨rfl, rfl⟩ := hcase; exact fin rfl
  | exit i => obtain ⟨rfl, rfl⟩ := hcase; exact fin rfl
  | _ => exact hcase.elim
 | _ => exact hq.elim
theorem HM.lay [Glob P] {h : H} {g : Mem} {w : World} (hm : HM P h g w) (o : Obj) : HM P h g (w.alloc o) ∧ Mono g g w (w.alloc o) := by
 have mono : Mono g g w (w.alloc o) :=
  ⟨rfl, rfl, rfl, by simp, Nat.le_refl _, fun _ h => h, fun _ _ => .inl rfl, fun r b c s h => .inl ⟨r, c, s, h⟩, fun _ h => h, fun b h => .inl h, fun b hb _ => Below.heap_alloc w o b hb⟩
 refine ⟨⟨hm.dead, fun r bl hr => ?_, hm.inj, hm.used, fun b hb => Nat.lt_of_lt_of_le (hm.imm b hb) (by simp), hm.gr.later (hm.kept mono)⟩, mono⟩
 obtain ⟨blk, c, h1, h2, h3, h4, h5⟩ := hm.blk r bl hr
 refine ⟨blk, c, h1, h2, h3, h4, ?_⟩
 rcases h5 with h5 | ⟨b, cur, rfl, h6, h7, h8, h9⟩
 ·
  exact .inl h5
 ·
  have hlt := (Zl4 hm h1).1
  refine .inr ⟨b, cur, rfl, by rw [Below.heap_alloc w o b hlt]; exact h6, h7, h8, fun i row hi => ⟨(h9 i row hi).1, fun j d hd => ?_⟩⟩
  obtain ⟨u, k3, k4, k5⟩ := (h9 i row hi).2 j d hd
  exact ⟨u, k3, k4, k5.later hm mono⟩
theorem Zho [Glob P] {s : S} {gf : Operand} {ps : Array Tmp} {assign body : Code} {f : FuncId} {fn : Func} {c : Code} {first caps : List D} (he : s.e = Env.tt) (hev : s.ev gf = .fn (.func f) first caps) (hf : P.funcs[f]? = some fn) (hb : fn.body = some c) (hbd : Zea P f = true)
  (hn : (first ++ [D.fn (.yield 0) [] []] ++ caps).length ≤ fn.ntmps) (hres : fn.results = #[])
  (walk : ∀ l r, r.params = ps → r.assign = assign → r.body = body → r.tmps.size = s.n → DW P none c (fun e s' => (e = .normal ∨ e = .ret) ∧ ∃ j, s'.e = Env.loop l (recAt r j) s.t ∧
    (match j with | none => Q .normal { n := s.n, t := s.t, h := s'.h, nx := s'.nx } | some .ret => Q .ret { n := s.n, t := s.t, h := s'.h, nx := s'.nx } | some (.exit i) => Q (.exit i) { n := s.n, t := s.t, h := s'.h, nx := s'.nx } | _ => False))
   { n := fn.ntmps, t := fun i => (first ++ [D.fn (.yield l) [] []] ++ caps).getD i .junk, h := s.h, nx := s.nx, e := Env.loop l (recAt r none) s.t }) : DW P none (.rangeFunc gf ps assign body) Q s := by
 intro B g a w hs hU
 refine wpIn_rangeFunc fun fn' _ => ?_
 let Dk := w.heap.size
 let l := w.heap.size + 1
 let r : Loop := { state := .ready, pending := none, fn := fn', tmps := a.tmps, params := ps, assign := assign, body := body, defers := w.heap.size }
 let w1 := (w.alloc (.deferred (some []))).alloc (.loop r)
 have hfr := Zgb hs gf
 rw [hev] at hfr
 generalize hv : a.eval gf = vf at hfr
 cases hfr with | fn _ _ _ fs cs l1 l2 r1 r2 =>
 obtain ⟨q1, q2⟩ := hs.mem.lay (.deferred (some []))
 obtain ⟨q3, q4⟩ := q1.lay (.loop r)
 have mono1 : Mono g g w w1 := q2.trans q4
 have hl1 : w1.heap[l]? = some (.loop r) := by
  have := World.alloc_heap_new (w.alloc (.deferred (some []))) (.loop r)
  simpa [l, w1] using this
 have hD1 : w1.heap[Dk]? = some (.deferred (some [])) := by
  have h1 := World.alloc_heap_new w (.deferred (some []))
  have h2 := Below.heap_alloc (w.alloc (.deferred (some []))) (.loop r) Dk (by simp [Dk])
  exact h2.trans h1
 have hsz1 : w1.heap.size = w.heap.size + 2 := by simp [w1]
 have hIl : ¬ g.I l := fun h => by have := hs.mem.imm l h; simp [l] at this; omega
 have hID : ¬ g.I Dk := fun h => by have := hs.mem.imm Dk h; simp [Dk] at this
 refine ⟨l, _, w1, ⟨.fn (.func f) cs, fs ++ #[.func (.yield l) #[] #[]]⟩, w1, f, fs ++ #[.func (.yield l) #[] #[]] ++ cs, w1, run_enterLoop_outer _ _ _ _ _, ?_, fun _ _ => trivial, ?_, fun h => by simp [Fw, Fence.wide] at h, ?_⟩
 ·
  have : a.eval (.const (Value.func (.yield l) #[] #[])) = Value.func (.yield l) #[] #[] := rfl
  simp [resolve, Deferred.ofValue, hv, this]
 ·
  simp [invoke, Zdd hbd]
 have hargs : Reps w1 g (first ++ [D.fn (.yield l) [] []] ++ caps) (fs.toList ++ [Value.func (.yield l) #[] #[]] ++ cs.toList) := by
  refine Reps.append (Reps.append ⟨by simpa using l1, fun i d x h1 h2 => (r1 i d x h1 (by simpa using h2)).later hs.mem mono1⟩ (.cons (x := Value.func (.yield l) #[] #[]) (.fn (.yield l) [] [] #[] #[] rfl rfl (fun _ _ _ h => by simp at h) (fun _ _ _ h => by simp at h)) .nil)) ⟨by simpa using l2, fun i d x h1 h2 => (r2 i d x h1 (by simpa using h2)).later hs.mem mono1⟩
 have e : fs ++ #[.func (.yield l) #[] #[]] ++ cs = (fs.toList ++ [Value.func (.yield l) #[] #[]] ++ cs.toList).toArray := by apply Array.ext'; simp
 rw [e]
 have hn' : (first ++ [D.fn (.yield l) [] []] ++ caps).length ≤ fn.ntmps := by simpa using hn
 have hinit := Zjr (P := P) (n := fn.ntmps) hargs hn' q3 (nx := s.nx)
 have hst : St P (Bot.of w1.heap.size) { n := fn.ntmps, t := fun i => (first ++ [D.fn (.yield l) [] []] ++ caps).getD i .junk, h := s.h, nx := s.nx, e := Env.loop l (recAt r none) s.t } g _ w1 :=
  ⟨hinit.sz, hinit.tm, hinit.mem, hinit.df, ⟨hl1, hIl, fun i => (hs.tm i).later hs.mem mono1⟩, hinit.bd⟩
 refine Zxh (callsIn_of_wp_marks (n := 0) hf hb trivial (wpIn_mono (F := Fence.wide) (walk l r rfl rfl rfl hs.sz (Bot.of w1.heap.size) g _ w1 hst hU) ?_))
 rintro e a' w' ⟨s', g', ⟨hne, j, hse, hq⟩, hs', hm', hU', _⟩
 have hm' : MonoX (some l) g g' w1 w' := hm'
 obtain ⟨hl', hIl', _⟩ : (Env.loop l (recAt r j) s.t).p g' w' := by rw [← hse]; exact hs'.en
 have hlast : LeavesInM Fence.wide 0 P fn a'.tmps (rangePost (Fw none) 0 P l (fun e a' w' => ∃ s' g', Q e s' ∧ St P B s' g' a' w' ∧ MonoX s.e.x g g' w w' ∧ (∀ r, g'.U r → r < s'.nx) ∧ s'.e.x = s.e.x) { a with defers := [{ target := .collected w.heap.size, args := #[] }] ++ a.defers }) a'.defers .returning w' := by
  refine Zij (P := P) a'.defers w' hs'.df.marks fun w2 e0 e1 e2 e3 e4 e5 e6 e7 => ?_
  refine ⟨.tuple #[], by simp [results, hres], ?_⟩
  have hll : l < w1.heap.size := by rw [hsz1]; simp [l]
  have hl2 : w2.heap[l]? = some (.loop (recAt r j)) := by rw [e5 l hll]; exact hl'
  have hl2lt : l < w2.heap.size := (Array.getElem?_eq_some_iff.1 hl2).1
  refine ⟨_, _, run_endLoop hl2 (by cases j <;> simp [recAt]), ?_⟩
  have same4 : ∀ b, b ≠ l → b < w1.heap.size → (w2.putObj l (.loop { recAt r j with state := .exhausted })).heap[b]? = w'.heap[b]? := fun b h1 h2 => by
   rw [World.putObj_heap_other h1, e5 b h2]
  have kept : ∀ b, g.I b → g'.I b ∧ (w2.putObj l (.loop { recAt r j with state := .exhausted })).heap[b]? = w.heap[b]? := fun b hb => by
   obtain ⟨k1, k2⟩ := q3.keptX hm' hIl b hb
   refine ⟨k1, ?_⟩
   rw [same4 b (fun e => hIl (e ▸ hb)) (q3.imm b hb), k2]
   exact (hs.mem.kept mono1 b hb).2
  have hIDk' : ¬ g'.I Dk := fun hI => by
   rcases hm'.inew Dk hI with e | e | ⟨r, c, s, e⟩
   ·
    exact hID e
   ·
    rw [hsz1] at e; simp [Dk] at e; omega
   ·
    exact Zie q3 hD1 (fun c e f => by simp) (fun c e => by simp) r c s e
  have marks : ∀ ds : List Deferred, Marks B.n g ds w → (∀ d ∈ ds, d.target ≠ .collected Dk) ∧ Marks B.n g' ds (w2.putObj l (.loop { recAt r j with state := .exhausted })) := by
   intro ds
   induction ds with
   | nil => intro _; exact ⟨fun _ h => by simp at h, trivial⟩
   | cons d ds ih =>
    rintro ⟨⟨Dd, h1, h2, h3, h4, h5⟩, h6⟩
    obtain ⟨i1, i2⟩ := ih h6
    have hlt : Dd < w.heap.size := (Array.getElem?_eq_some_iff.1 h2).1
    have hne : Dd ≠ l := by simp [l]; omega
    have h21 : w1.heap[Dd]? = some (.deferred (some [])) := Zgf hs.mem mono1 h2 (fun c e f => by simp)
    refine ⟨fun d' hd' => ?_, ⟨Dd, h1, ?_, h3, h4, fun hI => ?_⟩, i2⟩
    ·
     rcases List.mem_cons.1 hd' with rfl | h
     ·
      rw [h1]; intro e; cases e; simp [Dk] at hlt
     ·
      exact i1 d' h
    ·
     rw [same4 Dd hne (by rw [hsz1]; omega)]
     exact Zii q3 hm' h21 (fun c e f => by simp) (Ne.symm hne)
    ·
     rcases hm'.inew Dd hI with e | e | ⟨r, c, s, e⟩
     ·
      exact h5 e
     ·
      rw [hsz1] at e; omega
     ·
      exact Zie q3 h21 (fun c e f => by simp) (fun c e => by simp) r c s e
  obtain ⟨ms, hms, hmk⟩ := hs.df
  obtain ⟨mk1, mk2⟩ := marks ms hmk
  have fin : St P B { n := s.n, t := s.t, h := s'.h, nx := s'.nx } g' { a with defers := [{ target := .collected w.heap.size, args := #[] }] ++ a.defers } (w2.putObj l (.loop { recAt r j with state := .exhausted })) := by
   refine ⟨hs.sz, fun i => (hs.tm i).mono kept hm'.U hm'.M, (hs'.mem.marks e4 e6 e7).putLoop hl2 hIl' _, ⟨{ target := .collected w.heap.size, args := #[] } :: ms, by rw [hms]; rfl, ⟨Dk, rfl, ?_, mk1, hs.bd, hIDk'⟩, mk2⟩, trivial, ?_⟩
   ·
    rw [same4 Dk (by simp [Dk, l]) (by rw [hsz1]; simp [Dk])]
    exact Zii q3 hm' hD1 (fun c e f => by simp) (by simp [Dk, l])
   ·
    simp only [World.putObj_size]
    rw [e4]
    exact Nat.le_trans hs.bd (Nat.le_trans mono1.size hm'.size)
  have mono4 : MonoX s.e.x g g' w (w2.putObj l (.loop { recAt r j with state := .exhausted })) := by
   refine ⟨by show w2.os = _; rw [e1, hm'.os, mono1.os], by show w2.tape = _; rw [e2, hm'.tape, mono1.tape], by show w2.output = _; rw [e3, hm'.output, mono1.output], by simp only [World.putObj_size]; rw [e4]; exact Nat.le_trans mono1.size hm'.size, by show w.drawn ≤ w2.drawn; rw [e0]; exact Nat.le_trans mono1.drawn hm'.drawn, hm'.U, hm'.M, fun r b c s h => ?_, hm'.I, fun b h => ?_, fun b h1 h2 _ => ?_⟩
   ·
    rcases hm'.new r b c s h with h | h
    ·
     exact .inl h
    ·
     exact .inr (Nat.le_trans mono1.size h)
   ·
    rcases hm'.inew b h with h | h | h
    ·
     exact .inl h
    ·
     exact .inr (.inl (Nat.le_trans mono1.size h))
    ·
     exact .inr (.inr h)
   ·
    have hne : b ≠ l := by simp [l]; omega
    rw [same4 b hne (by rw [hsz1]; omega), hm'.same b (by rw [hsz1]; omega) h2 (fun e => hne (by cases e; rfl))]
    exact mono1.same b h1 h2
  have hx : ({ n := s.n, t := s.t, h := s'.h, nx := s'.nx } : S).e.x = s.e.x := by rw [he]
  match j, hq with
  | none, hq => exact ⟨_, g', hq, fin, mono4, hU', hx⟩
  | some .ret, hq => exact wpIn_ret ⟨_, g', hq, fin, mono4, hU', hx⟩
  | some (.exit i), hq => exact wpIn_exit ⟨_, g', hq, fin, mono4, hU', hx⟩
 rcases hne with rfl | rfl <;> exact hlast
end Go.DL
namespace Go.DL
variable {P : Program} {C : Con} {ro : Option Nat} {Q : Exit → S → Prop}
theorem Yeb [Glob P] {c : Code} {s : S} {α : Type} (keep : List Nat) (A : α → Prop) (μ : α → Nat) (tb : α → List (Nat × D)) (hh : α → H) (nxx : α → Nat) (a0 : α) {fx : List (Nat × D)} (hfx : keep.map (fun i => (i, s.t i)) = fx) (hA : A a0) (ht : ∀ p ∈ tb a0, Tb s.t p) (hq : ∀ r, hh a0 r = s.h r ∨ hh a0 r = none) (hn : s.nx ≤ nxx a0)
  (round : ∀ a, A a → DW P ro c (thenS (fun s' => ∃ a', A a' ∧ μ a' < μ a ∧ (∀ p ∈ tb a', Tb s'.t p) ∧ (∀ p ∈ fx, Tb s'.t p) ∧ (∀ r, hh a' r = s'.h r ∨ hh a' r = none) ∧ s'.nx ≤ nxx a' ∧ s'.n = s.n ∧ s'.e = s.e) Q) { n := s.n, t := tab (tb a ++ fx), h := hh a, nx := nxx a, e := s.e }) : DW P ro (.loop c) Q s :=
 Zrr A μ (fun a => tb a ++ fx) hh nxx a0 hA (fun p hp => (List.mem_append.1 hp).elim (ht p) (mem_fx hfx p)) hq hn fun a ha => (round a ha).mono fun e s' hq => by
  cases e with
  | normal =>
   obtain ⟨a', h1, h2, h3, h4, h5, h6, h7, h8⟩ := hq
   exact ⟨a', h1, h2, fun p hp => (List.mem_append.1 hp).elim (h3 p) (h4 p), h5, h6, h7, h8⟩
  | _ => exact hq
def Less (h' h : H) : Prop := ∀ q, h' q = h q ∨ h' q = none
theorem Ziy (h : H) : Less h h := fun _ => .inl rfl
theorem HM.recell2 [Glob P] {h h1 : H} {g g' : Mem} {w : World} (hm : HM P h g w) (hm1 : HM P h1 g' w) (mono : Mono g g' w w) {q : Nat} {ty : TypeId} {rows rows' : List (List D)} (hq : h q = some ⟨ty, rows⟩) (hq1 : h1 q = some ⟨ty, rows⟩) (hl : rows'.length = rows.length)
  (hc : ∀ (i : Nat) (row' : List D), rows'[i]? = some row' → ∃ row : List D, rows[i]? = some row ∧ row'.length = row.length ∧ ∀ (j : Nat) (d' : D), row'[j]? = some d' → ∃ d, row[j]? = some d ∧ ∀ v, Rep w g d v → Rep w g' d' v) : HM P (upd h1 q (some ⟨ty, rows'⟩)) g' w := by
 refine ⟨fun x hx => hm1.dead x ?_, fun x bl hx => ?_, hm1.inj, hm1.used, hm1.imm, hm1.gr⟩
 ·
  by_cases e : x = q
  ·
   subst e; rw [upd_same] at hx; cases hx
  ·
   rwa [upd_ne _ _ _ _ e] at hx
 ·
  by_cases e : x = q
  ·
   subst e
   rw [upd_same] at hx
   cases hx
   obtain ⟨blk, c, e1, e2, e3, e4, e5⟩ := hm1.blk x _ hq1
   obtain ⟨blk2, c2, f1, f2, f3, f4, f5⟩ := hm.blk x _ hq
   have eM : g'.M x = g.M x := by
    rcases mono.M x (hm.used x (by rw [f1]; simp)) with k | k
    ·
     exact k
    ·
     rw [k] at e1; cases e1
   rw [eM, f1] at e1
   cases e1
   refine ⟨blk, c, eM.trans f1, e2, by show rows'.length ≤ c; rw [hl]; exact e3, e4, ?_⟩
   rcases e5 with e5 | ⟨b, cur, rfl, h6, h7, h8, h9⟩
   ·
    exact .inl e5
   ·
    refine .inr ⟨b, cur, rfl, h6, h7, h8, fun i row' hi => ?_⟩
    rcases f5 with ⟨f5, _⟩ | ⟨b2, cur2, k5, k6, k7, k8, k9⟩
    ·
     cases f5
    ·
     cases k5
     have k6 := h6.uniq k6
     subst k6
     obtain ⟨row, r1, r2, r3⟩ := hc i row' hi
     have hk := k9 i row r1
     refine ⟨r2.trans hk.1, fun j d' hd => ?_⟩
     obtain ⟨d, d1, d2⟩ := r3 j d' hd
     obtain ⟨u, u3, u4, u5⟩ := hk.2 j d d1
     exact ⟨u, u3, u4, d2 u u5⟩
  ·
   rw [upd_ne _ _ _ _ e] at hx
   exact hm1.blk x bl hx
theorem one_cell {row : List D} {j0 : Nat} {d0 d1 : D} (hj : row[j0]? = some d0) {w : World} {g g' : Mem} (hd : ∀ v, Rep w g d0 v → Rep w g' d1 v) (ho : ∀ d v, Rep w g d v → Rep w g' d v) :
  ∀ (i : Nat) (row' : List D), [row.set j0 d1][i]? = some row' → ∃ rw0 : List D, [row][i]? = some rw0 ∧ row'.length = rw0.length ∧ ∀ (j : Nat) (d' : D), row'[j]? = some d' → ∃ d, rw0[j]? = some d ∧ ∀ v, Rep w g d v → Rep w g' d' v := by
 intro i row' hi
 cases i with
 | succ i => simp at hi
 | zero =>
  simp at hi
  subst hi
  refine ⟨row, rfl, by simp, fun j d' hd' => ?_⟩
  by_cases e : j = j0
  ·
   subst e
   rw [List.getElem?_set_self (by exact (List.getElem?_eq_some_iff.1 hj).1)] at hd'
   cases hd'
   exact ⟨d0, hj, hd⟩
  ·
   rw [List.getElem?_set_ne (Ne.symm e)] at hd'
   exact ⟨d', hd', ho d'⟩
theorem Ydb [Glob P] {c : Code} {s : S} (r j : Nat) (ty0 ty : TypeId) {row : List D} (hr : s.h r = some ⟨ty0, [row]⟩) (hj : row[j]? = some (.list true [])) (hty : 0 < P.cellsOf ty) (h : DW P ro c Q { n := s.n, t := s.t, h := upd (upd s.h s.nx (some ⟨ty, []⟩)) r (some ⟨ty0, [row.set j (.mrow s.nx 0 0)]⟩), nx := s.nx + 1, e := s.e }) : DW P ro c Q s := by
 intro B g a w hs hU
 have hnu : ¬ g.U s.nx := fun h => Nat.lt_irrefl _ (hU _ h)
 obtain ⟨g', q1, q2, q3, q4, q5⟩ := hs.mem.putNone (h' := upd s.h s.nx (some ⟨ty, []⟩)) s.nx ⟨ty, []⟩ hnu (upd_same _ _ _) (fun r hr => .inl (upd_ne _ _ _ _ hr)) hty rfl
 have hrn : r ≠ s.nx := by
  intro e
  subst e
  obtain ⟨blk, c, h1, _⟩ := hs.mem.blk _ _ hr
  exact hnu (hs.mem.used _ (by rw [h1]; simp))
 have hm := HM.recell2 (rows' := [row.set j (.mrow s.nx 0 0)]) hs.mem q4 q5 hr (by rw [upd_ne _ _ _ _ hrn]; exact hr) rfl (one_cell hj (fun v hv => by
  obtain ⟨x, rfl⟩ := Zo1 hv
  refine .mrow _ _ _ _ ⟨x, 0, rfl, Nat.le_refl _, fun h => absurd h (by omega)⟩ ((q2 _).2 (.inr rfl)) fun blk c sz he => ?_
  rw [q1] at he
  cases he
  exact ⟨⟨Nat.le_refl _, Nat.zero_le _⟩, .inl ⟨rfl, x, rfl⟩⟩) fun d v hv => hv.later hs.mem q5)
 have hst : St P B { n := s.n, t := s.t, h := upd (upd s.h s.nx (some ⟨ty, []⟩)) r (some ⟨ty0, [row.set j (.mrow s.nx 0 0)]⟩), nx := s.nx + 1, e := s.e } g' a w :=
  ⟨hs.sz, fun j => (hs.tm j).later hs.mem q5, hm, hs.df.later hs.mem q5, Env.later hs.mem q5 hs.en, hs.bd⟩
 exact wpIn_mono (h B g' a w hst (fun r hr => by
  rcases (q2 r).1 hr with h | h
  ·
   exact Nat.lt_succ_of_lt (hU r h)
  ·
   subst h; exact Nat.lt_succ_self _)) fun e a' w' ⟨s', g'', q, r, m, u, v⟩ => ⟨s', g'', q, r, q5.toX.trans m, u, v⟩
def Zph (g : Mem) (r : Nat) : Mem := { M := fun x => if x = r then none else g.M x, U := g.U, I := fun b => g.I b ∨ ∃ c s, g.M r = some (some b, c, s) }
theorem Zuv {g : Mem} {r x : Nat} {y} (e : (Zph g r).M x = some y) : x ≠ r ∧ g.M x = some y := by
 have e : (if x = r then none else g.M x) = some y := e
 split at e
 ·
  cases e
 ·
  exact ⟨‹_›, e⟩
theorem Zlp (g : Mem) (r : Nat) (w : World) : Mono g (Zph g r) w w := by
 refine ⟨rfl, rfl, rfl, Nat.le_refl _, Nat.le_refl _, fun _ h => h, fun x _ => ?_, fun x b c s e => .inl ⟨x, c, s, (Zuv e).2⟩, fun _ h => .inl h, fun b hb => ?_, fun _ _ _ => rfl⟩
 ·
  show (if x = r then none else g.M x) = g.M x ∨ (if x = r then none else g.M x) = none
  split
  ·
   exact .inr rfl
  ·
   exact .inl rfl
 ·
  rcases hb with hb | ⟨c, s, hb⟩
  ·
   exact .inl hb
  ·
   exact .inr (.inr ⟨r, c, s, hb⟩)
theorem Yqa [Glob P] {h : H} {g : Mem} {w : World} (hm : HM P h g w) (r : Nat) : HM P (upd h r none) (Zph g r) w := by
 have mono := Zlp g r w
 refine ⟨fun x hx => ?_, fun x bl hx => ?_, fun x x' b c c' s s' q1 q2 => hm.inj _ _ _ _ _ _ _ (Zuv q1).2 (Zuv q2).2, fun x hx => ?_, fun b hb => ?_, hm.gr.later (hm.kept mono)⟩
 ·
  show (if x = r then none else g.M x) = none
  split
  ·
   rfl
  ·
   rename_i e; rw [upd_ne _ _ _ _ e] at hx; exact hm.dead x hx
 ·
  by_cases e : x = r
  ·
   subst e; rw [upd_same] at hx; cases hx
  rw [upd_ne _ _ _ _ e] at hx
  obtain ⟨blk, c, h1, h2, h3, h4, h5⟩ := hm.blk x bl hx
  refine ⟨blk, c, by show (if x = r then none else g.M x) = _; rw [if_neg e]; exact h1, h2, h3, h4, ?_⟩
  rcases h5 with h5 | ⟨b, cur, rfl, h6, h7, h8, h9⟩
  ·
   exact .inl h5
  ·
   refine .inr ⟨b, cur, rfl, h6, h7, fun hI => ?_, fun i row hi => ⟨(h9 i row hi).1, fun j d hd => ?_⟩⟩
   ·
    rcases hI with hI | ⟨c', s', hI⟩
    ·
     exact h8 hI
    ·
     exact e (hm.inj _ _ _ _ _ _ _ h1 hI)
   ·
    obtain ⟨u, k3, k4, k5⟩ := (h9 i row hi).2 j d hd
    exact ⟨u, k3, k4, k5.later hm mono⟩
 ·
  cases e : (Zph g r).M x with
  | none => exact absurd e hx
  | some y => exact hm.used x (by rw [(Zuv e).2]; simp)
 ·
  rcases hb with hb | ⟨c, s, hb⟩
  ·
   exact hm.imm b hb
  ·
   exact (Zl4 hm hb).1
theorem nrr_sub : ∀ {rows rows' : List (List D)}, nrr rows = true → (∀ r ∈ rows', r ∈ rows) → nrr rows' = true := by
 intro rows rows' h hs
 exact Zh9 fun r hr => Zxq h (hs r hr)
theorem Ypa [Glob P] {h : H} {g : Mem} {w : World} (hm : HM P h g w) {r : Nat} {ty : TypeId} {rows : List (List D)} (hr : h r = some ⟨ty, rows⟩) (hn : nrr rows = true) {off k : Nat} (hk : off + k ≤ rows.length) {v : Value} (hv : Rep w g (.mrow r off k) v) : Rep w (Zph g r) (.list false ((rows.drop off).take k)) v := by
 let h1 : H := fun x => if x = r then h r else none
 have hsub : ∀ x, h1 x = h x ∨ h1 x = none := fun x => by
  by_cases e : x = r
  ·
   subst e; exact .inl (if_pos rfl)
  ·
   exact .inr (if_neg e)
 have hm1 := hm.only hsub
 have e1 : h1 r = some ⟨ty, rows⟩ := by show (if r = r then h r else none) = _; rw [if_pos rfl]; exact hr
 have e2 : rowsOf (.mrow r off k) h1 = (rows.drop off).take k := by simp only [rowsOf, e1]
 have := Zek hm1 (Zqd hv.only) ⟨by rw [e1]; rfl, by rw [e2]; simp; omega⟩
 rw [e2] at this
 refine this.clean (nrr_sub hn fun x hx => List.mem_of_mem_drop (List.mem_of_mem_take hx)) fun b hb => ?_
 rcases hb with hb | ⟨x, c, sz, hb⟩
 ·
  exact .inl hb
 ·
  have hb2 : (if (h1 x).isSome then g.M x else none) = some (some b, c, sz) := hb
  split at hb2
  ·
   rename_i hx
   have : x = r := by
    refine Classical.byContradiction fun e => ?_
    have : h1 x = none := if_neg e
    rw [this] at hx; cases hx
   subst this
   exact .inr ⟨c, sz, hb2⟩
  ·
   cases hb2
theorem Znn [Glob P] {c : Code} {s : S} (q j r : Nat) {ty ty0 : TypeId} {rows : List (List D)} {row : List D} {off len : Nat} (hq : s.h q = some ⟨ty0, [row]⟩) (hj : row[j]? = some (.mrow r off len)) (hr : s.h r = some ⟨ty, rows⟩) (hqr : q ≠ r) (hl : off + len ≤ rows.length) (hn : nrr rows = true)
  (h : DW P ro c Q { n := s.n, t := s.t, h := upd (upd s.h r none) q (some ⟨ty0, [row.set j (.list false ((rows.drop off).take len))]⟩), nx := s.nx, e := s.e }) : DW P ro c Q s := by
 intro B g a w hs hU
 have mono := Zlp g r w
 have hm := HM.recell2 (rows' := [row.set j (.list false ((rows.drop off).take len))]) hs.mem (Yqa hs.mem r) mono hq (by rw [upd_ne _ _ _ _ hqr]; exact hq) rfl (one_cell hj (fun v hv => Ypa hs.mem hr hn hl hv) fun d v hv => hv.later hs.mem mono)
 have hst : St P B { n := s.n, t := s.t, h := upd (upd s.h r none) q (some ⟨ty0, [row.set j (.list false ((rows.drop off).take len))]⟩), nx := s.nx, e := s.e } (Zph g r) a w :=
  ⟨hs.sz, fun j => (hs.tm j).later hs.mem mono, hm, hs.df.later hs.mem mono, Env.later hs.mem mono hs.en, hs.bd⟩
 exact wpIn_mono (h B (Zph g r) a w hst hU) fun e a' w' ⟨s', g'', q, r, m, u, v⟩ => ⟨s', g'', q, r, mono.toX.trans m, u, v⟩
theorem frz_map [Glob P] {h : H} {g : Mem} {w : World} (hm : HM P h g w) {r : Nat} {bl : Blk} (hr : h r = some bl) {kv : List D} (hk : kvB bl = some kv) (hn : nrs kv = true) {v : Value} (hv : Rep w g (.mp r) v) : Rep w (Zph g r) (.fmap kv) v := by
 obtain ⟨b, es, clk, rfl, h1, h2, h3, _⟩ := Znv hm hv hr hk
 exact .fmap kv b es clk (.inr ⟨_, _, h3⟩) h1 h2.1 fun k d x e1 e2 => (h2.2 k d x e1 e2).clean (Zxe hn (List.mem_of_getElem? e1)) fun b hb => .inl hb
theorem Ziu [Glob P] {c : Code} {s : S} (i r : Nat) {d d' : D} (hi : s.t i = d) (hd : ∀ (g : Mem) (w : World) (v : Value), HM P s.h g w → Rep w g d v → Rep w (Zph g r) d' v) (h : DW P ro c Q { n := s.n, t := upd s.t i d', h := upd s.h r none, nx := s.nx, e := s.e }) : DW P ro c Q s := by
 intro B g a w hs hU
 have mono := Zlp g r w
 have hst : St P B { n := s.n, t := upd s.t i d', h := upd s.h r none, nx := s.nx, e := s.e } (Zph g r) a w := by
  refine ⟨hs.sz, fun j => ?_, Yqa hs.mem r, hs.df.later hs.mem mono, Env.later hs.mem mono hs.en, hs.bd⟩
  by_cases e : j = i
  ·
   subst e
   simp only [upd_same]
   have hj := hs.tm j
   rw [hi] at hj
   exact hd g w _ hs.mem hj
  ·
   simp only [upd_ne _ _ _ _ e]
   exact (hs.tm j).later hs.mem mono
 exact wpIn_mono (h B (Zph g r) a w hst hU) fun e a' w' ⟨s', g'', q, r, m, u, v⟩ => ⟨s', g'', q, r, mono.toX.trans m, u, v⟩
theorem Zn6 [Glob P] {c : Code} {s : S} (i r : Nat) {bl : Blk} {kv : List D} (hi : s.t i = .mp r) (hr : s.h r = some bl) (hk : kvB bl = some kv) (hn : nrs kv = true) (h : DW P ro c Q { n := s.n, t := upd s.t i (.fmap kv), h := upd s.h r none, nx := s.nx, e := s.e }) : DW P ro c Q s :=
 Ziu i r hi (fun _ _ _ hm hv => frz_map hm hr hk hn hv) h
theorem frz_ptr [Glob P] {h : H} {g : Mem} {w : World} (hm : HM P h g w) {r : Nat} {ty : TypeId} {row : List D} (hr : h r = some ⟨ty, [row]⟩) (hn : nrs row = true) {v : Value} (hv : Rep w g (.mptr r 0 0) v) : Rep w (Zph g r) (.eptr row) v := by
 let h1 : H := fun x => if x = r then h r else none
 have hsub : ∀ x, h1 x = h x ∨ h1 x = none := fun x => by
  by_cases e : x = r
  ·
   subst e; exact .inl (if_pos rfl)
  ·
   exact .inr (if_neg e)
 have hm1 := hm.only hsub
 have e1 : h1 r = some ⟨ty, [row]⟩ := by show (if r = r then h r else none) = _; rw [if_pos rfl]; exact hr
 have e2 : Zbb (.mptr r 0 0) h1 = row := by simp only [Zbb, e1]; rfl
 have h0 : ∀ d : D, d.nr = true → Zuh h1 d = d ∧ Zyd h1 d := by
  intro d hd
  cases d <;> first | exact ⟨rfl, trivial⟩ | (simp [D.nr] at hd; done)
 have := Zur hm1 (Zqd hv.only) ⟨by rw [e1]; rfl, by rw [e2]; exact fun c hc => (h0 c (Zxe hn hc)).2⟩
 rw [e2] at this
 have e3 : row.map (Zuh h1) = row := by
  conv => rhs; rw [← List.map_id row]
  exact List.map_congr_left fun c hc => (h0 c (Zxe hn hc)).1
 rw [e3] at this
 refine this.clean hn fun b hb => ?_
 rcases hb with hb | ⟨x, c, sz, hb⟩
 ·
  exact .inl hb
 ·
  have hb2 : (if (h1 x).isSome then g.M x else none) = some (some b, c, sz) := hb
  split at hb2
  ·
   rename_i hx
   have : x = r := by
    refine Classical.byContradiction fun e => ?_
    have : h1 x = none := if_neg e
    rw [this] at hx; cases hx
   subst this
   exact .inr ⟨c, sz, hb2⟩
  ·
   cases hb2
theorem Zth [Glob P] {c : Code} {s : S} (i r : Nat) {ty : TypeId} {row : List D} (hi : s.t i = .mptr r 0 0) (hr : s.h r = some ⟨ty, [row]⟩) (hn : nrs row = true) (h : DW P ro c Q { n := s.n, t := upd s.t i (.eptr row), h := upd s.h r none, nx := s.nx, e := s.e }) : DW P ro c Q s :=
 Ziu i r hi (fun _ _ _ hm hv => frz_ptr hm hr hn hv) h
def Zfd (P : Program) [Glob P] (ro : Option Nat) (ops : Array Oper) (i b : Nat) (s : S) (Q : Exit → S → Prop) : Prop :=
 ∀ (B : Bot) (g0 g : Mem) (a : Act) (w0 w : World), St P B s g a w → Mono g0 g w0 w → (∀ r, g.U r → r < b + i) →
  wpOpsIn (Fw ro) 0 P ops (fun e a' w' => ∃ s' g', Q e s' ∧ St P B s' g' a' w' ∧ MonoX s.e.x g0 g' w0 w' ∧ (∀ r, g'.U r → r < s'.nx) ∧ s'.e.x = s.e.x) (List.range' i (ops.size - i)) a w
theorem Zfo [Glob P] {s : S} {id : Nat} {ops : Array Oper} (h : Zfd P ro ops 0 s.nx { n := s.n, t := s.t, h := s.h, nx := s.nx + ops.size, ok := True, e := s.e } Q) : DW P ro (.region id ops false) Q s := by
 intro B g a w hs hU
 refine wpIn_region ?_
 rw [List.range_eq_range']
 exact h B g g a w w ⟨hs.sz, hs.tm, hs.mem, hs.df, hs.en, hs.bd⟩ (Mono.refl _ _) (fun r hr => by have := hU r hr; omega)
theorem Zpr [Glob P] (L : List Oper) (b : Nat) : ∀ (l : List Oper) (i : Nat) (u : S), (Zga P (words P) C L b i l u).nx = u.nx := by
 intro l
 induction l with
 | nil => intro i u; rfl
 | cons x l ih => intro i u; simp only [Zga]; rw [ih, exec1_n.2]
theorem Zze [Glob P] (L : List Oper) (b : Nat) : ∀ (l : List Oper) (i : Nat) (u : S), (Zga P (words P) C L b i l u).e = u.e := by
 intro l
 induction l with
 | nil => intro i u; rfl
 | cons x l ih =>
  intro i u
  simp only [Zga]
  rw [ih]
  unfold Zva
  split <;> rfl
theorem Zei [Glob P] {s s2 : S} {ops : Array Oper} {i b : Nat} (hi : i ≤ ops.size) (he : Zga P (words P) C ops.toList b i (ops.toList.drop i) s = s2) (hok : s2.ok) (hn : s.nx = b + ops.size) (hq : Q .normal s2.clear) : Zfd P ro ops i b s Q := by
 intro B g0 g a w0 w hs hm hU
 have e3 : (ops.toList.drop i).take (ops.size - i) = ops.toList.drop i := List.take_of_length_le (by simp)
 have := Zsb (ro := ro) (P := P) (C := C) (B := B) (ops := ops) (b := b) (n := 0) (rest := []) (g0 := g0) (w0 := w0) (Q := fun e a' w' => ∃ s' g', Q e s' ∧ St P B s' g' a' w' ∧ MonoX s.e.x g0 g' w0 w' ∧ (∀ r, g'.U r → r < s'.nx) ∧ s'.e.x = s.e.x) (ops.size - i) i s g a w hs hm hU (by omega)
  (by rw [e3, he]; exact hok) fun g'' a'' w'' p1 p2 p3 => by
   rw [e3, he] at p1
   refine ⟨_, g'', hq, p1.clear, p2.toX, fun r hr => ?_, ?_⟩
   ·
    have h3 := p3 r hr
    have h4 := Zpr (P := P) (C := C) ops.toList b (ops.toList.drop i) i s
    rw [he] at h4
    show r < s2.nx
    rw [h4, hn]
    omega
   ·
    have h5 := Zze (P := P) (C := C) ops.toList b (ops.toList.drop i) i s
    rw [he] at h5
    show s2.e.x = s.e.x
    rw [h5]
 rw [List.append_nil] at this
 exact this
theorem Zvd [Glob P] {s s1 : S} {ops : Array Oper} {i b : Nat} (k : Nat) {o : Oper} (A : D → H → Prop) (hik : i ≤ k) (ho : ops[k]? = some o) (hg : o.guard = none) (hdef : ∀ c, o.op ≠ .defer c)
  (he : Zga P (words P) C ops.toList b i ((ops.toList.drop i).take (k - i)) s = s1) (hok : s1.ok) (hd : Ztb s1.n o.dst = true)
  (hdo : ∀ (B : Bot) (g : Mem) (a : Act) (w : World), St P B s1 g a w → ¬ g.U (b + k) → ∃ d h', A d h' ∧ Does P g w (b + k) ((execOp a.eval o).run P w) d h')
  (hk : ∀ d h', A d h' → Zfd P ro ops (k + 1) b { n := s1.n, t := s1.put o.dst d, h := h', nx := s1.nx, ok := True, e := s1.e } Q) : Zfd P ro ops i b s Q := by
 intro B g0 g a w0 w hs hm hU
 have hlt : k < ops.size := (Array.getElem?_eq_some_iff.1 ho).1
 have hr : List.range' i (ops.size - i) = List.range' i (k - i) ++ (k :: List.range' (k + 1) (ops.size - (k + 1))) := by
  have : ops.size - i = (k - i) + ((ops.size - (k + 1)) + 1) := by omega
  rw [this, ← List.range'_append_1, List.range'_succ]
  have e1 : i + (k - i) = k := by omega
  rw [e1]
 rw [hr]
 refine Zsb (C := C) (b := b) (k - i) i s g a w hs hm hU (by omega) (by rw [he]; exact hok) fun g1 a1 w1 hs1 hm1 hU1 => ?_
 rw [he] at hs1
 have hU1 : ∀ r, g1.U r → r < b + k := fun r hr => by have := hU1 r hr; omega
 have hse : s1.e = s.e := by rw [← he]; exact Zze _ _ _ _ _
 rw [wpOpsIn_cons]
 unfold wpOpIn
 rw [ho]
 simp only
 have hw : Region.wanted o (yielded ops a1.tmps) = true := by simp [Region.wanted, hg]
 rw [if_pos hw]
 have hsem : o.semAt (Fw ro).round a1.eval = execOp a1.eval o := Oper.semAt_eq _ _ _ hdef
 refine ⟨fun _ _ => trivial, ?_⟩
 rw [hsem]
 obtain ⟨d, h', hA, v, g', w', hrun, q1, q2, q3, q4⟩ := hdo B g1 a1 w1 hs1 (fun h => Nat.lt_irrefl _ (hU1 _ h))
 have hend : ∀ (v : Value) (g' : Mem) (w' : World), Rep w' g' d v → HM P h' g' w' → Mono g1 g' w1 w' → (∀ r, g'.U r → g1.U r ∨ r = b + k) → wpOpsIn (Fw ro) 0 P ops (fun e a' w' => ∃ s' g', Q e s' ∧ St P B s' g' a' w' ∧ MonoX s.e.x g0 g' w0 w' ∧ (∀ r, g'.U r → r < s'.nx) ∧ s'.e.x = s.e.x) (List.range' (k + 1) (ops.size - (k + 1))) (a1.put o.dst v) w' := by
  intro v g' w' q1 q2 q3 q4
  have hs2 := Zui hs1 q3 q2 hd q1 True
  have := hk d h' hA B g0 g' (a1.put o.dst v) w0 w' ⟨hs2.sz, hs2.tm, hs2.mem, hs2.df, hs2.en, hs2.bd⟩ (hm1.trans q3) (fun r hr => by
   rcases q4 r hr with h | h
   ·
    have := hU1 r h; omega
   ·
    omega)
  rw [hse] at this
  exact this
 rcases hrun with hrun | ⟨hrun, rfl⟩
 ·
  rw [hrun, Oper.uponIn_value]; exact hend v g' w' q1 q2 q3 q4
 ·
  rw [hrun, Oper.uponIn_skip]; exact hend undef g' w' q1 q2 q3 q4
theorem Zdq [Glob P] {s s1 : S} {ops : Array Oper} {i b : Nat} (k : Nat) {o : Oper} {t e t' : TypeId} {x : Operand} {f : Bool} {rows : List (List D)} (hik : i ≤ k) (ho : ops[k]? = some o) (hg : o.guard = none)
  (hop : o.op = .binOp .eql t x (.const (.slice none 0 0)) t') (ht : P.underlying t = some (.slice e))
  (he : Zga P (words P) C ops.toList b i ((ops.toList.drop i).take (k - i)) s = s1) (hok : s1.ok) (hd : Ztb s1.n o.dst = true) (hx : s1.ev x = .list f rows)
  (hk : ∀ y : Bool, (y = true → rows = []) → Zfd P ro ops (k + 1) b { n := s1.n, t := s1.put o.dst (.b y), h := s1.h, nx := s1.nx, ok := True, e := s1.e } Q) : Zfd P ro ops i b s Q := by
 refine Zvd (C := C) k (fun d h' => ∃ y : Bool, d = .b y ∧ h' = s1.h ∧ (y = true → rows = [])) hik ho hg (fun c e => by rw [hop] at e; cases e) he hok hd (fun B g a w hs _ => ?_) (fun d h' ⟨y, hy, hh, hr⟩ => by subst hy; subst hh; exact hk y hr)
 have hr := Zgb hs x
 rw [hx] at hr
 have key : ∃ (ad : Option Addr) (n c : Nat), a.eval x = .slice ad n c ∧ (ad = none → rows = []) := by
  generalize a.eval x = v at hr
  cases hr with
  | empty _ ad cap hf hm => exact ⟨ad, 0, cap, rfl, fun _ => rfl⟩
  | list _ _ ad cap size cv hI hl hf => exact ⟨some ad, _, cap, rfl, fun h => by cases h⟩
 obtain ⟨ad, n, c, hv, hn⟩ := key
 refine ⟨.b ad.isNone, s1.h, ⟨ad.isNone, rfl, rfl, fun h => hn (Option.isNone_iff_eq_none.1 h)⟩, .bool ad.isNone, g, w, .inl ?_, .v _, hs.mem, Mono.refl _ _, fun r hr => .inl hr⟩
 have hrun := Go.Lib.run_eql_slice_nil (P := P) w t e ad n c 0 0 ht
 have hc : a.eval (.const (.slice none 0 0)) = .slice none 0 0 := rfl
 simp [execOp, hop, hv, hc, eqGuard, hrun]
end Go.DL
namespace Go.DL
variable {P : Program} {ro : Option Nat} {Q : Exit → S → Prop}
attribute [go_sem] List.take_length bne_self_eq_false
@[go_sem] theorem self_ne {n k : Nat} (h : 0 < k) : (n = n + k) = False := eq_false (by omega)
@[go_sem] theorem ne_self {n k : Nat} (h : 0 < k) : (n + k = n) = False := eq_false (by omega)
theorem ok0 {p : Prop} (h : p := by first | done | (repeat' (with_reducible apply And.intro)) <;> first | omega | (with_reducible assumption) | (intros; omega) | (intros; simp only [decide_eq_true_eq, decide_eq_false_iff_not, Bool.or_eq_true, Bool.and_eq_true, Bool.or_eq_false_iff, Bool.not_eq_true', Bool.not_eq_false'] at *; omega) | (simp_all; done) | (simp_all; omega)) : p := h
theorem ev {α : Sort _} {a b : α} (h : a = b := by first | (simp only [go_sem, ff]; exact rfl) | (simp only [go_sem, ff]; done) | exact rfl) : a = b := h
theorem iv {p : Prop} (h : p := by first | omega | (with_reducible assumption) | rfl | (simp_all; done) | (simp_all; omega) | (dsimp only; first | omega | (with_reducible assumption) | rfl | (simp_all; done) | (simp_all; omega))) : p := h
section
variable [Glob P] (C : Con) {s : S} {n nx : Nat} {t : Nat → D} {h : H} {ok : Prop} {e : Env} {id : Nat} {ops : Array Oper} {draw : Bool} {x y c : Code}
theorem stp (hq : DW P ro y Q ⟨n, t, h, nx, True, e⟩) (he : exec P (words P) C ops.toList s = ⟨n, t, h, nx, ok, e⟩ := by simp only [go_sem, ff]; exact rfl) (hd : draw = true → P.follows .mixedOrders = true ∧ Zlo C ops.toList = true ∧ Zte ops.toList = true := by intro hdr; first | (cases hdr; done) | exact ⟨mix, by kernel_rfl, by kernel_rfl⟩)
  (hok : ok := by (try simp only [go_sem, ff]); all_goals exact ok0) : DW P ro (.seq (.region id ops draw) y) Q s := dw_step he hd hok hq
theorem rgn (hq : Q .normal ⟨n, t, h, nx, True, e⟩) (he : exec P (words P) C ops.toList s = ⟨n, t, h, nx, ok, e⟩ := by simp only [go_sem, ff]; exact rfl) (hd : draw = true → P.follows .mixedOrders = true ∧ Zlo C ops.toList = true ∧ Zte ops.toList = true := by intro hdr; first | (cases hdr; done) | exact ⟨mix, by kernel_rfl, by kernel_rfl⟩)
  (hok : ok := by (try simp only [go_sem, ff]); all_goals exact ok0) : DW P ro (.region id ops draw) Q s := dw_reg he hd hok hq
end
section
variable [Glob P] {s : S} {x y c : Code}
theorem cd {o : Operand} {b : Bool} {p q : Prop} (ht : p → DW P ro x Q s) (hf : q → DW P ro y Q s) (hc : s.ev o = .v (.bool b) := by first | (simp only [go_sem, ff]; exact rfl) | exact rfl)
  (hp : (b = true) = p := by first | (simp only [decide_eq_true_eq, decide_eq_false_iff_not, Bool.or_eq_true, Bool.and_eq_true, Bool.or_eq_false_iff, Bool.not_eq_true', Bool.not_eq_false', Bool.and_eq_false_iff, beq_iff_eq, beq_eq_false_iff_ne, bne_iff_ne, bne_eq_false_iff_eq, ne_eq]; exact rfl) | exact rfl)
  (hq : (b = false) = q := by first | (simp only [decide_eq_true_eq, decide_eq_false_iff_not, Bool.or_eq_true, Bool.and_eq_true, Bool.or_eq_false_iff, Bool.not_eq_true', Bool.not_eq_false', Bool.and_eq_false_iff, beq_iff_eq, beq_eq_false_iff_ne, bne_iff_ne, bne_eq_false_iff_eq, ne_eq]; exact rfl) | exact rfl) : DW P ro (.cond o x y) Q s :=
 dw_cond hc (fun h => ht (Eq.mp hp h)) (fun h => hf (Eq.mp hq h))
variable {α : Type} {fx : List (Nat × D)}
theorem lp (keep : List Nat) (A : α → Prop) (μ : α → Nat) (tb : α → List (Nat × D)) (hb : α → List (Nat × Blk)) (nxx : α → Nat) (a0 : α) (hn : s.nx ≤ nxx a0 := by first | exact Nat.le_refl _ | omega) (hA : A a0)
  (round : ∀ a, A a → DW P ro c (thenS (fun s' => ∃ a', A a' ∧ μ a' < μ a ∧ (∀ p ∈ tb a', Tb s'.t p) ∧ (∀ p ∈ fx, Tb s'.t p) ∧ (∀ p ∈ hb a', s'.h p.1 = some p.2) ∧ s'.nx ≤ nxx a' ∧ s'.n = s.n ∧ s'.e = s.e) Q) { n := s.n, t := tab (tb a ++ fx), h := htab (hb a), nx := nxx a, e := s.e })
  (hfx : keep.map (fun i => (i, s.t i)) = fx := by simp only [List.map_cons, List.map_nil, go_sem, ff]; exact rfl)
  (ht : ∀ p ∈ tb a0, Tb s.t p := by first | (simp only [go_sem, ff]; done) | (simp [go_sem, ff]; done) | (simp only [go_sem, ff]; (repeat' (with_reducible apply And.intro)) <;> first | (left; simp; done) | (right; simp [go_sem]; done)))
  (hh : ∀ p ∈ hb a0, s.h p.1 = some p.2 := by first | (simp only [go_sem, ff]; done) | simp [go_sem, ff]) : DW P ro (.loop c) Q s := Zp1 keep A μ tb hb nxx a0 hfx hA ht hh hn round
theorem lph (keep : List Nat) (A : α → Prop) (μ : α → Nat) (tb : α → List (Nat × D)) (hh : α → H) (nxx : α → Nat) (a0 : α) (hn : s.nx ≤ nxx a0 := by first | exact Nat.le_refl _ | omega) (hA : A a0)
  (round : ∀ a, A a → DW P ro c (thenS (fun s' => ∃ a', A a' ∧ μ a' < μ a ∧ (∀ p ∈ tb a', Tb s'.t p) ∧ (∀ p ∈ fx, Tb s'.t p) ∧ (∀ r, hh a' r = s'.h r ∨ hh a' r = none) ∧ s'.nx ≤ nxx a' ∧ s'.n = s.n ∧ s'.e = s.e) Q) { n := s.n, t := tab (tb a ++ fx), h := hh a, nx := nxx a, e := s.e })
  (hfx : keep.map (fun i => (i, s.t i)) = fx := by simp only [List.map_cons, List.map_nil, go_sem, ff]; exact rfl)
  (ht : ∀ p ∈ tb a0, Tb s.t p := by first | (simp only [go_sem, ff]; done) | (simp [go_sem, ff]; done) | (simp only [go_sem, ff]; (repeat' (with_reducible apply And.intro)) <;> first | (left; simp; done) | (right; simp [go_sem]; done)))
  (hhh : ∀ r, hh a0 r = s.h r ∨ hh a0 r = none := by exact Ziy _) : DW P ro (.loop c) Q s := Yeb keep A μ tb hh nxx a0 hfx hA ht hhh hn round
end
theorem rnd {α : Type} {A M T F B N E1 E2 : α → Prop} (w : α) (h6 : N w := by first | exact Nat.le_refl _ | omega) (h1 : A w) (h2 : M w := by show (_ : Nat) < _; first | omega | simp_all; omega)
  (h3 : T w := by (try simp only [go_sem, ff]); all_goals (first | done | (simp; done) | (simp; omega) | ((repeat' (with_reducible apply And.intro)) <;> first | (left; simp; done) | (right; simp [go_sem]; done))))
  (h4 : F w := by (try simp only [go_sem, ff]); all_goals (first | done | (simp; done) | (simp; omega) | ((repeat' (with_reducible apply And.intro)) <;> first | (left; simp; done) | (right; simp [go_sem]; done))))
  (h5 : B w := by first | exact Ziy _ | ((try simp only [go_sem, ff]); all_goals (first | done | (simp; done) | (simp; omega) | ((repeat' (with_reducible apply And.intro)) <;> first | (left; simp; done) | (right; simp [go_sem]; done)))))
  (h7 : E1 w := by exact rfl) (h8 : E2 w := by exact rfl) : ∃ a, A a ∧ M a ∧ T a ∧ F a ∧ B a ∧ N a ∧ E1 a ∧ E2 a := ⟨w, h1, h2, h3, h4, h5, h6, h7, h8⟩
theorem fin {A B : Prop} {Ks Rs : Nat → Prop} (K : Nat) (hr : Rs K := by (try simp only [go_sem, ff]); all_goals simp) (hk : Ks K := by (try simp only [go_sem, ff]); all_goals simp)
  (ha : A := by first | exact .inr rfl | exact .inl rfl | trivial | simp) (hb : B := by simp only [go_sem, ff]) : A ∧ B ∧ ∃ k, Ks k ∧ Rs k := ⟨ha, hb, K, hk, hr⟩
theorem Zik {A B : Prop} {Hs : H → Prop} {Ns : Nat → Prop} {R : H → Nat → Prop} {n' : Nat} (h' : H) (hn : Ns n' := by first | exact Nat.le_refl _ | omega) (hr : R h' n' := by (try simp only [go_sem, ff]); all_goals simp) (hh : Hs h' := by exact fun _ => .inl rfl)
  (ha : A := by first | exact .inr rfl | exact .inl rfl | trivial | simp) (hb : B := by simp only [go_sem, ff]) : A ∧ B ∧ ∃ h' n', Hs h' ∧ Ns n' ∧ R h' n' := ⟨ha, hb, h', n', hh, hn, hr⟩
section
variable [Glob P] (C : Con) {s s1 : S} {id : Nat} {ops : Array Oper} {o : Oper} {f : Operand} {args : Array Operand} {ts : Array TypeId} {fid : FuncId} {first caps xs : List D} {R : D → H → Nat → Prop}
def Nxt (P : Program) [Glob P] (C : Con) (L : List Oper) (b i : Nat) (l : List Oper) (u : S) (Q : Exit → S → Prop) : Prop := ∃ s2, Zga P (words P) C L b i l u = s2 ∧ s2.ok ∧ Q .normal s2.clear
theorem Ze2 (k : Nat) (ho : ops[k]? = some o := by exact Zqb rfl) (hop : o.op = .call { callee := .value f, args := args, argTypes := ts } := by exact rfl) (hg : o.guard = none := by exact rfl)
  (he : Zga P (words P) C ops.toList s.nx 0 (ops.toList.take k) { n := s.n, t := s.t, h := s.h, nx := s.nx + k, ok := s.ok, e := s.e } = s1 := by simp only [List.take_succ_cons, List.take_zero, go_sem, ff]; exact rfl) (hok : s1.ok := by (try simp only [go_sem, ff]); all_goals exact ok0) (hd : Ztb s1.n o.dst = true := by (try simp only [go_sem, ff]); all_goals (first | done | rfl | decide | simp))
  (hf : s1.ev f = .fn (.func fid) first caps := by simp only [go_sem, ff]; exact rfl) (hxg : (args.toList.map s1.ev).all sg = true := by simp only [go_sem, ff]) (hx : ((args.toList.map s1.ev).map sd).map wk = xs := by simp only [go_sem, ff]; exact rfl) (hct : RCt P fid (first ++ xs ++ caps) s1.h (s.nx + k) R)
  (hk : ∀ res h' n', R res h' n' → Nxt P C ops.toList n' (k + 1) (ops.toList.drop (k + 1)) { n := s1.n, t := s1.put o.dst res, h := h', nx := n' + ops.size, ok := True, e := s1.e } Q) :
  DW P ro (.region id ops false) Q s := dw_call k R ho hop hg he hok hd hf hxg hx hct hk
theorem Zd2 {L : List Oper} {b i : Nat} {l : List Oper} {u : S} {n nx : Nat} {t : Nat → D} {h : H} {ok : Prop} {e : Env} (hq : Q .normal ⟨n, t, h, nx, True, e⟩) (he : Zga P (words P) C L b i l u = ⟨n, t, h, nx, ok, e⟩ := by simp only [List.drop_succ_cons, List.drop_zero, S.put, go_sem, ff]; exact rfl) (hok : ok := by (try simp only [go_sem, ff]); all_goals exact ok0) :
  Nxt P C L b i l u Q := ⟨_, he, hok, hq⟩
end
end Go.DL
namespace Go.DL
open Go.RowKit
variable {P : Program} {ro : Option Nat} {Q : Exit → S → Prop}
theorem HM.shrink [Glob P] {h : H} {g : Mem} {w : World} (hm : HM P h g w) {r : Nat} {bl : Blk} (hr : h r = some bl) (k : Nat) : HM P (upd h r (some ⟨bl.ty, bl.rows.take k⟩)) g w := by
 refine ⟨fun q hq => ?_, fun q bl' hq => ?_, hm.inj, hm.used, hm.imm, hm.gr⟩
 ·
  by_cases e : q = r
  ·
   subst e; rw [upd_same] at hq; cases hq
  ·
   rw [upd_ne _ _ _ _ e] at hq; exact hm.dead q hq
 ·
  by_cases e : q = r
  ·
   subst e
   rw [upd_same] at hq
   cases hq
   obtain ⟨blk, c, h1, h2, h3, h4, h5⟩ := hm.blk q bl hr
   refine ⟨blk, c, h1, h2, Nat.le_trans (by simp; omega) h3, h4, h5.imp id ?_⟩
   rintro ⟨b, cur, e1, e2, e3, e4, e5⟩
   refine ⟨b, cur, e1, e2, e3, e4, fun i row hi => ?_⟩
   simp only [List.getElem?_take] at hi
   split at hi
   ·
    exact e5 i row hi
   ·
    cases hi
  ·
   rw [upd_ne _ _ _ _ e] at hq; exact hm.blk q bl' hq
theorem Zc2 [Glob P] {h : H} {g : Mem} {w : World} (hm : HM P h g w) {t e : TypeId} {r off len : Nat} {rows : List (List D)} {v : Value} (ht : P.underlying t = some (.slice e)) (hr : h r = some ⟨e, rows⟩) (hz : Zia P e = true) (ho : (zeroCells P e).all D.one = true)
  (hl : off + len ≤ rows.length) (hv : Rep w g (.mrow r off len) v) (ty : TypeId) :
  ∃ g' w', (Builtin.clear_ #[t] ty #[v]).run P w = .ok (.tuple #[]) w' ∧ HM P (upd h r (some ⟨e, rows.take off⟩)) g' w' ∧ Mono g g' w w' ∧ ∀ r, g'.U r → g.U r := by
 cases hv with | mrow _ _ _ _ hx hU hvv =>
 obtain ⟨blk, c, h1, h2, h3, h4, h5⟩ := hm.blk r _ hr
 simp only at h1 h2 h3 h5
 obtain ⟨p1, p2⟩ := hvv _ _ _ h1
 by_cases hn : len = 0
 ·
  subst hn
  obtain ⟨a, c', rfl, _, _⟩ := hx
  refine ⟨g, w, ?_, hm.shrink hr off, Mono.refl _ _, fun _ k => k⟩
  cases a <;> simp [Builtin.clear_, run_underlying ht]
 ·
  rcases h5 with ⟨_, e0⟩ | ⟨b, cur, rfl, h6, h7, h8, h9⟩
  ·
   omega
  rcases p2 with ⟨e0, _⟩ | ⟨e0, b', hb', rfl⟩
  ·
   omega
  cases hb'
  have h6 := h6.cells p1.2
  have h7 := h7 p1.2
  obtain ⟨i, hi, hs⟩ := Zzc h2
  have hz' := hz
  unfold Zia at hz
  cases hzz : i.zero with
  | none => simp [hi, hzz] at hz
  | some z =>
   simp only [hi, hzz, Option.bind_some, beq_iff_eq] at hz
   have hzv : ∀ w, (zeroValue e).run P w = .ok z w := fun w => by simp [zeroValue, typeInfo, hi, hzz]
   have hlen : (Builtin.zeroCells z.cells len).toList.length = len * P.cellsOf e := by simp [size_zeroCells, hz]
   have hone : ∀ u ∈ (Builtin.zeroCells z.cells len).toList, u.oneCell' = true := by
    intro u hu
    have hz1 := (Zbl hi hzz w g ho).2.1
    unfold Builtin.zeroCells at hu
    simp only [Array.toList_map, List.mem_map] at hu
    obtain ⟨k, _, rfl⟩ := hu
    have hk : k % z.cells.size < z.cells.size := Nat.mod_lt _ (by omega)
    rw [getElem!_pos z.cells _ hk]
    exact hz1 _ (by simp)
   have hmul : (off + len) * P.cellsOf e ≤ c * P.cellsOf e := Nat.mul_le_mul_right _ (by omega)
   rw [Nat.add_mul] at hmul
   have hfit : off * P.cellsOf e + (Builtin.zeroCells z.cells len).toList.length ≤ cur.size := by rw [hlen, h7]; exact hmul
   have hst := run_storeCells_at P b (off * P.cellsOf e) e (Builtin.zeroCells z.cells len).toList 0 cur w h6 (by simpa using hfit) hone
   simp only [Nat.add_zero] at hst
   generalize hnew : (List.take (off * P.cellsOf e) cur.toList ++ (Builtin.zeroCells z.cells len).toList ++ List.drop (off * P.cellsOf e + (Builtin.zeroCells z.cells len).toList.length) cur.toList) = new at hst
   have hnl : new.length = cur.size := by
    have e1 : cur.toList.length = cur.size := Array.length_toList
    rw [← hnew, List.length_append, List.length_append, List.length_take, List.length_drop, e1]
    omega
   have hget : ∀ k, k < off * P.cellsOf e → new[k]? = cur[k]? := by
    intro k hk
    rw [← hnew, List.append_assoc, List.getElem?_append_left (by simp only [List.length_take, Array.length_toList]; omega), List.getElem?_take, if_pos hk]
    simp
   obtain ⟨g', g1, g2, g3, g4, g5⟩ := hm.put (h' := upd h r (some ⟨e, rows.take off⟩)) (w' := w.setRow b new.toArray) r b c ⟨e, rows.take off⟩ new.toArray (.inr h1) (upd_same _ _ _) (fun r' hr' => .inl (upd_ne _ _ _ _ hr')) (.inr ⟨r, c, _, h1, .inl rfl⟩)
    (setRow_heap w b cur _ e _ h6) (by simp [hnl, h7]) h2 (by simp; omega) p1.2 (by
     intro i' row' hi'
     simp only [List.getElem?_take] at hi'
     split at hi'
     ·
      rename_i hlt
      obtain ⟨k1, k2⟩ := h9 i' row' hi'
      refine ⟨k1, fun j d hj => ?_⟩
      have hjl : j < P.cellsOf e := by have := (List.getElem?_eq_some_iff.1 hj).1; simp only at k1; omega
      obtain ⟨u, u1, u2, u3⟩ := k2 j d hj
      refine ⟨u, ?_, u2, u3⟩
      simp only [List.getElem?_toArray]
      rw [hget _ (Zkr hlt hjl)]
      exact u1
     ·
      cases hi') ⟨rfl, rfl, rfl, by simp, fun k _ hk => setRow_other w b k _ (fun e => hk (by rw [e]))⟩
   refine ⟨g', _, ?_, g4, g5, fun r' hr' => ?_⟩
   ·
    obtain ⟨m, rfl⟩ : ∃ m, len = m + 1 := ⟨len - 1, by omega⟩
    simp [Builtin.clear_, run_underlying ht, hzv, hst]
   ·
    rcases (g2 r').1 hr' with k | k
    ·
     exact k
    ·
     subst k; exact hU
theorem Zjl [Glob P] {C : Con} {s s1 : S} {ops : Array Oper} {i b : Nat} (k : Nat) {o : Oper} {t e : TypeId} {x : Operand} {r off len : Nat} {rows : List (List D)} (hik : i ≤ k) (ho : ops[k]? = some o) (hg : o.guard = none)
  (hop : o.op = .call { callee := .builtin .clear, args := #[x], argTypes := #[t] }) (ht : P.underlying t = some (.slice e)) (hz : Zia P e = true) (h1 : (zeroCells P e).all D.one = true)
  (he : Zga P (words P) C ops.toList b i ((ops.toList.drop i).take (k - i)) s = s1) (hok : s1.ok) (hd : Ztb s1.n o.dst = true) (hx : s1.ev x = .mrow r off len) (hr : s1.h r = some ⟨e, rows⟩) (hl : off + len ≤ rows.length)
  (hk : Zfd P ro ops (k + 1) b { n := s1.n, t := s1.put o.dst (.tuple []), h := upd s1.h r (some ⟨e, rows.take off⟩), nx := s1.nx, ok := True, e := s1.e } Q) : Zfd P ro ops i b s Q := by
 refine Zvd (C := C) k (fun d h' => d = .tuple [] ∧ h' = upd s1.h r (some ⟨e, rows.take off⟩)) hik ho hg (fun c e => by rw [hop] at e; cases e) he hok hd (fun B g a w hs _ => ?_) (fun d h' ⟨hy, hh⟩ => by subst hy; subst hh; exact hk)
 have hv := Zgb hs x
 rw [hx] at hv
 obtain ⟨g', w', q1, q2, q3, q4⟩ := Zc2 hs.mem ht hr hz h1 hl hv o.type
 refine ⟨.tuple [], _, ⟨rfl, rfl⟩, .tuple #[], g', w', .inl ?_, .mk_tuple (vs := #[]) .nil, q2, q3, fun r hr => .inl (q4 r hr)⟩
 obtain ⟨od, oo, oty, op, oa, og⟩ := o
 simp only at hop
 subst hop
 simp [Go.BigFrame.execOp_builtin, Go.BigFrame.builtin_clear, q1]
section
variable {C : Con}
end
section
variable [Glob P] (C : Con) {s s1 : S} {id : Nat} {ops : Array Oper} {o : Oper} {f : Operand} {args : Array Operand} {ts : Array TypeId} {fid : FuncId} {first caps xs : List D} {R : D → H → Nat → Prop}
end
end Go.DL
namespace Go.DL
open Go.RowKit
variable {P : Program} {ro : Option Nat} {Q : Exit → S → Prop}
theorem Zps [Glob P] {h : H} {g : Mem} {w : World} (hm : HM P h g w) {e : TypeId} {r off c b : Nat} {rows news : List (List D)} {cs : List Value} (hr : h r = some ⟨e, rows⟩) (hM : g.M r = some (some b, c, P.cellsOf e)) (hcm : c ≤ maxLen)
  (hR : RowsIn w g (P.cellsOf e) news cs) (ho : off ≤ rows.length) (hc : off + news.length ≤ c) :
  ∃ cur : Array Value, w.heap[b]? = some (.cells cur e (0, 0)) ∧ off * P.cellsOf e + cs.length ≤ cur.size ∧ ∀ new : Array Value, new = (cur.toList.take (off * P.cellsOf e) ++ cs ++ cur.toList.drop (off * P.cellsOf e + cs.length)).toArray →
   ∃ g', g'.M r = g.M r ∧ g'.U r ∧ HM P (upd h r (some ⟨e, rows.take off ++ news ++ rows.drop (off + news.length)⟩)) g' (w.setRow b new) ∧ Mono g g' w (w.setRow b new) ∧ ∀ q, g'.U q → g.U q := by
 obtain ⟨blk, c', h1, h2, h3, h4, h5⟩ := hm.blk r _ hr
 rw [hM] at h1
 simp only [Option.some.injEq, Prod.mk.injEq] at h1
 obtain ⟨rfl, rfl, _⟩ := h1
 rcases h5 with ⟨h5, _⟩ | ⟨b', cur, h5, k1, k2, _, k4⟩
 ·
  cases h5
 cases h5
 have k1 := k1.cells hcm
 have k2 := k2 hcm
 simp only at h2 h3 k1 k2 k4
 have hcl : cs.length = news.length * P.cellsOf e := hR.1
 have hfit : off * P.cellsOf e + cs.length ≤ cur.size := by
  rw [hcl, k2, ← Nat.add_mul]
  exact Nat.mul_le_mul_right _ hc
 refine ⟨cur, k1, hfit, fun new hnew => ?_⟩
 have e1 : cur.toList.length = cur.size := Array.length_toList
 have hsize : new.size = cur.size := by rw [hnew]; simp; omega
 have hA := k4.rowsIn 0 off (by show 0 + off ≤ rows.length; omega) (by rw [k2]; exact Nat.mul_le_mul_right _ h3)
 have hB := hA.append hR
 have hend : off + news.length + (rows.length - (off + news.length)) ≤ rows.length ∨ rows.length - (off + news.length) = 0 := by omega
 have hC : RowsIn w g (P.cellsOf e) (rows.drop (off + news.length)) ((cur.toList.drop ((off + news.length) * P.cellsOf e)).take ((rows.length - (off + news.length)) * P.cellsOf e)) := by
  rcases hend with hl | hl
  ·
   have := k4.rowsIn (off + news.length) (rows.length - (off + news.length)) hl (by rw [k2]; exact Nat.mul_le_mul_right _ h3)
   have e2 : (rows.drop (off + news.length)).take (rows.length - (off + news.length)) = rows.drop (off + news.length) := List.take_of_length_le (by simp)
   rw [e2] at this
   exact this
  ·
   have e2 : rows.drop (off + news.length) = [] := List.drop_eq_nil_of_le (by omega)
   rw [e2, hl]
   simpa using RowsIn.nil
 have hAll := hB.append hC
 simp only [List.drop_zero, Nat.zero_mul] at hAll
 have hnl : (rows.take off ++ news ++ rows.drop (off + news.length)).length ≤ c := by simp; omega
 have hdrop : off * P.cellsOf e + cs.length = (off + news.length) * P.cellsOf e := by rw [hcl, Nat.add_mul]
 obtain ⟨g', g1, g2, g3, g4, g5⟩ := hm.put (h' := upd h r (some ⟨e, rows.take off ++ news ++ rows.drop (off + news.length)⟩)) (w' := w.setRow b new) r b c ⟨e, rows.take off ++ news ++ rows.drop (off + news.length)⟩ new (.inr hM) (upd_same _ _ _) (fun q hq => .inl (upd_ne _ _ _ _ hq)) (.inr ⟨r, c, _, hM, .inl rfl⟩)
  (setRow_heap w b cur _ e _ k1) (by rw [hsize, k2]) h2 hnl hcm (hAll.holds (by
   rw [hnew]
   simp only [hdrop]
   generalize List.take (off * P.cellsOf e) cur.toList ++ cs = X
   rw [List.length_append, List.take_append, List.take_of_length_le (by omega), Nat.add_sub_cancel_left, List.length_take]
   congr 1
   rw [List.take_eq_take_iff]
   omega))
  ⟨rfl, rfl, rfl, by simp, fun k _ hk => setRow_other w b k _ (fun e => hk (by rw [e]))⟩
 refine ⟨g', by rw [g1, hM], (g2 r).2 (.inr rfl), g4, g5, fun q hq => ?_⟩
 rcases (g2 q).1 hq with k | k
 ·
  exact k
 ·
  subst k; exact hm.used q (by rw [hM]; simp)
theorem Zyx [Glob P] {h : H} {g : Mem} {w : World} (hm : HM P h g w) {e : TypeId} {r off len k : Nat} {rows : List (List D)} {v : Value} (hr : h r = some ⟨e, rows⟩) (hv : Rep w g (.mrow r off len) v) (hk : k ≤ len) (hl : off + k ≤ rows.length) :
  ∃ cs, RowsIn w g (P.cellsOf e) ((rows.drop off).take k) cs ∧ (∀ w', (Builtin.lenOf v).run P w' = .ok len w') ∧ ∀ w', w'.heap = w.heap → (Builtin.firstCells (P.cellsOf e) k v).run P w' = .ok cs.toArray w' := by
 obtain ⟨blk, c, h1, h2, h3, h4, h5⟩ := hm.blk r _ hr
 cases hv with | mrow _ _ _ _ hx hU hvv =>
 obtain ⟨p1, p2⟩ := hvv _ _ _ h1
 simp only at h2 h3 h5
 by_cases hk0 : k = 0
 ·
  subst hk0
  obtain ⟨a, c', rfl, _, _⟩ := hx
  refine ⟨[], by simpa using RowsIn.nil, fun w' => by simp [Builtin.lenOf], fun w' _ => ?_⟩
  cases a <;> simp [Builtin.firstCells, loadCells, loadCellsFrom]
 rcases p2 with ⟨_, a, rfl⟩ | ⟨hne, b, rfl, rfl⟩
 ·
  obtain ⟨a', c', e1, e2, _⟩ := hx
  cases e1
  omega
 rcases h5 with ⟨h5, _⟩ | ⟨b', cur, h5, k1, k2, _, k4⟩
 ·
  cases h5
 cases h5
 have k1 := k1.cells p1.2
 have k2 := k2 p1.2
 have hR : RowsIn w g (P.cellsOf e) ((rows.drop off).take k) ((cur.toList.drop (off * P.cellsOf e)).take (k * P.cellsOf e)) := k4.rowsIn off k hl (by rw [k2]; exact Nat.mul_le_mul_right _ h3)
 refine ⟨_, hR, fun w' => by simp [Builtin.lenOf], fun w' hw => ?_⟩
 have hlen := hR.1
 have hkl : ((rows.drop off).take k).length = k := by rw [List.length_take, List.length_drop]; omega
 rw [hkl] at hlen
 refine run_firstCells_some (P := P) w' (P.cellsOf e) k _ len _ _ hlen fun j v hj => ?_
 rw [Zng, cell_of_row w' b _ cur e (0, 0) (by rw [hw]; exact k1)]
 rw [List.getElem?_take] at hj
 split at hj
 ·
  rw [List.getElem?_drop] at hj; simpa using hj
 ·
  cases hj
theorem Zgs [Glob P] {h : H} {g : Mem} {w : World} (hm : HM P h g w) {t u e : TypeId} {r off n : Nat} {rows : List (List D)} {y : D} {vx vy : Value} (ht : P.underlying t = some (.slice e)) (hr : h r = some ⟨e, rows⟩) (hx : Rep w g (.mrow r off n) vx) (hy : Rep w g y vy)
  (hl : (rowsOf y h).length = Znf y) (hs : Ztf P u h y = true) (hrl : ∀ q ∈ rowsOf y h, q.length = P.cellsOf e) (h0 : off < rows.length) (hfit : off + n + (rowsOf y h).length ≤ rows.length) (ty : TypeId) :
  ∃ v g' w', (Builtin.append_ #[t, u] ty #[vx, vy]).run P w = .ok v w' ∧ Rep w' g' (.mrow r off (n + (rowsOf y h).length)) v ∧ HM P (upd h r (some ⟨e, rows.take (off + n) ++ rowsOf y h ++ rows.drop (off + n + (rowsOf y h).length)⟩)) g' w' ∧ Mono g g' w w' ∧ ∀ q, g'.U q → g.U q := by
 obtain ⟨blk, c, h1, h2, h3, h4, h5⟩ := hm.blk r _ hr
 simp only at h1 h2 h3
 obtain ⟨i, hi, hsz⟩ := Zzc h2
 obtain ⟨news, r1, r2, r3, r4⟩ := Zll hm hy h2 hl hrl hs
 cases hx with | mrow _ _ _ _ hxx hU hvv =>
 obtain ⟨p1, p2⟩ := hvv _ _ _ h1
 rcases p2 with ⟨e0, _⟩ | ⟨e0, b, rfl, rfl⟩
 ·
  omega
 obtain ⟨cur, c1, c2, c3⟩ := Zps hm (off := off + n) hr h1 p1.2 r1 (by omega) (by omega)
 obtain ⟨g', q1, q2, q3, q4, q5⟩ := c3 _ rfl
 have hroom : n + (rowsOf y h).length ≤ c - off := by omega
 have hap := Zfs (P := P) ht hi (r4 w) ty b (off * P.cellsOf e) n (c - off) (by rw [hl]; exact r2 w) hroom (by rw [hsz, hl]; exact r3 w rfl) r1.one c1 (by rw [hsz]; rw [Nat.add_mul] at c2; exact c2)
 rw [hsz, ← Nat.add_mul] at hap
 refine ⟨_, g', _, hap, .mrow r off _ _ ⟨_, _, rfl, hroom, fun _ => ⟨_, rfl⟩⟩ q2 fun blk c' sz he => ?_, q3, q4, q5⟩
 rw [q1, h1] at he
 simp only [Option.some.injEq, Prod.mk.injEq] at he
 obtain ⟨rfl, rfl, rfl⟩ := he
 exact ⟨by omega, .inr ⟨e0, b, rfl, rfl⟩⟩
theorem Zs6 [Glob P] {h : H} {g : Mem} {w : World} (hm : HM P h g w) {t u e : TypeId} {r off len r2 off2 len2 k : Nat} {rows rows2 : List (List D)} {vx vy : Value} (ht : P.underlying t = some (.slice e)) (hr : h r = some ⟨e, rows⟩) (hr2 : h r2 = some ⟨e, rows2⟩)
  (hx : Rep w g (.mrow r off len) vx) (hy : Rep w g (.mrow r2 off2 len2) vy) (hk : k = min len2 len) (h0 : 0 < k) (ho : off ≤ rows.length) (hl : off2 + k ≤ rows2.length) (ty : TypeId) :
  ∃ g' w', (Builtin.copy_ #[t, u] ty #[vx, vy]).run P w = .ok (.int .i64 k) w' ∧ HM P (upd h r (some ⟨e, rows.take off ++ (rows2.drop off2).take k ++ rows.drop (off + k)⟩)) g' w' ∧ Mono g g' w w' ∧ ∀ q, g'.U q → g.U q := by
 obtain ⟨blk, c, h1, h2, h3, h4, h5⟩ := hm.blk r _ hr
 simp only at h1 h2 h3
 have hkl : k ≤ len := by omega
 obtain ⟨cs, r1, l1, f1⟩ := Zyx hm hr2 hy (k := k) (by omega) hl
 have hnl : ((rows2.drop off2).take k).length = k := by rw [List.length_take, List.length_drop]; omega
 cases hx with | mrow _ _ _ _ hxx hU hvv =>
 obtain ⟨p1, p2⟩ := hvv _ _ _ h1
 rcases p2 with ⟨e0, a, rfl⟩ | ⟨e0, b, rfl, rfl⟩
 ·
  obtain ⟨a', c', e1, e2, _⟩ := hxx
  cases e1
  omega
 obtain ⟨cur, c1, c2, c3⟩ := Zps hm (off := off) hr h1 p1.2 r1 ho (by rw [hnl]; exact Nat.le_trans (Nat.add_le_add_left hkl _) p1.1)
 obtain ⟨g', q1, q2, q3, q4, q5⟩ := c3 _ rfl
 rw [hnl] at q3
 have hst := run_storeCells_at P b (off * P.cellsOf e) e cs 0 cur w c1 (by simpa using c2) r1.one
 simp only [Nat.add_zero] at hst
 have hmin : Nat.min len2 len = k := hk.symm
 refine ⟨g', _, ?_, q3, q4, q5⟩
 simp [Builtin.copy_, run_underlying ht, l1, Zfc h2, hmin, f1, hst, goInt]
def Env.lim (E : Env) (r c : Nat) : Env where
 p := fun g w => E.p g w ∧ g.U r ∧ ∀ blk c' sz, g.M r = some (blk, c', sz) → c' = c
 x := E.x
 st := fun P _ h g g' w w' hm k ⟨h1, h2, h3⟩ => ⟨E.st P h g g' w w' hm k h1, k.U r h2, fun blk c' sz he => by
  rcases k.M r h2 with e | e
  ·
   exact h3 blk c' sz (e ▸ he)
  ·
   rw [e] at he; cases he⟩
theorem Zsn [Glob P] {h : H} {g : Mem} {w : World} (hm : HM P h g w) {t u e : TypeId} {kk : IntKind} {r off n m c b : Nat} {rows : List (List D)} {vx : Value} (hb : ¬ g.U b) (ht : P.underlying t = some (.slice e)) (hu : P.underlying u = some (.int kk)) (hr : h r = some ⟨e, rows⟩) (hx : Rep w g (.mrow r off n) vx)
  (hM : ∀ blk c' sz, g.M r = some (blk, c', sz) → c' = c) (hz : Zia P e = true) (h1z : (zeroCells P e).all D.one = true) (hdef : (zeroCells P e).length = P.cellsOf e) (hc : c < off + n + m) (hl : off + n ≤ rows.length) (hby : (n + m) * P.bytesOf e ≤ 140737488355328) (h63 : n + m ≤ 4611686018427387904) (ty : TypeId) :
  ∃ v g' w', (Builtin.append_ #[t, u] ty #[vx, .int .i64 m]).run P w = .ok v w' ∧ Rep w' g' (.mrow b 0 (n + m)) v ∧ HM P (upd h b (some ⟨e, (rows.drop off).take n ++ List.replicate m (zeroCells P e)⟩)) g' w' ∧ Mono g g' w w' ∧ ∀ q, g'.U q → g.U q ∨ q = b := by
 obtain ⟨blk, c', h1, h2, h3, h4, h5⟩ := hm.blk r _ hr
 simp only at h1 h2 h3
 have hcc := hM _ _ _ h1
 subst hcc
 obtain ⟨i, hi, hs⟩ := Zzc h2
 have hz' := hz
 unfold Zia at hz'
 cases hzz : i.zero with
 | none => simp [hi, hzz] at hz'
 | some z =>
 simp only [hi, hzz, Option.bind_some, beq_iff_eq] at hz'
 have hbyi : i.bytes = P.bytesOf e := by simp [Program.bytesOf, hi]
 obtain ⟨olds, o1, o2, o3⟩ := Zyx hm hr hx (k := n) (Nat.le_refl _) hl
 have hv : ∃ a cap, vx = .slice a n cap ∧ n ≤ cap ∧ cap ≤ c' - off := by
  cases hx with | mrow _ _ _ _ hxx hU hvv =>
  obtain ⟨p1, p2⟩ := hvv _ _ _ h1
  rcases p2 with ⟨e0, a, rfl⟩ | ⟨e0, b0, rfl, rfl⟩
  ·
   obtain ⟨a', c'', e1, e2, _⟩ := hxx
   cases e1
   exact ⟨a, 0, rfl, Nat.le_refl _, Nat.zero_le _⟩
  ·
   exact ⟨_, _, rfl, by omega, Nat.le_refl _⟩
 obtain ⟨a, cap, rfl, v1, v2⟩ := hv
 have hgr : cap < n + m := by omega
 have hm0 : 0 < m := by omega
 have hrep : RowsIn w g (P.cellsOf e) (List.replicate m (zeroCells P e)) (Builtin.zeroCells z.cells m).toList := by
  refine ⟨by simp [size_zeroCells, hz'], fun j row hj => ?_⟩
  obtain ⟨hjl, hje⟩ := List.getElem?_eq_some_iff.1 hj
  simp only [List.length_replicate] at hjl
  simp only [List.getElem_replicate] at hje
  subst hje
  refine ⟨hdef, fun q d hq => ?_⟩
  obtain ⟨hrz, hone, hcl⟩ := Zbl (P := P) hi hzz w g h1z
  have hql : q < P.cellsOf e := by have := (List.getElem?_eq_some_iff.1 hq).1; omega
  refine ⟨z.cells[q]!, ?_, ?_, ?_⟩
  ·
   simp only [Array.getElem?_toList]
   have hlt := Zkr hjl hql
   unfold Builtin.zeroCells
   simp only [Array.getElem?_map, hz']
   rw [Array.getElem?_range, if_pos hlt]
   simp only [Option.map_some]
   rw [Nat.mul_comm, Nat.mul_add_mod, Nat.mod_eq_of_lt hql]
  ·
   have hq' : q < z.cells.size := by omega
   rw [getElem!_pos z.cells q hq']
   exact hone _ (by simp)
  ·
   have hq' : q < z.cells.size := by omega
   rw [getElem!_pos z.cells q hq']
   exact hrz.2 q d _ hq (by simp [hq'])
 have hlen2 : ((rows.drop off).take n ++ List.replicate m (zeroCells P e)).length = n + m := by simp; omega
 have hge := grownCap_ge w (n + m) cap e
 obtain ⟨g', k1, k2, k3, k4⟩ := Zmr (h' := upd h b (some ⟨e, (rows.drop off).take n ++ List.replicate m (zeroCells P e)⟩)) hm hb (o1.append hrep) h2 hz' (upd_same _ _ _) (fun r hr => .inl (upd_ne _ _ _ _ hr)) (grownCap w (n + m) cap e) (by rw [hlen2]; exact hge) (by omega)
  (grownCap_le_maxLen _ _ _ _ (by simp only [maxLen]; omega))
 rw [hlen2] at k1 k2 k3
 have hap : (Builtin.append_ #[t, u] ty #[.slice a n cap, .int .i64 m]).run P w = .ok (.slice (some ⟨w.heap.size, 0, none⟩) (n + m) (grownCap w (n + m) cap e))
   (w.drew.alloc (.cells ((olds ++ (Builtin.zeroCells z.cells m).toList).toArray ++ Builtin.zeroCells z.cells (grownCap w (n + m) cap e - (n + m))) e)) := by
  have e1 : ¬ (n + m ≤ cap) := by omega
  have e2 : IntKind.i64.wrap (m : Int) = m := by rw [IntKind.wrap_i64]; omega
  have e3 : ¬ ((m : Int) < 0) := by omega
  have hmb : m * P.bytesOf e ≤ 140737488355328 := Nat.le_trans (Nat.mul_le_mul_right _ (by omega)) hby
  have e4 : ¬ (281474976710656 < (m : Int) * (i.bytes : Int)) := by
   rw [hbyi]
   have e9 : ((m * P.bytesOf e : Nat) : Int) = (m : Int) * (P.bytesOf e : Int) := by simp
   omega
  have e5 : ¬ (9223372036854775807 < (n : Int) + (m : Int)) := by omega
  have h48 : ¬ (281474976710656 < Builtin.nextslicecap (n + m) cap * i.bytes) := by have := growslice_fits (bytes := i.bytes) hgr (by rw [hbyi]; exact hby); omega
  have e6 : ¬ (m * P.cellsOf e = 0) := by
   intro h
   rcases Nat.mul_eq_zero.1 h with h | h <;> omega
  have e7 : ¬ (m * i.size = 0) := by rw [hs]; exact e6
  have ho := o3 w.drew rfl
  rw [← hs] at ho
  have eA : ∀ Z : Array Value, (olds ++ (Builtin.zeroCells z.cells m).toList).toArray ++ Z = olds.toArray ++ (Builtin.zeroCells z.cells m ++ Z) := fun Z => by apply Array.ext'; simp
  rw [eA]
  simp [Builtin.append_, run_underlying ht, run_underlying hu, sizeOf, typeInfo, zeroValue, hi, hzz, asInt, asIntOf, e1, e2, e3, e4, e5, e7, h48, Question.forced, ho, newRow, grownCap]
 exact ⟨_, g', _, hap, k1, k2, k3, k4⟩
theorem Zb5 [Glob P] {C : Con} {s s1 : S} {ops : Array Oper} {i b : Nat} (k : Nat) {o : Oper} (A : D → H → Env → Prop) (hik : i ≤ k) (ho : ops[k]? = some o) (hg : o.guard = none) (hdef : ∀ c, o.op ≠ .defer c)
  (he : Zga P (words P) C ops.toList b i ((ops.toList.drop i).take (k - i)) s = s1) (hok : s1.ok) (hd : Ztb s1.n o.dst = true)
  (hdo : ∀ (B : Bot) (g : Mem) (a : Act) (w : World), St P B s1 g a w → ¬ g.U (b + k) → ∃ d h' E v g' w', A d h' E ∧ E.x = s1.e.x ∧ (execOp a.eval o).run P w = .ok (.value v) w' ∧ Rep w' g' d v ∧ HM P h' g' w' ∧ Mono g g' w w' ∧ (∀ r, g'.U r → g.U r ∨ r = b + k) ∧ E.p g' w')
  (hk : ∀ d h' E, A d h' E → Zfd P ro ops (k + 1) b { n := s1.n, t := s1.put o.dst d, h := h', nx := s1.nx, ok := True, e := E } Q) : Zfd P ro ops i b s Q := by
 intro B g0 g a w0 w hs hm hU
 have hlt : k < ops.size := (Array.getElem?_eq_some_iff.1 ho).1
 have hr : List.range' i (ops.size - i) = List.range' i (k - i) ++ (k :: List.range' (k + 1) (ops.size - (k + 1))) := by
  have : ops.size - i = (k - i) + ((ops.size - (k + 1)) + 1) := by omega
  rw [this, ← List.range'_append_1, List.range'_succ]
  have e1 : i + (k - i) = k := by omega
  rw [e1]
 rw [hr]
 refine Zsb (C := C) (b := b) (k - i) i s g a w hs hm hU (by omega) (by rw [he]; exact hok) fun g1 a1 w1 hs1 hm1 hU1 => ?_
 rw [he] at hs1
 have hU1 : ∀ r, g1.U r → r < b + k := fun r hr => by have := hU1 r hr; omega
 have hse : s1.e = s.e := by rw [← he]; exact Zze _ _ _ _ _
 rw [wpOpsIn_cons]
 unfold wpOpIn
 rw [ho]
 simp only
 have hw : Region.wanted o (yielded ops a1.tmps) = true := by simp [Region.wanted, hg]
 rw [if_pos hw]
 have hsem : o.semAt (Fw ro).round a1.eval = execOp a1.eval o := Oper.semAt_eq _ _ _ hdef
 refine ⟨fun _ _ => trivial, ?_⟩
 rw [hsem]
 obtain ⟨d, h', E, v, g', w', hA, hx, hrun, q1, q2, q3, q4, q5⟩ := hdo B g1 a1 w1 hs1 (fun h => Nat.lt_irrefl _ (hU1 _ h))
 have hs2 := Zui hs1 q3 q2 hd q1 True
 have := hk d h' E hA B g0 g' (a1.put o.dst v) w0 w' ⟨hs2.sz, hs2.tm, hs2.mem, hs2.df, q5, hs2.bd⟩ (hm1.trans q3) (fun r hr => by
  rcases q4 r hr with h | h
  ·
   have := hU1 r h; omega
  ·
   omega)
 simp only [hx, hse] at this
 rw [hrun, Oper.uponIn_value]
 exact this
section
variable [Glob P] {C : Con} {s s1 : S} {ops : Array Oper} {i b : Nat} {o : Oper}
theorem Zdv (k : Nat) {t u e : TypeId} {x y : Operand} {yd : D} {r off n : Nat} {rows : List (List D)} (hik : i ≤ k) (ho : ops[k]? = some o) (hg : o.guard = none)
  (hop : o.op = .call { callee := .builtin .append, args := #[x, y], argTypes := #[t, u] }) (ht : P.underlying t = some (.slice e))
  (he : Zga P (words P) C ops.toList b i ((ops.toList.drop i).take (k - i)) s = s1) (hok : s1.ok) (hd : Ztb s1.n o.dst = true) (hx : s1.ev x = .mrow r off n) (hy : s1.ev y = yd) (hr : s1.h r = some ⟨e, rows⟩)
  (hl : (rowsOf yd s1.h).length = Znf yd) (hs : Ztf P u s1.h yd = true) (hrl : ∀ q ∈ rowsOf yd s1.h, q.length = P.cellsOf e) (h0 : off < rows.length) (hfit : off + n + (rowsOf yd s1.h).length ≤ rows.length)
  (hk : Zfd P ro ops (k + 1) b { n := s1.n, t := s1.put o.dst (.mrow r off (n + (rowsOf yd s1.h).length)), h := upd s1.h r (some ⟨e, rows.take (off + n) ++ rowsOf yd s1.h ++ rows.drop (off + n + (rowsOf yd s1.h).length)⟩), nx := s1.nx, ok := True, e := s1.e } Q) : Zfd P ro ops i b s Q := by
 subst hy
 refine Zvd (C := C) k (fun d h' => d = .mrow r off (n + (rowsOf (s1.ev y) s1.h).length) ∧ h' = upd s1.h r (some ⟨e, rows.take (off + n) ++ rowsOf (s1.ev y) s1.h ++ rows.drop (off + n + (rowsOf (s1.ev y) s1.h).length)⟩)) hik ho hg (fun c e => by rw [hop] at e; cases e) he hok hd (fun B g a w hst _ => ?_) (fun d h' ⟨hy, hh⟩ => by subst hy; subst hh; exact hk)
 have hv := Zgb hst x
 rw [hx] at hv
 obtain ⟨v, g', w', q1, q2, q3, q4, q5⟩ := Zgs hst.mem ht hr hv (Zgb hst y) hl hs hrl h0 hfit o.type
 refine ⟨_, _, ⟨rfl, rfl⟩, v, g', w', .inl ?_, q2, q3, q4, fun r hr => .inl (q5 r hr)⟩
 obtain ⟨od, oo, oty, op, oa, og⟩ := o
 simp only at hop
 subst hop
 simp [Go.BigFrame.execOp_builtin, Go.BigFrame.builtin_append, q1]
theorem seg_copy (k : Nat) {t u e : TypeId} {x y : Operand} {r off len r2 off2 len2 : Nat} (m : Nat) {rows rows2 : List (List D)} (hik : i ≤ k) (ho : ops[k]? = some o) (hg : o.guard = none)
  (hop : o.op = .call { callee := .builtin .copy, args := #[x, y], argTypes := #[t, u] }) (ht : P.underlying t = some (.slice e))
  (he : Zga P (words P) C ops.toList b i ((ops.toList.drop i).take (k - i)) s = s1) (hok : s1.ok) (hd : Ztb s1.n o.dst = true) (hx : s1.ev x = .mrow r off len) (hy : s1.ev y = .mrow r2 off2 len2) (hr : s1.h r = some ⟨e, rows⟩) (hr2 : s1.h r2 = some ⟨e, rows2⟩)
  (hm : m = min len2 len) (h0 : 0 < m) (hlo : off ≤ rows.length) (hl : off2 + m ≤ rows2.length)
  (hk : Zfd P ro ops (k + 1) b { n := s1.n, t := s1.put o.dst (.i m), h := upd s1.h r (some ⟨e, rows.take off ++ (rows2.drop off2).take m ++ rows.drop (off + m)⟩), nx := s1.nx, ok := True, e := s1.e } Q) : Zfd P ro ops i b s Q := by
 refine Zvd (C := C) k (fun d h' => d = .i m ∧ h' = upd s1.h r (some ⟨e, rows.take off ++ (rows2.drop off2).take m ++ rows.drop (off + m)⟩)) hik ho hg (fun c e => by rw [hop] at e; cases e) he hok hd (fun B g a w hst _ => ?_) (fun d h' ⟨hy, hh⟩ => by subst hy; subst hh; exact hk)
 have hv := Zgb hst x
 rw [hx] at hv
 have hv2 := Zgb hst y
 rw [hy] at hv2
 obtain ⟨g', w', q1, q2, q3, q4⟩ := Zs6 (u := u) hst.mem ht hr hr2 hv hv2 hm h0 hlo hl o.type
 refine ⟨_, _, ⟨rfl, rfl⟩, _, g', w', .inl ?_, .v _, q2, q3, fun r hr => .inl (q4 r hr)⟩
 obtain ⟨od, oo, oty, op, oa, og⟩ := o
 simp only at hop
 subst hop
 simp [Go.BigFrame.execOp_builtin, Go.BigFrame.builtin_copy, q1]
theorem Zi0 (k : Nat) {t e : TypeId} {x hi : Operand} {r off len m c : Nat} {rows : List (List D)} {E : Env} (hik : i ≤ k) (ho : ops[k]? = some o) (hg : o.guard = none)
  (hop : o.op = .slice t x none (some hi) none) (ht : P.underlying t = some (.slice e))
  (he : Zga P (words P) C ops.toList b i ((ops.toList.drop i).take (k - i)) s = s1) (hok : s1.ok) (hd : Ztb s1.n o.dst = true) (hx : s1.ev x = .mrow r off len) (hh : s1.ev hi = .i m) (hr : s1.h r = some ⟨e, rows⟩) (hE : s1.e = Env.lim E r c) (hc : off + m ≤ c) (h0 : 0 < m) (hl : off < rows.length)
  (hk : Zfd P ro ops (k + 1) b { n := s1.n, t := s1.put o.dst (.mrow r off m), h := s1.h, nx := s1.nx, ok := True, e := s1.e } Q) : Zfd P ro ops i b s Q := by
 refine Zvd (C := C) k (fun d h' => d = .mrow r off m ∧ h' = s1.h) hik ho hg (fun c e => by rw [hop] at e; cases e) he hok hd (fun B g a w hst _ => ?_) (fun d h' ⟨hy, hh⟩ => by subst hy; subst hh; exact hk)
 have hv := Zgb hst x
 rw [hx] at hv
 have hvh := (Zgb hst hi)
 rw [hh] at hvh
 have hvh := hvh.v_inv
 have hen := hst.en
 rw [hE] at hen
 obtain ⟨_, hU, hcap⟩ := hen
 obtain ⟨blk, c0, h1, h2, h3, h4, h5⟩ := hst.mem.blk r _ hr
 have hc0 := hcap _ _ _ h1
 subst hc0
 simp only at h2 h3
 generalize hvx : a.eval x = v at hv
 cases hv with | mrow _ _ _ _ hxx _ hvv =>
 obtain ⟨p1, p2⟩ := hvv _ _ _ h1
 rcases p2 with ⟨e0, _⟩ | ⟨e0, b0, rfl, rfl⟩
 ·
  omega
 have r2 := Zpb (P := P) (o := some (.i m)) (vo := some (a.eval hi)) (d := len) (y := c0 - off) (w := w) (g := g) (by rw [hvh]; exact .v _) rfl (by simp [bnd]) (by simp only [bnd]; omega) (if true then .sliceAcap else .sliceAlen)
 have r1 := Zpb (P := P) (o := none) (vo := none) (d := 0) (y := (bnd (some (.i m)) len).toNat) (w := w) (g := g) trivial rfl (by simp [bnd]) (by simp [bnd]) .sliceB
 have hrun := Zve ht h2 (a := some ⟨b0, off * P.cellsOf e, none⟩) (len := len) (vm := none) (Zyh (P := P) (len := len) r2 r1)
 have hz : ¬ (c0 - off = 0) := by omega
 simp only [bnd, Int.toNat_natCast, hz, if_false, Nat.zero_mul, Nat.sub_zero, Option.map_some, Zng, Nat.add_zero] at hrun
 have hmc : m ≤ c0 - off := by omega
 refine ⟨_, _, ⟨rfl, rfl⟩, .slice (some ⟨b0, off * P.cellsOf e, none⟩) m (c0 - off), g, w, .inl ?_, .mrow r off m _ ⟨_, _, rfl, hmc, fun _ => ⟨_, rfl⟩⟩ hU fun blk c' sz hq => ?_, hst.mem, Mono.refl _ _, fun r hr => .inl hr⟩
 ·
  obtain ⟨od, oo, oty, op, oa, og⟩ := o
  simp only at hop
  subst hop
  simp [execOp, hvx, hrun]
 ·
  rw [h1] at hq
  simp only [Option.some.injEq, Prod.mk.injEq] at hq
  obtain ⟨rfl, rfl, rfl⟩ := hq
  exact ⟨by omega, .inr ⟨e0, b0, rfl, rfl⟩⟩
theorem seg_cap (k : Nat) {t e : TypeId} {x : Operand} {r off len : Nat} {rows : List (List D)} (hik : i ≤ k) (ho : ops[k]? = some o) (hg : o.guard = none)
  (hop : o.op = .call { callee := .builtin .cap, args := #[x], argTypes := #[t] }) (ht : P.underlying t = some (.slice e))
  (he : Zga P (words P) C ops.toList b i ((ops.toList.drop i).take (k - i)) s = s1) (hok : s1.ok) (hd : Ztb s1.n o.dst = true) (hx : s1.ev x = .mrow r off len) (hr : s1.h r = some ⟨e, rows⟩)
  (hk : ∀ c : Nat, len ≤ c → c ≤ maxLen → Zfd P ro ops (k + 1) b { n := s1.n, t := s1.put o.dst (.i c), h := s1.h, nx := s1.nx, ok := True, e := Env.lim s1.e r (off + c) } Q) : Zfd P ro ops i b s Q := by
 refine Zb5 (C := C) k (fun d h' E => ∃ c : Nat, d = .i c ∧ h' = s1.h ∧ E = Env.lim s1.e r (off + c) ∧ len ≤ c ∧ c ≤ maxLen) hik ho hg (fun c e => by rw [hop] at e; cases e) he hok hd (fun B g a w hst _ => ?_) (fun d h' E ⟨c, h1, h2, h3, h4, h5⟩ => by subst h1; subst h2; subst h3; exact hk c h4 h5)
 have hv := Zgb hst x
 rw [hx] at hv
 obtain ⟨blk, c0, h1, h2, h3, h4, h5⟩ := hst.mem.blk r _ hr
 have key : ∃ (ad : Option Addr) (c : Nat), a.eval x = .slice ad len c ∧ len ≤ c ∧ c ≤ maxLen ∧ c0 = off + c ∧ g.U r := by
  generalize a.eval x = v at hv
  cases hv with | mrow _ _ _ _ hxx hU hvv =>
  obtain ⟨p1, p2⟩ := hvv _ _ _ h1
  obtain ⟨a', c', e1, e2, _⟩ := hxx
  rcases p2 with ⟨e0, a, rfl⟩ | ⟨e0, b0, rfl, rfl⟩
  ·
   cases e1
   exact ⟨a', 0, rfl, by omega, Nat.zero_le _, by omega, hU⟩
  ·
   cases e1
   exact ⟨_, _, rfl, e2, by omega, by omega, hU⟩
 obtain ⟨ad, c, k1, k2, k3, k4, k5⟩ := key
 refine ⟨_, _, _, .int .i64 c, g, w, ⟨c, rfl, rfl, rfl, k2, k3⟩, rfl, ?_, .v _, hst.mem, Mono.refl _ _, fun r hr => .inl hr, hst.en, k5, fun blk c' sz hq => ?_⟩
 ·
  obtain ⟨od, oo, oty, op, oa, og⟩ := o
  simp only at hop
  subst hop
  simp [Go.BigFrame.execOp_builtin, Go.BigFrame.builtin_cap, k1, Builtin.cap_, run_underlying ht, goInt]
 ·
  rw [h1] at hq
  simp only [Option.some.injEq, Prod.mk.injEq] at hq
  obtain ⟨rfl, rfl, rfl⟩ := hq
  exact k4
theorem Zeq (k : Nat) {t u e : TypeId} {kk : IntKind} {x y : Operand} {r off n m c : Nat} {rows : List (List D)} {E : Env} (hik : i ≤ k) (ho : ops[k]? = some o) (hg : o.guard = none)
  (hop : o.op = .call { callee := .builtin .append, args := #[x, y], argTypes := #[t, u] }) (ht : P.underlying t = some (.slice e)) (hu : P.underlying u = some (.int kk)) (hz : Zia P e = true) (h1z : (zeroCells P e).all D.one = true) (hdef : (zeroCells P e).length = P.cellsOf e)
  (he : Zga P (words P) C ops.toList b i ((ops.toList.drop i).take (k - i)) s = s1) (hok : s1.ok) (hd : Ztb s1.n o.dst = true) (hx : s1.ev x = .mrow r off n) (hy : s1.ev y = .i m) (hr : s1.h r = some ⟨e, rows⟩) (hE : s1.e = Env.lim E r c) (hc : c < off + n + m) (hl : off + n ≤ rows.length) (hby : (n + m) * P.bytesOf e ≤ 140737488355328) (h63 : n + m ≤ 4611686018427387904)
  (hk : Zfd P ro ops (k + 1) b { n := s1.n, t := s1.put o.dst (.mrow (b + k) 0 (n + m)), h := upd s1.h (b + k) (some ⟨e, (rows.drop off).take n ++ List.replicate m (zeroCells P e)⟩), nx := s1.nx, ok := True, e := s1.e } Q) : Zfd P ro ops i b s Q := by
 refine Zvd (C := C) k (fun d h' => d = .mrow (b + k) 0 (n + m) ∧ h' = upd s1.h (b + k) (some ⟨e, (rows.drop off).take n ++ List.replicate m (zeroCells P e)⟩)) hik ho hg (fun c e => by rw [hop] at e; cases e) he hok hd (fun B g a w hst hbk => ?_) (fun d h' ⟨hy, hh⟩ => by subst hy; subst hh; exact hk)
 have hv := Zgb hst x
 rw [hx] at hv
 have hvy := Zgb hst y
 rw [hy] at hvy
 have hvy := hvy.v_inv
 have hen := hst.en
 rw [hE] at hen
 obtain ⟨v, g', w', q1, q2, q3, q4, q5⟩ := Zsn hst.mem hbk ht hu hr hv hen.2.2 hz h1z hdef hc hl hby h63 o.type
 refine ⟨_, _, ⟨rfl, rfl⟩, v, g', w', .inl ?_, q2, q3, q4, q5⟩
 obtain ⟨od, oo, oty, op, oa, og⟩ := o
 simp only at hop
 subst hop
 simp [Go.BigFrame.execOp_builtin, Go.BigFrame.builtin_append, hvy, q1]
theorem Za5 (k : Nat) {t e : TypeId} {x lo hi mx : Operand} {r len l m : Nat} {rows : List (List D)} (hik : i ≤ k) (ho : ops[k]? = some o) (hg : o.guard = none)
  (hop : o.op = .slice t x (some lo) (some hi) (some mx)) (ht : P.underlying t = some (.slice e))
  (he : Zga P (words P) C ops.toList b i ((ops.toList.drop i).take (k - i)) s = s1) (hok : s1.ok) (hd : Ztb s1.n o.dst = true) (hx : s1.ev x = .mrow r 0 len) (hlo : s1.ev lo = .i l) (hh : s1.ev hi = .i m) (hmx : s1.ev mx = .i len) (hr : s1.h r = some ⟨e, rows⟩) (h1 : l ≤ m) (h2 : m ≤ len)
  (hk : Zfd P ro ops (k + 1) b { n := s1.n, t := s1.put o.dst .junk, h := s1.h, nx := s1.nx, ok := True, e := s1.e } Q) : Zfd P ro ops i b s Q := by
 refine Zvd (C := C) k (fun d h' => d = .junk ∧ h' = s1.h) hik ho hg (fun c e => by rw [hop] at e; cases e) he hok hd (fun B g a w hst _ => ?_) (fun d h' ⟨hy, hh⟩ => by subst hy; subst hh; exact hk)
 have hv := Zgb hst x
 rw [hx] at hv
 have hvl := Zgb hst lo
 rw [hlo] at hvl
 have hvh := Zgb hst hi
 rw [hh] at hvh
 have hvm := Zgb hst mx
 rw [hmx] at hvm
 obtain ⟨blk, c0, p1, p2, p3, p4, p5⟩ := hst.mem.blk r _ hr
 have key : ∃ (ad : Option Addr) (c : Nat), a.eval x = .slice ad len c ∧ len ≤ c := by
  generalize a.eval x = v at hv
  cases hv with | mrow _ _ _ _ hxx hU hvv =>
  obtain ⟨a', c', e1, e2, _⟩ := hxx
  exact ⟨a', c', e1, e2⟩
 obtain ⟨ad, c, k1, k2⟩ := key
 have r3 := Zpb (P := P) (o := some (.i len)) (vo := some (a.eval mx)) (d := 0) (y := c) (w := w) (g := g) hvm rfl (by simp [bnd]) (by simp only [bnd]; omega) (if true then .slice3Acap else .slice3Alen)
 have r2 := Zpb (P := P) (o := some (.i m)) (vo := some (a.eval hi)) (d := 0) (y := (bnd (some (.i len)) 0).toNat) (w := w) (g := g) hvh rfl (by simp [bnd]) (by simp only [bnd]; omega) .slice3B
 have r1 := Zpb (P := P) (o := some (.i l)) (vo := some (a.eval lo)) (d := 0) (y := (bnd (some (.i m)) 0).toNat) (w := w) (g := g) hvl rfl (by simp [bnd]) (by simp only [bnd]; omega) .slice3C
 obtain ⟨v, hrun⟩ : ∃ v, (Instr.sliceAt t (.slice ad len c) (some (a.eval lo)) (some (a.eval hi)) (some (a.eval mx))).run P w = .ok v w := ⟨_, Zve ht p2 (a := ad) (len := len) (Zes (P := P) (len := len) r3 r2 r1)⟩
 refine ⟨_, _, ⟨rfl, rfl⟩, v, g, w, .inl ?_, .junk _, hst.mem, Mono.refl _ _, fun r hr => .inl hr⟩
 obtain ⟨od, oo, oty, op, oa, og⟩ := o
 simp only at hop
 subst hop
 simp [execOp, k1, hrun]
end
end Go.DL
namespace Go.DL
open Go.RowKit
variable {P : Program} {ro : Option Nat} {Q : Exit → S → Prop}
theorem Za6 [Glob P] {fn : Func} {tmps : Array Value} {R : Ending → World → Prop} {n B : Nat} {g : Mem} {u : FrameMode} (hu : u ≠ .run) {ds0 : List Deferred} : ∀ (ds : List Deferred) (w : World), Marks B g ds w →
  (∀ w', w'.drawn = w.drawn → w'.os = w.os → w'.tape = w.tape → w'.output = w.output → w'.heap.size = w.heap.size → (∀ k : Nat, k < B → w'.heap[k]? = w.heap[k]?) → (∀ k : Nat, g.I k → w'.heap[k]? = w.heap[k]?) → (∀ (k : Nat) o, w.heap[k]? = some o → Ybc o → w'.heap[k]? = w.heap[k]?) → LeavesInM Fence.wide n P fn tmps R ds0 u w') →
  LeavesInM Fence.wide n P fn tmps R (ds ++ ds0) u w := by
 intro ds
 induction ds with
 | nil =>
  intro w _ h
  exact h w rfl rfl rfl rfl rfl (fun _ _ => rfl) (fun _ _ => rfl) (fun _ _ _ _ => rfl)
 | cons d ds ih =>
  rintro w ⟨⟨D, h1, h2, h3, h4, h5⟩, h6⟩ h
  refine ⟨hu, .inl ⟨D, w.putObj D (.deferred none), h1, run_takeDeferred h2, ?_⟩⟩
  have hne : ∀ k, k ≠ D → (w.putObj D (.deferred none)).heap[k]? = w.heap[k]? := fun k hk => World.putObj_heap_other hk
  have hms : ∀ ds : List Deferred, (∀ d' ∈ ds, d'.target ≠ .collected D) → Marks B g ds w → Marks B g ds (w.putObj D (.deferred none)) := by
   intro ds
   induction ds with
   | nil => intro _ _; trivial
   | cons e ds ihd =>
    rintro hds ⟨⟨D', k1, k2, k3, k4, k5⟩, k6⟩
    refine ⟨⟨D', k1, ?_, k3, k4, k5⟩, ihd (fun d' hd' => hds d' (by simp [hd'])) k6⟩
    rw [hne D' (fun e' => by subst e'; exact hds e (by simp) k1)]
    exact k2
  refine ih _ (hms ds h3 h6) fun w' e0 e1 e2 e3 e4 e5 e6 e7 => ?_
  refine h w' (by rw [e0]; rfl) (by rw [e1]; rfl) (by rw [e2]; rfl) (by rw [e3]; rfl) (by rw [e4]; simp) (fun k hk => ?_) (fun k hk => ?_) (fun k o hk ho => ?_)
  ·
   rw [e5 k hk, hne k (by omega)]
  ·
   rw [e6 k hk, hne k (fun e => by subst e; exact h5 hk)]
  ·
   have : k ≠ D := fun e' => by subst e'; rw [h2] at hk; cases hk; exact ho
   rw [e7 k o (by rw [hne k this]; exact hk) ho, hne k this]
def XCt (P : Program) [Glob P] (f : FuncId) (args : List D) (h : H) (n : Nat) (R : D → H → Nat → Prop) (X : List PanicEntry → H → Nat → Prop) : Prop :=
 Zea P f = true ∧ ∀ (w : World) (g : Mem) (vs : List Value), HM P h g w → (∀ r, g.U r → r < n) → Reps w g args vs →
  CallsIn Fence.wide 0 P f vs.toArray w fun e w' => ∃ g' h' n', HM P h' g' w' ∧ Mono g g' w w' ∧ (∀ r, g'.U r → r < n') ∧ ((∃ v res, R res h' n' ∧ e = .returned v ∧ Rep w' g' res v) ∨ ∃ c, X c h' n' ∧ e = .panicked c)
theorem XCt.mono [Glob P] {f : FuncId} {args : List D} {h : H} {n : Nat} {R R' : D → H → Nat → Prop} {X X' : List PanicEntry → H → Nat → Prop} (k : XCt P f args h n R X) (i : ∀ d h' n', R d h' n' → R' d h' n') (j : ∀ c h' n', X c h' n' → X' c h' n') : XCt P f args h n R' X' :=
 ⟨k.1, fun w g vs h1 h2 h3 => (k.2 w g vs h1 h2 h3).mono fun _ _ ⟨g', h', n', q4, q5, q6, q⟩ => ⟨g', h', n', q4, q5, q6, q.imp (fun ⟨v, res, a, b⟩ => ⟨v, res, i _ _ _ a, b⟩) fun ⟨c, a, b⟩ => ⟨c, j _ _ _ a, b⟩⟩⟩
section
variable [Glob P] {C : Con} {s s1 : S} {ops : Array Oper} {i b : Nat} {o : Oper}
theorem Zi8 (k : Nat) {x : Operand} {d : D} {t : TypeId} {v : Value} (hik : i ≤ k) (ho : ops[k]? = some o) (hop : o.op = .panic x) (hg : o.guard = none)
  (he : Zga P (words P) C ops.toList b i ((ops.toList.drop i).take (k - i)) s = s1) (hok : s1.ok) (hx : s1.ev x = d) (hv : ∀ (w : World) (g : Mem) u, Rep w g d u → u = .iface t v)
  (hq : Q (.panic [{ v := .iface t v, recovered := false }]) { n := s1.n, t := s1.t, h := s1.h, nx := b + k, ok := True, e := s1.e }) : Zfd P ro ops i b s Q := by
 intro B g0 g a w0 w hs hm hU
 have hlt : k < ops.size := (Array.getElem?_eq_some_iff.1 ho).1
 have hr : List.range' i (ops.size - i) = List.range' i (k - i) ++ (k :: List.range' (k + 1) (ops.size - (k + 1))) := by
  have : ops.size - i = (k - i) + ((ops.size - (k + 1)) + 1) := by omega
  rw [this, ← List.range'_append_1, List.range'_succ]
  have e1 : i + (k - i) = k := by omega
  rw [e1]
 rw [hr]
 refine Zsb (C := C) (b := b) (k - i) i s g a w hs hm hU (by omega) (by rw [he]; exact hok) fun g1 a1 w1 hs1 hm1 hU1 => ?_
 rw [he] at hs1
 have hU1 : ∀ r, g1.U r → r < b + k := fun r hr => by have := hU1 r hr; omega
 have hse : s1.e = s.e := by rw [← he]; exact Zze _ _ _ _ _
 rw [wpOpsIn_cons]
 unfold wpOpIn
 rw [ho]
 simp only
 have hw : Region.wanted o (yielded ops a1.tmps) = true := by simp [Region.wanted, hg]
 rw [if_pos hw]
 have hdef : ∀ c, o.op ≠ .defer c := by intro c e; rw [e] at hop; cases hop
 have hsem : o.semAt (Fw ro).round a1.eval = execOp a1.eval o := Oper.semAt_eq _ _ _ hdef
 refine ⟨fun _ _ => trivial, ?_⟩
 rw [hsem]
 have hxr := Zgb hs1 x
 rw [hx] at hxr
 have hxv := hv _ _ _ hxr
 have hrun : (execOp a1.eval o).run P w1 = .halt (.panic (.iface t v)) w1 := by
  simp [execOp, hop, hxv, Instr.panic]
 rw [hrun, Oper.uponIn_panic]
 exact ⟨_, g1, hq, ⟨hs1.sz, hs1.tm, hs1.mem, hs1.df, hs1.en, hs1.bd⟩, by rw [← hse]; exact hm1.toX, hU1, by rw [← hse]⟩
theorem seg_pure (k K : Nat) {f : Operand} {args : Array Operand} {ts : Array TypeId} {fid : FuncId} {first caps xs zs : List D} {res : D} (hik : i ≤ k)
  (ho : ops[k]? = some o) (hop : o.op = .call { callee := .value f, args := args, argTypes := ts }) (hg : o.guard = none)
  (he : Zga P (words P) C ops.toList b i ((ops.toList.drop i).take (k - i)) s = s1) (hok : s1.ok) (hd : Ztb s1.n o.dst = true)
  (hf : s1.ev f = .fn (.func fid) first caps) (hxg : (args.toList.map s1.ev).all sg = true) (hx : (args.toList.map s1.ev).map sd = xs) (hso : ∀ d ∈ first ++ xs ++ caps, Zqa s1.h K d) (hz : (first ++ xs ++ caps).map (fun d => wk (snap s1.h K d)) = zs) (hct : PureCt P fid zs res) (hfl : flat res = true)
  (hk : Zfd P ro ops (k + 1) b { n := s1.n, t := s1.put o.dst res, h := s1.h, nx := s1.nx, ok := True, e := s1.e } Q) : Zfd P ro ops i b s Q := by
 have hrc : RCt P fid (first ++ xs ++ caps) s1.h (b + k) (fun d h' n' => d = res ∧ h' = s1.h ∧ n' = b + k) := by
  obtain ⟨hbd, hnr, hct⟩ := hct
  refine ⟨hbd, fun w g vs hm hU hr => ?_⟩
  have hds : Reps w (liveI g) zs vs := by
   rw [← hz]
   refine ⟨by simpa using hr.1, fun i d x h1 h2 => ?_⟩
   obtain ⟨y, h3, rfl⟩ := Zsd h1
   exact (Zbv hm K y x (Zqd (hr.2 i y x h3 h2)) (hso y (List.mem_of_getElem? h3))).1.wk
  refine (hct w (fun b => g.I b ∨ ∃ r c s, g.M r = some (some b, c, s)) _ (fun b hb => ?_) (hm.gr.later fun b hb => ⟨.inl hb, rfl⟩) hds).mono ?_
  ·
   rcases hb with hb | ⟨r, c, s, hb⟩
   ·
    exact hm.imm b hb
   ·
    exact (Zl4 hm hb).1
  ·
   rintro e w' ⟨v, rfl, hbel, hv⟩
   have mono : Mono g g w w' := ⟨hbel.os, hbel.tape, hbel.output, hbel.size, hbel.drawn, fun _ h => h, fun _ _ => .inl rfl, fun r b c s h => .inl ⟨r, c, s, h⟩, fun _ h => h, fun _ h => .inl h, fun b hb _ => hbel.block b hb⟩
   refine ⟨v, g, res, s1.h, b + k, ⟨rfl, rfl, rfl⟩, rfl, Zwv hv hfl, ⟨hm.dead, fun r bl hr => ?_, hm.inj, hm.used, fun b hb => Nat.lt_of_lt_of_le (hm.imm b hb) hbel.size, hm.gr.later (hm.kept mono)⟩, mono, hU⟩
   obtain ⟨blk, c, h1, h2, h3, h4, h5⟩ := hm.blk r bl hr
   refine ⟨blk, c, h1, h2, h3, h4, ?_⟩
   rcases h5 with h5 | ⟨b, cur, rfl, h6, h7, h8, h9⟩
   ·
    exact .inl h5
   ·
    refine .inr ⟨b, cur, rfl, by rw [hbel.block b (Zl4 hm h1).1]; exact h6, h7, h8, fun i row hi => ⟨(h9 i row hi).1, fun j d hd => ?_⟩⟩
    obtain ⟨u, k3, k4, k5⟩ := (h9 i row hi).2 j d hd
    exact ⟨u, k3, k4, k5.later hm mono⟩
 intro B g0 g a w0 w hs hm hU
 have hlt : k < ops.size := (Array.getElem?_eq_some_iff.1 ho).1
 have hr : List.range' i (ops.size - i) = List.range' i (k - i) ++ (k :: List.range' (k + 1) (ops.size - (k + 1))) := by
  have : ops.size - i = (k - i) + ((ops.size - (k + 1)) + 1) := by omega
  rw [this, ← List.range'_append_1, List.range'_succ]
  have e1 : i + (k - i) = k := by omega
  rw [e1]
 rw [hr]
 refine Zsb (C := C) (b := b) (k - i) i s g a w hs hm hU (by omega) (by rw [he]; exact hok) fun g1 a1 w1 hs1 hm1 hU1 => ?_
 rw [he] at hs1
 have hU1 : ∀ r, g1.U r → r < b + k := fun r hr => by have := hU1 r hr; omega
 have hse : s1.e = s.e := by rw [← he]; exact Zze _ _ _ _ _
 rw [wpOpsIn_cons]
 unfold wpOpIn
 rw [ho]
 simp only
 have hw : Region.wanted o (yielded ops a1.tmps) = true := by simp [Region.wanted, hg]
 rw [if_pos hw]
 have hdef : ∀ c, o.op ≠ .defer c := by intro c e; rw [e] at hop; cases hop
 have hsem : o.semAt (Fw ro).round a1.eval = execOp a1.eval o := Oper.semAt_eq _ _ _ hdef
 refine ⟨fun _ _ => trivial, ?_⟩
 rw [hsem]
 obtain ⟨hbd, hct⟩ := hrc
 have hfr := Zgb hs1 f
 rw [hf] at hfr
 have hxr := Zxf (Zxk hs1 args.toList) hxg
 rw [hx] at hxr
 generalize hv : a1.eval f = vf at hfr
 cases hfr with | fn _ _ _ fs cs l1 l2 r1 r2 =>
 have hrun : (execOp a1.eval o).run P w1 = .ok (.enter fid (fs ++ args.map a1.eval ++ cs)) w1 := by
  simp [execOp, hop, resolve, Deferred.ofValue, hv, invoke, Zdd hbd]
 rw [hrun, Oper.uponIn_enter]
 have e : fs ++ args.map a1.eval ++ cs = (fs.toList ++ args.toList.map a1.eval ++ cs.toList).toArray := by apply Array.ext'; simp
 rw [e]
 refine ⟨fun h => by simp [Fw, Fence.wide] at h, Zxh ((hct w1 g1 _ hs1.mem hU1 (Reps.append (Reps.append ⟨by simpa using l1, fun i d x h1 h2 => r1 i d x h1 (by simpa using h2)⟩ hxr) ⟨by simpa using l2, fun i d x h1 h2 => r2 i d x h1 (by simpa using h2)⟩)).mono ?_)⟩
 rintro e w' ⟨v, g', d, h', n', ⟨hd1, rfl, rfl⟩, rfl, q1, q2, q3, q4⟩
 subst hd1
 have hs2 := Zui hs1 q3 q2 hd q1 True
 have := hk B g0 g' (a1.put o.dst v) w0 w' ⟨hs2.sz, hs2.tm, hs2.mem, hs2.df, hs2.en, hs2.bd⟩ (hm1.trans q3) (fun r hr => by have := q4 r hr; omega)
 rw [hse] at this
 exact this
end
def DCt (P : Program) [Glob P] (f : FuncId) (args : List D) (h : H) (n : Nat) (u u' : FrameMode) (R : H → Nat → Prop) : Prop :=
 Zea P f = true ∧ ∀ (w : World) (g : Mem) (vs : List Value), HM P h g w → (∀ r, g.U r → r < n) → Reps w g args vs →
  CallsDIn Fence.wide 0 P f vs.toArray u w fun e u2 w' => ∃ v g' h' n', e = .returned v ∧ u2 = u' ∧ HM P h' g' w' ∧ Mono g g' w w' ∧ (∀ r, g'.U r → r < n') ∧ R h' n'
def DEnd (P : Program) [Glob P] (fn : Func) (fid : FuncId) (caps : List D) (R : D → H → Nat → Prop) (e : Exit) (s : S) : Prop :=
 ∃ u u' Rd, (match e with | .normal | .ret => u = .returning | .panic c => u = .panicking c | _ => False) ∧ settle u' = .returning ∧ DCt P fid caps s.h s.nx u u' Rd ∧
  ∀ h1 n1, Rd h1 n1 → Zfv P { s with h := h1 } fn.results.toList ∧ ∃ h' n', (∀ r, h' r = h1 r ∨ h' r = none) ∧ n1 ≤ n' ∧ R (resD P fn.results.toList { s with h := h1 }) h' n'
theorem Zj6 [Glob P] {C : Con} {B : Bot} {s : S} {g : Mem} {a : Act} {w : World} (hs : St P B s g a w) {b i N : Nat} (hb : ¬ g.U (b + i)) (hN : ∀ r, g.U r → r < N) {ops : Array Oper} {o : Oper} (hi : ops[i]? = some o) (hgn : o.guard = none) (hok : (Zva P (words P) C ops.toList b i o s).ok)
  {ro : Option Nat} {n : Nat} {K : Act → World → Prop} {Q : Exit → Act → World → Prop}
  (hK : ∀ g' a' w', St P B (Zva P (words P) C ops.toList b i o s) g' a' w' → Mono g g' w w' → (∀ r, g'.U r → g.U r ∨ r = b + i) → a'.defers = a.defers → K a' w') : wpOpIn (Fw ro) n P ops Q i K a w := by
 unfold wpOpIn
 rw [hi]
 simp only
 unfold Zva at hok hK
 rw [hgn] at hok hK
 simp only at hok hK
 obtain ⟨_, h2, h3⟩ := hok
 have hw : Region.wanted o (yielded ops a.tmps) = true := by simp [Region.wanted, hgn]
 rw [if_pos hw]
 exact Zmn hs hb hN h3 fun v g' w' h4 h5 h6 h7 => hK g' _ w' (Zui hs h6 h5 h2 h4 _) h6 h7 (by cases o.dst <;> rfl)
theorem Zdo [Glob P] {C : Con} {B : Bot} {ops : Array Oper} {b : Nat} {n : Nat} {Q : Exit → Act → World → Prop} {w0 : World} {g0 : Mem} {rest : List Nat} : ∀ (k i : Nat) (s : S) (g : Mem) (a : Act) (w : World), St P B s g a w → Mono g0 g w0 w → (∀ r, g.U r → r < b + i) →
  i + k ≤ ops.size → (∀ o ∈ (ops.toList.drop i).take k, o.guard = none) → (Zga P (words P) C ops.toList b i ((ops.toList.drop i).take k) s).ok →
  (∀ g' a' w', St P B (Zga P (words P) C ops.toList b i ((ops.toList.drop i).take k) s) g' a' w' → Mono g0 g' w0 w' → (∀ r, g'.U r → r < b + (i + k)) → a'.defers = a.defers → wpOpsIn (Fw ro) n P ops Q rest a' w') →
  wpOpsIn (Fw ro) n P ops Q (List.range' i k ++ rest) a w := by
 intro k
 induction k with
 | zero =>
  intro i s g a w hs hm hU hk _ hok hQ
  exact hQ g a w hs hm hU rfl
 | succ k ih =>
  intro i s g a w hs hm hU hk hgn hok hQ
  have hlt : i < ops.size := by omega
  have hd : (ops.toList.drop i).take (k + 1) = ops[i] :: (ops.toList.drop (i + 1)).take k := by rw [List.drop_eq_getElem_cons (by simpa using hlt)]; simp
  rw [hd] at hok hQ hgn
  simp only [Zga] at hok hQ
  rw [List.range'_succ, List.cons_append, wpOpsIn_cons]
  refine Zj6 hs (b := b) (N := b + i) (fun h => by have := hU _ h; omega) hU (by simp [hlt]) (hgn _ (by simp)) (Zoi hok) fun g' a' w' h1 h2 h3 h4 => ?_
  refine ih (i + 1) _ g' a' w' h1 (hm.trans h2) (fun r hr => by
   rcases h3 r hr with h | h
   ·
    have := hU r h; omega
   ·
    omega) (by omega) (fun o ho => hgn o (by simp [ho])) hok fun g'' a'' w'' q1 q2 q3 q4 => hQ g'' a'' w'' q1 q2 (fun r hr => by have := q3 r hr; omega) (q4.trans h4)
theorem Zrz {F : Fence} {n : Nat} {o : Oper} {a : Act} {next next' : Act → World → Prop} {Q Q' : Exit → Act → World → Prop} (hn : ∀ a w, next a w → next' a w) (hq : ∀ e a w, Q e a w → Q' e a w) (r : Result Next) (h : o.uponIn F n P a next Q r) : o.uponIn F n P a next' Q' r := by
 have hl : LetsOut Q → LetsOut Q' := fun ⟨a, w, h⟩ => ⟨a, w, hq _ _ _ h⟩
 unfold Oper.uponIn at h ⊢
 split at h
 ·
  exact hn _ _ h
 ·
  exact hn _ _ h
 ·
  exact hn _ _ h
 ·
  exact ⟨h.1, h.2.mono fun e w h => by cases e with | returned v => exact hn _ _ h | panicked c => exact hq _ _ _ h | outgrown => exact hl h⟩
 ·
  exact ⟨h.1, h.2.mono fun v w h => hn _ _ h⟩
 ·
  exact ⟨h.1, h.2.mono fun e w h => by cases e with | returned v => exact hn _ _ h | panicked c => exact hq _ _ _ h | outgrown => exact hl h⟩
 ·
  exact hq _ _ _ h
 ·
  exact h.elim
theorem Zcf {F : Fence} {n : Nat} {ops : Array Oper} {Q Q' : Exit → Act → World → Prop} (hq : ∀ e a w, Q e a w → Q' e a w) : ∀ (l : List Nat) (a : Act) (w : World), wpOpsIn F n P ops Q l a w → wpOpsIn F n P ops Q' l a w
 | [], a, w, h => hq _ _ _ h
 | i :: l, a, w, h => by
  unfold wpOpsIn at h ⊢
  cases hi : ops[i]? with
  | none => rw [hi] at h; exact Zcf hq l a w h
  | some o =>
   rw [hi] at h
   simp only at h ⊢
   split
   ·
    rename_i hw
    rw [if_pos hw] at h
    exact ⟨h.1, Zrz (fun a w h => Zcf hq l a w h) hq _ h.2⟩
   ·
    rename_i hw
    rw [if_neg hw] at h
    exact ⟨h.1, Zcf hq l _ w h.2⟩
theorem Zr6 [Glob P] {C : Con} {fn : Func} {R : D → H → Nat → Prop} {id : Nat} {ops : Array Oper} {y : Code} (k : Nat) {o : Oper} {fop : Operand} {ts : Array TypeId} {fid : FuncId} {caps : List D} {s0 s1 : S} {g g0 : Mem} {w w0 : World} {a0 : Act}
  (ho : ops[k]? = some o) (hg : o.guard = none) (hop : o.op = .defer { callee := .value fop, args := #[], argTypes := ts }) (hgn : ∀ o ∈ ops.toList.take k, o.guard = none)
  (he : Zga P (words P) C ops.toList s0.nx 0 (ops.toList.take k) { n := s0.n, t := s0.t, h := s0.h, nx := s0.nx + ops.size, e := Env.tt } = s1) (hok : s1.ok) (hd : Ztb s1.n o.dst = true) (hfv : s1.ev fop = .fn (.func fid) [] caps)
  (hw : Zfd P none ops (k + 1) s0.nx { n := s1.n, t := s1.put o.dst .junk, h := s1.h, nx := s1.nx, ok := True, e := s1.e } (thenS (DW P none y (DEnd P fn fid caps R)) (DEnd P fn fid caps R)))
  (hs0 : St P (Bot.of w.heap.size) s0 g0 a0 w0) (hse0 : s0.e = Env.tt) (hm0 : Mono g g0 w w0) (hU0 : ∀ r, g0.U r → r < s0.nx) (hdf0 : a0.defers = []) :
  (Code.seq (.region id ops false) y).wpIn Fence.wide 0 P (bodyPostM Fence.wide 0 P fn (fun e w' => ∃ v g' res h' n', R res h' n' ∧ e = .returned v ∧ Rep w' g' res v ∧ HM P h' g' w' ∧ Mono g g' w w' ∧ ∀ r, g'.U r → r < n')) a0 w0 := by
 refine wpIn_seq (wpIn_region ?_)
 have hs : St P (Bot.of w.heap.size) { n := s0.n, t := s0.t, h := s0.h, nx := s0.nx + ops.size, e := Env.tt } g0 a0 w0 := ⟨hs0.sz, hs0.tm, hs0.mem, hs0.df, trivial, hs0.bd⟩
 have hlt : k < ops.size := (Array.getElem?_eq_some_iff.1 ho).1
 have hrg : List.range ops.size = List.range' 0 k ++ (k :: List.range' (k + 1) (ops.size - (k + 1))) := by
  rw [List.range_eq_range']
  have : ops.size = k + ((ops.size - (k + 1)) + 1) := by omega
  conv => lhs; rw [this]
  rw [← List.range'_append_1, List.range'_succ]
  simp
 rw [hrg]
 have e0 : (ops.toList.drop 0).take k = ops.toList.take k := rfl
 refine Zdo (ro := none) (C := C) (b := s0.nx) k 0 _ g0 _ w0 hs hm0 (fun r hr => by have := hU0 r hr; omega) (by omega) hgn (by rw [e0]; exact he ▸ hok) fun g1 a1 w1 hs1 hm1 hU1 hdf => ?_
 rw [e0] at hs1
 have hs1 : St P (Bot.of w.heap.size) s1 g1 a1 w1 := he ▸ hs1
 have hdf : a1.defers = [] := hdf.trans hdf0
 have hse : s1.e = Env.tt := by rw [← he]; exact Zze _ _ _ _ _
 rw [wpOpsIn_cons]
 unfold wpOpIn
 rw [ho]
 simp only
 have hwt : Region.wanted o (yielded ops a1.tmps) = true := by simp [Region.wanted, hg]
 rw [if_pos hwt]
 refine ⟨fun _ _ => trivial, ?_⟩
 have hfr := Zgb hs1 fop
 rw [hfv] at hfr
 generalize hv : a1.eval fop = vf at hfr
 cases hfr with | fn _ _ _ fs cs l1 l2 r1 r2 =>
 have hfs : fs = #[] := by
  apply Array.eq_empty_of_size_eq_zero
  simpa using l1.symm
 subst hfs
 have hrun : (o.semAt (Fw none).round a1.eval).run P w1 = .ok (.defer { target := .fn (.func fid) cs, args := #[] }) w1 := by
  have : o.semAt (Fw none).round a1.eval = execOp a1.eval o := rfl
  rw [this]
  simp [execOp, hop, resolve, Deferred.ofValue, hv]
 rw [hrun, Oper.uponIn_defer]
 have hcaps : Reps w1 g1 caps cs.toList := ⟨by simpa using l2, fun i d x h1 h2 => r2 i d x h1 (by simpa using h2)⟩
 let B' : Bot := ⟨w.heap.size, [{ target := .fn (.func fid) cs, args := #[] }], fun d hd D => by simp at hd; subst hd; simp⟩
 have hst : St P B' { n := s1.n, t := s1.put o.dst .junk, h := s1.h, nx := s1.nx, ok := True, e := s1.e } g1 ({ a1 with defers := { target := .fn (.func fid) cs, args := #[] } :: a1.defers }.put o.dst undef) w1 := by
  have hb0 : St P B' { n := s1.n, t := s1.t, h := s1.h, nx := s1.nx, ok := True, e := s1.e } g1 { a1 with defers := { target := .fn (.func fid) cs, args := #[] } :: a1.defers } w1 :=
   ⟨hs1.sz, hs1.tm, hs1.mem, by rw [hdf]; exact Dfs.start (B := B'), hs1.en, hs1.bd⟩
  exact Zui hb0 (Mono.refl _ _) hs1.mem hd (.junk undef) True
 have hseg := hw B' g1 g1 _ w1 w1 hst (Mono.refl _ _) (fun r hr => by have := hU1 r hr; omega)
 have hx0 : s1.e.x = none := by rw [hse]; rfl
 have fin : ∀ (e : Exit) (a' : Act) (w' : World) (s' : S) (g' : Mem), DEnd P fn fid caps R e s' → St P B' s' g' a' w' → Mono g1 g' w1 w' → (∀ r, g'.U r → r < s'.nx) → bodyPostM Fence.wide 0 P fn (fun e w' => ∃ v g' res h' n', R res h' n' ∧ e = .returned v ∧ Rep w' g' res v ∧ HM P h' g' w' ∧ Mono g g' w w' ∧ ∀ r, g'.U r → r < n') e a' w' := by
  intro e a' w' s' g' ⟨u, u', Rd, hu, hset, hdc, hfin⟩ hs' hm' hU'
  have hne : u ≠ .run := by
   intro hh
   subst hh
   cases e <;> simp at hu
  have hlast : LeavesInM Fence.wide 0 P fn a'.tmps (fun e w' => ∃ v g' res h' n', R res h' n' ∧ e = .returned v ∧ Rep w' g' res v ∧ HM P h' g' w' ∧ Mono g g' w w' ∧ ∀ r, g'.U r → r < n') a'.defers u w' := by
   obtain ⟨ms, hms, hmk⟩ := hs'.df
   rw [hms]
   refine Za6 (P := P) hne ms w' hmk fun w2 e0 e1 e2 e3 e4 e5 e6 e7 => ?_
   have hs2 := hs'.marks e4 e6 e7
   have hmF : Mono g g' w w' := hm1.trans hm'
   have mono2 : Mono g g' w w2 := by
    refine ⟨by rw [e1, hmF.os], by rw [e2, hmF.tape], by rw [e3, hmF.output], by rw [e4]; exact hmF.size, by rw [e0]; exact hmF.drawn, hmF.U, hmF.M, hmF.new, hmF.I, hmF.inew, fun k hk hne => ?_⟩
    rw [e5 k hk]; exact hmF.same k hk hne
   have hc2 : Reps w2 g' caps cs.toList := (hcaps.later hs1.mem hm').mono (fun b hb => ⟨hb, e6 b hb⟩) (fun _ h => h) (fun _ _ => .inl rfl)
   obtain ⟨hbd2, hcall⟩ := hdc
   have hcall := hcall w2 g' cs.toList hs2.mem hU' hc2
   refine ⟨hne, .inr ⟨fun h => by simp [Fence.wide] at h, .func fid, cs, fid, cs, rfl, by simp [invoke, Zdd hbd2], fun _ _ => trivial, ?_⟩⟩
   have ecs : cs.toList.toArray = cs := by simp
   rw [ecs] at hcall
   refine hcall.mono ?_
   rintro e3 u2 w3 ⟨v, g3, h3, n3, rfl, rfl, q1, q2, q3, q4⟩
   show LeavesInM Fence.wide 0 P fn a'.tmps _ [] (settle u2) w3
   rw [hset]
   obtain ⟨ro, h4, n4, k1, k2, k3⟩ := hfin h3 n3 q4
   have hs3 : St P (Bot.of w.heap.size) { n := s'.n, t := s'.t, h := h3, nx := s'.nx, ok := s'.ok, e := Env.tt } g3 { a' with defers := [] } w3 :=
    ⟨hs2.sz, fun i => (hs2.tm i).later hs2.mem q2, q1, Dfs.start (B := Bot.of w.heap.size), trivial, Nat.le_trans hs2.bd q2.size⟩
   obtain ⟨v3, p1, p2⟩ := Zuf (fn := fn) (s := { n := s'.n, t := s'.t, h := h3, nx := s'.nx, ok := s'.ok, e := s'.e }) hs3 ro
   exact ⟨v3, p1, v3, g3.only h4, _, h4, n4, k3, rfl, p2.only, q1.only k1, (mono2.trans q2).trans only_mono, fun r hr => Nat.lt_of_lt_of_le (q3 r hr) k2⟩
  cases e with
  | normal => simp only at hu; subst hu; exact hlast
  | ret => simp only at hu; subst hu; exact hlast
  | panic c => simp only at hu; subst hu; exact hlast
  | _ => simp at hu
 refine Zcf (F := Fence.wide) ?_ _ _ _ hseg
 rintro e a' w' ⟨s', g', hq, hs', hm', hU', hx'⟩
 rw [hx0] at hm'
 cases e with
 | normal =>
  refine wpIn_mono (F := Fence.wide) (hq B' g' a' w' hs' hU') ?_
  rintro e2 a2 w2 ⟨s2, g2, hq2, hs2, hm2, hU2, hx2⟩
  have hx3 : s'.e.x = none := by rw [hx']; exact hx0
  rw [hx3] at hm2
  exact fin e2 a2 w2 s2 g2 hq2 hs2 (hm'.out.trans hm2.out) hU2
 | exit id => exact fin (.exit id) a' w' s' g' hq hs' hm'.out hU'
 | goto l => exact fin (.goto l) a' w' s' g' hq hs' hm'.out hU'
 | ret => exact fin .ret a' w' s' g' hq hs' hm'.out hU'
 | panic c => exact fin (.panic c) a' w' s' g' hq hs' hm'.out hU'
 | outgrown => exact fin .outgrown a' w' s' g' hq hs' hm'.out hU'
theorem Zro [Glob P] {C : Con} {f : FuncId} {fn : Func} {args : List D} {h : H} {n : Nat} {R : D → H → Nat → Prop} {id0 : Nat} {ops0 : Array Oper} {id : Nat} {ops : Array Oper} {y : Code} (k : Nat) {o : Oper} {fop : Operand} {ts : Array TypeId} {fid : FuncId} {caps : List D} {s0 s1 : S}
  (hf : P.funcs[f]? = some fn) (hb : fn.body = some (.seq (.region id0 ops0 false) (.seq (.region id ops false) y))) (hbd : Zea P f = true) (hn : args.length ≤ fn.ntmps)
  (hgn0 : ∀ o ∈ ops0.toList, o.guard = none) (he0 : Zga P (words P) C ops0.toList n 0 ops0.toList { n := fn.ntmps, t := fun i => args.getD i .junk, h := h, nx := n + ops0.size, e := Env.tt } = s0) (hok0 : s0.ok)
  (ho : ops[k]? = some o) (hg : o.guard = none) (hop : o.op = .defer { callee := .value fop, args := #[], argTypes := ts }) (hgn : ∀ o ∈ ops.toList.take k, o.guard = none)
  (he : Zga P (words P) C ops.toList (n + ops0.size) 0 (ops.toList.take k) { n := s0.n, t := s0.t, h := s0.h, nx := n + ops0.size + ops.size, e := Env.tt } = s1) (hok : s1.ok) (hd : Ztb s1.n o.dst = true) (hfv : s1.ev fop = .fn (.func fid) [] caps)
  (hw : (∀ r, n ≤ r → h r = none) → Zfd P none ops (k + 1) (n + ops0.size) { n := s1.n, t := s1.put o.dst .junk, h := s1.h, nx := s1.nx, ok := True, e := s1.e } (thenS (DW P none y (DEnd P fn fid caps R)) (DEnd P fn fid caps R))) : RCt P f args h n R := by
 refine ⟨hbd, fun w g vs hm hU hr => ?_⟩
 refine callsIn_of_wp_marks (n := 0) hf hb trivial (wpIn_seq (wpIn_region ?_))
 have hs := Zjr (P := P) (n := fn.ntmps) hr hn hm (nx := n + ops0.size)
 have hrg : List.range ops0.size = List.range' 0 ops0.size ++ [] := by rw [List.append_nil, List.range_eq_range']
 rw [hrg]
 have e0 : (ops0.toList.drop 0).take ops0.size = ops0.toList := by rw [List.drop_zero]; exact List.take_of_length_le (by simp)
 refine Zdo (ro := none) (C := C) (b := n) ops0.size 0 _ g _ w hs (Mono.refl _ _) (fun r hr => by have := hU r hr; omega) (by omega) (by rw [e0]; exact hgn0) (by rw [e0]; exact he0 ▸ hok0) fun g1 a1 w1 hs1 hm1 hU1 hdf => ?_
 rw [e0] at hs1
 have hs1 : St P (Bot.of w.heap.size) s0 g1 a1 w1 := he0 ▸ hs1
 have hnx : s0.nx = n + ops0.size := by rw [← he0]; exact Zpr _ _ _ _ _
 have hse : s0.e = Env.tt := by rw [← he0]; exact Zze _ _ _ _ _
 rw [← hnx] at he hw
 exact Zr6 (C := C) k ho hg hop hgn he hok hd hfv (hw (Zzj hm hU)) hs1 hse hm1 (fun r hr => by rw [hnx]; have := hU1 r hr; omega) hdf
end Go.DL
namespace Go.DL
open Go.RowKit
variable {P : Program} {C : Con} {B : Bot}
structure Pair where
 (j i : Nat) (tx ty : Tmp)
def loadAt (o : Oper) (z : Tmp) : Bool := (match o.op with | .load _ (.tmp t) => t == z | _ => false) && o.guard.isNone
def storeAt (o : Oper) (z : Tmp) : Bool := (match o.op with | .store _ (.tmp t) _ => t == z | _ => false) && o.guard.isNone
def Zlm (L : List Oper) (k : Nat) (z : Tmp) : Bool := (List.range L.length).all fun m => decide (m < k) || (L.getD m default).dst != some z
def Zzn (L : List Oper) (p : Pair) : Bool := loadAt (L.getD p.j default) p.tx && storeAt (L.getD p.i default) p.ty && Zcc L (L.getD p.j default) (L.getD p.i default) && Zlm L p.j p.tx && Zlm L p.i p.ty
def Zut (ps : List Pair) (j i : Nat) : Bool := ps.any fun p => p.j == j && p.i == i
def Zpn (C : Con) (L : List Oper) (ps : List Pair) : Bool :=
 let B := Zrn L []
 L.all (Zcd C) && ps.all (Zzn L) && (List.range L.length).all fun i => (List.range i).all fun j => (B.getD i 0).testBit j || Zut ps j i || Zpe C L (L.getD j default) (L.getD i default)
def Far (a b : D) : Prop := ∀ r, named r (sd b) = true → named r (sd a) = false
theorem Zw0 {o : Oper} {z : Tmp} (h : loadAt o z = true) : reader o = true ∧ Zja o.op = [.tmp z] := by
 simp only [loadAt, Bool.and_eq_true] at h
 obtain ⟨h1, h2⟩ := h
 split at h1
 ·
  rename_i t u e
  have : u = z := by simpa using h1
  subst this
  simp [reader, Ztl, e, h2, Zja]
 ·
  cases h1
theorem Zzi {o : Oper} {z : Tmp} (h : storeAt o z = true) : ∃ t y, o.op = .store t (.tmp z) y ∧ o.guard = none := by
 simp only [storeAt, Bool.and_eq_true, Option.isNone_iff_eq_none] at h
 obtain ⟨h1, h2⟩ := h
 split at h1
 ·
  rename_i t u y e
  have : u = z := by simpa using h1
  subst this
  exact ⟨t, y, e, h2⟩
 ·
  cases h1
theorem Za8 [Glob P] {W : Words} {L : List Oper} {b i : Nat} {o : Oper} {z : Tmp} {s : S} {h : H} (hy : storeAt o z = true) :
  (Zwb P W C L b i o s.n s.ev s.t h).2.1 = h ∨ ∃ r bl, named r (sd (s.t z)) = true ∧ (Zwb P W C L b i o s.n s.ev s.t h).2.1 = upd h r (some bl) := by
 obtain ⟨t, y, e, hg⟩ := Zzi hy
 have e1 : (Zwb P W C L b i o s.n s.ev s.t h).2.1 = (stH P t (sd (s.t z)) (sd (s.ev y)) h).1 := by
  simp only [Zwb, hg, e, Zub, Zxa, Bool.false_eq_true, if_false, eff, Zja, List.map_cons, List.map_nil]
  rfl
 rw [e1]
 generalize sd (s.t z) = a
 cases a with
 | mptr r k off =>
  cases hr : h r with
  | none => left; simp only [stH, hr]
  | some bl => right; exact ⟨r, { bl with rows := bl.rows.set k (splice (bl.rows.getD k []) off (sd (s.ev y)).cells) }, by simp [named], by simp only [stH, hr]⟩
 | _ => left; rfl
theorem Zn1 [Glob P] {W : Words} {L : List Oper} {b i j : Nat} {x y : Oper} {tx ty : Tmp} {s : S} (hs : Zcc L x y = true) (hx : loadAt x tx = true) (hy : storeAt y ty = true) (hf : Far (s.t tx) (s.t ty)) :
  Zva P W C L b i y (Zva P W C L b j x s) = Zva P W C L b j x (Zva P W C L b i y s) := by
 obtain ⟨hr, ha⟩ := Zw0 hx
 refine Zsh hs fun rx ry hx1 hy1 px py e1 e2 => ?_
 have hxs : hx1 = s.h := by
  have := Zfg (P := P) (W := W) (L := L) (b := b) (i := j) (ev := s.ev) (t := s.t) (n := s.n) (h := s.h) (C := C) (o := x) (Zcn hr)
  rw [e1] at this; exact this
 subst hxs
 refine ⟨hy1, e2, ?_⟩
 have hst := Za8 (P := P) (W := W) (C := C) (L := L) (b := b) (i := i) (s := s) (h := s.h) hy
 rw [e2] at hst
 rcases hst with e | ⟨r, bl, hn, e⟩
 ·
  simp only at e
  rw [e, e1]
 ·
  simp only at e
  have e3 := Zbn (P := P) (C := C) (W := W) (L := L) (b := b) (i := j) (ev := s.ev) (t := s.t) (n := s.n) (h := s.h) (bl := bl) (m := r) hr (.inl (by
   intro d hd
   rw [ha] at hd
   simp only [List.map_cons, List.map_nil, List.mem_singleton] at hd
   subst hd
   exact hf r hn))
  rw [e, e3, e1]
theorem keep1 [Glob P] {W : Words} {L : List Oper} {b : Nat} {z : Tmp} {s : S} {k : Nat} (h : ∀ o, L[k]? = some o → o.dst ≠ some z) : (Zab P W C L b s k).t z = s.t z := by
 unfold Zab
 cases hk : L[k]? with
 | none => rfl
 | some o =>
  have := h o hk
  simp only
  rw [Zta]
  show S.put s o.dst _ z = s.t z
  cases hd : o.dst with
  | none => rfl
  | some d => exact upd_ne _ _ _ _ fun e => this (by rw [hd, e])
theorem keeps [Glob P] {W : Words} {L : List Oper} {b : Nat} {z : Tmp} : ∀ (l : List Nat) (s : S), (∀ k ∈ l, ∀ o, L[k]? = some o → o.dst ≠ some z) → (l.foldl (Zab P W C L b) s).t z = s.t z
 | [], s, _ => rfl
 | k :: l, s, h => by
  simp only [List.foldl_cons]
  rw [keeps l _ fun m hm => h m (by simp [hm]), keep1 (h k (by simp))]
theorem Zvf {L : List Oper} {k : Nat} {z : Tmp} (h : Zlm L k z = true) {m : Nat} (hm : k ≤ m) : ∀ o, L[m]? = some o → o.dst ≠ some z := by
 intro o ho
 have hl : m < L.length := (List.getElem?_eq_some_iff.1 ho).1
 simp only [Zlm, List.all_eq_true, List.mem_range, Bool.or_eq_true, decide_eq_true_eq, bne_iff_ne] at h
 rcases h m hl with h | h
 ·
  omega
 ·
  simpa only [List.getD, ho, Option.getD_some] using h
theorem Ztk [Glob P] {W : Words} {L : List Oper} {b i : Nat} {y : Oper} {ps : List Pair} (hcp : L.all (Zcd C) = true) (hps : ∀ p ∈ ps, Zzn L p = true) (hi : L[i]? = some y) : ∀ (pre : List Nat) (s : S), (∀ j ∈ pre, j ≠ i ∧ ∀ x, L[j]? = some x → (Zut ps j i = true ∨ Zpe C L x y = true)) →
  (∀ p ∈ ps, p.i = i → ∀ pre1 pre2, pre = pre1 ++ p.j :: pre2 → Far ((pre1.foldl (Zab P W C L b) s).t p.tx) (s.t p.ty)) →
  (reader y = true → ∀ j ∈ pre, ∀ d ∈ (Zja y.op).map s.ev, named (b + j) (sd d) = false) → s.h (b + i) = none → (pre.foldl (Zab P W C L b) s).ok →
  Zab P W C L b (pre.foldl (Zab P W C L b) s) i = pre.foldl (Zab P W C L b) (Zab P W C L b s i)
 | [], s, _, _, _, _, _ => rfl
 | j :: pre, s, h, hf, hr, hh, hok => by
  simp only [List.foldl_cons] at hok ⊢
  have hji := (h j (by simp)).1
  have hok1 := Zah hok
  have hgetY : L.getD i default = y := by simp only [List.getD, hi, Option.getD_some]
  cases hj : L[j]? with
  | none =>
   have e : ∀ u, Zab P W C L b u j = u := fun u => by simp only [Zab, hj]
   rw [e s, e] at *
   refine Ztk hcp hps hi pre s (fun k hk => h k (by simp [hk])) (fun p hp hpi pre1 pre2 hsp => ?_) (fun hry k hk => hr hry k (by simp [hk])) hh hok
   have := hf p hp hpi (j :: pre1) pre2 (by simp [hsp])
   simp only [List.foldl_cons, e] at this
   exact this
  | some x =>
   have hap := (h j (by simp)).2 x hj
   have hgetX : L.getD j default = x := by simp only [List.getD, hj, Option.getD_some]
   have e : ∀ u, Zab P W C L b u j = Zva P W C L b j x u := fun u => by simp only [Zab, hj]
   have e' : ∀ u, Zab P W C L b u i = Zva P W C L b i y u := fun u => by simp only [Zab, hi]
   have hsl : Zcc L x y = true := by
    rcases hap with hap | hap
    ·
     simp only [Zut, List.any_eq_true, Bool.and_eq_true, beq_iff_eq] at hap
     obtain ⟨p, hp, h1, h2⟩ := hap
     have := hps p hp
     simp only [Zzn, Bool.and_eq_true, h1, h2, hgetX, hgetY] at this
     exact this.1.1.2
    ·
     exact Zkc hap
   have hstep : Zab P W C L b (Zab P W C L b s j) i = Zab P W C L b (Zab P W C L b s i) j := by
    rw [e, e, e', e']
    rcases hap with hap | hap
    ·
     simp only [Zut, List.any_eq_true, Bool.and_eq_true, beq_iff_eq] at hap
     obtain ⟨p, hp, h1, h2⟩ := hap
     have hk := hps p hp
     simp only [Zzn, Bool.and_eq_true, h1, h2, hgetX, hgetY] at hk
     exact Zn1 hsl hk.1.1.1.1 hk.1.1.1.2 (hf p hp h2 [] pre (by simp [h1]))
    ·
     refine Zwk hji hap (fun _ hry => hr hry j (by simp)) fun _ _ => ⟨hh, ?_⟩
     rw [e, Zta] at hok1
     exact hok1.2
   rw [← hstep]
   refine Ztk hcp hps hi pre _ (fun k hk => h k (by simp [hk])) (fun p hp hpi pre1 pre2 hsp => ?_) (fun hry k hk => ?_) ?_ hok
   ·
    have h1 := hf p hp hpi (j :: pre1) pre2 (by simp [hsp])
    simp only [List.foldl_cons] at h1
    have hk := hps p hp
    simp only [Zzn, Bool.and_eq_true, hpi, hgetY] at hk
    obtain ⟨t, yy, ho, _⟩ := Zzi hk.1.1.1.2
    have hlk := Zci (P := P) (W := W) (C := C) (L := L) (b := b) (i := j) (s := s) hsl
    rw [ho] at hlk
    simp only [Zja, List.map_cons, List.cons.injEq] at hlk
    have hlk1 : (Zva P W C L b j x s).t p.ty = s.t p.ty := hlk.1
    rw [e] at h1 ⊢
    rw [hlk1]
    exact h1
   ·
    rw [e, Zci hsl]
    exact hr hry k (by simp [hk])
   ·
    rw [e]
    exact Zqi (List.all_eq_true.1 hcp x (List.mem_of_getElem? hj)) (by omega) hh
theorem Zr1 [Glob P] {ops : Array Oper} {b : Nat} {ro : Option Nat} {n : Nat} {Q : Exit → Act → World → Prop} {w0 : World} {g0 : Mem} {fin : S} {ps : List Pair} (hcomm : Zpn C ops.toList ps = true) (hfar : ∀ p ∈ ps, Far (fin.t p.tx) (fin.t p.ty)) :
  ∀ (fuel : Nat) (listed : Array Bool) (s : S) (g : Mem) (a : Act) (w : World), listed.size = ops.size → (todo ops.size listed).length ≤ fuel → (∀ (i : Nat) o, ops.toList[i]? = some o → listed.getD i false = true → ∀ e ∈ o.after.toList, Region.binds .any e = true → listed.getD e.on false = true) →
   (∀ (i : Nat) o, ops.toList[i]? = some o → ∀ e ∈ o.after.toList, Region.binds .any e = true → e.on < i) →
   St P B s g a w → Mono g0 g w0 w → (∀ r, g.U r → r < b ∨ ∃ i, listed.getD i false = true ∧ i < ops.size ∧ r = b + i) → (todo ops.size listed).foldl (Zab P (words P) C ops.toList b) s = fin → fin.ok →
   (∀ g' a' w', St P B fin g' a' w' → Mono g0 g' w0 w' → (∀ r, g'.U r → r < b + ops.size) → Q .normal a' w') →
   wpAnyIn (Fw ro) n P .any ops Q fuel listed a w := by
 have hcp : ops.toList.all (Zcd C) = true := by unfold Zpn at hcomm; simp only [Bool.and_eq_true] at hcomm; exact hcomm.1.1
 have hps : ∀ p ∈ ps, Zzn ops.toList p = true := by unfold Zpn at hcomm; simp only [Bool.and_eq_true, List.all_eq_true] at hcomm; exact hcomm.1.2
 have hcm := hcomm
 unfold Zpn at hcm
 simp only [Bool.and_eq_true] at hcm
 have hcm := hcm.2
 simp only [List.all_eq_true, List.mem_range, Bool.or_eq_true] at hcm
 intro fuel
 induction fuel with
 | zero =>
  intro listed s g a w hsz hfu hX hback hs hm hU hfin hok hQ
  have hnil : todo ops.size listed = [] := List.eq_nil_of_length_eq_zero (by omega)
  rw [hnil] at hfin
  simp only [List.foldl_nil] at hfin
  subst hfin
  refine ⟨?_, hQ g a w hs hm fun r hr => ?_⟩
  ·
   unfold Region.ready
   rw [List.filter_eq_nil_iff]
   intro i hi
   have h1 : i ∉ todo ops.size listed := by rw [hnil]; simp
   simp only [todo, List.mem_filter, hi, true_and, Bool.not_eq_true', Bool.not_eq_false] at h1
   have hil : i < listed.size := by rw [hsz]; simpa using hi
   have h2 : listed.getD i true = true := by simp [Array.getD, hil] at h1 ⊢; exact h1
   simp [h2]
  ·
   rcases hU r hr with h | ⟨i, _, h, rfl⟩ <;> omega
 | succ fuel ih =>
  intro listed s g a w hsz hfu hX hback hs hm hU hfin hok hQ
  refine ⟨fun hrd => ?_, fun i hi => ?_⟩
  ·
   have hnil : todo ops.size listed = [] := by
    rw [todo, List.filter_eq_nil_iff]
    intro i hi
    simp only [Bool.not_eq_true', Bool.not_eq_false]
    have hlt : i < ops.size := by simpa using hi
    have : ∀ k, k < ops.size → listed.getD k false = true := by
     intro k
     induction k using Nat.strongRecOn with
     | _ k ihk =>
      intro hk
      have h0 : k ∉ Region.ready .any ops listed := by rw [hrd]; simp
      unfold Region.ready at h0
      simp only [List.mem_filter, List.mem_range, hk, true_and] at h0
      have hkl : k < listed.size := by omega
      cases hq : listed.getD k false with
      | true => rfl
      | false =>
       exfalso
       apply h0
       have h2 : listed.getD k true = false := by simp [Array.getD, hkl] at hq ⊢; exact hq
       have h3 : ops[k]? = some ops[k] := by simp [hk]
       simp only [h2, Bool.not_false, h3, Option.map_some, Option.getD_some, Bool.true_and]
       rw [Array.all_eq_true]
       intro q hqq
       simp only [Bool.or_eq_true, Bool.not_eq_true']
       cases hb : Region.binds .any (ops[k].after[q]) with
       | false => exact .inl rfl
       | true =>
        have hmem : ops[k].after[q] ∈ ops[k].after.toList := by simp
        have h4 := hback k ops[k] (by simp [hk]) _ hmem hb
        exact .inr (ihk _ h4 (by omega))
    exact this i hlt
   rw [hnil] at hfin
   simp only [List.foldl_nil] at hfin
   subst hfin
   exact hQ g a w hs hm fun r hr => by rcases hU r hr with h | ⟨i, _, h, rfl⟩ <;> omega
  ·
   unfold Region.ready at hi
   simp only [List.mem_filter, List.mem_range, Bool.and_eq_true, Bool.not_eq_true'] at hi
   obtain ⟨hlt, h1, h2⟩ := hi
   have h3 : ops[i]? = some ops[i] := by simp [hlt]
   have h3L : ops.toList[i]? = some ops[i] := by simp [hlt]
   simp only [h3, Option.map_some, Option.getD_some] at h2
   have hil : i < listed.size := by omega
   have h1f : listed.getD i false = false := by simp [Array.getD, hil] at h1 ⊢; exact h1
   have hpred : ∀ e ∈ (ops[i]).after.toList, Region.binds .any e = true → listed.getD e.on false = true := by
    intro e he hb
    rw [Array.all_eq_true] at h2
    obtain ⟨q, hq, rfl⟩ := Array.mem_iff_getElem.1 (Array.mem_toList_iff.1 he)
    have := h2 q hq
    simp only [hb, Bool.not_true, Bool.false_or] at this
    exact this
   have hmem : i ∈ todo ops.size listed := by simp [todo, hlt]; simpa using h1f
   obtain ⟨pre, post, hsplit⟩ := List.append_of_mem hmem
   have hsorted : (todo ops.size listed).Pairwise (· < ·) := List.Pairwise.filter _ List.pairwise_lt_range
   rw [hsplit] at hsorted
   have hpre : ∀ j ∈ pre, j < i := fun j hj => (List.pairwise_append.1 hsorted).2.2 j hj i (by simp)
   have hpost : ∀ j ∈ post, i < j := fun j hj => (List.pairwise_cons.1 (List.pairwise_append.1 hsorted).2.1).1 j hj
   have hap : ∀ j ∈ pre, j ≠ i ∧ ∀ x, ops.toList[j]? = some x → (Zut ps j i = true ∨ Zpe C ops.toList x ops[i] = true) := by
    intro j hj
    have hjl := hpre j hj
    refine ⟨by omega, fun x hx => ?_⟩
    have hjm : j ∈ todo ops.size listed := by rw [hsplit]; simp [hj]
    have hjn : listed.getD j false = false := by simp only [todo, List.mem_filter, Bool.not_eq_true'] at hjm; exact hjm.2
    have e1 : ops.toList.getD j default = x := by simp only [List.getD, hx, Option.getD_some]
    have e2 : ops.toList.getD i default = ops[i] := by simp only [List.getD, h3L, Option.getD_some]
    rcases hcm i (by simpa using hlt) j hjl with (h | h) | h
    ·
     exfalso
     have := Zde (L := ops.toList) (X := fun k => listed.getD k false = true) hX i _ h3L hpred j h
     rw [hjn] at this; cases this
    ·
     exact .inl h
    ·
     rw [e1, e2] at h; exact .inr h
   have hslot : ∀ j ∈ pre, ∀ x, ops.toList[j]? = some x → Zcc ops.toList x ops[i] = true := by
    intro j hj x hx
    have e1 : ops.toList.getD j default = x := by simp only [List.getD, hx, Option.getD_some]
    have e2 : ops.toList.getD i default = ops[i] := by simp only [List.getD, h3L, Option.getD_some]
    rcases (hap j hj).2 x hx with h | h
    ·
     simp only [Zut, List.any_eq_true, Bool.and_eq_true, beq_iff_eq] at h
     obtain ⟨p, hp, h1, h2⟩ := h
     have := hps p hp
     simp only [Zzn, Bool.and_eq_true, h1, h2, e1, e2] at this
     exact this.1.1.2
    ·
     exact Zkc h
   have hnU : ∀ j, j ∈ todo ops.size listed → ¬ g.U (b + j) := by
    intro j hjm hu
    have hjn : listed.getD j false = false := by simp only [todo, List.mem_filter, Bool.not_eq_true'] at hjm; exact hjm.2
    rcases hU _ hu with h | ⟨k, hk, _, e⟩
    ·
     omega
    ·
     have : k = j := by omega
     subst this; rw [hjn] at hk; cases hk
   have hh0 : s.h (b + i) = none := by
    cases hq : s.h (b + i) with
    | none => rfl
    | some bl =>
     obtain ⟨blk, c', q1, _⟩ := hs.mem.blk _ bl hq
     exact absurd (hs.mem.used _ (by rw [q1]; simp)) (hnU i hmem)
   have hok0 := hok
   rw [← hfin, hsplit, List.foldl_append, List.foldl_cons] at hok0
   have hok1 := Zah hok0
   have hokp : (pre.foldl (Zab P (words P) C ops.toList b) s).ok := by
    unfold Zab at hok1
    rw [h3L] at hok1
    exact Zqm hok1
   have hnam : reader ops[i] = true → ∀ j ∈ pre, ∀ d ∈ (Zja (ops[i]).op).map s.ev, named (b + j) (sd d) = false := by
    intro hr j hj d hd
    have hsg : sg d = true := by
     have e := Zag (P := P) (W := words P) (C := C) (L := ops.toList) (b := b) (y := ops[i]) pre s hslot
     have hrun' : ∀ u, Zab P (words P) C ops.toList b u i = Zva P (words P) C ops.toList b i ops[i] u := fun u => by simp [Zab, hlt]
     rw [hrun', Zta] at hok1
     have h2 := hok1.2
     obtain ⟨r1, r2⟩ := Zzd hr
     simp only [Zwb, r2, Zub, Zdg r1, Bool.false_eq_true, if_false] at h2
     have h4 := h2.2.1 trivial
     rw [show (Zja (ops[i]).op).map (pre.foldl (Zab P (words P) C ops.toList b) s).ev = (Zja (ops[i]).op).map s.ev from e] at h4
     exact List.all_eq_true.1 h4 d hd
    cases hq : named (b + j) (sd d) with
    | false => rfl
    | true =>
     exfalso
     obtain ⟨z, _, rfl⟩ := List.mem_map.1 hd
     exact hnU j (by rw [hsplit]; simp [hj]) (Zrl (Zgb hs z) hsg hq)
   have hfr : ∀ p ∈ ps, p.i = i → ∀ pre1 pre2, pre = pre1 ++ p.j :: pre2 → Far ((pre1.foldl (Zab P (words P) C ops.toList b) s).t p.tx) (s.t p.ty) := by
    intro p hp hpi pre1 pre2 hsp
    have hk := hps p hp
    simp only [Zzn, Bool.and_eq_true] at hk
    have f1 := hfar p hp
    have hpp := (List.pairwise_append.1 hsorted).1
    rw [hsp] at hpp
    have hpp2 := (List.pairwise_cons.1 (List.pairwise_append.1 hpp).2.1).1
    have g1 : fin.t p.tx = (pre1.foldl (Zab P (words P) C ops.toList b) s).t p.tx := by
     rw [← hfin, hsplit, hsp, List.append_assoc, List.foldl_append]
     refine keeps _ _ fun k hkm => Zvf hk.1.2 ?_
     have hjp : p.j < i := hpre p.j (by rw [hsp]; simp)
     simp only [List.cons_append, List.mem_cons, List.mem_append] at hkm
     rcases hkm with h | h | h | h
     ·
      omega
     ·
      have := hpp2 k h; omega
     ·
      omega
     ·
      have := hpost k h; omega
    have g2 : fin.t p.ty = s.t p.ty := by
     rw [← hfin, hsplit, List.foldl_append]
     refine (keeps (i :: post) _ fun k hkm => Zvf hk.2 ?_).trans ?_
     ·
      rcases List.mem_cons.1 hkm with h | h
      ·
       omega
      ·
       have := hpost k h; omega
     ·
      have e := Zag (P := P) (W := words P) (C := C) (L := ops.toList) (b := b) (y := ops[i]) pre s hslot
      have e2 : ops.toList.getD p.i default = ops[i] := by rw [hpi]; simp only [List.getD, h3L, Option.getD_some]
      obtain ⟨t, yy, ho, _⟩ := Zzi hk.1.1.1.2
      rw [e2] at ho
      rw [ho] at e
      simp only [Zja, List.map_cons, List.cons.injEq] at e
      exact e.1
    rw [← g1, ← g2]
    exact f1
   have hfin' : (pre ++ post).foldl (Zab P (words P) C ops.toList b) (Zab P (words P) C ops.toList b s i) = fin := by
    rw [← hfin, hsplit, List.foldl_append, List.foldl_append, List.foldl_cons, Ztk hcp hps h3L pre s hap hfr hnam hh0 hokp]
   have hrun : Zab P (words P) C ops.toList b s i = Zva P (words P) C ops.toList b i ops[i] s := by simp [Zab, hlt]
   rw [hrun] at hfin'
   have hset : ∀ k, (listed.setIfInBounds i true).getD k false = (listed.getD k false || k == i) := by
    intro k
    by_cases e : k = i
    ·
     subst e; simp [Array.getD, hil]
    ·
     rw [getD_set_ne false (Ne.symm e)]
     have : (k == i) = false := by simpa using e
     rw [this, Bool.or_false]
   have htodo : todo ops.size (listed.setIfInBounds i true) = pre ++ post := by
    have e1 : todo ops.size (listed.setIfInBounds i true) = (todo ops.size listed).filter (· != i) := by
     unfold todo
     rw [List.filter_filter]
     refine List.filter_congr fun k _ => ?_
     rw [hset k]
     by_cases e : k = i
     ·
      simp [e]
     ·
      have e2 : (k == i) = false := by simpa using e
      have e3 : (k != i) = true := by simpa using e
      rw [e2, e3, Bool.or_false, Bool.true_and]
    rw [e1, hsplit, List.filter_append, List.filter_cons]
    have p1 : pre.filter (· != i) = pre := List.filter_eq_self.2 fun j hj => by have := hpre j hj; simp; omega
    have p2 : post.filter (· != i) = post := List.filter_eq_self.2 fun j hj => by have := hpost j hj; simp; omega
    simp [p1, p2]
   refine Zae hs (b := b) (N := b + ops.size) (fun h => ?_) (fun r hr => ?_) h3 (Zah (by rw [hfin']; exact hok)) fun g' a' w' q1 q2 q3 => ?_
   ·
    rcases hU _ h with h | ⟨k, hk, _, e⟩
    ·
     omega
    ·
     have : k = i := by omega
     subst this; rw [h1f] at hk; cases hk
   ·
    rcases hU r hr with h | ⟨k, _, h, rfl⟩ <;> omega
   ·
    refine ih (listed.setIfInBounds i true) _ g' a' w' (by simp [hsz]) (by rw [htodo]; have := congrArg List.length hsplit; simp at this; simp; omega) (fun k o hk hkl e he hb => ?_) hback q1 (hm.trans q2) (fun r hr => ?_) (by rw [htodo]; exact hfin') hok hQ
    ·
     rw [hset] at hkl ⊢
     simp only [Bool.or_eq_true, beq_iff_eq] at hkl ⊢
     rcases hkl with hkl | rfl
     ·
      exact .inl (hX k o hk hkl e he hb)
     ·
      rw [h3L] at hk; cases hk
      exact .inl (hpred e he hb)
    ·
     rcases q3 r hr with h | rfl
     ·
      rcases hU r h with h | ⟨k, hk, hks, rfl⟩
      ·
       exact .inl h
      ·
       exact .inr ⟨k, by rw [hset, hk]; rfl, hks, rfl⟩
     ·
      exact .inr ⟨i, by rw [hset]; simp, hlt, rfl⟩
theorem Zm6 [Glob P] {ro : Option Nat} {Q : Exit → S → Prop} {s : S} {id : Nat} {ops : Array Oper} (ps : List Pair) (hd : P.follows .mixedOrders = true ∧ Zpn C ops.toList ps = true ∧ Zte ops.toList = true)
  (hfar : ∀ p ∈ ps, Far ((exec P (words P) C ops.toList s).t p.tx) ((exec P (words P) C ops.toList s).t p.ty))
  (hok : (exec P (words P) C ops.toList s).ok) (hq : Q .normal (exec P (words P) C ops.toList s).clear) : DW P ro (.region id ops true) Q s := by
 intro B g a w hs hU
 have hs0 : St P B (s.begin ops.toList.length) g a w := ⟨hs.sz, hs.tm, hs.mem, hs.df, hs.en, hs.bd⟩
 have hnx : ∀ (l : List Nat) (u : S), (l.foldl (Zab P (words P) C ops.toList s.nx) u).nx = u.nx := by
  intro l
  induction l with
  | nil => intro u; rfl
  | cons i l ih =>
   intro u
   simp only [List.foldl_cons]
   rw [ih]
   unfold Zab
   split
   ·
    exact exec1_n.2
   ·
    rfl
 have hfold := Zpi (P := P) (W := words P) (C := C) (L := ops.toList) (b := s.nx) ops.toList.length 0 (s.begin ops.toList.length) (by omega)
 simp only [List.drop_zero] at hfold
 have hfin : exec P (words P) C ops.toList s = (List.range' 0 ops.toList.length).foldl (Zab P (words P) C ops.toList s.nx) (s.begin ops.toList.length) := hfold
 have hnxf : (exec P (words P) C ops.toList s).nx = s.nx + ops.size := by rw [hfin, hnx]; simp [S.begin]
 have hex : ∀ (l : List Nat) (u : S), (l.foldl (Zab P (words P) C ops.toList s.nx) u).e = u.e := by
  intro l
  induction l with
  | nil => intro u; rfl
  | cons i l ih =>
   intro u
   simp only [List.foldl_cons]
   rw [ih]
   unfold Zab
   split
   ·
    unfold Zva; split <;> rfl
   ·
    rfl
 have hef : (exec P (words P) C ops.toList s).clear.e.x = s.e.x := by show (exec P (words P) C ops.toList s).e.x = s.e.x; rw [hfin, hex]; rfl
 have fin : ∀ g' a' w', St P B (exec P (words P) C ops.toList s) g' a' w' → Mono g g' w w' → (∀ r, g'.U r → r < s.nx + ops.size) → ∃ s' g'', Q .normal s' ∧ St P B s' g'' a' w' ∧ MonoX s.e.x g g'' w w' ∧ (∀ r, g''.U r → r < s'.nx) ∧ s'.e.x = s.e.x :=
  fun g' a' w' h1 h2 h3 => ⟨_, g', hq, h1.clear, h2.toX, fun r hr => by show r < (exec P (words P) C ops.toList s).nx; rw [hnxf]; exact h3 r hr, hef⟩
 obtain ⟨h1, h2, h3⟩ := hd
 refine wpIn_region_any h1 ?_
 obtain ⟨hs1, hm1⟩ := Zsr hs0
 have hrep : ∀ i, (Array.replicate ops.size false).getD i false = false := by
  intro i
  by_cases h : i < ops.size <;> simp [Array.getD, h]
 have htodo : todo ops.size (Array.replicate ops.size false) = List.range' 0 ops.toList.length := by
  unfold todo
  rw [List.filter_eq_self.2 (fun i _ => by rw [hrep]; rfl), List.range_eq_range']
  simp
 refine Zr1 (C := C) (B := B) (b := s.nx) (fin := exec P (words P) C ops.toList s) h2 hfar ops.size _ (s.begin ops.toList.length) g a _ (by simp) (by rw [htodo]; simp) (fun i o _ hi => by rw [hrep] at hi; cases hi) (fun i o ho e he hb => ?_) hs1 hm1 (fun r hr => .inl (hU r hr)) (by rw [htodo, hfin]) hok fin
 unfold Zte at h3
 simp only [List.all_eq_true, List.mem_range, Bool.or_eq_true, Bool.not_eq_true', decide_eq_true_eq] at h3
 have hil : i < ops.toList.length := (List.getElem?_eq_some_iff.1 ho).1
 have ho' : ops.toList.getD i default = o := by simp only [List.getD, ho, Option.getD_some]
 have := h3 i hil e (by rw [ho']; exact he)
 rcases this with h | h
 ·
  rw [hb] at h; cases h
 ·
  exact h
theorem dw_reg3 [Glob P] {ro : Option Nat} {Q : Exit → S → Prop} {s : S} {n nx : Nat} {t : Nat → D} {h : H} {ok : Prop} {e : Env} {id : Nat} {ops : Array Oper} (ps : List Pair) (he : exec P (words P) C ops.toList s = ⟨n, t, h, nx, ok, e⟩)
  (hd : P.follows .mixedOrders = true ∧ Zpn C ops.toList ps = true ∧ Zte ops.toList = true) (hfar : ∀ p ∈ ps, Far (t p.tx) (t p.ty)) (hok : ok) (hq : Q .normal ⟨n, t, h, nx, True, e⟩) : DW P ro (.region id ops true) Q s :=
 Zm6 (C := C) ps hd (by rw [he]; exact hfar) (by rw [he]; exact hok) (by rw [he]; exact hq)
end Go.DL
